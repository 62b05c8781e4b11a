/- Contracts of Long, Session, of kerbsuitelaw4.awake and body. -/
import Derived.Test.YtbfdggppjcaplaaBoxOpen
import Derived.Test.YtbfdggppjcaplaaStr
namespace Go.Proofs.Ytbfdggppjcaplaa
open Go.RowKit

def longOf (n : Int) : Int := 72057594037927936 + (1 + n)
def sessOf (n : Int) : Int := 144115188075855872 + (1 + n)
theorem longOf_val {n : Int} (h0 : 0 ≤ n) (h1 : n ≤ 1000000) : valB (longOf n) = true ∧ 0 ≤ longOf n ∧ longOf n ≤ 18446744073709551615 := by
  unfold longOf valB classB
  have e1 : (72057594037927936 + (1 + n)) / 72057594037927936 = 1 := by omega
  have e2 : (72057594037927936 + (1 + n)) % 72057594037927936 = 1 + n := by omega
  rw [e1, e2, serB_mk (by omega) (by omega)]
  exact ⟨rfl, by omega, by omega⟩
theorem sessOf_val {n : Int} (h0 : 0 ≤ n) (h1 : n ≤ 1000000) : valB (sessOf n) = true ∧ 0 ≤ sessOf n ∧ sessOf n ≤ 18446744073709551615 := by
  unfold sessOf valB classB
  have e1 : (144115188075855872 + (1 + n)) / 72057594037927936 = 2 := by omega
  have e2 : (144115188075855872 + (1 + n)) % 72057594037927936 = 1 + n := by omega
  rw [e1, e2, serB_mk (by omega) (by omega)]
  exact ⟨rfl, by omega, by omega⟩

set_option maxHeartbeats 400000 in
theorem long_any (n : Int) (w : World) (h0 : 0 ≤ n) (h1 : n ≤ 1000000) :
    Calls Try.prog 31 #[.int .i64 n] w fun e w' => e = .returned (.int .u64 (longOf n)) ∧ w = w' := by
  have hj := or_join 72057594037927936 (1 + n) (by omega) (by decide) (by omega) (by omega) (by omega)
  go_enter Try.func31, Try.ntmps31
  go_wp2
  go_ret
  exact ⟨rfl, rfl⟩
set_option maxHeartbeats 400000 in
theorem session_any (n : Int) (w : World) (h0 : 0 ≤ n) (h1 : n ≤ 1000000) :
    Calls Try.prog 34 #[.int .i64 n] w fun e w' => e = .returned (.int .u64 (sessOf n)) ∧ w = w' := by
  have hj := or_join 144115188075855872 (1 + n) (by omega) (by decide) (by omega) (by omega) (by omega)
  go_enter Try.func34, Try.ntmps34
  go_wp2
  go_ret
  exact ⟨rfl, rfl⟩

theorem Row.nil (k : IntKind) (w : World) : Row k w none 0 [] := ⟨rfl, Nat.zero_le _, .inl rfl⟩

set_option maxRecDepth 100000 in
set_option maxHeartbeats 1000000 in
theorem awake4_any (w : World) :
    Calls Try.prog 29 #[] w fun e w' => e = .returned (.bool true) ∧ Below w.heap.size w w' := by
  have m1 := Lib.hid (show makeErr 1 (longOf 1) ([] : List Int).length = 0 ∧ makeOut 1 (longOf 1) [] = [66, 1, 1, 0, 0, 0, 0, 0, 0, 2, 0, 0] by decide)
  have m2 := Lib.hid (show isBox [66, 1, 1, 0, 0, 0, 0, 0, 0, 2, 0, 0] = true by decide)
  have m3 := Lib.hid (show ∀ x ∈ ([66, 1, 1, 0, 0, 0, 0, 0, 0, 2, 0, 0] : List Int), 0 ≤ x ∧ x ≤ 255 by decide)
  have lv := longOf_val (n := 1) (by omega) (by omega)
  go_enter Try.func29, Try.ntmps29
  go_wp2_with fail
  refine (long_any _ _ (by omega) (by omega)).mono ?_
  rintro e w' ⟨rfl, rfl⟩
  go_wp2_with fail
  refine (boxMake_any _ _ _ _ _ [] _ (Row.nil _ _) lv.2.1 lv.2.2 (fun _ => ⟨rfl, rfl⟩)).mono ?_
  rintro e w1 ⟨v, rfl, hown⟩
  rw [m1.out.2] at hown
  rw [m1.out.1]
  obtain ⟨g, cap, hv, h1, h2, h3, h4⟩ := own_form hown (by decide) (by simp [maxLen])
  have HR := Lib.hid h4
  have HB := Lib.hid hown.2
  have hc0 : w1.cell? ⟨g, 0, none⟩ = some (.int .u8 66) := by
    obtain ⟨b, off, e, hc⟩ := h4.at (i := 0) (by decide)
    cases e
    simpa using hc
  rw [hv]
  unfold maxLen at h2
  clear hv h4 hown h3
  go_wp2_with fail
  refine (boxIs_any _ _ _ _ _ HR.out m3.out h1 (by omega)).mono ?_
  rintro e w2 ⟨rfl, hb2⟩
  rw [m2.out]
  have HB2 := Lib.hid hb2
  clear hb2
  go_wp2
  go_ret
  exact ⟨rfl, bthen HB.out HB2.out⟩

def lenV : Value → Nat | .slice _ n _ => n | _ => 0
theorem own_isv' {w : World} {base : Nat} {T : TypeId} {v : Value} {n : Nat} {xs : List Value} (h : w.ownsRow base T 1 v n xs) : ∃ a cap, v = .slice a n cap := by
  rcases h.2 with ⟨h1, h2⟩ | ⟨g, cap, cur, h1, _⟩
  · exact ⟨none, 0, by rw [h2]; exact h1⟩
  · exact ⟨_, cap, h1⟩
def BodyPost (w : World) (e : Ending) (w' : World) : Prop := ∃ v zs, e = .returned v ∧ Own .u8 5 w w' v zs ∧ (∀ x ∈ zs, 0 ≤ x ∧ x ≤ 255) ∧ zs.length ≤ 1001

set_option maxRecDepth 100000 in
set_option maxHeartbeats 1000000 in
theorem body_any (a : Option Addr) (len cap : Nat) (zs : List Int) (s : Int) (w : World) (hr : Row .u8 w a len zs) (hb : ∀ x ∈ zs, 0 ≤ x ∧ x ≤ 255) (hl : len ≤ 900) (hn : a = none → len = 0 ∧ cap = 0) (h0 : 0 ≤ s) (h1 : s ≤ 65535) :
    Calls Try.prog 30 #[.slice a len cap, .int .u16 s] w (BodyPost w) := by
  have HL := Lib.hid hr.1
  have HR := Lib.hid hr
  have HB := Lib.hid hb
  have HN := Lib.hid hn
  clear hr hb hn
  obtain ⟨i0, hi, hz0, hz1, hz2⟩ := info_parts info_u8
  have HI0 := Lib.hid (And.intro hi (And.intro hz0 (And.intro hz1 hz2)))
  clear hi hz0 hz1 hz2
  have H2 : Hid (Owns w 5 (.slice (some ⟨w.heap.size, 0, none⟩) 0 0) 0 [] (w.alloc (.cells #[] 5))) := Lib.hid (own_lit w 5 .u8 [] (by simp))
  cases h7 : ((s % 8) == 7)
  case' false =>
    have h7b : (s % 8 != 7) = true := by simp [bne, h7]
  case' true =>
    have h7b : (s % 8 != 7) = false := by simp [bne, h7]
  all_goals
    go_enter Try.func30, Try.ntmps30
    go_wp2_with (at_builtin; refine wpList_append_src _ rfl (.tmp 6) (.tmp 7) 32 rfl w.heap.size 5 i0 (.int .u8 0) 1 1 Try.underlying32 HI0.out.1 HI0.out.2.1 HI0.out.2.2.1 HI0.out.2.2.2 rfl (by decide) _ 0 _ rfl H2.out.1 a len cap (zs.map (Value.int .u8)) rfl HN.out (by simpa using HL.out) ((Src.of_row HR.out).below H2.out.2) (oneCell_ints _ _) (by unfold maxLen; omega) (by omega) H2.out.2.size ?_)
    intro v1 w1 hown1 hgrow1 hat1
    have H3 : Hid (Owns w 5 v1 len (zs.map (Value.int .u8)) w1) := Lib.hid (by
      have := H2.out.more hown1 hgrow1
      simpa using this)
    clear hown1 hgrow1 hat1
  · have hq : 0 ≤ s / 8 % 3 ∧ s / 8 % 3 ≤ 2 := by omega
    go_wp2
    go_loopw [5] (fun v wr => Hid (∃ L : List Int, Owns w 5 v L.length (L.map (Value.int .u8)) wr ∧ (∀ x ∈ L, 0 ≤ x ∧ x ≤ 255) ∧ L.length ≤ 1001)) (fun v _ => 2000 - lenV v)
    case atStart => exact Lib.hid ⟨zs, by rw [HL.out]; exact H3.out, HB.out, by rw [HL.out]; omega⟩
    case round =>
      clear H3 H2
      obtain ⟨L, hO, hB, hLL⟩ := hrel.out
      obtain ⟨la, lcap, hv, hc1, hc2, hrow, hform⟩ := own_slice hO.1 (by unfold maxLen; omega)
      have HO := Lib.hid hO
      have HBL := Lib.hid hB
      have HV := Lib.hid hv
      clear hrel hO hB hrow hform hc1 hc2
      rw [hv]
      clear hv
      obtain ⟨n, hn⟩ : ∃ n, n = L.length := ⟨_, rfl⟩
      rw [← hn] at hLL ⊢
      have HNL := Lib.hid hn
      clear hn
      by_cases hlt : (n : Int) < 999 + s / 8 % 3
      · have HO2 : Hid (Owns w 5 (.slice la n lcap) n (L.map (Value.int .u8)) wr) := Lib.hid (by
          have h := HO.out
          rw [HV.out, ← HNL.out] at h
          exact h)
        go_wp2_with (at_builtin; refine wpList_append_src _ rfl (.tmp 21) (.tmp 25) 32 rfl w.heap.size 5 i0 (.int .u8 0) 1 1 Try.underlying32 HI0.out.1 HI0.out.2.1 HI0.out.2.2.1 HI0.out.2.2.2 rfl (by decide) _ n _ rfl (HO2.out.alloc _).1 (some ⟨wr.heap.size, 0, none⟩) 1 1 [.int .u8 ((n : Int) % 256)] rfl (fun h => (Option.some_ne_none _ h).elim) rfl (Src.one _ _ _) (oneCell_ints .u8 [_]) (by unfold maxLen; omega) (by omega) (HO2.out.alloc _).2.size ?_)
        intro v1 w1 hown1 hgrow1 hat1
        have H3 : Hid (Owns w 5 v1 (n + 1) ((L ++ [(n : Int) % 256]).map (Value.int .u8)) w1) := Lib.hid (by
          have := (HO2.out.alloc _).more hown1 hgrow1
          rw [List.map_append]
          exact this)
        obtain ⟨va, vc, hv1⟩ := own_isv' hown1
        have HV1 := Lib.hid hv1
        rw [hv1]
        clear hown1 hgrow1 hat1 hv1
        go_wp2
        go_roundw
        case rel => exact Lib.hid ⟨L ++ [(n : Int) % 256], by
          have h := H3.out
          rw [HV1.out] at h
          rw [List.length_append, ← HNL.out]
          exact h, fun x hx => by
            rcases List.mem_append.1 hx with h | h
            · exact HBL.out x h
            · simp only [List.mem_cons, List.not_mem_nil, or_false] at h
              subst h
              omega, by rw [List.length_append, ← HNL.out]; simp; omega⟩
        case measure => simp [lenV]; omega
      · go_wp2
        go_ret
        exact ⟨_, L, rfl, by
          have h := HO.out
          rw [HV.out, ← HNL.out] at h
          rw [Own, ← HNL.out]
          exact h, HBL.out, by rw [← HNL.out]; exact hLL⟩
  · go_wp2
    go_ret
    exact ⟨_, zs, rfl, by rw [Own, HL.out]; exact H3.out, HB.out, by rw [HL.out]; omega⟩
end Go.Proofs.Ytbfdggppjcaplaa
