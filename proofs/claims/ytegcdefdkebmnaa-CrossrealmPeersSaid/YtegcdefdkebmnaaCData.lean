/- Contracts of kerbsuitedata.Long and kerbsuitedata.Cross. -/
import Derived.Test.YtegcdefdkebmnaaSource
import Derived.Test.YtegcdefdkebmnaaCAdd
import Derived.Test.YtegcdefdkebmnaaData
namespace Go.Proofs.Ytegcdefdkebmnaa
open Go.RowKit

theorem realmB_eq' (s : ByteArray) : realmB s = (!decide (s.size = 0) && instB s) := by
  have : s.toList.isEmpty = decide (s.size = 0) := by
    rw [ByteArray.toList_eq]
    obtain ⟨⟨l⟩⟩ := s
    cases l <;> simp [ByteArray.size]
  rw [realmB, this]
theorem realmB_realmS (n : Int) : realmB (realmS n) = true := by
  rw [realmB_eq']
  unfold realmS
  split
  · decide +kernel
  · split <;> decide +kernel
def goodCk (m : Ck) : Prop := m.ok ∧ realmB m.fr = true ∧ realmB m.to = true ∧ 0 ≤ m.kv ∧ m.kv ≤ 255 ∧ valB m.ky = true
theorem valB_long (d : Int) (h0 : 0 ≤ d) (h1 : d ≤ 1000) : valB (72057594037927936 + (1 + d)) = true := by
  have e1 : (72057594037927936 + (1 + d)) / 72057594037927936 = 1 := by omega
  have e2 : (72057594037927936 + (1 + d)) % 72057594037927936 = 1 + d := by omega
  unfold valB
  rw [e1, e2]
  have : serB (1 + d) = true := serB_mk (by omega) (by omega)
  rw [this]
  decide +kernel
theorem good_mk (y1 y2 y3 y4 : Int) (h0 : 0 ≤ y3) (h1 : y3 < 4) (h2 : 0 ≤ y4) (h3 : y4 < 9) : goodCk ⟨realmS y1, realmS y2, y3, 72057594037927936 + (1 + (100 + y4))⟩ :=
  ⟨⟨realmS_size _, realmS_size _, by simp only; omega, by simp only; omega⟩, realmB_realmS _, realmB_realmS _, h0, by simp only; omega, valB_long _ (by omega) (by omega)⟩
set_option maxHeartbeats 400000 in
theorem long_key (n : Int) (w : World) (h0 : 0 ≤ n) (h1 : n ≤ 1000) :
    Calls Try.prog 46 #[.int .i64 n] w fun e w' => e = .returned (.int .u64 (72057594037927936 + (1 + n))) ∧ w = w' := by
  have HJ := Lib.hid (or_join 72057594037927936 (1 + n) (by omega) (by omega) (by omega) (by omega) (by omega))
  have HW : Hid (IntKind.u64.wrap (1 + n) = 1 + n) := Lib.hid (wraps_u64 _ (by omega) (by omega))
  have w1 := HW.out
  go_enter Try.func46, Try.ntmps46
  go_wp2
  go_ret
  exact ⟨ret_int (by first | exact HJ.out | (rw [HW.out]; exact HJ.out)), rfl⟩

theorem good_snoc {ms : List Ck} {x : Ck} (h : ∀ m ∈ ms, goodCk m) (hx : goodCk x) : ∀ m ∈ ms ++ [x], goodCk m := by
  intro m hm
  rcases List.mem_append.1 hm with h1 | h1
  · exact h m h1
  · rw [List.mem_singleton.1 h1]; exact hx
def CrossPost (w : World) (e : Ending) (w' : World) : Prop :=
  ∃ (ms : List Ck) (v : Value), e = .returned v ∧ ms.length ≤ 25 ∧ (∀ m ∈ ms, goodCk m) ∧ w'.ownsRow (w.heap.size + 1) 54 4 v ms.length (ccells ms) ∧ Below w.heap.size w w' ∧ w.heap.size < w'.heap.size
def lenV : Value → Nat
  | .slice _ n _ => n
  | _ => 0
def CSt (W : World) (a : Option Addr) (len cap : Nat) (zs : List Int) (v : Value) (n : Nat) (ms : List Ck) (X : World) : Prop :=
  X.ownsRow (W.heap.size + 1) 54 4 v n (ccells ms) ∧ (∃ k, SrcAt X W.heap.size a len cap zs k) ∧ Below W.heap.size W X
theorem CSt.lt {W X : World} {a : Option Addr} {len cap : Nat} {zs : List Int} {v : Value} {n : Nat} {ms : List Ck} (h : CSt W a len cap zs v n ms X) : W.heap.size < X.heap.size := by
  obtain ⟨_, ⟨k, h2⟩, _⟩ := h
  exact h2.cells.2.2.2
theorem CSt.below {W X X' : World} {a : Option Addr} {len cap : Nat} {zs : List Int} {v : Value} {n : Nat} {ms : List Ck} (h : CSt W a len cap zs v n ms X) (hb : Below X.heap.size X X') : CSt W a len cap zs v n ms X' := by
  obtain ⟨h1, ⟨k, h2⟩, h3⟩ := h
  exact ⟨ownsRow_below h1 hb, ⟨k, h2.below hb⟩, bthen h3 hb⟩
theorem CSt.next {W X X' : World} {a : Option Addr} {len cap : Nat} {zs : List Int} {v : Value} {n : Nat} {ms : List Ck} {k : Nat} (h : CSt W a len cap zs v n ms X) (hs : SrcAt X' W.heap.size a len cap zs k) (hg : X.grownBy X' (some W.heap.size)) : CSt W a len cap zs v n ms X' := by
  obtain ⟨h1, _, h3⟩ := h
  exact ⟨h1.kept hg (.inr (fun e => by have := (h1.lt _ e).1; omega)), ⟨k, hs⟩, h3.grown hg h3.size (fun q hq => by cases hq; exact Nat.le_refl _)⟩
theorem CSt.more {W X X' : World} {a : Option Addr} {len cap : Nat} {zs : List Int} {v v' : Value} {n : Nat} {ms : List Ck} {m : Ck} (hlt : ∀ x, a = some x → len ≠ 0 → x.block < W.heap.size) (h : CSt W a len cap zs v n ms X) (ho : X'.ownsRow (W.heap.size + 1) 54 4 v' (n + 1) (ccells ms ++ m.cells)) (hg : X.grownBy X' v.ownBlock) : CSt W a len cap zs v' (n + 1) (ms ++ [m]) X' := by
  obtain ⟨h1, ⟨k, h2⟩, h3⟩ := h
  have hlow : ∀ q, v.ownBlock = some q → W.heap.size < q := fun q hq => by have := (h1.lt q hq).1; omega
  exact ⟨by rw [ccells_snoc]; exact ho, ⟨k, h2.grown hg (fun e => by have := hlow _ e.symm; omega) (fun x hx h0 e => by have := hlow _ e.symm; have := hlt x hx h0; omega)⟩, h3.grown hg h3.size (fun q hq => by have := hlow q hq; omega)⟩

set_option maxRecDepth 100000 in
set_option maxHeartbeats 8000000 in
theorem cross_any (a : Option Addr) (len cap : Nat) (zs : List Int) (w : World) (hr : Row .u8 w a len zs) (hz : ∀ m ∈ zs, (Lit.int .u8 m).wf = true) :
    Calls Try.prog 25 #[.slice a len cap] w (CrossPost w) := by
  have HZ := Lib.hid hz
  have HLT := Lib.hid hr.lt
  have H0 : Hid (CSt w a len cap zs (.slice none 0 0) 0 [] (w.alloc (.cells #[.slice a len cap, .int .i64 0] 79))) := Lib.hid ⟨World.ownsRow_nil _ _ _ _, ⟨0, heap_alloc_new _ _, Nat.zero_le _, hr.below (Below.alloc1 _ _), fun x hx h0 e => by have := hr.lt x hx h0; omega⟩, Below.alloc1 _ _⟩
  clear hr hz
  obtain ⟨i0, hi, hz0, hz1, hz2⟩ := info_parts info_el
  have HI0 := Lib.hid (And.intro hi (And.intro hz0 (And.intro hz1 hz2)))
  clear hi hz0 hz1 hz2
  go_enter Try.func25, Try.ntmps25
  go_wp2
  go_loopw [4] (fun v wr => ∃ (n : Nat) (va : Option Addr) (vc : Nat), v = .slice va n vc ∧ n ≤ 25 ∧ n ≤ vc ∧ vc ≤ 9223372036854775807 ∧ Hid (∃ ms, ms.length = n ∧ (∀ m ∈ ms, goodCk m) ∧ CSt w a len cap zs (.slice va n vc) n ms wr)) (fun v _ => 25 - lenV v)
  case atStart => exact ⟨0, none, 0, rfl, by omega, by omega, by omega, Lib.hid ⟨[], rfl, (fun m hm => by cases hm), H0.out⟩⟩
  case round =>
    clear H0
    obtain ⟨n, va, vc, rfl, hn, hv1, hv2, HI⟩ := hrel
    obtain ⟨ms, hml, hgd, hcs⟩ := HI.out
    have HML := Lib.hid hml
    have HGD := Lib.hid hgd
    have HCS := Lib.hid hcs
    clear hml hgd hcs HI
    obtain ⟨k, HK⟩ : ∃ k, Hid (SrcAt wr w.heap.size a len cap zs k) := by obtain ⟨k, h⟩ := HCS.out.2.1; exact ⟨k, Lib.hid h⟩
    go_wp2_with fail
    refine (more_any _ _ _ _ _ k _ HK.out).mono ?_
    rintro e X0 ⟨rfl, hb0⟩
    have HC0 := Lib.hid (HCS.out.below hb0)
    have HS0 := Lib.hid (HK.out.below hb0)
    clear hb0 HCS HK
    by_cases hk : k < len
    · have hk' : decide (k < len) = true := by simpa using hk
      rw [hk']
      by_cases hn25 : n < 25
      · have hn' : decide ((n : Int) < 25) = true := by simp; omega
        go_wp2_with fail
        refine (next_any 3 _ _ _ _ _ k _ HS0.out HZ.out (by omega) (by omega)).mono ?_
        rintro e X1 ⟨y1, k1, rfl, a1, a2, hs1, hg1⟩
        have HC1 := Lib.hid (HC0.out.next hs1 hg1)
        have HS1 := Lib.hid hs1
        clear hs1 hg1 HC0 HS0
        go_wp2_with fail
        refine (realm_any y1 _ (by omega) (by omega)).mono ?_
        rintro e X2 ⟨rfl, hb2⟩
        have HC2 := Lib.hid (HC1.out.below hb2)
        have HS2 := Lib.hid (HS1.out.below hb2)
        clear hb2 HC1 HS1
        go_wp2_with fail
        refine (next_any 3 _ _ _ _ _ k1 _ HS2.out HZ.out (by omega) (by omega)).mono ?_
        rintro e X3 ⟨y2, k2, rfl, b1, b2, hs3, hg3⟩
        have HC3 := Lib.hid (HC2.out.next hs3 hg3)
        have HS3 := Lib.hid hs3
        clear hs3 hg3 HC2 HS2
        go_wp2_with fail
        refine (realm_any y2 _ (by omega) (by omega)).mono ?_
        rintro e X4 ⟨rfl, hb4⟩
        have HC4 := Lib.hid (HC3.out.below hb4)
        have HS4 := Lib.hid (HS3.out.below hb4)
        clear hb4 HC3 HS3
        go_wp2_with fail
        refine (next_any 4 _ _ _ _ _ k2 _ HS4.out HZ.out (by omega) (by omega)).mono ?_
        rintro e X5 ⟨y3, k3, rfl, c1, c2, hs5, hg5⟩
        have HC5 := Lib.hid (HC4.out.next hs5 hg5)
        have HS5 := Lib.hid hs5
        clear hs5 hg5 HC4 HS4
        go_wp2_with fail
        refine (next_any 9 _ _ _ _ _ k3 _ HS5.out HZ.out (by omega) (by omega)).mono ?_
        rintro e X6 ⟨y4, k4, rfl, d1, d2, hs6, hg6⟩
        have HC6 := Lib.hid (HC5.out.next hs6 hg6)
        clear hs6 hg6 HC5 HS5
        go_wp2_with fail
        refine (long_key (100 + y4) _ (by omega) (by omega)).mono ?_
        rintro e X7 ⟨rfl, rfl⟩
        have HGN := Lib.hid (good_mk y1 y2 y3 y4 c1 c2 d1 d2)
        generalize realmS y1 = r1 at *
        generalize realmS y2 = r2 at *
        generalize 72057594037927936 + (1 + (100 + y4)) = ky at *
        have HCA := Lib.hid (HC6.out.below (Below.alloc1 X6 (.cells #[.string r1, .string r2, .int .i64 y3, .int .u64 ky] 54)))
        have HSR := Lib.hid (Src.cells4 X6 54 (.string r1) (.string r2) (.int .i64 y3) (.int .u64 ky))
        clear HC6
        go_wp2_with (at_builtin; refine wpList_append_src _ rfl _ _ 49 rfl (w.heap.size + 1) 54 i0 (.agg #[.string ⟨#[]⟩, .string ⟨#[]⟩, .int .i64 0, .int .u64 0]) 4 48 Try.underlying49 HI0.out.1 HI0.out.2.1 HI0.out.2.2.1 HI0.out.2.2.2 rfl (by decide) (.slice va n vc) n (ccells ms) rfl HCA.out.1 (some ⟨X6.heap.size, 0, none⟩) 1 1 (Ck.cells ⟨r1, r2, y3, ky⟩) rfl (fun h => (Option.some_ne_none _ h).elim) rfl HSR.out (one_ck _) (by unfold maxLen; omega) (by omega) ?_ ?_; (focus (obtain ⟨k9, h9⟩ := HCA.out.2.1; exact h9.cells.2.2.2)); intro v' w1 hown' hgrow hat)
        obtain ⟨va', vc', rfl, g1, g2⟩ := own_isz hown'
        unfold maxLen at g2
        have HN : Hid (∃ ms, ms.length = n + 1 ∧ (∀ m ∈ ms, goodCk m) ∧ CSt w a len cap zs (.slice va' (n + 1) vc') (n + 1) ms w1) := Lib.hid ⟨ms ++ [⟨r1, r2, y3, ky⟩], by simp [HML.out], good_snoc HGD.out HGN.out, HCA.out.more HLT.out hown' hgrow⟩
        clear hown' hgrow hat
        go_wp2
        go_roundw
        case rel => exact ⟨n + 1, va', vc', rfl, by omega, g1, by omega, HN⟩
        case measure => simp [lenV]; omega
      · have hn' : decide ((n : Int) < 25) = false := by simp; omega
        go_wp2
        go_ret
        exact ⟨ms, _, rfl, by rw [HML.out]; omega, HGD.out, by rw [HML.out]; exact HC0.out.1, HC0.out.2.2, HC0.out.lt⟩
    · have hk' : decide (k < len) = false := by simpa using hk
      rw [hk']
      go_wp2
      go_ret
      exact ⟨ms, _, rfl, by rw [HML.out]; omega, HGD.out, by rw [HML.out]; exact HC0.out.1, HC0.out.2.2, HC0.out.lt⟩
end Go.Proofs.Ytegcdefdkebmnaa
