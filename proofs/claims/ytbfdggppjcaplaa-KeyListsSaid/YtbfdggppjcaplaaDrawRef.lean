/- Contracts of the reference's Has, free and Draw. -/
import Derived.Test.YtbfdggppjcaplaaDraw
import Derived.Test.YtbfdggppjcaplaaKeyRef
namespace Go.Proofs.Ytbfdggppjcaplaa
open Go.RowKit

set_option maxHeartbeats 400000 in
theorem refHas_any (k : Int) (a : Option Addr) (len cap : Nat) (zs : List Int) (w : World) (hr : Row .u64 w a len zs) :
    Calls Try.prog 43 #[.slice a len cap, .int .u64 k] w fun e w' => e = .returned (.bool (decide (k ∈ zs))) ∧ w = w' := by
  have HR := Lib.hid hr
  have hml := hr.2.1
  unfold maxLen at hml
  clear hr
  go_enter Try.func43, Try.ntmps43
  go_wp2
  go_loop [5] (fun i => ∃ j : Nat, j ≤ len ∧ i = .int .i64 j ∧ Hid (k ∉ zs.take j)) (fun i => len - (intOf i).toNat)
  case atStart => exact ⟨0, Nat.zero_le _, rfl, Lib.hid (by simp)⟩
  case round =>
    obtain ⟨j, hj, rfl, HJ⟩ := hrel
    by_cases hlt : j < len
    · obtain ⟨b, off, rfl, hcell⟩ := HR.out.at hlt
      have hmem := Lib.hid (getD_mem zs j (by rw [HR.out.1]; exact hlt))
      have hsn := Lib.hid (take_snoc zs j (by rw [HR.out.1]; exact hlt))
      generalize zs[j]?.getD 0 = x at *
      by_cases hx : x = k
      · subst hx
        have hfin := Lib.hid (show decide (x ∈ zs) = true by simpa using hmem.out)
        go_wp2
        go_ret
        exact ⟨ret_bool hfin.out.symm, rfl⟩
      · have hxb : (x == k) = false := by simpa using hx
        have HX := Lib.hid hx
        clear hx
        go_wp2
        go_round
        case rel => exact ⟨j + 1, by omega, by go_num, Lib.hid (by rw [hsn.out]; simp; exact ⟨HJ.out, fun h => HX.out h.symm⟩)⟩
        case measure => simp [intOf]; omega
    · have hfin := Lib.hid (show decide (k ∈ zs) = false by
        have := HJ.out
        rw [List.take_of_length_le (by rw [HR.out.1]; omega)] at this
        simpa using this)
      go_wp2
      go_ret
      exact ⟨ret_bool hfin.out.symm, rfl⟩

def FreePost (used : List Int) (c n : Int) (w : World) (e : Ending) (w' : World) : Prop :=
  w = w' ∧ ((∃ s, FreeAt used c n s ∧ e = .returned (.int .i64 s)) ∨ (FullFrom used c n ∧ e = .returned (.int .i64 0)))

set_option maxHeartbeats 400000 in
theorem free_any (c n : Int) (a : Option Addr) (len cap : Nat) (zs : List Int) (w : World) (hr : Row .u64 w a len zs) (h1 : 1 ≤ n) (h2 : n ≤ 4294967295) :
    Calls Try.prog 50 #[.slice a len cap, .int .i64 c, .int .i64 n] w (FreePost zs c n w) := by
  have HR := Lib.hid hr
  clear hr
  go_enter Try.func50, Try.ntmps50
  go_wp2
  go_loop [2] (fun i => ∃ s : Int, n ≤ s ∧ s ≤ 4294967296 ∧ i = .int .i64 s ∧ Hid (∀ t, n ≤ t → t < s → mkKey c t ∈ zs)) (fun i => (4294967296 - intOf i).toNat)
  case atStart => exact ⟨n, by omega, by omega, rfl, Lib.hid (fun t h1 h2 => by omega)⟩
  case round =>
    obtain ⟨s, hs1, hs2, rfl, HS⟩ := hrel
    by_cases hm : s ≤ 4294967295
    · cases hin : decide (mkKey c s ∈ zs)
      · have HN := Lib.hid (of_decide_eq_false hin)
        go_wp2_with (first | (go_at_call 15; refine (refMake_any _ _ _).mono ?_; rintro e w' ⟨rfl, rfl⟩) | (go_at_call 43; refine (refHas_any _ _ _ _ zs _ HR.out).mono ?_; rintro e w' ⟨rfl, rfl⟩))
        go_ret
        exact ⟨rfl, .inl ⟨s, ⟨hs1, hm, HN.out, HS.out⟩, rfl⟩⟩
      · have HN := Lib.hid (of_decide_eq_true hin)
        go_wp2_with (first | (go_at_call 15; refine (refMake_any _ _ _).mono ?_; rintro e w' ⟨rfl, rfl⟩) | (go_at_call 43; refine (refHas_any _ _ _ _ zs _ HR.out).mono ?_; rintro e w' ⟨rfl, rfl⟩))
        go_round
        case rel => exact ⟨s + 1, by omega, by omega, rfl, Lib.hid (fun t h1 h2 => if e : t = s then e ▸ HN.out else HS.out t h1 (by omega))⟩
        case measure => simp [intOf]; omega
    · have hmb : decide (s ≤ 4294967295) = false := by simp; omega
      go_wp2
      go_ret
      exact ⟨rfl, .inr ⟨fun t h1 h2 => HS.out t h1 (by omega), rfl⟩⟩

set_option maxHeartbeats 400000 in
theorem refDraw_no (c want : Int) (a : Option Addr) (len cap : Nat) (w : World) (hc : classB c = false) :
    Calls Try.prog 23 #[.slice a len cap, .int .i64 c, .int .i64 want] w fun e w' => e = .returned (.tuple #[.int .u64 0, .bool false]) ∧ w = w' := by
  have h1 := classB_not hc
  obtain ⟨h1, h2⟩ := h1
  have h3 : (c != 1) = true := by simp [bne, h1]
  have h4 : (c != 2) = true := by simp [bne, h2]
  clear h1 h2
  go_enter Try.func23, Try.ntmps23
  go_wp2
  go_ret2
  exact ⟨rfl, rfl⟩

def DrawPostQ (used : List Int) (c want : Int) (w : World) (e : Ending) (w' : World) : Prop :=
  w = w' ∧ ∃ s, Drawn used c want s ∧ e = .returned (.tuple #[.int .u64 (mkKey c s), .bool true])

set_option maxHeartbeats 1000000 in
theorem refDraw_yes (c want : Int) (a : Option Addr) (len cap : Nat) (zs : List Int) (w : World) (hr : Row .u64 w a len zs) (hlen : len < 4294967295) (hc : classB c = true) :
    Calls Try.prog 23 #[.slice a len cap, .int .i64 c, .int .i64 want] w (DrawPostQ zs c want w) := by
  have HR := Lib.hid hr
  have HNF := Lib.hid (not_full (used := zs) hc (by rw [hr.1]; exact hlen))
  clear hr
  have hcc := Lib.hid (classB_cases hc)
  have key : ∀ f : Int, f = firstOf want → 1 ≤ f → f ≤ 4294967295 → ((want < 1 ∨ 4294967295 < want) ∧ f = 1 ∨ (1 ≤ want ∧ want ≤ 4294967295) ∧ f = want) →
      Calls Try.prog 23 #[.slice a len cap, .int .i64 c, .int .i64 want] w (DrawPostQ zs c want w) := by
    intro f hf hf1 hf2 hcase
    have HF := Lib.hid hf
    clear hf
    rcases hcc.out with rfl | rfl
    all_goals
      rcases hcase with ⟨hw | hw, rfl⟩ | ⟨hw, rfl⟩
      all_goals
        go_enter Try.func23, Try.ntmps23
        go_wp2_with fail
        refine (free_any _ _ _ _ _ zs _ HR.out (by omega) (by omega)).mono ?_
        rintro e w' ⟨rfl, ⟨s, hs, rfl⟩ | ⟨hfull, rfl⟩⟩
        · have hs0 : (s == 0) = false := by have := hs.1; simp; omega
          have HS := Lib.hid hs
          clear hs
          go_wp2_with (go_at_call 15; refine (refMake_any _ _ _).mono ?_; rintro e w' ⟨rfl, rfl⟩)
          go_ret2
          exact ⟨rfl, s, .inl (by rw [← HF.out]; exact HS.out), rfl⟩
        · have HU := Lib.hid hfull
          clear hfull
          go_wp2_with fail
          refine (free_any _ _ _ _ _ zs _ HR.out (by omega) (by omega)).mono ?_
          rintro e w' ⟨rfl, ⟨s, hs, rfl⟩ | ⟨hfull, rfl⟩⟩
          · have HS := Lib.hid hs
            clear hs
            go_wp2_with (go_at_call 15; refine (refMake_any _ _ _).mono ?_; rintro e w' ⟨rfl, rfl⟩)
            go_ret2
            exact ⟨rfl, s, .inr ⟨by rw [← HF.out]; exact HU.out, HS.out⟩, rfl⟩
          · exact absurd hfull HNF.out
  refine key (firstOf want) rfl (firstOf_bd want).1 (firstOf_bd want).2 ?_
  unfold firstOf
  cases h : serB want
  · exact .inl ⟨serB_false h, rfl⟩
  · exact .inr ⟨serB_true h, rfl⟩
end Go.Proofs.Ytbfdggppjcaplaa
