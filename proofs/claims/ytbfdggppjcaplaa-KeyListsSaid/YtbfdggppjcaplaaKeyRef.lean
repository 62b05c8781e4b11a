/- Contracts of the reference of key: Make, Valid, Class, Serial. -/
import Derived.Test.YtbfdggppjcaplaaKeyMk
namespace Go.Proofs.Ytbfdggppjcaplaa
open Go.RowKit

set_option maxHeartbeats 400000 in
theorem refMake_any (c s : Int) (w : World) :
    Calls Try.prog 15 #[.int .i64 c, .int .i64 s] w fun e w' => e = .returned (.int .u64 (mkKey c s)) ∧ w = w' := by
  cases hc : classB c
  · have hv := Lib.hid (mkKey_noC (s := s) hc)
    have h1 := classB_not hc
    obtain ⟨h1, h2⟩ := h1
    have h3 : (c != 1) = true := by simp [bne, h1]
    have h4 : (c != 2) = true := by simp [bne, h2]
    clear h1 h2
    go_enter Try.func15, Try.ntmps15
    go_wp2
    go_ret
    exact ⟨ret_int hv.out.symm, rfl⟩
  · by_cases hs0 : s < 1
    · have hv := Lib.hid (mkKey_noS (c := c) (serB_mkF (.inl hs0)))
      rcases classB_cases hc with rfl | rfl
      all_goals
        go_enter Try.func15, Try.ntmps15
        go_wp2
        go_ret
        exact ⟨ret_int hv.out.symm, rfl⟩
    · by_cases hs1 : 4294967295 < s
      · have hv := Lib.hid (mkKey_noS (c := c) (serB_mkF (.inr hs1)))
        rcases classB_cases hc with rfl | rfl
        all_goals
          go_enter Try.func15, Try.ntmps15
          go_wp2
          go_ret
          exact ⟨ret_int hv.out.symm, rfl⟩
      · have hv := Lib.hid (mkKey_yes (s := s) hc (serB_mk (by omega) (by omega)))
        have hj := or_join (c * 72057594037927936) s (by rcases classB_cases hc with rfl | rfl <;> omega) (by omega) (by rcases classB_cases hc with rfl | rfl <;> omega) (by omega) (by omega)
        rcases classB_cases hc with rfl | rfl
        all_goals
          have HJ := Lib.hid hj
          clear hj
          go_enter Try.func15, Try.ntmps15
          go_wp2
          go_ret
          exact ⟨ret_int (by rw [hv.out]; exact HJ.out), rfl⟩

set_option maxHeartbeats 400000 in
theorem refValid_any (k : Int) (w : World) (h0 : 0 ≤ k) (h1 : k ≤ 18446744073709551615) :
    Calls Try.prog 19 #[.int .u64 k] w fun e w' => e = .returned (.bool (valB k)) ∧ w = w' := by
  have ha := and_low56 k h0 h1
  cases hk : (k != 0)
  · have hv := Lib.hid (show valB k = false by rw [valB_ref, hk]; rfl)
    go_enter Try.func19, Try.ntmps19
    go_wp2
    go_ret
    exact ⟨ret_bool hv.out.symm, rfl⟩
  · have hv := Lib.hid (show valB k = (mkKey (k / 72057594037927936) (k % 72057594037927936) == k) by rw [valB_ref, hk]; rfl)
    go_enter Try.func19, Try.ntmps19
    go_wp2_with (go_at_call 15; refine (refMake_any _ _ _).mono ?_; rintro e w' ⟨rfl, rfl⟩)
    go_ret
    exact ⟨ret_bool hv.out.symm, rfl⟩

set_option maxHeartbeats 400000 in
theorem refClass_any (k : Int) (w : World) (h0 : 0 ≤ k) (h1 : k ≤ 18446744073709551615) :
    Calls Try.prog 20 #[.int .u64 k] w fun e w' => e = .returned (.int .i64 (clsOf k)) ∧ w = w' := by
  cases hk : valB k
  all_goals
    have HK := Lib.hid hk
    go_enter Try.func20, Try.ntmps20
    go_wp2_with (go_at_call 19; refine (refValid_any _ _ h0 h1).mono ?_; rintro e w' ⟨rfl, rfl⟩)
    go_ret
    exact ⟨ret_int (by simp [clsOf, HK.out]), rfl⟩

set_option maxHeartbeats 400000 in
theorem refSerial_any (k : Int) (w : World) (h0 : 0 ≤ k) (h1 : k ≤ 18446744073709551615) :
    Calls Try.prog 21 #[.int .u64 k] w fun e w' => e = .returned (.int .i64 (serOf k)) ∧ w = w' := by
  have ha := and_low56 k h0 h1
  cases hk : valB k
  all_goals
    have HK := Lib.hid hk
    go_enter Try.func21, Try.ntmps21
    go_wp2_with (go_at_call 19; refine (refValid_any _ _ h0 h1).mono ?_; rintro e w' ⟨rfl, rfl⟩)
    go_ret
    exact ⟨ret_int (by simp [serOf, HK.out]), rfl⟩

end Go.Proofs.Ytbfdggppjcaplaa
