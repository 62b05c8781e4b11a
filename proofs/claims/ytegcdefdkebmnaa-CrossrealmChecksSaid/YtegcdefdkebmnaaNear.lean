/- Contracts of lifetime.Near and of its reference. -/
import Derived.Test.YtegcdefdkebmnaaBase
namespace Go.Proofs.Ytegcdefdkebmnaa
open Go.RowKit

def timeB (n : Int) : Bool := decide (0 ≤ n ∧ n ≤ 4294967295)

theorem timeB_true {n : Int} (h : timeB n = true) : 0 ≤ n ∧ n ≤ 4294967295 := by simpa [timeB] using h

theorem timeB_false {n : Int} (h : timeB n = false) : n < 0 ∨ 4294967295 < n := by simp [timeB] at h; omega

theorem timeB_mk {n : Int} (a : 0 ≤ n) (b : n ≤ 4294967295) : timeB n = true := by simp [timeB]; omega

theorem timeB_mkF {n : Int} (a : n < 0 ∨ 4294967295 < n) : timeB n = false := by simp [timeB]; omega

set_option maxHeartbeats 400000 in
theorem isTime_any (n : Int) (w : World) :
    Calls Try.prog 61 #[.int .i64 n] w fun e w' => e = .returned (.bool (timeB n)) ∧ w = w' := by
  by_cases h0 : 0 ≤ n
  · by_cases h1 : n ≤ 4294967295
    · go_enter Try.func61, Try.ntmps61
      go_wp2
      go_ret
      exact ⟨ret_bool (timeB_mk h0 h1).symm, rfl⟩
    · go_enter Try.func61, Try.ntmps61
      go_wp2
      go_ret
      exact ⟨ret_bool (timeB_mkF (by omega)).symm, rfl⟩
  · go_enter Try.func61, Try.ntmps61
    go_wp2
    go_ret
    exact ⟨ret_bool (timeB_mkF (by omega)).symm, rfl⟩

set_option maxHeartbeats 400000 in
theorem time_any (n : Int) (w : World) :
    Calls Try.prog 62 #[.int .i64 n] w fun e w' => e = .returned (.bool (timeB n)) ∧ w = w' := by
  by_cases h0 : 0 ≤ n
  · by_cases h1 : n ≤ 4294967295
    · go_enter Try.func62, Try.ntmps62
      go_wp2
      go_ret
      exact ⟨ret_bool (timeB_mk h0 h1).symm, rfl⟩
    · go_enter Try.func62, Try.ntmps62
      go_wp2
      go_ret
      exact ⟨ret_bool (timeB_mkF (by omega)).symm, rfl⟩
  · go_enter Try.func62, Try.ntmps62
    go_wp2
    go_ret
    exact ⟨ret_bool (timeB_mkF (by omega)).symm, rfl⟩

def nearB (a b s : Int) : Bool := timeB a && timeB b && timeB s && decide (a - b ≤ s) && decide (b - a ≤ s)

set_option maxHeartbeats 400000 in
theorem near_any (a b s : Int) (w : World) :
    Calls Try.prog 44 #[.int .i64 a, .int .i64 b, .int .i64 s] w fun e w' => e = .returned (.bool (nearB a b s)) ∧ w = w' := by
  cases ha : timeB a
  · have hfin := Lib.hid (show nearB a b s = false by simp [nearB, ha])
    go_enter Try.func44, Try.ntmps44
    go_wp2_with (go_at_call 61; refine (isTime_any _ _).mono ?_; rintro e w' ⟨rfl, rfl⟩)
    go_ret
    exact ⟨ret_bool hfin.out.symm, rfl⟩
  cases hb : timeB b
  · have hfin := Lib.hid (show nearB a b s = false by simp [nearB, hb])
    go_enter Try.func44, Try.ntmps44
    go_wp2_with (go_at_call 61; refine (isTime_any _ _).mono ?_; rintro e w' ⟨rfl, rfl⟩)
    go_ret
    exact ⟨ret_bool hfin.out.symm, rfl⟩
  cases hs : timeB s
  · have hfin := Lib.hid (show nearB a b s = false by simp [nearB, hs])
    go_enter Try.func44, Try.ntmps44
    go_wp2_with (go_at_call 61; refine (isTime_any _ _).mono ?_; rintro e w' ⟨rfl, rfl⟩)
    go_ret
    exact ⟨ret_bool hfin.out.symm, rfl⟩
  have a1 := timeB_true ha
  have b1 := timeB_true hb
  have s1 := timeB_true hs
  by_cases h1 : a - b ≤ s
  · by_cases h2 : b - a ≤ s
    · have hfin := Lib.hid (show nearB a b s = true by simp [nearB, ha, hb, hs, h1, h2])
      go_enter Try.func44, Try.ntmps44
      go_wp2_with (go_at_call 61; refine (isTime_any _ _).mono ?_; rintro e w' ⟨rfl, rfl⟩)
      go_ret
      exact ⟨ret_bool hfin.out.symm, rfl⟩
    · have hfin := Lib.hid (show nearB a b s = false by simp [nearB, ha, hb, hs, h1, h2])
      go_enter Try.func44, Try.ntmps44
      go_wp2_with (go_at_call 61; refine (isTime_any _ _).mono ?_; rintro e w' ⟨rfl, rfl⟩)
      go_ret
      exact ⟨ret_bool (by rw [hfin.out]; simp; omega), rfl⟩
  · have hfin := Lib.hid (show nearB a b s = false by simp [nearB, ha, hb, hs, h1])
    go_enter Try.func44, Try.ntmps44
    go_wp2_with (go_at_call 61; refine (isTime_any _ _).mono ?_; rintro e w' ⟨rfl, rfl⟩)
    go_ret
    exact ⟨ret_bool hfin.out.symm, rfl⟩

set_option maxHeartbeats 400000 in
theorem refNear_any (a b s : Int) (w : World) :
    Calls Try.prog 45 #[.int .i64 a, .int .i64 b, .int .i64 s] w fun e w' => e = .returned (.bool (nearB a b s)) ∧ w = w' := by
  cases ha : timeB a
  · have hfin := Lib.hid (show nearB a b s = false by simp [nearB, ha])
    go_enter Try.func45, Try.ntmps45
    go_wp2_with (go_at_call 62; refine (time_any _ _).mono ?_; rintro e w' ⟨rfl, rfl⟩)
    go_ret
    exact ⟨ret_bool hfin.out.symm, rfl⟩
  cases hb : timeB b
  · have hfin := Lib.hid (show nearB a b s = false by simp [nearB, hb])
    go_enter Try.func45, Try.ntmps45
    go_wp2_with (go_at_call 62; refine (time_any _ _).mono ?_; rintro e w' ⟨rfl, rfl⟩)
    go_ret
    exact ⟨ret_bool hfin.out.symm, rfl⟩
  by_cases hs0 : s < 0
  · have hfin := Lib.hid (show nearB a b s = false by simp [nearB, timeB_mkF (.inl hs0)])
    go_enter Try.func45, Try.ntmps45
    go_wp2_with (go_at_call 62; refine (time_any _ _).mono ?_; rintro e w' ⟨rfl, rfl⟩)
    go_ret
    exact ⟨ret_bool hfin.out.symm, rfl⟩
  by_cases hs2 : 4294967295 < s
  · have hfin := Lib.hid (show nearB a b s = false by simp [nearB, timeB_mkF (.inr hs2)])
    go_enter Try.func45, Try.ntmps45
    go_wp2_with (go_at_call 62; refine (time_any _ _).mono ?_; rintro e w' ⟨rfl, rfl⟩)
    go_ret
    exact ⟨ret_bool hfin.out.symm, rfl⟩
  have hs : timeB s = true := timeB_mk (by omega) (by omega)
  have a1 := timeB_true ha
  have b1 := timeB_true hb
  by_cases h1 : a - b ≤ s
  · by_cases h2 : b - a ≤ s
    · have hfin := Lib.hid (show nearB a b s = true by simp [nearB, ha, hb, hs, h1, h2])
      go_enter Try.func45, Try.ntmps45
      go_wp2_with (go_at_call 62; refine (time_any _ _).mono ?_; rintro e w' ⟨rfl, rfl⟩)
      go_ret
      exact ⟨ret_bool hfin.out.symm, rfl⟩
    · have hfin := Lib.hid (show nearB a b s = false by simp [nearB, ha, hb, hs, h1, h2])
      go_enter Try.func45, Try.ntmps45
      go_wp2_with (go_at_call 62; refine (time_any _ _).mono ?_; rintro e w' ⟨rfl, rfl⟩)
      go_ret
      exact ⟨ret_bool (by rw [hfin.out]; simp; omega), rfl⟩
  · have hfin := Lib.hid (show nearB a b s = false by simp [nearB, ha, hb, hs, h1])
    go_enter Try.func45, Try.ntmps45
    go_wp2_with (go_at_call 62; refine (time_any _ _).mono ?_; rintro e w' ⟨rfl, rfl⟩)
    go_ret
    exact ⟨ret_bool hfin.out.symm, rfl⟩

end Go.Proofs.Ytegcdefdkebmnaa
