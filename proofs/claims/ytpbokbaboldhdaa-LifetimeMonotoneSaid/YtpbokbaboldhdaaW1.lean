/- Contracts of the small functions of package lifetime and of its reference. -/
import Derived.Test.YtpbokbaboldhdaaRows
import Derived.WalkKit
import Derived.WalkSpells
import Derived.WalkLawsBesides
import Derived.Lib.Hide
namespace Go.Proofs.Ytpbokbaboldhdaa
open Go.RowKit

theorem ret_int {k : IntKind} {a b : Int} (h : a = b) : Ending.returned (.int k a) = .returned (.int k b) := by rw [h]
theorem ret_bool {a b : Bool} (h : a = b) : Ending.returned (.bool a) = .returned (.bool b) := by rw [h]

def timeB (n : Int) : Bool := decide (0 ≤ n ∧ n ≤ 4294967295)
def lifeB (n : Int) : Bool := decide (0 ≤ n ∧ n ≤ 255)
theorem timeB_true {n : Int} (h : timeB n = true) : 0 ≤ n ∧ n ≤ 4294967295 := by simpa [timeB] using h
theorem timeB_false {n : Int} (h : timeB n = false) : n < 0 ∨ 4294967295 < n := by simp [timeB] at h; omega
theorem timeB_mk {n : Int} (a : 0 ≤ n) (b : n ≤ 4294967295) : timeB n = true := by simp [timeB]; omega
theorem timeB_mkF {n : Int} (a : n < 0 ∨ 4294967295 < n) : timeB n = false := by simp [timeB]; omega
theorem lifeB_true {n : Int} (h : lifeB n = true) : 0 ≤ n ∧ n ≤ 255 := by simpa [lifeB] using h
theorem lifeB_false {n : Int} (h : lifeB n = false) : n < 0 ∨ 255 < n := by simp [lifeB] at h; omega
theorem lifeB_mk {n : Int} (a : 0 ≤ n) (b : n ≤ 255) : lifeB n = true := by simp [lifeB]; omega
theorem lifeB_mkF {n : Int} (a : n < 0 ∨ 255 < n) : lifeB n = false := by simp [lifeB]; omega

set_option maxHeartbeats 400000 in
theorem isTime_any (n : Int) (w : World) :
    Calls Try.prog 21 #[.int .i64 n] w fun e w' => e = .returned (.bool (timeB n)) ∧ w = w' := by
  by_cases h0 : 0 ≤ n
  · by_cases h1 : n ≤ 4294967295
    · go_enter Try.func21, Try.ntmps21
      go_wp2
      go_ret
      exact ⟨ret_bool (timeB_mk h0 h1).symm, rfl⟩
    · go_enter Try.func21, Try.ntmps21
      go_wp2
      go_ret
      exact ⟨ret_bool (timeB_mkF (by omega)).symm, rfl⟩
  · go_enter Try.func21, Try.ntmps21
    go_wp2
    go_ret
    exact ⟨ret_bool (timeB_mkF (by omega)).symm, rfl⟩

set_option maxHeartbeats 400000 in
theorem isLife_any (n : Int) (w : World) :
    Calls Try.prog 22 #[.int .i64 n] w fun e w' => e = .returned (.bool (lifeB n)) ∧ w = w' := by
  by_cases h0 : 0 ≤ n
  · by_cases h1 : n ≤ 255
    · go_enter Try.func22, Try.ntmps22
      go_wp2
      go_ret
      exact ⟨ret_bool (lifeB_mk h0 h1).symm, rfl⟩
    · go_enter Try.func22, Try.ntmps22
      go_wp2
      go_ret
      exact ⟨ret_bool (lifeB_mkF (by omega)).symm, rfl⟩
  · go_enter Try.func22, Try.ntmps22
    go_wp2
    go_ret
    exact ⟨ret_bool (lifeB_mkF (by omega)).symm, rfl⟩

set_option maxHeartbeats 400000 in
theorem time_any (n : Int) (w : World) :
    Calls Try.prog 23 #[.int .i64 n] w fun e w' => e = .returned (.bool (timeB n)) ∧ w = w' := by
  by_cases h0 : 0 ≤ n
  · by_cases h1 : n ≤ 4294967295
    · go_enter Try.func23, Try.ntmps23
      go_wp2
      go_ret
      exact ⟨ret_bool (timeB_mk h0 h1).symm, rfl⟩
    · go_enter Try.func23, Try.ntmps23
      go_wp2
      go_ret
      exact ⟨ret_bool (timeB_mkF (by omega)).symm, rfl⟩
  · go_enter Try.func23, Try.ntmps23
    go_wp2
    go_ret
    exact ⟨ret_bool (timeB_mkF (by omega)).symm, rfl⟩

def endOf (i l : Int) : Int := if timeB i = true ∧ lifeB l = true then i + 300 * (l + 1) else 0

set_option maxHeartbeats 400000 in
theorem end_any (i l : Int) (w : World) :
    Calls Try.prog 11 #[.int .i64 i, .int .i64 l] w fun e w' => e = .returned (.int .i64 (endOf i l)) ∧ w = w' := by
  cases ht : timeB i
  · have hfin := Lib.hid (show endOf i l = 0 by simp [endOf, ht])
    go_enter Try.func11, Try.ntmps11
    go_wp2_with (go_at_call 21; refine (isTime_any _ _).mono ?_; rintro e w' ⟨rfl, rfl⟩)
    go_ret
    exact ⟨ret_int hfin.out.symm, rfl⟩
  · cases hl : lifeB l
    · have hfin := Lib.hid (show endOf i l = 0 by simp [endOf, hl])
      go_enter Try.func11, Try.ntmps11
      go_wp2_with (first | (go_at_call 21; refine (isTime_any _ _).mono ?_; rintro e w' ⟨rfl, rfl⟩) | (go_at_call 22; refine (isLife_any _ _).mono ?_; rintro e w' ⟨rfl, rfl⟩))
      go_ret
      exact ⟨ret_int hfin.out.symm, rfl⟩
    · have hfin := Lib.hid (show endOf i l = i + 300 * (l + 1) by simp [endOf, ht, hl])
      have b1 := timeB_true ht
      have b2 := lifeB_true hl
      go_enter Try.func11, Try.ntmps11
      go_wp2_with (first | (go_at_call 21; refine (isTime_any _ _).mono ?_; rintro e w' ⟨rfl, rfl⟩) | (go_at_call 22; refine (isLife_any _ _).mono ?_; rintro e w' ⟨rfl, rfl⟩))
      go_ret
      exact ⟨ret_int hfin.out.symm, rfl⟩

set_option maxHeartbeats 400000 in
theorem refEnd_any (i l : Int) (w : World) :
    Calls Try.prog 12 #[.int .i64 i, .int .i64 l] w fun e w' => e = .returned (.int .i64 (endOf i l)) ∧ w = w' := by
  cases ht : timeB i
  · have hfin := Lib.hid (show endOf i l = 0 by simp [endOf, ht])
    go_enter Try.func12, Try.ntmps12
    go_wp2_with (go_at_call 23; refine (time_any _ _).mono ?_; rintro e w' ⟨rfl, rfl⟩)
    go_ret
    exact ⟨ret_int hfin.out.symm, rfl⟩
  · by_cases hl : l < 0
    · have hfin := Lib.hid (show endOf i l = 0 by simp [endOf, lifeB_mkF (.inl hl)])
      go_enter Try.func12, Try.ntmps12
      go_wp2_with (go_at_call 23; refine (time_any _ _).mono ?_; rintro e w' ⟨rfl, rfl⟩)
      go_ret
      exact ⟨ret_int hfin.out.symm, rfl⟩
    · by_cases hl2 : 255 < l
      · have hfin := Lib.hid (show endOf i l = 0 by simp [endOf, lifeB_mkF (.inr hl2)])
        go_enter Try.func12, Try.ntmps12
        go_wp2_with (go_at_call 23; refine (time_any _ _).mono ?_; rintro e w' ⟨rfl, rfl⟩)
        go_ret
        exact ⟨ret_int hfin.out.symm, rfl⟩
      · have hfin := Lib.hid (show endOf i l = i + 300 * (l + 1) by simp [endOf, ht, lifeB_mk (n := l) (by omega) (by omega)])
        have b1 := timeB_true ht
        go_enter Try.func12, Try.ntmps12
        go_wp2_with (go_at_call 23; refine (time_any _ _).mono ?_; rintro e w' ⟨rfl, rfl⟩)
        go_ret
        exact ⟨ret_int hfin.out.symm, rfl⟩

def nearB (a b s : Int) : Bool := timeB a && timeB b && timeB s && decide (a - b ≤ s) && decide (b - a ≤ s)
theorem nearB_comm (a b s : Int) : nearB a b s = nearB b a s := by
  simp only [nearB]
  cases timeB a <;> cases timeB b <;> cases timeB s <;> cases decide (a - b ≤ s) <;> cases decide (b - a ≤ s) <;> rfl

set_option maxHeartbeats 400000 in
theorem near_any (a b s : Int) (w : World) :
    Calls Try.prog 17 #[.int .i64 a, .int .i64 b, .int .i64 s] w fun e w' => e = .returned (.bool (nearB a b s)) ∧ w = w' := by
  cases ha : timeB a
  · have hfin := Lib.hid (show nearB a b s = false by simp [nearB, ha])
    go_enter Try.func17, Try.ntmps17
    go_wp2_with (go_at_call 21; refine (isTime_any _ _).mono ?_; rintro e w' ⟨rfl, rfl⟩)
    go_ret
    exact ⟨ret_bool hfin.out.symm, rfl⟩
  cases hb : timeB b
  · have hfin := Lib.hid (show nearB a b s = false by simp [nearB, hb])
    go_enter Try.func17, Try.ntmps17
    go_wp2_with (go_at_call 21; refine (isTime_any _ _).mono ?_; rintro e w' ⟨rfl, rfl⟩)
    go_ret
    exact ⟨ret_bool hfin.out.symm, rfl⟩
  cases hs : timeB s
  · have hfin := Lib.hid (show nearB a b s = false by simp [nearB, hs])
    go_enter Try.func17, Try.ntmps17
    go_wp2_with (go_at_call 21; refine (isTime_any _ _).mono ?_; rintro e w' ⟨rfl, rfl⟩)
    go_ret
    exact ⟨ret_bool hfin.out.symm, rfl⟩
  have a1 := timeB_true ha
  have b1 := timeB_true hb
  have s1 := timeB_true hs
  by_cases h1 : a - b ≤ s
  · by_cases h2 : b - a ≤ s
    · have hfin := Lib.hid (show nearB a b s = true by simp [nearB, ha, hb, hs, h1, h2])
      go_enter Try.func17, Try.ntmps17
      go_wp2_with (go_at_call 21; refine (isTime_any _ _).mono ?_; rintro e w' ⟨rfl, rfl⟩)
      go_ret
      exact ⟨ret_bool hfin.out.symm, rfl⟩
    · have hfin := Lib.hid (show nearB a b s = false by simp [nearB, ha, hb, hs, h1, h2])
      go_enter Try.func17, Try.ntmps17
      go_wp2_with (go_at_call 21; refine (isTime_any _ _).mono ?_; rintro e w' ⟨rfl, rfl⟩)
      go_ret
      exact ⟨ret_bool (by rw [hfin.out]; simp; omega), rfl⟩
  · have hfin := Lib.hid (show nearB a b s = false by simp [nearB, ha, hb, hs, h1])
    go_enter Try.func17, Try.ntmps17
    go_wp2_with (go_at_call 21; refine (isTime_any _ _).mono ?_; rintro e w' ⟨rfl, rfl⟩)
    go_ret
    exact ⟨ret_bool hfin.out.symm, rfl⟩

set_option maxHeartbeats 400000 in
theorem refNear_any (a b s : Int) (w : World) :
    Calls Try.prog 18 #[.int .i64 a, .int .i64 b, .int .i64 s] w fun e w' => e = .returned (.bool (nearB a b s)) ∧ w = w' := by
  cases ha : timeB a
  · have hfin := Lib.hid (show nearB a b s = false by simp [nearB, ha])
    go_enter Try.func18, Try.ntmps18
    go_wp2_with (go_at_call 23; refine (time_any _ _).mono ?_; rintro e w' ⟨rfl, rfl⟩)
    go_ret
    exact ⟨ret_bool hfin.out.symm, rfl⟩
  cases hb : timeB b
  · have hfin := Lib.hid (show nearB a b s = false by simp [nearB, hb])
    go_enter Try.func18, Try.ntmps18
    go_wp2_with (go_at_call 23; refine (time_any _ _).mono ?_; rintro e w' ⟨rfl, rfl⟩)
    go_ret
    exact ⟨ret_bool hfin.out.symm, rfl⟩
  by_cases hs0 : s < 0
  · have hfin := Lib.hid (show nearB a b s = false by simp [nearB, timeB_mkF (.inl hs0)])
    go_enter Try.func18, Try.ntmps18
    go_wp2_with (go_at_call 23; refine (time_any _ _).mono ?_; rintro e w' ⟨rfl, rfl⟩)
    go_ret
    exact ⟨ret_bool hfin.out.symm, rfl⟩
  by_cases hs2 : 4294967295 < s
  · have hfin := Lib.hid (show nearB a b s = false by simp [nearB, timeB_mkF (.inr hs2)])
    go_enter Try.func18, Try.ntmps18
    go_wp2_with (go_at_call 23; refine (time_any _ _).mono ?_; rintro e w' ⟨rfl, rfl⟩)
    go_ret
    exact ⟨ret_bool hfin.out.symm, rfl⟩
  have hs : timeB s = true := timeB_mk (by omega) (by omega)
  have a1 := timeB_true ha
  have b1 := timeB_true hb
  by_cases h1 : a - b ≤ s
  · by_cases h2 : b - a ≤ s
    · have hfin := Lib.hid (show nearB a b s = true by simp [nearB, ha, hb, hs, h1, h2])
      go_enter Try.func18, Try.ntmps18
      go_wp2_with (go_at_call 23; refine (time_any _ _).mono ?_; rintro e w' ⟨rfl, rfl⟩)
      go_ret
      exact ⟨ret_bool hfin.out.symm, rfl⟩
    · have hfin := Lib.hid (show nearB a b s = false by simp [nearB, ha, hb, hs, h1, h2])
      go_enter Try.func18, Try.ntmps18
      go_wp2_with (go_at_call 23; refine (time_any _ _).mono ?_; rintro e w' ⟨rfl, rfl⟩)
      go_ret
      exact ⟨ret_bool (by rw [hfin.out]; simp; omega), rfl⟩
  · have hfin := Lib.hid (show nearB a b s = false by simp [nearB, ha, hb, hs, h1])
    go_enter Try.func18, Try.ntmps18
    go_wp2_with (go_at_call 23; refine (time_any _ _).mono ?_; rintro e w' ⟨rfl, rfl⟩)
    go_ret
    exact ⟨ret_bool hfin.out.symm, rfl⟩

def stateOf (i l n s : Int) : Int := if timeB i && timeB n && lifeB l && timeB s then (if n + s < i then 33 else if endOf i l + s < n then 32 else 0) else 104

set_option maxHeartbeats 1000000 in
theorem state_any (i l n s : Int) (w : World) :
    Calls Try.prog 19 #[.int .i64 i, .int .i64 l, .int .i64 n, .int .i64 s] w fun e w' => e = .returned (.int .i64 (stateOf i l n s)) ∧ w = w' := by
  cases hi : timeB i
  · have hfin := Lib.hid (show stateOf i l n s = 104 by simp [stateOf, hi])
    go_enter Try.func19, Try.ntmps19
    go_wp2_with (first | (go_at_call 21; refine (isTime_any _ _).mono ?_; rintro e w' ⟨rfl, rfl⟩) | (go_at_call 22; refine (isLife_any _ _).mono ?_; rintro e w' ⟨rfl, rfl⟩))
    go_ret
    exact ⟨ret_int hfin.out.symm, rfl⟩
  cases hn : timeB n
  · have hfin := Lib.hid (show stateOf i l n s = 104 by simp [stateOf, hn])
    go_enter Try.func19, Try.ntmps19
    go_wp2_with (first | (go_at_call 21; refine (isTime_any _ _).mono ?_; rintro e w' ⟨rfl, rfl⟩) | (go_at_call 22; refine (isLife_any _ _).mono ?_; rintro e w' ⟨rfl, rfl⟩))
    go_ret
    exact ⟨ret_int hfin.out.symm, rfl⟩
  cases hl : lifeB l
  · have hfin := Lib.hid (show stateOf i l n s = 104 by simp [stateOf, hl])
    go_enter Try.func19, Try.ntmps19
    go_wp2_with (first | (go_at_call 21; refine (isTime_any _ _).mono ?_; rintro e w' ⟨rfl, rfl⟩) | (go_at_call 22; refine (isLife_any _ _).mono ?_; rintro e w' ⟨rfl, rfl⟩))
    go_ret
    exact ⟨ret_int hfin.out.symm, rfl⟩
  cases hs : timeB s
  · have hfin := Lib.hid (show stateOf i l n s = 104 by simp [stateOf, hs])
    go_enter Try.func19, Try.ntmps19
    go_wp2_with (first | (go_at_call 21; refine (isTime_any _ _).mono ?_; rintro e w' ⟨rfl, rfl⟩) | (go_at_call 22; refine (isLife_any _ _).mono ?_; rintro e w' ⟨rfl, rfl⟩))
    go_ret
    exact ⟨ret_int hfin.out.symm, rfl⟩
  have i1 := timeB_true hi
  have n1 := timeB_true hn
  have l1 := lifeB_true hl
  have s1 := timeB_true hs
  have he : endOf i l = i + 300 * (l + 1) := by simp [endOf, hi, hl]
  have he0 : 0 ≤ endOf i l ∧ endOf i l ≤ 4294967295 + 76800 := by omega
  clear he
  by_cases h1 : n + s < i
  · have hfin := Lib.hid (show stateOf i l n s = 33 by simp [stateOf, hi, hn, hl, hs, h1])
    go_enter Try.func19, Try.ntmps19
    go_wp2_with (first | (go_at_call 21; refine (isTime_any _ _).mono ?_; rintro e w' ⟨rfl, rfl⟩) | (go_at_call 22; refine (isLife_any _ _).mono ?_; rintro e w' ⟨rfl, rfl⟩) | (go_at_call 11; refine (end_any _ _ _).mono ?_; rintro e w' ⟨rfl, rfl⟩))
    go_ret
    exact ⟨ret_int hfin.out.symm, rfl⟩
  by_cases h2 : endOf i l + s < n
  · have hfin := Lib.hid (show stateOf i l n s = 32 by simp [stateOf, hi, hn, hl, hs, h1, h2])
    go_enter Try.func19, Try.ntmps19
    go_wp2_with (first | (go_at_call 21; refine (isTime_any _ _).mono ?_; rintro e w' ⟨rfl, rfl⟩) | (go_at_call 22; refine (isLife_any _ _).mono ?_; rintro e w' ⟨rfl, rfl⟩) | (go_at_call 11; refine (end_any _ _ _).mono ?_; rintro e w' ⟨rfl, rfl⟩))
    go_ret
    exact ⟨ret_int hfin.out.symm, rfl⟩
  · have hfin := Lib.hid (show stateOf i l n s = 0 by simp [stateOf, hi, hn, hl, hs, h1, h2])
    go_enter Try.func19, Try.ntmps19
    go_wp2_with (first | (go_at_call 21; refine (isTime_any _ _).mono ?_; rintro e w' ⟨rfl, rfl⟩) | (go_at_call 22; refine (isLife_any _ _).mono ?_; rintro e w' ⟨rfl, rfl⟩) | (go_at_call 11; refine (end_any _ _ _).mono ?_; rintro e w' ⟨rfl, rfl⟩))
    go_ret
    exact ⟨ret_int hfin.out.symm, rfl⟩

set_option maxHeartbeats 1000000 in
theorem refState_any (i l n s : Int) (w : World) :
    Calls Try.prog 20 #[.int .i64 i, .int .i64 l, .int .i64 n, .int .i64 s] w fun e w' => e = .returned (.int .i64 (stateOf i l n s)) ∧ w = w' := by
  cases hi : timeB i
  · have hfin := Lib.hid (show stateOf i l n s = 104 by simp [stateOf, hi])
    go_enter Try.func20, Try.ntmps20
    go_wp2_with (go_at_call 23; refine (time_any _ _).mono ?_; rintro e w' ⟨rfl, rfl⟩)
    go_ret
    exact ⟨ret_int hfin.out.symm, rfl⟩
  cases hn : timeB n
  · have hfin := Lib.hid (show stateOf i l n s = 104 by simp [stateOf, hn])
    go_enter Try.func20, Try.ntmps20
    go_wp2_with (go_at_call 23; refine (time_any _ _).mono ?_; rintro e w' ⟨rfl, rfl⟩)
    go_ret
    exact ⟨ret_int hfin.out.symm, rfl⟩
  by_cases hl0 : l < 0
  · have hfin := Lib.hid (show stateOf i l n s = 104 by simp [stateOf, lifeB_mkF (.inl hl0)])
    go_enter Try.func20, Try.ntmps20
    go_wp2_with (go_at_call 23; refine (time_any _ _).mono ?_; rintro e w' ⟨rfl, rfl⟩)
    go_ret
    exact ⟨ret_int hfin.out.symm, rfl⟩
  by_cases hl2 : 255 < l
  · have hfin := Lib.hid (show stateOf i l n s = 104 by simp [stateOf, lifeB_mkF (.inr hl2)])
    go_enter Try.func20, Try.ntmps20
    go_wp2_with (go_at_call 23; refine (time_any _ _).mono ?_; rintro e w' ⟨rfl, rfl⟩)
    go_ret
    exact ⟨ret_int hfin.out.symm, rfl⟩
  by_cases hs0 : s < 0
  · have hfin := Lib.hid (show stateOf i l n s = 104 by simp [stateOf, timeB_mkF (.inl hs0)])
    go_enter Try.func20, Try.ntmps20
    go_wp2_with (go_at_call 23; refine (time_any _ _).mono ?_; rintro e w' ⟨rfl, rfl⟩)
    go_ret
    exact ⟨ret_int hfin.out.symm, rfl⟩
  by_cases hs2 : 4294967295 < s
  · have hfin := Lib.hid (show stateOf i l n s = 104 by simp [stateOf, timeB_mkF (.inr hs2)])
    go_enter Try.func20, Try.ntmps20
    go_wp2_with (go_at_call 23; refine (time_any _ _).mono ?_; rintro e w' ⟨rfl, rfl⟩)
    go_ret
    exact ⟨ret_int hfin.out.symm, rfl⟩
  have hl : lifeB l = true := lifeB_mk (by omega) (by omega)
  have hs : timeB s = true := timeB_mk (by omega) (by omega)
  have i1 := timeB_true hi
  have n1 := timeB_true hn
  have he : endOf i l = i + 300 * (l + 1) := by simp [endOf, hi, hl]
  have he0 : 0 ≤ endOf i l ∧ endOf i l ≤ 4294967295 + 76800 := by omega
  clear he
  by_cases h1 : n + s < i
  · have hfin := Lib.hid (show stateOf i l n s = 33 by simp [stateOf, hi, hn, hl, hs, h1])
    go_enter Try.func20, Try.ntmps20
    go_wp2_with (first | (go_at_call 23; refine (time_any _ _).mono ?_; rintro e w' ⟨rfl, rfl⟩) | (go_at_call 12; refine (refEnd_any _ _ _).mono ?_; rintro e w' ⟨rfl, rfl⟩))
    go_ret
    exact ⟨ret_int hfin.out.symm, rfl⟩
  by_cases h2 : endOf i l + s < n
  · have hfin := Lib.hid (show stateOf i l n s = 32 by simp [stateOf, hi, hn, hl, hs, h1, h2])
    go_enter Try.func20, Try.ntmps20
    go_wp2_with (first | (go_at_call 23; refine (time_any _ _).mono ?_; rintro e w' ⟨rfl, rfl⟩) | (go_at_call 12; refine (refEnd_any _ _ _).mono ?_; rintro e w' ⟨rfl, rfl⟩))
    go_ret
    exact ⟨ret_int hfin.out.symm, rfl⟩
  · have hfin := Lib.hid (show stateOf i l n s = 0 by simp [stateOf, hi, hn, hl, hs, h1, h2])
    go_enter Try.func20, Try.ntmps20
    go_wp2_with (first | (go_at_call 23; refine (time_any _ _).mono ?_; rintro e w' ⟨rfl, rfl⟩) | (go_at_call 12; refine (refEnd_any _ _ _).mono ?_; rintro e w' ⟨rfl, rfl⟩))
    go_ret
    exact ⟨ret_int hfin.out.symm, rfl⟩

end Go.Proofs.Ytpbokbaboldhdaa
