/- Contracts of key.Valid, of the reference's Valid, and of kerbsuitedata.Long. -/
import Derived.Test.YtegcdefdkebmnaaBase
namespace Go.Proofs.Ytegcdefdkebmnaa
open Go.RowKit

def classB (c : Int) : Bool := c == 1 || c == 2
def serB (s : Int) : Bool := decide (1 ≤ s ∧ s ≤ 4294967295)
def mkKey (c s : Int) : Int := if classB c && serB s then c * 72057594037927936 + s else 0
def valB (k : Int) : Bool := classB (k / 72057594037927936) && serB (k % 72057594037927936)
def clsOf (k : Int) : Int := if valB k then k / 72057594037927936 else 0
def serOf (k : Int) : Int := if valB k then k % 72057594037927936 else 0

theorem classB_cases {c : Int} (h : classB c = true) : c = 1 ∨ c = 2 := by simpa [classB] using h
theorem classB_not {c : Int} (h : classB c = false) : (c == 1) = false ∧ (c == 2) = false := by
  unfold classB at h; cases h1 : (c == 1) <;> cases h2 : (c == 2) <;> simp_all
theorem serB_true {s : Int} (h : serB s = true) : 1 ≤ s ∧ s ≤ 4294967295 := by simpa [serB] using h
theorem serB_false {s : Int} (h : serB s = false) : s < 1 ∨ 4294967295 < s := by simp [serB] at h; omega
theorem serB_mk {s : Int} (h : 1 ≤ s) (g : s ≤ 4294967295) : serB s = true := by simp [serB]; omega
theorem serB_mkF {s : Int} (h : s < 1 ∨ 4294967295 < s) : serB s = false := by simp [serB]; omega

set_option maxHeartbeats 400000 in
theorem isClass_any (n : Int) (w : World) :
    Calls Try.prog 70 #[.int .i64 n] w fun e w' => e = .returned (.bool (classB n)) ∧ w = w' := by
  cases h1 : (n == 1)
  · have hf := Lib.hid (show classB n = (n == 2) by simp [classB, h1])
    go_enter Try.func70, Try.ntmps70
    go_wp2
    go_ret
    exact ⟨ret_bool hf.out.symm, rfl⟩
  · have hf := Lib.hid (show classB n = true by simp [classB, h1])
    go_enter Try.func70, Try.ntmps70
    go_wp2
    go_ret
    exact ⟨ret_bool hf.out.symm, rfl⟩

set_option maxHeartbeats 400000 in
theorem isSerial_any (n : Int) (w : World) :
    Calls Try.prog 71 #[.int .i64 n] w fun e w' => e = .returned (.bool (serB n)) ∧ w = w' := by
  by_cases h0 : 1 ≤ n
  · by_cases h1 : n ≤ 4294967295
    · go_enter Try.func71, Try.ntmps71
      go_wp2
      go_ret
      exact ⟨ret_bool (serB_mk h0 h1).symm, rfl⟩
    · go_enter Try.func71, Try.ntmps71
      go_wp2
      go_ret
      exact ⟨ret_bool (serB_mkF (by omega)).symm, rfl⟩
  · go_enter Try.func71, Try.ntmps71
    go_wp2
    go_ret
    exact ⟨ret_bool (serB_mkF (by omega)).symm, rfl⟩

theorem ret_split {a b c d : Int} {x y : Bool} (h : a = b) (g : c = d) (i : x = y) : Ending.returned (.tuple #[.int .i64 a, .int .i64 c, .bool x]) = .returned (.tuple #[.int .i64 b, .int .i64 d, .bool y]) := by rw [h, g, i]

set_option maxHeartbeats 400000 in
theorem split_any (k : Int) (w : World) (h0 : 0 ≤ k) (h1 : k ≤ 18446744073709551615) :
    Calls Try.prog 63 #[.int .u64 k] w fun e w' => e = .returned (.tuple #[.int .i64 (clsOf k), .int .i64 (serOf k), .bool (valB k)]) ∧ w = w' := by
  have ha := and_low56 k h0 h1
  cases hc : classB (k / 72057594037927936)
  · have hv := Lib.hid (show valB k = false by simp [valB, hc])
    go_enter Try.func63, Try.ntmps63
    go_wp2_with (go_at_call 70; refine (isClass_any _ _).mono ?_; rintro e w' ⟨rfl, rfl⟩)
    go_ret3
    exact ⟨ret_split (by simp [clsOf, hv.out]) (by simp [serOf, hv.out]) hv.out.symm, rfl⟩
  · cases hs : serB (k % 72057594037927936)
    · have hv := Lib.hid (show valB k = false by simp [valB, hs])
      go_enter Try.func63, Try.ntmps63
      go_wp2_with (first | (go_at_call 70; refine (isClass_any _ _).mono ?_; rintro e w' ⟨rfl, rfl⟩) | (go_at_call 71; refine (isSerial_any _ _).mono ?_; rintro e w' ⟨rfl, rfl⟩))
      go_ret3
      exact ⟨ret_split (by simp [clsOf, hv.out]) (by simp [serOf, hv.out]) hv.out.symm, rfl⟩
    · have hv := Lib.hid (show valB k = true by simp [valB, hc, hs])
      go_enter Try.func63, Try.ntmps63
      go_wp2_with (first | (go_at_call 70; refine (isClass_any _ _).mono ?_; rintro e w' ⟨rfl, rfl⟩) | (go_at_call 71; refine (isSerial_any _ _).mono ?_; rintro e w' ⟨rfl, rfl⟩))
      go_ret3
      exact ⟨ret_split (by simp [clsOf, hv.out]) (by simp [serOf, hv.out]) hv.out.symm, rfl⟩

set_option maxHeartbeats 400000 in
theorem valid_any (k : Int) (w : World) (h0 : 0 ≤ k) (h1 : k ≤ 18446744073709551615) :
    Calls Try.prog 50 #[.int .u64 k] w fun e w' => e = .returned (.bool (valB k)) ∧ w = w' := by
  go_enter Try.func50, Try.ntmps50
  go_wp2_with (go_at_call 63; refine (split_any _ _ h0 h1).mono ?_; rintro e w' ⟨rfl, rfl⟩)
  go_ret
  exact ⟨rfl, rfl⟩

theorem mkKey_bd (c s : Int) : 0 ≤ mkKey c s ∧ mkKey c s ≤ 18446744073709551615 := by
  unfold mkKey
  cases hc : classB c <;> cases hs : serB s <;> simp
  have h1 := classB_cases hc
  have h2 := serB_true hs
  omega
theorem mkKey_yes {c s : Int} (hc : classB c = true) (hs : serB s = true) : mkKey c s = c * 72057594037927936 + s := by simp [mkKey, hc, hs]
theorem mkKey_noC {c s : Int} (hc : classB c = false) : mkKey c s = 0 := by simp [mkKey, hc]
theorem mkKey_noS {c s : Int} (hs : serB s = false) : mkKey c s = 0 := by simp [mkKey, hs]
theorem valB_mkKey (c s : Int) : valB (mkKey c s) = (mkKey c s != 0) := by
  cases hc : classB c
  · rw [mkKey_noC hc]; decide
  · cases hs : serB s
    · rw [mkKey_noS hs]; decide
    · rw [mkKey_yes hc hs]
      have h2 := serB_true hs
      have hd : (c * 72057594037927936 + s) / 72057594037927936 = c := by omega
      have hm : (c * 72057594037927936 + s) % 72057594037927936 = s := by omega
      have h1 := classB_cases hc
      simp [valB, hd, hm, hc, hs]
      omega
theorem cls_mkKey {c s : Int} (h : mkKey c s ≠ 0) : clsOf (mkKey c s) = c ∧ serOf (mkKey c s) = s := by
  have hv : valB (mkKey c s) = true := by rw [valB_mkKey]; simpa using h
  cases hc : classB c
  · exact absurd (mkKey_noC hc) h
  · cases hs : serB s
    · exact absurd (mkKey_noS hs) h
    · unfold clsOf serOf
      rw [hv, mkKey_yes hc hs]
      have h2 := serB_true hs
      exact ⟨by simp; omega, by simp; omega⟩
/-- the reference's Valid -/
theorem valB_ref (k : Int) : valB k = (k != 0 && mkKey (k / 72057594037927936) (k % 72057594037927936) == k) := by
  unfold valB mkKey
  cases hc : classB (k / 72057594037927936) <;> cases hs : serB (k % 72057594037927936) <;> simp
  · intro h h2; omega
  · intro h h2; omega
  · intro h h2; omega
  · have h2 := serB_true hs
    have h1 := classB_cases hc
    omega

set_option maxHeartbeats 400000 in
theorem refMake_any (c s : Int) (w : World) :
    Calls Try.prog 65 #[.int .i64 c, .int .i64 s] w fun e w' => e = .returned (.int .u64 (mkKey c s)) ∧ w = w' := by
  cases hc : classB c
  · have hv := Lib.hid (mkKey_noC (s := s) hc)
    have h1 := classB_not hc
    obtain ⟨h1, h2⟩ := h1
    have h3 : (c != 1) = true := by simp [bne, h1]
    have h4 : (c != 2) = true := by simp [bne, h2]
    clear h1 h2
    go_enter Try.func65, Try.ntmps65
    go_wp2
    go_ret
    exact ⟨ret_int hv.out.symm, rfl⟩
  · by_cases hs0 : s < 1
    · have hv := Lib.hid (mkKey_noS (c := c) (serB_mkF (.inl hs0)))
      rcases classB_cases hc with rfl | rfl
      all_goals
        go_enter Try.func65, Try.ntmps65
        go_wp2
        go_ret
        exact ⟨ret_int hv.out.symm, rfl⟩
    · by_cases hs1 : 4294967295 < s
      · have hv := Lib.hid (mkKey_noS (c := c) (serB_mkF (.inr hs1)))
        rcases classB_cases hc with rfl | rfl
        all_goals
          go_enter Try.func65, Try.ntmps65
          go_wp2
          go_ret
          exact ⟨ret_int hv.out.symm, rfl⟩
      · have hv := Lib.hid (mkKey_yes (s := s) hc (serB_mk (by omega) (by omega)))
        have hj := or_join (c * 72057594037927936) s (by rcases classB_cases hc with rfl | rfl <;> omega) (by omega) (by rcases classB_cases hc with rfl | rfl <;> omega) (by omega) (by omega)
        rcases classB_cases hc with rfl | rfl
        all_goals
          have HJ := Lib.hid hj
          clear hj
          go_enter Try.func65, Try.ntmps65
          go_wp2
          go_ret
          exact ⟨ret_int (by rw [hv.out]; exact HJ.out), rfl⟩

set_option maxHeartbeats 400000 in
theorem refValid_any (k : Int) (w : World) (h0 : 0 ≤ k) (h1 : k ≤ 18446744073709551615) :
    Calls Try.prog 53 #[.int .u64 k] w fun e w' => e = .returned (.bool (valB k)) ∧ w = w' := by
  have ha := and_low56 k h0 h1
  cases hk : (k != 0)
  · have hv := Lib.hid (show valB k = false by rw [valB_ref, hk]; rfl)
    go_enter Try.func53, Try.ntmps53
    go_wp2
    go_ret
    exact ⟨ret_bool hv.out.symm, rfl⟩
  · have hv := Lib.hid (show valB k = (mkKey (k / 72057594037927936) (k % 72057594037927936) == k) by rw [valB_ref, hk]; rfl)
    go_enter Try.func53, Try.ntmps53
    go_wp2_with (go_at_call 65; refine (refMake_any _ _ _).mono ?_; rintro e w' ⟨rfl, rfl⟩)
    go_ret
    exact ⟨ret_bool hv.out.symm, rfl⟩

set_option maxHeartbeats 400000 in
theorem long_any (n : Int) (w : World) (h0 : 0 ≤ n) (h1 : n ≤ 1000000) :
    Calls Try.prog 46 #[.int .i64 n] w fun e w' => e = .returned (.int .u64 (72057594037927936 + (n + 1))) ∧ w = w' := by
  have hj := or_join 72057594037927936 (n + 1) (by omega) (by omega) (by omega) (by omega) (by omega)
  have HJ := Lib.hid hj
  clear hj
  go_enter Try.func46, Try.ntmps46
  go_wp2
  go_ret
  exact ⟨ret_int (by rw [Int.add_comm 1 n]; exact HJ.out), rfl⟩

end Go.Proofs.Ytegcdefdkebmnaa
