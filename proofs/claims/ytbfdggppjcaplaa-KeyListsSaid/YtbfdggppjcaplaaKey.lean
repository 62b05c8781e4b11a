/- Contracts of package key (isClass, isSerial, split, Make, Valid, Class, Serial) and of its reference. -/
import Derived.Test.YtbfdggppjcaplaaBase
namespace Go.Proofs.Ytbfdggppjcaplaa
open Go.RowKit

def classB (c : Int) : Bool := c == 1 || c == 2
def serB (s : Int) : Bool := decide (1 ≤ s ∧ s ≤ 4294967295)
def mkKey (c s : Int) : Int := if classB c && serB s then c * 72057594037927936 + s else 0
def valB (k : Int) : Bool := classB (k / 72057594037927936) && serB (k % 72057594037927936)
def clsOf (k : Int) : Int := if valB k then k / 72057594037927936 else 0
def serOf (k : Int) : Int := if valB k then k % 72057594037927936 else 0

theorem classB_cases {c : Int} (h : classB c = true) : c = 1 ∨ c = 2 := by simpa [classB] using h
theorem classB_not {c : Int} (h : classB c = false) : (c == 1) = false ∧ (c == 2) = false := by
  unfold classB at h; cases h1 : (c == 1) <;> cases h2 : (c == 2) <;> simp_all
theorem serB_true {s : Int} (h : serB s = true) : 1 ≤ s ∧ s ≤ 4294967295 := by simpa [serB] using h
theorem serB_false {s : Int} (h : serB s = false) : s < 1 ∨ 4294967295 < s := by simp [serB] at h; omega
theorem serB_mk {s : Int} (h : 1 ≤ s) (g : s ≤ 4294967295) : serB s = true := by simp [serB]; omega
theorem serB_mkF {s : Int} (h : s < 1 ∨ 4294967295 < s) : serB s = false := by simp [serB]; omega

set_option maxHeartbeats 400000 in
theorem isClass_any (n : Int) (w : World) :
    Calls Try.prog 47 #[.int .i64 n] w fun e w' => e = .returned (.bool (classB n)) ∧ w = w' := by
  cases h1 : (n == 1)
  · have hf := Lib.hid (show classB n = (n == 2) by simp [classB, h1])
    go_enter Try.func47, Try.ntmps47
    go_wp2
    go_ret
    exact ⟨ret_bool hf.out.symm, rfl⟩
  · have hf := Lib.hid (show classB n = true by simp [classB, h1])
    go_enter Try.func47, Try.ntmps47
    go_wp2
    go_ret
    exact ⟨ret_bool hf.out.symm, rfl⟩

set_option maxHeartbeats 400000 in
theorem isSerial_any (n : Int) (w : World) :
    Calls Try.prog 48 #[.int .i64 n] w fun e w' => e = .returned (.bool (serB n)) ∧ w = w' := by
  by_cases h0 : 1 ≤ n
  · by_cases h1 : n ≤ 4294967295
    · go_enter Try.func48, Try.ntmps48
      go_wp2
      go_ret
      exact ⟨ret_bool (serB_mk h0 h1).symm, rfl⟩
    · go_enter Try.func48, Try.ntmps48
      go_wp2
      go_ret
      exact ⟨ret_bool (serB_mkF (by omega)).symm, rfl⟩
  · go_enter Try.func48, Try.ntmps48
    go_wp2
    go_ret
    exact ⟨ret_bool (serB_mkF (by omega)).symm, rfl⟩

theorem ret_split {a b c d : Int} {x y : Bool} (h : a = b) (g : c = d) (i : x = y) : Ending.returned (.tuple #[.int .i64 a, .int .i64 c, .bool x]) = .returned (.tuple #[.int .i64 b, .int .i64 d, .bool y]) := by rw [h, g, i]

set_option maxHeartbeats 400000 in
theorem split_any (k : Int) (w : World) (h0 : 0 ≤ k) (h1 : k ≤ 18446744073709551615) :
    Calls Try.prog 49 #[.int .u64 k] w fun e w' => e = .returned (.tuple #[.int .i64 (clsOf k), .int .i64 (serOf k), .bool (valB k)]) ∧ w = w' := by
  have ha := and_low56 k h0 h1
  cases hc : classB (k / 72057594037927936)
  · have hv := Lib.hid (show valB k = false by simp [valB, hc])
    go_enter Try.func49, Try.ntmps49
    go_wp2_with (go_at_call 47; refine (isClass_any _ _).mono ?_; rintro e w' ⟨rfl, rfl⟩)
    go_ret3
    exact ⟨ret_split (by simp [clsOf, hv.out]) (by simp [serOf, hv.out]) hv.out.symm, rfl⟩
  · cases hs : serB (k % 72057594037927936)
    · have hv := Lib.hid (show valB k = false by simp [valB, hs])
      go_enter Try.func49, Try.ntmps49
      go_wp2_with (first | (go_at_call 47; refine (isClass_any _ _).mono ?_; rintro e w' ⟨rfl, rfl⟩) | (go_at_call 48; refine (isSerial_any _ _).mono ?_; rintro e w' ⟨rfl, rfl⟩))
      go_ret3
      exact ⟨ret_split (by simp [clsOf, hv.out]) (by simp [serOf, hv.out]) hv.out.symm, rfl⟩
    · have hv := Lib.hid (show valB k = true by simp [valB, hc, hs])
      go_enter Try.func49, Try.ntmps49
      go_wp2_with (first | (go_at_call 47; refine (isClass_any _ _).mono ?_; rintro e w' ⟨rfl, rfl⟩) | (go_at_call 48; refine (isSerial_any _ _).mono ?_; rintro e w' ⟨rfl, rfl⟩))
      go_ret3
      exact ⟨ret_split (by simp [clsOf, hv.out]) (by simp [serOf, hv.out]) hv.out.symm, rfl⟩

set_option maxHeartbeats 400000 in
theorem valid_any (k : Int) (w : World) (h0 : 0 ≤ k) (h1 : k ≤ 18446744073709551615) :
    Calls Try.prog 16 #[.int .u64 k] w fun e w' => e = .returned (.bool (valB k)) ∧ w = w' := by
  go_enter Try.func16, Try.ntmps16
  go_wp2_with (go_at_call 49; refine (split_any _ _ h0 h1).mono ?_; rintro e w' ⟨rfl, rfl⟩)
  go_ret
  exact ⟨rfl, rfl⟩

set_option maxHeartbeats 400000 in
theorem class_any (k : Int) (w : World) (h0 : 0 ≤ k) (h1 : k ≤ 18446744073709551615) :
    Calls Try.prog 17 #[.int .u64 k] w fun e w' => e = .returned (.int .i64 (clsOf k)) ∧ w = w' := by
  go_enter Try.func17, Try.ntmps17
  go_wp2_with (go_at_call 49; refine (split_any _ _ h0 h1).mono ?_; rintro e w' ⟨rfl, rfl⟩)
  go_ret
  exact ⟨rfl, rfl⟩

set_option maxHeartbeats 400000 in
theorem serial_any (k : Int) (w : World) (h0 : 0 ≤ k) (h1 : k ≤ 18446744073709551615) :
    Calls Try.prog 18 #[.int .u64 k] w fun e w' => e = .returned (.int .i64 (serOf k)) ∧ w = w' := by
  go_enter Try.func18, Try.ntmps18
  go_wp2_with (go_at_call 49; refine (split_any _ _ h0 h1).mono ?_; rintro e w' ⟨rfl, rfl⟩)
  go_ret
  exact ⟨rfl, rfl⟩

end Go.Proofs.Ytbfdggppjcaplaa
