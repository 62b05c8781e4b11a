/- Contracts of key.Make and of the reference's Make, Valid, Class, Serial. -/
import Derived.Test.YtbfdggppjcaplaaKey
namespace Go.Proofs.Ytbfdggppjcaplaa
open Go.RowKit

theorem mkKey_bd (c s : Int) : 0 ≤ mkKey c s ∧ mkKey c s ≤ 18446744073709551615 := by
  unfold mkKey
  cases hc : classB c <;> cases hs : serB s <;> simp
  have h1 := classB_cases hc
  have h2 := serB_true hs
  omega
theorem mkKey_yes {c s : Int} (hc : classB c = true) (hs : serB s = true) : mkKey c s = c * 72057594037927936 + s := by simp [mkKey, hc, hs]
theorem mkKey_noC {c s : Int} (hc : classB c = false) : mkKey c s = 0 := by simp [mkKey, hc]
theorem mkKey_noS {c s : Int} (hs : serB s = false) : mkKey c s = 0 := by simp [mkKey, hs]
theorem valB_mkKey (c s : Int) : valB (mkKey c s) = (mkKey c s != 0) := by
  cases hc : classB c
  · rw [mkKey_noC hc]; decide
  · cases hs : serB s
    · rw [mkKey_noS hs]; decide
    · rw [mkKey_yes hc hs]
      have h2 := serB_true hs
      have hd : (c * 72057594037927936 + s) / 72057594037927936 = c := by omega
      have hm : (c * 72057594037927936 + s) % 72057594037927936 = s := by omega
      have h1 := classB_cases hc
      simp [valB, hd, hm, hc, hs]
      omega
theorem cls_mkKey {c s : Int} (h : mkKey c s ≠ 0) : clsOf (mkKey c s) = c ∧ serOf (mkKey c s) = s := by
  have hv : valB (mkKey c s) = true := by rw [valB_mkKey]; simpa using h
  cases hc : classB c
  · exact absurd (mkKey_noC hc) h
  · cases hs : serB s
    · exact absurd (mkKey_noS hs) h
    · unfold clsOf serOf
      rw [hv, mkKey_yes hc hs]
      have h2 := serB_true hs
      exact ⟨by simp; omega, by simp; omega⟩
/-- the reference's Valid -/
theorem valB_ref (k : Int) : valB k = (k != 0 && mkKey (k / 72057594037927936) (k % 72057594037927936) == k) := by
  unfold valB mkKey
  cases hc : classB (k / 72057594037927936) <;> cases hs : serB (k % 72057594037927936) <;> simp
  · intro h h2; omega
  · intro h h2; omega
  · intro h h2; omega
  · have h2 := serB_true hs
    have h1 := classB_cases hc
    omega

set_option maxHeartbeats 400000 in
theorem make_any (c s : Int) (w : World) :
    Calls Try.prog 14 #[.int .i64 c, .int .i64 s] w fun e w' => e = .returned (.int .u64 (mkKey c s)) ∧ w = w' := by
  cases hc : classB c
  · have hv := Lib.hid (mkKey_noC (s := s) hc)
    go_enter Try.func14, Try.ntmps14
    go_wp2_with (go_at_call 47; refine (isClass_any _ _).mono ?_; rintro e w' ⟨rfl, rfl⟩)
    go_ret
    exact ⟨ret_int hv.out.symm, rfl⟩
  · cases hs : serB s
    · have hv := Lib.hid (mkKey_noS (c := c) hs)
      go_enter Try.func14, Try.ntmps14
      go_wp2_with (first | (go_at_call 47; refine (isClass_any _ _).mono ?_; rintro e w' ⟨rfl, rfl⟩) | (go_at_call 48; refine (isSerial_any _ _).mono ?_; rintro e w' ⟨rfl, rfl⟩))
      go_ret
      exact ⟨ret_int hv.out.symm, rfl⟩
    · have hv := Lib.hid (mkKey_yes hc hs)
      have h1 := classB_cases hc
      have h2 : 1 ≤ c ∧ c ≤ 2 := by omega
      have h3 := serB_true hs
      clear h1
      go_enter Try.func14, Try.ntmps14
      go_wp2_with (first | (go_at_call 47; refine (isClass_any _ _).mono ?_; rintro e w' ⟨rfl, rfl⟩) | (go_at_call 48; refine (isSerial_any _ _).mono ?_; rintro e w' ⟨rfl, rfl⟩))
      go_ret
      exact ⟨ret_int hv.out.symm, rfl⟩

end Go.Proofs.Ytbfdggppjcaplaa
