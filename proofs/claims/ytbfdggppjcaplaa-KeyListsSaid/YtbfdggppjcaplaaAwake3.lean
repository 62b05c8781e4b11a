/- kerbsuitelaw3.awake answers true. -/
import Derived.Test.YtbfdggppjcaplaaDraw
namespace Go.Proofs.Ytbfdggppjcaplaa
open Go.RowKit

theorem Row.two (w : World) (T : TypeId) (a b : Int) : Row .u64 (w.alloc (.cells #[.int .u64 a, .int .u64 b] T)) (some ⟨w.heap.size, 0, none⟩) 2 [a, b] := Row.lit .u64 w T [a, b] (by simp)

set_option maxHeartbeats 400000 in
theorem awake3_any (w : World) :
    Calls Try.prog 13 #[] w fun e w' => e = .returned (.bool true) ∧ Below w.heap.size w w' := by
  have m5 := Lib.hid (show mkKey 2 5 = 144115188075855877 by decide)
  have m6 := Lib.hid (show mkKey 2 6 = 144115188075855878 by decide)
  go_enter Try.func13, Try.ntmps13
  go_wp2_with fail
  refine (make_any _ _ _).mono ?_
  rintro e w' ⟨rfl, rfl⟩
  rw [m5.out]
  go_wp2_with fail
  refine (make_any _ _ _).mono ?_
  rintro e w' ⟨rfl, rfl⟩
  rw [m6.out]
  go_wp2_with fail
  refine (draw_yes _ _ _ _ _ [144115188075855877, 144115188075855878] _ (Row.two _ _ _ _) (by decide) (by decide) (by decide)).mono ?_
  rintro e w1 ⟨s, hs, rfl, hb⟩
  have hf : firstOf 5 = 5 := by decide
  have hs7 : s = 7 := by
    refine hs.one (.inl ?_)
    rw [hf]
    refine ⟨by decide, by decide, by decide, fun t h1 h2 => ?_⟩
    rcases (by omega : t = 5 ∨ t = 6) with rfl | rfl <;> decide
  subst hs7
  have m7 : mkKey 2 7 = 144115188075855879 := by decide
  rw [m7]
  have e1 := Lib.hid (show serOf 144115188075855879 = 7 ∧ clsOf 144115188075855879 = 2 ∧ valB 144115188075855879 = true by decide)
  have HB := Lib.hid hb
  clear hb hs hf m7
  go_wp2_with fail
  refine (serial_any _ _ (by omega) (by omega)).mono ?_
  rintro e w' ⟨rfl, rfl⟩
  rw [e1.out.1]
  go_wp2_with fail
  refine (class_any _ _ (by omega) (by omega)).mono ?_
  rintro e w' ⟨rfl, rfl⟩
  rw [e1.out.2.1]
  go_wp2_with fail
  refine (valid_any _ _ (by omega) (by omega)).mono ?_
  rintro e w' ⟨rfl, rfl⟩
  rw [e1.out.2.2]
  go_wp2
  go_ret
  exact ⟨rfl, bthen (Below.alloc1 _ _) HB.out⟩

end Go.Proofs.Ytbfdggppjcaplaa
