/- The walk of KeyMakes. -/
import Derived.Test.YtbfdggppjcaplaaAwake3
import Derived.Test.YtbfdggppjcaplaaKeyRef
namespace Go.Proofs.Ytbfdggppjcaplaa
open Go.RowKit Go.ChangeShapes
namespace KeyMakes
set_option linter.unusedVariables false

def Inv (w : World) (B : Nat) (L : List Int) (wr : World) : Prop := (∀ i, i < 4 → wr.cell? ⟨B, i, none⟩ = some (.int .i64 (L[i]?.getD 0))) ∧ Below w.heap.size w wr
theorem Inv.mk4 {w wa : World} (hb : Below w.heap.size w wa) (a b c d : Int) (T : TypeId) : Inv w wa.heap.size [a, b, c, d] (wa.alloc (.cells #[.int .i64 a, .int .i64 b, .int .i64 c, .int .i64 d] T)) := by
  refine ⟨fun i hi => ?_, hb.alloc hb.size _⟩
  rcases (by omega : i = 0 ∨ i = 1 ∨ i = 2 ∨ i = 3) with rfl | rfl | rfl | rfl <;> simp
theorem Inv.drewN {w : World} {B : Nat} {L : List Int} {wr : World} (h : Inv w B L wr) (n : Nat) : Inv w B L (wr.drewN n) :=
  ⟨fun i hi => h.1 i hi, h.2.trans (Below.drewN1 _ _ _)⟩

set_option maxHeartbeats 2000000 in
theorem walk0 (a0 : Int) (a1 : Int) (a2 : Int) (a3 : Int) (w0 : (Lit.int .i64 a0).wf = true) (w1 : (Lit.int .i64 a1).wf = true) (w2 : (Lit.int .u16 a2).wf = true) (w3 : (Lit.int .u64 a3).wf = true) (w : World) :
    Calls Try.prog 3 #[.int .i64 a0, .int .i64 a1, .int .u16 a2, .int .u64 a3] w fun e w' => e = .returned (.bool true) ∧ Below w.heap.size w w' := by
  have u2 := bounds_u16 w2
  have u3 := bounds_u64' w3
  clear w0 w1 w2 w3
  go_enter Try.func3, Try.ntmps3
  go_wp2_with (go_at_call 13; refine (awake3_any _).mono ?_; rintro e wa ⟨rfl, hba⟩; have HBA := Lib.hid hba; clear hba)
  go_loopw [10] (fun i wr => ∃ k : Nat, k ≤ 4 ∧ i = .int .i64 k ∧ Hid (∃ L, Inv w wa.heap.size L wr)) (fun i _ => 4 - (intOf i).toNat)
  case atStart => exact ⟨0, by omega, rfl, Lib.hid ⟨_, Inv.mk4 HBA.out _ _ _ _ _⟩⟩
  case round =>
    clear HBA
    generalize wa.heap.size = B at *
    obtain ⟨k, hk, rfl, HI0⟩ := hrel
    obtain ⟨wo, rfl⟩ : ∃ wo : World, wo = wr := ⟨_, rfl⟩
    by_cases hlt : k < 4
    · have hkd : decide ((k : Int) < 4) = true := by simp; omega
      go_wp2
      go_loopw [11] (fun i wr => ∃ c : Nat, c ≤ 5 ∧ i = .int .i64 c ∧ Hid (∃ L, Inv w B L wr)) (fun i _ => 5 - (intOf i).toNat)
      case atStart => exact ⟨0, by omega, rfl, HI0⟩
      case round =>
        clear HI0
        obtain ⟨c, hc, rfl, HI0⟩ := hrel
        obtain ⟨L, HIL⟩ := HI0.out
        have HI := Lib.hid HIL
        clear HI0 HIL
        have hcell := HI.out.1 k hlt
        generalize L[k]?.getD 0 = l at *
        by_cases hcl : c < 5
        · by_cases h4 : c = 4
          · have h4b : ((c : Int) == 4) = true := by simp; omega
            have H4 := Lib.hid h4
            clear h4
            by_cases hz : mkKey a0 l = 0
            · have v0 : valB 0 = false := by decide
              go_wp2_with (go_at_call 14; refine (make_any _ _ _).mono ?_; rintro e w' ⟨rfl, rfl⟩)
              go_quiet ((first | (go_at_call 15; exact quiet_eq (refMake_any _ _ _)) | (go_at_call 16; exact quiet_eq (valid_any _ _ (by omega) (by omega))) | (go_at_call 17; exact quiet_eq (class_any _ _ (by omega) (by omega))) | (go_at_call 18; exact quiet_eq (serial_any _ _ (by omega) (by omega)))))
              go_wp2
              go_roundw
              case rel => exact ⟨c + 1, by omega, by go_num, Lib.hid ⟨L, HI.out.drewN _⟩⟩
              case measure => simp [intOf]; omega
            · have hbd := mkKey_bd a0 l
              have hne : (mkKey a0 l == 0) = false := by simpa using hz
              have hvx : valB (mkKey a0 l) = true := by rw [valB_mkKey]; simpa using hz
              have hcx := (cls_mkKey hz).1
              have hsx := (cls_mkKey hz).2
              have hn1 : (mkKey a0 l != 0) = true := by simpa using hz
              have hn0 : (0 == mkKey a0 l) = false := by simpa using fun h => hz h.symm
              clear hz
              go_wp2_with (go_at_call 14; refine (make_any _ _ _).mono ?_; rintro e w' ⟨rfl, rfl⟩)
              go_quiet ((first | (go_at_call 15; exact quiet_eq (refMake_any _ _ _)) | (go_at_call 16; exact quiet_eq (valid_any _ _ (by omega) (by omega))) | (go_at_call 17; exact quiet_eq (class_any _ _ (by omega) (by omega))) | (go_at_call 18; exact quiet_eq (serial_any _ _ (by omega) (by omega)))))
              go_wp2
              go_roundw
              case rel => exact ⟨c + 1, by omega, by go_num, Lib.hid ⟨L, HI.out.drewN _⟩⟩
              case measure => simp [intOf]; omega
          · have h4b : ((c : Int) == 4) = false := by simp; omega
            by_cases hz : mkKey (c : Int) l = 0
            · have v0 : valB 0 = false := by decide
              go_wp2_with (go_at_call 14; refine (make_any _ _ _).mono ?_; rintro e w' ⟨rfl, rfl⟩)
              go_quiet ((first | (go_at_call 15; exact quiet_eq (refMake_any _ _ _)) | (go_at_call 16; exact quiet_eq (valid_any _ _ (by omega) (by omega))) | (go_at_call 17; exact quiet_eq (class_any _ _ (by omega) (by omega))) | (go_at_call 18; exact quiet_eq (serial_any _ _ (by omega) (by omega)))))
              go_wp2
              go_roundw
              case rel => exact ⟨c + 1, by omega, by go_num, Lib.hid ⟨L, HI.out.drewN _⟩⟩
              case measure => simp [intOf]; omega
            · have hbd := mkKey_bd (c : Int) l
              have hne : (mkKey (c : Int) l == 0) = false := by simpa using hz
              have hvx : valB (mkKey (c : Int) l) = true := by rw [valB_mkKey]; simpa using hz
              have hcx := (cls_mkKey hz).1
              have hsx := (cls_mkKey hz).2
              have hn1 : (mkKey (c : Int) l != 0) = true := by simpa using hz
              have hn0 : (0 == mkKey (c : Int) l) = false := by simpa using fun h => hz h.symm
              clear hz
              go_wp2_with (go_at_call 14; refine (make_any _ _ _).mono ?_; rintro e w' ⟨rfl, rfl⟩)
              go_quiet ((first | (go_at_call 15; exact quiet_eq (refMake_any _ _ _)) | (go_at_call 16; exact quiet_eq (valid_any _ _ (by omega) (by omega))) | (go_at_call 17; exact quiet_eq (class_any _ _ (by omega) (by omega))) | (go_at_call 18; exact quiet_eq (serial_any _ _ (by omega) (by omega)))))
              go_wp2
              go_roundw
              case rel => exact ⟨c + 1, by omega, by go_num, Lib.hid ⟨L, HI.out.drewN _⟩⟩
              case measure => simp [intOf]; omega
        · go_wp2
          go_roundw
          case rel => exact ⟨k + 1, by omega, by go_num, Lib.hid ⟨L, HI.out⟩⟩
          case measure => simp [intOf]; omega
    · obtain ⟨L, HIL⟩ := HI0.out
      have HB := Lib.hid HIL.2
      clear HI0 HIL
      go_wp2_with (first | (go_at_call 16; refine (valid_any _ _ (by omega) (by omega)).mono ?_; rintro e w' ⟨rfl, rfl⟩) | (go_at_call 19; refine (refValid_any _ _ (by omega) (by omega)).mono ?_; rintro e w' ⟨rfl, rfl⟩) | (go_at_call 17; refine (class_any _ _ (by omega) (by omega)).mono ?_; rintro e w' ⟨rfl, rfl⟩) | (go_at_call 20; refine (refClass_any _ _ (by omega) (by omega)).mono ?_; rintro e w' ⟨rfl, rfl⟩) | (go_at_call 18; refine (serial_any _ _ (by omega) (by omega)).mono ?_; rintro e w' ⟨rfl, rfl⟩) | (go_at_call 21; refine (refSerial_any _ _ (by omega) (by omega)).mono ?_; rintro e w' ⟨rfl, rfl⟩))
      go_ret
      exact ⟨rfl, HB.out⟩
end KeyMakes
end Go.Proofs.Ytbfdggppjcaplaa
