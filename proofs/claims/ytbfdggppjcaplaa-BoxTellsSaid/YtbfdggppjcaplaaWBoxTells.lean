/- The walk of BoxTells. -/
import Derived.Test.YtbfdggppjcaplaaSls
import Derived.Test.YtbfdggppjcaplaaBoxRef
import Derived.Test.YtbfdggppjcaplaaBoxOpenRef
import Derived.Test.YtbfdggppjcaplaaListRef
import Derived.Deep.RegionHeld3
namespace Go.Proofs.Ytbfdggppjcaplaa
open Go.RowKit Go.ChangeShapes
namespace BoxTells
set_option linter.unusedVariables false

set_option maxRecDepth 100000 in
set_option maxHeartbeats 4000000 in
theorem walk0 (a0 : Option Addr) (len0 cap0 : Nat) (z0 : List Int) (a1 : Option Addr) (len1 cap1 : Nat) (z1 : List Int) (a2 : Int) (a3 : Int) (a4 : Int) (a5 : Int) (w : World) (w0 : IsRow .u8 w a0 len0 cap0 z0) (w1 : IsRow .u8 w a1 len1 cap1 z1) (w2 : (Lit.int .i64 a2).wf = true) (w3 : (Lit.int .u64 a3).wf = true) (w4 : (Lit.int .u8 a4).wf = true) (w5 : (Lit.int .u16 a5).wf = true) :
    Calls Try.prog 11 #[.slice a0 len0 cap0, .slice a1 len1 cap1, .int .i64 a2, .int .u64 a3, .int .u8 a4, .int .u16 a5] w fun e w' => e = .returned (.bool true) ∧ Below w.heap.size w w' := by
  have u3 := bounds_u64' w3
  have u4 := bounds_u8 w4
  have u5 := bounds_u16 w5
  have W0 := Lib.hid w0
  have R1 := Lib.hid w1.row
  have HBZ : Hid (∀ n ∈ z1.take len1, 0 ≤ n ∧ n ≤ 255) := Lib.hid (fun n hn => bounds_u8 (w1.wf n hn))
  have HN1 : Hid (a1 = none → len1 = 0 ∧ cap1 = 0) := Lib.hid (fun h => by
    rcases w1 with ⟨_, h1, h2, _⟩ | ⟨x, h1, _⟩
    · exact ⟨h1, h2⟩
    · rw [h] at h1; cases h1)
  have hl0 : len0 ≤ 9223372036854775807 := by have := w0.row.2.1; unfold maxLen at this; omega
  have hl1 : len1 ≤ 9223372036854775807 := by have := R1.out.2.1; unfold maxLen at this; omega
  clear w0 w1 w2 w3 w4 w5
  generalize z1.take len1 = zb at *
  by_cases hb0 : 1100 < len0
  · have hb0' : decide (1100 < len0) = true := by simpa using hb0
    go_enter Try.func11, Try.ntmps11
    go_wp2_with (go_at_call 29; refine (awake4_any _).mono ?_; rintro e wa ⟨rfl, hba⟩; have HBA := Lib.hid hba; clear hba)
    go_ret
    exact ⟨rfl, HBA.out⟩
  have hb0' : decide (1100 < len0) = false := by simpa using hb0
  by_cases hb1 : 900 < len1
  · have hb1' : decide (900 < len1) = true := by simpa using hb1
    go_enter Try.func11, Try.ntmps11
    go_wp2_with (go_at_call 29; refine (awake4_any _).mono ?_; rintro e wa ⟨rfl, hba⟩; have HBA := Lib.hid hba; clear hba)
    go_ret
    exact ⟨rfl, HBA.out⟩
  have hb1' : decide (900 < len1) = false := by simpa using hb1
  have hlv := (longOf_val (n := a4) (by omega) (by omega)).2
  have HZL := Lib.hid R1.out.1
  go_enter Try.func11, Try.ntmps11
  go_wp2_with (first | (go_at_call 29; refine (awake4_any _).mono ?_; rintro e wa ⟨rfl, hba⟩; have HBA := Lib.hid hba; clear hba) | (go_at_call 31; refine (long_any _ _ (by omega) (by omega)).mono ?_; rintro e w' ⟨rfl, rfl⟩))
  refine (refBoxMake_any _ _ _ _ _ zb _ (R1.out.below HBA.out) hlv.1 hlv.2 HN1.out).mono ?_
  rintro e wb ⟨v1, rfl, hown1⟩
  have HXB : Hid (∀ x ∈ makeOut (1 + a4 % 10) (longOf a4) zb, 0 ≤ x ∧ x ≤ 255) := Lib.hid (makeOut_bd (by omega) hlv.1 hlv.2 (by have := HZL.out; omega) HBZ.out)
  have hxl : (makeOut (1 + a4 % 10) (longOf a4) zb).length ≤ 912 := by have := makeOut_len (1 + a4 % 10) (longOf a4) zb; have := HZL.out; omega
  obtain ⟨er, HER⟩ : ∃ er, Hid (makeErr (1 + a4 % 10) (longOf a4) zb.length = er) := ⟨_, rfl⟩
  rw [HER.out]
  generalize makeOut (1 + a4 % 10) (longOf a4) zb = xs at *
  obtain ⟨xa, xcap, hx, hxc1, hxc2, hxrow, hxn⟩ := own_form' hown1 (by omega)
  have HX := Lib.hid hxrow
  have HXN := Lib.hid hxn
  have HBB := Lib.hid (bthen HBA.out hown1.2)
  have HSX : Hid (Sl wb (.slice xa xs.length xcap) xs) := Lib.hid ⟨_, _, _, rfl, hxrow, HXB.out, hxc1, hxc2, by omega⟩
  rw [hx]
  clear hx hxrow hown1 hxn HBA HER HZL
  generalize xs.length = nx at *
  go_wp2_with fail
  refine (spoil_any _ _ _ xs _ _ HX.out HXB.out (by omega) HXN.out u5.1 u5.2).mono ?_
  rintro e wc ⟨v2, ys, rfl, hown2, hyb, hyl⟩
  have hxl' := HX.out.1
  have hsy := sl_own hown2 hyb (by omega)
  obtain ⟨ya, ny, ycap, rfl, _⟩ := id hsy
  have HSY := Lib.hid hsy
  clear hsy
  have HBC := Lib.hid (bthen HBB.out hown2.2)
  have HS0 : Hid (Sl wc (.slice a0 len0 cap0) (z0.take len0)) := Lib.hid ((sl_row W0.out (by omega)).below HBC.out)
  have HS1 : Hid (Sl wc (.slice xa nx xcap) xs) := Lib.hid (HSX.out.below hown2.2)
  clear hown2 hyb hyl hxl' HSX HX HXN HXB HBB W0
  have HHAS : Hid (Has (wc.alloc (.cells #[.slice a0 len0 cap0, .slice xa nx xcap, .slice ya ny ycap] 32)) wc.heap.size 3) := Lib.hid (has3 _ HS0.out HS1.out HSY.out)
  have HBD : Hid (Below w.heap.size w (wc.alloc (.cells #[.slice a0 len0 cap0, .slice xa nx xcap, .slice ya ny ycap] 32))) := Lib.hid (HBC.out.alloc HBC.out.size _)
  clear HS0 HS1 HSY
  go_wp2
  generalize (wc.alloc (.cells #[.slice a0 len0 cap0, .slice xa nx xcap, .slice ya ny ycap] 32)) = ws at *
  generalize wc.heap.size = B at *
  go_loopw [16] (fun i wr => ∃ k : Nat, k ≤ 3 ∧ i = .int .i64 k ∧ Hid (Below w.heap.size w wr ∧ Has wr B 3)) (fun i _ => 3 - (intOf i).toNat)
  case atStart => exact ⟨0, by omega, rfl, Lib.hid ⟨HBD.out, HHAS.out⟩⟩
  case round =>
    clear HBD HHAS HBC
    obtain ⟨k, hk, rfl, HI⟩ := hrel
    by_cases hlt : k < 3
    · obtain ⟨v, zs, hcell, hsl⟩ := HI.out.2 k hlt
      obtain ⟨la, ln, lcap, rfl, hlr, hlb, hlc1, hlc2, hln⟩ := hsl
      have HLR := Lib.hid hlr
      have HLB := Lib.hid hlb
      have HLE := Lib.hid hlr.1
      have hol : ∀ kind key : Int, (openOut zs kind key).length ≤ 100000 := fun kind key => by have := openOut_len zs kind key; have := hlr.1; omega
      have HOL := Lib.hid hol
      clear hlr hlb hol
      go_wp2_with fail
      refine (boxOpen_any _ _ _ _ _ zs _ HLR.out HLB.out hlc1 hlc2).mono ?_
      rintro e x1 ⟨y1, rfl, hown1⟩
      obtain ⟨ca1, cc1, hy1, _, _, hrow1, _⟩ := own_form' hown1 (HOL.out _ _)
      have HY1 := Lib.hid hrow1
      have HB1 := Lib.hid hown1.2
      have hcell1 : x1.cell? ⟨B, k, none⟩ = some (.slice la ln lcap) := by rw [hown1.2.cell (World.block_lt_of_cell? _ _ hcell)]; exact hcell
      rw [hy1]
      clear hy1 hrow1 hown1
      go_wp2_with fail
      refine (refBoxOpen_any _ _ _ _ _ zs _ (HLR.out.below HB1.out) HLB.out hlc1 hlc2).mono ?_
      rintro e x2 ⟨y2, rfl, hown2⟩
      obtain ⟨ca2, cc2, hy2, _, _, hrow2, _⟩ := own_form' hown2 (HOL.out _ _)
      have HB2 := Lib.hid (bthen HB1.out hown2.2)
      have hcell2 : x2.cell? ⟨B, k, none⟩ = some (.slice la ln lcap) := by rw [hown2.2.cell (World.block_lt_of_cell? _ _ hcell1)]; exact hcell1
      have hcv1 := str_at (cap := cc1) (HY1.out.below hown2.2)
      have hcv2 := str_at (cap := cc2) hrow2
      rw [hy2]
      clear hy2 hrow2 hown2 HY1 HB1 hcell hcell1
      generalize (openOut zs a2 a3).length = n1 at *
      generalize openOut zs a2 a3 = o1 at *
      generalize openOk zs a2 a3 = k1 at *
      go_wp2
      clear hcv1 hcv2
      have HB3 : Hid (Below wr.heap.size wr x2.drew) := Lib.hid HB2.out.drew
      have hcell3 : x2.drew.cell? ⟨B, k, none⟩ = some (.slice la ln lcap) := hcell2
      have hwa : IntKind.i64.wrap a4 = a4 := IntWalk.i64_in _ (by omega)
      have hwd : a4.tmod 10 = a4 % 10 := Int.tmod_eq_emod_of_nonneg (by omega)
      have hwb : IntKind.i64.wrap (a4 % 10) = a4 % 10 := IntWalk.i64_in _ (by omega)
      have hwc : IntKind.i64.wrap (1 + a4 % 10) = 1 + a4 % 10 := IntWalk.i64_in _ (by omega)
      have hka : (0 : Int) ≤ (k : Int) := by omega
      have hkb : (k : Int) < 3 := by omega
      go_region_held3 (fun w' => w'.cell? ⟨B, k, none⟩ = some (.slice la ln lcap)) (first | exact hcell4 | exact hcell3 | go_keep) (first | (go_at_call 31; refine (long_any a4 _ (by omega) (by omega)).mono ?_; rintro e w' ⟨rfl, rfl⟩) | (go_at_call 40; refine (boxOpen_any _ _ _ _ _ zs _ (HLR.out.below HB3.out) HLB.out hlc1 hlc2).mono ?_; rintro e x4 ⟨y3, rfl, hown3⟩; obtain ⟨ca3, cc3, hy3, _, _, hrow3, _⟩ := own_form' hown3 (HOL.out _ _); have HY3 := Lib.hid hrow3; have HB4 := Lib.hid (bthen HB3.out hown3.2); have hcell4 : x4.cell? ⟨B, k, none⟩ = some (.slice la ln lcap) := (by rw [hown3.2.cell (World.block_lt_of_cell? _ _ hcell3)]; exact hcell3); rw [hy3]; clear hy3 hrow3 hown3))
      clear HB3 hcell3 HB2 hcell2 hwa hwb hwc hwd
      go_wp2
      have HB5 : Hid (Below wr.heap.size wr x4.drew) := Lib.hid HB4.out.drew
      have HY5 : Hid (Row .u8 x4.drew ca3 (openOut zs (1 + a4 % 10) (longOf a4)).length (openOut zs (1 + a4 % 10) (longOf a4))) := Lib.hid (HY3.out.below (Below.drewN1 x4 1 _))
      have hcell5 : x4.drew.cell? ⟨B, k, none⟩ = some (.slice la ln lcap) := hcell4
      have hwa : IntKind.i64.wrap a4 = a4 := IntWalk.i64_in _ (by omega)
      have hwd : a4.tmod 10 = a4 % 10 := Int.tmod_eq_emod_of_nonneg (by omega)
      have hwb : IntKind.i64.wrap (a4 % 10) = a4 % 10 := IntWalk.i64_in _ (by omega)
      have hwc : IntKind.i64.wrap (1 + a4 % 10) = 1 + a4 % 10 := IntWalk.i64_in _ (by omega)
      go_region_held3 (fun w' => w'.cell? ⟨B, k, none⟩ = some (.slice la ln lcap)) (first | exact hcell6 | exact hcell5 | go_keep) (first | (go_at_call 31; refine (long_any a4 _ (by omega) (by omega)).mono ?_; rintro e w' ⟨rfl, rfl⟩) | (go_at_call 41; refine (refBoxOpen_any _ _ _ _ _ zs _ (HLR.out.below HB5.out) HLB.out hlc1 hlc2).mono ?_; rintro e x6 ⟨y4, rfl, hown4⟩; obtain ⟨ca4, cc4, hy4, _, _, hrow4, _⟩ := own_form' hown4 (HOL.out _ _); have HB6 := Lib.hid (bthen HB5.out hown4.2); have hcv3 := str_at (cap := cc3) (HY5.out.below hown4.2); have hcv4 := str_at (cap := cc4) hrow4; have hcell6 : x6.cell? ⟨B, k, none⟩ = some (.slice la ln lcap) := (by rw [hown4.2.cell (World.block_lt_of_cell? _ _ hcell5)]; exact hcell5); rw [hy4]; clear hy4 hrow4 hown4))
      clear HB5 HY5 HY3 HB4 hcell4 hcell5 hwa hwb hwc hwd
      generalize (openOut zs (1 + a4 % 10) (longOf a4)).length = n2 at *
      generalize openOut zs (1 + a4 % 10) (longOf a4) = o2 at *
      generalize openOk zs (1 + a4 % 10) (longOf a4) = k2 at *
      go_wp2
      go_roundw
      case rel => exact ⟨k + 1, by omega, by go_num, Lib.hid ⟨bthen HI.out.1 HB6.out, HI.out.2.below HB6.out⟩⟩
      case measure => simp [intOf]; omega
    · go_wp2
      go_ret
      exact ⟨rfl, HI.out.1⟩
end BoxTells
end Go.Proofs.Ytbfdggppjcaplaa
