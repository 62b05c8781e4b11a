/- The walk of BoxDistinct. -/
import Derived.Test.YtbfdggppjcaplaaReads
import Derived.Test.YtbfdggppjcaplaaBox
import Derived.Test.YtbfdggppjcaplaaListRef
import Derived.Deep.RegionHeld3
import Derived.Deep.DrawnRows
namespace Go.Proofs.Ytbfdggppjcaplaa
open Go.RowKit Go.ChangeShapes
namespace BoxDistinct
set_option linter.unusedVariables false
attribute [local go_sem ↓] Go.wp_at_zero Go.wp_at_succ

theorem str_ne {a b : ByteArray} (h : ¬ a = b) : (a.toList == b.toList) = false := by
  rw [← Bool.not_eq_true, beq_iff_eq, ByteArray.toList_eq, ByteArray.toList_eq]
  intro e
  apply h
  cases a; cases b
  simp at e
  simp [e]
theorem same_iff {k0 k1 q0 q1 : Int} {za zb : List Int} (hk0 : 0 ≤ k0 ∧ k0 ≤ 255) (hk1 : 0 ≤ k1 ∧ k1 ≤ 255) (hq0 : 0 ≤ q0 ∧ q0 ≤ 255) (hq1 : 0 ≤ q1 ∧ q1 ≤ 255)
    (ha : za.length ≤ 1000) (hb : zb.length ≤ 1000) (ba : ∀ x ∈ za, 0 ≤ x ∧ x ≤ 255) (bb : ∀ x ∈ zb, 0 ≤ x ∧ x ≤ 255) :
    strOfNums (boxOf (1 + k0 % 10) (longOf q0) za) = strOfNums (boxOf (1 + k1 % 10) (longOf q1) zb) ↔ (k0 % 10 = k1 % 10 ∧ q0 = q1 ∧ strOfNums za = strOfNums zb) := by
  have v0 := longOf_val (n := q0) (by omega) (by omega)
  have v1 := longOf_val (n := q1) (by omega) (by omega)
  have f0 := fits_long (kind := 1 + k0 % 10) (n := longOf q0) (body := za) (by omega) ha v0.1
  have f1 := fits_long (kind := 1 + k1 % 10) (n := longOf q1) (body := zb) (by omega) hb v1.1
  constructor
  · intro h
    have := strOfNums_inj _ _ (boxOf_bd (by omega) v0.2.1 v0.2.2 ha ba) (boxOf_bd (by omega) v1.2.1 v1.2.2 hb bb) h
    obtain ⟨e1, e2, e3⟩ := boxOf_inj f0 f1 this
    unfold longOf at e2
    exact ⟨by omega, by omega, by rw [e3]⟩
  · rintro ⟨e1, e2, e3⟩
    rw [e1, e2, strOfNums_inj _ _ ba bb e3]

set_option maxRecDepth 100000 in
set_option maxHeartbeats 4000000 in
theorem walkF (a0 : Option Addr) (len0 cap0 : Nat) (za : List Int) (a1 : Option Addr) (len1 cap1 : Nat) (zb : List Int) (k0 k1 q0 q1 : Int) (w : World)
    (R0 : Hid (Row .u8 w a0 len0 za)) (R1 : Hid (Row .u8 w a1 len1 zb)) (HN0 : Hid (a0 = none → len0 = 0 ∧ cap0 = 0)) (HN1 : Hid (a1 = none → len1 = 0 ∧ cap1 = 0)) (BA : Hid (∀ x ∈ za, 0 ≤ x ∧ x ≤ 255)) (BB : Hid (∀ x ∈ zb, 0 ≤ x ∧ x ≤ 255))
    (uk0 : 0 ≤ k0 ∧ k0 ≤ 255) (uk1 : 0 ≤ k1 ∧ k1 ≤ 255) (uq0 : 0 ≤ q0 ∧ q0 ≤ 255) (uq1 : 0 ≤ q1 ∧ q1 ≤ 255) (hb0 : ¬ 900 < len0) (hb1 : ¬ 900 < len1) :
    Calls Try.prog 9 #[.slice a0 len0 cap0, .slice a1 len1 cap1, .agg #[.int .u8 k0, .int .u8 k1], .agg #[.int .u8 q0, .int .u8 q1], .bool false] w fun e w' => e = .returned (.bool true) ∧ Below w.heap.size w w' := by
  have hb0' : decide (900 < len0) = false := by simpa using hb0
  have hb1' : decide (900 < len1) = false := by simpa using hb1
  have HSAME := Lib.hid (same_iff (za := za) (zb := zb) uk0 uk1 uq0 uq1 (by have := R0.out.1; omega) (by have := R1.out.1; omega) BA.out BB.out)
  have HV0 := Lib.hid (longOf_val (n := q0) (by omega) (by omega))
  have HV1 := Lib.hid (longOf_val (n := q1) (by omega) (by omega))
  have HM0 := Lib.hid (makeOut_fits (fits_long (kind := 1 + k0 % 10) (n := longOf q0) (body := za) (by omega) (by have := R0.out.1; omega) HV0.out.1))
  have HM1 := Lib.hid (makeOut_fits (fits_long (kind := 1 + k1 % 10) (n := longOf q1) (body := zb) (by omega) (by have := R1.out.1; omega) HV1.out.1))
  have HL0 : Hid ((boxOf (1 + k0 % 10) (longOf q0) za).length ≤ 100000) := Lib.hid (by have := R0.out.1; rw [boxOf_len]; omega)
  have HL1 : Hid ((boxOf (1 + k1 % 10) (longOf q1) zb).length ≤ 100000) := Lib.hid (by have := R1.out.1; rw [boxOf_len]; omega)
  have HC0 : Hid (∀ X, Below w.heap.size w X → Calls Try.prog 32 #[.int .i64 (1 + k0 % 10), .int .u64 (longOf q0), .slice a0 len0 cap0] X (MakePost (1 + k0 % 10) (longOf q0) za X)) := Lib.hid (fun X hX => boxMake_any _ _ _ _ _ za _ (R0.out.below hX) HV0.out.2.1 HV0.out.2.2 HN0.out)
  have HC1 : Hid (∀ X, Below w.heap.size w X → Calls Try.prog 32 #[.int .i64 (1 + k1 % 10), .int .u64 (longOf q1), .slice a1 len1 cap1] X (MakePost (1 + k1 % 10) (longOf q1) zb X)) := Lib.hid (fun X hX => boxMake_any _ _ _ _ _ zb _ (R1.out.below hX) HV1.out.2.1 HV1.out.2.2 HN1.out)
  have HG0 : Hid (∀ X, Calls Try.prog 31 #[.int .i64 q0] X fun e w' => e = .returned (.int .u64 (longOf q0)) ∧ X = w') := Lib.hid (fun X => long_any _ _ (by omega) (by omega))
  have HG1 : Hid (∀ X, Calls Try.prog 31 #[.int .i64 q1] X fun e w' => e = .returned (.int .u64 (longOf q1)) ∧ X = w') := Lib.hid (fun X => long_any _ _ (by omega) (by omega))
  go_enter Try.func9, Try.ntmps9
  go_wp2_with (go_at_call 29; refine (awake4_any _).mono ?_; rintro e wa ⟨rfl, hba⟩; have HBA := Lib.hid hba; clear hba)
  have HB1 : Hid (Below w.heap.size w wa) := Lib.hid (bthen (bthen (Below.alloc1 w (.cells #[.int .u8 k0, .int .u8 k1] 55)) (Below.alloc1 _ (.cells #[.int .u8 q0, .int .u8 q1] 55))) HBA.out)
  have HCK : Hid (∀ X, Below wa.heap.size wa X → X.cell? ⟨w.heap.size, 0, none⟩ = some (.int .u8 k0) ∧ X.cell? ⟨w.heap.size, 1, none⟩ = some (.int .u8 k1) ∧ X.cell? ⟨w.heap.size + 1, 0, none⟩ = some (.int .u8 q0) ∧ X.cell? ⟨w.heap.size + 1, 1, none⟩ = some (.int .u8 q1)) := Lib.hid (fun X hX => by
    obtain ⟨h1, h2, _⟩ := cells_two (Below.refl _ _) (bthen HBA.out hX)
    rw [World.size_alloc] at h2
    exact ⟨h1 0, h1 1, h2 0, h2 1⟩)
  clear HBA
  go_upto_region 7 with fail
  generalize hG : w.heap.size = G at *
  have HG := Lib.hid hG
  clear hG
  have HQ0 : Hid (Below G w wa.drew) := Lib.hid HB1.out.drew
  have HK0 := Lib.hid (HCK.out _ (Below.refl _ _))
  have hwk : IntKind.i64.wrap k0 = k0 := IntWalk.i64_in _ (by omega)
  have hwq : IntKind.i64.wrap q0 = q0 := IntWalk.i64_in _ (by omega)
  have hwd : k0.tmod 10 = k0 % 10 := Int.tmod_eq_emod_of_nonneg (by omega)
  have hwb : IntKind.i64.wrap (k0 % 10) = k0 % 10 := IntWalk.i64_in _ (by omega)
  have hwc : IntKind.i64.wrap (1 + k0 % 10) = 1 + k0 % 10 := IntWalk.i64_in _ (by omega)
  go_region_held3 (fun w' => w'.cell? ⟨G, 0, none⟩ = some (.int .u8 k0) ∧ w'.cell? ⟨G + 1, 0, none⟩ = some (.int .u8 q0)) (first | exact ⟨HK0.out.1, HK0.out.2.2.1⟩ | exact ⟨HK1.out.1, HK1.out.2.2.1⟩) (first | (go_simp; go_at_call 31; refine (HG0.out _).mono ?_; rintro e w' ⟨rfl, rfl⟩) | (go_simp; go_at_call 32; refine (HC0.out _ (by first | exact HQ0.out | (rw [HG.out]; exact HQ0.out))).mono ?_; rintro e wb ⟨v1, rfl, hown1⟩; rw [HM0.out.1]; rw [HM0.out.2] at hown1; obtain ⟨xa, xc, hx, _, _, hrow1, _⟩ := own_form' hown1 HL0.out; have HY1 := Lib.hid hrow1; have HBB := Lib.hid hown1.2; have HK1 := Lib.hid (HCK.out _ (Below.drewN1 wa 1 _ |>.trans (hown1.2.mono (Nat.le_refl _)))); rw [hx]; clear hx hrow1 hown1))
  go_upto_region 8 with fail
  clear hwk hwq hwd hwb hwc HM0
  have HAB : Hid (Below wa.heap.size wa wb.drew) := Lib.hid (((Below.drewN1 wa 1 _).trans (HBB.out.mono (Nat.le_refl _))).drew)
  have HQ1 : Hid (Below G w wb.drew) := Lib.hid (by have := bthen (by rw [HG.out]; exact HB1.out : Below w.heap.size w wa) HAB.out; rw [HG.out] at this; exact this)
  have HY2 : Hid (Row .u8 wb.drew xa (boxOf (1 + k0 % 10) (longOf q0) za).length (boxOf (1 + k0 % 10) (longOf q0) za)) := Lib.hid (HY1.out.below (Below.drewN1 wb 1 _))
  have HKD := Lib.hid (HCK.out _ HAB.out)
  clear HK0 HK1 HQ0 HY1 HBB
  generalize boxOf (1 + k0 % 10) (longOf q0) za = bx at *
  generalize bx.length = nx at *
  have hwk : IntKind.i64.wrap k1 = k1 := IntWalk.i64_in _ (by omega)
  have hwq : IntKind.i64.wrap q1 = q1 := IntWalk.i64_in _ (by omega)
  have hwd : k1.tmod 10 = k1 % 10 := Int.tmod_eq_emod_of_nonneg (by omega)
  have hwb : IntKind.i64.wrap (k1 % 10) = k1 % 10 := IntWalk.i64_in _ (by omega)
  have hwc : IntKind.i64.wrap (1 + k1 % 10) = 1 + k1 % 10 := IntWalk.i64_in _ (by omega)
  go_region_held3 (fun w' => w'.cell? ⟨G, 1, none⟩ = some (.int .u8 k1) ∧ w'.cell? ⟨G + 1, 1, none⟩ = some (.int .u8 q1)) (first | exact ⟨HKD.out.2.1, HKD.out.2.2.2⟩ | exact ⟨HKE.out.2.1, HKE.out.2.2.2⟩) (first | (go_simp; go_at_call 31; refine (HG1.out _).mono ?_; rintro e w' ⟨rfl, rfl⟩) | (go_simp; go_at_call 32; refine (HC1.out _ (by first | exact HQ1.out | (rw [HG.out]; exact HQ1.out))).mono ?_; rintro e wc ⟨v2, rfl, hown2⟩; rw [HM1.out.1]; rw [HM1.out.2] at hown2; obtain ⟨ya, yc, hy, _, _, hrow2, _⟩ := own_form' hown2 HL1.out; have HZ1 := Lib.hid hrow2; have HBC := Lib.hid hown2.2; have HKE := Lib.hid (HCK.out _ (bthen HAB.out hown2.2)); rw [hy]; clear hy hrow2 hown2))
  obtain ⟨hc0, hc1, hc2, hc3⟩ := HKE.out
  have HF : Hid (Below G w wc) := Lib.hid (by have := bthen (by rw [HG.out]; exact HQ1.out : Below w.heap.size w wb.drew) HBC.out; rw [HG.out] at this; exact this)
  have hcv1 := str_at (cap := xc) (HY2.out.below HBC.out)
  have hcv2 := str_at (cap := yc) HZ1.out
  have hcv3 := str_at (cap := cap0) (R0.out.below (by rw [HG.out]; exact HF.out))
  have hcv4 := str_at (cap := cap1) (R1.out.below (by rw [HG.out]; exact HF.out))
  have HFW : Hid (Below w.heap.size w wc) := Lib.hid (by rw [HG.out]; exact HF.out)
  have hs := HSAME.out
  clear hwk hwq hwd hwb hwc HM1 HKE HKD HAB HQ1 HY2 HZ1 HBC HCK HC0 HC1 HG0 HG1 HL0 HL1 HV0 HV1 R0 R1 HN0 HN1 BA BB HSAME HB1 HF
  generalize boxOf (1 + k1 % 10) (longOf q1) zb = by_ at *
  generalize by_.length = ny at *
  generalize strOfNums bx = sx at *
  generalize strOfNums by_ = sy at *
  generalize strOfNums za = sa at *
  generalize strOfNums zb = sb at *
  by_cases p1 : k0 % 10 = k1 % 10
  · by_cases p2 : q0 = q1
    · by_cases p3 : sa = sb
      · obtain rfl : sx = sy := hs.2 ⟨p1, p2, p3⟩
        subst p3
        have b1 : (k0 % 10 == k1 % 10) = true := by simpa using p1
        have b2 : (q0 == q1) = true := by simpa using p2
        clear p1 p2 hs
        go_wp2
        go_ret
        exact ⟨rfl, HFW.out⟩
      · have hne := str_ne (fun h => p3 (hs.1 h).2.2 : ¬ sx = sy)
        have hn3 := str_ne p3
        have b1 : (k0 % 10 == k1 % 10) = true := by simpa using p1
        have b2 : (q0 == q1) = true := by simpa using p2
        clear p1 p2 p3 hs
        go_wp2
        go_ret
        exact ⟨rfl, HFW.out⟩
    · have hne := str_ne (fun h => p2 (hs.1 h).2.1 : ¬ sx = sy)
      have b1 : (k0 % 10 == k1 % 10) = true := by simpa using p1
      have b2 : (q0 == q1) = false := by simpa using p2
      clear p1 p2 hs
      go_wp2
      go_ret
      exact ⟨rfl, HFW.out⟩
  · have hne := str_ne (fun h => p1 (hs.1 h).1 : ¬ sx = sy)
    have b1 : (k0 % 10 == k1 % 10) = false := by simpa using p1
    clear p1 hs
    go_wp2
    go_ret
    exact ⟨rfl, HFW.out⟩

set_option maxRecDepth 100000 in
set_option maxHeartbeats 4000000 in
theorem walkT (a0 : Option Addr) (len0 cap0 : Nat) (za : List Int) (a1 : Option Addr) (len1 cap1 : Nat) (zb : List Int) (k0 k1 q0 q1 : Int) (w : World)
    (R0 : Hid (Row .u8 w a0 len0 za)) (R1 : Hid (Row .u8 w a1 len1 zb)) (HN0 : Hid (a0 = none → len0 = 0 ∧ cap0 = 0)) (HN1 : Hid (a1 = none → len1 = 0 ∧ cap1 = 0)) (BA : Hid (∀ x ∈ za, 0 ≤ x ∧ x ≤ 255)) (BB : Hid (∀ x ∈ zb, 0 ≤ x ∧ x ≤ 255))
    (uk0 : 0 ≤ k0 ∧ k0 ≤ 255) (uk1 : 0 ≤ k1 ∧ k1 ≤ 255) (uq0 : 0 ≤ q0 ∧ q0 ≤ 255) (uq1 : 0 ≤ q1 ∧ q1 ≤ 255) (hb0 : ¬ 900 < len0) (hb1 : ¬ 900 < len1) :
    Calls Try.prog 9 #[.slice a0 len0 cap0, .slice a1 len1 cap1, .agg #[.int .u8 k0, .int .u8 k1], .agg #[.int .u8 q0, .int .u8 q1], .bool true] w fun e w' => e = .returned (.bool true) ∧ Below w.heap.size w w' := by
  have hb0' : decide (900 < len0) = false := by simpa using hb0
  have hb1' : decide (900 < len1) = false := by simpa using hb1
  have HSAME := Lib.hid (same_iff (za := za) (zb := za) uk0 uk1 uq0 uq1 (by have := R0.out.1; omega) (by have := R0.out.1; omega) BA.out BA.out)
  have HV0 := Lib.hid (longOf_val (n := q0) (by omega) (by omega))
  have HV1 := Lib.hid (longOf_val (n := q1) (by omega) (by omega))
  have HM0 := Lib.hid (makeOut_fits (fits_long (kind := 1 + k0 % 10) (n := longOf q0) (body := za) (by omega) (by have := R0.out.1; omega) HV0.out.1))
  have HM1 := Lib.hid (makeOut_fits (fits_long (kind := 1 + k1 % 10) (n := longOf q1) (body := za) (by omega) (by have := R0.out.1; omega) HV1.out.1))
  have HL0 : Hid ((boxOf (1 + k0 % 10) (longOf q0) za).length ≤ 100000) := Lib.hid (by have := R0.out.1; rw [boxOf_len]; omega)
  have HL1 : Hid ((boxOf (1 + k1 % 10) (longOf q1) za).length ≤ 100000) := Lib.hid (by have := R0.out.1; rw [boxOf_len]; omega)
  have HC0 : Hid (∀ X, Below w.heap.size w X → Calls Try.prog 32 #[.int .i64 (1 + k0 % 10), .int .u64 (longOf q0), .slice a0 len0 cap0] X (MakePost (1 + k0 % 10) (longOf q0) za X)) := Lib.hid (fun X hX => boxMake_any _ _ _ _ _ za _ (R0.out.below hX) HV0.out.2.1 HV0.out.2.2 HN0.out)
  have HC1 : Hid (∀ X, Below w.heap.size w X → Calls Try.prog 32 #[.int .i64 (1 + k1 % 10), .int .u64 (longOf q1), .slice a0 len0 cap0] X (MakePost (1 + k1 % 10) (longOf q1) za X)) := Lib.hid (fun X hX => boxMake_any _ _ _ _ _ za _ (R0.out.below hX) HV1.out.2.1 HV1.out.2.2 HN0.out)
  have HG0 : Hid (∀ X, Calls Try.prog 31 #[.int .i64 q0] X fun e w' => e = .returned (.int .u64 (longOf q0)) ∧ X = w') := Lib.hid (fun X => long_any _ _ (by omega) (by omega))
  have HG1 : Hid (∀ X, Calls Try.prog 31 #[.int .i64 q1] X fun e w' => e = .returned (.int .u64 (longOf q1)) ∧ X = w') := Lib.hid (fun X => long_any _ _ (by omega) (by omega))
  go_enter Try.func9, Try.ntmps9
  go_wp2_with (go_at_call 29; refine (awake4_any _).mono ?_; rintro e wa ⟨rfl, hba⟩; have HBA := Lib.hid hba; clear hba)
  have HB1 : Hid (Below w.heap.size w wa) := Lib.hid (bthen (bthen (Below.alloc1 w (.cells #[.int .u8 k0, .int .u8 k1] 55)) (Below.alloc1 _ (.cells #[.int .u8 q0, .int .u8 q1] 55))) HBA.out)
  have HCK : Hid (∀ X, Below wa.heap.size wa X → X.cell? ⟨w.heap.size, 0, none⟩ = some (.int .u8 k0) ∧ X.cell? ⟨w.heap.size, 1, none⟩ = some (.int .u8 k1) ∧ X.cell? ⟨w.heap.size + 1, 0, none⟩ = some (.int .u8 q0) ∧ X.cell? ⟨w.heap.size + 1, 1, none⟩ = some (.int .u8 q1)) := Lib.hid (fun X hX => by
    obtain ⟨h1, h2, _⟩ := cells_two (Below.refl _ _) (bthen HBA.out hX)
    rw [World.size_alloc] at h2
    exact ⟨h1 0, h1 1, h2 0, h2 1⟩)
  clear HBA
  go_upto_region 7 with fail
  generalize hG : w.heap.size = G at *
  have HG := Lib.hid hG
  clear hG
  have HQ0 : Hid (Below G w wa.drew) := Lib.hid HB1.out.drew
  have HK0 := Lib.hid (HCK.out _ (Below.refl _ _))
  have hwk : IntKind.i64.wrap k0 = k0 := IntWalk.i64_in _ (by omega)
  have hwq : IntKind.i64.wrap q0 = q0 := IntWalk.i64_in _ (by omega)
  have hwd : k0.tmod 10 = k0 % 10 := Int.tmod_eq_emod_of_nonneg (by omega)
  have hwb : IntKind.i64.wrap (k0 % 10) = k0 % 10 := IntWalk.i64_in _ (by omega)
  have hwc : IntKind.i64.wrap (1 + k0 % 10) = 1 + k0 % 10 := IntWalk.i64_in _ (by omega)
  go_region_held3 (fun w' => w'.cell? ⟨G, 0, none⟩ = some (.int .u8 k0) ∧ w'.cell? ⟨G + 1, 0, none⟩ = some (.int .u8 q0)) (first | exact ⟨HK0.out.1, HK0.out.2.2.1⟩ | exact ⟨HK1.out.1, HK1.out.2.2.1⟩) (first | (go_simp; go_at_call 31; refine (HG0.out _).mono ?_; rintro e w' ⟨rfl, rfl⟩) | (go_simp; go_at_call 32; refine (HC0.out _ (by first | exact HQ0.out | (rw [HG.out]; exact HQ0.out))).mono ?_; rintro e wb ⟨v1, rfl, hown1⟩; rw [HM0.out.1]; rw [HM0.out.2] at hown1; obtain ⟨xa, xc, hx, _, _, hrow1, _⟩ := own_form' hown1 HL0.out; have HY1 := Lib.hid hrow1; have HBB := Lib.hid hown1.2; have HK1 := Lib.hid (HCK.out _ (Below.drewN1 wa 1 _ |>.trans (hown1.2.mono (Nat.le_refl _)))); rw [hx]; clear hx hrow1 hown1))
  go_upto_region 8 with fail
  clear hwk hwq hwd hwb hwc HM0
  have HAB : Hid (Below wa.heap.size wa wb.drew) := Lib.hid (((Below.drewN1 wa 1 _).trans (HBB.out.mono (Nat.le_refl _))).drew)
  have HQ1 : Hid (Below G w wb.drew) := Lib.hid (by have := bthen (by rw [HG.out]; exact HB1.out : Below w.heap.size w wa) HAB.out; rw [HG.out] at this; exact this)
  have HY2 : Hid (Row .u8 wb.drew xa (boxOf (1 + k0 % 10) (longOf q0) za).length (boxOf (1 + k0 % 10) (longOf q0) za)) := Lib.hid (HY1.out.below (Below.drewN1 wb 1 _))
  have HKD := Lib.hid (HCK.out _ HAB.out)
  clear HK0 HK1 HQ0 HY1 HBB
  generalize boxOf (1 + k0 % 10) (longOf q0) za = bx at *
  generalize bx.length = nx at *
  have hwk : IntKind.i64.wrap k1 = k1 := IntWalk.i64_in _ (by omega)
  have hwq : IntKind.i64.wrap q1 = q1 := IntWalk.i64_in _ (by omega)
  have hwd : k1.tmod 10 = k1 % 10 := Int.tmod_eq_emod_of_nonneg (by omega)
  have hwb : IntKind.i64.wrap (k1 % 10) = k1 % 10 := IntWalk.i64_in _ (by omega)
  have hwc : IntKind.i64.wrap (1 + k1 % 10) = 1 + k1 % 10 := IntWalk.i64_in _ (by omega)
  go_region_held3 (fun w' => w'.cell? ⟨G, 1, none⟩ = some (.int .u8 k1) ∧ w'.cell? ⟨G + 1, 1, none⟩ = some (.int .u8 q1)) (first | exact ⟨HKD.out.2.1, HKD.out.2.2.2⟩ | exact ⟨HKE.out.2.1, HKE.out.2.2.2⟩) (first | (go_simp; go_at_call 31; refine (HG1.out _).mono ?_; rintro e w' ⟨rfl, rfl⟩) | (go_simp; go_at_call 32; refine (HC1.out _ (by first | exact HQ1.out | (rw [HG.out]; exact HQ1.out))).mono ?_; rintro e wc ⟨v2, rfl, hown2⟩; rw [HM1.out.1]; rw [HM1.out.2] at hown2; obtain ⟨ya, yc, hy, _, _, hrow2, _⟩ := own_form' hown2 HL1.out; have HZ1 := Lib.hid hrow2; have HBC := Lib.hid hown2.2; have HKE := Lib.hid (HCK.out _ (bthen HAB.out hown2.2)); rw [hy]; clear hy hrow2 hown2))
  obtain ⟨hc0, hc1, hc2, hc3⟩ := HKE.out
  have HF : Hid (Below G w wc) := Lib.hid (by have := bthen (by rw [HG.out]; exact HQ1.out : Below w.heap.size w wb.drew) HBC.out; rw [HG.out] at this; exact this)
  have hcv1 := str_at (cap := xc) (HY2.out.below HBC.out)
  have hcv2 := str_at (cap := yc) HZ1.out
  have hcv3 := str_at (cap := cap0) (R0.out.below (by rw [HG.out]; exact HF.out))
  have hcv4 := str_at (cap := cap0) (R0.out.below (by rw [HG.out]; exact HF.out))
  have HFW : Hid (Below w.heap.size w wc) := Lib.hid (by rw [HG.out]; exact HF.out)
  have hs := HSAME.out
  clear hwk hwq hwd hwb hwc HM1 HKE HKD HAB HQ1 HY2 HZ1 HBC HCK HC0 HC1 HG0 HG1 HL0 HL1 HV0 HV1 R0 R1 HN0 HN1 BA BB HSAME HB1 HF
  generalize boxOf (1 + k1 % 10) (longOf q1) za = by_ at *
  generalize by_.length = ny at *
  generalize strOfNums bx = sx at *
  generalize strOfNums by_ = sy at *
  generalize strOfNums za = sa at *
  generalize strOfNums zb = sb at *
  by_cases p1 : k0 % 10 = k1 % 10
  · by_cases p2 : q0 = q1
    · obtain rfl : sx = sy := hs.2 ⟨p1, p2, trivial⟩
      have b1 : (k0 % 10 == k1 % 10) = true := by simpa using p1
      have b2 : (q0 == q1) = true := by simpa using p2
      clear p1 p2 hs
      go_wp2
      go_ret
      exact ⟨rfl, HFW.out⟩
    · have hne := str_ne (fun h => p2 (hs.1 h).2.1 : ¬ sx = sy)
      have b1 : (k0 % 10 == k1 % 10) = true := by simpa using p1
      have b2 : (q0 == q1) = false := by simpa using p2
      clear p1 p2 hs
      go_wp2
      go_ret
      exact ⟨rfl, HFW.out⟩
  · have hne := str_ne (fun h => p1 (hs.1 h).1 : ¬ sx = sy)
    have b1 : (k0 % 10 == k1 % 10) = false := by simpa using p1
    clear p1 hs
    go_wp2
    go_ret
    exact ⟨rfl, HFW.out⟩

theorem walk0 (a0 : Option Addr) (len0 cap0 : Nat) (z0 : List Int) (a1 : Option Addr) (len1 cap1 : Nat) (z1 : List Int) (k0 k1 q0 q1 : Int) (s : Bool) (w : World) (w0 : IsRow .u8 w a0 len0 cap0 z0) (w1 : IsRow .u8 w a1 len1 cap1 z1) (x0 : (Lit.int .u8 k0).wf = true) (x1 : (Lit.int .u8 k1).wf = true) (x2 : (Lit.int .u8 q0).wf = true) (x3 : (Lit.int .u8 q1).wf = true) :
    Calls Try.prog 9 #[.slice a0 len0 cap0, .slice a1 len1 cap1, .agg #[.int .u8 k0, .int .u8 k1], .agg #[.int .u8 q0, .int .u8 q1], .bool s] w fun e w' => e = .returned (.bool true) ∧ Below w.heap.size w w' := by
  have R0 := Lib.hid w0.row
  have R1 := Lib.hid w1.row
  have HN0 : Hid (a0 = none → len0 = 0 ∧ cap0 = 0) := Lib.hid (fun h => by
    rcases w0 with ⟨_, h1, h2, _⟩ | ⟨x, h1, _⟩
    · exact ⟨h1, h2⟩
    · rw [h] at h1; cases h1)
  have HN1 : Hid (a1 = none → len1 = 0 ∧ cap1 = 0) := Lib.hid (fun h => by
    rcases w1 with ⟨_, h1, h2, _⟩ | ⟨x, h1, _⟩
    · exact ⟨h1, h2⟩
    · rw [h] at h1; cases h1)
  have BA : Hid (∀ n ∈ z0.take len0, 0 ≤ n ∧ n ≤ 255) := Lib.hid (fun n hn => bounds_u8 (w0.wf n hn))
  have BB : Hid (∀ n ∈ z1.take len1, 0 ≤ n ∧ n ≤ 255) := Lib.hid (fun n hn => bounds_u8 (w1.wf n hn))
  have hl0 : len0 ≤ 9223372036854775807 := by have := w0.row.2.1; unfold maxLen at this; omega
  have hl1 : len1 ≤ 9223372036854775807 := by have := R1.out.2.1; unfold maxLen at this; omega
  clear w0 w1
  by_cases hb0 : 900 < len0
  · have hb0' : decide (900 < len0) = true := by simpa using hb0
    go_enter Try.func9, Try.ntmps9
    go_wp2_with (go_at_call 29; refine (awake4_any _).mono ?_; rintro e wa ⟨rfl, hba⟩; have HBA := Lib.hid hba; clear hba)
    go_ret
    exact ⟨rfl, bthen (bthen (Below.alloc1 _ _) (Below.alloc1 _ _)) HBA.out⟩
  by_cases hb1 : 900 < len1
  · have hb0' : decide (900 < len0) = false := by simpa using hb0
    have hb1' : decide (900 < len1) = true := by simpa using hb1
    go_enter Try.func9, Try.ntmps9
    go_wp2_with (go_at_call 29; refine (awake4_any _).mono ?_; rintro e wa ⟨rfl, hba⟩; have HBA := Lib.hid hba; clear hba)
    go_ret
    exact ⟨rfl, bthen (bthen (Below.alloc1 _ _) (Below.alloc1 _ _)) HBA.out⟩
  cases s
  · exact walkF _ _ _ _ _ _ _ _ _ _ _ _ _ R0 R1 HN0 HN1 BA BB (bounds_u8 x0) (bounds_u8 x1) (bounds_u8 x2) (bounds_u8 x3) hb0 hb1
  · exact walkT _ _ _ _ _ _ _ _ _ _ _ _ _ R0 R1 HN0 HN1 BA BB (bounds_u8 x0) (bounds_u8 x1) (bounds_u8 x2) (bounds_u8 x3) hb0 hb1

end BoxDistinct
end Go.Proofs.Ytbfdggppjcaplaa
