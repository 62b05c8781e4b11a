/- The walk of BoxReads. -/
import Derived.Test.YtbfdggppjcaplaaReads
import Derived.Test.YtbfdggppjcaplaaBoxRef
import Derived.Test.YtbfdggppjcaplaaBoxOpenRef
import Derived.Test.YtbfdggppjcaplaaListRef
import Derived.Deep.RegionHeld3
import Derived.Deep.DrawnRows
namespace Go.Proofs.Ytbfdggppjcaplaa
open Go.RowKit Go.ChangeShapes
namespace BoxReads
set_option linter.unusedVariables false
attribute [local go_sem ↓] Go.wp_at_zero Go.wp_at_succ

set_option maxRecDepth 100000 in
set_option maxHeartbeats 4000000 in
theorem walk0 (a0 : Option Addr) (len0 cap0 : Nat) (z0 : List Int) (a1 : Option Addr) (len1 cap1 : Nat) (z1 : List Int) (a2 : Option Addr) (len2 cap2 : Nat) (z2 : List Int) (a3 : Int) (a4 : Int) (a5 : Int) (w : World) (w0 : IsRow .u8 w a0 len0 cap0 z0) (w1 : IsRow .u8 w a1 len1 cap1 z1) (w2 : IsRow .u8 w a2 len2 cap2 z2) (w3 : (Lit.int .u8 a3).wf = true) (w4 : (Lit.int .u8 a4).wf = true) (w5 : (Lit.int .u16 a5).wf = true) :
    Calls Try.prog 8 #[.slice a0 len0 cap0, .slice a1 len1 cap1, .slice a2 len2 cap2, .int .u8 a3, .int .u8 a4, .int .u16 a5] w fun e w' => e = .returned (.bool true) ∧ Below w.heap.size w w' := by
  have u3 := bounds_u8 w3
  have u4 := bounds_u8 w4
  have u5 := bounds_u16 w5
  have W0 := Lib.hid w0
  have R1 := Lib.hid w1.row
  have R2 := Lib.hid w2.row
  have HBZ : Hid (∀ n ∈ z1.take len1, 0 ≤ n ∧ n ≤ 255) := Lib.hid (fun n hn => bounds_u8 (w1.wf n hn))
  have HBZ2 : Hid (∀ n ∈ z2.take len2, 0 ≤ n ∧ n ≤ 255) := Lib.hid (fun n hn => bounds_u8 (w2.wf n hn))
  have HN1 : Hid (a1 = none → len1 = 0 ∧ cap1 = 0) := Lib.hid (fun h => by
    rcases w1 with ⟨_, h1, h2, _⟩ | ⟨x, h1, _⟩
    · exact ⟨h1, h2⟩
    · rw [h] at h1; cases h1)
  have HN2 : Hid (a2 = none → len2 = 0 ∧ cap2 = 0) := Lib.hid (fun h => by
    rcases w2 with ⟨_, h1, h2, _⟩ | ⟨x, h1, _⟩
    · exact ⟨h1, h2⟩
    · rw [h] at h1; cases h1)
  have hl0 : len0 ≤ 9223372036854775807 := by have := w0.row.2.1; unfold maxLen at this; omega
  have hl1 : len1 ≤ 9223372036854775807 := by have := R1.out.2.1; unfold maxLen at this; omega
  have hl2 : len2 ≤ 9223372036854775807 := by have := R2.out.2.1; unfold maxLen at this; omega
  clear w0 w1 w2 w3 w4 w5
  generalize z1.take len1 = zb at *
  generalize z2.take len2 = zr at *
  by_cases hb0 : 1100 < len0
  · have hb0' : decide (1100 < len0) = true := by simpa using hb0
    go_enter Try.func8, Try.ntmps8
    go_wp2_with (go_at_call 29; refine (awake4_any _).mono ?_; rintro e wa ⟨rfl, hba⟩; have HBA := Lib.hid hba; clear hba)
    go_ret
    exact ⟨rfl, HBA.out⟩
  have hb0' : decide (1100 < len0) = false := by simpa using hb0
  by_cases hb1 : 900 < len1
  · have hb1' : decide (900 < len1) = true := by simpa using hb1
    go_enter Try.func8, Try.ntmps8
    go_wp2_with (go_at_call 29; refine (awake4_any _).mono ?_; rintro e wa ⟨rfl, hba⟩; have HBA := Lib.hid hba; clear hba)
    go_ret
    exact ⟨rfl, HBA.out⟩
  have hb1' : decide (900 < len1) = false := by simpa using hb1
  by_cases hb2 : 100 < len2
  · have hb2' : decide (100 < len2) = true := by simpa using hb2
    go_enter Try.func8, Try.ntmps8
    go_wp2_with (go_at_call 29; refine (awake4_any _).mono ?_; rintro e wa ⟨rfl, hba⟩; have HBA := Lib.hid hba; clear hba)
    go_ret
    exact ⟨rfl, HBA.out⟩
  have hb2' : decide (100 < len2) = false := by simpa using hb2
  have hlv := (sessOf_val (n := a4) (by omega) (by omega)).2
  have HVAL := Lib.hid (sessOf_val (n := a4) (by omega) (by omega)).1
  have HZL := Lib.hid R1.out.1
  go_enter Try.func8, Try.ntmps8
  go_wp2_with (first | (go_at_call 29; refine (awake4_any _).mono ?_; rintro e wa ⟨rfl, hba⟩; have HBA := Lib.hid hba; clear hba) | (go_at_call 34; refine (session_any _ _ (by omega) (by omega)).mono ?_; rintro e w' ⟨rfl, rfl⟩))
  refine (refBoxMake_any _ _ _ _ _ zb _ (R1.out.below HBA.out) hlv.1 hlv.2 HN1.out).mono ?_
  rintro e wb ⟨v1, rfl, hown1⟩
  have HXB : Hid (∀ x ∈ makeOut (1 + a3 % 10) (sessOf a4) zb, 0 ≤ x ∧ x ≤ 255) := Lib.hid (makeOut_bd (by omega) hlv.1 hlv.2 (by have := HZL.out; omega) HBZ.out)
  have hxl : (makeOut (1 + a3 % 10) (sessOf a4) zb).length ≤ 912 := by have := makeOut_len (1 + a3 % 10) (sessOf a4) zb; have := HZL.out; omega
  have hxp : 0 < (makeOut (1 + a3 % 10) (sessOf a4) zb).length := by
    rw [(makeOut_fits (fits_long (kind := 1 + a3 % 10) (n := sessOf a4) (body := zb) (by omega) (by have := HZL.out; omega) HVAL.out)).2, boxOf_len]; omega
  obtain ⟨er, HER⟩ : ∃ er, Hid (makeErr (1 + a3 % 10) (sessOf a4) zb.length = er) := ⟨_, rfl⟩
  rw [HER.out]
  generalize makeOut (1 + a3 % 10) (sessOf a4) zb = xs at *
  obtain ⟨g, xcap, hx, hg, hxc1, hxc2, hxcc⟩ := own_at hown1.1 hxp
  clear hxcc
  unfold maxLen at hxc2
  have hxrow : Row .u8 wb (some ⟨g, 0, none⟩) xs.length xs := by
    obtain ⟨a, cap, hv, h1, h2, h3, _⟩ := own_slice hown1.1 (by unfold maxLen; omega)
    rw [hx] at hv
    injection hv with e1
    subst e1
    exact h3
  have HX := Lib.hid hxrow
  have HBB := Lib.hid (bthen HBA.out hown1.2)
  rw [hx]
  clear hx hxrow hown1 HBA HER HZL hg
  obtain ⟨i, hidx, hil⟩ : ∃ i : Nat, a5.tmod (↑xs.length + 1) = (i : Int) ∧ i ≤ xs.length := by
    rw [Int.tmod_eq_emod_of_nonneg (by omega)]
    have a1 := Int.emod_nonneg a5 (b := (xs.length : Int) + 1) (by omega)
    have a2 := Int.emod_lt_of_pos a5 (b := (xs.length : Int) + 1) (by omega)
    exact ⟨(a5 % (xs.length + 1)).toNat, by omega, by omega⟩
  generalize hnx : xs.length = nx at *
  have HNX := Lib.hid hnx
  clear hnx
  have hwb : IntKind.i64.wrap a5 = a5 := IntWalk.i64_in _ (by omega)
  have hwc : IntKind.i64.wrap ((nx : Int) + 1) = (nx : Int) + 1 := IntWalk.i64_in _ (by omega)
  have hwd : IntKind.i64.wrap (i : Int) = (i : Int) := IntWalk.i64_in _ (by omega)
  have hn0 : ¬ ((nx : Int) + 1 = 0) := by omega
  have hi0 : (0 : Int) ≤ (i : Int) := by omega
  have hi1 : (i : Int) ≤ (xcap : Int) := by omega
  have hi2 : i ≤ xcap := by omega
  obtain ⟨i0, hi, hz0, hz1, hz2⟩ := info_parts info_u8
  have HI0 := Lib.hid (And.intro hi (And.intro hz0 (And.intro hz1 hz2)))
  clear hi hz0 hz1 hz2
  have HS0 : Hid (Sl wb (.slice a0 len0 cap0) (z0.take len0)) := Lib.hid ((sl_row W0.out (by omega)).below HBB.out)
  have HS3 : Hid (Sl wb (.slice (some ⟨g, 0, none⟩) i xcap) (xs.take i)) := Lib.hid ⟨_, _, _, rfl, HX.out.take i hil, fun x hx => HXB.out x (List.mem_of_mem_take hx), hi2, by omega, by omega⟩
  have HSRC1 : Hid (Src wb (some ⟨g, 0, none⟩) (xs.map (Value.int .u8))) := Lib.hid (Src.of_row HX.out)
  have HSRC2 : Hid (Src wb a2 (zr.map (Value.int .u8))) := Lib.hid (Src.of_row (R2.out.below HBB.out))
  have HL2 : Hid (zr.length = len2) := Lib.hid R2.out.1
  have HB0 : Hid (Below wb.heap.size wb wb.drew) := Lib.hid (Below.refl _ _).drew
  have HOne0 := Lib.hid (One.lit wb)
  have HLL : Hid (∀ ys : List Int, ys.length ≤ xs.length + 1 → ys.length ≤ 100000) := Lib.hid (fun ys h => by have := HNX.out; omega)
  have HSPO : Hid (∀ X, Below wb.heap.size wb X → Calls Try.prog 35 #[.slice (some ⟨g, 0, none⟩) nx xcap, .int .u16 a5] X (SpoilPost xs X)) := Lib.hid (fun X hX => spoil_any _ _ _ xs _ _ (HX.out.below hX) HXB.out (by omega) (fun h => by cases h) u5.1 u5.2)
  clear W0 R1 R2 HN1 hlv HVAL hb0 hb0' hb1 hb1' HBZ
  go_upto_region 6 with fail
  go_cut [15] (fun v wx => ∃ B, v = .slice (some ⟨B, 0, none⟩) 4 4 ∧ Hid (Below w.heap.size w wx ∧ Has wx B 4))
  case first =>
    go_region_held3 (fun w' => True) (trivial) (first | (refine step_append_src _ (by rfl) (.tmp 51) (.tmp 52) 32 (by rfl) wb.heap.size 5 i0 (.int .u8 0) 1 1 Try.underlying32 HI0.out.1 HI0.out.2.1 HI0.out.2.2.1 HI0.out.2.2.2 rfl (by decide) _ 0 [] (by rfl) ?_ (some ⟨g, 0, none⟩) nx xcap (xs.map (Value.int .u8)) (by rfl) (fun h => (Option.some_ne_none _ h).elim) ?_ ?_ (oneCell_ints _ _) ?_ ?_ ?_ ?_; (focus (first | exact HOne0.out.2 | exact HTwo0.out.2.1 | exact HTwoA.out.2.1)); (focus (simpa using HNX.out)); (focus (first | exact HSRC1.out.below HOne0.out.1 | exact HSRC1.out.below HTwo0.out.1 | exact HSRC1.out.below HTwoA.out.1)); (focus (unfold maxLen; omega)); (focus omega); (focus (first | exact HOne0.out.1.size | exact HTwo0.out.1.size | exact HTwoA.out.1.size)); intro v1 w1 hown1 hgrow1 hat1; first | (have HOne1 := Lib.hid (HOne0.out.more hown1 hgrow1); clear hown1 hgrow1 hat1) | (have HTwo1 := Lib.hid (HTwo0.out.more hown1 hgrow1 hat1); clear hown1 hgrow1 hat1) | (have HTwo1 := Lib.hid (HTwoA.out.more hown1 hgrow1 hat1); clear hown1 hgrow1 hat1)) | (refine step_append_src _ (by rfl) (.tmp 53) (.tmp 54) 32 (by rfl) wb.heap.size 5 i0 (.int .u8 0) 1 1 Try.underlying32 HI0.out.1 HI0.out.2.1 HI0.out.2.2.1 HI0.out.2.2.2 rfl (by decide) v1 (0 + nx) ([] ++ xs.map (Value.int .u8)) (by rfl) ?_ a2 len2 cap2 (zr.map (Value.int .u8)) (by rfl) HN2.out ?_ ?_ (oneCell_ints _ _) ?_ ?_ ?_ ?_; (focus (first | exact HTwo1.out.2.1 | exact HOne1.out.2)); (focus (simpa using HL2.out)); (focus (first | exact HSRC2.out.below HTwo1.out.1 | exact HSRC2.out.below HOne1.out.1)); (focus (unfold maxLen; omega)); (focus omega); (focus (first | exact HTwo1.out.1.size | exact HOne1.out.1.size)); intro v3 w3 hown3 hgrow3 hat3; obtain ⟨sa, sc, rfl⟩ := own_isv' hown3; first | (have HTwo2 := Lib.hid (HTwo1.out.more hown3 hgrow3 hat3); clear hown3 hgrow3 hat3) | (have HOne2 := Lib.hid (HOne1.out.more hown3 hgrow3); clear hown3 hgrow3 hat3)) | (go_simp; go_at_call 35; refine (HSPO.out _ ?_).mono ?_; (focus (first | exact HOne2.out.1 | exact HOne1.out.1 | exact HOne0.out.1 | exact HB0.out)); rintro e wc ⟨v2, ys, rfl, hown2, hyb, hyl⟩; obtain ⟨ya, yc, rfl⟩ := own_isv' hown2.1; first | (have HTwo2 := Lib.hid (HOne2.out.spoil hown2 hyb (HLL.out _ hyl)); clear hown2 hyb hyl) | (have HTwo1 := Lib.hid (HOne1.out.spoil hown2 hyb (HLL.out _ hyl)); clear hown2 hyb hyl) | (have HTwo0 := Lib.hid (HOne0.out.spoil hown2 hyb (HLL.out _ hyl)); clear hown2 hyb hyl) | (have HTwoA := Lib.hid (spoil_lit HB0.out hown2 hyb (HLL.out _ hyl)); clear hown2 hyb hyl)))
    all_goals (go_wp2_with fail; go_meet; have h2 := HTwo2.out; simp only [Nat.zero_add] at h2; exact Reads4 HBB.out h2 HS0.out HS3.out HXB.out HBZ2.out (by clear hwb hwc hwd; omega))
  case rest =>
    obtain ⟨B, rfl, HC⟩ := hcut
    clear HS0 HS3 HSRC1 HSRC2 HB0 HOne0 HLL HSPO HX HXB hwb hwc hwd hn0 hi0 hi1 hidx hil HI0 HN2 HBZ2 HL2 HNX HBB
    go_wp2
    go_loopw [16] (fun i wr => ∃ k : Nat, k ≤ 4 ∧ i = .int .i64 k ∧ Hid (Below w.heap.size w wr ∧ Has wr B 4)) (fun i _ => 4 - (intOf i).toNat)
    case atStart => exact ⟨0, by omega, rfl, HC⟩
    case round =>
      clear HC
      obtain ⟨k, hk, rfl, HI⟩ := hrel
      by_cases hlt : k < 4
      · obtain ⟨v, zs, hcell, hsl⟩ := HI.out.2 k hlt
        obtain ⟨la, ln, lcap, rfl, hlr, hlb, hlc1, hlc2, hln⟩ := hsl
        have HLR := Lib.hid hlr
        have HLB := Lib.hid hlb
        have HOL : Hid ((boxBody zs).length ≤ 100000) := Lib.hid (by have := boxBody_len zs; have := hlr.1; omega)
        clear hlr hlb
        go_wp2_with fail
        refine (boxRead_any _ _ _ zs _ HLR.out HLB.out hlc1 hlc2).mono ?_
        rintro e x1 ⟨y1, rfl, hown1⟩
        obtain ⟨ca1, cc1, hy1, _, _, hrow1, _⟩ := own_form' hown1 HOL.out
        have HY1 := Lib.hid hrow1
        have HB1 := Lib.hid hown1.2
        have hcell1 : x1.cell? ⟨B, k, none⟩ = some (.slice la ln lcap) := by rw [hown1.2.cell (World.block_lt_of_cell? _ _ hcell)]; exact hcell
        have hB1 : B < x1.heap.size := World.block_lt_of_cell? _ _ hcell1
        rw [hy1]
        clear hy1 hrow1 hown1 hcell
        obtain ⟨n1, HN1⟩ : ∃ n1, Hid ((boxBody zs).length = n1) := ⟨_, Lib.hid rfl⟩
        rw [HN1.out] at HY1 ⊢
        go_wp2_with fail
        refine (refBoxRead_any _ _ _ zs _ ((HLR.out.below HB1.out).below (Below.alloc1 _ _)) HLB.out hlc1 hlc2).mono ?_
        rintro e x2 ⟨y2, rfl, hown2⟩
        obtain ⟨ca2, cc2, hy2, _, _, hrow2, _⟩ := own_form' hown2 HOL.out
        have HY2 := Lib.hid hrow2
        obtain ⟨hc2, hf2⟩ := bcell hown2.2
        have HB2 := Lib.hid hown2.2
        rw [HN1.out] at hy2 HY2
        rw [hy2]
        clear hy2 hrow2 hown2
        go_upto_region 12 with fail
        have hz2 : x1.heap.size + 1 ≤ x2.heap.size := by have := HB2.out.size; simpa using this
        have HB3 : Hid (Below wr.heap.size wr (x2.alloc (.cells #[.int .i64 (boxKind zs), .int .u64 (boxKey zs), .slice ca2 n1 cc2] 50))) := Lib.hid (bthen (bthen (bthen HB1.out (Below.alloc1 _ _)) HB2.out) (Below.alloc1 _ _))
        have HST : Hid (∀ w' : World, Below (x2.alloc (.cells #[.int .i64 (boxKind zs), .int .u64 (boxKey zs), .slice ca2 n1 cc2] 50)).heap.size (x2.alloc (.cells #[.int .i64 (boxKind zs), .int .u64 (boxKey zs), .slice ca2 n1 cc2] 50)) w' →
            w'.cell? ⟨x1.heap.size, 0, none⟩ = some (.int .i64 (boxKind zs)) ∧ w'.cell? ⟨x1.heap.size, 1, none⟩ = some (.int .u64 (boxKey zs)) ∧ w'.cell? ⟨x1.heap.size, 2, none⟩ = some (.slice ca1 n1 cc1) ∧ w'.cell? ⟨x2.heap.size, 0, none⟩ = some (.int .i64 (boxKind zs)) ∧ w'.cell? ⟨x2.heap.size, 1, none⟩ = some (.int .u64 (boxKey zs)) ∧ w'.cell? ⟨x2.heap.size, 2, none⟩ = some (.slice ca2 n1 cc2) ∧ w'.cell? ⟨B, k, none⟩ = some (.slice la ln lcap) ∧
            (convert 32 9 (.slice ca1 n1 cc1)).run Try.prog w' = .ok (.string (strOfNums (boxBody zs))) w' ∧ (convert 32 9 (.slice ca2 n1 cc2)).run Try.prog w' = .ok (.string (strOfNums (boxBody zs))) w') := Lib.hid (fun w' hw' => by
          obtain ⟨h1, h2, h3⟩ := cells_two HB2.out hw'
          exact ⟨h1 0, h1 1, h1 2, h2 0, h2 1, h2 2, (h3 _ _ hB1).trans hcell1, str_at ((((HY1.out.below (Below.alloc1 _ _)).below HB2.out).below (Below.alloc1 _ _)).below hw'), str_at ((HY2.out.below (Below.alloc1 _ _)).below hw')⟩)
        have HISA : Hid (∀ X, Below (x2.alloc (.cells #[.int .i64 (boxKind zs), .int .u64 (boxKey zs), .slice ca2 n1 cc2] 50)).heap.size (x2.alloc (.cells #[.int .i64 (boxKind zs), .int .u64 (boxKey zs), .slice ca2 n1 cc2] 50)) X → Calls Try.prog 38 #[.slice la ln lcap] X fun e w' => e = .returned (.bool (isBox zs)) ∧ Below X.heap.size X w') := Lib.hid (fun X hX => boxIs_any _ _ _ zs _ ((HLR.out.below HB3.out).below hX) HLB.out hlc1 hlc2)
        have HISB : Hid (∀ X, Below (x2.alloc (.cells #[.int .i64 (boxKind zs), .int .u64 (boxKey zs), .slice ca2 n1 cc2] 50)).heap.size (x2.alloc (.cells #[.int .i64 (boxKind zs), .int .u64 (boxKey zs), .slice ca2 n1 cc2] 50)) X → Calls Try.prog 39 #[.slice la ln lcap] X fun e w' => e = .returned (.bool (isBox zs)) ∧ Below X.heap.size X w') := Lib.hid (fun X hX => refBoxIs_any _ _ _ zs _ ((HLR.out.below HB3.out).below hX) HLB.out hlc1 hlc2)
        clear hc2 hf2 hcell1 HY1 HY2 HB2 HLR HB1
        generalize x2.alloc (.cells #[.int .i64 (boxKind zs), .int .u64 (boxKey zs), .slice ca2 n1 cc2] 50) = x3 at *
        generalize boxKind zs = kd at *
        generalize boxKey zs = ky at *
        generalize boxEnd zs = en at *
        generalize readErr zs = er2 at *
        generalize strOfNums (boxBody zs) = st at *
        generalize isBox zs = ib at *
        generalize x1.heap.size = G1 at *
        generalize x2.heap.size = G2 at *
        have HQ0 : Hid (Below x3.heap.size x3 x3.drew) := Lib.hid (Below.refl _ _).drew
        have hka : (0 : Int) ≤ (k : Int) := by omega
        have hkb : (k : Int) < 4 := by omega
        go_region_held3 (fun w' => w'.cell? ⟨G1, 0, none⟩ = some (.int .i64 kd) ∧ w'.cell? ⟨G1, 1, none⟩ = some (.int .u64 ky) ∧ w'.cell? ⟨G1, 2, none⟩ = some (.slice ca1 n1 cc1) ∧ w'.cell? ⟨G2, 0, none⟩ = some (.int .i64 kd) ∧ w'.cell? ⟨G2, 1, none⟩ = some (.int .u64 ky) ∧ w'.cell? ⟨G2, 2, none⟩ = some (.slice ca2 n1 cc2) ∧ w'.cell? ⟨B, k, none⟩ = some (.slice la ln lcap) ∧ (convert 32 9 (.slice ca1 n1 cc1)).run Try.prog w' = .ok (.string st) w' ∧ (convert 32 9 (.slice ca2 n1 cc2)).run Try.prog w' = .ok (.string st) w') (first | exact HST.out _ HQ2.out | exact HST.out _ HQ1.out | exact HST.out _ HQ0.out) (first | (go_simp; go_at_call 38; refine (HISA.out _ ?_).mono ?_; (focus (first | exact HQ1.out | exact HQ0.out)); rintro e x4 ⟨rfl, hb4⟩; first | (have HQ2 := Lib.hid (bthen HQ1.out hb4); clear hb4) | (have HQ1 := Lib.hid (bthen HQ0.out hb4); clear hb4)) | (go_simp; go_at_call 39; refine (HISB.out _ ?_).mono ?_; (focus (first | exact HQ1.out | exact HQ0.out)); rintro e x4 ⟨rfl, hb4⟩; first | (have HQ2 := Lib.hid (bthen HQ1.out hb4); clear hb4) | (have HQ1 := Lib.hid (bthen HQ0.out hb4); clear hb4)))
        all_goals go_wp2
        all_goals go_roundw
        case rel => exact ⟨k + 1, by omega, by go_num, Lib.hid ⟨bthen HI.out.1 (bthen HB3.out HQ2.out), HI.out.2.below (bthen HB3.out HQ2.out)⟩⟩
        case measure => simp [intOf]; omega
      · go_wp2
        go_ret
        exact ⟨rfl, HI.out.1⟩
end BoxReads
end Go.Proofs.Ytbfdggppjcaplaa
