/- The walk of KeyFresh. -/
import Derived.Test.YtbfdggppjcaplaaAwake3
import Derived.Test.YtbfdggppjcaplaaListRef
namespace Go.Proofs.Ytbfdggppjcaplaa
open Go.RowKit Go.ChangeShapes
namespace KeyFresh
set_option linter.unusedVariables false
theorem wf_of_bd {l : List Int} (h : ∀ x ∈ l, 0 ≤ x ∧ x ≤ 18446744073709551615) : ∀ n ∈ l, (Lit.int .u64 n).wf = true := fun n hn => WalkArith.wf_u64 (by have := h n hn; omega)

theorem ne_beq {l : List Int} {x y : Int} (h : y ∉ l) (hm : x ∈ l) : (x == y) = false := by
  simp only [beq_eq_false_iff_ne, ne_eq]
  rintro rfl
  exact h hm

def Inv (w : World) (a1 : Option Addr) (len1 : Nat) (z1 : List Int) (k : Nat) (v : Value) (wr : World) : Prop :=
  ∃ L : List Int, L.length ≤ 60 + k ∧ wr.ownsRow w.heap.size 24 1 v L.length (L.map (Value.int .u64)) ∧ (∀ x ∈ L, 0 ≤ x ∧ x ≤ 18446744073709551615) ∧ Row .u8 wr a1 len1 z1 ∧ Below w.heap.size w wr

set_option maxRecDepth 100000 in
set_option maxHeartbeats 4000000 in
theorem walk0 (a0 : Option Addr) (len0 cap0 : Nat) (z0 : List Int) (a1 : Option Addr) (len1 cap1 : Nat) (z1 : List Int) (x2 : Bool) (w : World) (w0 : IsRow .u8 w a0 len0 cap0 z0) (w1 : IsRow .u8 w a1 len1 cap1 z1) :
    Calls Try.prog 5 #[.slice a0 len0 cap0, .slice a1 len1 cap1, .bool x2] w fun e w' => e = .returned (.bool true) ∧ Below w.heap.size w w' := by
  have R0 := Lib.hid w0.row
  have R1 := Lib.hid w1.row
  have hbz0 : ∀ n ∈ z0.take len0, 0 ≤ n ∧ n ≤ 255 := fun n hn => bounds_u8 (w0.wf n hn)
  have HBZ0 := Lib.hid hbz0
  have hbz1 : ∀ n ∈ z1.take len1, 0 ≤ n ∧ n ≤ 255 := fun n hn => bounds_u8 (w1.wf n hn)
  have HBZ1 := Lib.hid hbz1
  have hl1 : len1 ≤ 9223372036854775807 := by have := R1.out.2.1; unfold maxLen at this; omega
  clear w0 w1 hbz0 hbz1
  generalize z0.take len0 = zl at *
  generalize z1.take len1 = zw at *
  obtain ⟨i0, hi, hz0, hz1, hz2⟩ := info_parts info_key
  have HI0 := Lib.hid (And.intro hi (And.intro hz0 (And.intro hz1 hz2)))
  clear hi hz0 hz1 hz2
  have HC1 := Lib.hid (show classB 1 = true by decide)
  have HC2 := Lib.hid (show classB 2 = true by decide)
  cases x2
  all_goals
    go_enter Try.func5, Try.ntmps5
    go_wp2_with (go_at_call 13; refine (awake3_any _).mono ?_; rintro e wa ⟨rfl, hba⟩; have HBA := Lib.hid hba; clear hba)
    refine (list_any _ _ _ zl _ (R0.out.below HBA.out) HBZ0.out).mono ?_
    rintro e wd ⟨v, rfl, hown⟩
    have H0 : Hid (Inv w a1 len1 zw 0 v wd) := Lib.hid (by
      have hll := listOf_len (zl.take 60).length (zl.take 60) rfl
      have hl60 : (zl.take 60).length ≤ 60 := by simp; omega
      exact ⟨_, by omega, ownsRow_base hown.1 HBA.out.size, mem_listOf _ (zl.take 60) rfl, (R1.out.below HBA.out).below hown.2, bthen HBA.out hown.2⟩)
    clear hown HBA
    go_wp2
    go_loopw [8, 9] (fun v i wr => ∃ k : Nat, k ≤ len1 ∧ k ≤ 60 ∧ i = .int .i64 k ∧ Hid (Inv w a1 len1 zw k v wr)) (fun _ i _ => len1 - (intOf i).toNat)
    case atStart => exact ⟨0, by omega, by omega, rfl, H0⟩
    case round =>
      clear H0
      obtain ⟨k, hk, hk60, rfl, HI⟩ := hrel
      by_cases hlt : k < len1
      · by_cases h60 : k < 60
        · have hkd : decide ((k : Int) < 60) = true := by simp; omega
          have hkd2 : decide (k < len1) = true := by simpa using hlt
          obtain ⟨L, hL, hox, hbx, hr1, hbw⟩ := HI.out
          obtain ⟨b, off, rfl, hcell⟩ := hr1.at hlt
          have hx := HBZ1.out _ (getD_mem zw k (by rw [R1.out.1]; exact hlt))
          generalize zw[k]?.getD 0 = x at *
          obtain ⟨la, lcap, hv, hc1, hc2, hrow, hform⟩ := own_slice hox (by unfold maxLen; omega)
          have HOX := Lib.hid hox
          have HBX := Lib.hid hbx
          have HR1 := Lib.hid hr1
          have HBW := Lib.hid hbw
          have HROW := Lib.hid hrow
          have HV := Lib.hid hv
          clear hox hbx hr1 hbw hrow hform hv HI hc1 hc2
          rw [HV.out]
          go_wp2_with fail
          refine (draw_yes _ _ _ _ _ L _ HROW.out (wf_of_bd HBX.out) (by omega) (by first | exact HC1.out | exact HC2.out)).mono ?_
          rintro e we ⟨s, hs, rfl, hbe⟩
          have hsb := hs.bd
          have HNM := Lib.hid hsb.2.2
          have hsr := serB_mk hsb.1 hsb.2.1
          have hb1 := mkKey_bd 1 s
          have hb2 := mkKey_bd 2 s
          have hn1 : mkKey 1 s ≠ 0 := by rw [mkKey_yes HC1.out hsr]; omega
          have hn2 : mkKey 2 s ≠ 0 := by rw [mkKey_yes HC2.out hsr]; omega
          have hv1 : valB (mkKey 1 s) = true := by rw [valB_mkKey]; simpa using hn1
          have hv2 : valB (mkKey 2 s) = true := by rw [valB_mkKey]; simpa using hn2
          have hcl1 := (cls_mkKey hn1).1
          have hcl2 := (cls_mkKey hn2).1
          have HBE := Lib.hid hbe
          have HROWE := Lib.hid (HROW.out.below hbe)
          clear hs hbe hsb hsr hn1 hn2 hcell HROW
          have hnl : L.length ≤ 9223372036854775807 := by omega
          go_wp2_with (first | (go_at_call 17; refine (class_any _ _ (by omega) (by omega)).mono ?_; rintro e w' ⟨rfl, rfl⟩) | (go_at_call 16; refine (valid_any _ _ (by omega) (by omega)).mono ?_; rintro e w' ⟨rfl, rfl⟩))
          go_loop [12] (fun i => ∃ j : Nat, j ≤ L.length ∧ i = .int .i64 j) (fun i => L.length - (intOf i).toNat)
          case atStart => exact ⟨0, by omega, rfl⟩
          case round =>
            obtain ⟨j, hj, rfl⟩ := hrel
            by_cases hjl : j < L.length
            · obtain ⟨b2, off2, rfl, hcell2⟩ := HROWE.out.at hjl
              have hmem := getD_mem L j hjl
              generalize L[j]?.getD 0 = xj at *
              have hxb := ne_beq HNM.out hmem
              clear hmem
              go_wp2
              go_round
              case rel => exact ⟨j + 1, by omega, by go_num⟩
              case measure => simp [intOf]; omega
            · have HOE : Hid (we.ownsRow w.heap.size 24 1 (.slice la L.length lcap) L.length (L.map (Value.int .u64))) := Lib.hid (by
                have h := ownsRow_below HOX.out HBE.out
                rw [HV.out] at h
                exact h)
              have HBWE := Lib.hid (bthen HBW.out HBE.out)
              go_wp2_with (at_builtin; refine wpList_append_src _ rfl _ _ 31 rfl w.heap.size 24 i0 (.int .u64 0) 1 8 Try.underlying31 HI0.out.1 HI0.out.2.1 HI0.out.2.2.1 HI0.out.2.2.2 rfl (by decide) _ L.length _ rfl (HOE.out.alloc _) (some ⟨we.heap.size, 0, none⟩) 1 1 [.int .u64 _] rfl (fun h => (Option.some_ne_none _ h).elim) rfl (Src.one _ _ _) (oneCell_ints .u64 [_]) (by unfold maxLen; omega) (by omega) ?_ ?_)
              · have := HBWE.out.size
                simp
                omega
              intro v' w1 hown' hgrow hat
              have hb3 : Below w.heap.size w w1 := (HBWE.out.alloc HBWE.out.size _).grown hgrow (HBWE.out.alloc HBWE.out.size _).size (fun q hq => (HOE.out.lt q hq).1)
              have HI2 : Hid (Inv w (some ⟨b, off, none⟩) len1 zw (k + 1) v' w1) := Lib.hid (by
                refine ⟨L ++ [_], by simp; omega, by rw [List.map_append, List.length_append]; exact hown', fun q hq => ?_, R1.out.below hb3, hb3⟩
                rcases List.mem_append.1 hq with h | h
                · exact HBX.out q h
                · simp only [List.mem_cons, List.not_mem_nil, or_false] at h
                  subst h
                  first | exact hb1 | exact hb2)
              clear hown' hgrow hat hb3
              go_wp2
              go_roundw
              case rel => exact ⟨k + 1, by omega, by omega, by go_num, HI2⟩
              case measure => simp [intOf]; omega
        · have h60b : decide ((k : Int) < 60) = false := by simp; omega
          have hkd2 : decide (k < len1) = true := by simpa using hlt
          obtain ⟨L, _, _, _, _, hbw⟩ := HI.out
          have HBW := Lib.hid hbw
          clear hbw
          go_wp2
          go_ret
          exact ⟨rfl, HBW.out⟩
      · have hltb : decide (k < len1) = false := by simpa using hlt
        obtain ⟨L, _, _, _, _, hbw⟩ := HI.out
        have HBW := Lib.hid hbw
        clear hbw
        go_wp2
        go_ret
        exact ⟨rfl, HBW.out⟩
end KeyFresh
end Go.Proofs.Ytbfdggppjcaplaa
