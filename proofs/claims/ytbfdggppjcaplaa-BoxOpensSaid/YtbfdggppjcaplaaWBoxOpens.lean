/- The walk of BoxOpens. -/
import Derived.Test.YtbfdggppjcaplaaAwake4
import Derived.Test.YtbfdggppjcaplaaBoxLaw
import Derived.Test.YtbfdggppjcaplaaAddRef
namespace Go.Proofs.Ytbfdggppjcaplaa
open Go.RowKit Go.ChangeShapes
namespace BoxOpens
set_option linter.unusedVariables false

theorem str_at {w : World} {a : Option Addr} {n cap : Nat} {zs : List Int} (h : Row .u8 w a n zs) :
    (convert 32 9 (.slice a n cap)).run Try.prog w = .ok (.string (strOfNums zs)) w :=
  run_str Try.underlying32 Try.underlying5 Try.underlying9 h
theorem own_form' {T : TypeId} {w w' : World} {v : Value} {zs : List Int} (h : Own .u8 T w w' v zs) (hl : zs.length ≤ 100000) : ∃ a cap, v = .slice a zs.length cap ∧ zs.length ≤ cap ∧ cap ≤ 9223372036854775807 ∧ Row .u8 w' a zs.length zs ∧ (a = none → zs.length = 0 ∧ cap = 0) := by
  obtain ⟨a, cap, hv, h1, h2, h3, h4⟩ := own_slice h.1 (by unfold maxLen; omega)
  refine ⟨a, cap, hv, h1, h2, h3, fun h => ?_⟩
  rcases h4 with ⟨_, h2⟩ | ⟨b, off, h2⟩
  · subst h2; exact ⟨Nat.le_zero.1 h1, rfl⟩
  · rw [h] at h2; cases h2

set_option maxRecDepth 100000 in
set_option maxHeartbeats 4000000 in
theorem walk0 (a0 : Option Addr) (len0 cap0 : Nat) (z0 : List Int) (a1 : Int) (a2 : Int) (a3 : Int) (a4 : Int) (w : World) (w0 : IsRow .u8 w a0 len0 cap0 z0) (w1 : (Lit.int .u8 a1).wf = true) (w2 : (Lit.int .u8 a2).wf = true) (w3 : (Lit.int .u8 a3).wf = true) (w4 : (Lit.int .u8 a4).wf = true) :
    Calls Try.prog 10 #[.slice a0 len0 cap0, .int .u8 a1, .int .u8 a2, .int .u8 a3, .int .u8 a4] w fun e w' => e = .returned (.bool true) ∧ Below w.heap.size w w' := by
  have u1 := bounds_u8 w1
  have u2 := bounds_u8 w2
  have u3 := bounds_u8 w3
  have u4 := bounds_u8 w4
  have R0 := Lib.hid w0.row
  have HBZ : Hid (∀ n ∈ z0.take len0, 0 ≤ n ∧ n ≤ 255) := Lib.hid (fun n hn => bounds_u8 (w0.wf n hn))
  have HN0 : Hid (a0 = none → len0 = 0 ∧ cap0 = 0) := Lib.hid (fun h => by
    rcases w0 with ⟨_, h1, h2, _⟩ | ⟨x, h1, _⟩
    · exact ⟨h1, h2⟩
    · rw [h] at h1; cases h1)
  have hl0 : len0 ≤ 9223372036854775807 := by have := R0.out.2.1; unfold maxLen at this; omega
  clear w0 w1 w2 w3 w4
  generalize z0.take len0 = zb at *
  by_cases hb : 1000 < len0
  · have hb' : decide (1000 < len0) = true := by simpa using hb
    go_enter Try.func10, Try.ntmps10
    go_wp2_with (go_at_call 29; refine (awake4_any _).mono ?_; rintro e wa ⟨rfl, hba⟩; have HBA := Lib.hid hba; clear hba)
    go_ret
    exact ⟨rfl, HBA.out⟩
  have hb' : decide (1000 < len0) = false := by simpa using hb
  have hlz : len0 = zb.length := R0.out.1.symm
  have hv3 := longOf_val (n := a3) (by omega) (by omega)
  have hv4 := longOf_val (n := a4) (by omega) (by omega)
  have HF : Hid (Fits (1 + a1 % 10) (longOf a3) zb) := Lib.hid ⟨kindB_mk (by omega) (by omega), hv3.1, by omega⟩
  have hlv3 := hv3.2
  have hlv4 := hv4.2
  clear hv3 hv4
  obtain ⟨hm1, hm2⟩ := makeOut_fits HF.out
  have HM1 := Lib.hid hm1
  have HM2 := Lib.hid hm2
  have HLZ := Lib.hid hlz
  clear hm1 hm2 hlz
  go_enter Try.func10, Try.ntmps10
  go_wp2_with (first | (go_at_call 29; refine (awake4_any _).mono ?_; rintro e wa ⟨rfl, hba⟩; have HBA := Lib.hid hba; clear hba) | (go_at_call 31; refine (long_any _ _ (by omega) (by omega)).mono ?_; rintro e w' ⟨rfl, rfl⟩))
  refine (boxMake_any _ _ _ _ _ zb _ (R0.out.below HBA.out) hlv3.1 hlv3.2 HN0.out).mono ?_
  rintro e wb ⟨v1, rfl, hown1⟩
  rw [HM2.out] at hown1
  rw [HM1.out]
  obtain ⟨ya, ycap, hy, hyc1, hyc2, hyrow, hyn⟩ := own_form' hown1 (by have := boxOf_len (1 + a1 % 10) (longOf a3) zb; have := HLZ.out; omega)
  have HY := Lib.hid hyrow
  have HYN := Lib.hid hyn
  have HBX : Hid (∀ n ∈ boxOf (1 + a1 % 10) (longOf a3) zb, 0 ≤ n ∧ n ≤ 255) := Lib.hid (boxOf_bd (by omega) hlv3.1 hlv3.2 (by have := HLZ.out; omega) HBZ.out)
  have HBB := Lib.hid (bthen HBA.out hown1.2)
  rw [hy]
  clear hy hyrow hown1 hyn HBA
  go_wp2_with fail
  refine (boxOpen_any _ _ _ _ _ (boxOf (1 + a1 % 10) (longOf a3) zb) _ HY.out HBX.out hyc1 hyc2).mono ?_
  rintro e wc ⟨v2, rfl, hown2⟩
  have HBC := Lib.hid hown2.2
  have HFO := Lib.hid (open_boxOf (kind' := 1 + a2 % 10) (k' := longOf a4) HF.out)
  have HLN : Hid ((boxOf (1 + a1 % 10) (longOf a3) zb).length = 12 + len0) := Lib.hid (by rw [boxOf_len, ← HLZ.out])
  have HL1 : Hid (∀ x, openOk (boxOf (1 + a1 % 10) (longOf a3) zb ++ [x]) (1 + a1 % 10) (longOf a3) = false) := Lib.hid (open_longer HF.out)
  have HIN : Hid ((1 + a1 % 10 == 1 + a2 % 10) = decide (1 + a1 % 10 = 1 + a2 % 10) ∧ (longOf a3 == longOf a4) = decide (longOf a3 = longOf a4)) := Lib.hid ⟨rfl, rfl⟩
  have HD1 : (0:Int) ≤ 1 + a1 % 10 ∧ 1 + a1 % 10 ≤ 10 := by omega
  have HD2 : (0:Int) ≤ 1 + a2 % 10 ∧ 1 + a2 % 10 ≤ 10 := by omega
  clear HF HM1 HM2
  generalize boxOf (1 + a1 % 10) (longOf a3) zb = bx at *
  generalize longOf a3 = k at *
  generalize longOf a4 = j at *
  generalize 1 + a1 % 10 = x at *
  generalize 1 + a2 % 10 = y at *
  obtain ⟨ca, ccap, hc, hcc1, hcc2, hcrow, hcn⟩ := own_form' hown2 (by have := HFO.out.2; rw [this]; have := HLZ.out; split <;> simp; omega)
  rw [hc]
  have HCR := Lib.hid hcrow
  clear hc hcrow hown2 hcn hcc1 hcc2
  obtain ⟨i0, hi, hz0, hz1, hz2⟩ := info_parts info_u8
  have HI0 := Lib.hid (And.intro hi (And.intro hz0 (And.intro hz1 hz2)))
  clear hi hz0 hz1 hz2
  obtain ⟨ok, hok⟩ : ∃ ok, ok = openOk bx y j := ⟨_, rfl⟩
  obtain ⟨out, hout⟩ : ∃ out, out = openOut bx y j := ⟨_, rfl⟩
  rw [← hok]
  rw [← hout] at HCR ⊢
  have hok' := HFO.out.1
  have hout' := HFO.out.2
  rw [← hok] at hok'
  rw [← hout] at hout'
  clear hok hout HFO
  have hcv1 := str_at (cap := ccap) HCR.out
  have hcv2 := str_at (cap := cap0) (R0.out.below (bthen HBB.out HBC.out))
  have h3 : (x = y ∧ k = j ∧ ok = true ∧ out = zb) ∨ (x = y ∧ k ≠ j ∧ ok = false ∧ out = []) ∨ (x ≠ y ∧ ok = false ∧ out = []) := by
    by_cases hx : x = y
    · by_cases hk : k = j
      · exact .inl ⟨hx, hk, by simpa [hx, hk] using hok', by simpa [hx, hk] using hout'⟩
      · exact .inr (.inl ⟨hx, hk, by rw [hok']; simp [hk], by rw [hout']; simp [hk]⟩)
    · exact .inr (.inr ⟨hx, by rw [hok']; simp [hx], by rw [hout']; simp [hx]⟩)
  clear hok' hout'
  have HH0 : Hid (Owns wc 5 (.slice (some ⟨wc.heap.size, 0, none⟩) 0 0) 0 [] (wc.alloc (.cells #[] 5))) := Lib.hid ⟨own_empty wc 5, Below.alloc1 wc _⟩
  have HSY : Hid (Src wb ya (bx.map (Value.int .u8))) := Lib.hid (Src.of_row HY.out)
  have HNB : Hid (bx.length = 12 + len0 ∧ (ya = none → 12 + len0 = 0 ∧ ycap = 0)) := Lib.hid ⟨HLN.out, by rw [← HLN.out]; exact HYN.out⟩
  rw [HLN.out]
  clear HYN HY
  rcases h3 with ⟨rfl, rfl, rfl, rfl⟩ | ⟨rfl, hk, rfl, rfl⟩ | ⟨hx, rfl, rfl⟩
  all_goals go_wp2_with (at_builtin; refine wpList_append_src _ rfl (.tmp 84) (.tmp 85) 32 rfl wc.heap.size 5 i0 (.int .u8 0) 1 1 Try.underlying32 HI0.out.1 HI0.out.2.1 HI0.out.2.2.1 HI0.out.2.2.2 rfl (by decide) _ 0 _ rfl HH0.out.1 ya (12 + len0) ycap (bx.map (Value.int .u8)) rfl HNB.out.2 (by simpa using HNB.out.1) ((HSY.out.below HBC.out).below (Below.alloc1 wc _)) (oneCell_ints _ _) (by unfold maxLen; omega) (by omega) HH0.out.2.size ?_)
  all_goals (
    intro v2 w2 hown2 hgrow2 hat2
    have H2 := Lib.hid (HH0.out.more hown2 hgrow2)
    clear hown2 hgrow2 hat2)
  all_goals go_wp2_with (at_builtin; refine wpList_append_src _ rfl (.tmp 86) (.tmp 87) 32 rfl wc.heap.size 5 i0 (.int .u8 0) 1 1 Try.underlying32 HI0.out.1 HI0.out.2.1 HI0.out.2.2.1 HI0.out.2.2.2 rfl (by decide) _ _ _ rfl (H2.out.alloc _).1 (some ⟨w2.heap.size, 0, none⟩) 1 1 [.int .u8 0] rfl (fun h => (Option.some_ne_none _ h).elim) rfl (Src.one _ _ _) (oneCell_ints .u8 [0]) (by unfold maxLen; omega) (by omega) (H2.out.alloc _).2.size ?_)
  all_goals (
    intro v3 w3 hown3 hgrow3 hat3
    have H3 := Lib.hid ((H2.out.alloc _).more hown3 hgrow3)
    clear hown3 hgrow3 hat3
    have h3 : Own .u8 5 wc w3 v3 (bx ++ [0]) := ⟨by have := H3.out.1; have e := HNB.out.1; simpa [e, Nat.add_assoc, Nat.add_comm, Nat.add_left_comm] using this, H3.out.2⟩
    obtain ⟨da, dcap, hd, hdc1, hdc2, hdrow, hdn⟩ := own_form' h3 (by have := HNB.out.1; rw [List.length_append, this]; simp; omega)
    have HDR := Lib.hid hdrow
    rw [hd]
    clear hd hdrow hdn h3
    have HBW : Hid (∀ n ∈ bx ++ [0], 0 ≤ n ∧ n ≤ 255) := Lib.hid (by intro n hn; rcases List.mem_append.1 hn with hn | hn; exact HBX.out n hn; rw [List.mem_singleton.1 hn]; omega)
    have HLW := Lib.hid (HL1.out 0)
    have HBE := Lib.hid H3.out.2
    clear H3 H2 HL1 HBX HH0 HSY hcv1 hcv2
    generalize (bx ++ [0]).length = nw at *
    generalize bx ++ [0] = bw at *)
  all_goals go_wp2_with fail
  all_goals (
    refine (boxOpen_any _ _ _ _ _ bw _ HDR.out HBW.out hdc1 hdc2).mono ?_
    rintro e w4 ⟨v4, rfl, hown4⟩
    have HB4 := Lib.hid hown4.2
    rw [HLW.out]
    clear hown4)
  all_goals go_wp2
  all_goals go_ret
  all_goals exact ⟨rfl, bthen (bthen HBB.out HBC.out) (bthen HBE.out HB4.out)⟩
end BoxOpens
end Go.Proofs.Ytbfdggppjcaplaa
