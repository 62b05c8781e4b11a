/- LifetimeSeconds answers true for every input. -/
import Derived.Test.YtpbokbaboldhdaaW3
import Derived.ProofKit
import Derived.OpenShut
import Derived.ShutString
import Derived.ChangeOld
import Derived.Deep.QuietTactic
import Derived.BigQuiet
namespace Go.Proofs.Ytpbokbaboldhdaa
open Go.RowKit Go.ChangeShapes

namespace LifetimeSeconds
set_option maxHeartbeats 1000000 in
theorem walk0 (a0 : Int) (w0 : (Lit.int .u32 a0).wf = true) (w : World) :
    Calls Try.prog 4 #[.int .u32 a0] w fun e w' => e = .returned (.bool true) ∧ Below w.heap.size w w' := by
  have u0 := bounds_u32 w0
  clear w0
  have hm : 0 ≤ a0 % 100000 ∧ a0 % 100000 < 100000 := by omega
  by_cases h : a0 % 100000 < 300
  · have h1 := Lib.hid (show fromSec (a0 % 100000) = 0 by simp [fromSec, h])
    have h2 := Lib.hid (show fromOk (a0 % 100000) = false by simp [fromOk, h])
    go_enter Try.func4, Try.ntmps4
    go_wp2_with (go_at_call 9; refine (awake_any _).mono ?_; rintro e wa ⟨rfl, hba⟩; have HBA := Lib.hid hba; clear hba)
    refine (fromSeconds_any _ _ (by omega)).mono ?_
    rintro e wd ⟨rfl, hbd⟩
    have HBD := Lib.hid hbd
    clear hbd
    rw [h1.out, h2.out]
    go_wp2
    go_ret
    exact ⟨rfl, HBA.out.trans (HBD.out.mono HBA.out.size)⟩
  · have h2 := Lib.hid (show fromOk (a0 % 100000) = true by simp [fromOk]; omega)
    have hf0 : 0 ≤ fromSec (a0 % 100000) ∧ fromSec (a0 % 100000) ≤ 255 := by unfold fromSec; repeat (first | split | omega)
    have hf1 : 300 * (fromSec (a0 % 100000) + 1) ≤ a0 % 100000 := by unfold fromSec; repeat (first | split | omega)
    have hf2 : fromSec (a0 % 100000) = 255 ∨ a0 % 100000 < 300 * (fromSec (a0 % 100000) + 2) := by
      unfold fromSec; rw [if_neg h]; split <;> omega
    obtain ⟨f, HF⟩ : ∃ f, Hid (fromSec (a0 % 100000) = f) := ⟨_, rfl⟩
    rw [HF.out] at hf0 hf1 hf2
    have e1 := Lib.hid (show endOf 0 f = 300 * (f + 1) by simp [endOf, timeB, lifeB]; omega)
    by_cases hf : f = 255
    · subst hf
      have e2 : endOf 0 255 ≤ a0 % 100000 := by rw [e1.out]; omega
      go_enter Try.func4, Try.ntmps4
      go_wp2_with (go_at_call 9; refine (awake_any _).mono ?_; rintro e wa ⟨rfl, hba⟩; have HBA := Lib.hid hba; clear hba)
      refine (fromSeconds_any _ _ (by omega)).mono ?_
      rintro e wd ⟨rfl, hbd⟩
      have HBD := Lib.hid hbd
      clear hbd
      rw [h2.out, HF.out]
      go_wp2_with (go_at_call 11; refine (end_any _ _ _).mono ?_; rintro e w' ⟨rfl, rfl⟩)
      go_ret
      exact ⟨rfl, HBA.out.trans (HBD.out.mono HBA.out.size)⟩
    · have hf3 : f < 255 := by omega
      have hfb : (f == 255) = false := by simpa using hf
      have e3 := Lib.hid (show endOf 0 (f + 1) = 300 * (f + 2) by simp [endOf, timeB, lifeB]; omega)
      have e2 : endOf 0 f ≤ a0 % 100000 := by rw [e1.out]; omega
      have e4 : a0 % 100000 < endOf 0 (f + 1) := by rw [e3.out]; omega
      go_enter Try.func4, Try.ntmps4
      go_wp2_with (go_at_call 9; refine (awake_any _).mono ?_; rintro e wa ⟨rfl, hba⟩; have HBA := Lib.hid hba; clear hba)
      refine (fromSeconds_any _ _ (by omega)).mono ?_
      rintro e wd ⟨rfl, hbd⟩
      have HBD := Lib.hid hbd
      clear hbd
      rw [h2.out, HF.out]
      go_wp2_with (go_at_call 11; refine (end_any _ _ _).mono ?_; rintro e w' ⟨rfl, rfl⟩)
      go_ret
      exact ⟨rfl, HBA.out.trans (HBD.out.mono HBA.out.size)⟩
end LifetimeSeconds

end Go.Proofs.Ytpbokbaboldhdaa

namespace Go.Proofs.Ytpbokbaboldhdaa.lifetimeSeconds
open Go.ChangeShapes Go.WideShapes Go.ChangeAt Go.RowKit
open Go.ChangeMaps (open_string shut_string)
set_option linter.unusedVariables false      -- a walk need not use every 'w<i>' (that an integer argument fits its kind)

theorem own : ownKnob Try.prog.godebug = none := by kernel_rfl

theorem walk (a0 : Int) (w0 : (Lit.int .u32 a0).wf = true) (w : World) :
    Calls Try.prog 4 #[.int .u32 a0] w fun e w' => e = .returned (.bool true) ∧ Below w.heap.size w w' :=
  LifetimeSeconds.walk0 a0 w0 w

set_option maxRecDepth 100000 in
theorem lifted (os : Os) (started : os.Started) (H : Type) (enc : TypeId × Value → H) :
    ReturnsInHanded {} Try.checked os 4 .any (Rows.lifetimeSecondsSpec.pre6 enc Try.prog Try.f4 Rows.lifetimeSecondsRow.domain false) (Rows.lifetimeSecondsSpec.post enc Try.prog Try.f4 false true false false) := by
  refine returnsInHanded_of_change (C := Try.checked) own started (by kernel_rfl) Try.func4
    (ChangeSpec.witness6 (enc := enc) (C := Try.checked) false ⟨#[], #[.int .u32 0], []⟩ 8 (by kernel_rfl) (by kernel_rfl) (by kernel_rfl) (by kernel_rfl)) ?_
  intro W base args ds gs before hval0 hW hcnd _
  have hval : ∀ (j : Nat) t v, Try.f4.params[j]? = some t → args[j]? = some v → Value.okWide Try.prog W .any base t v := hval0
  have hW' := hW
  obtain ⟨p, q, hA0, hV, rfl, hfz, hnd⟩ := hW
  have hA : DataW.TrodAll enc Try.prog W 0 (fun _ => true) true Try.f4.params.toList args.toList ds p := hA0
  rw [Try.params4] at hA hval
  obtain ⟨v0, vs0, d0, ds0, p0, q0, hargs, rfl, rfl, h0, r0⟩ := trodAll_cons hA
  obtain ⟨rfl, rfl, rfl⟩ := trodAll_nil r0
  obtain rfl : args = #[v0] := by cases args; simp_all
  obtain ⟨rfl, rfl⟩ := trodVars_none hV
  obtain ⟨a0, rfl, rfl, rfl, w0⟩ := open_int Try.underlying30 (hval 0 30 v0 rfl rfl) h0
  clear hA0 hval0
  refine (walk a0 w0 W).mono fun e W' ⟨he, bel⟩ => ?_
  subst he
  exact ⟨_, rfl, _, _, _, [], _, [], hW', trodAll_mk1 (shut_bool Try.underlying4 _), (trodAll_cons_mk (shut_int Try.underlying30 w0) trodAll_mk0), rfl, bel.frame _, fun h => by cases h⟩

theorem over : Rows.lifetimeSecondsRow.holds Try.pinned (OpenSpec.ofChange Rows.lifetimeSecondsSpec) :=
  OpenClaim.holds_of_wide 4 Try.f4 rfl rfl rfl rfl rfl rfl rfl ⟨rfl, rfl, rfl, rfl, rfl⟩ rfl rfl rfl rfl rfl (by kernel_rfl) Try.func4 (by kernel_rfl)
    (of_decide_eq_true (by kernel_rfl)) (by unfold Func.isWrapper; first | (rw [if_pos (by decide +kernel)]; kernel_rfl) | (rw [if_neg (by decide +kernel)]; exact ⟨rfl, rfl⟩))
    (fun os started H enc _ => lifted os started H enc)

/-- ████ THE STATEMENT ████ -/
theorem proved : Rows.LifetimeSecondsSaid :=
  over
#print axioms proved
end Go.Proofs.Ytpbokbaboldhdaa.lifetimeSeconds
