/- The context is sound. No conditions. -/
import Derived.Test.YtggnhaiohmgflaaGreatDoorKF
import Derived.Test.YtggnhaiohmgflaaGreatDoorKG
import Derived.KernelRfl
import Derived.Test.YtggnhaiohmgflaaGreatDoorChecked
set_option linter.unusedVariables false
set_option linter.unusedSimpArgs false
namespace Go.Proofs.YtggnhaiohmgflaaGreatDoor.Sx
open Go Go.Proofs
theorem tys_closedB : TAllB (fun _ ti => closedB (T.get tys) ti) tys 1 0 = true := by decide +kernel
noncomputable def heldB (k : Nat) (ti : TI) : Bool := match ti.desc with | .bool => !Tryz.prog.stoodInHeld k | .int _ => !Tryz.prog.stoodInHeld k | .string => !Tryz.prog.stoodInHeld k | .struct _ => !Tryz.prog.stoodInHeld k | _ => true
theorem tys_held : TAllB heldB tys 1 0 = true := by decide +kernel
noncomputable def guardB (k : Nat) (_ : TI) : Bool := match plainT (T.get tys) 8 k with | some _ => !Tryz.prog.eqGuardType Tryz.prog.depth k | none => true
theorem tys_guard : TAllB guardB tys 1 0 = true := by decide +kernel
theorem tys_all_ok : TyAll Tryz.prog (T.get tys) := by
  obtain ⟨c1, c2⟩ := closed_of tys_closedB
  refine ⟨tys_ok, c1, fun t ti d ks ht hp => ?_, fun t ti ks ht hp => ?_, c2⟩
  · have h1 := TAllB.get tys_held ht
    unfold heldB at h1
    cases d with
    | zero => cases hp
    | succ d =>
      unfold plainT at hp
      rw [ht] at hp
      simp only at hp
      split at hp
      · rename_i hd; rw [hd] at h1; simpa using h1
      · rename_i k hd; rw [hd] at h1; simpa using h1
      · rename_i hd; rw [hd] at h1; simpa using h1
      · rename_i fs hd; rw [hd] at h1; simpa using h1
      · cases hp
  · have h1 := TAllB.get tys_guard ht
    unfold guardB at h1
    rw [hp] at h1
    simpa using h1
theorem mixed : Tryz.prog.follows .mixedOrders = true := Tryz.checked.mixed
end Go.Proofs.YtggnhaiohmgflaaGreatDoor.Sx
