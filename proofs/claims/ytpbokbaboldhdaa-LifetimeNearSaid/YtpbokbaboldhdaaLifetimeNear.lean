/- LifetimeNear answers true for every input. -/
import Derived.Test.YtpbokbaboldhdaaW3
import Derived.ProofKit
import Derived.OpenShut
import Derived.ShutString
import Derived.ChangeOld
import Derived.Deep.QuietTactic
import Derived.BigQuiet
namespace Go.Proofs.Ytpbokbaboldhdaa
open Go.RowKit Go.ChangeShapes

namespace LifetimeNear
theorem quiet_eq {P : Program} {f : FuncId} {args : Array Value} {w : World} {n : Nat} {v : Value}
    (h : Calls P f args (w.drewN n) fun e w' => e = .returned v ∧ w.drewN n = w') : Calls P f args (w.drewN n) fun e w'' => e = .returned v ∧ ∃ m, w'' = w.drewN m :=
  h.mono fun _ _ ⟨he, hm⟩ => ⟨he, n, hm.symm⟩

def At8 (w : World) (b : Nat) (X : List Int) : Prop := ∀ i, i < 8 → w.cell? ⟨b, i, none⟩ = some (.int .i64 (X[i]?.getD 0))
theorem At8.of {w : World} {b : Nat} {X : List Int} (h : Row .i64 w (some ⟨b, 0, none⟩) 8 X) : At8 w b X := by
  obtain ⟨_, _, h | ⟨b', off, e, hc⟩⟩ := h
  · omega
  · intro i hi
    cases e
    simpa using hc i hi
theorem At8.below {w w' : World} {b : Nat} {X : List Int} (h : At8 w b X) (hb : Below w.heap.size w w') : At8 w' b X := by
  intro i hi
  have := h i hi
  rw [hb.cell (p := ⟨b, i, none⟩) (World.block_lt_of_cell? _ _ this)]
  exact this
def Inv (w : World) (b1 b2 b3 : Nat) (X Y Z : List Int) (wr : World) : Prop := At8 wr b1 X ∧ At8 wr b2 Y ∧ At8 wr b3 Z ∧ Below w.heap.size w wr
theorem Inv.next {w : World} {b1 b2 b3 : Nat} {X Y Z : List Int} {wr w' : World} (h : Inv w b1 b2 b3 X Y Z wr) (hb : Below wr.heap.size wr w') : Inv w b1 b2 b3 X Y Z w' :=
  ⟨h.1.below hb, h.2.1.below hb, h.2.2.1.below hb, h.2.2.2.trans (hb.mono h.2.2.2.size)⟩
theorem Inv.drewN {w : World} {b1 b2 b3 : Nat} {X Y Z : List Int} {wr : World} (h : Inv w b1 b2 b3 X Y Z wr) (n : Nat) : Inv w b1 b2 b3 X Y Z (wr.drewN n) :=
  h.next ⟨rfl, rfl, rfl, Nat.le_refl _, fun _ _ => rfl⟩

set_option maxHeartbeats 2000000 in
theorem walk0 (a0 : Int) (a1 : Int) (a2 : Int) (a3 : Int) (a4 : Int) (a5 : Int) (w0 : (Lit.int .i64 a0).wf = true) (w1 : (Lit.int .i64 a1).wf = true) (w2 : (Lit.int .i64 a2).wf = true) (w3 : (Lit.int .u16 a3).wf = true) (w4 : (Lit.int .u16 a4).wf = true) (w5 : (Lit.int .u16 a5).wf = true) (w : World) :
    Calls Try.prog 7 #[.int .i64 a0, .int .i64 a1, .int .i64 a2, .int .u16 a3, .int .u16 a4, .int .u16 a5] w fun e w' => e = .returned (.bool true) ∧ Below w.heap.size w w' := by
  have u3 := bounds_u16 w3
  have u4 := bounds_u16 w4
  have u5 := bounds_u16 w5
  clear w0 w1 w2 w3 w4 w5
  go_enter Try.func7, Try.ntmps7
  go_wp2_with (go_at_call 9; refine (awake_any _).mono ?_; rintro e wa ⟨rfl, hba⟩; have HBA := Lib.hid hba; clear hba)
  refine (numbers_any _ _ _ u3.1 u3.2).mono ?_
  rintro e wb ⟨b1, rfl, hX, hbb⟩
  have HX := Lib.hid hX
  have HBB := Lib.hid hbb
  clear hX hbb
  go_wp2_with fail
  refine (numbers_any _ _ _ u4.1 u4.2).mono ?_
  rintro e wc ⟨b2, rfl, hY, hbc⟩
  have HY := Lib.hid hY
  have HBC := Lib.hid hbc
  clear hY hbc
  go_wp2_with fail
  refine (numbers_any _ _ _ u5.1 u5.2).mono ?_
  rintro e wd ⟨b3, rfl, hZ, hbd⟩
  have HI : Hid (Inv w b1 b2 b3 (numList a0 a3) (numList a1 a4) (numList a2 a5) wd) := Lib.hid ⟨((At8.of HX.out).below HBC.out).below hbd, (At8.of HY.out).below hbd, At8.of hZ, ((HBA.out.trans (HBB.out.mono HBA.out.size)).trans (HBC.out.mono (Nat.le_trans HBA.out.size HBB.out.size))).trans (hbd.mono (Nat.le_trans (Nat.le_trans HBA.out.size HBB.out.size) HBC.out.size))⟩
  clear HX HBB HBA HY HBC hZ hbd
  generalize numList a0 a3 = X at *
  generalize numList a1 a4 = Y at *
  generalize numList a2 a5 = Z at *
  go_wp2
  go_loopw [16] (fun i wr => ∃ k : Nat, k ≤ 8 ∧ i = .int .i64 k ∧ Hid (Inv w b1 b2 b3 X Y Z wr)) (fun i _ => 8 - (intOf i).toNat)
  case atStart => exact ⟨0, by omega, rfl, HI⟩
  case round =>
    clear HI
    obtain ⟨k, hk, rfl, HI⟩ := hrel
    obtain ⟨wo, rfl⟩ : ∃ wo : World, wo = wr := ⟨_, rfl⟩
    by_cases hlt : k < 8
    · go_wp2
      go_loopw [17] (fun i wr => ∃ j : Nat, j ≤ 8 ∧ i = .int .i64 j ∧ Hid (Inv w b1 b2 b3 X Y Z wr)) (fun i _ => 8 - (intOf i).toNat)
      case atStart => exact ⟨0, by omega, rfl, HI⟩
      case round =>
        clear HI
        obtain ⟨j, hj, rfl, HI⟩ := hrel
        have hcx := HI.out.1 k hlt
        by_cases hlj : j < 8
        · have hcy := HI.out.2.1 j hlj
          have hcz := HI.out.2.2.1 ((k + j) % 8) (by omega)
          have hcm := nearB_comm (X[k]?.getD 0) (Y[j]?.getD 0) (Z[(k + j) % 8]?.getD 0)
          have hcb : (nearB (X[k]?.getD 0) (Y[j]?.getD 0) (Z[(k + j) % 8]?.getD 0) == nearB (Y[j]?.getD 0) (X[k]?.getD 0) (Z[(k + j) % 8]?.getD 0)) = true := by rw [← hcm]; simp
          clear hcm
          go_wp2
          go_quiet ((first | (go_at_call 17; exact quiet_eq (near_any _ _ _ _)) | (go_at_call 18; exact quiet_eq (refNear_any _ _ _ _))))
          go_wp2
          go_roundw
          case rel => exact ⟨j + 1, by omega, by go_num, HI.out.drewN _⟩
          case measure => simp [intOf]; omega
        · go_wp2
          go_roundw
          case rel => exact ⟨k + 1, by omega, by go_num, HI⟩
          case measure => simp [intOf]; omega
    · go_wp2
      go_ret
      exact ⟨rfl, HI.out.2.2.2⟩
end LifetimeNear

end Go.Proofs.Ytpbokbaboldhdaa

namespace Go.Proofs.Ytpbokbaboldhdaa.lifetimeNear
open Go.ChangeShapes Go.WideShapes Go.ChangeAt Go.RowKit
open Go.ChangeMaps (open_string shut_string)
set_option linter.unusedVariables false      -- a walk need not use every 'w<i>' (that an integer argument fits its kind)

theorem own : ownKnob Try.prog.godebug = none := by kernel_rfl

theorem walk (a0 : Int) (a1 : Int) (a2 : Int) (a3 : Int) (a4 : Int) (a5 : Int) (w0 : (Lit.int .i64 a0).wf = true) (w1 : (Lit.int .i64 a1).wf = true) (w2 : (Lit.int .i64 a2).wf = true) (w3 : (Lit.int .u16 a3).wf = true) (w4 : (Lit.int .u16 a4).wf = true) (w5 : (Lit.int .u16 a5).wf = true) (w : World) :
    Calls Try.prog 7 #[.int .i64 a0, .int .i64 a1, .int .i64 a2, .int .u16 a3, .int .u16 a4, .int .u16 a5] w fun e w' => e = .returned (.bool true) ∧ Below w.heap.size w w' :=
  LifetimeNear.walk0 a0 a1 a2 a3 a4 a5 w0 w1 w2 w3 w4 w5 w

set_option maxRecDepth 100000 in
theorem lifted (os : Os) (started : os.Started) (H : Type) (enc : TypeId × Value → H) :
    ReturnsInHanded {} Try.checked os 7 .any (Rows.lifetimeNearSpec.pre6 enc Try.prog Try.f7 Rows.lifetimeNearRow.domain false) (Rows.lifetimeNearSpec.post enc Try.prog Try.f7 false true false false) := by
  refine returnsInHanded_of_change (C := Try.checked) own started (by kernel_rfl) Try.func7
    (ChangeSpec.witness6 (enc := enc) (C := Try.checked) false ⟨#[], #[.int .i64 0, .int .i64 0, .int .i64 0, .int .u16 0, .int .u16 0, .int .u16 0], []⟩ 8 (by kernel_rfl) (by kernel_rfl) (by kernel_rfl) (by kernel_rfl)) ?_
  intro W base args ds gs before hval0 hW hcnd _
  have hval : ∀ (j : Nat) t v, Try.f7.params[j]? = some t → args[j]? = some v → Value.okWide Try.prog W .any base t v := hval0
  have hW' := hW
  obtain ⟨p, q, hA0, hV, rfl, hfz, hnd⟩ := hW
  have hA : DataW.TrodAll enc Try.prog W 0 (fun _ => true) true Try.f7.params.toList args.toList ds p := hA0
  rw [Try.params7] at hA hval
  obtain ⟨v0, vs0, d0, ds0, p0, q0, hargs, rfl, rfl, h0, r0⟩ := trodAll_cons hA
  obtain ⟨v1, vs1, d1, ds1, p1, q1, rfl, rfl, rfl, h1, r1⟩ := trodAll_cons r0
  obtain ⟨v2, vs2, d2, ds2, p2, q2, rfl, rfl, rfl, h2, r2⟩ := trodAll_cons r1
  obtain ⟨v3, vs3, d3, ds3, p3, q3, rfl, rfl, rfl, h3, r3⟩ := trodAll_cons r2
  obtain ⟨v4, vs4, d4, ds4, p4, q4, rfl, rfl, rfl, h4, r4⟩ := trodAll_cons r3
  obtain ⟨v5, vs5, d5, ds5, p5, q5, rfl, rfl, rfl, h5, r5⟩ := trodAll_cons r4
  obtain ⟨rfl, rfl, rfl⟩ := trodAll_nil r5
  obtain rfl : args = #[v0, v1, v2, v3, v4, v5] := by cases args; simp_all
  obtain ⟨rfl, rfl⟩ := trodVars_none hV
  obtain ⟨a0, rfl, rfl, rfl, w0⟩ := open_int Try.underlying3 (hval 0 3 v0 rfl rfl) h0
  obtain ⟨a1, rfl, rfl, rfl, w1⟩ := open_int Try.underlying3 (hval 1 3 v1 rfl rfl) h1
  obtain ⟨a2, rfl, rfl, rfl, w2⟩ := open_int Try.underlying3 (hval 2 3 v2 rfl rfl) h2
  obtain ⟨a3, rfl, rfl, rfl, w3⟩ := open_int Try.underlying22 (hval 3 22 v3 rfl rfl) h3
  obtain ⟨a4, rfl, rfl, rfl, w4⟩ := open_int Try.underlying22 (hval 4 22 v4 rfl rfl) h4
  obtain ⟨a5, rfl, rfl, rfl, w5⟩ := open_int Try.underlying22 (hval 5 22 v5 rfl rfl) h5
  clear hA0 hval0
  refine (walk a0 a1 a2 a3 a4 a5 w0 w1 w2 w3 w4 w5 W).mono fun e W' ⟨he, bel⟩ => ?_
  subst he
  exact ⟨_, rfl, _, _, _, [], _, [], hW', trodAll_mk1 (shut_bool Try.underlying4 _), (trodAll_cons_mk (shut_int Try.underlying3 w0) (trodAll_cons_mk (shut_int Try.underlying3 w1) (trodAll_cons_mk (shut_int Try.underlying3 w2) (trodAll_cons_mk (shut_int Try.underlying22 w3) (trodAll_cons_mk (shut_int Try.underlying22 w4) (trodAll_cons_mk (shut_int Try.underlying22 w5) trodAll_mk0)))))), rfl, bel.frame _, fun h => by cases h⟩

theorem over : Rows.lifetimeNearRow.holds Try.pinned (OpenSpec.ofChange Rows.lifetimeNearSpec) :=
  OpenClaim.holds_of_wide 7 Try.f7 rfl rfl rfl rfl rfl rfl rfl ⟨rfl, rfl, rfl, rfl, rfl⟩ rfl rfl rfl rfl rfl (by kernel_rfl) Try.func7 (by kernel_rfl)
    (of_decide_eq_true (by kernel_rfl)) (by unfold Func.isWrapper; first | (rw [if_pos (by decide +kernel)]; kernel_rfl) | (rw [if_neg (by decide +kernel)]; exact ⟨rfl, rfl⟩))
    (fun os started H enc _ => lifted os started H enc)

/-- ████ THE STATEMENT ████ -/
theorem proved : Rows.LifetimeNearSaid :=
  over
#print axioms proved
end Go.Proofs.Ytpbokbaboldhdaa.lifetimeNear
