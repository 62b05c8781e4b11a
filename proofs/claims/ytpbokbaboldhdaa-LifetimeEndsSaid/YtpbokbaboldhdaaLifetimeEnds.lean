/- LifetimeEnds answers true for every input. -/
import Derived.Test.YtpbokbaboldhdaaW3
import Derived.ProofKit
import Derived.OpenShut
import Derived.ShutString
import Derived.ChangeOld
import Derived.Deep.QuietTactic
import Derived.BigQuiet
namespace Go.Proofs.Ytpbokbaboldhdaa
open Go.RowKit Go.ChangeShapes

namespace LifetimeEnds
theorem quiet_eq {P : Program} {f : FuncId} {args : Array Value} {w : World} {n : Nat} {v : Value}
    (h : Calls P f args (w.drewN n) fun e w' => e = .returned v ∧ w.drewN n = w') : Calls P f args (w.drewN n) fun e w'' => e = .returned v ∧ ∃ m, w'' = w.drewN m :=
  h.mono fun _ _ ⟨he, hm⟩ => ⟨he, n, hm.symm⟩

def At8 (w : World) (b : Nat) (X : List Int) : Prop := ∀ i, i < 8 → w.cell? ⟨b, i, none⟩ = some (.int .i64 (X[i]?.getD 0))
theorem At8.of {w : World} {b : Nat} {X : List Int} (h : Row .i64 w (some ⟨b, 0, none⟩) 8 X) : At8 w b X := by
  obtain ⟨_, _, h | ⟨b', off, e, hc⟩⟩ := h
  · omega
  · intro i hi
    cases e
    simpa using hc i hi
theorem At8.below {w w' : World} {b : Nat} {X : List Int} (h : At8 w b X) (hb : Below w.heap.size w w') : At8 w' b X := by
  intro i hi
  have := h i hi
  rw [hb.cell (p := ⟨b, i, none⟩) (World.block_lt_of_cell? _ _ this)]
  exact this
def Inv (w : World) (b1 b2 : Nat) (X Y : List Int) (wr : World) : Prop := At8 wr b1 X ∧ At8 wr b2 Y ∧ Below w.heap.size w wr
theorem Inv.next {w : World} {b1 b2 : Nat} {X Y : List Int} {wr w' : World} (h : Inv w b1 b2 X Y wr) (hb : Below wr.heap.size wr w') : Inv w b1 b2 X Y w' :=
  ⟨h.1.below hb, h.2.1.below hb, h.2.2.trans (hb.mono h.2.2.size)⟩
theorem Inv.drewN {w : World} {b1 b2 : Nat} {X Y : List Int} {wr : World} (h : Inv w b1 b2 X Y wr) (n : Nat) : Inv w b1 b2 X Y (wr.drewN n) :=
  h.next ⟨rfl, rfl, rfl, Nat.le_refl _, fun _ _ => rfl⟩

theorem bd8 (n s : Int) (hn : n ≤ 9223372036854775807) (h0 : 0 ≤ s) (h1 : s ≤ 65535) (i : Nat) (hi : i < 8) : (numList n s)[i]?.getD 0 ≤ 9223372036854775807 := by
  unfold numList
  rcases (by omega : i = 0 ∨ i = 1 ∨ i = 2 ∨ i = 3 ∨ i = 4 ∨ i = 5 ∨ i = 6 ∨ i = 7) with h | h | h | h | h | h | h | h <;> subst h <;> simp <;> omega

set_option maxHeartbeats 1000000 in
theorem walk0 (a0 : Int) (a1 : Int) (a2 : Int) (a3 : Int) (w0 : (Lit.int .i64 a0).wf = true) (w1 : (Lit.int .i64 a1).wf = true) (w2 : (Lit.int .u16 a2).wf = true) (w3 : (Lit.int .u16 a3).wf = true) (w : World) :
    Calls Try.prog 3 #[.int .i64 a0, .int .i64 a1, .int .u16 a2, .int .u16 a3] w fun e w' => e = .returned (.bool true) ∧ Below w.heap.size w w' := by
  have u0 := bounds_i64 w0
  have u1 := bounds_i64 w1
  have u2 := bounds_u16 w2
  have u3 := bounds_u16 w3
  clear w0 w1 w2 w3
  go_enter Try.func3, Try.ntmps3
  go_wp2_with (go_at_call 9; refine (awake_any _).mono ?_; rintro e wa ⟨rfl, hba⟩; have HBA := Lib.hid hba; clear hba)
  refine (numbers_any _ _ _ u2.1 u2.2).mono ?_
  rintro e wb ⟨b1, rfl, hX, hbb⟩
  have HX := Lib.hid hX
  have HBB := Lib.hid hbb
  clear hX hbb
  go_wp2_with fail
  refine (numbers_any _ _ _ u3.1 u3.2).mono ?_
  rintro e wc ⟨b2, rfl, hY, hbc⟩
  have HI : Hid (Inv w b1 b2 (numList a0 a2) (numList a1 a3) wc) := Lib.hid ⟨(At8.of HX.out).below hbc, At8.of hY, (HBA.out.trans (HBB.out.mono HBA.out.size)).trans (hbc.mono (Nat.le_trans HBA.out.size HBB.out.size))⟩
  have HBX := Lib.hid (bd8 a0 a2 u0.2 u2.1 u2.2)
  clear HX HBB HBA hY hbc
  generalize numList a0 a2 = X at *
  generalize numList a1 a3 = Y at *
  go_wp2
  go_loopw [11] (fun i wr => ∃ k : Nat, k ≤ 8 ∧ i = .int .i64 k ∧ Hid (Inv w b1 b2 X Y wr)) (fun i _ => 8 - (intOf i).toNat)
  case atStart => exact ⟨0, by omega, rfl, HI⟩
  case round =>
    clear HI
    obtain ⟨k, hk, rfl, HI⟩ := hrel
    obtain ⟨wo, rfl⟩ : ∃ wo : World, wo = wr := ⟨_, rfl⟩
    by_cases hlt : k < 8
    · go_wp2
      go_loopw [12] (fun i wr => ∃ j : Nat, j ≤ 8 ∧ i = .int .i64 j ∧ Hid (Inv w b1 b2 X Y wr)) (fun i _ => 8 - (intOf i).toNat)
      case atStart => exact ⟨0, by omega, rfl, HI⟩
      case round =>
        clear HI
        obtain ⟨j, hj, rfl, HI⟩ := hrel
        have hcx := HI.out.1 k hlt
        by_cases hlj : j < 8
        · have hcy := HI.out.2.1 j hlj
          go_wp2
          go_quiet ((first | (go_at_call 11; exact quiet_eq (end_any _ _ _)) | (go_at_call 12; exact quiet_eq (refEnd_any _ _ _))))
          go_wp2
          go_roundw
          case rel => exact ⟨j + 1, by omega, by go_num, HI.out.drewN _⟩
          case measure => simp [intOf]; omega
        · have hbx := HBX.out k hlt
          go_wp2_with fail
          refine (fromSeconds_any _ _ hbx).mono ?_
          rintro e wd ⟨rfl, hbd⟩
          have HI2 := Lib.hid (HI.out.next hbd)
          clear hbd
          have hcx2 := HI2.out.1 k hlt
          go_wp2_with fail
          refine (refFrom_any _ _ hbx).mono ?_
          rintro e we ⟨rfl, rfl⟩
          go_wp2
          go_roundw
          case rel => exact ⟨k + 1, by omega, by go_num, HI2⟩
          case measure => simp [intOf]; omega
    · go_wp2
      go_ret
      exact ⟨rfl, HI.out.2.2⟩
end LifetimeEnds

end Go.Proofs.Ytpbokbaboldhdaa

namespace Go.Proofs.Ytpbokbaboldhdaa.lifetimeEnds
open Go.ChangeShapes Go.WideShapes Go.ChangeAt Go.RowKit
open Go.ChangeMaps (open_string shut_string)
set_option linter.unusedVariables false      -- a walk need not use every 'w<i>' (that an integer argument fits its kind)

theorem own : ownKnob Try.prog.godebug = none := by kernel_rfl

theorem walk (a0 : Int) (a1 : Int) (a2 : Int) (a3 : Int) (w0 : (Lit.int .i64 a0).wf = true) (w1 : (Lit.int .i64 a1).wf = true) (w2 : (Lit.int .u16 a2).wf = true) (w3 : (Lit.int .u16 a3).wf = true) (w : World) :
    Calls Try.prog 3 #[.int .i64 a0, .int .i64 a1, .int .u16 a2, .int .u16 a3] w fun e w' => e = .returned (.bool true) ∧ Below w.heap.size w w' :=
  LifetimeEnds.walk0 a0 a1 a2 a3 w0 w1 w2 w3 w

set_option maxRecDepth 100000 in
theorem lifted (os : Os) (started : os.Started) (H : Type) (enc : TypeId × Value → H) :
    ReturnsInHanded {} Try.checked os 3 .any (Rows.lifetimeEndsSpec.pre6 enc Try.prog Try.f3 Rows.lifetimeEndsRow.domain false) (Rows.lifetimeEndsSpec.post enc Try.prog Try.f3 false true false false) := by
  refine returnsInHanded_of_change (C := Try.checked) own started (by kernel_rfl) Try.func3
    (ChangeSpec.witness6 (enc := enc) (C := Try.checked) false ⟨#[], #[.int .i64 0, .int .i64 0, .int .u16 0, .int .u16 0], []⟩ 8 (by kernel_rfl) (by kernel_rfl) (by kernel_rfl) (by kernel_rfl)) ?_
  intro W base args ds gs before hval0 hW hcnd _
  have hval : ∀ (j : Nat) t v, Try.f3.params[j]? = some t → args[j]? = some v → Value.okWide Try.prog W .any base t v := hval0
  have hW' := hW
  obtain ⟨p, q, hA0, hV, rfl, hfz, hnd⟩ := hW
  have hA : DataW.TrodAll enc Try.prog W 0 (fun _ => true) true Try.f3.params.toList args.toList ds p := hA0
  rw [Try.params3] at hA hval
  obtain ⟨v0, vs0, d0, ds0, p0, q0, hargs, rfl, rfl, h0, r0⟩ := trodAll_cons hA
  obtain ⟨v1, vs1, d1, ds1, p1, q1, rfl, rfl, rfl, h1, r1⟩ := trodAll_cons r0
  obtain ⟨v2, vs2, d2, ds2, p2, q2, rfl, rfl, rfl, h2, r2⟩ := trodAll_cons r1
  obtain ⟨v3, vs3, d3, ds3, p3, q3, rfl, rfl, rfl, h3, r3⟩ := trodAll_cons r2
  obtain ⟨rfl, rfl, rfl⟩ := trodAll_nil r3
  obtain rfl : args = #[v0, v1, v2, v3] := by cases args; simp_all
  obtain ⟨rfl, rfl⟩ := trodVars_none hV
  obtain ⟨a0, rfl, rfl, rfl, w0⟩ := open_int Try.underlying3 (hval 0 3 v0 rfl rfl) h0
  obtain ⟨a1, rfl, rfl, rfl, w1⟩ := open_int Try.underlying3 (hval 1 3 v1 rfl rfl) h1
  obtain ⟨a2, rfl, rfl, rfl, w2⟩ := open_int Try.underlying22 (hval 2 22 v2 rfl rfl) h2
  obtain ⟨a3, rfl, rfl, rfl, w3⟩ := open_int Try.underlying22 (hval 3 22 v3 rfl rfl) h3
  clear hA0 hval0
  refine (walk a0 a1 a2 a3 w0 w1 w2 w3 W).mono fun e W' ⟨he, bel⟩ => ?_
  subst he
  exact ⟨_, rfl, _, _, _, [], _, [], hW', trodAll_mk1 (shut_bool Try.underlying4 _), (trodAll_cons_mk (shut_int Try.underlying3 w0) (trodAll_cons_mk (shut_int Try.underlying3 w1) (trodAll_cons_mk (shut_int Try.underlying22 w2) (trodAll_cons_mk (shut_int Try.underlying22 w3) trodAll_mk0)))), rfl, bel.frame _, fun h => by cases h⟩

theorem over : Rows.lifetimeEndsRow.holds Try.pinned (OpenSpec.ofChange Rows.lifetimeEndsSpec) :=
  OpenClaim.holds_of_wide 3 Try.f3 rfl rfl rfl rfl rfl rfl rfl ⟨rfl, rfl, rfl, rfl, rfl⟩ rfl rfl rfl rfl rfl (by kernel_rfl) Try.func3 (by kernel_rfl)
    (of_decide_eq_true (by kernel_rfl)) (by unfold Func.isWrapper; first | (rw [if_pos (by decide +kernel)]; kernel_rfl) | (rw [if_neg (by decide +kernel)]; exact ⟨rfl, rfl⟩))
    (fun os started H enc _ => lifted os started H enc)

/-- ████ THE STATEMENT ████ -/
theorem proved : Rows.LifetimeEndsSaid :=
  over
#print axioms proved
end Go.Proofs.Ytpbokbaboldhdaa.lifetimeEnds
