/- TopPasswords is lifted. No conditions. -/
import Derived.Test.YtggnhaiohmgflaaGreatDoorKL
import Derived.Test.YtggnhaiohmgflaaGreatDoorRows
import Derived.ProofKit
import Derived.OpenShut
import Derived.ChangeOld
import Derived.LaidMore
import Derived.Stop.Joined
set_option linter.unusedVariables false
set_option linter.unusedSimpArgs false
namespace Go.Proofs.YtggnhaiohmgflaaGreatDoor.topPasswords
open Go.ChangeShapes Go.WideShapes Go.ChangeAt Go.RowKit

theorem own : ownKnob Tryz.prog.godebug = none := by kernel_rfl
theorem laidOut : laidOutB Tryz.prog = true := by kernel_rfl
def laidL : List (String × DataW Unit) := Rows.topPasswordsRow.laid
/-- The door's own heap meets the condition. -/
theorem door_met (os : Os) (args : Array Value) : laidMetH Tryz.prog laidL ((World.doorLaid Tryz.prog 400 os).forCall (fun _ _ => 0) ⟨#[], args, []⟩).memory :=
  laidMetH_of_parts3 (fuel := 8) (laidMet_of_run' 8 (by kernel_rfl) (by kernel_rfl)) (by kernel_rfl) (by kernel_rfl)
theorem okWide_agg {P : Program} {w : World} {r : Reach} {base : Nat} {t : TypeId} {v : Value} {fs : Array Field} (ht : P.underlying t = some (.struct fs)) (h : Value.okWide P w r base t v) : ∃ cs, v = .agg cs ∧ cs.size = P.cellsOf t := by
  simp only [Value.okWide, ht] at h
  obtain ⟨cs, h1, h2, _⟩ := h
  exact ⟨cs, h1, h2⟩
theorem cells_setup : Tryz.prog.cellsOf 24 = 10 := by kernel_rfl
theorem cells_clocks : Tryz.prog.cellsOf 22 = 5 := by kernel_rfl
theorem cells_u8 : Tryz.prog.cellsOf 5 = 1 := by kernel_rfl
theorem list10 {α : Type} {l : List α} (h : l.length = 10) : ∃ a b c d e f g i j k, l = [a, b, c, d, e, f, g, i, j, k] := by
  match l, h with
  | [a, b, c, d, e, f, g, i, j, k], _ => exact ⟨a, b, c, d, e, f, g, i, j, k, rfl⟩
theorem some_of {α : Type} {l : List α} {i n : Nat} (h : l.length = n) (hi : i < n) : ∃ y, l[i]? = some y := ⟨l[i]'(by omega), List.getElem?_eq_getElem (by omega)⟩
theorem bounds_u8 {n : Int} (h : (Lit.int .u8 n).wf = true) : Sx.u8 n := by
  simp only [Lit.wf, Bool.and_eq_true, decide_eq_true_eq] at h
  simp [IntKind.min, IntKind.max, IntKind.bits, IntKind.signed] at h
  exact h
section
variable {H : Type} {enc : TypeId × Value → H} {w : World} {base : Nat} {spare : Nat → Bool} {held : Bool}
set_option maxRecDepth 100000 in
theorem one_u8 {fuel : Nat} {c : Value} {x : DataW H × List MemPlace} (h : DataW.trod enc Tryz.prog w base spare held fuel 5 [c] = some x) : ∃ n, c = .int .u8 n ∧ Sx.u8 n := by
  obtain ⟨n, g, _, hw⟩ := DataW.trod_int Tryz.underlying5 h
  simp at g
  exact ⟨n, g, bounds_u8 hw⟩
set_option maxRecDepth 100000 in
theorem open_setup {r : Reach} {b0 : Nat} {v : Value} {d : DataW H} {p : List MemPlace} (hv : Value.okWide Tryz.prog w r b0 24 v) (h : DataW.Trod enc Tryz.prog w base spare held 24 v d p) :
    ∃ c0 c1 c2 c3 c4 o x5 x6 x7 x8 : Int, v = .agg #[.int .u8 c0, .int .u8 c1, .int .u8 c2, .int .u8 c3, .int .u8 c4, .int .u8 o, .int .u8 x5, .int .u8 x6, .int .u8 x7, .int .u8 x8] ∧
      Sx.u8 c0 ∧ Sx.u8 c1 ∧ Sx.u8 c2 ∧ Sx.u8 c3 ∧ Sx.u8 c4 ∧ Sx.u8 o ∧ Sx.u8 x5 ∧ Sx.u8 x6 ∧ Sx.u8 x7 ∧ Sx.u8 x8 := by
  obtain ⟨cs, rfl, hsz⟩ := okWide_agg Tryz.underlying24 hv
  obtain ⟨fuel, hf0⟩ := h
  obtain ⟨xs, k, _, _, hl, hx, hf⟩ := DataW.trod_struct Tryz.underlying24 hf0
  obtain ⟨l⟩ := cs
  rw [cells_setup] at hsz
  obtain ⟨y0, y1, y2, y3, y4, y5, y6, y7, y8, y9, rfl⟩ := list10 (l := l) hsz
  have hx6 : xs.length = 6 := hx
  obtain ⟨z0, e0⟩ := some_of hx6 (i := 0) (by omega)
  obtain ⟨z1, e1⟩ := some_of hx6 (i := 1) (by omega)
  obtain ⟨z2, e2⟩ := some_of hx6 (i := 2) (by omega)
  obtain ⟨z3, e3⟩ := some_of hx6 (i := 3) (by omega)
  obtain ⟨z4, e4⟩ := some_of hx6 (i := 4) (by omega)
  obtain ⟨z5, e5⟩ := some_of hx6 (i := 5) (by omega)
  have h0 : DataW.trod enc Tryz.prog w base spare held k 22 (([y0, y1, y2, y3, y4, y5, y6, y7, y8, y9].drop 0).take (Tryz.prog.cellsOf 22)) = some z0 := (hf 0 _ rfl).trans e0
  have h1 : DataW.trod enc Tryz.prog w base spare held k 5 (([y0, y1, y2, y3, y4, y5, y6, y7, y8, y9].drop 5).take (Tryz.prog.cellsOf 5)) = some z1 := (hf 1 _ rfl).trans e1
  have h2 : DataW.trod enc Tryz.prog w base spare held k 5 (([y0, y1, y2, y3, y4, y5, y6, y7, y8, y9].drop 6).take (Tryz.prog.cellsOf 5)) = some z2 := (hf 2 _ rfl).trans e2
  have h3 : DataW.trod enc Tryz.prog w base spare held k 5 (([y0, y1, y2, y3, y4, y5, y6, y7, y8, y9].drop 7).take (Tryz.prog.cellsOf 5)) = some z3 := (hf 3 _ rfl).trans e3
  have h4 : DataW.trod enc Tryz.prog w base spare held k 5 (([y0, y1, y2, y3, y4, y5, y6, y7, y8, y9].drop 8).take (Tryz.prog.cellsOf 5)) = some z4 := (hf 4 _ rfl).trans e4
  have h5 : DataW.trod enc Tryz.prog w base spare held k 5 (([y0, y1, y2, y3, y4, y5, y6, y7, y8, y9].drop 9).take (Tryz.prog.cellsOf 5)) = some z5 := (hf 5 _ rfl).trans e5
  rw [cells_clocks] at h0
  rw [cells_u8] at h1 h2 h3 h4 h5
  obtain ⟨n5, g5, w5⟩ := one_u8 (c := y5) h1
  obtain ⟨n6, g6, w6⟩ := one_u8 (c := y6) h2
  obtain ⟨n7, g7, w7⟩ := one_u8 (c := y7) h3
  obtain ⟨n8, g8, w8⟩ := one_u8 (c := y8) h4
  obtain ⟨n9, g9, w9⟩ := one_u8 (c := y9) h5
  obtain ⟨ys, m, _, _, _, ha, hi⟩ := DataW.trod_array Tryz.underlying22 h0
  obtain ⟨q0, t0⟩ := some_of ha (i := 0) (by omega)
  have u0 : DataW.trod enc Tryz.prog w base spare held m 5 (([y0, y1, y2, y3, y4].drop (0 * Tryz.prog.cellsOf 5)).take (Tryz.prog.cellsOf 5)) = some q0 := (hi 0 (by omega)).trans t0
  rw [cells_u8] at u0
  obtain ⟨n0, g0, w0⟩ := one_u8 (c := y0) u0
  obtain ⟨q1, t1⟩ := some_of ha (i := 1) (by omega)
  have u1 : DataW.trod enc Tryz.prog w base spare held m 5 (([y0, y1, y2, y3, y4].drop (1 * Tryz.prog.cellsOf 5)).take (Tryz.prog.cellsOf 5)) = some q1 := (hi 1 (by omega)).trans t1
  rw [cells_u8] at u1
  obtain ⟨n1, g1, w1⟩ := one_u8 (c := y1) u1
  obtain ⟨q2, t2⟩ := some_of ha (i := 2) (by omega)
  have u2 : DataW.trod enc Tryz.prog w base spare held m 5 (([y0, y1, y2, y3, y4].drop (2 * Tryz.prog.cellsOf 5)).take (Tryz.prog.cellsOf 5)) = some q2 := (hi 2 (by omega)).trans t2
  rw [cells_u8] at u2
  obtain ⟨n2, g2, w2⟩ := one_u8 (c := y2) u2
  obtain ⟨q3, t3⟩ := some_of ha (i := 3) (by omega)
  have u3 : DataW.trod enc Tryz.prog w base spare held m 5 (([y0, y1, y2, y3, y4].drop (3 * Tryz.prog.cellsOf 5)).take (Tryz.prog.cellsOf 5)) = some q3 := (hi 3 (by omega)).trans t3
  rw [cells_u8] at u3
  obtain ⟨n3, g3, w3⟩ := one_u8 (c := y3) u3
  obtain ⟨q4, t4⟩ := some_of ha (i := 4) (by omega)
  have u4 : DataW.trod enc Tryz.prog w base spare held m 5 (([y0, y1, y2, y3, y4].drop (4 * Tryz.prog.cellsOf 5)).take (Tryz.prog.cellsOf 5)) = some q4 := (hi 4 (by omega)).trans t4
  rw [cells_u8] at u4
  obtain ⟨n4, g4, w4⟩ := one_u8 (c := y4) u4
  subst g0 g1 g2 g3 g4 g5 g6 g7 g8 g9
  exact ⟨n0, n1, n2, n3, n4, n5, n6, n7, n8, n9, rfl, w0, w1, w2, w3, w4, w5, w6, w7, w8, w9⟩
end

set_option maxRecDepth 100000 in
theorem lifted (os : Os) (started : os.Started) (H : Type) (enc : TypeId × Value → H) :
    ReturnsInHanded {} Tryz.checked os 3 .any (fun w args => (Rows.topPasswordsSpec.pre enc Tryz.prog Tryz.f3 [] false w args ∧ laidMetH Tryz.prog laidL w) ∧ sizedMet enc Tryz.prog Tryz.f3 (OpenSpec.ofChange Rows.topPasswordsSpec) false w args)
      (Rows.topPasswordsSpec.post enc Tryz.prog Tryz.f3 false true false false) := by
  refine returnsInHanded_of_change_and (C := Tryz.checked) (X := fun w _ => laidMetH Tryz.prog laidL w) (fun _ _ _ hh h => h.of_heap hh) own started (by kernel_rfl) Tryz.func3
    (ChangeSpec.witness_shaped (enc := enc) (C := Tryz.checked) (os := os) (X := fun w _ => laidMetH Tryz.prog laidL w) false (World.doorLaid Tryz.prog 400 os) #[.agg #[.int .u8 0, .int .u8 0, .int .u8 0, .int .u8 0, .int .u8 0, .int .u8 0, .int .u8 0, .int .u8 0, .int .u8 0, .int .u8 0], .int .u8 0, .int .u8 0, .bool false] 8 rfl
      (World.shaped_of_RefB (by kernel_rfl) (by kernel_rfl)) (by kernel_rfl) (by kernel_rfl) (by kernel_rfl) (door_met os _)) ?_
  intro W base args ds gs before hval0 hW _ _ hL _
  have hval : ∀ (j : Nat) t v, Tryz.f3.params[j]? = some t → args[j]? = some v → Value.okWide Tryz.prog W .any base t v := hval0
  have hW' := hW
  obtain ⟨p, q, hA0, hV, rfl, hfz, hnd⟩ := hW
  have hA : DataW.TrodAll enc Tryz.prog W 0 (fun _ => true) true Tryz.f3.params.toList args.toList ds p := hA0
  rw [Tryz.params3] at hA hval
  obtain ⟨v0, vs0, d0, ds0, p0, q0, hargs, rfl, rfl, h0, r0⟩ := trodAll_cons hA
  obtain ⟨v1, vs1, d1, ds1, p1, q1, rfl, rfl, rfl, h1, r1⟩ := trodAll_cons r0
  obtain ⟨v2, vs2, d2, ds2, p2, q2, rfl, rfl, rfl, h2, r2⟩ := trodAll_cons r1
  obtain ⟨v3, vs3, d3, ds3, p3, q3, rfl, rfl, rfl, h3, r3⟩ := trodAll_cons r2
  obtain ⟨rfl, rfl, rfl⟩ := trodAll_nil r3
  obtain rfl : args = #[v0, v1, v2, v3] := by cases args; simp_all
  obtain ⟨rfl, rfl⟩ := trodVars_none hV
  have lt0 : ∀ x ∈ p0, x.block < W.heap.size := by obtain ⟨m, hm⟩ := h0; exact DataW.trod_lt m _ _ _ hm
  have lt1 : ∀ x ∈ p1, x.block < W.heap.size := by obtain ⟨m, hm⟩ := h1; exact DataW.trod_lt m _ _ _ hm
  have lt2 : ∀ x ∈ p2, x.block < W.heap.size := by obtain ⟨m, hm⟩ := h2; exact DataW.trod_lt m _ _ _ hm
  have lt3 : ∀ x ∈ p3, x.block < W.heap.size := by obtain ⟨m, hm⟩ := h3; exact DataW.trod_lt m _ _ _ hm
  have k0 := h0
  have k1 := h1
  have k2 := h2
  have k3 := h3
  obtain ⟨c0, c1, c2, c3, c4, o, x5, x6, x7, x8, rfl, u0, u1, u2, u3, u4, u5, u6, u7, u8, u9⟩ := open_setup (hval 0 24 v0 rfl rfl) h0
  obtain ⟨n, rfl, _, _, wn⟩ := open_int Tryz.underlying5 (hval 1 5 v1 rfl rfl) h1
  obtain ⟨m, rfl, _, _, wm⟩ := open_int Tryz.underlying5 (hval 2 5 v2 rfl rfl) h2
  obtain ⟨ka, rfl, _, _⟩ := open_bool Tryz.underlying4 (hval 3 4 v3 rfl rfl) h3
  clear hA0 hval0
  refine (Sx.topPasswords_any u0 u1 u2 u3 u4 u5 u6 u7 u8 u9 (bounds_u8 wn) (bounds_u8 wm) ka W).mono fun e W' ⟨he, bel⟩ => ?_
  subst he
  exact ⟨_, rfl, _, _, _, [], _, [], hW', trodAll_mk1 (shut_bool Tryz.underlying4 _), (trodAll_cons_mk (Below.trod laidOut (by kernel_rfl) (of_decide_eq_true (by kernel_rfl)) k0 bel lt0) (trodAll_cons_mk (Below.trod laidOut (by kernel_rfl) (of_decide_eq_true (by kernel_rfl)) k1 bel lt1) (trodAll_cons_mk (Below.trod laidOut (by kernel_rfl) (of_decide_eq_true (by kernel_rfl)) k2 bel lt2) (trodAll_cons_mk (Below.trod laidOut (by kernel_rfl) (of_decide_eq_true (by kernel_rfl)) k3 bel lt3) trodAll_mk0)))), rfl, bel.frame _, fun h => by cases h⟩

end Go.Proofs.YtggnhaiohmgflaaGreatDoor.topPasswords
