/- LifetimeGrants answers true for every input. -/
import Derived.Test.YtpbokbaboldhdaaW3
import Derived.ProofKit
import Derived.OpenShut
import Derived.ShutString
import Derived.ChangeOld
import Derived.Deep.QuietTactic
import Derived.BigQuiet
namespace Go.Proofs.Ytpbokbaboldhdaa
open Go.RowKit Go.ChangeShapes

namespace LifetimeGrants
theorem info3 : (Try.prog.info? 3).map (fun i => (i.zero, i.size, i.bytes)) = some (some (.int .i64 0), 1, 8) := by kernel_rfl

theorem own_row {w : World} {base : Nat} {e : TypeId} {v : Value} {n : Nat} {zs : List Int} (h : w.ownsRow base e 1 v n (zs.map (Value.int .i64))) (hn : n ≤ maxLen) : ∃ a cap, v = .slice a n cap ∧ Row .i64 w a n zs := by
  have hl : zs.length = n := by have := h.1; simpa using this
  rcases h.2 with ⟨rfl, rfl⟩ | ⟨g, cap, cur, rfl, hg, hh, hn', hc, hs, ht⟩
  · exact ⟨none, 0, rfl, hl, hn, .inl rfl⟩
  · refine ⟨some ⟨g, 0, none⟩, cap, rfl, hl, hn, ?_⟩
    by_cases h0 : n = 0
    · exact .inl h0
    · refine .inr ⟨g, 0, rfl, fun i hi => ?_⟩
      have := World.ownsRow.cellAt h i (by omega)
      rw [Nat.zero_add, this]
      simp [hl, hi]
theorem Row.grown {k : IntKind} {w w' : World} {a : Option Addr} {len : Nat} {zs : List Int} {row : Option Nat} {B : Nat} (h : Row k w a len zs) (hlt : ∀ x, a = some x → len ≠ 0 → x.block < B) (hg : w.grownBy w' row) (hr : ∀ k, row = some k → B ≤ k) : Row k w' a len zs := by
  obtain ⟨h1, h2, h3⟩ := h
  refine ⟨h1, h2, ?_⟩
  by_cases h0 : len = 0
  · exact .inl h0
  rcases h3 with h3 | ⟨b, off, rfl, hc⟩
  · exact absurd h3 h0
  refine .inr ⟨b, off, rfl, fun i hi => hg.cell (hc i hi) (fun e => ?_)⟩
  have h5 : B ≤ b := hr _ e.symm
  have h6 : b < B := hlt _ rfl h0
  omega
theorem Row.lt {k : IntKind} {w : World} {a : Option Addr} {len : Nat} {zs : List Int} (h : Row k w a len zs) : ∀ x, a = some x → len ≠ 0 → x.block < w.heap.size := by
  intro x e h0
  rcases h.2.2 with h3 | ⟨b, off, rfl, hc⟩
  · exact absurd h3 h0
  · cases e
    exact World.block_lt_of_cell? _ _ (hc 0 (by omega))
theorem map_snoc (f : Int → Int) (l : List Int) (k : Nat) (h : k < l.length) : (l.take (k + 1)).map f = (l.take k).map f ++ [f (l[k]?.getD 0)] := by
  rw [take_snoc l k h]; simp
theorem getD_mem (l : List Int) (k : Nat) (h : k < l.length) : l[k]?.getD 0 ∈ l := by simp [h]
theorem one_new (w : World) (v : Value) (T : TypeId) : ∀ j u, ([v] : List Value)[j]? = some u → (w.alloc (.cells #[v] T)).cell? (Addr.add ⟨w.heap.size, 0, none⟩ j) = some u := by
  intro j u hj
  rcases j with _ | j
  · simp at hj; subst hj; simp [Addr.add]
  · simp at hj

def Inv (w : World) (a5 : Option Addr) (len5 : Nat) (z : List Int) (f : Int → Int) (k : Nat) (v : Value) (wr : World) : Prop :=
  wr.ownsRow w.heap.size 3 1 v k (((z.take k).map f).map (Value.int .i64)) ∧ Row .u16 wr a5 len5 z ∧ Below w.heap.size w wr

set_option maxHeartbeats 2000000 in
theorem walk0 (a0 : Int) (a1 : Int) (a2 : Option Addr) (len2 cap2 : Nat) (z2 : List Int) (a3 : Int) (a4 : Int) (a5 : Option Addr) (len5 cap5 : Nat) (z5 : List Int) (w : World) (w0 : (Lit.int .i64 a0).wf = true) (w1 : (Lit.int .i64 a1).wf = true) (w2 : IsRow .i64 w a2 len2 cap2 z2) (w3 : (Lit.int .u16 a3).wf = true) (w4 : (Lit.int .u16 a4).wf = true) (w5 : IsRow .u16 w a5 len5 cap5 z5) :
    Calls Try.prog 5 #[.int .i64 a0, .int .i64 a1, .slice a2 len2 cap2, .int .u16 a3, .int .u16 a4, .slice a5 len5 cap5] w fun e w' => e = .returned (.bool true) ∧ Below w.heap.size w w' := by
  have u1 := bounds_i64 w1
  have u3 := bounds_u16 w3
  have u4 := bounds_u16 w4
  have R2 := Lib.hid w2.row
  have R5 := Lib.hid w5.row
  have hz5 : ∀ n ∈ z5.take len5, 0 ≤ n ∧ n ≤ 65535 := by
    rcases w5 with ⟨_, rfl, _, rfl⟩ | ⟨x, _, _, _, _, _, hw⟩
    · simp
    · intro n hn; exact bounds_u16 (hw n (List.mem_of_mem_take hn))
  have hl5 : len5 ≤ 9223372036854775807 := by have := R5.out.2.1; unfold maxLen at this; omega
  have hl2 : len2 ≤ 9223372036854775807 := by have := R2.out.2.1; unfold maxLen at this; omega
  have HZ5 := Lib.hid hz5
  clear w0 w1 w2 w3 w4 w5 hz5
  generalize z2.take len2 = z2 at *
  generalize z5.take len5 = z at *
  by_cases hb2 : 20 < len2
  · have hb2' : decide (20 < len2) = true := by simpa using hb2
    go_enter Try.func5, Try.ntmps5
    go_wp2_with (go_at_call 9; refine (awake_any _).mono ?_; rintro e wa ⟨rfl, hba⟩; have HBA := Lib.hid hba; clear hba)
    go_ret
    exact ⟨rfl, HBA.out⟩
  by_cases hb5 : 20 < len5
  · have hb5' : decide (20 < len5) = true := by simpa using hb5
    go_enter Try.func5, Try.ntmps5
    go_wp2_with (go_at_call 9; refine (awake_any _).mono ?_; rintro e wa ⟨rfl, hba⟩; have HBA := Lib.hid hba; clear hba)
    go_ret
    exact ⟨rfl, HBA.out⟩
  have hb2' : decide (20 < len2) = false := by simpa using hb2
  have hb5' : decide (20 < len5) = false := by simpa using hb5
  obtain ⟨i0, hi, hz0, hz1, hz2⟩ := info_parts info3
  have HI0 := Lib.hid (And.intro hi (And.intro hz0 (And.intro hz1 hz2)))
  clear hi hz0 hz1 hz2
  go_enter Try.func5, Try.ntmps5
  go_wp2_with (go_at_call 9; refine (awake_any _).mono ?_; rintro e wa ⟨rfl, hba⟩; have HBA := Lib.hid hba; clear hba)
  refine (grant_any _ _ _ _ _ z2 _ (R2.out.below HBA.out) u1.2).mono ?_
  rintro e wb ⟨rfl, hbb⟩
  have HBB := Lib.hid (HBA.out.trans (hbb.mono HBA.out.size))
  clear hbb HBA
  rw [grant_ref]
  go_wp2_with fail
  refine (refGrant_any _ _ _ _ _ z2 _ (R2.out.below HBB.out) u1.2).mono ?_
  rintro e wc ⟨rfl, rfl⟩
  have HI : Hid (Inv w a5 len5 z (fun x => a3 + x) 0 (.slice none 0 0) wb) := Lib.hid ⟨World.ownsRow_nil _ _ _ _, R5.out.below HBB.out, HBB.out⟩
  clear HBB
  generalize (refPair a0 a1 z2).fst = g1
  generalize (refPair a0 a1 z2).snd = g2
  go_wp2
  go_loopw [17, 18] (fun v i wr => ∃ k : Nat, k ≤ len5 ∧ i = .int .i64 k ∧ Hid (Inv w a5 len5 z (fun x => a3 + x) k v wr)) (fun _ i _ => len5 - (intOf i).toNat)
  case atStart => exact ⟨0, by omega, rfl, HI⟩
  case round =>
    clear HI
    obtain ⟨k, hk, rfl, HI⟩ := hrel
    by_cases hlt : k < len5
    · obtain ⟨b, off, rfl, hcell⟩ : ∃ b off, a5 = some ⟨b, off, none⟩ ∧ wr.cell? ⟨b, off + k, none⟩ = some (.int .u16 (z[k]?.getD 0)) := by
        rcases HI.out.2.1.2.2 with h | ⟨b, off, h1, h2⟩
        · omega
        · exact ⟨b, off, h1, h2 k hlt⟩
      have hzb := HZ5.out _ (getD_mem z k (by rw [HI.out.2.1.1]; exact hlt))
      have hws := Lib.hid (map_snoc (fun x => a3 + x) z k (by rw [HI.out.2.1.1]; exact hlt))
      generalize z[k]?.getD 0 = x at *
      go_wp2_with (at_builtin; refine wpList_append_own _ rfl _ _ 24 rfl w.heap.size 3 i0 (.int .i64 0) 1 8 Try.underlying24 HI0.out.1 HI0.out.2.1 HI0.out.2.2.1 HI0.out.2.2.2 rfl (by decide) _ _ _ rfl (HI.out.1.alloc _) ⟨wr.heap.size, 0, none⟩ 1 1 [.int .i64 (a3 + x)] rfl rfl ?c1 ?c2 ?c3 ?c4 ?c5 ?_)
      case c1 => exact one_new _ _ _
      case c2 => simp [Value.oneCell']
      case c3 => unfold maxLen; omega
      case c4 => omega
      case c5 => have := HI.out.2.2.size; simp; omega
      intro v' w1 hown' hgrow _
      have HI2 : Hid (Inv w (some ⟨b, off, none⟩) len5 z (fun x => a3 + x) (k + 1) v' w1) := Lib.hid (by
        have hb1 : Below w.heap.size w (wr.alloc (.cells #[.int .i64 (a3 + x)] 3)) := HI.out.2.2.alloc HI.out.2.2.size _
        have hr : ∀ q, u17.ownBlock = some q → w.heap.size ≤ q := fun q hq => (HI.out.1.lt q hq).1
        refine ⟨?_, ?_, ?_⟩
        · rw [hws.out]; simpa using hown'
        · have hr5 := HI.out.2.1.below (Below.alloc1 wr (.cells #[.int .i64 (a3 + x)] 3))
          exact Row.grown hr5 (Row.lt R5.out) hgrow hr
        · exact hb1.grown hgrow hb1.size hr)
      clear hown' hgrow
      go_wp2
      go_roundw
      case rel => exact ⟨k + 1, by omega, by go_num, HI2⟩
      case measure => simp [intOf]; omega
    · obtain ⟨av, cv, hv, hrow⟩ := own_row HI.out.1 (by unfold maxLen; omega)
      have HB := Lib.hid HI.out.2.2
      obtain rfl : k = len5 := by omega
      generalize (z.take k).map (fun x => a3 + x) = zl at *
      have HR := Lib.hid hrow
      clear hrow
      rw [hv]
      clear hv HI
      go_wp2_with fail
      refine (grant_any _ _ _ _ _ zl _ HR.out (by omega)).mono ?_
      rintro e wd ⟨rfl, hbd⟩
      rw [grant_ref]
      have HBD := Lib.hid hbd
      clear hbd
      go_wp2_with fail
      refine (refGrant_any _ _ _ _ _ zl _ (HR.out.below HBD.out) (by omega)).mono ?_
      rintro e we ⟨rfl, rfl⟩
      go_wp2
      go_ret
      exact ⟨rfl, HB.out.trans (HBD.out.mono HB.out.size)⟩
end LifetimeGrants

end Go.Proofs.Ytpbokbaboldhdaa

namespace Go.Proofs.Ytpbokbaboldhdaa.lifetimeGrants
open Go.ChangeShapes Go.WideShapes Go.ChangeAt Go.RowKit
open Go.ChangeMaps (open_string shut_string)
set_option linter.unusedVariables false

theorem own : ownKnob Try.prog.godebug = none := by kernel_rfl
theorem laidOut : laidOutB Try.prog = true := by kernel_rfl

theorem walk (a0 : Int) (a1 : Int) (a2 : Option Addr) (len2 cap2 : Nat) (z2 : List Int) (a3 : Int) (a4 : Int) (a5 : Option Addr) (len5 cap5 : Nat) (z5 : List Int) (w : World) (w0 : (Lit.int .i64 a0).wf = true) (w1 : (Lit.int .i64 a1).wf = true) (w2 : IsRow .i64 w a2 len2 cap2 z2) (w3 : (Lit.int .u16 a3).wf = true) (w4 : (Lit.int .u16 a4).wf = true) (w5 : IsRow .u16 w a5 len5 cap5 z5) :
    Calls Try.prog 5 #[.int .i64 a0, .int .i64 a1, .slice a2 len2 cap2, .int .u16 a3, .int .u16 a4, .slice a5 len5 cap5] w fun e w' => e = .returned (.bool true) ∧ Below w.heap.size w w' :=
  LifetimeGrants.walk0 a0 a1 a2 len2 cap2 z2 a3 a4 a5 len5 cap5 z5 w w0 w1 w2 w3 w4 w5

set_option maxRecDepth 100000 in
theorem lifted (os : Os) (started : os.Started) (H : Type) (enc : TypeId × Value → H) :
    ReturnsInHanded {} Try.checked os 5 .any (Rows.lifetimeGrantsSpec.pre6 enc Try.prog Try.f5 Rows.lifetimeGrantsRow.domain false) (Rows.lifetimeGrantsSpec.post enc Try.prog Try.f5 false true false false) := by
  refine returnsInHanded_of_change (C := Try.checked) own started (by kernel_rfl) Try.func5
    (ChangeSpec.witness6 (enc := enc) (C := Try.checked) false ⟨#[], #[.int .i64 0, .int .i64 0, .slice none 0 0, .int .u16 0, .int .u16 0, .slice none 0 0], []⟩ 8 (by kernel_rfl) (by kernel_rfl) (by kernel_rfl) (by kernel_rfl)) ?_
  intro W base args ds gs before hval0 hW hcnd _
  have hval : ∀ (j : Nat) t v, Try.f5.params[j]? = some t → args[j]? = some v → Value.okWide Try.prog W .any base t v := hval0
  have hW' := hW
  obtain ⟨p, q, hA0, hV, rfl, hfz, hnd⟩ := hW
  have hA : DataW.TrodAll enc Try.prog W 0 (fun _ => true) true Try.f5.params.toList args.toList ds p := hA0
  rw [Try.params5] at hA hval
  obtain ⟨v0, vs0, d0, ds0, p0, q0, hargs, rfl, rfl, h0, r0⟩ := trodAll_cons hA
  obtain ⟨v1, vs1, d1, ds1, p1, q1, rfl, rfl, rfl, h1, r1⟩ := trodAll_cons r0
  obtain ⟨v2, vs2, d2, ds2, p2, q2, rfl, rfl, rfl, h2, r2⟩ := trodAll_cons r1
  obtain ⟨v3, vs3, d3, ds3, p3, q3, rfl, rfl, rfl, h3, r3⟩ := trodAll_cons r2
  obtain ⟨v4, vs4, d4, ds4, p4, q4, rfl, rfl, rfl, h4, r4⟩ := trodAll_cons r3
  obtain ⟨v5, vs5, d5, ds5, p5, q5, rfl, rfl, rfl, h5, r5⟩ := trodAll_cons r4
  obtain ⟨rfl, rfl, rfl⟩ := trodAll_nil r5
  obtain rfl : args = #[v0, v1, v2, v3, v4, v5] := by cases args; simp_all
  obtain ⟨rfl, rfl⟩ := trodVars_none hV
  obtain ⟨a0, rfl, rfl, rfl, w0⟩ := open_int Try.underlying3 (hval 0 3 v0 rfl rfl) h0
  obtain ⟨a1, rfl, rfl, rfl, w1⟩ := open_int Try.underlying3 (hval 1 3 v1 rfl rfl) h1
  obtain ⟨a2, len2, cap2, rfl⟩ := okWide_slice Try.underlying24 (hval 2 24 v2 rfl rfl)
  have k2 := h2
  have lt2 : ∀ x ∈ p2, x.block < W.heap.size := by obtain ⟨m, hm⟩ := k2; exact DataW.trod_lt m _ _ _ hm
  obtain ⟨z2, w2⟩ : ∃ zs, IsRow .i64 W a2 len2 cap2 zs := by
    obtain ⟨fuel, hf⟩ := h2
    rcases open_ints Try.underlying24 Try.underlying3 (by kernel_rfl) hf with ⟨hcs, _⟩ | ⟨x, l, c, zs, hcs, _, hl, hm, hz, _, hcell, hwz⟩
    · simp [Value.cells] at hcs
      obtain ⟨rfl, rfl, rfl⟩ := hcs
      exact ⟨[], .inl ⟨rfl, rfl, rfl, rfl⟩⟩
    · simp [Value.cells] at hcs
      obtain ⟨rfl, rfl, rfl⟩ := hcs
      exact ⟨zs, .inr ⟨_, rfl, hl, hm, by simpa using hz, hcell, hwz⟩⟩
  obtain ⟨a3, rfl, rfl, rfl, w3⟩ := open_int Try.underlying22 (hval 3 22 v3 rfl rfl) h3
  obtain ⟨a4, rfl, rfl, rfl, w4⟩ := open_int Try.underlying22 (hval 4 22 v4 rfl rfl) h4
  obtain ⟨a5, len5, cap5, rfl⟩ := okWide_slice Try.underlying32 (hval 5 32 v5 rfl rfl)
  have k5 := h5
  have lt5 : ∀ x ∈ p5, x.block < W.heap.size := by obtain ⟨m, hm⟩ := k5; exact DataW.trod_lt m _ _ _ hm
  obtain ⟨z5, w5⟩ : ∃ zs, IsRow .u16 W a5 len5 cap5 zs := by
    obtain ⟨fuel, hf⟩ := h5
    rcases open_ints Try.underlying32 Try.underlying22 (by kernel_rfl) hf with ⟨hcs, _⟩ | ⟨x, l, c, zs, hcs, _, hl, hm, hz, _, hcell, hwz⟩
    · simp [Value.cells] at hcs
      obtain ⟨rfl, rfl, rfl⟩ := hcs
      exact ⟨[], .inl ⟨rfl, rfl, rfl, rfl⟩⟩
    · simp [Value.cells] at hcs
      obtain ⟨rfl, rfl, rfl⟩ := hcs
      exact ⟨zs, .inr ⟨_, rfl, hl, hm, by simpa using hz, hcell, hwz⟩⟩
  clear hA0 hval0
  refine (walk a0 a1 a2 len2 cap2 z2 a3 a4 a5 len5 cap5 z5 W w0 w1 w2 w3 w4 w5).mono fun e W' ⟨he, bel⟩ => ?_
  subst he
  exact ⟨_, rfl, _, _, _, [], _, [], hW', trodAll_mk1 (shut_bool Try.underlying4 _), (trodAll_cons_mk (shut_int Try.underlying3 w0) (trodAll_cons_mk (shut_int Try.underlying3 w1) (trodAll_cons_mk (Below.trod laidOut (by kernel_rfl) (of_decide_eq_true (by kernel_rfl)) k2 bel lt2) (trodAll_cons_mk (shut_int Try.underlying22 w3) (trodAll_cons_mk (shut_int Try.underlying22 w4) (trodAll_cons_mk (Below.trod laidOut (by kernel_rfl) (of_decide_eq_true (by kernel_rfl)) k5 bel lt5) trodAll_mk0)))))), rfl, bel.frame _, fun h => by cases h⟩

theorem over : Rows.lifetimeGrantsRow.holds Try.pinned (OpenSpec.ofChange Rows.lifetimeGrantsSpec) :=
  OpenClaim.holds_of_wide 5 Try.f5 rfl rfl rfl rfl rfl rfl rfl ⟨rfl, rfl, rfl, rfl, rfl⟩ rfl rfl rfl rfl rfl (by kernel_rfl) Try.func5 (by kernel_rfl)
    (of_decide_eq_true (by kernel_rfl)) (by unfold Func.isWrapper; first | (rw [if_pos (by decide +kernel)]; kernel_rfl) | (rw [if_neg (by decide +kernel)]; exact ⟨rfl, rfl⟩))
    (fun os started H enc _ => lifted os started H enc)

/-- ████ THE STATEMENT ████ -/
theorem proved : Rows.LifetimeGrantsSaid := over
#print axioms proved
end Go.Proofs.Ytpbokbaboldhdaa.lifetimeGrants
