/- LifetimeMonotone answers true for every input. -/
import Derived.Test.YtpbokbaboldhdaaW3
import Derived.ProofKit
import Derived.OpenShut
import Derived.ShutString
import Derived.ChangeOld
import Derived.Deep.QuietTactic
import Derived.BigQuiet
namespace Go.Proofs.Ytpbokbaboldhdaa
open Go.RowKit Go.ChangeShapes

namespace LifetimeMonotone
theorem info3 : (Try.prog.info? 3).map (fun i => (i.zero, i.size, i.bytes)) = some (some (.int .i64 0), 1, 8) := by kernel_rfl

theorem own_row {w : World} {base : Nat} {e : TypeId} {v : Value} {n : Nat} {zs : List Int} (h : w.ownsRow base e 1 v n (zs.map (Value.int .i64))) (hn : n ≤ maxLen) : ∃ a cap, v = .slice a n cap ∧ Row .i64 w a n zs := by
  have hl : zs.length = n := by have := h.1; simpa using this
  rcases h.2 with ⟨rfl, rfl⟩ | ⟨g, cap, cur, rfl, hg, hh, hn', hc, hs, ht⟩
  · exact ⟨none, 0, rfl, hl, hn, .inl rfl⟩
  · refine ⟨some ⟨g, 0, none⟩, cap, rfl, hl, hn, ?_⟩
    by_cases h0 : n = 0
    · exact .inl h0
    · refine .inr ⟨g, 0, rfl, fun i hi => ?_⟩
      have := World.ownsRow.cellAt h i (by omega)
      rw [Nat.zero_add, this]
      simp [hl, hi]
theorem Row.grown {k : IntKind} {w w' : World} {a : Option Addr} {len : Nat} {zs : List Int} {row : Option Nat} {B : Nat} (h : Row k w a len zs) (hlt : ∀ x, a = some x → len ≠ 0 → x.block < B) (hg : w.grownBy w' row) (hr : ∀ k, row = some k → B ≤ k) : Row k w' a len zs := by
  obtain ⟨h1, h2, h3⟩ := h
  refine ⟨h1, h2, ?_⟩
  by_cases h0 : len = 0
  · exact .inl h0
  rcases h3 with h3 | ⟨b, off, rfl, hc⟩
  · exact absurd h3 h0
  refine .inr ⟨b, off, rfl, fun i hi => hg.cell (hc i hi) (fun e => ?_)⟩
  have h5 : B ≤ b := hr _ e.symm
  have h6 : b < B := hlt _ rfl h0
  omega
theorem Row.lt {k : IntKind} {w : World} {a : Option Addr} {len : Nat} {zs : List Int} (h : Row k w a len zs) : ∀ x, a = some x → len ≠ 0 → x.block < w.heap.size := by
  intro x e h0
  rcases h.2.2 with h3 | ⟨b, off, rfl, hc⟩
  · exact absurd h3 h0
  · cases e
    exact World.block_lt_of_cell? _ _ (hc 0 (by omega))
theorem map_snoc (f : Int → Int) (l : List Int) (k : Nat) (h : k < l.length) : (l.take (k + 1)).map f = (l.take k).map f ++ [f (l[k]?.getD 0)] := by
  rw [take_snoc l k h]; simp
theorem getD_mem (l : List Int) (k : Nat) (h : k < l.length) : l[k]?.getD 0 ∈ l := by simp [h]
theorem one_new (w : World) (v : Value) (T : TypeId) : ∀ j u, ([v] : List Value)[j]? = some u → (w.alloc (.cells #[v] T)).cell? (Addr.add ⟨w.heap.size, 0, none⟩ j) = some u := by
  intro j u hj
  rcases j with _ | j
  · simp at hj; subst hj; simp [Addr.add]
  · simp at hj

theorem quiet_eq {P : Program} {f : FuncId} {args : Array Value} {w : World} {n : Nat} {v : Value}
    (h : Calls P f args (w.drewN n) fun e w' => e = .returned v ∧ w.drewN n = w') : Calls P f args (w.drewN n) fun e w'' => e = .returned v ∧ ∃ m, w'' = w.drewN m :=
  h.mono fun _ _ ⟨he, hm⟩ => ⟨he, n, hm.symm⟩
theorem cutTo_mono {now l l' e e' : Int} (h0 : -1 ≤ l) (h : l ≤ l') (g : e ≤ e') : cutTo now l e ≤ cutTo now l' e' := by
  unfold cutTo
  repeat (first | split | omega)
  all_goals omega
theorem cutAll_mono (now more a : Int) (hm : 0 ≤ more) (c : List Int) : ∀ l l' : Int, -1 ≤ l → l ≤ l' → cutAll now l (c.map (fun x => a + x)) ≤ cutAll now l' (c.map (fun x => a + x + more)) := by
  induction c with
  | nil => intro l l' _ h; exact h
  | cons x c ih =>
    intro l l' h0 h
    exact ih _ _ (cutTo_bd h0).1 (cutTo_mono h0 h (by show a + x ≤ a + x + more; omega))
theorem cutTo_ends {now l e x : Int} (h0 : -1 ≤ l) (hx : 0 ≤ x) (h : x ≤ cutTo now l e) : now + 300 * (x + 1) ≤ e := by
  unfold cutTo at h
  split at h
  · omega
  · split at h
    · omega
    · split at h <;> omega
theorem cutAll_ends (now : Int) (es : List Int) : ∀ l : Int, -1 ≤ l → 0 ≤ cutAll now l es → ∀ e ∈ es, now + 300 * (cutAll now l es + 1) ≤ e := by
  induction es with
  | nil => intro l _ _ e he; simp at he
  | cons y es ih =>
    intro l h0 hc e he
    have h1 := (cutTo_bd (now := now) (e := y) h0).1
    rcases List.mem_cons.1 he with rfl | he
    · exact cutTo_ends h0 hc (cutAll_bd now es _ h1).2
    · exact ih _ h1 hc e he

/-- What the law needs of the two grants. -/
theorem grants {now w0 more : Int} {c : List Int} (hn : 0 ≤ now ∧ now ≤ 65535) (hw : 0 ≤ w0 ∧ w0 < 300) (hm : 0 ≤ more ∧ more ≤ 65535)
    (hok : (grantPair now w0 (c.map (fun x => now + x))).2 = true) :
    (grantPair now (w0 + more % 100) (c.map (fun x => now + x + more))).2 = true ∧
    (grantPair now w0 (c.map (fun x => now + x))).1 ≤ (grantPair now (w0 + more % 100) (c.map (fun x => now + x + more))).1 ∧
    (grantPair now w0 (c.map (fun x => now + x))).1 ≤ w0 ∧
    ∀ e ∈ c.map (fun x => now + x), endOf now (grantPair now w0 (c.map (fun x => now + x))).1 ≤ e := by
  have ht : timeB now = true := timeB_mk (by omega) (by omega)
  have h1 : 0 ≤ leastOf w0 [255] ∧ leastOf w0 [255] ≤ 255 ∧ leastOf w0 [255] ≤ w0 ∧ leastOf w0 [255] ≤ leastOf (w0 + more % 100) [255] := by
    rw [least1, least1]; split <;> split <;> omega
  have hmono := cutAll_mono now more now hm.1 c _ _ (by omega) h1.2.2.2
  rw [grant_ref] at hok ⊢
  rw [grant_ref]
  unfold refPair at hok ⊢
  have d1 : (timeB now && !decide (w0 < 0)) = true := by simp [ht]; omega
  have d2 : (timeB now && !decide (w0 + more % 100 < 0)) = true := by simp [ht]; omega
  rw [if_pos d1] at hok ⊢
  rw [if_pos d2]
  by_cases hc : cutAll now (leastOf w0 [255]) (c.map (fun x => now + x)) < 0
  · rw [if_pos hc] at hok; cases hok
  · rw [if_neg hc, if_neg (by omega)]
    have hb := cutAll_bd now (c.map (fun x => now + x)) (leastOf w0 [255]) (by omega)
    have he := cutAll_ends now (c.map (fun x => now + x)) (leastOf w0 [255]) (by omega) (by omega)
    refine ⟨rfl, hmono, by show cutAll _ _ _ ≤ _; omega, fun e hmem => ?_⟩
    have := he e hmem
    show endOf now (cutAll now (leastOf w0 [255]) (c.map (fun x => now + x))) ≤ e
    rw [show endOf now (cutAll now (leastOf w0 [255]) (c.map (fun x => now + x))) = now + 300 * (cutAll now (leastOf w0 [255]) (c.map (fun x => now + x)) + 1) by
      unfold endOf; rw [if_pos ⟨ht, lifeB_mk (by omega) (by omega)⟩]]
    exact this

def Inv (w : World) (a5 : Option Addr) (len5 : Nat) (z : List Int) (f g : Int → Int) (k : Nat) (v u : Value) (wr : World) : Prop :=
  wr.ownsRow w.heap.size 3 1 v k (((z.take k).map f).map (Value.int .i64)) ∧ wr.ownsRow w.heap.size 3 1 u k (((z.take k).map g).map (Value.int .i64)) ∧
  (v.ownBlock = none ∨ v.ownBlock ≠ u.ownBlock) ∧ (u.ownBlock = none ∨ u.ownBlock ≠ v.ownBlock) ∧ Row .u16 wr a5 len5 z ∧ Below w.heap.size w wr

theorem apart_next {v u v' : Value} {H : Nat} (h2 : u.ownBlock = none ∨ u.ownBlock ≠ v.ownBlock) (hu : ∀ k, u.ownBlock = some k → k < H) (hat : v'.ownBlock = v.ownBlock ∨ v'.ownBlock = some H) :
    (v'.ownBlock = none ∨ v'.ownBlock ≠ u.ownBlock) ∧ (u.ownBlock = none ∨ u.ownBlock ≠ v'.ownBlock) := by
  rcases h2 with h2 | h2
  · rw [h2]; cases v'.ownBlock <;> simp
  · rcases hat with e | e
    · rw [e]; exact ⟨.inr (Ne.symm h2), .inr h2⟩
    · rw [e]
      have : u.ownBlock ≠ some H := fun h => by have := hu _ h; omega
      exact ⟨.inr (Ne.symm this), .inr this⟩

set_option maxHeartbeats 4000000 in
theorem walk0 (a0 : Int) (a1 : Int) (a2 : Int) (a3 : Option Addr) (len3 cap3 : Nat) (z3 : List Int) (w : World) (w0 : (Lit.int .u16 a0).wf = true) (w1 : (Lit.int .u16 a1).wf = true) (w2 : (Lit.int .u16 a2).wf = true) (w3 : IsRow .u16 w a3 len3 cap3 z3) :
    Calls Try.prog 6 #[.int .u16 a0, .int .u16 a1, .int .u16 a2, .slice a3 len3 cap3] w fun e w' => e = .returned (.bool true) ∧ Below w.heap.size w w' := by
  have u0 := bounds_u16 w0
  have u1 := bounds_u16 w1
  have u2 := bounds_u16 w2
  have R3 := Lib.hid w3.row
  have hz3 : ∀ n ∈ z3.take len3, 0 ≤ n ∧ n ≤ 65535 := by
    rcases w3 with ⟨_, rfl, _, rfl⟩ | ⟨x, _, _, _, _, _, hw⟩
    · simp
    · intro n hn; exact bounds_u16 (hw n (List.mem_of_mem_take hn))
  have hl3 : len3 ≤ 9223372036854775807 := by have := R3.out.2.1; unfold maxLen at this; omega
  have HZ := Lib.hid hz3
  clear w0 w1 w2 w3 hz3
  generalize z3.take len3 = z at *
  by_cases hb3 : 20 < len3
  · have hb3' : decide (20 < len3) = true := by simpa using hb3
    go_enter Try.func6, Try.ntmps6
    go_wp2_with (go_at_call 9; refine (awake_any _).mono ?_; rintro e wa ⟨rfl, hba⟩; have HBA := Lib.hid hba; clear hba)
    go_ret
    exact ⟨rfl, HBA.out⟩
  have hb3' : decide (20 < len3) = false := by simpa using hb3
  obtain ⟨i0, hi, hz0, hz1, hz2⟩ := info_parts info3
  have HI0 := Lib.hid (And.intro hi (And.intro hz0 (And.intro hz1 hz2)))
  clear hi hz0 hz1 hz2
  go_enter Try.func6, Try.ntmps6
  go_wp2_with (go_at_call 9; refine (awake_any _).mono ?_; rintro e wa ⟨rfl, hba⟩; have HBA := Lib.hid hba; clear hba)
  have HI : Hid (Inv w a3 len3 z (fun x => a0 + x) (fun x => a0 + x + a2) 0 (.slice none 0 0) (.slice none 0 0) wa) := Lib.hid ⟨World.ownsRow_nil _ _ _ _, World.ownsRow_nil _ _ _ _, .inl rfl, .inl rfl, R3.out.below HBA.out, HBA.out⟩
  clear HBA
  go_loopw [9, 10, 11] (fun v u i wr => ∃ k : Nat, k ≤ len3 ∧ i = .int .i64 k ∧ Hid (Inv w a3 len3 z (fun x => a0 + x) (fun x => a0 + x + a2) k v u wr)) (fun _ _ i _ => len3 - (intOf i).toNat)
  case atStart => exact ⟨0, by omega, rfl, HI⟩
  case round =>
    clear HI
    obtain ⟨k, hk, rfl, HI⟩ := hrel
    by_cases hlt : k < len3
    · obtain ⟨b, off, rfl, hcell⟩ : ∃ b off, a3 = some ⟨b, off, none⟩ ∧ wr.cell? ⟨b, off + k, none⟩ = some (.int .u16 (z[k]?.getD 0)) := by
        rcases HI.out.2.2.2.2.1.2.2 with h | ⟨b, off, h1, h2⟩
        · omega
        · exact ⟨b, off, h1, h2 k hlt⟩
      have hzb := HZ.out _ (getD_mem z k (by rw [HI.out.2.2.2.2.1.1]; exact hlt))
      have hws := Lib.hid (map_snoc (fun x => a0 + x) z k (by rw [HI.out.2.2.2.2.1.1]; exact hlt))
      have hws2 := Lib.hid (map_snoc (fun x => a0 + x + a2) z k (by rw [HI.out.2.2.2.2.1.1]; exact hlt))
      have hblt : b < w.heap.size := Row.lt R3.out _ rfl (by omega)
      generalize z[k]?.getD 0 = x at *
      obtain ⟨v, rfl⟩ : ∃ v, v = u9 := ⟨_, rfl⟩
      obtain ⟨u, rfl⟩ : ∃ u, u = u10 := ⟨_, rfl⟩
      go_wp2_with (at_builtin; refine wpList_append_own_at _ rfl (.tmp 29) _ 24 rfl w.heap.size 3 i0 (.int .i64 0) 1 8 Try.underlying24 HI0.out.1 HI0.out.2.1 HI0.out.2.2.1 HI0.out.2.2.2 rfl (by decide) _ _ _ rfl (HI.out.1.alloc _) ⟨wr.heap.size, 0, none⟩ 1 1 [.int .i64 (a0 + x)] rfl rfl ?c1 ?c2 ?c3 ?c4 ?c5 ?_)
      case c1 => exact one_new _ _ _
      case c2 => simp [Value.oneCell']
      case c3 => unfold maxLen; omega
      case c4 => omega
      case c5 => have := HI.out.2.2.2.2.2.size; simp; omega
      intro v' w1 hown' hgrow _ hat
      have hw1 : Hid (Below w.heap.size w w1) := Lib.hid (by
        have hb1 : Below w.heap.size w (wr.alloc (.cells #[.int .i64 (a0 + x)] 3)) := HI.out.2.2.2.2.2.alloc HI.out.2.2.2.2.2.size _
        exact hb1.grown hgrow hb1.size (fun q hq => (HI.out.1.lt q hq).1))
      have hv1 : Hid (w1.ownsRow w.heap.size 3 1 v' (k + 1) (((z.take (k + 1)).map (fun x => a0 + x)).map (Value.int .i64))) := Lib.hid (by rw [hws.out]; simpa using hown')
      have hu1 : Hid (w1.ownsRow w.heap.size 3 1 u k (((z.take k).map (fun x => a0 + x + a2)).map (Value.int .i64))) := Lib.hid ((HI.out.2.1.alloc _).kept hgrow HI.out.2.2.2.1)
      have hap := Lib.hid (apart_next HI.out.2.2.2.1 (fun q hq => by have := (HI.out.2.1.lt q hq).2; simp; omega) hat)
      have hr1 : Hid (Row .u16 w1 (some ⟨b, off, none⟩) len3 z) := Lib.hid (Row.grown (HI.out.2.2.2.2.1.below (Below.alloc1 wr (.cells #[.int .i64 (a0 + x)] 3))) (Row.lt R3.out) hgrow (fun q hq => (HI.out.1.lt q hq).1))
      have HC0 : Hid (w.cell? ⟨b, off + k, none⟩ = some (.int .u16 x)) := Lib.hid (by rw [← HI.out.2.2.2.2.2.cell (p := ⟨b, off + k, none⟩) hblt]; exact hcell)
      clear hown' hgrow hat HI
      have hcell1 : w1.cell? ⟨b, off + k, none⟩ = some (.int .u16 x) := by
        rw [hw1.out.cell (p := ⟨b, off + k, none⟩) hblt]; exact HC0.out
      clear hcell
      go_wp2_with (at_builtin; refine wpList_append_own_at _ rfl (.tmp 40) _ 24 rfl w.heap.size 3 i0 (.int .i64 0) 1 8 Try.underlying24 HI0.out.1 HI0.out.2.1 HI0.out.2.2.1 HI0.out.2.2.2 rfl (by decide) _ _ _ rfl (hu1.out.alloc _) ⟨w1.heap.size, 0, none⟩ 1 1 [.int .i64 (a0 + x + a2)] rfl rfl ?d1 ?d2 ?d3 ?d4 ?d5 ?_)
      case d1 => exact one_new _ _ _
      case d2 => simp [Value.oneCell']
      case d3 => unfold maxLen; omega
      case d4 => omega
      case d5 => have := hw1.out.size; simp; omega
      intro u' w2 hown' hgrow _ hat
      have HI2 : Hid (Inv w (some ⟨b, off, none⟩) len3 z (fun x => a0 + x) (fun x => a0 + x + a2) (k + 1) v' u' w2) := Lib.hid (by
        have hb1 : Below w.heap.size w (w1.alloc (.cells #[.int .i64 (a0 + x + a2)] 3)) := hw1.out.alloc hw1.out.size _
        have hap2 := apart_next hap.out.1 (fun q hq => by have := (hv1.out.lt q hq).2; simp; omega) hat
        refine ⟨(hv1.out.alloc _).kept hgrow hap.out.1, ?_, hap2.2, hap2.1, ?_, ?_⟩
        · rw [hws2.out]; simpa using hown'
        · exact Row.grown (hr1.out.below (Below.alloc1 w1 (.cells #[.int .i64 (a0 + x + a2)] 3))) (Row.lt R3.out) hgrow (fun q hq => (hu1.out.lt q hq).1)
        · exact hb1.grown hgrow hb1.size (fun q hq => (hu1.out.lt q hq).1))
      clear hown' hgrow hat
      go_wp2
      go_roundw
      case rel => exact ⟨k + 1, by omega, by go_num, HI2⟩
      case measure => simp [intOf]; omega
    · obtain rfl : k = len3 := by omega
      obtain ⟨av, cv, hv, hrow⟩ := own_row HI.out.1 (by unfold maxLen; omega)
      obtain ⟨au, cu, hu, hrow2⟩ := own_row HI.out.2.1 (by unfold maxLen; omega)
      have HB := Lib.hid HI.out.2.2.2.2.2
      have HR := Lib.hid hrow
      have HR2 := Lib.hid hrow2
      have hG := grants (now := a0) (w0 := a1 % 300) (more := a2) (c := z.take k) u0 (by omega) u2
      have HG := Lib.hid hG
      clear hrow hrow2 hG
      rw [hv, hu]
      clear hv hu HI
      have hlen := Lib.hid (show ((z.take k).map (fun x => a0 + x)).length = k from HR.out.1)
      generalize (z.take k).map (fun x => a0 + x) = zl at *
      generalize (z.take k).map (fun x => a0 + x + a2) = zm at *
      go_wp2_with fail
      refine (grant_any _ _ _ _ _ zl _ HR.out (by omega)).mono ?_
      rintro e wd ⟨rfl, hbd⟩
      have HBD := Lib.hid hbd
      clear hbd
      go_wp2_with fail
      refine (grant_any _ _ _ _ _ zm _ (HR2.out.below HBD.out) (by omega)).mono ?_
      rintro e we ⟨rfl, hbe⟩
      have HBE := Lib.hid (HB.out.trans ((HBD.out.trans (hbe.mono HBD.out.size)).mono HB.out.size))
      have HRE := Lib.hid ((HR.out.below HBD.out).below hbe)
      clear hbe HB HBD HR HR2
      generalize (grantPair a0 (a1 % 300) zl).fst = ga at *
      generalize (grantPair a0 (a1 % 300) zl).snd = gok at *
      generalize (grantPair a0 (a1 % 300 + a2 % 100) zm).fst = gb at *
      generalize (grantPair a0 (a1 % 300 + a2 % 100) zm).snd = gis at *
      cases gok
      · go_wp2
        go_loopw [17] (fun i wr => i = .int .i64 0 ∧ Hid (Below w.heap.size w wr)) (fun _ _ => 0)
        case atStart => exact ⟨rfl, HBE⟩
        case round =>
          obtain ⟨rfl, HBF⟩ := hrel
          go_wp2
          go_ret
          exact ⟨rfl, HBF.out⟩
      · obtain ⟨hg1, hg2, hg3, hg4⟩ := HG.out rfl
        have HG4 := Lib.hid hg4
        subst hg1
        clear HG hg4
        go_wp2
        go_loopw [17] (fun i wr => ∃ j : Nat, j ≤ k ∧ i = .int .i64 j ∧ Hid (Below w.heap.size w wr ∧ Row .i64 wr av k zl)) (fun i _ => k - (intOf i).toNat)
        case atStart => exact ⟨0, by omega, rfl, Lib.hid ⟨HBE.out, HRE.out⟩⟩
        case round =>
          obtain ⟨j, hj, rfl, HJ⟩ := hrel
          by_cases hjl : j < k
          · obtain ⟨b, off, rfl, hcell⟩ : ∃ b off, av = some ⟨b, off, none⟩ ∧ wr.cell? ⟨b, off + j, none⟩ = some (.int .i64 (zl[j]?.getD 0)) := by
              rcases HJ.out.2.2.2 with h | ⟨b, off, h1, h2⟩
              · omega
              · exact ⟨b, off, h1, h2 j hjl⟩
            have hge := HG4.out _ (getD_mem zl j (by rw [hlen.out]; exact hjl))
            generalize zl[j]?.getD 0 = y at *
            go_wp2
            go_quiet ((go_at_call 11; exact quiet_eq (end_any _ _ _)))
            go_wp2
            go_roundw
            case rel => exact ⟨j + 1, by omega, by go_num, Lib.hid ⟨HJ.out.1.trans ⟨rfl, rfl, rfl, Nat.le_refl _, fun _ _ => rfl⟩, HJ.out.2.below ⟨rfl, rfl, rfl, Nat.le_refl _, fun _ _ => rfl⟩⟩⟩
            case measure => simp [intOf]; omega
          · go_wp2
            go_ret
            exact ⟨rfl, HJ.out.1⟩
end LifetimeMonotone

end Go.Proofs.Ytpbokbaboldhdaa

namespace Go.Proofs.Ytpbokbaboldhdaa.lifetimeMonotone
open Go.ChangeShapes Go.WideShapes Go.ChangeAt Go.RowKit
open Go.ChangeMaps (open_string shut_string)
set_option linter.unusedVariables false

theorem own : ownKnob Try.prog.godebug = none := by kernel_rfl
theorem laidOut : laidOutB Try.prog = true := by kernel_rfl

theorem walk (a0 : Int) (a1 : Int) (a2 : Int) (a3 : Option Addr) (len3 cap3 : Nat) (z3 : List Int) (w : World) (w0 : (Lit.int .u16 a0).wf = true) (w1 : (Lit.int .u16 a1).wf = true) (w2 : (Lit.int .u16 a2).wf = true) (w3 : IsRow .u16 w a3 len3 cap3 z3) :
    Calls Try.prog 6 #[.int .u16 a0, .int .u16 a1, .int .u16 a2, .slice a3 len3 cap3] w fun e w' => e = .returned (.bool true) ∧ Below w.heap.size w w' :=
  LifetimeMonotone.walk0 a0 a1 a2 a3 len3 cap3 z3 w w0 w1 w2 w3

set_option maxRecDepth 100000 in
theorem lifted (os : Os) (started : os.Started) (H : Type) (enc : TypeId × Value → H) :
    ReturnsInHanded {} Try.checked os 6 .any (Rows.lifetimeMonotoneSpec.pre6 enc Try.prog Try.f6 Rows.lifetimeMonotoneRow.domain false) (Rows.lifetimeMonotoneSpec.post enc Try.prog Try.f6 false true false false) := by
  refine returnsInHanded_of_change (C := Try.checked) own started (by kernel_rfl) Try.func6
    (ChangeSpec.witness6 (enc := enc) (C := Try.checked) false ⟨#[], #[.int .u16 0, .int .u16 0, .int .u16 0, .slice none 0 0], []⟩ 8 (by kernel_rfl) (by kernel_rfl) (by kernel_rfl) (by kernel_rfl)) ?_
  intro W base args ds gs before hval0 hW hcnd _
  have hval : ∀ (j : Nat) t v, Try.f6.params[j]? = some t → args[j]? = some v → Value.okWide Try.prog W .any base t v := hval0
  have hW' := hW
  obtain ⟨p, q, hA0, hV, rfl, hfz, hnd⟩ := hW
  have hA : DataW.TrodAll enc Try.prog W 0 (fun _ => true) true Try.f6.params.toList args.toList ds p := hA0
  rw [Try.params6] at hA hval
  obtain ⟨v0, vs0, d0, ds0, p0, q0, hargs, rfl, rfl, h0, r0⟩ := trodAll_cons hA
  obtain ⟨v1, vs1, d1, ds1, p1, q1, rfl, rfl, rfl, h1, r1⟩ := trodAll_cons r0
  obtain ⟨v2, vs2, d2, ds2, p2, q2, rfl, rfl, rfl, h2, r2⟩ := trodAll_cons r1
  obtain ⟨v3, vs3, d3, ds3, p3, q3, rfl, rfl, rfl, h3, r3⟩ := trodAll_cons r2
  obtain ⟨rfl, rfl, rfl⟩ := trodAll_nil r3
  obtain rfl : args = #[v0, v1, v2, v3] := by cases args; simp_all
  obtain ⟨rfl, rfl⟩ := trodVars_none hV
  obtain ⟨a0, rfl, rfl, rfl, w0⟩ := open_int Try.underlying22 (hval 0 22 v0 rfl rfl) h0
  obtain ⟨a1, rfl, rfl, rfl, w1⟩ := open_int Try.underlying22 (hval 1 22 v1 rfl rfl) h1
  obtain ⟨a2, rfl, rfl, rfl, w2⟩ := open_int Try.underlying22 (hval 2 22 v2 rfl rfl) h2
  obtain ⟨a3, len3, cap3, rfl⟩ := okWide_slice Try.underlying32 (hval 3 32 v3 rfl rfl)
  have k3 := h3
  have lt3 : ∀ x ∈ p3, x.block < W.heap.size := by obtain ⟨m, hm⟩ := k3; exact DataW.trod_lt m _ _ _ hm
  obtain ⟨z3, w3⟩ : ∃ zs, IsRow .u16 W a3 len3 cap3 zs := by
    obtain ⟨fuel, hf⟩ := h3
    rcases open_ints Try.underlying32 Try.underlying22 (by kernel_rfl) hf with ⟨hcs, _⟩ | ⟨x, l, c, zs, hcs, _, hl, hm, hz, _, hcell, hwz⟩
    · simp [Value.cells] at hcs
      obtain ⟨rfl, rfl, rfl⟩ := hcs
      exact ⟨[], .inl ⟨rfl, rfl, rfl, rfl⟩⟩
    · simp [Value.cells] at hcs
      obtain ⟨rfl, rfl, rfl⟩ := hcs
      exact ⟨zs, .inr ⟨_, rfl, hl, hm, by simpa using hz, hcell, hwz⟩⟩
  clear hA0 hval0
  refine (walk a0 a1 a2 a3 len3 cap3 z3 W w0 w1 w2 w3).mono fun e W' ⟨he, bel⟩ => ?_
  subst he
  exact ⟨_, rfl, _, _, _, [], _, [], hW', trodAll_mk1 (shut_bool Try.underlying4 _), (trodAll_cons_mk (shut_int Try.underlying22 w0) (trodAll_cons_mk (shut_int Try.underlying22 w1) (trodAll_cons_mk (shut_int Try.underlying22 w2) (trodAll_cons_mk (Below.trod laidOut (by kernel_rfl) (of_decide_eq_true (by kernel_rfl)) k3 bel lt3) trodAll_mk0)))), rfl, bel.frame _, fun h => by cases h⟩

theorem over : Rows.lifetimeMonotoneRow.holds Try.pinned (OpenSpec.ofChange Rows.lifetimeMonotoneSpec) :=
  OpenClaim.holds_of_wide 6 Try.f6 rfl rfl rfl rfl rfl rfl rfl ⟨rfl, rfl, rfl, rfl, rfl⟩ rfl rfl rfl rfl rfl (by kernel_rfl) Try.func6 (by kernel_rfl)
    (of_decide_eq_true (by kernel_rfl)) (by unfold Func.isWrapper; first | (rw [if_pos (by decide +kernel)]; kernel_rfl) | (rw [if_neg (by decide +kernel)]; exact ⟨rfl, rfl⟩))
    (fun os started H enc _ => lifted os started H enc)

/-- ████ THE STATEMENT ████ -/
theorem proved : Rows.LifetimeMonotoneSaid := over
#print axioms proved
end Go.Proofs.Ytpbokbaboldhdaa.lifetimeMonotone
