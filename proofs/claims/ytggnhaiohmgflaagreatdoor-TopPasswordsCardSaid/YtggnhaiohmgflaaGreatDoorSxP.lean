/- Operations: places, parts, slices, conversions, lengths. No conditions. -/
import Derived.Test.YtggnhaiohmgflaaGreatDoorSxO
import Derived.Great.FillDense
import Derived.Laws.Tables
import Derived.Laws.MakeOwn
import Derived.Laws.IdiomStrings
set_option linter.unusedVariables false
set_option linter.unusedSimpArgs false
namespace Go.Proofs.YtggnhaiohmgflaaGreatDoor.Sx
open Go
variable {σ : Nat → Int} {ρ ρ' : Rho} {h h' : H} {w w' : World} {P : Program}

theorem onTup_eq {α : Type} {e : α} {k : List V → α} {v : V} {r : α} (hh : onTup e k v = r) (hne : r ≠ e) : ∃ cs, v = .t cs ∧ k cs = r := by
  cases v <;> first | exact ⟨_, rfl, hh⟩ | exact absurd hh.symm hne
theorem onSl_eq {α : Type} {e : α} {k : Option (Nat × Nat) → Nat → Nat → Option Nat → α} {v : V} {r : α} (hh : onSl e k v = r) (hne : r ≠ e) : ∃ a b c d, v = .sl a b c d ∧ k a b c d = r := by
  cases v <;> first | exact ⟨_, _, _, _, rfl, hh⟩ | exact absurd hh.symm hne
theorem onStr_eq {α : Type} {e : α} {k : List E → α} {v : V} {r : α} (hh : onStr e k v = r) (hne : r ≠ e) : ∃ l, v = .s l ∧ k l = r := by
  cases v <;> first | exact ⟨_, rfl, hh⟩ | exact absurd hh.symm hne
theorem onInt_eq {α : Type} {e : α} {k : IntKind → E → α} {v : V} {r : α} (hh : onInt e k v = r) (hne : r ≠ e) : ∃ a b, v = .i a b ∧ k a b = r := by
  cases v <;> first | exact ⟨_, _, rfl, hh⟩ | exact absurd hh.symm hne
theorem onPtr2_eq {α : Type} {e : α} {k : Nat → Nat → α} {a : Option (Nat × Nat)} {r : α} (hh : onPtr2 e k a = r) (hne : r ≠ e) : ∃ i o, a = some (i, o) ∧ k i o = r := by
  cases a with
  | none => exact absurd hh.symm hne
  | some q => exact ⟨q.1, q.2, rfl, hh⟩
theorem onN_eq {α : Type} {e : α} {k : Nat → α} {v : V} {r : α} (hh : onN e k v = r) (hne : r ≠ e) : ∃ kd n, v = .i kd (.lit (Int.ofNat n)) ∧ k n = r := by
  obtain ⟨kd, x, h1, h2⟩ := onInt_eq (k := fun _ x => onLit e (onNat e k) x) hh hne
  subst h1
  cases x with
  | lit n =>
    cases n with
    | ofNat n => exact ⟨kd, n, rfl, h2⟩
    | negSucc n => exact absurd h2.symm hne
  | lin c l => exact absurd h2.symm hne

section ops
variable {ty : Nat → Option TI} {nt : Nat} {t : Env} {a : Act} {x : V} {call : Nat → CallF}
theorem does_makeFunc {o : Oper} {fn : Fn} {p q : Array Operand} (ho : o.op = .makeFunc fn p q) (g : RT σ ρ nt t a) (gh : RH σ ρ h w)
    (e : opV call (.mkf fn (opdsOf p) (opdsOf q)) t h = .ok x h') : Does P σ ρ h w (execOp a.eval o) x h' := by
  cases e
  refine Does.still gh (v := .func fn (p.map a.eval) (q.map a.eval)) (by simp [execOp, ho, Instr.makeFunc]) ?_
  simp only [RV]
  exact ⟨_, _, rfl, evs_spec g p, evs_spec g q⟩
theorem does_extract {o : Oper} {y : Operand} {n : Nat} (ho : o.op = .extract y n) (g : RT σ ρ nt t a) (gh : RH σ ρ h w)
    (e : opV call (.ext (opdOf y) n) t h = .ok x h') : Does P σ ρ h w (execOp a.eval o) x h' := by
  obtain ⟨vs, h1, h2⟩ := onTup_eq (show onTup (.err "ext") (fun vs => rO (ofO "ext" (nth vs n)) (okV h)) (ev (opdOf y) t) = .ok x h' from e) ok_ne
  obtain ⟨v, h3, h4⟩ := rO_eq h2
  cases h4
  have h5 := ofO_eq h3
  rw [nth_eq] at h5
  have hp := ev_spec g y
  rw [h1] at hp
  simp only [RV] at hp
  obtain ⟨ws, hw, hr⟩ := hp
  obtain ⟨u, hu, hur⟩ := hr.nth h5
  have hu' : ws[n]? = some u := by simpa using hu
  exact Does.still gh (v := u) (by simp [execOp, ho, hw, Instr.extract, hu']) hur
theorem does_lenc_val (gh : RH σ ρ h w) (n : Nat) (hn : n < 2 ^ 63) : RV σ ρ (intV n) (.int .i64 n) := by
  refine RV_int ?_
  unfold inK
  simp [IntKind.min, IntKind.max, IntKind.bits, IntKind.signed]; omega

theorem ix3_ok {len esz r off i : Nat} (e : ix3 len esz r off h i = .ok x h') : i < len ∧ h' = h ∧ x = .p (some (r, off + i * esz)) := by
  unfold ix3 at e
  rw [ifB_eq] at e
  split at e
  · rename_i hb
    cases e
    exact ⟨ble_true hb, rfl, rfl⟩
  · cases e
theorem sizeAt_eq {P : Program} {t1 : Nat} {ti : TI} (hty : ty t1 = some ti) : sizeAt ty t1 = ti.size := by simp [sizeAt, hty]
/-- a type's size that is looked up -/
def SzOk (P : Program) (ty : Nat → Option TI) : Prop := ∀ t ti, ty t = some ti → (∀ e, ti.desc = .slice e → (ty e).isSome = true) ∧ (∀ n e, ti.desc = .array n e → (ty e).isSome = true)
theorem run_sizeAt (hty : TyOk P ty) {e : Nat} (he : (ty e).isSome = true) (w : World) : (sizeOf e).run P w = .ok (sizeAt ty e) w := by
  obtain ⟨te, hte⟩ := Option.isSome_iff_exists.1 he
  obtain ⟨i, z, t1, t2, t3, _⟩ := hty _ _ hte
  rw [run_size t1, t3, sizeAt_eq (P := P) hte]
theorem does_indexAddr {o : Oper} {s : Nat} {y z : Operand} (ho : o.op = .indexAddr s y z) (hty : TyOk P ty) (hsz : SzOk P ty) (g : RT σ ρ nt t a) (gh : RH σ ρ h w)
    (e : opV call (compIndexAddr ty s y z) t h = .ok x h') : Does P σ ρ h w (execOp a.eval o) x h' := by
  obtain ⟨td, ht, e⟩ := withTy_eq e
  obtain ⟨i, zz, t1, t2, t3, _⟩ := hty _ _ ht
  have hp := ev_spec g y
  have hq := ev_spec g z
  split at e
  · rename_i el hd
    obtain ⟨b, len, es, cap, h1, h2⟩ := onSl_eq (show onSl (.err "ixs") (fun a len _ _ => onPtr2 (.err "ixs nil") (fun r off => onN (.err "ixs number") (ix3 len (sizeAt ty el) r off h) (ev (opdOf z) t)) a) (ev (opdOf y) t) = .ok x h' from e) ok_ne
    obtain ⟨r, off, rfl, h3⟩ := onPtr2_eq h2 ok_ne
    obtain ⟨kd, n, h4, h5⟩ := onN_eq h3 ok_ne
    obtain ⟨h6, rfl, rfl⟩ := ix3_ok h5
    rw [h1] at hp
    rw [h4] at hq
    simp only [RV] at hp hq
    obtain ⟨L, A, c, hL, hA, hlc, hcap, hor⟩ := hp
    obtain ⟨hq, _, _⟩ := hq
    have hA2 : A = ⟨L.b, L.o + off, none⟩ := by
      rcases hor with hz | ⟨h, _⟩
      · omega
      · exact h
    have hel := run_sizeAt hty ((hsz _ _ ht).1 _ hd)
    rw [hd] at t2
    refine Does.still gh (v := .pointer (some ⟨L.b, L.o + off + n * sizeAt ty el, none⟩)) ?_ ?_
    · have hq : a.eval z = .int kd (n : Int) := hq
      simp [execOp, ho, hA, hq, Instr.indexAt, asIntOf, run_underlying t2, h6, hel, hA2, add_none]
    · simp only [RV]
      exact ⟨L, hL, by simp only [Nat.add_assoc]⟩
  · rename_i m el hd
    obtain ⟨r, off, h1, h3⟩ := onPtr_eq (show onPtr (.err "ixa") (fun r off => onN (.err "ixa number") (ix3 m (sizeAt ty el) r off h) (ev (opdOf z) t)) (ev (opdOf y) t) = .ok x h' from e) ok_ne
    obtain ⟨kd, n, h4, h5⟩ := onN_eq h3 ok_ne
    obtain ⟨h6, rfl, rfl⟩ := ix3_ok h5
    rw [h1] at hp
    rw [h4] at hq
    simp only [RV] at hp hq
    obtain ⟨L, hL, hA⟩ := hp
    obtain ⟨hq, _, _⟩ := hq
    have hel := run_sizeAt hty ((hsz _ _ ht).2 _ _ hd)
    rw [hd] at t2
    refine Does.still gh (v := .pointer (some ⟨L.b, L.o + off + n * sizeAt ty el, none⟩)) ?_ ?_
    · have hq : a.eval z = .int kd (n : Int) := hq
      simp [execOp, ho, hA, hq, Instr.indexAt, Instr.sureAddr, asIntOf, run_underlying t2, h6, hel, add_none]
    · simp only [RV]
      exact ⟨L, hL, by simp only [Nat.add_assoc]⟩
  · cases e
theorem RB.nth {l : List E} {s : ByteArray} (g : RB σ l s) {i : Nat} {e : E} (hi : l[i]? = some e) : ∃ b, s[i]? = some b ∧ e.val σ = (b.toNat : Int) ∧ e.ok σ := by
  obtain ⟨g1, g2⟩ := g
  have h1 : (l.map (E.val σ))[i]? = some (e.val σ) := by rw [List.getElem?_map, hi]; rfl
  rw [← g1, List.getElem?_map] at h1
  cases hb : s.data.toList[i]? with
  | none => rw [hb] at h1; cases h1
  | some b =>
    rw [hb] at h1
    refine ⟨b, ?_, (Option.some.inj h1).symm, g2 e (List.mem_of_getElem? hi)⟩
    have hlt : i < s.data.size := by
      have := (List.getElem?_eq_some_iff.1 hb).1
      simpa using this
    have h2 : s.data[i]? = some b := by simpa using hb
    have h3 : s.size = s.data.size := rfl
    rw [getElem?_pos s i (by rw [h3]; exact hlt)]
    rw [Array.getElem?_eq_getElem hlt] at h2
    exact h2
theorem does_index {o : Oper} {s : Nat} {y z : Operand} (ho : o.op = .index s y z) (hty : TyOk P ty) (g : RT σ ρ nt t a) (gh : RH σ ρ h w)
    (e : opV call (compIndex ty s y z) t h = .ok x h') : Does P σ ρ h w (execOp a.eval o) x h' := by
  obtain ⟨td, ht, e⟩ := withTy_eq e
  obtain ⟨i, zz, t1, t2, t3, _⟩ := hty _ _ ht
  have hp := ev_spec g y
  have hq := ev_spec g z
  split at e
  · rename_i hd
    obtain ⟨l, h1, h2⟩ := onStr_eq (show onStr (.err "ixstr") (fun l => onN (.err "ixstr number") (ixstr3 l h) (ev (opdOf z) t)) (ev (opdOf y) t) = .ok x h' from e) ok_ne
    obtain ⟨kd, n, h3, h4⟩ := onN_eq h2 ok_ne
    obtain ⟨b, h5, h6⟩ := rO_eq h4
    cases h6
    have h7 := ofO_eq h5
    rw [nth_eq] at h7
    rw [h1] at hp
    rw [h3] at hq
    simp only [RV] at hp hq
    obtain ⟨S, hS, hb⟩ := hp
    obtain ⟨hq, _, _⟩ := hq
    obtain ⟨c, k1, k2, k3⟩ := hb.nth h7
    rw [hd] at t2
    refine Does.still gh (v := .int .u8 c.toNat) ?_ ?_
    · have hq : a.eval z = .int kd (n : Int) := hq
      simp [execOp, ho, hS, hq, Instr.index, asIntOf, run_underlying t2, k1]
    · simp only [RV]
      refine ⟨by rw [k2], k3, ?_⟩
      rw [k2]
      unfold inK
      have := c.toNat_lt
      simp [IntKind.min, IntKind.max, IntKind.bits, IntKind.signed]; omega
  · cases e
end ops
end Go.Proofs.YtggnhaiohmgflaaGreatDoor.Sx
namespace Go.Proofs.YtggnhaiohmgflaaGreatDoor.Sx
open Go
variable {σ : Nat → Int} {ρ ρ' : Rho} {h h' : H} {w w' : World} {P : Program}

/-! parts -/
theorem foldl_parts (off : Nat) (vs : List Value) (cs : Array Value) (hb : off + vs.length ≤ cs.size) :
    ((vs.zipIdx 0).foldl (fun cs (x : Value × Nat) => cs.setIfInBounds (off + x.2) x.1) cs).toList = cs.toList.take off ++ vs ++ cs.toList.drop (off + vs.length) := by
  obtain ⟨h1, h2⟩ := Go.Great.foldl_set off vs 0 cs
  apply List.ext_getElem?
  intro k
  rw [Array.getElem?_toList, h2 k]
  by_cases c : off + 0 ≤ k ∧ k < off + 0 + vs.length ∧ k < cs.size
  · rw [if_pos c, List.getElem?_append_left (by simp; omega), List.getElem?_append_right (by simp; omega)]
    congr 1; simp; omega
  · rw [if_neg c]
    by_cases c1 : k < off
    · rw [List.getElem?_append_left (by simp; omega), List.getElem?_append_left (by simp; omega), List.getElem?_take, if_pos c1, Array.getElem?_toList]
    · by_cases c2 : k < off + vs.length
      · exact absurd ⟨by omega, by omega, by omega⟩ c
      · rw [List.getElem?_append_right (by simp; omega), List.getElem?_drop, ← Array.getElem?_toList]
        congr 1; simp; omega
/-- the parts of a value, side by side with what the executor keeps of them -/
def RPs (σ : Nat → Int) (ρ : Rho) (place : Nat → Option (Nat × Nat)) : List (Nat × Nat × V) → List (Nat × Value) → Prop
  | [], l => l = []
  | p :: ps, l => ∃ q qs, l = q :: qs ∧ place q.1 = some (p.1, p.2.1) ∧ RV σ ρ p.2.2 q.2 ∧ RPs σ ρ place ps qs
theorem fillV_cons (p : Nat × Nat × V) (ps : List (Nat × Nat × V)) (cs : List V) : fillV (p :: ps) cs =
    (ofO "fill cells" (cellsV p.2.2)).bd fun vs => ifB (Nat.beq vs.length p.2.1) ((ofO "fill" (setFrom p.1 vs cs)).bd (fillV ps)) (.err "fill size") := rfl
theorem fill_spec {place : Nat → Option (Nat × Nat)} : ∀ {ps : List (Nat × Nat × V)} {qs : List (Nat × Value)} {cs r : List V} {cells : Array Value}, RPs σ ρ place ps qs → RVs σ ρ cs cells.toList →
    cs.all oneV = true → fillV ps cs = .ok r → ∃ out, Instr.fill place cells qs = some out ∧ RVs σ ρ r out.toList ∧ r.all oneV = true
  | [], qs, cs, r, cells, hp, hv, ho, e => by
    simp only [RPs] at hp
    subst hp
    cases e
    exact ⟨cells, rfl, hv, ho⟩
  | p :: ps, qs, cs, r, cells, hp, hv, ho, e => by
    simp only [RPs] at hp
    obtain ⟨q, qs, rfl, h1, h2, h3⟩ := hp
    rw [fillV_cons] at e
    obtain ⟨vs, e1, e2⟩ := R.bd_eq e
    obtain ⟨k1, k2⟩ := cellsV_spec h2 (ofO_eq e1)
    rw [ifB_eq] at e2
    split at e2
    · rename_i hb
      obtain ⟨cs', e3, e4⟩ := R.bd_eq e2
      obtain ⟨e5, e6⟩ := setFrom_spec _ _ (ofO_eq e3)
      have hl := k1.length
      have hlc := hv.length
      have hsz : q.2.cells.size = p.2.1 := by rw [← beq_true hb, hl]; simp
      have hle : p.1 + q.2.cells.size ≤ cells.size := by simp at hl hlc; omega
      have hf := foldl_parts p.1 q.2.cells.toList cells (by simpa using hle)
      obtain ⟨out, o1, o2, o3⟩ := fill_spec (cells := (q.2.cells.zipIdx).foldl (fun cs (c, j) => cs.setIfInBounds (p.1 + j) c) cells) (cs := cs') h3 (by
        rw [← Array.foldl_toList, Array.toList_zipIdx]
        rw [show ((q.2.cells.toList.zipIdx 0).foldl (fun cs (x : Value × Nat) => cs.setIfInBounds (p.1 + x.2) x.1) cells).toList = _ from hf, e5]
        have hl' : q.2.cells.toList.length = vs.length := hl.symm
        rw [hl']
        exact ((hv.take _).append k1).append (hv.drop _)) (by
        rw [e5]
        simp only [List.all_append, Bool.and_eq_true]
        simp only [List.all_eq_true] at ho ⊢
        refine ⟨⟨fun z hz => ho z (List.mem_of_mem_take hz), ?_⟩, fun z hz => ho z (List.mem_of_mem_drop hz)⟩
        simpa using k2) e4
      refine ⟨out, ?_, o2, o3⟩
      unfold Instr.fill
      simp only [h1, hsz]
      rw [if_neg (by simp; omega)]
      exact o1
    · cases e2
end Go.Proofs.YtggnhaiohmgflaaGreatDoor.Sx
namespace Go.Proofs.YtggnhaiohmgflaaGreatDoor.Sx
open Go
variable {σ : Nat → Int} {ρ ρ' : Rho} {h h' : H} {w w' : World} {P : Program}
/-- the types that a type is made of are in the table, too -/
structure Closed (ty : Nat → Option TI) : Prop where
  sl : ∀ t ti e, ty t = some ti → ti.desc = .slice e → (ty e).isSome = true
  ar : ∀ t ti n e, ty t = some ti → ti.desc = .array n e → (ty e).isSome = true
  st : ∀ t ti fs, ty t = some ti → ti.desc = .struct fs → ∀ f ∈ fs.toList, (ty f.type).isSome = true
theorem Closed.sz {ty : Nat → Option TI} (g : Closed ty) : SzOk P ty := fun t ti ht => ⟨fun e he => g.sl t ti e ht he, fun n e he => g.ar t ti n e ht he⟩
section ops
variable {ty : Nat → Option TI} {nt : Nat} {t : Env} {a : Act} {x : V} {call : Nat → CallF}
theorem info_sizeAt (hty : TyOk P ty) {e : Nat} (he : (ty e).isSome = true) : ∃ i, P.info? e = some i ∧ i.size = sizeAt ty e := by
  obtain ⟨te, hte⟩ := Option.isSome_iff_exists.1 he
  obtain ⟨i, z, t1, t2, t3, _⟩ := hty _ _ hte
  exact ⟨i, t1, by rw [t3, sizeAt_eq (P := P) hte]⟩
theorem places_eq (hty : TyOk P ty) : ∀ (fs : List Field), (∀ f ∈ fs, (ty f.type).isSome = true) →
    fs.mapM (fun f => (P.info? f.type).map fun i => (f.offset, i.size)) = some (fs.map fun f => (f.offset, sizeAt ty f.type))
  | [], _ => by simp
  | f :: fs, hf => by
    obtain ⟨i, h1, h2⟩ := info_sizeAt hty (hf f List.mem_cons_self)
    have ih := places_eq hty fs fun g hg => hf g (List.mem_cons_of_mem _ hg)
    simp [List.mapM_cons, h1, h2, ih]
theorem evParts_cons (p : Nat × Nat × Opd) (ps : List (Nat × Nat × Opd)) (t : Env) : evParts (p :: ps) t = (p.1, p.2.1, ev p.2.2 t) :: evParts ps t := rfl
theorem fillV_parts {p : Nat × Nat × V} {ps : List (Nat × Nat × V)} {cs r : List V} (e : fillV (p :: ps) cs = .ok r) : (cellsV p.2.2).isSome = true ∧ ∃ cs', fillV ps cs' = .ok r := by
  rw [fillV_cons] at e
  obtain ⟨vs, e1, e2⟩ := R.bd_eq e
  rw [ifB_eq] at e2
  split at e2
  · obtain ⟨cs', e3, e4⟩ := R.bd_eq e2
    exact ⟨by rw [ofO_eq e1]; rfl, cs', e4⟩
  · cases e2
theorem fieldParts (g : RT σ ρ nt t a) (fs : Array Field) : ∀ (ps : List (Nat × Operand)) (cs r : List V), fillV (evParts (ps.map (fieldPart ty fs)) t) cs = .ok r →
    RPs σ ρ ((fs.toList.map fun f => (f.offset, sizeAt ty f.type)).toArray[·]?) (evParts (ps.map (fieldPart ty fs)) t) (ps.map fun (i, x) => (i, a.eval x))
  | [], _, _, _ => rfl
  | p :: ps, cs, r, e => by
    rw [List.map_cons, evParts_cons] at e
    obtain ⟨e1, cs', e2⟩ := fillV_parts e
    have ih := fieldParts g fs ps cs' r e2
    rw [List.map_cons, evParts_cons]
    cases hf : fs.toList[p.1]? with
    | none =>
      have : fieldPart ty fs p = (0, 0, .c undV) := by simp only [fieldPart, hf]
      rw [this] at e1
      cases e1
    | some f =>
      have hp : fieldPart ty fs p = (f.offset, sizeAt ty f.type, opdOf p.2) := by simp only [fieldPart, hf]
      rw [hp]
      refine ⟨(p.1, a.eval p.2), _, rfl, ?_, ev_spec g p.2, ih⟩
      simp only [List.getElem?_toArray, List.getElem?_map, hf]; rfl
theorem elemParts (g : RT σ ρ nt t a) (sz : Nat) : ∀ (ps : List (Nat × Operand)),
    RPs σ ρ (fun i => some (i * sz, sz)) (evParts (ps.map (elemPart sz)) t) (ps.map fun (i, x) => (i, a.eval x))
  | [] => rfl
  | p :: ps => by
    rw [List.map_cons, evParts_cons]
    exact ⟨(p.1, a.eval p.2), _, rfl, rfl, ev_spec g p.2, elemParts g sz ps⟩
theorem zero_cells {t1 : Nat} {ti : TI} {cs : List V} (hk : TOk P t1 ti) (hz : ti.zero = some cs) : ∃ i z, P.info? t1 = some i ∧ P.underlying t1 = some ti.desc ∧ i.size = ti.size ∧ i.bytes ≤ 65536 ∧ i.zero = some z ∧ z.cells.size = ti.size ∧ RVs σ ρ cs z.cells.toList ∧ cs.all oneV = true := by
  obtain ⟨i, z, a1, a2, a3, a4, a5, a6, a7, a8, a9⟩ := hk
  obtain ⟨h1, h2⟩ := cellsV_spec (σ := σ) (ρ := ρ) (ofVal_spec z) (a9 cs hz)
  exact ⟨i, z, a1, a2, a3, a4, a5, a6, h1, h2⟩
theorem does_build {o : Oper} {t1 : Nat} {ps : Array (Nat × Operand)} (ho : o.op = .build t1 ps) (hty : TyOk P ty) (hcl : Closed ty) (g : RT σ ρ nt t a) (gh : RH σ ρ h w)
    (e : opV call (compBuild ty t1 ps) t h = .ok x h') : Does P σ ρ h w (execOp a.eval o) x h' := by
  obtain ⟨ti, ht, e⟩ := withTy_eq e
  have fin : ∀ {cells : Array Value} {cs : List V}, P.built t1 (ps.map fun (i, x) => (i, a.eval x)).toList = some cells → RVs σ ρ cs cells.toList → cs.all oneV = true → Does P σ ρ h w (execOp a.eval o) (.g cs) h := by
    intro cells cs hb hr hone
    refine Does.still gh (v := .agg cells) ?_ (by simp only [RV]; exact ⟨_, rfl, hr, hone⟩)
    have := run_build (P := P) w t1 (ps.map fun (i, x) => (i, a.eval x)) cells hb
    simp only [execOp, ho]
    simp [this]
  split at e
  · rename_i fs hd
    obtain ⟨z0, hz, e⟩ := withZero_eq e
    obtain ⟨i, z, a1, a2, a3, a4, a5, a6, k1, k2⟩ := zero_cells (σ := σ) (ρ := ρ) (hty _ _ ht) hz
    obtain ⟨cs, e1, e2⟩ := rO_eq (show rO (fillV (evParts (ps.toList.map (fieldPart ty fs)) t) z0) (fun cs => .ok (.g cs) h) = .ok x h' from e)
    cases e2
    obtain ⟨out, o1, o2, o3⟩ := fill_spec (fieldParts g fs _ _ _ e1) k1 k2 e1
    refine fin ?_ o2 o3
    rw [hd] at a2
    simp only [Program.built, a1, a2, a5, places_eq hty fs.toList (hcl.st _ _ _ ht hd)]
    simpa using o1
  · rename_i n el hd
    obtain ⟨z0, hz, e⟩ := withZero_eq e
    obtain ⟨i, z, a1, a2, a3, a4, a5, a6, k1, k2⟩ := zero_cells (σ := σ) (ρ := ρ) (hty _ _ ht) hz
    obtain ⟨cs, e1, e2⟩ := rO_eq (show rO (fillV (evParts (ps.toList.map (elemPart (sizeAt ty el))) t) z0) (fun cs => .ok (.g cs) h) = .ok x h' from e)
    cases e2
    obtain ⟨out, o1, o2, o3⟩ := fill_spec (elemParts g (sizeAt ty el) ps.toList) k1 k2 e1
    refine fin ?_ o2 o3
    rw [hd] at a2
    obtain ⟨ie, i1, i2⟩ := info_sizeAt hty (hcl.ar _ _ _ _ ht hd)
    simp only [Program.built, a1, a2, a5, i1, i2]
    simpa using o1
  · cases e
/-! zeros, side by side -/
theorem replN_eq {α : Type} : ∀ (n : Nat) (l : List α), replN n l = (List.replicate n l).flatten
  | 0, _ => rfl
  | n + 1, l => by show l ++ replN n l = _; rw [replN_eq n l, List.replicate_succ]; rfl
theorem flat_get {α : Type} [Inhabited α] : ∀ (n : Nat) (l : List α) (k : Nat), k < n * l.length → (List.replicate n l).flatten[k]? = l[k % l.length]?
  | 0, l, k, hk => by simp at hk
  | n + 1, l, k, hk => by
    rw [List.replicate_succ, List.flatten_cons]
    by_cases c : k < l.length
    · rw [List.getElem?_append_left c, Nat.mod_eq_of_lt c]
    · have c := Nat.le_of_not_lt c
      rw [List.getElem?_append_right c, flat_get n l _ (by rw [Nat.succ_mul] at hk; omega)]
      rw [Nat.mod_eq_sub_mod c]
theorem RVs.flat {cs : List V} {vs : List Value} (hv : RVs σ ρ cs vs) : ∀ n, RVs σ ρ (List.replicate n cs).flatten (List.replicate n vs).flatten
  | 0 => rfl
  | n + 1 => by
    rw [List.replicate_succ, List.replicate_succ, List.flatten_cons, List.flatten_cons]
    exact hv.append (RVs.flat hv n)
theorem all_flat {cs : List V} (h : cs.all oneV = true) : ∀ n, ((List.replicate n cs).flatten).all oneV = true
  | 0 => rfl
  | n + 1 => by
    rw [List.replicate_succ, List.flatten_cons, List.all_append, h, all_flat h n]; rfl
theorem madeCells_list (z : Array Value) (n : Nat) : (madeCells z (n * z.size)).toList = (List.replicate n z.toList).flatten := by
  apply List.ext_getElem?
  intro k
  by_cases hk : k < n * z.size
  · rw [flat_get n z.toList k (by simpa using hk)]
    have hz : 0 < z.size := by
      rcases Nat.eq_zero_or_pos z.size with c | c
      · rw [c] at hk; omega
      · exact c
    have hm := Nat.mod_lt k hz
    simp only [madeCells, Array.toList_map, Array.toList_range, List.getElem?_map, List.getElem?_range hk, Option.map_some, Array.length_toList]
    rw [Array.getElem?_toList, Array.getElem?_eq_getElem hm, getElem!_pos z _ hm]
  · rw [List.getElem?_eq_none (by simp [size_madeCells]; omega), List.getElem?_eq_none (by simp [List.length_flatten]; omega)]
end ops
end Go.Proofs.YtggnhaiohmgflaaGreatDoor.Sx
namespace Go.Proofs.YtggnhaiohmgflaaGreatDoor.Sx
open Go
variable {σ : Nat → Int} {ρ ρ' : Rho} {h h' : H} {w w' : World} {P : Program}
/-- a new row, and a slice of it -/
theorem makes_newSl {cs : List V} {c : Array Value} {el : TypeId} {s : Sem Next} {len cap esz : Nat} (hv : RVs σ ρ cs c.toList) (ho : cs.all oneV = true) (hlc : len ≤ cap) (hcap : cap * esz ≤ c.size)
    (hs : s.run P w = .ok (.value (.slice (some ⟨w.heap.size, 0, none⟩) len cap)) (w.alloc (.cells c el))) : Makes P σ ρ h w s (.sl (some (h.next, 0)) len esz (some cap)) (h.newRow cs) := by
  have hl := hv.length
  simp at hl
  refine ⟨fun id => .sl (some (id, 0)) len esz (some cap), .row ⟨0, 0, cs⟩, rfl, rfl, _, _, ⟨w.heap.size, 0, c.size⟩, .cells c el (0, 0), hs, rfl, rfl, rfl, rfl, rfl, fun id => ?_, rfl, by simp [hl], ho, c, el, (0, 0), rfl, rfl, fun j _ => by simp, ?_⟩
  · simp only [RV]
    exact ⟨_, _, _, upd_self _ _ _, rfl, hlc, fun x hx => by cases hx; rfl, .inr ⟨by simp, by simpa using hcap⟩⟩
  · simp only [List.drop_zero]
    rw [List.take_of_length_le (by simp; omega)]; exact hv
section ops
variable {ty : Nat → Option TI} {nt : Nat} {t : Env} {a : Act} {x : V} {call : Nat → CallF}
theorem makes_makeMap {o : Oper} {t1 : Nat} {r : Option Operand} (ho : o.op = .makeMap t1 r) (hty : TyOk P ty) (g : RT σ ρ nt t a)
    (e : opV call (withTy ty t1 fun td => match td.desc with | .map _ _ => .mkm (r.map opdOf) | _ => .bad "mkm") t h = .ok x h') : Makes P σ ρ h w (execOp a.eval o) x h' := by
  obtain ⟨ti, ht, e⟩ := withTy_eq e
  obtain ⟨i, z, t1', t2, _⟩ := hty _ _ ht
  have fin : (execOp a.eval o).run P w = .ok (.value (.map (some w.heap.size))) (w.alloc (.map #[] 0)) → mkm2 h = .ok x h' → Makes P σ ρ h w (execOp a.eval o) x h' := by
    intro hs e
    cases e
    refine ⟨fun id => .m (some id), .map [], rfl, rfl, _, _, ⟨w.heap.size, 0, 0⟩, .map #[] 0, hs, rfl, rfl, rfl, rfl, rfl, fun id => ?_, rfl, 0, rfl⟩
    simp only [RV]
    exact ⟨_, upd_self _ _ _, rfl⟩
  split at e
  · rename_i kt et hd
    rw [hd] at t2
    cases r with
    | none =>
      refine fin ?_ e
      simp [execOp, ho, Instr.makeMap]
    | some y =>
      obtain ⟨k, b, h1, h2⟩ := onInt_eq (show onInt (.err "mkm") (fun _ _ => mkm2 h) (ev (opdOf y) t) = .ok x h' from e) ok_ne
      have hp := ev_spec g y
      rw [h1] at hp
      simp only [RV] at hp
      refine fin ?_ h2
      simp [execOp, ho, Instr.makeMap, run_underlying t2, asInt, asIntOf, hp.1]
  · cases e
theorem natOf_eq {e : E} {n : Nat} (h : natOf e = .ok n) : e = .lit (n : Int) := by
  unfold natOf at h
  split at h
  · cases h; rfl
  · cases h
theorem makes_makeSlice {o : Oper} {t1 : Nat} {l c : Operand} (ho : o.op = .makeSlice t1 l c) (hty : TyOk P ty) (g : RT σ ρ nt t a)
    (e : opV call (compMakeSlice ty t1 l c) t h = .ok x h') : Makes P σ ρ h w (execOp a.eval o) x h' := by
  obtain ⟨td, ht, e⟩ := withTy_eq e
  obtain ⟨i0, z00, _, t2, _⟩ := hty _ _ ht
  split at e
  · rename_i el hd
    rw [hd] at t2
    obtain ⟨ti, hte, e⟩ := withTy_eq e
    obtain ⟨z0, hz, e⟩ := withZero_eq e
    obtain ⟨i, z, a1, a2, a3, a4, a5, a6, k1, k2⟩ := zero_cells (σ := σ) (ρ := ρ) (hty _ _ hte) hz
    have e' : oMks ti.size z0 (opdOf l) (opdOf c) t h = .ok x h' := e
    unfold oMks at e'
    split at e'
    · rename_i k1' el1 k2' el2 h1 h2
      obtain ⟨n, h3, h4⟩ := rO_eq e'
      obtain ⟨m, h5, h6⟩ := rO_eq h4
      rw [ifB_eq] at h6
      split at h6
      · rename_i hb
        simp only [Bool.and_eq_true] at hb
        have hb1 := ble_true hb.1
        have hb2 := ble_true hb.2
        cases h6
        obtain rfl := natOf_eq h3
        obtain rfl := natOf_eq h5
        have hp := ev_spec g l
        have hq := ev_spec g c
        rw [h1] at hp
        rw [h2] at hq
        simp only [RV] at hp hq
        have hp' : a.eval l = .int k1' (n : Int) := hp.1
        have hq' : a.eval c = .int k2' (m : Int) := hq.1
        have hrun := run_make (P := P) w t1 el i z t2 a1 a5 k1' k2' (n : Int) (m : Int) (by omega) (by omega) (by
          have : i.bytes * m ≤ 65536 * 1000000 := Nat.mul_le_mul a4 hb2
          have h7 : ((i.bytes * m : Nat) : Int) ≤ 281474976710656 := by omega
          rwa [Int.natCast_mul] at h7) (by omega)
        simp only [Int.toNat_natCast] at hrun
        have hsz : m * i.size = m * z.cells.size := by rw [a6, a3]
        have hlist : (madeCells z.cells (m * i.size)).toList = (List.replicate m z.cells.toList).flatten := by rw [hsz, madeCells_list]
        refine makes_newSl (el := el) (c := madeCells z.cells (m * i.size)) (by rw [hlist, repl_eq]; exact k1.flat m) (by rw [repl_eq]; exact all_flat k2 m) hb1 (by rw [size_madeCells, a3]; exact Nat.le_refl _) ?_
        simp [execOp, ho, hp', hq', hrun]
      · cases h6
    · cases e'
  · cases e
theorem makes_buildSlice {o : Oper} {t1 n : Nat} {ps : Array (Nat × Operand)} (ho : o.op = .buildSlice t1 n ps) (hty : TyOk P ty) (g : RT σ ρ nt t a)
    (e : opV call (compBSlice ty t1 n ps) t h = .ok x h') : Makes P σ ρ h w (execOp a.eval o) x h' := by
  obtain ⟨td, ht, e⟩ := withTy_eq e
  obtain ⟨i0, z00, _, t2, _⟩ := hty _ _ ht
  split at e
  · rename_i el hd
    rw [hd] at t2
    obtain ⟨ti, hte, e⟩ := withTy_eq e
    obtain ⟨z0, hz, e⟩ := withZero_eq e
    obtain ⟨i, z, a1, a2, a3, a4, a5, a6, k1, k2⟩ := zero_cells (σ := σ) (ρ := ρ) (hty _ _ hte) hz
    split at e
    · rename_i hb
      have hb := ble_true hb
      obtain ⟨cs, e1, e2⟩ := rO_eq (show rO (fillV (evParts (ps.toList.map (elemPart ti.size)) t) (replN n z0)) (fun cs => .ok (.sl (some (h.next, 0)) n ti.size (some n)) (h.newRow cs)) = .ok x h' from e)
      cases e2
      have hsz : n * i.size = n * z.cells.size := by rw [a6, a3]
      have hlist : (madeCells z.cells (n * i.size)).toList = (List.replicate n z.cells.toList).flatten := by rw [hsz, madeCells_list]
      obtain ⟨out, o1, o2, o3⟩ := fill_spec (cells := madeCells z.cells (n * i.size)) (elemParts g ti.size ps.toList) (by rw [hlist, replN_eq]; exact k1.flat n) (by rw [replN_eq]; exact all_flat k2 n) e1
      have hl := o2.length
      have hlen : ∀ {ps : List (Nat × Nat × V)} {a b : List V}, fillV ps a = .ok b → b.length = a.length := by
        intro ps
        induction ps with
        | nil => intro a b e; cases e; rfl
        | cons p ps ih =>
          intro a b e
          rw [fillV_cons] at e
          obtain ⟨vs, e1, e2⟩ := R.bd_eq e
          rw [ifB_eq] at e2
          split at e2
          · obtain ⟨cs', e3, e4⟩ := R.bd_eq e2
            obtain ⟨e5, e6⟩ := setFrom_spec _ _ (ofO_eq e3)
            rw [ih e4, e5]; simp; omega
          · cases e2
      have hs := hlen e1
      have hz0 : z0.length = ti.size := by rw [k1.length]; simp [a6]
      have hout : out.size = n * ti.size := by
        have : out.toList.length = cs.length := hl.symm
        rw [hs, replN_eq] at this
        simpa [List.length_flatten, hz0] using this
      refine makes_newSl (el := el) (c := out) o2 o3 (Nat.le_refl _) (by rw [hout]; exact Nat.le_refl _) ?_
      have hlim : ¬ (16777216 < n * i.size) := by rw [a3]; omega
      have hzc : (if n * i.size = 0 then (pure #[] : Sem (Array Value)) else do pure (← zeroValue el).cells).run P w = .ok (if n * i.size = 0 then #[] else z.cells) w := by
        split
        · rfl
        · simp [run_zero a1 a5]
      have hmc : (Array.range (n * i.size)).map ((if n * i.size = 0 then #[] else z.cells)[· % (if n * i.size = 0 then #[] else z.cells).size]!) = madeCells z.cells (n * i.size) := by
        by_cases hn : n * i.size = 0
        · simp [hn, madeCells]
        · simp [hn, madeCells]
      rw [← a3] at o1
      by_cases hn : n * i.size = 0
      · have hm : madeCells z.cells (n * i.size) = #[] := by rw [hn]; simp [madeCells]
        rw [hm] at o1
        have o1' : Instr.fill (fun i_1 => some (i_1 * i.size, i.size)) #[] (List.map (fun x => (x.1, a.eval x.2)) ps.toList) = some out := by simpa using o1
        have hr0 : Array.map (fun _ => (default : Value)) (Array.range 0) = #[] := by rw [Array.range_zero', Array.map_empty]
        simp [execOp, ho, Instr.buildSlice, run_underlying t2, run_size a1, hn, hr0, o1', newRow]
      · have o1' : Instr.fill (fun i_1 => some (i_1 * i.size, i.size)) (madeCells z.cells (n * i.size)) (List.map (fun x => (x.1, a.eval x.2)) ps.toList) = some out := by simpa using o1
        unfold madeCells at o1'
        simp [execOp, ho, Instr.buildSlice, run_underlying t2, run_size a1, hlim, hn, run_zero a1 a5, o1', newRow]
    · cases e
  · cases e
end ops
end Go.Proofs.YtggnhaiohmgflaaGreatDoor.Sx
namespace Go.Proofs.YtggnhaiohmgflaaGreatDoor.Sx
open Go
variable {σ : Nat → Int} {ρ ρ' : Rho} {h h' : H} {w w' : World} {P : Program}
section ops
variable {ty : Nat → Option TI} {nt : Nat} {t : Env} {a : Act} {x : V} {call : Nat → CallF}
theorem bound_ok {v : V} {u : Value} {most n : Nat} (e : bound v most = .ok n) (hv : RV σ ρ v u) : n ≤ most ∧ ∃ k, u = .int k (n : Int) := by
  unfold bound at e
  split at e
  · rename_i k b
    obtain ⟨m, h1, h2⟩ := R.bd_eq e
    rw [ifB_eq] at h2
    split at h2
    · rename_i hb
      cases h2
      obtain rfl := natOf_eq h1
      simp only [RV] at hv
      exact ⟨ble_true hb, k, hv.1⟩
    · cases h2
  · cases e
/-- a bound that is told, or not given -/
theorem bndO_ok (g : RT σ ρ nt t a) {y : Option Operand} {most dflt n : Nat} (e : bndO (y.map opdOf) t most dflt = .ok n) :
    (y = none ∧ n = dflt) ∨ ∃ z k, y = some z ∧ n ≤ most ∧ a.eval z = .int k (n : Int) := by
  cases y with
  | none => cases e; exact .inl ⟨rfl, rfl⟩
  | some z =>
    obtain ⟨h1, k, h2⟩ := bound_ok (show bound (ev (opdOf z) t) most = .ok n from e) (ev_spec g z)
    exact .inr ⟨z, k, rfl, h1, h2⟩
theorem run_bounds {isSlice : Bool} {len cap lo hi m : Nat} {l hh mx : Option Value}
    (hm : (mx = none ∧ m = cap) ∨ ∃ k, mx = some (.int k (m : Int)) ∧ m ≤ cap) (hh' : (hh = none ∧ mx = none ∧ hi = len) ∨ ∃ k, hh = some (.int k (hi : Int)) ∧ hi ≤ m)
    (hl : (l = none ∧ lo = 0) ∨ ∃ k, l = some (.int k (lo : Int)) ∧ lo ≤ hi) (w : World) : (Instr.sliceBounds isSlice len cap l hh mx).run P w = .ok (lo, hi, m) w := by
  have sb : ∀ (k : IntKind) (n y : Nat) (c : BoundsCode), n ≤ y → (Instr.sliceBound (.int k (n : Int)) y c).run P w = .ok n w := fun k n y c hny => by
    rw [run_sliceBound w k (n : Int) y c (by omega) (by omega)]; rfl
  unfold Instr.sliceBounds
  rcases hm with ⟨rfl, rfl⟩ | ⟨km, rfl, hm⟩
  · rcases hh' with ⟨rfl, _, rfl⟩ | ⟨kh, rfl, hh'⟩ <;> rcases hl with ⟨rfl, rfl⟩ | ⟨kl, rfl, hl⟩ <;> simp [sb, *]
  · rcases hh' with ⟨rfl, hc, rfl⟩ | ⟨kh, rfl, hh'⟩
    · cases hc
    · rcases hl with ⟨rfl, rfl⟩ | ⟨kl, rfl, hl⟩ <;> simp [sb, *]
theorem does_slice {o : Oper} {t1 : Nat} {y : Operand} {lo hi mx : Option Operand} (ho : o.op = .slice t1 y lo hi mx) (hty : TyOk P ty) (hcl : Closed ty) (g : RT σ ρ nt t a) (gh : RH σ ρ h w)
    (e : opV call (compSlice ty t1 y lo hi mx) t h = .ok x h') : Does P σ ρ h w (execOp a.eval o) x h' := by
  obtain ⟨td, ht, e⟩ := withTy_eq e
  obtain ⟨i0, z00, _, t2, _⟩ := hty _ _ ht
  have hp := ev_spec g y
  split at e
  · rename_i el hd
    rw [hd] at t2
    split at e
    · cases e
    · rename_i hhm
      have hel := run_sizeAt hty (hcl.sl _ _ _ ht hd)
      generalize sizeAt ty el = sz at *
      have e' : oSub sz (opdOf y) (lo.map opdOf) (hi.map opdOf) (mx.map opdOf) t h = .ok x h' := e
      unfold oSub at e'
      split at e'
      · rename_i b len es cap hv
        rw [ifB_eq] at e'
        split at e'
        · cases e'
        · rename_i hsz
          simp only [Bool.not_eq_true', Bool.not_eq_false, Bool.or_eq_true] at hsz
          obtain ⟨m, e1, e2⟩ := rO_eq e'
          obtain ⟨h1, e3, e4⟩ := rO_eq e2
          obtain ⟨l1, e5, e6⟩ := rO_eq e4
          rw [hv] at hp
          have bm := bndO_ok g e1
          have bh := bndO_ok g e3
          have bl := bndO_ok g e5
          -- the slice's own value
          have key : ∃ A c, a.eval y = .slice A len c ∧ len ≤ c ∧ (∀ x, cap = some x → c = x) ∧ (cap.getD len ≤ c) := by
            cases b with
            | none =>
              simp only [RV] at hp
              obtain ⟨p1, rfl, p2⟩ := hp
              refine ⟨none, 0, p1, Nat.le_refl _, fun x hx => ?_, ?_⟩
              · rcases p2 with rfl | rfl
                · cases hx
                · cases hx; rfl
              · rcases p2 with rfl | rfl <;> exact Nat.le_refl _
            | some q =>
              simp only [RV] at hp
              obtain ⟨L, A, c, _, p1, p2, p3, _⟩ := hp
              refine ⟨some A, c, p1, p2, p3, ?_⟩
              cases cap with
              | none => exact p2
              | some x => rw [p3 x rfl]; exact Nat.le_refl _
          obtain ⟨A, c, hA, hlc, hcap, hcd⟩ := key
          -- the bounds that the machine finds
          have hlo : l1 ≤ h1 := by
            rcases bl with ⟨_, rfl⟩ | ⟨_, _, _, hle, _⟩
            · exact Nat.zero_le _
            · exact hle
          have hhi : h1 ≤ m := by
            rcases bh with ⟨hn, rfl⟩ | ⟨_, _, _, hle, _⟩
            · rcases bm with ⟨_, rfl⟩ | ⟨z, k, hz, _⟩
              · cases cap with
                | none => exact Nat.le_refl _
                | some x => have := hcap x rfl; show h1 ≤ x; omega
              · rw [hn, hz] at hhm; cases hhm
            · exact hle
          obtain ⟨M, hM1, hM2, hM3, hM4⟩ : ∃ M, h1 ≤ M ∧ M ≤ c ∧ ((mx.map a.eval = none ∧ M = c) ∨ ∃ k, mx.map a.eval = some (.int k (M : Int)) ∧ M ≤ c) ∧ (∀ x, capAfter (mx.map opdOf) cap m l1 = some x → M - l1 = x) := by
            rcases bm with ⟨hn, hm⟩ | ⟨z, k, hz, hle, hev⟩
            · refine ⟨c, by rw [hm] at hhi; exact Nat.le_trans hhi hcd, Nat.le_refl _, .inl ⟨by rw [hn]; rfl, rfl⟩, fun x hx => ?_⟩
              rw [hn] at hx
              cases cap with
              | none => cases hx
              | some q => cases hx; rw [hcap q rfl]; rfl
            · refine ⟨m, hhi, Nat.le_trans hle hcd, .inr ⟨k, by rw [hz]; simp [hev], Nat.le_trans hle hcd⟩, fun x hx => ?_⟩
              rw [hz] at hx
              cases hx; rfl
          have hb := run_bounds (P := P) (isSlice := true) (len := len) (cap := c) (lo := l1) (hi := h1) (m := M) (l := lo.map a.eval) (hh := hi.map a.eval) (mx := mx.map a.eval) hM3
            (by
              rcases bh with ⟨hn, rfl⟩ | ⟨z, k, hz, hle, hev⟩
              · refine .inl ⟨by rw [hn]; rfl, ?_, rfl⟩
                cases mx with
                | none => rfl
                | some z => rw [hn] at hhm; cases hhm
              · exact .inr ⟨k, by rw [hz]; simp [hev], hM1⟩)
            (by
              rcases bl with ⟨hn, rfl⟩ | ⟨z, k, hz, hle, hev⟩
              · exact .inl ⟨by rw [hn]; rfl, rfl⟩
              · exact .inr ⟨k, by rw [hz]; simp [hev], hle⟩) w
          have hrun : (execOp a.eval o).run P w = .ok (.value (.slice (if M = l1 then A else A.map (·.add (l1 * sz))) (h1 - l1) (M - l1))) w := by
            simp [execOp, ho, Instr.sliceAt, run_underlying t2, Instr.slice, hA, hb, hel]
          cases b with
          | none =>
            simp only [RV] at hp
            obtain ⟨p1, rfl, p2⟩ := hp
            rw [hA] at p1; cases p1
            cases e6
            have hM0 : M = 0 := by omega
            have hh0 : h1 = 0 := by omega
            have hl0 : l1 = 0 := by omega
            subst hM0 hh0 hl0
            refine Does.still gh (v := .slice none 0 0) (by simpa using hrun) ?_
            simp only [RV]
            exact ⟨trivial, trivial, .inr trivial⟩
          | some q =>
            simp only [RV] at hp
            obtain ⟨L, A', c', hL, p1, p2, p3, p4⟩ := hp
            rw [hA] at p1; cases p1
            cases e6
            have hes : es = sz := hsz.elim (fun c => by cases c) (fun c => beq_true c)
            subst hes
            refine Does.still gh (v := .slice (if M = l1 then some A' else (some A').map (·.add (l1 * es))) (h1 - l1) (M - l1)) hrun ?_
            by_cases hMl : M = l1
            · rw [if_pos hMl]
              simp only [RV]
              exact ⟨L, A', M - l1, hL, rfl, by show h1 - l1 ≤ _; omega, fun x hx => hM4 x hx, .inl (by omega)⟩
            · rw [if_neg hMl]
              obtain ⟨p5, p6⟩ := p4.resolve_left (by omega)
              simp only [RV]
              refine ⟨L, A'.add (l1 * es), M - l1, hL, rfl, by show h1 - l1 ≤ _; omega, fun x hx => hM4 x hx, .inr ⟨?_, ?_⟩⟩
              · rw [p5, add_none]; simp [Nat.add_assoc]
              · have : (M - l1) * es + l1 * es ≤ c * es := by
                  rw [← Nat.add_mul]; exact Nat.mul_le_mul_right _ (by omega)
                show L.o + (q.2 + l1 * es) + (M - l1) * es ≤ L.n
                omega
      · cases e'
  · rename_i n el hd
    rw [hd] at t2
    split at e
    · rename_i hmx
      have hel := run_sizeAt hty (hcl.ar _ _ _ _ ht hd)
      generalize sizeAt ty el = sz at *
      have e' : oSubarr n sz (opdOf y) (lo.map opdOf) (hi.map opdOf) t h = .ok x h' := e
      unfold oSubarr at e'
      split at e'
      · rename_i r off hv
        obtain ⟨row, e0, e1⟩ := rO_eq e'
        rw [ifB_eq] at e1
        split at e1
        · cases e1
        · rename_i hfit
          simp only [Bool.not_eq_true', Bool.not_eq_false] at hfit
          have hfit := ble_true hfit
          obtain ⟨h1, e3, e4⟩ := rO_eq e1
          obtain ⟨l1, e5, e6⟩ := rO_eq e4
          cases e6
          rw [hv] at hp
          simp only [RV] at hp
          obtain ⟨L, hL, hA⟩ := hp
          have bh := bndO_ok g e3
          have bl := bndO_ok g e5
          have hlo : l1 ≤ h1 := by
            rcases bl with ⟨_, rfl⟩ | ⟨_, _, _, hle, _⟩
            · exact Nat.zero_le _
            · exact hle
          have hhi : h1 ≤ n := by
            rcases bh with ⟨_, rfl⟩ | ⟨_, _, _, hle, _⟩
            · exact Nat.le_refl _
            · exact hle
          obtain ⟨M, hM, hr⟩ := gh.row _ _ (H.row_ok e0)
          rw [hL] at hM; cases hM
          have hfits := hr.fits
          have hb := run_bounds (P := P) (isSlice := false) (len := n) (cap := n) (lo := l1) (hi := h1) (m := n) (l := lo.map a.eval) (hh := hi.map a.eval) (mx := none) (.inl ⟨rfl, rfl⟩)
            (by
              rcases bh with ⟨hn, rfl⟩ | ⟨z, k, hz, hle, hev⟩
              · exact .inl ⟨by rw [hn]; rfl, rfl, rfl⟩
              · exact .inr ⟨k, by rw [hz]; simp [hev], hle⟩)
            (by
              rcases bl with ⟨hn, rfl⟩ | ⟨z, k, hz, hle, hev⟩
              · exact .inl ⟨by rw [hn]; rfl, rfl⟩
              · exact .inr ⟨k, by rw [hz]; simp [hev], hle⟩) w
          have hrun : (execOp a.eval o).run P w = .ok (.value (.slice (some (if n = l1 then ⟨L.b, L.o + off, none⟩ else ⟨L.b, L.o + off + l1 * sz, none⟩)) (h1 - l1) (n - l1))) w := by
            simp [execOp, ho, Instr.sliceAt, Instr.sureAddr, run_underlying t2, hA, hb, hel, add_none]
          refine Does.still gh (v := .slice (some (if n = l1 then ⟨L.b, L.o + off, none⟩ else ⟨L.b, L.o + off + l1 * sz, none⟩)) (h1 - l1) (n - l1)) hrun ?_
          simp only [RV]
          refine ⟨L, _, n - l1, hL, rfl, by show h1 - l1 ≤ _; omega, fun x hx => by cases hx; rfl, ?_⟩
          by_cases hMl : n = l1
          · exact .inl (by omega)
          · right
            rw [if_neg hMl]
            refine ⟨by simp [Nat.add_assoc], ?_⟩
            have : (n - l1) * sz + l1 * sz ≤ n * sz := by
              rw [← Nat.add_mul]; exact Nat.mul_le_mul_right _ (by omega)
            have hf2 : off + n * sz ≤ row.cells.length := hfit
            show L.o + (off + l1 * sz) + (n - l1) * sz ≤ L.n
            omega
      · cases e'
    · cases e
  · cases e
end ops
end Go.Proofs.YtggnhaiohmgflaaGreatDoor.Sx
namespace Go.Proofs.YtggnhaiohmgflaaGreatDoor.Sx
open Go
variable {σ : Nat → Int} {ρ ρ' : Rho} {h h' : H} {w w' : World} {P : Program}
theorem fitE_ok {k : IntKind} {x : Option E} {v : V} (e : fitE k x = .ok v) : ∃ y, x = some y ∧ v = .i k y ∧ inside y k.min k.max = true := by
  unfold fitE at e
  split at e
  · split at e
    · rename_i y hi
      cases e; exact ⟨_, rfl, rfl, hi⟩
    · cases e
  · cases e
theorem fitE_spec {k : IntKind} {x : Option E} {v : V} {n : Int} (e : fitE k x = .ok v) (hx : ∀ y, x = some y → y.val σ = n ∧ y.ok σ) : RV σ ρ v (.int k n) ∧ inK k n := by
  obtain ⟨y, h1, rfl, h3⟩ := fitE_ok e
  obtain ⟨h4, h5⟩ := hx y h1
  have h6 := inside_spec h3 h5
  subst h4
  exact ⟨by simp only [RV]; exact ⟨trivial, h5, h6⟩, h6⟩
theorem wrap_un {k : IntKind} (hs : k.signed = false) (n : Int) : k.wrap n = n % ((2 ^ k.bits : Nat) : Int) := by
  unfold IntKind.wrap
  cases k <;> simp [IntKind.signed, IntKind.bits] at * 
section ops
variable {ty : Nat → Option TI} {nt : Nat} {t : Env} {a : Act} {x : V} {call : Nat → CallF}
theorem cvi3_spec {k k' : IntKind} {b : E} (e : cvi3 k h b = .ok x h') (hb : b.ok σ) : h' = h ∧ RV σ ρ x (.int k (k.wrap (b.val σ))) := by
  cases b with
  | lit n =>
    cases e
    exact ⟨rfl, by rw [wrapI_eq]; exact RV_wrap k n⟩
  | lin c ts =>
    obtain ⟨v, e1, e2⟩ := rO_eq (show rO (cviS k (.lin c ts)) (okV h) = .ok x h' from e)
    cases e2
    refine ⟨rfl, ?_⟩
    unfold cviS at e1
    split at e1
    · rename_i hi
      cases e1
      have h1 := inside_spec hi hb
      rw [wrap_id h1]
      simp only [RV]
      exact ⟨trivial, hb, h1⟩
    · split at e1
      · cases e1
      · rename_i hs
        have := fitE_spec (σ := σ) (ρ := ρ) (n := k.wrap ((E.lin c ts).val σ)) e1 (fun y hy => by
          rw [wrap_un hs]
          exact modE_spec (Nat.two_pow_pos _) hy hb)
        exact this.1
theorem does_unOp {o : Oper} {op : UnOp} {t1 : Nat} {y : Operand} (ho : o.op = .unOp op t1 y) (g : RT σ ρ nt t a) (gh : RH σ ρ h w)
    (e : opV call (.un op (opdOf y)) t h = .ok x h') : Does P σ ρ h w (execOp a.eval o) x h' := by
  obtain ⟨v, e1, e2⟩ := rO_eq (show rO (un2 op (ev (opdOf y) t)) (okV h) = .ok x h' from e)
  cases e2
  have hp := ev_spec g y
  unfold un2 at e1
  split at e1
  · rename_i b hv
    cases e1
    rw [hv] at hp
    simp only [RV] at hp
    exact Does.still gh (v := .bool (!b)) (by simp [execOp, ho, hp, Op.unary]) (by simp only [RV])
  · rename_i k n hv
    cases e1
    rw [hv] at hp
    simp only [RV] at hp
    have hp1 : a.eval y = .int k n := hp.1
    refine Does.still gh (v := .int k (k.wrap (0 - n))) (by simp [execOp, ho, hp1, Op.unary, Op.intArith]) ?_
    rw [wrapI_eq]; exact RV_wrap k (0 - n)
  · cases e1
theorem RB.length {l : List E} {s : ByteArray} (g : RB σ l s) : l.length = s.size := by
  have := congrArg List.length g.1
  simpa using this.symm
theorem bytesV_cons (y : V) (cs : List V) : bytesV (y :: cs) = onInt (.err "bytes") (fun k e => ifB (Nat.beq (kindN k) (kindN .u8)) ((bytesV cs).bd fun l => .ok (e :: l)) (.err "bytes kind")) y := rfl
theorem bytes_spec : ∀ {cs : List V} {vs : List Value} {l : List E}, bytesV cs = .ok l → RVs σ ρ cs vs → ∃ bs : List UInt8, vs = bs.map (fun b => Value.int .u8 (b.toNat : Int)) ∧ bs.map (fun b => (b.toNat : Int)) = l.map (E.val σ) ∧ ∀ e ∈ l, e.ok σ
  | [], vs, l, e, hv => by
    cases e
    simp only [RVs] at hv
    subst hv
    exact ⟨[], rfl, rfl, by simp⟩
  | y :: cs, vs, l, e, hv => by
    rw [bytesV_cons] at e
    obtain ⟨k, b, rfl, e1⟩ := onInt_eq e (by intro c; cases c)
    rw [ifB_eq] at e1
    split at e1
    · rename_i hk
      obtain rfl := kindN_inj hk
      obtain ⟨l', e2, e3⟩ := R.bd_eq e1
      cases e3
      simp only [RVs] at hv
      obtain ⟨v, vs, rfl, h1, h2⟩ := hv
      obtain ⟨bs, k1, k2, k3⟩ := bytes_spec e2 h2
      simp only [RV] at h1
      obtain ⟨rfl, h4, h5⟩ := h1
      have hlo : 0 ≤ b.val σ := h5.1
      have hhi : b.val σ ≤ 255 := h5.2
      have hb : ((UInt8.ofNat (b.val σ).toNat).toNat : Int) = b.val σ := by
        rw [UInt8.toNat_ofNat']; omega
      refine ⟨UInt8.ofNat (b.val σ).toNat :: bs, ?_, ?_, ?_⟩
      · rw [List.map_cons, hb, k1]
      · rw [List.map_cons, List.map_cons, hb, k2]
      · intro e he
        rcases List.mem_cons.1 he with rfl | he
        · exact h4
        · exact k3 e he
    · cases e1
theorem RB_mk {l : List E} {bs : List UInt8} (h1 : bs.map (fun b => (b.toNat : Int)) = l.map (E.val σ)) (h2 : ∀ e ∈ l, e.ok σ) : RB σ l ⟨bs.toArray⟩ := ⟨by simpa using h1, h2⟩
/-- the bytes of a text, in a row of their own -/
theorem makes_s2b {o : Oper} {s d el : Nat} {y : Operand} (ho : o.op = .convert s d y) (s2 : P.underlying s = some .string) (d2 : P.underlying d = some (.slice el)) (u2 : P.underlying el = some (.int .u8)) (g : RT σ ρ nt t a)
    (e : opV call (.s2b (opdOf y)) t h = .ok x h') : Makes P σ ρ h w (execOp a.eval o) x h' := by
  have hp := ev_spec g y
  have e' : oS2b (opdOf y) t h = .ok x h' := e
  unfold oS2b at e'
  split at e'
  · rename_i l hv
    cases e'
    rw [hv] at hp
    simp only [RV] at hp
    obtain ⟨S, hS, hb⟩ := hp
    have hrun := run_bytes_of_string (P := P) w s d el S s2 d2 u2
    have hcap := grownCap_ge w S.size 0 el
    have hl := RB.length hb
    have hsize : (bytesRow S (grownCap w S.size 0 el)).size = grownCap w S.size 0 el := by
      have h3 : S.size = S.data.size := rfl
      simp [bytesRow]; omega
    refine ⟨fun id => .sl (some (id, 0)) l.length 1 none, .row ⟨0, 0, cellsOfS l⟩, rfl, rfl, .slice (some ⟨w.heap.size, 0, none⟩) S.size (grownCap w S.size 0 el),
      w.drew.alloc (.cells (bytesRow S (grownCap w S.size 0 el)) el ((bytesRow S (grownCap w S.size 0 el)).size, (bytesRow S (grownCap w S.size 0 el)).size + 1)),
      ⟨w.heap.size, 0, (bytesRow S (grownCap w S.size 0 el)).size⟩, .cells (bytesRow S (grownCap w S.size 0 el)) el ((bytesRow S (grownCap w S.size 0 el)).size, (bytesRow S (grownCap w S.size 0 el)).size + 1),
      (by simp only [execOp, ho, hS]; simp [hrun]), rfl, rfl, rfl, rfl, rfl, fun id => ?_, rfl, ?_, by simp [cellsOfS, oneV], _, _, _, rfl, rfl, (fun j hj => by simp at hj ⊢; omega), ?_⟩
    · simp only [RV]
      exact ⟨_, ⟨w.heap.size, 0, none⟩, grownCap w S.size 0 el, upd_self _ _ _, by rw [hl], by omega, (fun z hz => by cases hz), .inr ⟨by simp, by simp only [hsize]; omega⟩⟩
    · simp only [hsize, cellsOfS, List.length_map]; omega
    · have h3 : S.size = S.data.size := rfl
      have ht : (((bytesRow S (grownCap w S.size 0 el)).toList.drop 0).take (cellsOfS l).length) = S.data.toList.map fun b => Value.int .u8 (b.toNat : Int) := by
        simp only [bytesRow, cellsOfS, List.length_map, Array.toList_append, Array.toList_map, List.drop_zero]
        rw [List.take_append_of_le_length (by simp; omega), List.take_of_length_le (by simp; omega)]
      show RVs σ ρ (cellsOfS l) (((bytesRow S (grownCap w S.size 0 el)).toList.drop 0).take (cellsOfS l).length)
      rw [ht]
      refine RVs.of_nth (by simp only [cellsOfS, List.length_map]; simp; omega) fun i z v hz hv => ?_
      simp only [cellsOfS, List.getElem?_map] at hz hv
      cases hl1 : l[i]? with
      | none => rw [hl1] at hz; cases hz
      | some q =>
        rw [hl1] at hz; cases hz
        obtain ⟨c, c1, c2, c3⟩ := hb.nth hl1
        cases hl2 : S.data.toList[i]? with
        | none => rw [hl2] at hv; cases hv
        | some q2 =>
          rw [hl2] at hv; cases hv
          have h5 : (S.data.toList.map (fun c => (c.toNat : Int)))[i]? = some (q2.toNat : Int) := by rw [List.getElem?_map, hl2]; rfl
          rw [hb.1, List.getElem?_map, hl1] at h5
          have h6 : q.val σ = (q2.toNat : Int) := Option.some.inj h5
          simp only [RV]
          refine ⟨by rw [h6], c3, ?_⟩
          rw [h6]
          have := q2.toNat_lt
          unfold inK
          simp [IntKind.min, IntKind.max, IntKind.bits, IntKind.signed]; omega
  · cases e'
theorem does_convert {o : Oper} {s d : Nat} {y : Operand} (ho : o.op = .convert s d y) (hty : TyOk P ty) (g : RT σ ρ nt t a) (gh : RH σ ρ h w)
    (e : opV call (compConv ty s d y) t h = .ok x h') : Does P σ ρ h w (execOp a.eval o) x h' := by
  obtain ⟨ts, hs, e⟩ := withTy_eq e
  obtain ⟨td, hd, e⟩ := withTy_eq e
  obtain ⟨_, _, _, s2, _⟩ := hty _ _ hs
  obtain ⟨_, _, _, d2, _⟩ := hty _ _ hd
  have hp := ev_spec g y
  split at e
  · rename_i k0 k hs' hd'
    rw [hd'] at d2
    rw [hs'] at s2
    obtain ⟨k', b, hv, e1⟩ := onInt_eq (show onInt (.err "cvi") (fun _ e => cvi3 k h e) (ev (opdOf y) t) = .ok x h' from e) ok_ne
    rw [hv] at hp
    simp only [RV] at hp
    obtain ⟨rfl, h2⟩ := cvi3_spec (k' := k') (ρ := ρ) e1 hp.2.1
    exact Does.still gh (v := .int k (k.wrap (b.val σ))) (by simp [execOp, ho, hp.1, convert, run_underlying s2, run_underlying d2, Conv.intToInt]) h2
  · rename_i hs' hd'
    rw [hd'] at d2
    rw [hs'] at s2
    have e' : oCvs (opdOf y) t h = .ok x h' := e
    unfold oCvs at e'
    split at e'
    · rename_i l hv
      cases e'
      rw [hv] at hp
      have hp' := hp
      simp only [RV] at hp
      obtain ⟨S, hS, _⟩ := hp
      exact Does.still gh (v := a.eval y) (by simp [execOp, ho, hS, convert, run_underlying s2, run_underlying d2]) hp'
    · cases e'
  · rename_i el hs' hd'
    rw [hd'] at d2
    rw [hs'] at s2
    obtain ⟨te, hte, e⟩ := withTy_eq e
    obtain ⟨_, _, _, u2, _⟩ := hty _ _ hte
    split at e
    · rename_i hu
      rw [hu] at u2
      exact (makes_s2b ho s2 d2 u2 g e).does gh
    · cases e
  · rename_i el hs' hd'
    rw [hd'] at d2
    rw [hs'] at s2
    obtain ⟨te, hte, e⟩ := withTy_eq e
    obtain ⟨_, _, _, u2, _⟩ := hty _ _ hte
    split at e
    · rename_i hu
      rw [hu] at u2
      have e' : oB2s (opdOf y) t h = .ok x h' := e
      unfold oB2s at e'
      split at e'
      · rename_i n es cap hv
        cases e'
        rw [hv] at hp
        simp only [RV] at hp
        obtain ⟨hA, _⟩ := hp
        refine Does.still gh (v := .string .empty) (by simp [execOp, ho, hA, convert, run_underlying s2, run_underlying d2, run_underlying u2, Conv.bytesToString]) ?_
        simp only [RV]
        exact ⟨_, rfl, by simp [RB]⟩
      · rename_i r off n es cap hv
        obtain ⟨cs, e1, e2⟩ := rO_eq e'
        obtain ⟨l, e3, e4⟩ := rO_eq e2
        cases e4
        rw [hv] at hp
        simp only [RV] at hp
        obtain ⟨L, A, c, hL, hA, hlc, hcap, hor⟩ := hp
        obtain ⟨row, h1, h2, h3⟩ := loadN_ok e1
        obtain ⟨M, hM, hr⟩ := gh.row _ _ h1
        rw [hL] at hM; cases hM
        by_cases hn : n = 0
        · subst hn
          have : cs = [] := by rw [h2]; simp
          subst this
          cases e3
          refine Does.still gh (v := .string ⟨([] : List UInt8).toArray⟩) ?_ (by simp only [RV]; exact ⟨_, rfl, by simp [RB]⟩)
          have hrun := run_convert_bytes_back (P := P) w s d el A c [] s2 u2 d2 (by simp)
          simp only [execOp, ho, hA]; simp at hrun; simp [hrun]
        · obtain ⟨hA2, _⟩ := hor.resolve_left (by omega)
          obtain ⟨vs, k1, k2, k3, _⟩ := hr.stretch (off := off) (n := n) (by omega)
          rw [← h2] at k2
          obtain ⟨bs, b1, b2, b3⟩ := bytes_spec e3 k2
          have hlen : bs.length = n := by rw [← k1, b1]; simp
          subst hlen
          have hrun := run_convert_bytes_back (P := P) w s d el A c bs s2 u2 d2 (fun j hj => by
            rw [hA2, add_none]
            exact k3 j _ (by rw [b1]; simp [hj]))
          refine Does.still gh (v := .string ⟨bs.toArray⟩) (by simp only [execOp, ho, hA]; simp [hrun]) ?_
          simp only [RV]
          exact ⟨_, rfl, RB_mk b2 b3⟩
      · cases e'
    · cases e
  · cases e
/-- a conversion that makes something -/
theorem makes_convert {o : Oper} {s d : Nat} {y : Operand} (ho : o.op = .convert s d y) (hty : TyOk P ty) (g : RT σ ρ nt t a) (hk : ∃ z, compConv ty s d y = .s2b z)
    (e : opV call (compConv ty s d y) t h = .ok x h') : Makes P σ ρ h w (execOp a.eval o) x h' := by
  obtain ⟨z, hk⟩ := hk
  unfold compConv at hk e
  cases hs : ty s with
  | none => simp only [withTy, hs] at hk; cases hk
  | some ts =>
    cases hd : ty d with
    | none => simp only [withTy, hs, hd] at hk; cases hk
    | some td =>
      obtain ⟨_, _, _, s2, _⟩ := hty _ _ hs
      obtain ⟨_, _, _, d2, _⟩ := hty _ _ hd
      simp only [withTy, hs, hd] at hk e
      split at hk
      · cases hk
      · cases hk
      · rename_i el hs' hd'
        rw [hd'] at d2
        rw [hs'] at s2
        cases hte : ty el with
        | none => simp only [hte] at hk; cases hk
        | some te =>
          obtain ⟨_, _, _, u2, _⟩ := hty _ _ hte
          simp only [hs', hd', hte] at hk e
          split at hk
          · rename_i hu
            rw [hu] at u2
            simp only [hu] at e
            exact makes_s2b ho s2 d2 u2 g e
          · cases hk
      · rename_i el hs' hd'
        cases hte : ty el with
        | none => simp only [hte] at hk; cases hk
        | some te =>
          simp only [hte] at hk
          split at hk <;> cases hk
      · cases hk
end ops
end Go.Proofs.YtggnhaiohmgflaaGreatDoor.Sx
namespace Go.Proofs.YtggnhaiohmgflaaGreatDoor.Sx
open Go
variable {σ : Nat → Int} {ρ ρ' : Rho} {h h' : H} {w w' : World} {P : Program}
section ops
variable {ty : Nat → Option TI} {nt : Nat} {t : Env} {a : Act} {x : V} {call : Nat → CallF}
/-- the call of a built-in function -/
theorem run_builtin {o : Oper} {c : Call} {b : Builtin} (ho : o.op = .call c) (hb : c.callee = .builtin b) (w : World) :
    (execOp a.eval o).run P w = (builtin b c.argTypes o.type (c.args.map fun | .const _ => true | _ => false) (c.args.map a.eval)).run P w := by
  simp only [execOp, ho]
  simp [resolve, hb, invoke]
  rfl
theorem okN_ok {n : Nat} (e : okN h n = .ok x h') : h' = h ∧ x = intV n ∧ n ≤ 1000000 := by
  unfold okN at e
  rw [ifB_eq] at e
  split at e
  · rename_i hb; cases e; exact ⟨rfl, rfl, ble_true hb⟩
  · cases e
theorem RV_intV {n : Nat} (hn : n ≤ 1000000) : RV σ ρ (intV n) (goInt n) := by
  unfold intV goInt
  simp only [RV]
  refine ⟨by rfl, trivial, ?_⟩
  show inK .i64 (n : Int)
  unfold inK
  simp [IntKind.min, IntKind.max, IntKind.bits, IntKind.signed]; omega
theorem RM.length : ∀ {es : List (V × V)} {ms : List MapEntry}, RM σ ρ es ms → es.length = ms.length
  | [], _, h => by simp only [RM] at h; subst h; rfl
  | _ :: _, _, h => by
    simp only [RM] at h
    obtain ⟨y, ys, rfl, _, _, h⟩ := h
    simp [RM.length h]
theorem args_one {xs : Array Operand} {v : Opd} (e : opdsOf xs = [v]) : ∃ y, xs = #[y] ∧ v = opdOf y := by
  have h1 : xs.toList.map opdOf = [v] := e
  obtain ⟨y, h2, h3⟩ := List.map_eq_singleton_iff.1 h1
  exact ⟨y, by apply Array.toList_inj.1; simpa using h2, h3.symm⟩
theorem does_len {o : Oper} {c : Call} (ho : o.op = .call c) (hb : c.callee = .builtin .len) (hty : TyOk P ty) (hcl : Closed ty) (g : RT σ ρ nt t a) (gh : RH σ ρ h w)
    (e : opV call (compBuiltin ty .len c.argTypes.toList (opdsOf c.args)) t h = .ok x h') (hlim : ∀ n e t1 td, ty t1 = some td → td.desc = .array n e → n ≤ 1000000) : Does P σ ρ h w (execOp a.eval o) x h' := by
  obtain ⟨t1, rest, hts0⟩ : ∃ t1 rest, c.argTypes.toList = t1 :: rest := by
    cases hT : c.argTypes.toList with
    | nil => rw [hT] at e; cases e
    | cons t1 rest => exact ⟨t1, rest, rfl⟩
  obtain ⟨y0, hargs⟩ : ∃ y0, opdsOf c.args = [y0] := by
    rw [hts0] at e
    cases hA : opdsOf c.args with
    | nil => rw [hA] at e; cases e
    | cons y0 l =>
      cases l with
      | nil => exact ⟨y0, rfl⟩
      | cons _ _ => rw [hA] at e; cases e
  obtain ⟨y, hy, rfl⟩ := args_one hargs
  have hts : c.argTypes[0]? = some t1 := by
    have : c.argTypes.toList[0]? = some t1 := by rw [hts0]; rfl
    simpa using this
  rw [hts0, hargs] at e
  simp only [compBuiltin] at e
  obtain ⟨td, ht, e⟩ := withTy_eq e
  obtain ⟨_, _, _, t2, _⟩ := hty _ _ ht
  have hp := ev_spec g y
  have fin : ∀ {n : Nat}, (Builtin.len_ c.argTypes o.type #[a.eval y]).run P w = .ok (goInt n) w → n ≤ 1000000 → Does P σ ρ h w (execOp a.eval o) (intV n) h := by
    intro n hr hn
    refine Does.still gh (v := goInt n) ?_ (RV_intV hn)
    rw [run_builtin ho hb, hy]
    simp [builtin, hr]
  split at e
  · rename_i n el hd
    cases e
    rw [hd] at t2
    exact fin (by simp [Builtin.len_, hts, run_underlying t2]) (hlim _ _ _ _ ht hd)
  · rename_i el hd
    rw [hd] at t2
    obtain ⟨te, hte, e⟩ := withTy_eq e
    obtain ⟨_, _, _, u2, _⟩ := hty _ _ hte
    split at e
    · rename_i n el' hd'
      cases e
      rw [hd'] at u2
      exact fin (by simp [Builtin.len_, hts, run_underlying t2, run_underlying u2]) (hlim _ _ _ _ hte hd')
    · cases e
  · rename_i hd
    rw [hd] at t2
    obtain ⟨l, h1, h2⟩ := onStr_eq (show onStr (.err "len") (fun l => okN h l.length) (ev (opdOf y) t) = .ok x h' from e) ok_ne
    obtain ⟨rfl, rfl, h3⟩ := okN_ok h2
    rw [h1] at hp
    simp only [RV] at hp
    obtain ⟨S, hS, hb'⟩ := hp
    exact fin (by simp [Builtin.len_, hts, run_underlying t2, hS, RB.length hb']) h3
  · rename_i el hd
    rw [hd] at t2
    obtain ⟨q, n, es, cap, h1, h2⟩ := onSl_eq (show onSl (.err "len") (fun _ n _ _ => okN h n) (ev (opdOf y) t) = .ok x h' from e) ok_ne
    obtain ⟨rfl, rfl, h3⟩ := okN_ok h2
    rw [h1] at hp
    have : ∃ A c, a.eval y = .slice A n c := by
      cases q with
      | none => simp only [RV] at hp; obtain ⟨p1, rfl, _⟩ := hp; exact ⟨_, _, p1⟩
      | some q => simp only [RV] at hp; obtain ⟨L, A, c, _, p1, _⟩ := hp; exact ⟨_, _, p1⟩
    obtain ⟨A, cc, hA⟩ := this
    exact fin (by simp [Builtin.len_, hts, run_underlying t2, hA]) h3
  · rename_i kt el hd
    rw [hd] at t2
    have e' : oLenm (opdOf y) t h = .ok x h' := e
    unfold oLenm at e'
    split at e'
    · rename_i r hv
      rw [hv] at hp
      cases r with
      | none =>
        cases e'
        simp only [RV] at hp
        exact fin (by simp [Builtin.len_, hts, run_underlying t2, hp]) (Nat.zero_le _)
      | some r =>
        obtain ⟨es, h1, h2⟩ := rO_eq (show rO (h.map r) (fun es => okN h es.length) = .ok x h' from e')
        obtain ⟨rfl, rfl, h3⟩ := okN_ok h2
        simp only [RV] at hp
        obtain ⟨L, hL, hp⟩ := hp
        obtain ⟨M, hM, es', clk, h5, h6⟩ := gh.map _ _ (H.map_ok h1)
        rw [hL] at hM; cases hM
        have hg : (getObj L.b).run P w = .ok (.map es' clk) w := by
          show (Sem.getObj L.b Sem.pure).run P w = _
          simp [Sem.run, h5]
        exact fin (by simp [Builtin.len_, hts, run_underlying t2, hp, hg, RM.length h6]) h3
    · cases e'
  · cases e
theorem does_append {o : Oper} {c : Call} (ho : o.op = .call c) (hb : c.callee = .builtin .append) (hty : TyOk P ty) (g : RT σ ρ nt t a) (gh : RH σ ρ h w)
    (e : opV call (compBuiltin ty .append c.argTypes.toList (opdsOf c.args)) t h = .ok x h') : Does P σ ρ h w (execOp a.eval o) x h' := by
  obtain ⟨t1, u1, hts0⟩ : ∃ t1 u1, c.argTypes.toList = [t1, u1] := by
    cases hT : c.argTypes.toList with
    | nil => rw [hT] at e; cases e
    | cons t1 l =>
      cases l with
      | nil => rw [hT] at e; cases e
      | cons u1 l =>
        cases l with
        | nil => exact ⟨t1, u1, rfl⟩
        | cons _ _ => rw [hT] at e; cases e
  obtain ⟨s0, x0, hargs⟩ : ∃ s0 x0, opdsOf c.args = [s0, x0] := by
    rw [hts0] at e
    cases hA : opdsOf c.args with
    | nil => rw [hA] at e; cases e
    | cons y0 l =>
      cases l with
      | nil => rw [hA] at e; cases e
      | cons y1 l =>
        cases l with
        | nil => exact ⟨y0, y1, rfl⟩
        | cons _ _ => rw [hA] at e; cases e
  rw [hts0, hargs] at e
  simp only [compBuiltin] at e
  obtain ⟨td, ht, e⟩ := withTy_eq e
  obtain ⟨_, _, _, t2, _⟩ := hty _ _ ht
  split at e
  · rename_i el hd hbeq
    have hu := beq_true hbeq
    rw [hd] at t2
    obtain ⟨te, hte, e⟩ := withTy_eq e
    obtain ⟨y1, l1, q1, q2, q3⟩ := List.map_eq_cons_iff.1 (show c.args.toList.map opdOf = s0 :: [x0] from hargs)
    obtain ⟨y2, q4, q5⟩ := List.map_eq_singleton_iff.1 q3
    subst q4 q2 q5
    have hc : c.args = #[y1, y2] := by apply Array.toList_inj.1; simpa using q1
    have hT : c.argTypes = #[t1, t1] := by apply Array.toList_inj.1; rw [hts0, ← hu]
    obtain ⟨v, w', ρ', r1, r2, r3, r4⟩ := append_spec (P := P) (ty1 := o.type) gh (ev_spec g y1) (ev_spec g y2) t2 (hty _ _ hte) (show appendV te.size (ev (opdOf y1) t) (ev (opdOf y2) t) h = .ok x h' from e)
    refine ⟨v, w', ρ', .inl ?_, r2, r3, r4⟩
    rw [run_builtin ho hb, hc, hT]
    simp [builtin, r1]
  · cases e
end ops
end Go.Proofs.YtggnhaiohmgflaaGreatDoor.Sx
