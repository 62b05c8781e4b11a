/- Operations: variables, reading, writing, making, appending, numbers. No conditions. -/
import Derived.Test.YtggnhaiohmgflaaGreatDoorSxR
import Derived.Laws.AppendOwn
set_option linter.unusedVariables false
set_option linter.unusedSimpArgs false
namespace Go.Proofs.YtggnhaiohmgflaaGreatDoor.Sx
open Go
variable {σ : Nat → Int} {ρ ρ' : Rho} {h h' : H} {w w' : World} {P : Program}

theorem blt_lt {a b : Nat} (e : Nat.blt a b = true) : a < b := Nat.le_of_ble_eq_true e
theorem lt_blt {a b : Nat} (e : a < b) : Nat.blt a b = true := Nat.ble_eq_true_of_le e
/-- the variables of a frame -/
structure RT (σ : Nat → Int) (ρ : Rho) (nt : Nat) (t : Env) (a : Act) : Prop where
  size : a.tmps.size = nt
  lim : nt ≤ 512
  defers : a.defers = []
  rel : ∀ x, x < 512 → RV σ ρ (Env.get (p3 x) t) (a.tmps.getD x undef)

theorem RT.mono {nt : Nat} {t : Env} {a : Act} (e : Ext ρ ρ') (g : RT σ ρ nt t a) : RT σ ρ' nt t a :=
  ⟨g.size, g.lim, g.defers, fun x hx => RV.mono e _ _ (g.rel x hx)⟩
theorem ev_spec {nt : Nat} {t : Env} {a : Act} (g : RT σ ρ nt t a) (x : Operand) : RV σ ρ (ev (opdOf x) t) (a.eval x) := by
  cases x with
  | tmp n =>
    simp only [opdOf]
    split
    · rename_i hb
      exact g.rel n (blt_lt hb)
    · rename_i hb
      have h1 : 512 ≤ n := Nat.le_of_not_lt fun hlt => by rw [lt_blt hlt] at hb; cases hb
      have : a.eval (.tmp n) = undef := by
        have h2 := g.size
        have h3 := g.lim
        simp only [Act.eval]
        rw [Array.getD_eq_getD_getElem?, Array.getElem?_eq_none (by rw [h2]; exact Nat.le_trans h3 h1)]; rfl
      rw [this]; exact undV_spec
  | const v => exact ofVal_spec v
  | global g => show RV σ ρ .u _; simp [RV, Act.eval, Value.oneCell']
  | func f => show RV σ ρ (.f (.func f) [] []) _; simp [RV, RVs, Act.eval]
theorem evs_nil (t : Env) : evs [] t = [] := rfl
theorem evs_cons (x : Opd) (xs : List Opd) (t : Env) : evs (x :: xs) t = ev x t :: evs xs t := rfl
theorem evs_spec {nt : Nat} {t : Env} {a : Act} (g : RT σ ρ nt t a) (xs : Array Operand) : RVs σ ρ (evs (opdsOf xs) t) (xs.map a.eval).toList := by
  have : ∀ l : List Operand, RVs σ ρ (evs (l.map opdOf) t) (l.map a.eval) := by
    intro l
    induction l with
    | nil => simp [evs_nil, RVs]
    | cons x l ih => exact ⟨_, _, rfl, ev_spec g x, ih⟩
  simpa [opdsOf] using this xs.toList
theorem putV_none (v : V) (t : Env) : putV none v t = t := rfl
theorem putV_some (p : P3) (v : V) (t : Env) : putV (some p) v t = Env.set p v t := rfl
theorem put_spec {nt : Nat} {t : Env} {a : Act} {d : Option Nat} {x : V} {v : Value} (g : RT σ ρ nt t a) (hd : dstFine nt d = true) (hv : RV σ ρ x v) :
    RT σ ρ nt (putV (d.map p3) x t) (a.put d v) := by
  cases d with
  | none => exact g
  | some d =>
    simp only [dstFine, Bool.and_eq_true] at hd
    have h1 : d < nt := blt_lt hd.1
    have h2 : d < 512 := blt_lt hd.2
    refine ⟨by simp [Act.put, g.size], g.lim, g.defers, fun y hy => ?_⟩
    rw [Option.map_some, putV_some, Env.get_set]
    have hs := g.size
    by_cases e : y = d
    · subst e
      rw [if_pos rfl]
      have : (a.put (some y) v).tmps.getD y undef = v := by
        simp [Act.put, Array.getD_eq_getD_getElem?, hs, h1]
      rw [this]; exact hv
    · rw [if_neg (fun c => e (p3_inj hy h2 c))]
      have : (a.put (some d) v).tmps.getD y undef = a.tmps.getD y undef := by
        simp [Act.put, Array.getD_eq_getD_getElem?, Ne.symm e]
      rw [this]; exact g.rel y hy

/-- what the table tells of a type -/
def TOk (P : Program) (t : Nat) (ti : TI) : Prop := ∃ i z, P.info? t = some i ∧ P.underlying t = some ti.desc ∧ i.size = ti.size ∧ i.bytes ≤ 65536 ∧ i.zero = some z ∧
  z.cells.size = ti.size ∧ (isAggD ti.desc = true → ∃ vs, z = .agg vs) ∧ (isAggD ti.desc = false → z.oneCell' = true) ∧ ∀ cs, ti.zero = some cs → cellsV (ofVal z) = some cs
def TyOk (P : Program) (ty : Nat → Option TI) : Prop := ∀ t ti, ty t = some ti → TOk P t ti

theorem run_isAggD {t : Nat} {d : TypeDesc} (hu : P.underlying t = some d) (w : World) : (isAgg t).run P w = .ok (isAggD d) w := by
  cases d <;> simp [isAgg, run_underlying hu, isAggD]
theorem run_size {t : Nat} {i : TypeInfo} (hi : P.info? t = some i) (w : World) : (sizeOf t).run P w = .ok i.size w := by simp [sizeOf, typeInfo, hi]
theorem run_zero {t : Nat} {i : TypeInfo} {z : Value} (hi : P.info? t = some i) (hz : i.zero = some z) (w : World) : (zeroValue t).run P w = .ok z w := by simp [zeroValue, typeInfo, hi, hz]
theorem add_none (b o n : Nat) : (⟨b, o, none⟩ : Addr).add n = ⟨b, o + n, none⟩ := by unfold Addr.add; split <;> simp_all

/-! cells -/
theorem cell_of {b o : Nat} {c : Array Value} {el : TypeId} {fr : Nat × Nat} (hb : w.heap[b]? = some (.cells c el fr)) : w.cell? ⟨b, o, none⟩ = c[o]? := by
  simp [World.cell?, hb]
theorem frozen_of {b o : Nat} {c : Array Value} {el : TypeId} {fr : Nat × Nat} (hb : w.heap[b]? = some (.cells c el fr)) (hf : ¬ (fr.1 ≤ o ∧ o < fr.2)) : w.frozen? ⟨b, o, none⟩ = false := by
  obtain ⟨lo, hi⟩ := fr
  simp only [World.frozen?, hb]
  simp only [Bool.and_eq_false_iff, decide_eq_false_iff_not]
  simp only at hf
  by_cases h1 : lo ≤ o
  · right; omega
  · left; exact h1
/-- a stretch of a row -/
theorem RRow.stretch {L : Loc} {r : Row} (g : RRow σ ρ w L r) {off n : Nat} (hn : off + n ≤ r.cells.length) :
    ∃ vs : List Value, vs.length = n ∧ RVs σ ρ ((r.cells.drop off).take n) vs ∧ (∀ j v, vs[j]? = some v → w.cell? ⟨L.b, L.o + off + j, none⟩ = some v) ∧ (∀ j, j < n → w.frozen? ⟨L.b, L.o + off + j, none⟩ = false) := by
  obtain ⟨c, el, fr, b1, b2, b3, b4⟩ := g.blk
  have hf := g.fits
  refine ⟨(((c.toList.drop L.o).take r.cells.length).drop off).take n, by simp; omega, (b4.drop off).take n, fun j v hv => ?_, fun j hj => frozen_of b1 (b3 _ (by omega))⟩
  rw [cell_of b1]
  rw [List.getElem?_take] at hv
  split at hv
  · rw [List.getElem?_drop, List.getElem?_take] at hv
    split at hv
    · rw [List.getElem?_drop] at hv
      rw [← Array.getElem?_toList, ← hv]; congr 1; omega
    · cases hv
  · cases hv
theorem RRow.cell {L : Loc} {r : Row} (g : RRow σ ρ w L r) {i : Nat} {x : V} (hx : r.cells[i]? = some x) : ∃ v, w.cell? ⟨L.b, L.o + i, none⟩ = some v ∧ RV σ ρ x v := by
  have hlt : i < r.cells.length := (List.getElem?_eq_some_iff.1 hx).1
  obtain ⟨vs, h1, h2, h3, _⟩ := g.stretch (off := i) (n := 1) (by omega)
  obtain ⟨v, h4, h5⟩ := h2.nth (i := 0) (x := x) (by simp [hx])
  exact ⟨v, by simpa using h3 0 v h4, h5⟩

/-- what an operation that is no call does -/
def Does (P : Program) (σ : Nat → Int) (ρ : Rho) (h : H) (w : World) (s : Sem Next) (x : V) (h' : H) : Prop :=
  ∃ v w' ρ', (s.run P w = .ok (.value v) w' ∨ (s.run P w = .ok .skip w' ∧ v = undef)) ∧ RV σ ρ' x v ∧ RH σ ρ' h' w' ∧ Step ρ h w ρ' h' w'
theorem Does.still {s : Sem Next} {x : V} {v : Value} (g : RH σ ρ h w) (hs : s.run P w = .ok (.value v) w) (hv : RV σ ρ x v) : Does P σ ρ h w s x h :=
  ⟨v, w, ρ, .inl hs, hv, g, Step.refl _ _ _⟩

section ops
variable {ty : Nat → Option TI} {nt : Nat} {t : Env} {a : Act} {x : V}
theorem withTy_eq {t : Nat} {k : TI → CO} {call : Nat → CallF} {e : Env} (hh : opV call (withTy ty t k) e h = .ok x h') : ∃ ti, ty t = some ti ∧ opV call (k ti) e h = .ok x h' := by
  unfold withTy at hh
  cases ht : ty t with
  | none => rw [ht] at hh; cases hh
  | some ti => rw [ht] at hh; exact ⟨ti, rfl, hh⟩
variable {call : Nat → CallF}
theorem does_move {o : Oper} {y : Operand} (ho : o.op = .move y ∨ o.op = .assign y) (g : RT σ ρ nt t a) (gh : RH σ ρ h w) (e : opV call (.mv (opdOf y)) t h = .ok x h') :
    Does P σ ρ h w (execOp a.eval o) x h' := by
  cases e
  refine Does.still gh ?_ (ev_spec g y)
  rcases ho with ho | ho <;> simp [execOp, ho]
theorem onBool_eq {α : Type} {e : α} {k : Bool → α} {v : V} {r : α} (hh : onBool e k v = r) (hne : r ≠ e) : ∃ b, v = .b b ∧ k b = r := by
  cases v <;> first | exact ⟨_, rfl, hh⟩ | exact absurd hh.symm hne
theorem onPtr_eq {α : Type} {e : α} {k : Nat → Nat → α} {v : V} {r : α} (hh : onPtr e k v = r) (hne : r ≠ e) : ∃ i o, v = .p (some (i, o)) ∧ k i o = r := by
  cases v with
  | p q =>
    cases q with
    | none => exact absurd hh.symm hne
    | some q => exact ⟨q.1, q.2, rfl, hh⟩
  | _ => exact absurd hh.symm hne
theorem ok_ne {x : V} {h : H} {s : String} : OpR.ok x h ≠ .err s := fun e => by cases e
theorem does_pick {o : Oper} {c y z : Operand} (ho : o.op = .pick c y z) (g : RT σ ρ nt t a) (gh : RH σ ρ h w) (e : opV call (.pick (opdOf c) (opdOf y) (opdOf z)) t h = .ok x h') :
    Does P σ ρ h w (execOp a.eval o) x h' := by
  obtain ⟨b, h1, h2⟩ := onBool_eq e ok_ne
  cases h2
  have hc := ev_spec g c
  rw [h1] at hc
  simp only [RV] at hc
  refine Does.still gh (v := if b then a.eval y else a.eval z) (by simp [execOp, ho, hc, asBool]) ?_
  cases b
  · exact ev_spec g z
  · exact ev_spec g y
theorem does_load {o : Oper} {ty1 : Nat} {y : Operand} (ho : o.op = .load ty1 y) (hty : TyOk P ty) (g : RT σ ρ nt t a) (gh : RH σ ρ h w) (e : opV call (compLoad ty ty1 y) t h = .ok x h') :
    Does P σ ρ h w (execOp a.eval o) x h' := by
  obtain ⟨ti, ht, e⟩ := withTy_eq e
  obtain ⟨i, z, t1, t2, t3, _⟩ := hty _ _ ht
  have hp := ev_spec g y
  cases ha : isAggD ti.desc with
  | false =>
    rw [ha] at e
    obtain ⟨q, off, h1, h2⟩ := onPtr_eq e ok_ne
    obtain ⟨v, h3, h4⟩ := rO_eq h2
    cases h4
    obtain ⟨r, h5, h6⟩ := load1_ok h3
    rw [h1] at hp
    simp only [RV] at hp
    obtain ⟨L, h7, h8⟩ := hp
    obtain ⟨M, h9, h10⟩ := gh.row _ _ h5
    rw [h7] at h9; cases h9
    obtain ⟨u, h11, h12⟩ := h10.cell h6
    exact Does.still gh (v := u) (by simp [execOp, ho, h8, Instr.loadAt, Instr.sureAddr, loadVar, run_isAggD t2, ha, h11]) h12
  | true =>
    rw [ha] at e
    obtain ⟨q, off, h1, h2⟩ := onPtr_eq e ok_ne
    obtain ⟨cs, h3, h4⟩ := rO_eq h2
    cases h4
    obtain ⟨r, h5, h6, h6'⟩ := loadN_ok h3
    rw [h1] at hp
    simp only [RV] at hp
    obtain ⟨L, h7, h8⟩ := hp
    obtain ⟨M, h9, h10⟩ := gh.row _ _ h5
    rw [h7] at h9; cases h9
    have hone : cs.all oneV = true := by
      have := h10.one
      rw [h6]
      simp only [List.all_eq_true] at this ⊢
      exact fun y hy => this y (List.mem_of_mem_drop (List.mem_of_mem_take hy))
    by_cases hn : ti.size = 0
    · refine Does.still gh (v := .agg #[]) (by simp [execOp, ho, h8, Instr.loadAt, Instr.sureAddr, loadVar, run_isAggD t2, ha, run_size t1, t3, hn, loadCells, loadCellsFrom]) ?_
      simp only [RV]
      exact ⟨#[], rfl, by rw [h6, hn]; simp [RVs], hone⟩
    · obtain ⟨vs, k1, k2, k3, _⟩ := h10.stretch (off := off) (n := ti.size) (by omega)
      have hl := run_loadCells_list (P := P) (w := w) ⟨L.b, L.o + off, none⟩ vs (fun j v hv => by rw [add_none]; exact k3 j v hv)
      rw [k1] at hl
      refine Does.still gh (v := .agg vs.toArray) (by simp [execOp, ho, h8, Instr.loadAt, Instr.sureAddr, loadVar, run_isAggD t2, ha, run_size t1, t3, hl]) ?_
      simp only [RV]
      exact ⟨vs.toArray, rfl, by rw [h6]; simpa using k2, hone⟩
end ops
end Go.Proofs.YtggnhaiohmgflaaGreatDoor.Sx
namespace Go.Proofs.YtggnhaiohmgflaaGreatDoor.Sx
open Go
variable {σ : Nat → Int} {ρ ρ' : Rho} {h h' : H} {w w' : World} {P : Program}

theorem RVs.one : ∀ {cs : List V} {vs : List Value}, RVs σ ρ cs vs → cs.all oneV = true → ∀ v ∈ vs, v.oneCell' = true
  | [], _, h, _ => by simp only [RVs] at h; subst h; simp
  | x :: xs, _, h, ho => by
    simp only [RVs] at h
    obtain ⟨y, ys, rfl, h1, h2⟩ := h
    simp only [List.all_cons, Bool.and_eq_true] at ho
    intro v hv
    rcases List.mem_cons.1 hv with rfl | hv
    · exact oneV_spec h1 ho.1
    · exact RVs.one h2 ho.2 v hv

/-- a store into a told row -/
theorem store_spec (g : RH σ ρ h w) {r off : Nat} {cs : List V} {vs : List Value} {L : Loc} (hL : ρ r = some L) (hv : RVs σ ρ cs vs) (ho : cs.all oneV = true) (e : storeN r off cs h = .ok h') :
    (storeCells ⟨L.b, L.o + off, none⟩ vs).run P w = .ok () (w.setCells L.b (L.o + off) vs) ∧ RH σ ρ h' (w.setCells L.b (L.o + off) vs) ∧ Step ρ h w ρ h' (w.setCells L.b (L.o + off) vs) := by
  obtain ⟨x, h1, h2⟩ := R.bd_eq e
  obtain ⟨cells, h3, h4⟩ := R.bd_eq h2
  cases h4
  obtain ⟨h5, h6⟩ := setFrom_spec _ _ (ofO_eq h3)
  have hx := H.row_ok h1
  obtain ⟨M, hM, hr⟩ := g.row _ _ hx
  rw [hL] at hM; cases hM
  obtain ⟨k1, k2, k3⟩ := strike_spec x.grp r (x.start + off) (x.start + off + cs.length) h g.grp
  have g1 := k1.rh g
  have hlen := hv.length
  obtain ⟨us, u1, u2, u3, u4⟩ := hr.stretch (off := off) (n := cs.length) h6
  have hrun := run_storeCells_cells (P := P) L.b (L.o + off) vs 0 w (fun j hj => by
      have hj' : j < us.length := by omega
      rw [Nat.add_zero, u3 j us[j] (List.getElem?_eq_getElem hj')]; rfl)
    (fun j hj => by rw [Nat.add_zero]; exact u4 j (by omega)) (hv.one ho)
  obtain ⟨w1, w2⟩ := g1.write (i := r) (y := x) (L := L) (off := off) (k2.trans hx) hL h6 hv ho k3
  rw [← h5] at w1 w2
  exact ⟨hrun, w1, (Less.step k1 (w := w)).trans w2⟩

theorem new_row (g : RH σ ρ h w) {cs : List V} {c : Array Value} {el : TypeId} {fr : Nat × Nat} (hw : w'.heap = w.heap.push (.cells c el fr)) (e1 : w'.tape = w.tape) (e2 : w'.os = w.os) (e3 : w'.output = w.output)
    (hl : cs.length ≤ c.size) (hv : RVs σ ρ cs (c.toList.take cs.length)) (ho : cs.all oneV = true) (hf : ∀ j, j < c.size → ¬ (fr.1 ≤ j ∧ j < fr.2)) :
    RH σ (upd ρ h.next ⟨w.heap.size, 0, c.size⟩) (h.newRow cs) w' ∧ Step ρ h w (upd ρ h.next ⟨w.heap.size, 0, c.size⟩) (h.newRow cs) w' := by
  refine ⟨RH.ofNew g rfl hw (fun r hr => ?_) (fun es hes => by cases hes), Step.ofNew g rfl hw e1 e2 e3⟩
  cases hr
  refine ⟨rfl, by simpa using hl, ho, c, el, fr, by rw [hw]; simp, rfl, hf, ?_⟩
  simpa using RVs.mono (Ext.upd g _) _ _ hv
theorem alloc_same (w : World) (o : Obj) : (w.alloc o).heap = w.heap.push o ∧ (w.alloc o).tape = w.tape ∧ (w.alloc o).os = w.os ∧ (w.alloc o).output = w.output := ⟨rfl, rfl, rfl, rfl⟩
/-- what lies in a block -/
def ObIn (σ : Nat → Int) (ρ : Rho) (o : Obj) (L : Loc) : Ob → Prop
  | .row r => r.grp = 0 ∧ L.o + r.cells.length ≤ L.n ∧ r.cells.all oneV = true ∧ ∃ c el fr, o = .cells c el fr ∧ c.size = L.n ∧ (∀ j, j < L.n → ¬ (fr.1 ≤ j ∧ j < fr.2)) ∧
      RVs σ ρ r.cells ((c.toList.drop L.o).take r.cells.length)
  | .map es => es = [] ∧ ∃ clk, o = .map #[] clk
/-- what is made: a block of its own, under whatever name -/
def Made (P : Program) (σ : Nat → Int) (ρ : Rho) (w : World) (s : Sem Next) (f : Nat → V) (ob : Ob) : Prop :=
  ∃ v w' L o, s.run P w = .ok (.value v) w' ∧ L.b = w.heap.size ∧ w'.heap = w.heap.push o ∧ w'.tape = w.tape ∧ w'.os = w.os ∧ w'.output = w.output ∧ (∀ id, RV σ (upd ρ id L) (f id) v) ∧ ObIn σ ρ o L ob
def Makes (P : Program) (σ : Nat → Int) (ρ : Rho) (h : H) (w : World) (s : Sem Next) (x : V) (h' : H) : Prop :=
  ∃ f ob, x = f h.next ∧ h' = h.new ob ∧ Made P σ ρ w s f ob
theorem Makes.does {s : Sem Next} {x : V} (g : RH σ ρ h w) (m : Makes P σ ρ h w s x h') : Does P σ ρ h w s x h' := by
  obtain ⟨f, ob, rfl, rfl, v, w', L, o, m1, m2, m3, m4, m5, m6, m7, m8⟩ := m
  have hE := Ext.upd g L
  refine ⟨v, w', upd ρ h.next L, .inl m1, m7 _, RH.ofNew g m2 m3 (fun r hr => ?_) (fun es hes => ?_), Step.ofNew g m2 m3 m4 m5 m6⟩
  · subst hr
    obtain ⟨k1, k2, k3, c, el, fr, rfl, k4, k5, k6⟩ := m8
    exact ⟨k1, k2, k3, c, el, fr, by rw [m3, m2]; simp, k4, k5, RVs.mono hE _ _ k6⟩
  · subst hes
    obtain ⟨rfl, clk, rfl⟩ := m8
    exact ⟨#[], clk, by rw [m3, m2]; simp, rfl⟩
/-- a new row, and its address -/
theorem makes_new {cs : List V} {c : Array Value} {el : TypeId} {s : Sem Next} (hv : RVs σ ρ cs c.toList) (ho : cs.all oneV = true)
    (hs : s.run P w = .ok (.value (.pointer (some ⟨w.heap.size, 0, none⟩))) (w.alloc (.cells c el))) : Makes P σ ρ h w s (.p (some (h.next, 0))) (h.newRow cs) := by
  have hl := hv.length
  simp at hl
  refine ⟨fun id => .p (some (id, 0)), .row ⟨0, 0, cs⟩, rfl, rfl, _, _, ⟨w.heap.size, 0, c.size⟩, .cells c el (0, 0), hs, rfl, rfl, rfl, rfl, rfl, fun id => ?_, rfl, by simp [hl], ho, c, el, (0, 0), rfl, rfl, fun j _ => by simp, ?_⟩
  · simp only [RV]
    exact ⟨_, upd_self _ _ _, by simp⟩
  · simp only [List.drop_zero]
    rw [List.take_of_length_le (by simp; omega)]; exact hv

section ops
variable {ty : Nat → Option TI} {nt : Nat} {t : Env} {a : Act} {x : V} {call : Nat → CallF}
theorem withZero_eq {ti : TI} {k : List V → CO} {e : Env} (hh : opV call (withZero ti k) e h = .ok x h') : ∃ z, ti.zero = some z ∧ opV call (k z) e h = .ok x h' := by
  unfold withZero at hh
  cases ht : ti.zero with
  | none => rw [ht] at hh; cases hh
  | some z => rw [ht] at hh; exact ⟨z, rfl, hh⟩
theorem does_store {o : Oper} {ty1 : Nat} {y z : Operand} (ho : o.op = .store ty1 y z) (hty : TyOk P ty) (g : RT σ ρ nt t a) (gh : RH σ ρ h w)
    (e : opV call (withTy ty ty1 fun ti => .st ti.size (opdOf y) (opdOf z)) t h = .ok x h') : Does P σ ρ h w (execOp a.eval o) x h' := by
  obtain ⟨ti, ht, e⟩ := withTy_eq e
  obtain ⟨i, _, t1, t2, t3, _⟩ := hty _ _ ht
  obtain ⟨r, off, h1, h2⟩ := onPtr_eq e ok_ne
  obtain ⟨cs, h3, h4⟩ := rO_eq h2
  have h4' : ifB (Nat.beq cs.length ti.size) (rO (storeN r off cs h) okU) (.err "st size") = .ok x h' := h4
  rw [ifB_eq] at h4'
  split at h4'
  · rename_i hb
    have hlen := beq_true hb
    obtain ⟨h5, h6, h7⟩ := rO_eq h4'
    cases h7
    have hp := ev_spec g y
    rw [h1] at hp
    simp only [RV] at hp
    obtain ⟨L, hL, hp⟩ := hp
    obtain ⟨hv, hone⟩ := cellsV_spec (ev_spec g z) (ofO_eq h3)
    obtain ⟨s1, s2, s3⟩ := store_spec (P := P) gh hL hv hone h6
    refine ⟨undef, _, ρ, .inr ⟨?_, rfl⟩, undV_spec, s2, s3⟩
    have hsz : (a.eval z).cells.size = i.size := by rw [t3, ← hlen, hv.length]; simp
    simp [execOp, ho, hp, Instr.storeAt, Instr.sureAddr, storeVar, run_size t1, hsz, s1]
  · cases h4'
theorem zero_spec {t1 : Nat} {ti : TI} {cs : List V} (hk : TOk P t1 ti) (hz : ti.zero = some cs) : ∃ i z, P.info? t1 = some i ∧ i.zero = some z ∧ RVs σ ρ cs z.cells.toList ∧ cs.all oneV = true := by
  obtain ⟨i, z, a1, a2, a3, a4, a5, a6, a7, a8, a9⟩ := hk
  obtain ⟨h1, h2⟩ := cellsV_spec (σ := σ) (ρ := ρ) (ofVal_spec z) (a9 cs hz)
  exact ⟨i, z, a1, a5, h1, h2⟩
theorem makes_alloc {o : Oper} {ty1 : Nat} (ho : o.op = .alloc ty1) (hty : TyOk P ty)
    (e : opV call (withTy ty ty1 fun ti => withZero ti fun z => .alloc z) t h = .ok x h') : Makes P σ ρ h w (execOp a.eval o) x h' := by
  obtain ⟨ti, ht, e⟩ := withTy_eq e
  obtain ⟨cs, hz, e⟩ := withZero_eq e
  cases e
  obtain ⟨i, z, i1, i2, i3, i4⟩ := zero_spec (σ := σ) (ρ := ρ) (hty _ _ ht) hz
  exact makes_new (el := ty1) i3 i4 (by simp [execOp, ho, Instr.alloc, run_zero i1 i2, newVar, newRow])
theorem makes_box {o : Oper} {ty1 : Nat} {y : Operand} (ho : o.op = .box ty1 y) (g : RT σ ρ nt t a)
    (e : opV call (.box (opdOf y)) t h = .ok x h') : Makes P σ ρ h w (execOp a.eval o) x h' := by
  obtain ⟨cs, h1, h2⟩ := rO_eq (show rO (ofO "box" (cellsV (ev (opdOf y) t))) (fun cs => oNew cs h) = .ok x h' from e)
  cases h2
  obtain ⟨hv, hone⟩ := cellsV_spec (ev_spec g y) (ofO_eq h1)
  exact makes_new (el := ty1) hv hone (by simp [execOp, ho, Instr.box, newVar, newRow])
theorem does_nilc {o : Oper} {y : Operand} (ho : o.op = .nilCheck y) (g : RT σ ρ nt t a) (gh : RH σ ρ h w)
    (e : opV call (.nilc (opdOf y)) t h = .ok x h') : Does P σ ρ h w (execOp a.eval o) x h' := by
  have e' : nilc2 (ev (opdOf y) t) h = .ok x h' := e
  have hp := ev_spec g y
  unfold nilc2 at e'
  split at e'
  · rename_i q hq
    cases e'
    rw [hq] at hp
    have hp' := hp
    simp only [RV] at hp
    obtain ⟨L, hL, hp⟩ := hp
    exact Does.still gh (v := a.eval y) (by simp [execOp, ho, hp]) hp'
  · rename_i k u v hq
    cases e'
    rw [hq] at hp
    have hp' := hp
    simp only [RV] at hp
    obtain ⟨b, c, hp, _⟩ := hp
    exact Does.still gh (v := a.eval y) (by simp [execOp, ho, hp]) hp'
  · cases e'
theorem does_fieldAddr {o : Oper} {s f : Nat} {y : Operand} (ho : o.op = .fieldAddr s y f) (hty : TyOk P ty) (g : RT σ ρ nt t a) (gh : RH σ ρ h w)
    (e : opV call (compFieldAddr ty s y f) t h = .ok x h') : Does P σ ρ h w (execOp a.eval o) x h' := by
  unfold compFieldAddr at e
  cases hf : fieldOf ty s f with
  | none => rw [hf] at e; cases e
  | some fd =>
    rw [hf] at e
    obtain ⟨tf, ht, e⟩ := withTy_eq e
    unfold fieldOf at hf
    cases hs : ty s with
    | none => rw [hs] at hf; cases hf
    | some ts =>
      rw [hs] at hf
      obtain ⟨i, z, t1, t2, t3, _⟩ := hty _ _ hs
      obtain ⟨i', z', u1, u2, u3, _⟩ := hty _ _ ht
      simp only at hf
      split at hf
      · rename_i fs hd
        split at e
        · cases e
        · rename_i m hm
          obtain ⟨r, off, h1, h2⟩ := onPtr_eq e ok_ne
          cases h2
          have hp := ev_spec g y
          rw [h1] at hp
          simp only [RV] at hp
          obtain ⟨L, hL, hp⟩ := hp
          have hfs : fs[f]? = some fd := by simpa using hf
          have hsz : i'.size = m + 1 := by rw [u3, hm]
          rw [hd] at t2
          refine Does.still gh (v := .pointer (some ⟨L.b, L.o + off + fd.offset, none⟩)) (by
            simp [execOp, ho, hp, Instr.fieldAt, Instr.sureAddr, run_underlying t2, hfs, fieldPlace, run_size u1, hsz, add_none]) ?_
          simp only [RV]
          exact ⟨L, hL, by simp only [Nat.add_assoc]; rfl⟩
      · cases hf
end ops
end Go.Proofs.YtggnhaiohmgflaaGreatDoor.Sx
namespace Go.Proofs.YtggnhaiohmgflaaGreatDoor.Sx
open Go
variable {σ : Nat → Int} {ρ ρ' : Rho} {h h' : H} {w w' : World} {P : Program}

theorem take_ob (grp : Nat) (ids : List Nat) (h : H) (i : Nat) : (H.take grp ids h).ob i = h.ob i := by cases h; rfl
theorem take_next (grp : Nat) (ids : List Nat) (h : H) : (H.take grp ids h).next = h.next + 1 := by cases h; rfl
theorem take_grps (grp : Nat) (ids : List Nat) (h : H) (b : Nat) : idsOf (H.take grp ids h).grps b = if b = grp then ids else idsOf h.grps b := by
  cases h; exact idsOf_set _ _ _ _
/-- the next number is passed -/
theorem RH.pass (g : RH σ ρ h w) (e1 : ∀ i, h'.ob i = h.ob i) (e2 : h'.next = h.next + 1) (e3 : ∀ i r, h.ob i = some (.row r) → r.grp ≠ 0 → i ∈ idsOf h'.grps r.grp) : RH σ ρ h' w :=
  ⟨fun i r e => g.row i r (by rw [← e1]; exact e), fun i r e => g.map i r (by rw [← e1]; exact e), fun i j x y L M a b c d e f => g.sep i j x y L M a (by rw [← e1]; exact b) (by rw [← e1]; exact c) d e f,
    fun i r a b => e3 i r (by rw [← e1]; exact a) b, fun i r a => by have := g.gnext i r (by rw [← e1]; exact a); omega,
    fun i a => by rw [e1]; exact g.next i (by omega), fun i a => g.dom i (by omega), by omega⟩
theorem RH.take (g : RH σ ρ h w) {grp : Nat} {ids : List Nat} (hk : ∀ i r, h.ob i = some (.row r) → r.grp ≠ 0 → r.grp = grp → i ∈ ids) : RH σ ρ (H.take grp ids h) w := by
  refine g.pass (take_ob _ _ _) (take_next _ _ _) (fun i r e1 e2 => ?_)
  rw [take_grps]
  split
  · exact hk i r e1 e2 ‹_›
  · exact g.grp i r e1 e2
/-- a place for a number that has none, and no object -/
theorem RH.place (g : RH σ ρ h w) {n : Nat} (hn : n < h.next) (ho : h.ob n = none) (hρ : ρ n = none) (L : Loc) : RH σ (upd ρ n L) h w := by
  have hE : Ext ρ (upd ρ n L) := fun i M hi => by
    by_cases e : i = n
    · rw [e, hρ] at hi; cases hi
    · rw [upd_ne ρ L e]; exact hi
  have ne : ∀ {i : Nat} {x : Ob}, h.ob i = some x → i ≠ n := fun e1 e2 => by rw [e2, ho] at e1; cases e1
  refine ⟨fun i r e => ?_, fun i es e => ?_, fun i j x y K M a b c d e f => ?_, g.grp, g.gnext, g.next, fun i e => ?_, g.pos⟩
  · obtain ⟨K, h1, h2⟩ := g.row i r e
    exact ⟨K, hE _ _ h1, h2.mono hE⟩
  · obtain ⟨K, h1, es', clk, h2, h3⟩ := g.map i es e
    exact ⟨K, hE _ _ h1, es', clk, h2, h3.mono hE⟩
  · rw [upd_ne ρ L (ne b)] at d
    rw [upd_ne ρ L (ne c)] at e
    exact g.sep i j x y K M a b c d e f
  · rw [upd_ne ρ L (by omega)]; exact g.dom i e
/-- objects that were there, and one more -/
theorem Step.lay {n : Nat} {L : Loc} (hn : n = h.next) (e1 : ∀ i o, h'.ob i = some o → i = n ∨ ∃ o', h.ob i = some o') (e2 : h.next ≤ h'.next) (hb : w.heap.size ≤ L.b ∨ Live ρ h L.b)
    (e3 : ∀ b, b < w.heap.size → ¬ Live ρ h b → w'.heap[b]? = w.heap[b]?) (e4 : w.heap.size ≤ w'.heap.size) (e5 : w'.tape = w.tape) (e6 : w'.os = w.os) (e7 : w'.output = w.output) :
    Step ρ h w (upd ρ n L) h' w' := by
  refine ⟨fun i hi => upd_ne ρ L (by omega), e2, e3, fun b hl => ?_, e4, fun i hi e => ?_, e5, e6, e7⟩
  rotate_left
  · cases ho : h'.ob i with
    | none => rfl
    | some o =>
      rcases e1 i o ho with h4 | ⟨o', h4⟩
      · omega
      · rw [e] at h4; cases h4
  obtain ⟨i, o, M, h1, h2, h3⟩ := hl
  by_cases e : i = n
  · rw [e, upd_self] at h2; cases h2; rw [← h3]; exact hb
  · rw [upd_ne ρ L e] at h2
    rcases e1 i o h1 with h4 | ⟨o', h4⟩
    · exact absurd h4 e
    · exact .inr ⟨i, o', M, h4, h2, h3⟩

/-- a row beside row r, of which some may be gone: 'h1' is what is left; the new one lies in r's block or in one of its own -/
theorem share_spec {r lo st : Nat} {y : Row} {cells : List V} {L L' : Loc} {h1 : H} (g : RH σ ρ h1 w) (hL : ρ r = some L)
    (hr : h1.ob r = some (.row y) ∨ (h1.ob r = none ∧ (y.grp ≠ 0 ∨ Nat.ble (Nat.add y.start y.cells.length) lo = false))) (hyg : y.grp < h1.next) (hrn : r < h1.next)
    (hnew : ∀ grp, RRow σ (upd ρ h1.next L') w L' ⟨grp, st, cells⟩) (hst : ∀ st' : Nat, RRow σ (upd ρ h1.next L') w L' ⟨0, st', cells⟩)
    (hold : ∀ j x M, h1.ob j = some x → ρ j = some M → M.b = L'.b → L'.b = L.b ∧ L'.o + y.start = L.o + st)
    (hsep : ∀ j x M, j ≠ r → h1.ob j = some x → ρ j = some M → M.b = L.b → ∃ s, x = .row s ∧ y.grp = s.grp ∧ y.grp ≠ 0 ∧ L.o + s.start = M.o + y.start) :
    RH σ (upd ρ h1.next L') (H.share r y st lo cells h1) w ∧ (∀ i o, (H.share r y st lo cells h1).ob i = some o → i = h1.next ∨ ∃ o', h1.ob i = some o') ∧ h1.next ≤ (H.share r y st lo cells h1).next := by
  have hno : h1.ob h1.next = none := g.next _ (Nat.le_refl _)
  have hρn : ρ h1.next = none := g.dom _ (Nat.le_refl _)
  have hrne : r ≠ h1.next := by omega
  unfold H.share
  cases hg : y.grp with
  | zero =>
    cases hle : Nat.ble (Nat.add y.start y.cells.length) lo with
    | true =>
      simp only
      have hr' : h1.ob r = some (.row y) := hr.resolve_right (fun c => by rcases c.2 with c | c; · exact c hg
                                                                          · rw [hle] at c; cases c)
      have g1 : RH σ ρ (H.take h1.next [h1.next, r] h1) w := g.take (fun i s e1 e2 e3 => by have := g.gnext i s e1; omega)
      obtain ⟨M, hM, hrow⟩ := g.row r y hr'
      rw [hL] at hM; cases hM
      have g2 : RH σ ρ (H.setOb (some (.row ⟨h1.next, y.start, y.cells⟩)) r (H.take h1.next [h1.next, r] h1)) w := by
        have g2' := (Less.none g1 r).rh g1
        have := g2'.add (i := r) (r := ⟨h1.next, y.start, y.cells⟩) (L := L) (by rw [H.next_set, take_next]; omega) hL ⟨hrow.fits, hrow.one, hrow.blk⟩ (by rw [H.next_set, take_next]; simp)
          (fun j x K e1 e2 e3 e4 => by
            rw [H.ob_set, if_neg e1, take_ob] at e2
            obtain ⟨s, _, _, e5, _⟩ := hsep j x K e1 e2 e3 e4
            exact absurd hg e5)
          (fun _ => by rw [H.grps_set, take_grps, if_pos rfl]; simp)
        exact this.congr (fun j => (setOb_setOb _ _ _ _ _).symm) (by simp [H.next_set]) (by simp [H.grps_set])
      have g3 := g2.place (n := h1.next) (by rw [H.next_set, take_next]; omega) (by rw [H.ob_set, if_neg (Ne.symm hrne), take_ob]; exact hno) hρn L'
      have g4 := g3.add (i := h1.next) (r := ⟨h1.next, st, cells⟩) (L := L') (by rw [H.next_set, take_next]; omega) (upd_self _ _ _) (hnew _) (by rw [H.next_set, take_next]; simp)
        (fun j x K e1 e2 e3 e4 => by
          rw [upd_ne ρ L' e1] at e3
          rw [H.ob_set] at e2
          split at e2
          · rename_i e
            cases e2
            rw [e, hL] at e3; cases e3
            obtain ⟨k1, k2⟩ := hold r _ L hr' hL e4
            exact ⟨_, rfl, rfl, by simp only; have := g.pos; omega, by simp only; omega⟩
          · rename_i e
            rw [take_ob] at e2
            obtain ⟨k1, k2⟩ := hold j x K e2 e3 e4
            obtain ⟨s, _, _, e5, _⟩ := hsep j x K e e2 e3 (by omega)
            exact absurd hg e5)
        (fun _ => by rw [H.grps_set, take_grps, if_pos rfl]; simp)
      refine ⟨g4, fun i o e => ?_, by rw [H.next_set, H.next_set, take_next]; omega⟩
      rw [H.ob_set] at e
      split at e
      · exact .inl ‹_›
      · rw [H.ob_set] at e
        split at e
        · rename_i e'; exact .inr ⟨_, by rw [e']; exact hr'⟩
        · rw [take_ob] at e; exact .inr ⟨o, e⟩
    | false =>
      simp only
      have l := Less.none g r
      have g1 := l.rh g
      have g2 : RH σ ρ (H.take 0 [] (h1.setOb none r)) w := g1.take (fun i s _ e2 e3 => absurd e3 e2)
      have g3 := g2.place (n := h1.next) (by rw [take_next, H.next_set]; omega) (by rw [take_ob, H.ob_set, if_neg (Ne.symm hrne)]; exact hno) hρn L'
      have g4 := g3.add (i := h1.next) (r := ⟨0, 0, cells⟩) (L := L') (by rw [take_next, H.next_set]; omega) (upd_self _ _ _) (hst 0) (by rw [take_next]; simp)
        (fun j x K e1 e2 e3 e4 => by
          rw [upd_ne ρ L' e1] at e3
          rw [take_ob, H.ob_set] at e2
          split at e2
          · cases e2
          · rename_i e
            obtain ⟨k1, k2⟩ := hold j x K e2 e3 e4
            obtain ⟨s, _, _, e5, _⟩ := hsep j x K e e2 e3 (by omega)
            exact absurd hg e5)
        (fun e => absurd rfl e)
      have hobn : ∀ i, (H.newRow cells (h1.setOb none r)).ob i = if i = h1.next then some (.row ⟨0, 0, cells⟩) else (h1.setOb none r).ob i := fun i => by
        rw [H.newRow, H.ob_new, H.next_set]
      refine ⟨⟨fun i s e => g4.row i s ?_, fun i s e => g4.map i s ?_, fun i j x y L M a b c d e f => g4.sep i j x y L M a ?_ ?_ d e f, fun i s a b => ?_, fun i s a => ?_, fun i a => ?_, fun i a => ?_, ?_⟩, fun i o e => ?_, by rw [H.newRow, H.next_new, H.next_set]; omega⟩
      · rw [hobn] at e; rw [H.ob_set, take_ob]; exact e
      · rw [hobn] at e; rw [H.ob_set, take_ob]; exact e
      · rw [hobn] at b; rw [H.ob_set, take_ob]; exact b
      · rw [hobn] at c; rw [H.ob_set, take_ob]; exact c
      · rw [hobn] at a
        rw [H.newRow, H.grps_new, H.grps_set]
        split at a
        · cases a; exact absurd rfl b
        · exact g.grp i s (l.ob i _ a) b
      · rw [H.newRow, H.next_new, H.next_set]
        rw [hobn] at a
        split at a
        · cases a; have := g.pos; simp only; omega
        · have := g.gnext i s (l.ob i _ a); omega
      · rw [H.newRow, H.next_new, H.next_set] at a
        rw [hobn, if_neg (by omega), H.ob_set]
        split
        · rfl
        · exact g.next i (by omega)
      · rw [H.newRow, H.next_new, H.next_set] at a
        rw [upd_ne ρ L' (by omega)]; exact g.dom i (by omega)
      · rw [H.newRow, H.next_new]; omega
      · rw [hobn] at e
        split at e
        · exact .inl ‹_›
        · exact .inr ⟨o, l.ob i _ e⟩
  | succ q =>
    simp only
    have g1 : RH σ ρ (H.take (q + 1) (h1.next :: idsOf h1.grps (q + 1)) h1) w := g.take (fun i s e1 e2 e3 => by have := g.grp i s e1 e2; rw [e3] at this; exact List.mem_cons_of_mem _ this)
    have g3 := g1.place (n := h1.next) (by rw [take_next]; omega) (by rw [take_ob]; exact hno) hρn L'
    have g4 := g3.add (i := h1.next) (r := ⟨q + 1, st, cells⟩) (L := L') (by rw [take_next]; omega) (upd_self _ _ _) (hnew _) (by rw [take_next]; simp only; omega)
      (fun j x K e1 e2 e3 e4 => by
        rw [upd_ne ρ L' e1] at e3
        rw [take_ob] at e2
        obtain ⟨k1, k2⟩ := hold j x K e2 e3 e4
        by_cases e : j = r
        · subst e
          rw [hL] at e3; cases e3
          rcases hr with hr | hr
          · rw [hr] at e2; cases e2
            exact ⟨_, rfl, hg, by simp, by simp only; omega⟩
          · rw [hr.1] at e2; cases e2
        · obtain ⟨s, e5, e6, e7, e8⟩ := hsep j x K e e2 e3 (by omega)
          exact ⟨s, e5, by rw [← e6]; exact hg, by simp, by simp only; omega⟩)
      (fun _ => by rw [take_grps, if_pos rfl]; simp)
    refine ⟨g4, fun i o e => ?_, by rw [H.next_set, take_next]; omega⟩
    rw [H.ob_set] at e
    split at e
    · exact .inl ‹_›
    · rw [take_ob] at e; exact .inr ⟨o, e⟩
end Go.Proofs.YtggnhaiohmgflaaGreatDoor.Sx
namespace Go.Proofs.YtggnhaiohmgflaaGreatDoor.Sx
open Go
variable {σ : Nat → Int} {ρ ρ' : Rho} {h h' : H} {w w' : World} {P : Program}

/-- there is room: the cells behind the slice are written -/
theorem run_append_in (t ty e : TypeId) (i : TypeInfo) (ht : P.underlying t = some (.slice e)) (hi : P.info? e = some i) (g o sLen sCap : Nat)
    (a : Addr) (m c : Nat) (news : List Value) (hl : news.length = m * i.size) (hnews : ∀ j u, news[j]? = some u → w.cell? (a.add j) = some u) (h1 : ∀ u ∈ news, u.oneCell' = true)
    (hroom : sLen + m ≤ sCap) (hc : ∀ j, j < news.length → (w.cell? ⟨g, o + sLen * i.size + j, none⟩).isSome = true) (hf : ∀ j, j < news.length → w.frozen? ⟨g, o + sLen * i.size + j, none⟩ = false) :
    (Builtin.append_ #[t, t] ty #[.slice (some ⟨g, o, none⟩) sLen sCap, .slice (some a) m c]).run P w = .ok (.slice (some ⟨g, o, none⟩) (sLen + m) sCap) (w.setCells g (o + sLen * i.size) news) := by
  have hld := run_loadCells_list (P := P) (w := w) a news hnews
  rw [hl] at hld
  have hst := run_storeCells_cells (P := P) g (o + sLen * i.size) news 0 w (by simpa using hc) (by simpa using hf) h1
  simp [Builtin.append_, run_underlying ht, sizeOf, typeInfo, hi, Builtin.lenOf, Builtin.firstCells, hld, hroom, add_none, hst]

theorem RH.pushed (g : RH σ ρ h w) {o : Obj} (hw : w'.heap = w.heap.push o) : RH σ ρ h w' := by
  have keep : ∀ {i : Nat} {x : Ob} {M : Loc}, h.ob i = some x → ρ i = some M → w'.heap[M.b]? = w.heap[M.b]? := fun h1 h2 => by
    have := Live.lt g ⟨_, _, _, h1, h2, rfl⟩
    rw [hw, Array.getElem?_push]; simp [Nat.ne_of_lt this]
  refine ⟨fun i r hi => ?_, fun i es hi => ?_, g.sep, g.grp, g.gnext, g.next, g.dom, g.pos⟩
  · obtain ⟨L, h1, h2⟩ := g.row i r hi
    obtain ⟨c, el, fr, h3⟩ := h2.blk
    exact ⟨L, h1, h2.fits, h2.one, c, el, fr, by rw [keep hi h1]; exact h3⟩
  · obtain ⟨L, h1, es', clk, h2⟩ := g.map i es hi
    exact ⟨L, h1, es', clk, by rw [keep hi h1]; exact h2⟩
theorem appendV_eq {esz : Nat} {s x r : V} (e : appendV esz s x h = .ok r h') : ∃ base len es cap n, s = .sl base len es cap ∧ lenSl x = .ok n ∧
    ((n = 0 ∧ r = s ∧ h' = h) ∨ (n ≠ 0 ∧ (base = none ∨ es = esz) ∧ len + n ≤ 1000000 ∧ ∃ old new, firstV esz len s h = .ok old ∧ firstV esz n x h = .ok new ∧ app2 esz len n base (old ++ new) h = .ok r h')) := by
  unfold appendV at e
  split at e
  · rename_i base len es cap
    obtain ⟨n, h1, h2⟩ := rO_eq e
    refine ⟨base, len, es, cap, n, rfl, h1, ?_⟩
    rw [ifB_eq] at h2
    split at h2
    · rename_i hb; cases h2; exact .inl ⟨beq_true hb, rfl, rfl⟩
    · rename_i hb
      have hn : n ≠ 0 := fun c => by subst c; exact hb rfl
      rw [ifB_eq] at h2
      split at h2
      · cases h2
      · rename_i hc
        simp only [Bool.not_eq_true', Bool.not_eq_false, Bool.and_eq_true, Bool.or_eq_true] at hc
        obtain ⟨old, h3, h4⟩ := rO_eq h2
        obtain ⟨new, h5, h6⟩ := rO_eq h4
        refine .inr ⟨hn, ?_, ble_true hc.2, old, new, h3, h5, h6⟩
        rcases hc.1 with hc | hc
        · left; cases base <;> simp_all [isNone]
        · exact .inr (beq_true hc)
  · cases e
/-- a slice whose first n elements are told -/
theorem firstV_spec (g : RH σ ρ h w) {esz n len e : Nat} {q : Nat × Nat} {cap : Option Nat} {cs : List V} (hf : firstV esz n (.sl (some q) len e cap) h = .ok cs) :
    ∃ y L vs, h.ob q.1 = some (.row y) ∧ ρ q.1 = some L ∧ vs.length = n * esz ∧ RVs σ ρ cs vs ∧ cs.all oneV = true ∧ (∀ j v, vs[j]? = some v → w.cell? ⟨L.b, L.o + q.2 + j, none⟩ = some v) := by
  obtain ⟨y, h1, h2, h3⟩ := loadN_ok (show loadN q.1 q.2 (n * esz) h = .ok cs from hf)
  obtain ⟨L, hL, hr⟩ := g.row _ _ h1
  have ho := hr.one
  have hone : cs.all oneV = true := by
    rw [h2]
    simp only [List.all_eq_true] at ho ⊢
    exact fun z hz => ho z (List.mem_of_mem_drop (List.mem_of_mem_take hz))
  by_cases hn : n * esz = 0
  · exact ⟨y, L, [], h1, hL, by simp [hn], by rw [h2, hn]; simp [RVs], hone, by simp⟩
  · obtain ⟨vs, k1, k2, k3, _⟩ := hr.stretch (off := q.2) (n := n * esz) (by omega)
    exact ⟨y, L, vs, h1, hL, k1, by rw [h2]; exact k2, hone, k3⟩
theorem size_zero (z : Array Value) (n : Nat) : (Builtin.zeroCells z n).size = n * z.size := by simp [Builtin.zeroCells]
end Go.Proofs.YtggnhaiohmgflaaGreatDoor.Sx
namespace Go.Proofs.YtggnhaiohmgflaaGreatDoor.Sx
open Go
variable {σ : Nat → Int} {ρ ρ' : Rho} {h h' : H} {w w' : World} {P : Program}

/-- what a computation of a value does -/
def DoesV (P : Program) (σ : Nat → Int) (ρ : Rho) (h : H) (w : World) (s : Sem Value) (x : V) (h' : H) : Prop :=
  ∃ v w' ρ', s.run P w = .ok v w' ∧ RV σ ρ' x v ∧ RH σ ρ' h' w' ∧ Step ρ h w ρ' h' w'

theorem all_append {xs ys : List V} (h1 : xs.all oneV = true) (h2 : ys.all oneV = true) : (xs ++ ys).all oneV = true := by simp [List.all_append, h1, h2]
theorem growCap {i : TypeInfo} {need old : Nat} (h1 : old < need) (h2 : need ≤ 1000000) (h3 : i.bytes ≤ 65536) : Builtin.nextslicecap need old * i.bytes ≤ 281474976710656 := by
  refine growslice_fits h1 ?_
  have := Nat.mul_le_mul h2 h3
  omega


/-- the row's own memory behind an append, however it was made room for -/
theorem append_shared {t1 ty1 e : TypeId} {i : TypeInfo} {z : Value} {esz len n c cx : Nat} {p : Nat × Nat} {y : Row} {L : Loc} {ab ax : Addr} {old new : List V} {olds news : List Value}
    (gh : RH σ ρ h w) (hy : h.ob p.1 = some (.row y)) (hL : ρ p.1 = some L)
    (o1 : olds.length = len * esz) (o2 : RVs σ ρ old olds) (o3 : old.all oneV = true) (o4 : ∀ j v, olds[j]? = some v → w.cell? ⟨L.b, L.o + p.2 + j, none⟩ = some v)
    (n1 : news.length = n * esz) (n2 : RVs σ ρ new news) (n3 : new.all oneV = true) (hnews : ∀ j u, news[j]? = some u → w.cell? (ax.add j) = some u)
    (ht : P.underlying t1 = some (.slice e)) (hi : P.info? e = some i) (hz : i.zero = some z) (hzs : esz = z.cells.size) (hsz : i.size = esz) (hby : i.bytes ≤ 65536)
    (hne : n ≠ 0) (hlim : len + n ≤ 1000000) (hs1 : len ≤ c) (hs3 : c = 0 ∨ ab = ⟨L.b, L.o + p.2, none⟩ ∧ L.o + p.2 + c * esz ≤ L.n) :
    DoesV P σ ρ h w (Builtin.append_ #[t1, t1] ty1 #[.slice (some ab) len c, .slice (some ax) n cx]) (.sl (some (h.next, 0)) (Nat.add len n) esz none)
      (H.share p.1 y (Nat.add y.start p.2) (Nat.add (Nat.add y.start p.2) (Nat.mul len esz)) (old ++ new)
        (h.strike y.grp h.next (Nat.add (Nat.add y.start p.2) (Nat.mul len esz)) (Nat.add (Nat.add y.start p.2) (Nat.mul (Nat.add len n) esz)))) := by
  have hmul : (len + n) * esz = len * esz + n * esz := Nat.add_mul _ _ _
  obtain ⟨M, hM, hr⟩ := gh.row _ _ hy
  rw [hL] at hM; cases hM
  obtain ⟨cc, el, fr, b1, b2, b3, b4⟩ := hr.blk
  have hin : p.1 < h.next := by
    rcases Nat.lt_or_ge p.1 h.next with hlt | hge
    · exact hlt
    · rw [gh.next _ hge] at hy; cases hy
  obtain ⟨k1, k2, k3⟩ := strike_spec y.grp h.next (y.start + p.2 + len * esz) (y.start + p.2 + (len + n) * esz) h gh.grp
  change DoesV P σ ρ h w _ (.sl (some (h.next, 0)) (len + n) esz none) (H.share p.1 y (y.start + p.2) (y.start + p.2 + len * esz) (old ++ new) (h.strike y.grp h.next (y.start + p.2 + len * esz) (y.start + p.2 + (len + n) * esz)))
  generalize hst : h.strike y.grp h.next (y.start + p.2 + len * esz) (y.start + p.2 + (len + n) * esz) = h1 at *
  have hnx : h1.next = h.next := k1.next
  have g1 := k1.rh gh
  have hcl : (old ++ new).length = (len + n) * esz := by rw [List.length_append, o2.length, n2.length, o1, n1, hmul]
  have hTl : (olds ++ news).length = (len + n) * esz := by rw [List.length_append, o1, n1, hmul]
  have hT : RVs σ ρ (old ++ new) (olds ++ news) := RVs.append o2 n2
  have hone := all_append o3 n3
  have hsep : ∀ {hm : H}, Less h hm → ∀ j x M, j ≠ p.1 → hm.ob j = some x → ρ j = some M → M.b = L.b → ∃ s, x = .row s ∧ y.grp = s.grp ∧ y.grp ≠ 0 ∧ L.o + s.start = M.o + y.start := by
    intro hm hl j x M e1 e2 e3 e4
    obtain ⟨r, s, f1, f2, f3, f4, f5⟩ := gh.sep p.1 j _ x L M (Ne.symm e1) hy (hl.ob j x e2) hL e3 e4.symm
    cases f1
    exact ⟨s, f2, f3, f4, f5⟩
  have hob1 : h1.ob p.1 = some (.row y) ∨ (h1.ob p.1 = none ∧ y.grp ≠ 0) := by
    by_cases hg : y.grp = 0
    · left; rw [← hst, hg]; exact hy
    · cases ho : h1.ob p.1 with
      | none => exact .inr ⟨rfl, hg⟩
      | some x => left; have := k1.ob _ _ ho; rw [hy] at this; cases this; rfl
  have hlive : Live ρ h L.b := ⟨p.1, _, L, hy, hL, rfl⟩
  by_cases hroom : len + n ≤ c
  · -- in place
    obtain ⟨rfl, hbound⟩ := hs3.resolve_left (by omega)
    have hc1 : (len + n) * esz ≤ c * esz := Nat.mul_le_mul_right _ hroom
    have hrun := run_append_in (P := P) (w := w) t1 ty1 e i ht hi L.b (L.o + p.2) len c ax n cx news (by rw [n1, hsz]) hnews (n2.one n3) hroom
      (fun j hj => by rw [cell_of b1, hsz, Array.getElem?_eq_getElem (by omega)]; rfl) (fun j hj => frozen_of b1 (b3 _ (by rw [hsz]; omega)))
    rw [hsz] at hrun
    obtain ⟨a1, a2, a3, a4, a5, a6⟩ := setCells_spec L.b news (L.o + p.2 + len * esz) w
    obtain ⟨c', c1, c2, c3⟩ := a6 cc el fr b1 (by omega)
    have hcell : ∀ j, j < (len + n) * esz → c'[L.o + p.2 + j]? = (olds ++ news)[j]? := by
      intro j hj
      rw [c3]
      by_cases hjl : j < len * esz
      · rw [if_neg (by omega), List.getElem?_append_left (by omega)]
        have := o4 j olds[j] (List.getElem?_eq_getElem (by omega))
        rw [cell_of b1] at this
        rw [this, List.getElem?_eq_getElem (by omega)]
      · rw [if_pos (by omega), List.getElem?_append_right (by omega), o1]
        congr 1; omega
    have hTe : (c'.toList.drop (L.o + p.2)).take ((len + n) * esz) = olds ++ news := by
      apply List.ext_getElem?
      intro j
      rw [List.getElem?_take]
      split
      · rw [List.getElem?_drop, Array.getElem?_toList]; exact hcell j ‹_›
      · rw [List.getElem?_eq_none (by omega)]
    have key : ∀ hm : H, Less h hm → hm.next = h.next → RH σ ρ hm w →
        (hm.ob p.1 = some (.row y) ∨ (hm.ob p.1 = none ∧ (y.grp ≠ 0 ∨ Nat.ble (Nat.add y.start y.cells.length) (y.start + p.2 + len * esz) = false))) →
        (∀ j s M, hm.ob j = some (.row s) → ρ j = some M → M.b = L.b → M.o + s.cells.length ≤ L.o + p.2 + len * esz ∨ L.o + p.2 + len * esz + news.length ≤ M.o) →
        RH σ (upd ρ hm.next ⟨L.b, L.o + p.2, L.n⟩) (H.share p.1 y (y.start + p.2) (y.start + p.2 + len * esz) (old ++ new) hm) (w.setCells L.b (L.o + p.2 + len * esz) news) ∧
        (∀ i o, (H.share p.1 y (y.start + p.2) (y.start + p.2 + len * esz) (old ++ new) hm).ob i = some o → i = hm.next ∨ ∃ o', hm.ob i = some o') ∧ hm.next ≤ (H.share p.1 y (y.start + p.2) (y.start + p.2 + len * esz) (old ++ new) hm).next := by
      intro hm hl hmn gm hrm hdis
      have g2 := gm.over b1 (by omega) hdis
      have hrow : ∀ grp st, RRow σ (upd ρ hm.next ⟨L.b, L.o + p.2, L.n⟩) (w.setCells L.b (L.o + p.2 + len * esz) news) ⟨L.b, L.o + p.2, L.n⟩ ⟨grp, st, old ++ new⟩ := fun grp st =>
        ⟨by simp only; rw [hcl]; omega, hone, c', el, fr, c1, by rw [c2, b2], b3, by
          simp only; rw [hcl, hTe]; exact RVs.mono (Ext.upd gm _) _ _ hT⟩
      exact share_spec g2 hL hrm (by rw [hmn]; exact gh.gnext _ _ hy) (by rw [hmn]; exact hin) (fun grp => hrow grp _) (fun st => hrow 0 st) (fun j x M e1 e2 e3 => ⟨rfl, by simp only; omega⟩) (hsep hl)
    have fin : ∀ (hf : H), RH σ (upd ρ h.next ⟨L.b, L.o + p.2, L.n⟩) hf (w.setCells L.b (L.o + p.2 + len * esz) news) → (∀ i o, hf.ob i = some o → i = h.next ∨ ∃ o', h.ob i = some o') → h.next ≤ hf.next →
        DoesV P σ ρ h w (Builtin.append_ #[t1, t1] ty1 #[.slice (some ⟨L.b, L.o + p.2, none⟩) len c, .slice (some ax) n cx]) (.sl (some (h.next, 0)) (len + n) esz none) hf := fun hf q1 q2 q3 => by
      refine ⟨_, _, _, hrun, ?_, q1, Step.lay rfl q2 q3 (.inr hlive) (fun b _ hb => a2 b (fun e => hb (e ▸ hlive))) (by rw [a1]; exact Nat.le_refl _) a3 a4 a5⟩
      simp only [RV]
      exact ⟨_, _, c, upd_self _ _ _, rfl, hroom, by simp, .inr ⟨by simp, by simp only; omega⟩⟩
    by_cases hov : y.grp = 0 ∧ Nat.ble (Nat.add y.start y.cells.length) (y.start + p.2 + len * esz) = false
    · have l2 := Less.none g1 p.1
      have l3 : Less h (h1.setOb none p.1) := ⟨fun i x e => k1.ob i x (l2.ob i x e), by rw [l2.next, hnx], fun hg => l2.grp (k1.grp hg)⟩
      have hsh : ∀ hm : H, H.share p.1 y (y.start + p.2) (y.start + p.2 + len * esz) (old ++ new) hm = H.newRow (old ++ new) (hm.setOb none p.1) := fun hm => by
        unfold H.share; rw [hov.1]; simp only; rw [hov.2]
      obtain ⟨q1, q2, q3⟩ := key (h1.setOb none p.1) l3 l3.next (l2.rh g1) (.inr ⟨by rw [H.ob_set, if_pos rfl], .inr hov.2⟩) (fun j s M e1 e2 e3 => by
        rw [H.ob_set] at e1
        split at e1
        · cases e1
        · obtain ⟨s', f1, f2, f3, f4⟩ := hsep k1 j _ M ‹_› e1 e2 e3
          exact absurd hov.1 f3)
      have hobe : ∀ i, (H.share p.1 y (y.start + p.2) (y.start + p.2 + len * esz) (old ++ new) h1).ob i = (H.share p.1 y (y.start + p.2) (y.start + p.2 + len * esz) (old ++ new) (h1.setOb none p.1)).ob i := fun i => by
        simp only [hsh, H.newRow, H.ob_new, H.next_set, setOb_setOb]
      have hne1 : (H.share p.1 y (y.start + p.2) (y.start + p.2 + len * esz) (old ++ new) h1).next = (H.share p.1 y (y.start + p.2) (y.start + p.2 + len * esz) (old ++ new) (h1.setOb none p.1)).next := by
        simp only [hsh, H.newRow, H.next_new, H.next_set]
      rw [H.next_set, hnx] at q1 q2 q3
      refine fin _ (q1.congr hobe hne1 (by simp only [hsh, H.newRow, H.grps_new, H.grps_set])) (fun i o e => ?_) (by rw [hne1]; exact q3)
      rw [hobe] at e
      rcases q2 i o e with e | ⟨o', e⟩
      · exact .inl e
      · exact .inr ⟨o', l3.ob i o' e⟩
    · obtain ⟨q1, q2, q3⟩ := key h1 k1 hnx g1 (hob1.imp id (fun c => ⟨c.1, .inl c.2⟩)) (fun j s M e1 e2 e3 => by
        by_cases hj : j = p.1
        · subst hj
          have := k1.ob _ _ e1; rw [hy] at this; cases this
          rw [hL] at e2; cases e2
          by_cases hg : y.grp = 0
          · have hb : Nat.ble (Nat.add y.start y.cells.length) (y.start + p.2 + len * esz) = true := by
              cases hb : Nat.ble (Nat.add y.start y.cells.length) (y.start + p.2 + len * esz) with
              | true => rfl
              | false => exact absurd ⟨hg, hb⟩ hov
            have := ble_true hb
            change y.start + y.cells.length ≤ _ at this
            omega
          · have := k3 hg p.1 y e1 rfl (by omega)
            omega
        · obtain ⟨s', f1, f2, f3, f4⟩ := hsep k1 j _ M hj e1 e2 e3
          cases f1
          have hjn : j ≠ h.next := fun e => by rw [e] at e1; rw [g1.next _ (by omega)] at e1; cases e1
          have := k3 f3 j s e1 f2.symm hjn
          omega)
      rw [hnx] at q1 q2 q3
      exact fin _ q1 (fun i o e => (q2 i o e).imp id (fun ⟨o', e'⟩ => ⟨o', k1.ob i o' e'⟩)) q3
  · -- a new block
    have hg2 : c < len + n := by omega
    have hold : ∀ j v, olds[j]? = some v → w.cell? (ab.add j) = some v := by
      rcases hs3 with hc0 | ⟨rfl, _⟩
      · have : olds = [] := List.eq_nil_of_length_eq_zero (by rw [o1, show len = 0 by omega]; simp)
        intro j v e; rw [this] at e; simp at e
      · intro j v e; rw [add_none]; exact o4 j v e
    have hrun := run_append_grow (P := P) (w := w) t1 ty1 e i z ht hi hz ab len c olds (by rw [o1, hsz]) hold ax n cx news (by rw [n1, hsz]) hnews hg2 (by omega) (growCap hg2 hlim hby)
    have hcap := grownCap_ge w (len + n) c e
    generalize grownCap w (len + n) c e = C at *
    have hsize : (olds.toArray ++ news.toArray ++ Builtin.zeroCells z.cells (C - (len + n))).size = C * esz := by
      rw [Array.size_append, Array.size_append, size_zero, List.size_toArray, List.size_toArray, o1, n1, ← hzs, ← Nat.add_mul, ← Nat.add_mul]; congr 1; omega
    have hCm : (len + n) * esz ≤ C * esz := Nat.mul_le_mul_right _ hcap
    generalize hCC : olds.toArray ++ news.toArray ++ Builtin.zeroCells z.cells (C - (len + n)) = CC at *
    have htk : CC.toList.take ((len + n) * esz) = olds ++ news := by
      rw [← hCC, ← hTl, Array.toList_append, Array.toList_append]
      exact List.take_left' rfl
    have g2 : RH σ ρ h1 (w.drew.alloc (.cells CC e)) := g1.pushed (o := .cells CC e) rfl
    have hrow : ∀ grp st, RRow σ (upd ρ h1.next ⟨w.heap.size, 0, CC.size⟩) (w.drew.alloc (.cells CC e)) ⟨w.heap.size, 0, CC.size⟩ ⟨grp, st, old ++ new⟩ := fun grp st =>
      ⟨by simp only; rw [hcl, hsize]; omega, hone, CC, e, (0, 0), by show (w.heap.push _)[w.heap.size]? = _; simp, rfl, fun j _ => by simp, by
        simp only; rw [hcl, List.drop_zero, htk]; exact RVs.mono (Ext.upd g1 _) _ _ hT⟩
    obtain ⟨q1, q2, q3⟩ := share_spec (lo := y.start + p.2 + len * esz) (st := y.start + p.2) (L' := ⟨w.heap.size, 0, CC.size⟩) g2 hL (hob1.imp id (fun c => ⟨c.1, .inl c.2⟩)) (by rw [hnx]; exact gh.gnext _ _ hy) (by rw [hnx]; exact hin) (fun grp => hrow grp _) (fun st => hrow 0 st)
      (fun j x M e1 e2 e3 => by have := Live.lt g1 ⟨j, x, M, e1, e2, rfl⟩; rw [e3] at this; simp at this) (hsep k1)
    rw [hnx] at q1 q2 q3
    refine ⟨_, _, _, hrun, ?_, q1, Step.lay rfl (fun i o e => (q2 i o e).imp id (fun ⟨o', e'⟩ => ⟨o', k1.ob i o' e'⟩)) q3 (.inl (Nat.le_refl _)) (fun b hb _ => by show (w.heap.push _)[b]? = _; rw [Array.getElem?_push]; simp [Nat.ne_of_lt hb]) (by show _ ≤ (w.heap.push _).size; simp) rfl rfl rfl⟩
    simp only [RV]
    exact ⟨_, _, C, upd_self _ _ _, rfl, hcap, by simp, .inr ⟨by simp, by simp only [hsize]; omega⟩⟩

theorem append_spec {t1 ty1 e : TypeId} {ti : TI} {s x r : V} {vs vx : Value} (gh : RH σ ρ h w) (hs : RV σ ρ s vs) (hx : RV σ ρ x vx)
    (ht : P.underlying t1 = some (.slice e)) (hk : TOk P e ti) (ea : appendV ti.size s x h = .ok r h') : DoesV P σ ρ h w (Builtin.append_ #[t1, t1] ty1 #[vs, vx]) r h' := by
  obtain ⟨base, len, es, cap, n, rfl, hn, ha⟩ := appendV_eq ea
  obtain ⟨i, z, hi, _, hsz, hby, hz, hzs, _⟩ := hk
  cases x with
  | sl q nx ex capx =>
    cases hn
    rcases ha with ⟨rfl, rfl, rfl⟩ | ⟨hne, hes, hlim, old, new, ho, hnw, h2⟩
    · -- nothing is appended
      refine ⟨vs, w, ρ, ?_, hs, gh, Step.refl _ _ _⟩
      have hxv : (∃ a c, vx = .slice a 0 c) := by
        cases q with
        | none => simp only [RV] at hx; exact ⟨none, 0, hx.1⟩
        | some q => simp only [RV] at hx; obtain ⟨L, a, c, _, rfl, _⟩ := hx; exact ⟨_, _, rfl⟩
      obtain ⟨a, c, rfl⟩ := hxv
      have hsv : ∃ b sl sc, vs = .slice b sl sc ∧ sl ≤ sc := by
        cases base with
        | none => simp only [RV] at hs; exact ⟨_, _, _, hs.1, Nat.le_refl _⟩
        | some q => simp only [RV] at hs; obtain ⟨L, a, c, _, rfl, h3, _⟩ := hs; exact ⟨_, _, _, rfl, h3⟩
      obtain ⟨b, sl, sc, rfl, hle⟩ := hsv
      cases a <;> cases b <;> simp [Builtin.append_, run_underlying ht, sizeOf, typeInfo, hi, Builtin.lenOf, Builtin.firstCells, loadCells, loadCellsFrom, hle, storeCells]
    · cases q with
      | none => simp only [RV] at hx; exact absurd hx.2.1 hne
      | some q =>
        simp only [RV] at hx
        obtain ⟨Lx, ax, cx, hLx, rfl, hx1, hx2, hx3⟩ := hx
        obtain ⟨yx, Lx', news, _, hLx', n1, n2, n3, n4⟩ := firstV_spec gh hnw
        rw [hLx] at hLx'; cases hLx'
        obtain ⟨rfl, hx5⟩ := hx3.resolve_left (by omega)
        have hnews : ∀ j u, news[j]? = some u → w.cell? ((⟨Lx.b, Lx.o + q.2, none⟩ : Addr).add j) = some u := fun j u hu => by rw [add_none]; exact n4 j u hu
        cases base with
        | none =>
          simp only [RV] at hs
          obtain ⟨rfl, rfl, _⟩ := hs
          cases ho
          cases h2
          have hrun := run_append_nil (P := P) (w := w) t1 ty1 e i z ht hi hz ⟨Lx.b, Lx.o + q.2, none⟩ n cx news (by rw [n1, hsz]) hnews (by omega) (by omega) (by
            have := Nat.mul_le_mul (show n ≤ 1000000 by omega) hby; omega)
          have hcap := grownCap_ge w n 0 e
          have hsize : (news.toArray ++ Builtin.zeroCells z.cells (grownCap w n 0 e - n)).size = grownCap w n 0 e * ti.size := by
            rw [Array.size_append, size_zero, hzs, List.size_toArray, n1, ← Nat.add_mul]; congr 1; omega
          have hl := n2.length
          obtain ⟨k1, k2⟩ := new_row gh (w' := w.drew.alloc (.cells (news.toArray ++ Builtin.zeroCells z.cells (grownCap w n 0 e - n)) e)) (cs := [] ++ new) (fr := (0, 0)) rfl rfl rfl rfl
            (by rw [List.nil_append, hl, n1, hsize]; exact Nat.mul_le_mul_right _ hcap) (by
              rw [List.nil_append, hl]; simpa using n2) (by simpa using n3) (fun j _ => by simp)
          refine ⟨_, _, _, hrun, ?_, k1, k2⟩
          simp only [RV]
          exact ⟨_, _, _, upd_self _ _ _, by rw [show Nat.add 0 n = n from Nat.zero_add n], by rw [show Nat.add 0 n = n from Nat.zero_add n]; exact hcap, by simp, .inr ⟨by simp, by simp only [hsize]; omega⟩⟩
        | some p =>
          simp only [RV] at hs
          obtain ⟨L, ab, c, hL, rfl, hs1, hs2, hs3⟩ := hs
          obtain ⟨y, h3, h4⟩ := rO_eq (show rO (h.row p.1) (app3 ti.size len n p.1 p.2 (old ++ new) h) = .ok r h' from h2)
          have hy := H.row_ok h3
          obtain ⟨y', L', olds, hy', hL', o1, o2, o3, o4⟩ := firstV_spec gh ho
          rw [hy] at hy'; cases hy'
          rw [hL] at hL'; cases hL'
          have hese : es = ti.size := hes.resolve_left (by simp)
          subst hese
          cases h4
          exact append_shared gh hy hL o1 o2 o3 o4 n1 n2 n3 hnews ht hi hz (by rw [← hzs]) (by rw [hsz]) hby hne hlim hs1 hs3
  | _ => cases hn
end Go.Proofs.YtggnhaiohmgflaaGreatDoor.Sx
namespace Go.Proofs.YtggnhaiohmgflaaGreatDoor.Sx
open Go
variable {σ : Nat → Int} {ρ ρ' : Rho} {h h' : H} {w w' : World} {P : Program}

theorem wrap_id {k : IntKind} {n : Int} (h : inK k n) : k.wrap n = n := by
  unfold inK at h
  unfold IntKind.wrap
  cases k <;> simp [IntKind.bits, IntKind.signed, IntKind.min, IntKind.max] at * <;> (try split) <;> omega
theorem small_in (k : IntKind) {n : Int} (h0 : 0 ≤ n) (h1 : n ≤ 127) : inK k n := by
  unfold inK
  cases k <;> simp [IntKind.min, IntKind.max, IntKind.bits, IntKind.signed] <;> omega
theorem wrapI_eq (k : IntKind) (n : Int) : wrapI k n = k.wrap n := by
  unfold wrapI
  split
  · rename_i m
    split
    · rename_i hb
      have := ble_true hb
      exact (wrap_id (small_in k (Int.natCast_nonneg m) (by show (m : Int) ≤ 127; omega))).symm
    · rfl
  · rfl
theorem RV_int {k : IntKind} {n : Int} (h : inK k n) : RV σ ρ (.i k (.lit n)) (.int k n) := by simp only [RV]; exact ⟨rfl, trivial, h⟩
theorem RV_wrap (k : IntKind) (n : Int) : RV σ ρ (.i k (.lit (k.wrap n))) (.int k (k.wrap n)) := RV_int (wrap_in k n)
theorem natR_eq (k : IntKind) (n : Nat) : natR k n = .ok (.i k (.lit (k.wrap (n : Int)))) := by
  unfold natR
  cases hb : Nat.ble n 127 with
  | false => rfl
  | true =>
    have := ble_true hb
    show R.ok (V.i k (.lit (n : Int))) = _
    rw [wrap_id (small_in k (Int.natCast_nonneg n) (by omega))]
theorem nnI_eq {f : Nat → Nat → R V} {g : Int → Int → R V} {x y : Int} {r : R V} (h1 : ∀ a b : Nat, x = a → y = b → f a b = r) (h2 : g x y = r) : nnI f g x y = r := by
  cases x with
  | ofNat a => cases y with
    | ofNat b => exact h1 a b rfl rfl
    | negSucc b => exact h2
  | negSucc a => exact h2
theorem bAdd_eq (k : IntKind) (x y : Int) : bAdd k x y = .ok (.i k (.lit (k.wrap (x + y)))) := by
  refine nnI_eq (fun a b e1 e2 => ?_) (by simp only [addS, wrapI_eq])
  rw [natR_eq, e1, e2]; rfl
theorem bSub_eq (k : IntKind) (x y : Int) : bSub k x y = .ok (.i k (.lit (k.wrap (x - y)))) := by
  refine nnI_eq (fun a b e1 e2 => ?_) (by simp only [subS, wrapI_eq])
  cases hb : Nat.ble b a with
  | false => show subS k (a : Int) (b : Int) = _; rw [← e1, ← e2]; simp only [subS, wrapI_eq]
  | true =>
    have := ble_true hb
    show natR k (a - b) = _
    rw [natR_eq, e1, e2]; congr 4; omega
theorem bMul_eq (k : IntKind) (x y : Int) : bMul k x y = .ok (.i k (.lit (k.wrap (x * y)))) := by
  refine nnI_eq (fun a b e1 e2 => ?_) (by simp only [mulS, wrapI_eq])
  rw [natR_eq, e1, e2]; rfl
theorem nn_bits {k : IntKind} {a : Nat} (h : inK k (a : Int)) : a < 2 ^ k.bits := by
  unfold inK at h
  cases k <;> simp [IntKind.max, IntKind.bits, IntKind.signed] at * <;> omega
theorem ofInt_nat {k : IntKind} {a : Nat} (h : inK k (a : Int)) : (BitVec.ofInt k.bits (a : Int)).toNat = a := by
  rw [BitVec.toNat_ofInt]
  have := nn_bits h
  rw [Int.emod_eq_of_lt (Int.natCast_nonneg a) (by exact_mod_cast this)]; rfl
theorem eqGuard_int (op : BinOp) (t : TypeId) (x y : Operand) (k k' : IntKind) (a b : Int) (w : World) : (eqGuard op t x y (.int k a) (.int k' b)).run P w = .ok () w := by
  cases op <;> simp [eqGuard]
theorem tmod_in {k : IntKind} {x y : Int} (h : inK k x) : inK k (x.tmod y) := by
  unfold inK at *
  have h0 : (x.tmod y).natAbs ≤ x.natAbs := by rw [Int.natAbs_tmod]; exact Nat.mod_le _ _
  have h3 : k.min ≤ 0 := by cases k <;> decide
  have h4 : 0 ≤ k.max := by cases k <;> decide
  rcases Int.le_total 0 x with hx | hx
  · have h1 := Int.tmod_nonneg y hx
    omega
  · have h2 : x.tmod y ≤ 0 := by
      have := Int.tmod_nonneg (a := -x) y (by omega)
      rw [Int.neg_tmod] at this; omega
    omega
theorem bCmp_eq {f : Nat → Nat → Bool} {g : Int → Int → Bool} {k : IntKind} {x y : Int} (h : ∀ a b : Nat, f a b = g a b) : bCmp f g k x y = .ok (.b (g x y)) :=
  nnI_eq (fun a b e1 e2 => by rw [h a b, e1, e2]; rfl) rfl
theorem ble_succ (a b : Nat) : Nat.ble (Nat.succ a) b = decide ((a : Int) < (b : Int)) := by
  rw [Bool.eq_iff_iff, decide_eq_true_eq]
  constructor
  · intro h
    have h1 : a + 1 ≤ b := ble_true h
    omega
  · intro h; exact Nat.ble_eq_true_of_le (by show a + 1 ≤ b; omega)
theorem ble_le (a b : Nat) : Nat.ble a b = decide ((a : Int) ≤ (b : Int)) := by
  rw [Bool.eq_iff_iff, decide_eq_true_eq]
  constructor
  · intro h
    have h1 : a ≤ b := ble_true h
    omega
  · intro h; exact Nat.ble_eq_true_of_le (by omega)
theorem div_in {k : IntKind} {m n : Nat} (h : inK k (Int.ofNat m)) : inK k (Int.ofNat (m / 2 ^ n)) := by
  unfold inK at *
  have h1 : m / 2 ^ n ≤ m := Nat.div_le_self _ _
  have h3 : k.min ≤ 0 := by cases k <;> decide
  have h4 : ((m / 2 ^ n : Nat) : Int) ≤ (m : Int) := by exact_mod_cast h1
  have h5 : (0 : Int) ≤ ((m / 2 ^ n : Nat) : Int) := Int.natCast_nonneg _
  change k.min ≤ (m : Int) ∧ (m : Int) ≤ k.max at h
  show k.min ≤ ((m / 2 ^ n : Nat) : Int) ∧ ((m / 2 ^ n : Nat) : Int) ≤ k.max
  generalize ((m / 2 ^ n : Nat) : Int) = q at *
  omega
theorem kindN_inj {k k' : IntKind} (h : Nat.beq (kindN k) (kindN k') = true) : k = k' := by
  cases k <;> cases k' <;> first | rfl | cases h

theorem nbeq_ne (a b : Nat) : (!(Nat.beq a b)) = ((Int.ofNat a) != (Int.ofNat b)) := by
  by_cases h : a = b
  · subst h; simp
  · have h1 : Nat.beq a b = false := by
      cases hh : Nat.beq a b
      · rfl
      · exact absurd (Nat.eq_of_beq_eq_true hh) h
    have h2 : (Int.ofNat a == Int.ofNat b) = false := by
      rw [beq_eq_false_iff_ne]; intro e; exact h (Int.ofNat.inj e)
    simp only [bne, h1, h2]

theorem binI_spec {op : BinOp} {k k' : IntKind} {a b : Int} {v : V} (t : TypeId) (hv : binI op k a b = .ok v) (ha : inK k a) (hb : inK k' b) (hk : shiftO op = true ∨ k = k') :
    ∃ r, (∀ w, (binOp op t (.int k a) (.int k' b)).run P w = .ok r w) ∧ RV σ ρ v r := by
  cases op with
  | add =>
    obtain rfl := hk.resolve_left (by decide)
    rw [show binI .add k a b = bAdd k a b from rfl, bAdd_eq] at hv; cases hv
    exact ⟨_, fun w => by simp [binOp, Op.intArith], RV_wrap _ _⟩
  | sub =>
    obtain rfl := hk.resolve_left (by decide)
    rw [show binI .sub k a b = bSub k a b from rfl, bSub_eq] at hv; cases hv
    exact ⟨_, fun w => by simp [binOp, Op.intArith], RV_wrap _ _⟩
  | mul =>
    obtain rfl := hk.resolve_left (by decide)
    rw [show binI .mul k a b = bMul k a b from rfl, bMul_eq] at hv; cases hv
    exact ⟨_, fun w => by simp [binOp, Op.intArith], RV_wrap _ _⟩
  | quo =>
    obtain rfl := hk.resolve_left (by decide)
    have hv' : ifB (b == 0) (.err "quo") (.ok (.i k (.lit (wrapI k (a.tdiv b))))) = R.ok v := hv
    rw [ifB_eq] at hv'
    split at hv'
    · cases hv'
    · rename_i hz
      cases hv'
      have hz : b ≠ 0 := by simpa using hz
      exact ⟨.int k (k.wrap (a.tdiv b)), fun w => by simp [binOp, Op.intDiv, hz], by rw [wrapI_eq]; exact RV_wrap _ _⟩
  | rem =>
    obtain rfl := hk.resolve_left (by decide)
    have hv' : ifB (b == 0) (.err "rem") (.ok (.i k (.lit (a.tmod b)))) = R.ok v := hv
    rw [ifB_eq] at hv'
    split at hv'
    · cases hv'
    · rename_i hz
      cases hv'
      have hz : b ≠ 0 := by simpa using hz
      exact ⟨_, fun w => by simp [binOp, Op.intDiv, hz], RV_int (tmod_in ha)⟩
  | and =>
    obtain rfl := hk.resolve_left (by decide)
    cases a with
    | negSucc a => cases hv
    | ofNat a => cases b with
      | negSucc b => cases hv
      | ofNat b =>
        cases hv
        refine ⟨_, fun w => by simp [binOp, Op.intBits]; rfl, ?_⟩
        rw [wrapI_eq]
        have e : ((BitVec.ofInt k.bits (Int.ofNat a) &&& BitVec.ofInt k.bits (Int.ofNat b)).toNat : Int) = Int.ofNat (Nat.land a b) := by
          rw [BitVec.toNat_and, show Int.ofNat a = (a : Int) from rfl, show Int.ofNat b = (b : Int) from rfl, ofInt_nat ha, ofInt_nat hb]; rfl
        rw [← e]
        exact RV_wrap _ _
  | or =>
    obtain rfl := hk.resolve_left (by decide)
    cases a with
    | negSucc a => cases hv
    | ofNat a => cases b with
      | negSucc b => cases hv
      | ofNat b =>
        cases hv
        refine ⟨_, fun w => by simp [binOp, Op.intBits]; rfl, ?_⟩
        rw [wrapI_eq]
        have e : ((BitVec.ofInt k.bits (Int.ofNat a) ||| BitVec.ofInt k.bits (Int.ofNat b)).toNat : Int) = Int.ofNat (Nat.lor a b) := by
          rw [BitVec.toNat_or, show Int.ofNat a = (a : Int) from rfl, show Int.ofNat b = (b : Int) from rfl, ofInt_nat ha, ofInt_nat hb]; rfl
        rw [← e]
        exact RV_wrap _ _
  | xor =>
    obtain rfl := hk.resolve_left (by decide)
    cases a with
    | negSucc a => cases hv
    | ofNat a => cases b with
      | negSucc b => cases hv
      | ofNat b =>
        cases hv
        refine ⟨_, fun w => by simp [binOp, Op.intBits]; rfl, ?_⟩
        rw [wrapI_eq]
        have e : ((BitVec.ofInt k.bits (Int.ofNat a) ^^^ BitVec.ofInt k.bits (Int.ofNat b)).toNat : Int) = Int.ofNat (Nat.xor a b) := by
          rw [BitVec.toNat_xor, show Int.ofNat a = (a : Int) from rfl, show Int.ofNat b = (b : Int) from rfl, ofInt_nat ha, ofInt_nat hb]; rfl
        rw [← e]
        exact RV_wrap _ _
  | andNot => cases hv
  | shl =>
    have hv' : bShl k a b = .ok v := hv
    unfold bShl at hv'
    split at hv'
    · rename_i n
      rw [ifB_eq] at hv'
      split at hv'
      · rename_i hn
        have hn := ble_true hn
        cases hv'
        refine ⟨_, fun w => by simp [binOp, Op.shift, Nat.min_eq_left hn]; rfl, ?_⟩
        rw [wrapI_eq]; exact RV_wrap _ _
      · cases hv'
    · cases hv'
  | shr =>
    have hv' : bShr k a b = .ok v := hv
    unfold bShr at hv'
    split at hv'
    · rename_i m n
      rw [ifB_eq] at hv'
      split at hv'
      · rename_i hn
        have hn := ble_true hn
        cases hv'
        have e : Int.fdiv (Int.ofNat m) (2 ^ n) = Int.ofNat (m / 2 ^ n) := by
          rw [Int.fdiv_eq_ediv_of_nonneg _ (Int.le_of_lt (pow_pos' n))]
          show (m : Int) / (2 : Int) ^ n = ((m / 2 ^ n : Nat) : Int)
          simp
        refine ⟨.int k (Int.ofNat (m / 2 ^ n)), fun w => ?_, RV_int (div_in ha)⟩
        have e2 : binOp .shr t (.int k (Int.ofNat m)) (.int k' (Int.ofNat n)) = pure (.int k ((Int.ofNat m).fdiv (2 ^ (min (Int.ofNat n).toNat k.bits)))) := by
          show Op.shift .shr k (Int.ofNat m) k' (Int.ofNat n) = _
          unfold Op.shift
          rw [if_neg (by simp)]
        rw [e2, show min (Int.ofNat n).toNat k.bits = n from Nat.min_eq_left hn, e]; rfl
      · cases hv'
    · cases hv'
  | eql =>
    obtain rfl := hk.resolve_left (by decide)
    rw [show binI .eql k a b = bCmp Nat.beq (fun x y => x == y) k a b from rfl, bCmp_eq (fun a b => by rw [Bool.eq_iff_iff]; simp <;> omega)] at hv; cases hv
    exact ⟨_, fun w => by simp [binOp, Op.intCmp]; rfl, by simp [RV]⟩
  | neq =>
    obtain rfl := hk.resolve_left (by decide)
    rw [show binI .neq k a b = bCmp (fun a b => !(Nat.beq a b)) (fun x y => x != y) k a b from rfl, bCmp_eq (fun a b => nbeq_ne a b)] at hv; cases hv
    exact ⟨_, fun w => by simp [binOp, Op.intCmp]; rfl, by simp [RV]⟩
  | lss =>
    obtain rfl := hk.resolve_left (by decide)
    rw [show binI .lss k a b = bCmp (fun a b => Nat.ble (Nat.succ a) b) (fun x y => decide (x < y)) k a b from rfl, bCmp_eq (fun a b => ble_succ a b)] at hv; cases hv
    exact ⟨_, fun w => by simp [binOp, Op.intCmp]; rfl, by simp [RV]⟩
  | leq =>
    obtain rfl := hk.resolve_left (by decide)
    rw [show binI .leq k a b = bCmp Nat.ble (fun x y => decide (x ≤ y)) k a b from rfl, bCmp_eq (fun a b => ble_le a b)] at hv; cases hv
    exact ⟨_, fun w => by simp [binOp, Op.intCmp]; rfl, by simp [RV]⟩
  | gtr =>
    obtain rfl := hk.resolve_left (by decide)
    rw [show binI .gtr k a b = bCmp (fun a b => Nat.ble (Nat.succ b) a) (fun x y => decide (y < x)) k a b from rfl, bCmp_eq (fun a b => ble_succ b a)] at hv; cases hv
    exact ⟨_, fun w => by simp [binOp, Op.intCmp]; rfl, by simp [RV]⟩
  | geq =>
    obtain rfl := hk.resolve_left (by decide)
    rw [show binI .geq k a b = bCmp (fun a b => Nat.ble b a) (fun x y => decide (y ≤ x)) k a b from rfl, bCmp_eq (fun a b => ble_le b a)] at hv; cases hv
    exact ⟨_, fun w => by simp [binOp, Op.intCmp]; rfl, by simp [RV]⟩
end Go.Proofs.YtggnhaiohmgflaaGreatDoor.Sx
