/- Regions that draw their order. No conditions. -/
import Derived.Test.YtggnhaiohmgflaaGreatDoorSxC
import Derived.Orders
set_option linter.unusedVariables false
set_option linter.unusedSimpArgs false
namespace Go.Proofs.YtggnhaiohmgflaaGreatDoor.Sx
open Go
variable {call : Nat → CallF}

def DS.t : DS → Env | .mk t _ _ _ _ => t
def DS.h : DS → H | .mk _ h _ _ _ => h
def DS.k : DS → List (Nat × Nat × Ob) | .mk _ _ k _ _ => k
def DS.a : DS → List (Nat × H) | .mk _ _ _ a _ => a
def DS.r : DS → List (Nat × Nat × CO × Env × V) | .mk _ _ _ _ r => r
/-- a step of the executor -/
inductive SF (call : Nat → CallF) (base : Nat) (o : DOp) : DS → DS → V → Prop
  | skip {t h k a r} : guardOk o.op.guard t = some false → SF call base o (.mk t h k a r) (.mk (putV o.op.dst undV t) h k a r) undV
  | pure {t h k a r v h'} : guardOk o.op.guard t = some true → kindO o.op.op = .pure → opV call o.op.op t h = .ok v h' → SF call base o (.mk t h k a r) (.mk (putV o.op.dst v t) h k a r) v
  | read {t h k a r v h'} : guardOk o.op.guard t = some true → kindO o.op.op = .read → opV call o.op.op t (withKept o.bef k h) = .ok v h' → readAhead call o.bef k o.op.op t v a = true →
      SF call base o (.mk t h k a r) (.mk (putV o.op.dst v t) h k a ((o.ix, o.bef, o.op.op, t, v) :: r)) v
  | make {t h k a r v x ob n g} : guardOk o.op.guard t = some true → kindO o.op.op = .make → opV call o.op.op t (.mk .nil (Nat.add base o.ix) .nil) = .ok v (.mk ob n g) → T.get ob (Nat.add base o.ix) = some x →
      SF call base o (.mk t h k a r) (.mk (putV o.op.dst v t) h ((o.ix, Nat.add base o.ix, x) :: k) a r) v
  | act {t h k a r h1 k1 v h2} : guardOk o.op.guard t = some true → kindO o.op.op = .act → chained o.bef a = true → layKept o.bef k h [] = (h1, k1) → opV call o.op.op t h1 = .ok v h2 → readBehind call o.bef k1 h2 r = true →
      SF call base o (.mk t h k a r) (.mk (putV o.op.dst v t) h2 k1 ((o.ix, h1) :: a) r) v
theorem readV_ok {op : CO} {t : Env} {h : H} {v : V} (e : readV call op t h = .ok v) : ∃ h', opV call op t h = .ok v h' := by
  unfold readV at e
  split at e
  · rename_i v' h' hh; cases e; exact ⟨h', hh⟩
  · cases e
theorem dOne_ok {base : Nat} {o : DOp} {s s' : DS} (e : dOne call base o s = .ok s') : ∃ v, SF call base o s s' v := by
  obtain ⟨t, h, k, a, r⟩ := s
  unfold dOne at e
  simp only at e
  split at e
  · cases e
  · rename_i hg
    split at e
    · rename_i hk
      unfold dPure at e
      split at e
      · rename_i v hv
        cases e
        obtain ⟨h', hv⟩ := readV_ok hv
        exact ⟨v, .pure hg hk hv⟩
      · cases e
    · rename_i hk
      unfold dRead at e
      split at e
      · rename_i v hv
        split at e
        · rename_i ha
          cases e
          obtain ⟨h', hv⟩ := readV_ok hv
          exact ⟨v, .read hg hk hv ha⟩
        · cases e
      · cases e
    · rename_i hk
      unfold dMake at e
      split at e
      · rename_i v x hv
        cases e
        unfold madeAt at hv
        split at hv
        · rename_i v' ob n g hh
          split at hv
          · rename_i x' hx
            cases hv
            exact ⟨v, .make hg hk hh hx⟩
          · cases hv
        · cases hv
      · cases e
    · rename_i hk
      unfold dAct at e
      split at e
      · rename_i h1 k1 hc hl
        split at e
        · rename_i v h2 hv
          split at e
          · rename_i hb
            cases e
            exact ⟨v, .act hg hk hc hl hv hb⟩
          · cases e
        · cases e
      · cases e
  · rename_i hg
    cases e
    exact ⟨undV, .skip hg⟩
theorem dAll_trace {base : Nat} : ∀ (l : List DOp) (s s' : DS), dAll call base l s = .ok s' →
    ∃ (S : Nat → DS) (W : Nat → V), S 0 = s ∧ S l.length = s' ∧ ∀ j o, l[j]? = some o → SF call base o (S j) (S (j + 1)) (W j)
  | [], s, s', e => by
    cases e
    exact ⟨fun _ => s, fun _ => undV, rfl, rfl, fun j o h => by simp at h⟩
  | o :: l, s, s', e => by
    have e : DR.rec (motive := fun _ => DR) (dAll call base l) .err (dOne call base o s) = .ok s' := e
    cases hs : dOne call base o s with
    | err m => rw [hs] at e; cases e
    | ok s1 =>
      rw [hs] at e
      obtain ⟨v, hv⟩ := dOne_ok hs
      obtain ⟨S, W, h0, h1, h2⟩ := dAll_trace l s1 s' e
      refine ⟨fun j => match j with | 0 => s | j + 1 => S j, fun j => match j with | 0 => v | j + 1 => W j, rfl, h1, fun j p hp => ?_⟩
      cases j with
      | zero => cases hp; rw [← h0] at hv; exact hv
      | succ j => exact h2 j p hp

/-! what is kept is laid -/
theorem layKept_nil (m : Nat) (h : H) (left : List (Nat × Nat × Ob)) : layKept m [] h left = (h, left) := rfl
theorem layKept_cons (m : Nat) (x : Nat × Nat × Ob) (l : List (Nat × Nat × Ob)) (h : H) (left : List (Nat × Nat × Ob)) :
    layKept m (x :: l) h left = if Nat.testBit m x.1 = true then layKept m l (h.setOb (some x.2.2) x.2.1) left else layKept m l h (x :: left) := by
  have : layKept m (x :: l) h left = Bool.rec (motive := fun _ => H × List (Nat × Nat × Ob)) (layKept m l h (x :: left)) (layKept m l (h.setOb (some x.2.2) x.2.1) left) (Nat.testBit m x.1) := rfl
  rw [this]
  cases Nat.testBit m x.1 <;> rfl
theorem layKept_spec (m : Nat) : ∀ (l : List (Nat × Nat × Ob)) (h : H) (left : List (Nat × Nat × Ob)),
    (layKept m l h left).1.next = h.next ∧ (layKept m l h left).1.grps = h.grps ∧
    (∀ q, q ∈ (layKept m l h left).2 ↔ q ∈ left ∨ (q ∈ l ∧ Nat.testBit m q.1 = false)) ∧
    ∀ n, (∃ q, q ∈ l ∧ Nat.testBit m q.1 = true ∧ q.2.1 = n ∧ (layKept m l h left).1.ob n = some q.2.2) ∨ ((∀ q, q ∈ l → Nat.testBit m q.1 = true → q.2.1 ≠ n) ∧ (layKept m l h left).1.ob n = h.ob n)
  | [], h, left => by
    rw [layKept_nil]
    exact ⟨rfl, rfl, fun q => by simp, fun n => .inr ⟨fun q hq => (by cases hq), rfl⟩⟩
  | x :: l, h, left => by
    rw [layKept_cons]
    split
    · rename_i hb
      obtain ⟨h1, h2, h3, h4⟩ := layKept_spec m l (h.setOb (some x.2.2) x.2.1) left
      refine ⟨h1.trans (H.next_set _ _ _), h2.trans (H.grps_set _ _ _), fun q => ?_, fun n => ?_⟩
      · rw [h3]
        constructor
        · rintro (h5 | ⟨h5, h6⟩)
          · exact .inl h5
          · exact .inr ⟨List.mem_cons_of_mem _ h5, h6⟩
        · rintro (h5 | ⟨h5, h6⟩)
          · exact .inl h5
          · rcases List.mem_cons.1 h5 with rfl | h5
            · rw [hb] at h6; cases h6
            · exact .inr ⟨h5, h6⟩
      · rcases h4 n with ⟨q, g1, g2, g3, g4⟩ | ⟨g1, g2⟩
        · exact .inl ⟨q, List.mem_cons_of_mem _ g1, g2, g3, g4⟩
        · rw [H.ob_set] at g2
          by_cases hn : n = x.2.1
          · rw [if_pos hn] at g2
            exact .inl ⟨x, List.mem_cons_self, hb, hn.symm, g2⟩
          · rw [if_neg hn] at g2
            refine .inr ⟨fun q hq hq2 => ?_, g2⟩
            rcases List.mem_cons.1 hq with rfl | hq
            · exact fun c => hn c.symm
            · exact g1 q hq hq2
    · rename_i hb
      have hb : Nat.testBit m x.1 = false := by simpa using hb
      obtain ⟨h1, h2, h3, h4⟩ := layKept_spec m l h (x :: left)
      refine ⟨h1, h2, fun q => ?_, fun n => ?_⟩
      · rw [h3]
        constructor
        · rintro (h5 | ⟨h5, h6⟩)
          · rcases List.mem_cons.1 h5 with rfl | h5
            · exact .inr ⟨List.mem_cons_self, hb⟩
            · exact .inl h5
          · exact .inr ⟨List.mem_cons_of_mem _ h5, h6⟩
        · rintro (h5 | ⟨h5, h6⟩)
          · exact .inl (List.mem_cons_of_mem _ h5)
          · rcases List.mem_cons.1 h5 with rfl | h5
            · exact .inl List.mem_cons_self
            · exact .inr ⟨h5, h6⟩
      · rcases h4 n with ⟨q, g1, g2, g3, g4⟩ | ⟨g1, g2⟩
        · exact .inl ⟨q, List.mem_cons_of_mem _ g1, g2, g3, g4⟩
        · refine .inr ⟨fun q hq hq2 => ?_, g2⟩
          rcases List.mem_cons.1 hq with rfl | hq
          · rw [hb] at hq2; cases hq2
          · exact g1 q hq hq2
theorem layAll_nil (h : H) : layAll [] h = h := rfl
theorem layAll_cons (x : Nat × Nat × Ob) (l : List (Nat × Nat × Ob)) (h : H) : layAll (x :: l) h = layAll l (h.setOb (some x.2.2) x.2.1) := rfl
theorem layAll_spec : ∀ (l : List (Nat × Nat × Ob)) (h : H), (layAll l h).next = h.next ∧ (layAll l h).grps = h.grps ∧
    ∀ n, (∃ q, q ∈ l ∧ q.2.1 = n ∧ (layAll l h).ob n = some q.2.2) ∨ ((∀ q, q ∈ l → q.2.1 ≠ n) ∧ (layAll l h).ob n = h.ob n)
  | [], h => ⟨rfl, rfl, fun n => .inr ⟨fun q hq => (by cases hq), rfl⟩⟩
  | x :: l, h => by
    rw [layAll_cons]
    obtain ⟨h1, h2, h4⟩ := layAll_spec l (h.setOb (some x.2.2) x.2.1)
    refine ⟨h1.trans (H.next_set _ _ _), h2.trans (H.grps_set _ _ _), fun n => ?_⟩
    rcases h4 n with ⟨q, g1, g3, g4⟩ | ⟨g1, g2⟩
    · exact .inl ⟨q, List.mem_cons_of_mem _ g1, g3, g4⟩
    · rw [H.ob_set] at g2
      by_cases hn : n = x.2.1
      · rw [if_pos hn] at g2
        exact .inl ⟨x, List.mem_cons_self, hn.symm, g2⟩
      · rw [if_neg hn] at g2
        refine .inr ⟨fun q hq => ?_, g2⟩
        rcases List.mem_cons.1 hq with rfl | hq
        · exact fun c => hn c.symm
        · exact g1 q hq
theorem sameRead_ok {bef : Nat} {k : List (Nat × Nat × Ob)} {op : CO} {t : Env} {v : V} {h : H} (e : sameRead call bef k op t v h = true) : ∃ x h', opV call op t (withKept bef k h) = .ok x h' ∧ beqV v x = true := by
  unfold sameRead at e
  split at e
  · rename_i x hx
    obtain ⟨h', hx⟩ := readV_ok hx
    exact ⟨x, h', hx, e⟩
  · cases e
theorem readAhead_ok {bef : Nat} {k : List (Nat × Nat × Ob)} {op : CO} {t : Env} {v : V} : ∀ {acts : List (Nat × H)}, acts.Pairwise (fun x q => Nat.testBit bef x.1 = true → Nat.testBit bef q.1 = true) → readAhead call bef k op t v acts = true →
    ∀ q ∈ acts, Nat.testBit bef q.1 = false → sameRead call bef k op t v q.2 = true
  | [], _, _, q, hq, _ => by cases hq
  | x :: l, hp, e, q, hq, hb => by
    have e : Bool.rec (motive := fun _ => Bool) (Bool.rec (motive := fun _ => Bool) false (readAhead call bef k op t v l) (sameRead call bef k op t v x.2)) true (Nat.testBit bef x.1) = true := e
    obtain ⟨hp1, hp2⟩ := List.pairwise_cons.1 hp
    have hx : Nat.testBit bef x.1 = false := by
      rcases List.mem_cons.1 hq with rfl | hq
      · exact hb
      · cases hx : Nat.testBit bef x.1 with
        | false => rfl
        | true => rw [hp1 q hq hx] at hb; cases hb
    rw [hx] at e
    cases hs : sameRead call bef k op t v x.2 with
    | false => simp only [hs] at e; cases e
    | true =>
      simp only [hs] at e
      rcases List.mem_cons.1 hq with rfl | hq
      · exact hs
      · exact readAhead_ok hp2 e q hq hb
theorem readBehind_ok {bef : Nat} {k : List (Nat × Nat × Ob)} {h : H} : ∀ {reads : List (Nat × Nat × CO × Env × V)}, readBehind call bef k h reads = true → ∀ q ∈ reads, Nat.testBit bef q.1 = false → sameRead call q.2.1 k q.2.2.1 q.2.2.2.1 q.2.2.2.2 h = true
  | [], _, q, hq, _ => by cases hq
  | x :: l, e, q, hq, hb => by
    have e : Bool.rec (motive := fun _ => Bool) (Bool.rec (motive := fun _ => Bool) false (readBehind call bef k h l) (sameRead call x.2.1 k x.2.2.1 x.2.2.2.1 x.2.2.2.2 h)) (readBehind call bef k h l) (Nat.testBit bef x.1) = true := e
    rcases List.mem_cons.1 hq with rfl | hq
    · rw [hb] at e
      cases hs : sameRead call q.2.1 k q.2.2.1 q.2.2.2.1 q.2.2.2.2 h with
      | true => rfl
      | false => simp only [hs] at e; cases e
    · refine readBehind_ok ?_ q hq hb
      cases hx : Nat.testBit bef x.1 with
      | true => simp only [hx] at e; exact e
      | false =>
        simp only [hx] at e
        cases hs : sameRead call x.2.1 k x.2.2.1 x.2.2.2.1 x.2.2.2.2 h with
        | true => simp only [hs] at e; exact e
        | false => simp only [hs] at e; cases e
end Go.Proofs.YtggnhaiohmgflaaGreatDoor.Sx
namespace Go.Proofs.YtggnhaiohmgflaaGreatDoor.Sx
open Go
variable {call : Nat → CallF}

/-- the executor's run over such a region -/
structure Tr (call : Nat → CallF) (base : Nat) (ops : List DOp) (t0 : Env) (h0 : H) (S : Nat → DS) (W : Nat → V) : Prop where
  ix : ∀ (j : Nat) (o : DOp), ops[j]? = some o → o.ix = j
  fine : dregFine ops = true
  stp : ∀ (j : Nat) (o : DOp), ops[j]? = some o → SF call base o (S j) (S (j + 1)) (W j)
  s0 : S 0 = .mk t0 h0 [] [] []

/-- m comes before j -/
def Bef (ops : List DOp) (j m : Nat) : Prop := ∃ o, ops[j]? = some o ∧ Nat.testBit o.bef m = true
def IsK (ops : List DOp) (S : Nat → DS) (k : OK) (j : Nat) : Prop := ∃ o, ops[j]? = some o ∧ guardOk o.op.guard (S j).t = some true ∧ kindO o.op.op = k
/-- the object that i makes -/
def Mk (call : Nat → CallF) (base : Nat) (ops : List DOp) (S : Nat → DS) (W : Nat → V) (i : Nat) (x : Ob) : Prop :=
  ∃ o ob n g, ops[i]? = some o ∧ guardOk o.op.guard (S i).t = some true ∧ kindO o.op.op = .make ∧ opV call o.op.op (S i).t (.mk .nil (base + i) .nil) = .ok (W i) (.mk ob n g) ∧ T.get ob (base + i) = some x
section
variable {base : Nat} {ops : List DOp} {t0 : Env} {h0 : H} {S : Nat → DS} {W : Nat → V}
theorem all_get {α : Type} {l : List α} {p : α → Bool} (h : l.all p = true) {i : Nat} {x : α} (hx : l[i]? = some x) : p x = true := by
  rw [List.all_eq_true] at h
  exact h x (List.mem_of_getElem? hx)
theorem Tr.transD (T : Tr call base ops t0 h0 S W) {j : Nat} {o : DOp} (hj : ops[j]? = some o) : transD ops o = true := by
  have := all_get T.fine hj
  rw [Bool.and_eq_true] at this
  exact this.1
theorem Tr.bef_lt (T : Tr call base ops t0 h0 S W) {j m : Nat} (hb : Bef ops j m) : m < j := by
  obtain ⟨o, hj, hb⟩ := hb
  have := T.transD hj
  unfold Sx.transD at this
  rw [Bool.and_eq_true] at this
  have h1 := blt_lt this.1
  rw [T.ix j o hj] at h1
  refine Nat.lt_of_not_le fun hle => ?_
  have h2 : o.bef < 2 ^ m := Nat.lt_of_lt_of_le h1 (Nat.pow_le_pow_right (by omega) hle)
  rw [Nat.testBit_lt_two_pow h2] at hb
  cases hb
theorem Tr.bef_some (T : Tr call base ops t0 h0 S W) {j m : Nat} (hb : Bef ops j m) : ∃ p, ops[m]? = some p := by
  have hlt := T.bef_lt hb
  obtain ⟨o, hj, _⟩ := hb
  have hl := (List.getElem?_eq_some_iff.1 hj).1
  exact ⟨ops[m], List.getElem?_eq_getElem (by omega)⟩
theorem Tr.trans (T : Tr call base ops t0 h0 S W) {j m i : Nat} (h1 : Bef ops j m) (h2 : Bef ops m i) : Bef ops j i := by
  obtain ⟨o, hj, hb⟩ := h1
  obtain ⟨p, hm, hb2⟩ := h2
  have h3 := T.transD hj
  unfold Sx.transD at h3
  rw [Bool.and_eq_true] at h3
  have h4 := all_get h3.2 hm
  rw [T.ix m p hm, hb] at h4
  have h5 : Nat.lor p.bef o.bef = o.bef := beq_true (by simpa using h4)
  refine ⟨o, hj, ?_⟩
  rw [← h5]
  show Nat.testBit (p.bef ||| o.bef) i = true
  rw [Nat.testBit_or, hb2]; rfl
/-- who writes a variable comes in an order with who knows it -/
theorem Tr.apart (T : Tr call base ops t0 h0 S W) {i j : Nat} {p o : DOp} {d : P3} (hi : ops[i]? = some p) (hj : ops[j]? = some o) (hne : i ≠ j) (hd : p.op.dst = some d) (hn : p3N d ∈ namesOf o.op) :
    (i < j → Bef ops j i) ∧ (j < i → Bef ops i j) := by
  have h1 := all_get T.fine hj
  rw [Bool.and_eq_true] at h1
  have h2 := all_get h1.2 hi
  have has : ∀ {l : List Nat} {n : Nat}, n ∈ l → hasN l n = true := by
    intro l n hm
    induction l with
    | nil => cases hm
    | cons x l ih =>
      unfold hasN
      cases hb : Nat.beq x n with
      | true => rfl
      | false =>
        rcases List.mem_cons.1 hm with rfl | hm
        · rw [Nat.beq_refl] at hb; cases hb
        · exact ih hm
  unfold apartD at h2
  rw [hd] at h2
  simp only [has hn, T.ix i p hi, T.ix j o hj] at h2
  have hb : Nat.beq i j = false := by
    cases hb : Nat.beq i j with
    | false => rfl
    | true => exact absurd (beq_true hb) hne
  rw [hb] at h2
  simp only [ordered, T.ix i p hi, T.ix j o hj] at h2
  constructor
  · intro hlt
    rw [lt_blt hlt] at h2
    exact ⟨o, hj, h2⟩
  · intro hlt
    have hb2 : Nat.blt i j = false := by
      cases hb2 : Nat.blt i j with
      | false => rfl
      | true => have := blt_lt hb2; omega
    rw [hb2] at h2
    exact ⟨p, hi, h2⟩
theorem IsK.unique {k k' : OK} {j : Nat} (h1 : IsK ops S k j) (h2 : IsK ops S k' j) : k = k' := by
  obtain ⟨o, a1, _, a2⟩ := h1
  obtain ⟨p, b1, _, b2⟩ := h2
  rw [a1] at b1; cases b1
  rw [← a2, b2]
theorem Mk.isK {i : Nat} {x : Ob} (h : Mk call base ops S W i x) : IsK ops S .make i := by
  obtain ⟨o, _, _, _, h1, h2, h3, _⟩ := h
  exact ⟨o, h1, h2, h3⟩
theorem Mk.unique {i : Nat} {x y : Ob} (h1 : Mk call base ops S W i x) (h2 : Mk call base ops S W i y) : x = y := by
  obtain ⟨o, ob, n, g, a1, a2, a3, a4, a5⟩ := h1
  obtain ⟨o', ob', n', g', b1, b2, b3, b4, b5⟩ := h2
  rw [a1] at b1; cases b1
  rw [a4] at b4; cases b4
  rw [a5] at b5; cases b5; rfl
/-- a step, by number -/
theorem Tr.step (T : Tr call base ops t0 h0 S W) {j : Nat} {o : DOp} (hj : ops[j]? = some o) : SF call base o (S j) (S (j + 1)) (W j) := T.stp j o hj
theorem Tr.env (T : Tr call base ops t0 h0 S W) {j : Nat} {o : DOp} (hj : ops[j]? = some o) : (S (j + 1)).t = putV o.op.dst (W j) (S j).t := by
  have := T.stp j o hj
  revert this
  generalize S j = s
  generalize S (j + 1) = s'
  generalize W j = v
  intro h
  cases h <;> rfl
/-- what is kept ahead of j -/
theorem Tr.kept (T : Tr call base ops t0 h0 S W) : ∀ j, j ≤ ops.length → ∀ q, q ∈ (S j).k ↔ ∃ i x, q = (i, base + i, x) ∧ i < j ∧ Mk call base ops S W i x ∧ ∀ m, i < m → m < j → IsK ops S .act m → ¬ Bef ops m i := by
  intro j
  induction j with
  | zero =>
    intro _ q
    rw [T.s0]
    constructor
    · intro h; cases h
    · rintro ⟨i, x, _, h, _⟩; omega
  | succ j ih =>
    intro hle q
    have hlt : j < ops.length := hle
    have hj : ops[j]? = some ops[j] := List.getElem?_eq_getElem hlt
    generalize hoo : ops[j] = o at hj
    have hix := T.ix j o hj
    have hs := T.stp j o hj
    have IH := ih (by omega) q
    -- an operation that neither makes nor acts
    have other : ∀ k, IsK ops S k j → k ≠ .make → k ≠ .act → ((∃ i x, q = (i, base + i, x) ∧ i < j ∧ Mk call base ops S W i x ∧ ∀ m, i < m → m < j → IsK ops S .act m → ¬ Bef ops m i) ↔
        ∃ i x, q = (i, base + i, x) ∧ i < j + 1 ∧ Mk call base ops S W i x ∧ ∀ m, i < m → m < j + 1 → IsK ops S .act m → ¬ Bef ops m i) := by
      intro k hk h1 h2
      constructor
      · rintro ⟨i, x, c1, c2, c3, c4⟩
        refine ⟨i, x, c1, by omega, c3, fun m d1 d2 d3 => ?_⟩
        rcases Nat.lt_or_ge m j with hm | hm
        · exact c4 m d1 hm d3
        · have : m = j := by omega
          subst this
          exact absurd (hk.unique d3) h2
      · rintro ⟨i, x, c1, c2, c3, c4⟩
        have : i ≠ j := fun c => by subst c; exact h1 (hk.unique c3.isK)
        exact ⟨i, x, c1, by omega, c3, fun m d1 d2 d3 => c4 m d1 (by omega) d3⟩
    generalize hSj : S j = s at hs IH
    generalize hSj' : S (j + 1) = s' at hs
    generalize hW : W j = v at hs
    cases hs with
    | skip hg =>
      show q ∈ _ ↔ _
      have nk : ∀ k, ¬ IsK ops S k j := by
        rintro k ⟨o', a1, a2, _⟩
        rw [hj] at a1; cases a1
        rw [hSj] at a2
        have a3 : some false = some true := hg.symm.trans a2
        cases a3
      refine Iff.trans IH ⟨?_, ?_⟩
      · rintro ⟨i, x, c1, c2, c3, c4⟩
        refine ⟨i, x, c1, by omega, c3, fun m d1 d2 d3 => ?_⟩
        rcases Nat.lt_or_ge m j with hm | hm
        · exact c4 m d1 hm d3
        · have : m = j := by omega
          subst this
          exact absurd d3 (nk _)
      · rintro ⟨i, x, c1, c2, c3, c4⟩
        have : i ≠ j := fun c => by subst c; exact nk _ c3.isK
        exact ⟨i, x, c1, by omega, c3, fun m d1 d2 d3 => c4 m d1 (by omega) d3⟩
    | pure hg hk he =>
      exact Iff.trans IH (other .pure ⟨o, hj, by rw [hSj]; exact hg, hk⟩ (by simp) (by simp))
    | read hg hk he ha =>
      exact Iff.trans IH (other .read ⟨o, hj, by rw [hSj]; exact hg, hk⟩ (by simp) (by simp))
    | make hg hk he hx =>
      rename_i t h k a r x ob n g
      rw [hix] at he hx
      have hm : Mk call base ops S W j x := ⟨o, ob, n, g, hj, by rw [hSj]; exact hg, hk, by rw [hSj, hW]; exact he, hx⟩
      show q ∈ (o.ix, Nat.add base o.ix, x) :: k ↔ _
      rw [List.mem_cons, hix]
      constructor
      · rintro (rfl | hq)
        · exact ⟨j, x, rfl, by omega, hm, fun m d1 d2 => by omega⟩
        · obtain ⟨i, y, c1, c2, c3, c4⟩ := IH.1 hq
          refine ⟨i, y, c1, by omega, c3, fun m d1 d2 d3 => ?_⟩
          rcases Nat.lt_or_ge m j with hm' | hm'
          · exact c4 m d1 hm' d3
          · have : m = j := by omega
            subst this
            have := d3.unique hm.isK
            cases this
      · rintro ⟨i, y, c1, c2, c3, c4⟩
        by_cases hij : i = j
        · subst hij
          left
          rw [c1, c3.unique hm]; rfl
        · right
          exact IH.2 ⟨i, y, c1, by omega, c3, fun m d1 d2 d3 => c4 m d1 (by omega) d3⟩
    | act hg hk hc hl he hb =>
      rename_i t h k a r h1 k1 h2
      have hact : IsK ops S .act j := ⟨o, hj, by rw [hSj]; exact hg, hk⟩
      have hsp := (layKept_spec o.bef k h []).2.2.1 q
      rw [hl] at hsp
      show q ∈ k1 ↔ _
      rw [hsp]
      constructor
      · rintro (hq | ⟨hq, hq2⟩)
        · cases hq
        · obtain ⟨i, y, c1, c2, c3, c4⟩ := IH.1 hq
          refine ⟨i, y, c1, by omega, c3, fun m d1 d2 d3 => ?_⟩
          rcases Nat.lt_or_ge m j with hm' | hm'
          · exact c4 m d1 hm' d3
          · have : m = j := by omega
            subst this
            rintro ⟨o', e1, e2⟩
            rw [hj] at e1; cases e1
            rw [c1] at hq2
            rw [hq2] at e2; cases e2
      · rintro ⟨i, y, c1, c2, c3, c4⟩
        have hij : i ≠ j := fun c => by subst c; have := c3.isK.unique hact; cases this
        refine .inr ⟨IH.2 ⟨i, y, c1, by omega, c3, fun m d1 d2 d3 => c4 m d1 (by omega) d3⟩, ?_⟩
        cases hbb : Nat.testBit o.bef q.1 with
        | false => rfl
        | true =>
          rw [c1] at hbb
          exact absurd ⟨o, hj, hbb⟩ (c4 j (by omega) (by omega) hact)
end
end Go.Proofs.YtggnhaiohmgflaaGreatDoor.Sx
namespace Go.Proofs.YtggnhaiohmgflaaGreatDoor.Sx
open Go
variable {call : Nat → CallF}
section
variable {base : Nat} {ops : List DOp} {t0 : Env} {h0 : H} {S : Nat → DS} {W : Nat → V}

/-- what a step says of each kind -/
theorem Tr.act (T : Tr call base ops t0 h0 S W) {j : Nat} (ha : IsK ops S .act j) : ∃ o h1 k1 h2, ops[j]? = some o ∧ guardOk o.op.guard (S j).t = some true ∧ kindO o.op.op = .act ∧ chained o.bef (S j).a = true ∧ layKept o.bef (S j).k (S j).h [] = (h1, k1) ∧
    opV call o.op.op (S j).t h1 = .ok (W j) h2 ∧ readBehind call o.bef k1 h2 (S j).r = true ∧ (S (j + 1)).h = h2 ∧ (S (j + 1)).k = k1 ∧ (S (j + 1)).a = (j, h1) :: (S j).a ∧ (S (j + 1)).r = (S j).r := by
  obtain ⟨o, hj, hg, hk⟩ := ha
  have hix := T.ix j o hj
  have hs := T.stp j o hj
  generalize S j = s at hs hg
  generalize S (j + 1) = s' at hs
  generalize W j = v at hs
  cases hs with
  | skip hg' => exact absurd (hg'.symm.trans hg) (by simp)
  | pure _ hk' => rw [hk] at hk'; cases hk'
  | read _ hk' => rw [hk] at hk'; cases hk'
  | make _ hk' => rw [hk] at hk'; cases hk'
  | act _ _ hc hl he hb => exact ⟨o, _, _, _, hj, hg, hk, hc, hl, he, hb, rfl, rfl, by rw [← hix]; rfl, rfl⟩
theorem Tr.nact (T : Tr call base ops t0 h0 S W) {j : Nat} (hj : j < ops.length) (ha : ¬ IsK ops S .act j) : (S (j + 1)).h = (S j).h ∧ (S (j + 1)).a = (S j).a := by
  have hj' : ops[j]? = some ops[j] := List.getElem?_eq_getElem hj
  generalize ops[j] = o at hj'
  have hs := T.stp j o hj'
  generalize hSj : S j = s at hs
  generalize S (j + 1) = s' at hs
  generalize W j = v at hs
  cases hs with
  | skip => exact ⟨rfl, rfl⟩
  | pure => exact ⟨rfl, rfl⟩
  | read => exact ⟨rfl, rfl⟩
  | make => exact ⟨rfl, rfl⟩
  | act hg hk => exact absurd ⟨o, hj', by rw [hSj]; exact hg, hk⟩ ha
theorem Tr.same_h (T : Tr call base ops t0 h0 S W) {i : Nat} : ∀ j, i ≤ j → j ≤ ops.length → (∀ m, i ≤ m → m < j → ¬ IsK ops S .act m) → (S j).h = (S i).h := by
  intro j
  induction j with
  | zero => intro h _ _; have : i = 0 := by omega
            subst this; rfl
  | succ j ih =>
    intro h1 h2 h3
    rcases Nat.lt_or_ge j i with hlt | hge
    · have : i = j + 1 := by omega
      subst this; rfl
    · rw [(T.nact (by omega) (h3 j hge (by omega))).1]
      exact ih hge (by omega) fun m a b => h3 m a (by omega)
/-- who acted: the latest first -/
theorem Tr.acts (T : Tr call base ops t0 h0 S W) : ∀ j, j ≤ ops.length → (∀ q, q ∈ (S j).a → q.1 < j ∧ IsK ops S .act q.1) ∧ (∀ m, m < j → IsK ops S .act m → ∃ o, ops[m]? = some o ∧ (m, (layKept o.bef (S m).k (S m).h []).1) ∈ (S j).a) ∧
    (∀ q l, (S j).a = q :: l → ∀ m, m < j → IsK ops S .act m → m ≤ q.1) := by
  intro j
  induction j with
  | zero =>
    intro _
    rw [T.s0]
    exact ⟨fun q h => (by cases h), fun m h => by omega, fun q l h => by cases h⟩
  | succ j ih =>
    intro hle
    obtain ⟨i1, i2, i3⟩ := ih (by omega)
    by_cases ha : IsK ops S .act j
    · obtain ⟨o, h1, k1, h2, hj, _, _, _, hl, _, _, _, _, e, _⟩ := T.act ha
      rw [e]
      refine ⟨fun q hq => ?_, fun m hm hma => ?_, fun q l hq m hm _ => ?_⟩
      · rcases List.mem_cons.1 hq with rfl | hq
        · exact ⟨by simp, ha⟩
        · obtain ⟨c1, c2⟩ := i1 q hq; exact ⟨by omega, c2⟩
      · rcases Nat.lt_or_ge m j with hlt | hge
        · obtain ⟨o', c1, c2⟩ := i2 m hlt hma
          exact ⟨o', c1, List.mem_cons_of_mem _ c2⟩
        · have : m = j := by omega
          subst this
          refine ⟨o, hj, ?_⟩
          rw [hl]; exact List.mem_cons_self
      · cases hq; simp; omega
    · obtain ⟨_, e⟩ := T.nact (by omega) ha
      rw [e]
      have ne : ∀ m, m < j + 1 → IsK ops S .act m → m < j := fun m hm hma => by
        rcases Nat.lt_or_ge m j with hlt | hge
        · exact hlt
        · have : m = j := by omega
          subst this; exact absurd hma ha
      exact ⟨fun q hq => by obtain ⟨c1, c2⟩ := i1 q hq; exact ⟨by omega, c2⟩, fun m hm hma => i2 m (ne m hm hma) hma, fun q l hq m hm hma => i3 q l hq m (ne m hm hma) hma⟩
/-- those who act come in an order -/
theorem Tr.chain (T : Tr call base ops t0 h0 S W) : ∀ j m, m < j → IsK ops S .act m → IsK ops S .act j → Bef ops j m := by
  intro j
  induction j using Nat.strongRecOn with
  | _ j ih =>
    intro m hm hma hja
    obtain ⟨o, h1, k1, h2, hj, _, _, hc, _⟩ := T.act hja
    have hlt := (List.getElem?_eq_some_iff.1 hj).1
    obtain ⟨a1, a2, a3⟩ := T.acts j (by omega)
    obtain ⟨_, _, hmem⟩ := a2 m hm hma
    cases hA : (S j).a with
    | nil => rw [hA] at hmem; cases hmem
    | cons q l =>
      rw [hA] at hc
      have hb : Bef ops j q.1 := ⟨o, hj, hc⟩
      obtain ⟨q1, q2⟩ := a1 q (by rw [hA]; exact List.mem_cons_self)
      have hle := a3 q l hA m hm hma
      rcases Nat.lt_or_ge m q.1 with h3 | h3
      · exact T.trans hb (ih q.1 q1 m h3 hma q2)
      · have : q.1 = m := by omega
        rw [← this]; exact hb
/-- the list of those who acted falls -/
theorem Tr.falls (T : Tr call base ops t0 h0 S W) : ∀ j, j ≤ ops.length → (S j).a.Pairwise (fun x q => q.1 < x.1 ∧ IsK ops S .act x.1 ∧ IsK ops S .act q.1) := by
  intro j
  induction j with
  | zero => intro _; rw [T.s0]; exact List.Pairwise.nil
  | succ j ih =>
    intro hle
    by_cases ha : IsK ops S .act j
    · obtain ⟨o, h1, k1, h2, hj, _, _, _, hl, _, _, _, _, e, _⟩ := T.act ha
      rw [e]
      refine List.pairwise_cons.2 ⟨fun q hq => ?_, ih (by omega)⟩
      obtain ⟨c1, c2⟩ := (T.acts j (by omega)).1 q hq
      exact ⟨c1, ha, c2⟩
    · rw [(T.nact (by omega) ha).2]
      exact ih (by omega)
theorem Tr.read (T : Tr call base ops t0 h0 S W) {j : Nat} (hr : IsK ops S .read j) : ∃ o h', ops[j]? = some o ∧ guardOk o.op.guard (S j).t = some true ∧ kindO o.op.op = .read ∧ opV call o.op.op (S j).t (withKept o.bef (S j).k (S j).h) = .ok (W j) h' ∧
    readAhead call o.bef (S j).k o.op.op (S j).t (W j) (S j).a = true ∧ (S (j + 1)).r = (j, o.bef, o.op.op, (S j).t, W j) :: (S j).r := by
  obtain ⟨o, hj, hg, hk⟩ := hr
  have hix := T.ix j o hj
  have hs := T.stp j o hj
  generalize S j = s at hs hg
  generalize S (j + 1) = s' at hs
  generalize W j = v at hs
  cases hs with
  | skip hg' => exact absurd (hg'.symm.trans hg) (by simp)
  | pure _ hk' => rw [hk] at hk'; cases hk'
  | make _ hk' => rw [hk] at hk'; cases hk'
  | act _ hk' => rw [hk] at hk'; cases hk'
  | read _ _ he ha => exact ⟨o, _, hj, hg, hk, he, ha, by rw [← hix]; rfl⟩
theorem Tr.nread (T : Tr call base ops t0 h0 S W) {j : Nat} (hj : j < ops.length) : ∃ l, (S (j + 1)).r = l ++ (S j).r := by
  have hj' : ops[j]? = some ops[j] := List.getElem?_eq_getElem hj
  generalize ops[j] = o at hj'
  have hs := T.stp j o hj'
  generalize S j = s at hs
  generalize S (j + 1) = s' at hs
  generalize W j = v at hs
  cases hs with
  | read => exact ⟨[_], rfl⟩
  | _ => exact ⟨[], rfl⟩
theorem Tr.reads (T : Tr call base ops t0 h0 S W) {i : Nat} (hi : IsK ops S .read i) : ∃ o, ops[i]? = some o ∧ ∀ j, i < j → j ≤ ops.length → (i, o.bef, o.op.op, (S i).t, W i) ∈ (S j).r := by
  obtain ⟨o, h', hi', _, _, _, _, e⟩ := T.read hi
  refine ⟨o, hi', fun j => ?_⟩
  induction j with
  | zero => intro h; omega
  | succ j ih =>
    intro h1 h2
    by_cases hij : i = j
    · subst hij; rw [e]; exact List.mem_cons_self
    · obtain ⟨l, hl⟩ := T.nread (j := j) (by omega)
      rw [hl]
      exact List.mem_append.2 (.inr (ih (by omega) (by omega)))

/-- what has been laid by those who acted ahead of p -/
def Laid (ops : List DOp) (S : Nat → DS) (p i : Nat) : Prop := ∃ m, m < p ∧ IsK ops S .act m ∧ Bef ops m i
/-- p cuts those who acted -/
structure Cut (ops : List DOp) (S : Nat → DS) (D : Nat → Bool) (p : Nat) : Prop where
  lo : ∀ m, m < p → IsK ops S .act m → D m = true
  hi : ∀ m, p ≤ m → IsK ops S .act m → D m = false
  le : p ≤ ops.length
/-- made, done and not laid -/
def Extra (call : Nat → CallF) (base : Nat) (ops : List DOp) (S : Nat → DS) (W : Nat → V) (D : Nat → Bool) (p i : Nat) (x : Ob) : Prop := D i = true ∧ Mk call base ops S W i x ∧ ¬ Laid ops S p i
theorem withKept_spec (bef : Nat) (k : List (Nat × Nat × Ob)) (h : H) (n : Nat) : (∃ q, q ∈ k ∧ Nat.testBit bef q.1 = true ∧ q.2.1 = n ∧ (withKept bef k h).ob n = some q.2.2) ∨ (withKept bef k h).ob n = h.ob n := by
  rcases (layKept_spec bef k h []).2.2.2 n with h1 | ⟨_, h1⟩
  · exact .inl h1
  · exact .inr h1
/-- whatever was done: the same is read -/
theorem Tr.read_any (T : Tr call base ops t0 h0 S W) {D : Nat → Bool} {p j : Nat} {o : DOp} (hD : ∀ i, D i = true → ∀ m, Bef ops i m → D m = true) (hp : Cut ops S D p) (hj : ops[j]? = some o) (hr : IsK ops S .read j) (hb : ∀ m, Bef ops j m → D m = true) (hn : D j = false) :
    ∃ Hr x h', opV call o.op.op (S j).t Hr = .ok x h' ∧ (∀ (σ : Nat → Int) (ρ : Rho) (v : Value), RV σ ρ x v → RV σ ρ (W j) v) ∧
      ∀ n, Hr.ob n = (S p).h.ob n ∨ (∃ i x, Extra call base ops S W D p i x ∧ n = base + i ∧ Hr.ob n = some x) ∨ ∃ i x, Mk call base ops S W i x ∧ D i = false ∧ n = base + i := by
  obtain ⟨o', h', hj', hg, hk, he, hah, hrr⟩ := T.read hr
  rw [hj] at hj'; cases hj'
  have hlt := (List.getElem?_eq_some_iff.1 hj).1
  have njact : ¬ IsK ops S .act j := fun c => by have := hr.unique c; cases this
  have nbef : ∀ m, D m = true → ∀ {om : DOp}, ops[m]? = some om → Nat.testBit om.bef j = false := by
    intro m hm om hom
    cases hc : Nat.testBit om.bef j with
    | false => rfl
    | true => have := hD m hm j ⟨om, hom, hc⟩; rw [hn] at this; cases this
  -- what was kept ahead of j, and comes before j
  have keptj : ∀ q, q ∈ (S j).k → Nat.testBit o.bef q.1 = true → (∀ m, m < p → IsK ops S .act m → m < j) → ∃ i x, Extra call base ops S W D p i x ∧ q.2.1 = base + i ∧ q.2.2 = x := by
    intro q hq hqb hpj
    obtain ⟨i, x, rfl, c2, c3, c4⟩ := (T.kept j (by omega) q).1 hq
    refine ⟨i, x, ⟨hb i ⟨o, hj, hqb⟩, c3, ?_⟩, rfl, rfl⟩
    rintro ⟨m, d1, d2, d3⟩
    exact c4 m (T.bef_lt d3) (hpj m d1 d2) d2 d3
  by_cases hA : ∃ m, m < j ∧ IsK ops S .act m ∧ D m = false
  · -- ahead of one that acted before j and is not done
    obtain ⟨m, ⟨hmj, hma, hmD⟩, hleast⟩ : ∃ m, (m < j ∧ IsK ops S .act m ∧ D m = false) ∧ ∀ m', m' < m → ¬ (m' < j ∧ IsK ops S .act m' ∧ D m' = false) := by
      obtain ⟨m0, hm0⟩ := hA
      induction m0 using Nat.strongRecOn with
      | _ m0 ih =>
        by_cases hx : ∃ m', m' < m0 ∧ (m' < j ∧ IsK ops S .act m' ∧ D m' = false)
        · obtain ⟨m', c1, c2⟩ := hx
          exact ih m' c1 c2
        · exact ⟨m0, hm0, fun m' c1 c2 => hx ⟨m', c1, c2⟩⟩
    have hpm : p ≤ m := by
      refine Nat.le_of_not_lt fun c => ?_
      have := hp.lo m c hma
      rw [hmD] at this; cases this
    have hno : ∀ m', p ≤ m' → m' < m → ¬ IsK ops S .act m' := fun m' c1 c2 c3 => hleast m' c2 ⟨by omega, c3, hp.hi m' c1 c3⟩
    have hSm : (S m).h = (S p).h := T.same_h m hpm (by omega) hno
    have hmb : Nat.testBit o.bef m = false := by
      cases hc : Nat.testBit o.bef m with
      | false => rfl
      | true => have := hb m ⟨o, hj, hc⟩; rw [hmD] at this; cases this
    obtain ⟨om, hom, hmem⟩ := (T.acts j (by omega)).2.1 m hmj hma
    have hpw : (S j).a.Pairwise (fun x q => Nat.testBit o.bef x.1 = true → Nat.testBit o.bef q.1 = true) := by
      refine (T.falls j (by omega)).imp fun {x q} c hx => ?_
      obtain ⟨c1, c2, c3⟩ := c
      obtain ⟨o2, d1, d2⟩ := T.trans ⟨o, hj, hx⟩ (T.chain x.1 q.1 c1 c3 c2)
      rw [hj] at d1; cases d1
      exact d2
    obtain ⟨x, hx', e1, e2⟩ := sameRead_ok (readAhead_ok hpw hah _ hmem hmb)
    refine ⟨_, x, hx', e1, fun _ _ _ hv => beqV_spec e2 hv, fun n => ?_⟩
    rcases withKept_spec o.bef (S j).k (layKept om.bef (S m).k (S m).h []).1 n with ⟨q, q1, q2, q3, q4⟩ | q1
    · obtain ⟨i, y, c1, c2, c3⟩ := keptj q q1 q2 (fun m' d1 _ => by omega)
      exact .inr (.inl ⟨i, y, c1, by rw [← q3]; exact c2, by rw [q4, c3]⟩)
    · rw [q1]
      rcases (layKept_spec om.bef (S m).k (S m).h []).2.2.2 n with ⟨q, g1, g2, g3, g4⟩ | ⟨_, g4⟩
      · obtain ⟨i, y, rfl, c2, c3, c4⟩ := (T.kept m (by omega) q).1 g1
        cases hDi : D i with
        | false => exact .inr (.inr ⟨i, y, c3, hDi, g3.symm⟩)
        | true =>
          refine .inr (.inl ⟨i, y, ⟨hDi, c3, ?_⟩, g3.symm, g4⟩)
          rintro ⟨m', d1, d2, d3⟩
          exact c4 m' (T.bef_lt d3) (by omega) d2 d3
      · exact .inl (by rw [g4, hSm])
  · by_cases hB : ∃ m, j < m ∧ m < p ∧ IsK ops S .act m
    · -- behind the latest that is done, which acted behind j
      obtain ⟨m, ⟨hjm, hmp, hma⟩, hlast⟩ : ∃ m, (j < m ∧ m < p ∧ IsK ops S .act m) ∧ ∀ m', m < m' → ¬ (m' < p ∧ IsK ops S .act m') := by
        obtain ⟨m0, hm0⟩ := hB
        have key : ∀ d m0, p - m0 = d → (j < m0 ∧ m0 < p ∧ IsK ops S .act m0) → ∃ m, (j < m ∧ m < p ∧ IsK ops S .act m) ∧ ∀ m', m < m' → ¬ (m' < p ∧ IsK ops S .act m') := by
          intro d
          induction d using Nat.strongRecOn with
          | _ d ih =>
            intro m0 hd hm0
            by_cases hx : ∃ m', m0 < m' ∧ (m' < p ∧ IsK ops S .act m')
            · obtain ⟨m', c1, c2, c3⟩ := hx
              exact ih (p - m') (by omega) m' rfl ⟨by omega, c2, c3⟩
            · exact ⟨m0, hm0, fun m' c1 c2 => hx ⟨m', c1, c2⟩⟩
        exact key _ m0 rfl hm0
      have hple := hp.le
      obtain ⟨om, h1, k1, h2, hom, _, _, _, hl, _, hbh, eh, ek, _, _⟩ := T.act hma
      have hS : (S p).h = h2 := by
        rw [← eh]
        exact T.same_h p (by omega) hple fun m' c1 c2 c3 => hlast m' (by omega) ⟨c2, c3⟩
      obtain ⟨o2, ho2, hreads⟩ := T.reads hr
      rw [hj] at ho2; cases ho2
      have hmD := hp.lo m hmp hma
      obtain ⟨x, hx', e1, e2⟩ := sameRead_ok (readBehind_ok hbh _ (hreads m hjm (by omega)) (nbef m hmD hom))
      refine ⟨_, x, hx', e1, fun _ _ _ hv => beqV_spec e2 hv, fun n => ?_⟩
      rcases withKept_spec o.bef k1 h2 n with ⟨q, q1, q2, q3, q4⟩ | q1
      · rw [← ek] at q1
        obtain ⟨i, y, rfl, c2, c3, c4⟩ := (T.kept (m + 1) (by omega) q).1 q1
        refine .inr (.inl ⟨i, y, ⟨hb i ⟨o, hj, q2⟩, c3, ?_⟩, q3.symm, q4⟩)
        rintro ⟨m', d1, d2, d3⟩
        refine c4 m' (T.bef_lt d3) ?_ d2 d3
        refine Nat.lt_of_not_le fun c => hlast m' (by omega) ⟨d1, d2⟩
      · exact .inl (by rw [q1, hS])
    · -- as it was read
      have hlt2 : ∀ m, m < p → IsK ops S .act m → m < j := by
        intro m c1 c2
        refine Nat.lt_of_not_le fun c => ?_
        rcases Nat.lt_or_ge j m with c3 | c3
        · exact hB ⟨m, c3, c1, c2⟩
        · have : m = j := by omega
          subst this; exact njact c2
      have hS : (S j).h = (S p).h := by
        rcases Nat.le_total p j with hpj | hpj
        · exact T.same_h j hpj (by omega) fun m' c1 c2 c3 => hA ⟨m', c2, c3, hp.hi m' c1 c3⟩
        · exact (T.same_h p hpj hp.le fun m' c1 c2 c3 => by have := hlt2 m' c2 c3; omega).symm
      refine ⟨_, W j, h', he, fun _ _ _ hv => hv, fun n => ?_⟩
      rcases withKept_spec o.bef (S j).k (S j).h n with ⟨q, q1, q2, q3, q4⟩ | q1
      · obtain ⟨i, y, c1, c2, c3⟩ := keptj q q1 q2 hlt2
        exact .inr (.inl ⟨i, y, c1, by rw [← q3]; exact c2, by rw [q4, c3]⟩)
      · exact .inl (by rw [q1, hS])
end
end Go.Proofs.YtggnhaiohmgflaaGreatDoor.Sx
namespace Go.Proofs.YtggnhaiohmgflaaGreatDoor.Sx
open Go
variable {call : Nat → CallF} {σ : Nat → Int} {ρ ρ' : Rho} {h h' : H} {w w' : World} {P : Program}
section
variable {base : Nat} {ops : List DOp} {t0 : Env} {h0 : H} {S : Nat → DS} {W : Nat → V}

/-- the variables where what D tells was done -/
noncomputable def envOn (ops : List DOp) (t0 : Env) (W : Nat → V) (D : Nat → Bool) : Nat → Env
  | 0 => t0
  | m + 1 => match ops[m]?, D m with
    | some o, true => putV o.op.dst (W m) (envOn ops t0 W D m)
    | _, _ => envOn ops t0 W D m
def Writes (ops : List DOp) (i : Nat) (p : P3) : Prop := ∃ o, ops[i]? = some o ∧ o.op.dst = some p
theorem get_putV (p : P3) (d : Option P3) (v : V) (t : Env) : Env.get p (putV d v t) = if d = some p then v else Env.get p t := by
  cases d with
  | none => rw [putV_none]; simp
  | some q =>
    rw [putV_some, Env.get_set]
    by_cases e : p = q
    · subst e; simp
    · rw [if_neg e, if_neg (fun c => e (Option.some.inj c).symm)]
theorem envOn_done {D : Nat → Bool} {m : Nat} {o : DOp} (ho : ops[m]? = some o) (hd : D m = true) : envOn ops t0 W D (m + 1) = putV o.op.dst (W m) (envOn ops t0 W D m) := by
  show (match ops[m]?, D m with | some o, true => putV o.op.dst (W m) (envOn ops t0 W D m) | _, _ => envOn ops t0 W D m) = _
  rw [ho, hd]
theorem envOn_not {D : Nat → Bool} {m : Nat} (hd : D m = false) : envOn ops t0 W D (m + 1) = envOn ops t0 W D m := by
  show (match ops[m]?, D m with | some o, true => putV o.op.dst (W m) (envOn ops t0 W D m) | _, _ => envOn ops t0 W D m) = _
  rw [hd]
  cases ops[m]? <;> rfl
theorem envOn_same {D D' : Nat → Bool} {p : P3} : ∀ m, m ≤ ops.length → (∀ i, i < m → Writes ops i p → D i = D' i) → Env.get p (envOn ops t0 W D m) = Env.get p (envOn ops t0 W D' m) := by
  intro m
  induction m with
  | zero => intro _ _; rfl
  | succ m ih =>
    intro hl hs
    have IH := ih (by omega) fun i hi => hs i (by omega)
    have hm : ops[m]? = some ops[m] := List.getElem?_eq_getElem (by omega)
    by_cases hw : ops[m].op.dst = some p
    · have e := hs m (by omega) ⟨_, hm, hw⟩
      cases hd : D m with
      | false => rw [envOn_not hd, envOn_not (e ▸ hd)]; exact IH
      | true => rw [envOn_done hm hd, envOn_done hm (e ▸ hd), get_putV, get_putV, if_pos hw, if_pos hw]
    · have key : ∀ D : Nat → Bool, Env.get p (envOn ops t0 W D (m + 1)) = Env.get p (envOn ops t0 W D m) := by
        intro D
        cases hd : D m with
        | false => rw [envOn_not hd]
        | true => rw [envOn_done hm hd, get_putV, if_neg hw]
      rw [key, key]; exact IH
/-- the variables ahead of j -/
theorem Tr.ahead (T : Tr call base ops t0 h0 S W) {j : Nat} (hj : j ≤ ops.length) : ∀ m, j ≤ m → m ≤ ops.length → envOn ops t0 W (fun i => decide (i < j)) m = (S j).t := by
  have lo : ∀ m, m ≤ j → envOn ops t0 W (fun i => decide (i < j)) m = (S m).t := by
    intro m
    induction m with
    | zero => intro _; rw [T.s0]; rfl
    | succ m ih =>
      intro hm
      have hmo : ops[m]? = some ops[m] := List.getElem?_eq_getElem (by omega)
      rw [envOn_done hmo (by simp; omega), ih (by omega), T.env hmo]
  intro m
  induction m with
  | zero => intro h1 _; have : j = 0 := by omega
            subst this; exact lo 0 (Nat.le_refl _)
  | succ m ih =>
    intro h1 h2
    rcases Nat.lt_or_ge m j with hlt | hge
    · have : j = m + 1 := by omega
      subst this; exact lo _ (Nat.le_refl _)
    · rw [envOn_not (by simp; omega)]
      exact ih hge (by omega)
theorem envOn_last {D : Nat → Bool} {p : P3} {j : Nat} {o : DOp} (hj : ops[j]? = some o) (hw : o.op.dst = some p) (hd : D j = true) : ∀ m, j < m → m ≤ ops.length → (∀ i, j < i → i < m → Writes ops i p → D i = false) → Env.get p (envOn ops t0 W D m) = W j := by
  intro m
  induction m with
  | zero => intro h; omega
  | succ m ih =>
    intro h1 h2 h3
    by_cases hmj : m = j
    · subst hmj
      rw [envOn_done hj hd, get_putV, if_pos hw]
    · have IH := ih (by omega) (by omega) fun i a b => h3 i a (by omega)
      have hmo : ops[m]? = some ops[m] := List.getElem?_eq_getElem (by omega)
      cases hD : D m with
      | false => rw [envOn_not hD]; exact IH
      | true =>
        rw [envOn_done hmo hD, get_putV, if_neg ?_]
        · exact IH
        · intro c
          rw [h3 m (by omega) (by omega) ⟨_, hmo, c⟩] at hD
          cases hD
/-- what j knows is as it was ahead of j -/
theorem Tr.knows (T : Tr call base ops t0 h0 S W) {D : Nat → Bool} {j : Nat} {o : DOp} (hD : ∀ i, D i = true → ∀ m, Bef ops i m → D m = true) (hj : ops[j]? = some o) (hn : D j = false) (hb : ∀ m, Bef ops j m → D m = true)
    {p : P3} (hp : p3N p ∈ namesOf o.op) : Env.get p (envOn ops t0 W D ops.length) = Env.get p (S j).t := by
  have hlt := (List.getElem?_eq_some_iff.1 hj).1
  rw [← T.ahead (j := j) (by omega) ops.length (by omega) (Nat.le_refl _)]
  refine envOn_same _ (Nat.le_refl _) fun i hi hw => ?_
  obtain ⟨q, hq, hd⟩ := hw
  by_cases hij : i = j
  · subst hij; rw [hn]; simp
  · obtain ⟨a1, a2⟩ := T.apart hq hj hij hd hp
    rcases Nat.lt_or_ge i j with hlt' | hge
    · rw [hb i (a1 hlt')]; simp [hlt']
    · have h1 := a2 (by omega)
      have : D i = false := by
        cases hDi : D i with
        | false => rfl
        | true => rw [hD i hDi j h1] at hn; cases hn
      rw [this]; simp; omega
theorem mem_names_dst {o : COp} {p : P3} (h : o.dst = some p) : p3N p ∈ namesOf o := by
  unfold namesOf
  rw [h]
  simp
theorem mem_names_guard {o : COp} {g : P3 × Bool} (h : o.guard = some g) : p3N g.1 ∈ namesOf o := by
  unfold namesOf
  rw [h]
  simp
theorem mem_names_opd {o : COp} {p : P3} (h : Opd.v p ∈ coOpds o.op) : p3N p ∈ namesOf o := by
  unfold namesOf
  refine List.mem_append.2 (.inr ?_)
  exact List.mem_filterMap.2 ⟨.v p, h, rfl⟩
theorem Tr.knows_op (T : Tr call base ops t0 h0 S W) {D : Nat → Bool} {j : Nat} {o : DOp} (hD : ∀ i, D i = true → ∀ m, Bef ops i m → D m = true) (hj : ops[j]? = some o) (hn : D j = false) (hb : ∀ m, Bef ops j m → D m = true) (h : H) :
    opV call o.op.op (envOn ops t0 W D ops.length) h = opV call o.op.op (S j).t h := by
  refine opV_same _ (fun x hx => ?_) h
  cases x with
  | c v => rfl
  | v p => exact T.knows hD hj hn hb (mem_names_opd hx)
theorem Tr.knows_guard (T : Tr call base ops t0 h0 S W) {D : Nat → Bool} {j : Nat} {o : DOp} (hD : ∀ i, D i = true → ∀ m, Bef ops i m → D m = true) (hj : ops[j]? = some o) (hn : D j = false) (hb : ∀ m, Bef ops j m → D m = true) :
    guardOk o.op.guard (envOn ops t0 W D ops.length) = guardOk o.op.guard (S j).t := by
  cases hg : o.op.guard with
  | none => rfl
  | some g =>
    show guard2 g _ = guard2 g _
    unfold guard2
    rw [T.knows hD hj hn hb (mem_names_guard hg)]
/-- j is done: its value is put -/
theorem Tr.put (T : Tr call base ops t0 h0 S W) {D D' : Nat → Bool} {j : Nat} {o : DOp} (hD : ∀ i, D i = true → ∀ m, Bef ops i m → D m = true) (hj : ops[j]? = some o) (hn : D j = false) (hb : ∀ m, Bef ops j m → D m = true)
    (hD' : ∀ i, D' i = if i = j then true else D i) (p : P3) : Env.get p (envOn ops t0 W D' ops.length) = Env.get p (putV o.op.dst (W j) (envOn ops t0 W D ops.length)) := by
  have hlt := (List.getElem?_eq_some_iff.1 hj).1
  rw [get_putV]
  by_cases hw : o.op.dst = some p
  · rw [if_pos hw]
    refine envOn_last hj hw (by rw [hD', if_pos rfl]) _ hlt (Nat.le_refl _) fun i h1 h2 h3 => ?_
    obtain ⟨q, hq, hd⟩ := h3
    obtain ⟨_, a2⟩ := T.apart hq hj (by omega) hd (mem_names_dst hw)
    rw [hD', if_neg (by omega)]
    cases hDi : D i with
    | false => rfl
    | true => rw [hD i hDi j (a2 h1)] at hn; cases hn
  · rw [if_neg hw]
    refine envOn_same _ (Nat.le_refl _) fun i hi h3 => ?_
    obtain ⟨q, hq, hd⟩ := h3
    rw [hD', if_neg]
    intro c
    subst c
    rw [hj] at hq; cases hq
    exact hw hd
end
theorem RT.congr {nt : Nat} {t t' : Env} {a : Act} (g : RT σ ρ nt t a) (e : ∀ p, Env.get p t' = Env.get p t) : RT σ ρ nt t' a :=
  ⟨g.size, g.lim, g.defers, fun x hx => by rw [e]; exact g.rel x hx⟩

/-! memory -/
/-- objects beside those that an operation had -/
theorem RH.frame {H1 H2 h1 h2 : H} (gH : RH σ ρ H1 w) (g2 : RH σ ρ' h2 w') (st : Step ρ h1 w ρ' h2 w') (less : ∀ n y, h1.ob n = some y → H1.ob n = some y) (hnext : h1.next = H1.next)
    (E : Nat → Option Ob) (hE : ∀ n y, E n = some y → H1.ob n = some y ∧ h1.ob n = none) (hg : ∀ n r, E n = some (.row r) → r.grp = 0)
    (hob : ∀ n, H2.ob n = match E n with | some y => some y | none => h2.ob n) (hn2 : H2.next = h2.next) (hg2 : H2.grps = h2.grps) :
    RH σ ρ' H2 w' ∧ Step ρ H1 w ρ' H2 w' := by
  have hE3 : ∀ n y, E n = some y → n < H1.next := by
    intro n y e
    refine Nat.lt_of_not_le fun c => ?_
    have := (hE n y e).1
    rw [gH.next n c] at this; cases this
  have hext : Ext ρ ρ' := by
    intro i L hi
    rcases Nat.lt_or_ge i h1.next with hlt | hge
    · rw [st.ext i hlt]; exact hi
    · rw [gH.dom i (by omega)] at hi; cases hi
  have hlive1 : ∀ b, Live ρ h1 b → Live ρ H1 b := by
    rintro b ⟨i, o, L, k1, k2, k3⟩
    exact ⟨i, o, L, less i o k1, k2, k3⟩
  -- the block of an object beside
  have apart : ∀ n y L, E n = some y → ρ n = some L → L.b < w.heap.size ∧ ¬ Live ρ h1 L.b := by
    intro n y L e hL
    obtain ⟨e1, e2⟩ := hE n y e
    refine ⟨Live.lt gH ⟨n, y, L, e1, hL, rfl⟩, ?_⟩
    rintro ⟨i, o, M, k1, k2, k3⟩
    have hni : n ≠ i := fun c => by subst c; rw [e2] at k1; cases k1
    obtain ⟨r, s, c1, c2, c3, c4, c5⟩ := gH.sep n i y o L M hni e1 (less i o k1) hL k2 k3.symm
    subst c1
    exact c4 (hg n r e)
  have keepb : ∀ n y L, E n = some y → ρ n = some L → w'.heap[L.b]? = w.heap[L.b]? := fun n y L e hL => st.fr _ (apart n y L e hL).1 (apart n y L e hL).2
  have split : ∀ n y, H2.ob n = some y → E n = some y ∨ (E n = none ∧ h2.ob n = some y) := by
    intro n y e
    rw [hob] at e
    cases hEn : E n with
    | some z => rw [hEn] at e; cases e; exact .inl rfl
    | none => rw [hEn] at e; exact .inr ⟨rfl, e⟩
  have rho : ∀ n y, E n = some y → ρ' n = ρ n := fun n y e => st.ext n (by rw [hnext]; exact hE3 n y e)
  constructor
  · refine ⟨fun i r hi => ?_, fun i es hi => ?_, fun i j x y K M hij hi hj hK hM hKM => ?_, fun i r hi hr => ?_, fun i r hi => ?_, fun i hi => ?_, fun i hi => ?_, ?_⟩
    · rcases split _ _ hi with e | ⟨_, e⟩
      · obtain ⟨L, h3, h4⟩ := gH.row i r (hE _ _ e).1
        refine ⟨L, hext _ _ h3, ?_⟩
        obtain ⟨c, el, fr, b1, b2, b3, b4⟩ := h4.blk
        exact ⟨h4.fits, h4.one, c, el, fr, by rw [keepb _ _ _ e h3]; exact b1, b2, b3, RVs.mono hext _ _ b4⟩
      · exact g2.row i r e
    · rcases split _ _ hi with e | ⟨_, e⟩
      · obtain ⟨L, h3, es', clk, h4, h5⟩ := gH.map i es (hE _ _ e).1
        exact ⟨L, hext _ _ h3, es', clk, by rw [keepb _ _ _ e h3]; exact h4, h5.mono hext⟩
      · exact g2.map i es e
    · rcases split _ _ hi with e1 | ⟨_, e1⟩
      · rw [rho _ _ e1] at hK
        rcases split _ _ hj with e2 | ⟨_, e2⟩
        · rw [rho _ _ e2] at hM
          exact gH.sep i j x y K M hij (hE _ _ e1).1 (hE _ _ e2).1 hK hM hKM
        · exfalso
          obtain ⟨c1, c2⟩ := apart _ _ _ e1 hK
          rcases st.new M.b ⟨j, y, M, e2, hM, rfl⟩ with c3 | c3
          · omega
          · rw [hKM] at c2; exact c2 c3
      · rcases split _ _ hj with e2 | ⟨_, e2⟩
        · exfalso
          rw [rho _ _ e2] at hM
          obtain ⟨c1, c2⟩ := apart _ _ _ e2 hM
          rcases st.new K.b ⟨i, x, K, e1, hK, rfl⟩ with c3 | c3
          · omega
          · rw [← hKM] at c2; exact c2 c3
        · exact g2.sep i j x y K M hij e1 e2 hK hM hKM
    · rw [hg2]
      rcases split _ _ hi with e | ⟨_, e⟩
      · exact absurd (hg _ _ e) hr
      · exact g2.grp i r e hr
    · rw [hn2]
      rcases split _ _ hi with e | ⟨_, e⟩
      · rw [hg _ _ e]; exact g2.pos
      · exact g2.gnext i r e
    · rw [hn2] at hi
      cases ho : H2.ob i with
      | none => rfl
      | some y =>
        rcases split _ _ ho with e | ⟨_, e⟩
        · have := hE3 _ _ e
          have := st.next
          omega
        · rw [g2.next i hi] at e; cases e
    · rw [hn2] at hi; exact g2.dom i hi
    · rw [hn2]; exact g2.pos
  · refine ⟨fun i hi => st.ext i (by omega), by rw [hn2, ← hnext]; exact st.next, fun b hb hl => st.fr b hb fun c => hl (hlive1 b c), fun b hb => ?_, st.size, fun n hn e => ?_, st.tape, st.os, st.out⟩
    · obtain ⟨i, o, L, k1, k2, k3⟩ := hb
      rcases split _ _ k1 with e | ⟨_, e⟩
      · rw [rho _ _ e] at k2
        exact .inr ⟨i, o, L, (hE _ _ e).1, k2, k3⟩
      · rcases st.new b ⟨i, o, L, e, k2, k3⟩ with c | c
        · exact .inl c
        · exact .inr (hlive1 b c)
    · rw [hob]
      cases hEn : E n with
      | some y => rw [(hE _ _ hEn).1] at e; cases e
      | none =>
        refine st.keep n (by omega) ?_
        cases hx : h1.ob n with
        | none => rfl
        | some y => rw [less n y hx] at e; cases e
/-- an object under a number that was kept for it -/
theorem RH.made {H1 : H} {n : Nat} {x : Ob} {L : Loc} {o : Obj} {ρ0 : Rho} {hh : H} {w0 : World} (g : RH σ ρ H1 w) (st : Step ρ0 hh w0 ρ H1 w) (hn : n < H1.next) (hhn : hh.next ≤ n) (hρ : ρ n = none) (hb : L.b = w.heap.size) (hw : w'.heap = w.heap.push o)
    (e1 : w'.tape = w.tape) (e2 : w'.os = w.os) (e3 : w'.output = w.output) (ho : ObIn σ ρ o L x) (hno : H1.ob n = none) :
    RH σ (upd ρ n L) (H1.setOb (some x) n) w' ∧ Step ρ0 hh w0 (upd ρ n L) (H1.setOb (some x) n) w' := by
  have keep : ∀ b, b < w.heap.size → w'.heap[b]? = w.heap[b]? := fun b hb => by
    rw [hw, Array.getElem?_push]; simp [Nat.ne_of_lt hb]
  have hE : Ext ρ (upd ρ n L) := by
    intro i M hi
    by_cases e : i = n
    · rw [e, hρ] at hi; cases hi
    · rw [upd_ne ρ L e]; exact hi
  have old : ∀ {i : Nat} {y : Ob} {M : Loc}, H1.ob i = some y → ρ i = some M → M.b < w.heap.size := fun h1 h2 => Live.lt g ⟨_, _, _, h1, h2, rfl⟩
  have self : w'.heap[L.b]? = some o := by rw [hw, hb]; simp
  constructor
  · refine ⟨fun i r hi => ?_, fun i es hi => ?_, fun i j a b K M hij hi hj hK hM hKM => ?_, fun i r hi hg => ?_, fun i r hi => ?_, fun i hi => ?_, fun i hi => ?_, ?_⟩
    · rw [H.ob_set] at hi
      split at hi
      · rename_i e
        cases hi
        obtain ⟨k1, k2, k3, c, el, fr, rfl, k4, k5, k6⟩ := ho
        exact ⟨L, by rw [e, upd_self], k2, k3, c, el, fr, self, k4, k5, RVs.mono hE _ _ k6⟩
      · rename_i e
        obtain ⟨M, h1, h2⟩ := g.row i r hi
        obtain ⟨c, el, fr, h3, h4, h5, h6⟩ := h2.blk
        exact ⟨M, hE _ _ h1, h2.fits, h2.one, c, el, fr, by rw [keep _ (old hi h1)]; exact h3, h4, h5, RVs.mono hE _ _ h6⟩
    · rw [H.ob_set] at hi
      split at hi
      · rename_i e
        cases hi
        obtain ⟨rfl, clk, rfl⟩ := ho
        exact ⟨L, by rw [e, upd_self], #[], clk, self, rfl⟩
      · rename_i e
        obtain ⟨M, h1, es', clk, h2, h3⟩ := g.map i es hi
        exact ⟨M, hE _ _ h1, es', clk, by rw [keep _ (old hi h1)]; exact h2, h3.mono hE⟩
    · rw [H.ob_set] at hi hj
      split at hi
      · rename_i e1
        split at hj
        · rename_i e2; omega
        · rename_i e2
          rw [e1, upd_self] at hK
          rw [upd_ne ρ L e2] at hM
          have := old hj hM
          cases hK; omega
      · rename_i e1
        rw [upd_ne ρ L e1] at hK
        split at hj
        · rename_i e2
          rw [e2, upd_self] at hM
          have := old hi hK
          cases hM; omega
        · rename_i e2
          rw [upd_ne ρ L e2] at hM
          exact g.sep i j a b K M hij hi hj hK hM hKM
    · rw [H.grps_set]
      rw [H.ob_set] at hi
      split at hi
      · cases hi; exact absurd ho.1 hg
      · exact g.grp i r hi hg
    · rw [H.next_set]
      rw [H.ob_set] at hi
      split at hi
      · cases hi; rw [ho.1]; exact g.pos
      · exact g.gnext i r hi
    · rw [H.next_set] at hi
      rw [H.ob_set, if_neg (by omega)]
      exact g.next i hi
    · rw [H.next_set] at hi
      rw [upd_ne ρ L (by omega)]
      exact g.dom i hi
    · rw [H.next_set]; exact g.pos
  · refine ⟨fun i hi => by rw [upd_ne ρ L (by omega)]; exact st.ext i hi, by rw [H.next_set]; exact st.next, fun b hb' hl => ?_, fun b hl => ?_, by rw [hw]; simp; have := st.size; omega, fun i hi e => ?_, e1.trans st.tape, e2.trans st.os, e3.trans st.out⟩
    · rw [keep b (Nat.lt_of_lt_of_le hb' st.size)]; exact st.fr b hb' hl
    · obtain ⟨i, y, M, h1, h2, h3⟩ := hl
      rw [H.ob_set] at h1
      split at h1
      · rename_i e
        rw [e, upd_self] at h2
        cases h2
        left
        have := st.size
        omega
      · rename_i e
        rw [upd_ne ρ L e] at h2
        exact st.new b ⟨i, y, M, h1, h2, h3⟩
    · rw [H.ob_set, if_neg (by omega)]; exact st.keep i hi e
theorem Step.congr {ρ0 : Rho} {h0 : H} {w0 : World} (st : Step ρ0 h0 w0 ρ h w) (e1 : ∀ i, h'.ob i = h.ob i) (e2 : h'.next = h.next) : Step ρ0 h0 w0 ρ h' w :=
  ⟨st.ext, by rw [e2]; exact st.next, st.fr, fun b hb => st.new b (by obtain ⟨i, o, L, k1, k2, k3⟩ := hb; exact ⟨i, o, L, by rw [← e1]; exact k1, k2, k3⟩), st.size, fun n hn e => by rw [e1]; exact st.keep n hn e, st.tape, st.os, st.out⟩
end Go.Proofs.YtggnhaiohmgflaaGreatDoor.Sx
namespace Go.Proofs.YtggnhaiohmgflaaGreatDoor.Sx
open Go
variable {call : Nat → CallF} {σ : Nat → Int} {ρ ρ' : Rho} {h h' : H} {w w' : World} {P : Program} {ty : Nat → Option TI} {nt : Nat}

/-! from the code -/
theorem befOf_nil (l : List Nat) : befOf l [] = 0 := rfl
theorem befOf_cons (l : List Nat) (e : Edge) (es : List Edge) : befOf l (e :: es) = if Region.binds .any e = true then Nat.lor (Nat.lor (2 ^ e.on) (l[e.on]?.getD 0)) (befOf l es) else befOf l es := by
  show (match Region.binds .any e with | true => _ | false => _) = _
  cases Region.binds .any e <;> rfl
theorem befOf_spec (l : List Nat) (m : Nat) : ∀ es : List Edge, Nat.testBit (befOf l es) m = true ↔ ∃ e ∈ es, Region.binds .any e = true ∧ (m = e.on ∨ Nat.testBit (l[e.on]?.getD 0) m = true)
  | [] => by rw [befOf_nil]; simp
  | e :: es => by
    rw [befOf_cons]
    have IH := befOf_spec l m es
    split
    · rename_i hb
      have : Nat.testBit (Nat.lor (Nat.lor (2 ^ e.on) (l[e.on]?.getD 0)) (befOf l es)) m = (Nat.testBit (2 ^ e.on) m || Nat.testBit (l[e.on]?.getD 0) m || Nat.testBit (befOf l es) m) := by
        show Nat.testBit ((2 ^ e.on ||| (l[e.on]?.getD 0)) ||| befOf l es) m = _
        rw [Nat.testBit_or, Nat.testBit_or]
      rw [this, Bool.or_eq_true, Bool.or_eq_true, IH, Nat.testBit_two_pow]
      constructor
      · rintro ((h1 | h1) | ⟨e', h1, h2, h3⟩)
        · exact ⟨e, List.mem_cons_self, hb, .inl (by simp at h1; exact h1.symm)⟩
        · exact ⟨e, List.mem_cons_self, hb, .inr h1⟩
        · exact ⟨e', List.mem_cons_of_mem _ h1, h2, h3⟩
      · rintro ⟨e', h1, h2, h3⟩
        rcases List.mem_cons.1 h1 with rfl | h1
        · rcases h3 with h3 | h3
          · left; left; simp [h3]
          · exact .inl (.inr h3)
        · exact .inr ⟨e', h1, h2, h3⟩
    · rename_i hb
      rw [IH]
      constructor
      · rintro ⟨e', h1, h2⟩; exact ⟨e', List.mem_cons_of_mem _ h1, h2⟩
      · rintro ⟨e', h1, h2, h3⟩
        rcases List.mem_cons.1 h1 with rfl | h1
        · exact absurd h2 hb
        · exact ⟨e', h1, h2, h3⟩
theorem dops_get (all : List Oper) : ∀ (rest : List Oper) (l : List Nat) (j : Nat) (o : Oper), rest[j]? = some o → ∃ L, L.length = l.length + j ∧ (dops ty nt all rest l)[j]? = some ⟨l.length + j, befOf L o.after.toList, compOper ty nt all o⟩ ∧
    (∀ i, i < l.length → L[i]? = l[i]?) ∧ ∀ i p, i < j → (dops ty nt all rest l)[i]? = some p → L[l.length + i]? = some p.bef
  | [], l, j, o, h => by simp at h
  | x :: rest, l, 0, o, h => by
    simp at h
    subst h
    exact ⟨l, rfl, rfl, fun i hi => rfl, fun i p hi => by omega⟩
  | x :: rest, l, j + 1, o, h => by
    obtain ⟨L, h1, h2, h3, h4⟩ := dops_get all rest (l ++ [befOf l x.after.toList]) j o (by simpa using h)
    have hl : (l ++ [befOf l x.after.toList]).length = l.length + 1 := by simp
    rw [hl] at h1 h2 h3 h4
    refine ⟨L, by omega, ?_, fun i hi => ?_, fun i p hi hp => ?_⟩
    · show (dops ty nt all rest (l ++ [befOf l x.after.toList]))[j]? = _
      rw [h2]
      congr 2
      omega
    · rw [h3 i (by omega), List.getElem?_append_left hi]
    · cases i with
      | zero =>
        have hp : some (DOp.mk l.length (befOf l x.after.toList) (compOper ty nt all x)) = some p := hp
        cases hp
        rw [Nat.add_zero, h3 l.length (by omega)]
        simp
      | succ i =>
        have := h4 i p (by omega) hp
        rw [← this]; congr 1; omega
theorem dops_len (all : List Oper) : ∀ (rest : List Oper) (l : List Nat), (dops ty nt all rest l).length = rest.length
  | [], _ => rfl
  | x :: rest, l => by
    show (dops ty nt all rest _).length + 1 = _
    rw [dops_len all rest]; rfl

section
variable {base : Nat} {ops : List DOp} {t0 : Env} {h0 : H} {S : Nat → DS} {W : Nat → V}
/-- objects laid beside -/
noncomputable def layE (base : Nat) (f : Nat → Option Ob) : Nat → H → H
  | 0, h => h
  | m + 1, h => match f m with | some x => (layE base f m h).setOb (some x) (base + m) | none => layE base f m h
theorem layE_spec (base : Nat) (f : Nat → Option Ob) (h : H) : ∀ m, (layE base f m h).next = h.next ∧ (layE base f m h).grps = h.grps ∧
    ∀ n, (∃ i x, i < m ∧ f i = some x ∧ n = base + i ∧ (layE base f m h).ob n = some x) ∨ ((∀ i x, i < m → f i = some x → n ≠ base + i) ∧ (layE base f m h).ob n = h.ob n)
  | 0 => ⟨rfl, rfl, fun n => .inr ⟨fun i x hi => by omega, rfl⟩⟩
  | m + 1 => by
    obtain ⟨h1, h2, h3⟩ := layE_spec base f h m
    cases hf : f m with
    | none =>
      have e : layE base f (m + 1) h = layE base f m h := by
        show (match f m with | some x => (layE base f m h).setOb (some x) (base + m) | none => layE base f m h) = _
        rw [hf]
      rw [e]
      refine ⟨h1, h2, fun n => ?_⟩
      rcases h3 n with ⟨i, x, c1, c2, c3, c4⟩ | ⟨c1, c2⟩
      · exact .inl ⟨i, x, by omega, c2, c3, c4⟩
      · refine .inr ⟨fun i x hi hx => ?_, c2⟩
        rcases Nat.lt_or_ge i m with hlt | hge
        · exact c1 i x hlt hx
        · have : i = m := by omega
          subst this; rw [hf] at hx; cases hx
    | some y =>
      have e : layE base f (m + 1) h = (layE base f m h).setOb (some y) (base + m) := by
        show (match f m with | some x => (layE base f m h).setOb (some x) (base + m) | none => layE base f m h) = _
        rw [hf]
      rw [e]
      refine ⟨(H.next_set _ _ _).trans h1, (H.grps_set _ _ _).trans h2, fun n => ?_⟩
      rw [H.ob_set]
      by_cases hn : n = base + m
      · rw [if_pos hn]
        exact .inl ⟨m, y, by omega, hf, hn, rfl⟩
      · rw [if_neg hn]
        rcases h3 n with ⟨i, x, c1, c2, c3, c4⟩ | ⟨c1, c2⟩
        · exact .inl ⟨i, x, by omega, c2, c3, c4⟩
        · refine .inr ⟨fun i x hi hx => ?_, c2⟩
          rcases Nat.lt_or_ge i m with hlt | hge
          · exact c1 i x hlt hx
          · have : i = m := by omega
            subst this; exact hn

theorem make_form (op : CO) {t : Env} {h h' : H} {x : V} (hk : kindO op = .make) (e : opV call op t h = .ok x h') : ∃ ob, h' = h.new ob ∧ ∀ r, ob = .row r → r.grp = 0 := by
  have row : ∀ cs : List V, ∃ ob, h.newRow cs = h.new ob ∧ ∀ r, ob = .row r → r.grp = 0 := fun cs => ⟨.row ⟨0, 0, cs⟩, rfl, fun r hr => by cases hr; rfl⟩
  cases op with
  | alloc z => cases e; exact row _
  | box y =>
    obtain ⟨cs, h1, h2⟩ := rO_eq (show rO (ofO "box" (cellsV (ev y t))) (fun cs => oNew cs h) = .ok x h' from e)
    cases h2; exact row _
  | bslice n s z ps =>
    obtain ⟨cs, h1, h2⟩ := rO_eq (show rO (fillV (evParts ps t) z) (fun cs => .ok (.sl (some (h.next, 0)) n s (some n)) (h.newRow cs)) = .ok x h' from e)
    cases h2; exact row _
  | mks s z l c =>
    have e : oMks s z l c t h = .ok x h' := e
    unfold oMks at e
    split at e
    · obtain ⟨n, h3, h4⟩ := rO_eq e
      obtain ⟨m, h5, h6⟩ := rO_eq h4
      rw [ifB_eq] at h6
      split at h6
      · cases h6; exact row _
      · cases h6
    · cases e
  | mkm r =>
    have key : mkm2 h = .ok x h' → ∃ ob, h' = h.new ob ∧ ∀ r, ob = .row r → r.grp = 0 := by
      intro e; cases e; exact ⟨.map [], rfl, fun r hr => by cases hr⟩
    cases r with
    | none => exact key e
    | some y =>
      obtain ⟨k, b, h1, h2⟩ := onInt_eq (show onInt (.err "mkm") (fun _ _ => mkm2 h) (ev y t) = .ok x h' from e) ok_ne
      exact key h2
  | s2b y =>
    have e : oS2b y t h = .ok x h' := e
    unfold oS2b at e
    split at e
    · cases e; exact row _
    · cases e
  | _ => cases hk
theorem mk_grp {i : Nat} {r : Row} (m : Mk call base ops S W i (.row r)) : r.grp = 0 := by
  obtain ⟨o, ob, n, g, a1, a2, a3, a4, a5⟩ := m
  obtain ⟨x, e1, e2⟩ := make_form _ a3 a4
  have e1 : H.mk ob n g = H.mk (T.set (some x) .nil (base + i)) (Nat.succ (base + i)) .nil := e1
  cases e1
  rw [T.get_set, if_pos rfl] at a5
  cases a5
  exact e2 r rfl
/-- how things stand where what D tells was done -/
structure Inv (call : Nat → CallF) (σ : Nat → Int) (nt base : Nat) (ops : List DOp) (t0 : Env) (S : Nat → DS) (W : Nat → V) (ρ0 : Rho) (hh : H) (w0 : World) (D : Nat → Bool) (a : Act) (w : World) (ρ : Rho) (H1 : H) (p : Nat) : Prop where
  clo : ∀ i, D i = true → ∀ m, Bef ops i m → D m = true
  bnd : ∀ i, D i = true → i < ops.length
  cut : Cut ops S D p
  rt : RT σ ρ nt (envOn ops t0 W D ops.length) a
  rh : RH σ ρ H1 w
  st : Step ρ0 hh w0 ρ H1 w
  nx : H1.next = (S p).h.next
  gr : H1.grps = (S p).h.grps
  ob : ∀ n, (∃ i x, Extra call base ops S W D p i x ∧ n = base + i ∧ H1.ob n = some x) ∨ ((∀ i x, Extra call base ops S W D p i x → n ≠ base + i) ∧ H1.ob n = (S p).h.ob n)
  fresh : ∀ i, i < ops.length → D i = false → ρ (base + i) = none
  gone : ∀ i x, Mk call base ops S W i x → ¬ Laid ops S p i → (S p).h.ob (base + i) = none
  high : base + ops.length ≤ H1.next
  low : hh.next = base
theorem Mk.lt {i : Nat} {x : Ob} (m : Mk call base ops S W i x) : i < ops.length := by
  obtain ⟨o, _, _, _, h, _⟩ := m
  exact (List.getElem?_eq_some_iff.1 h).1
/-- an operation that neither makes nor acts is done -/
theorem Inv.still {D D' : Nat → Bool} {a a' : Act} {w w' : World} {H1 : H} {p j : Nat} {o : DOp} {ρ0 : Rho} {hh : H} {w0 : World} (T : Tr call base ops t0 h0 S W) (I : Inv call σ nt base ops t0 S W ρ0 hh w0 D a w ρ H1 p) (hj : ops[j]? = some o) (hn : D j = false) (hb : ∀ m, Bef ops j m → D m = true)
    (hD' : ∀ i, D' i = if i = j then true else D i) (nm : ¬ IsK ops S .make j) (na : ¬ IsK ops S .act j) (hrt : RT σ ρ' nt (putV o.op.dst (W j) (envOn ops t0 W D ops.length)) a') (hrh : RH σ ρ' H1 w') (hst : Step ρ H1 w ρ' H1 w') :
    Inv call σ nt base ops t0 S W ρ0 hh w0 D' a' w' ρ' H1 p := by
  have hlt := (List.getElem?_eq_some_iff.1 hj).1
  have hex : ∀ i x, Extra call base ops S W D' p i x ↔ Extra call base ops S W D p i x := by
    intro i x
    constructor
    · rintro ⟨c1, c2, c3⟩
      refine ⟨?_, c2, c3⟩
      rw [hD', if_neg (fun c : i = j => nm (by rw [← c]; exact c2.isK))] at c1; exact c1
    · rintro ⟨c1, c2, c3⟩
      refine ⟨?_, c2, c3⟩
      rw [hD']; split
      · rfl
      · exact c1
  refine ⟨fun i hi m hmb => ?_, fun i hi => ?_, ⟨fun m h1 h2 => ?_, fun m h1 h2 => ?_, I.cut.le⟩, hrt.congr (T.put I.clo hj hn hb hD'), hrh, I.st.trans hst, I.nx, I.gr, fun n => ?_, fun i h1 h2 => ?_, I.gone, I.high, I.low⟩
  · rw [hD'] at hi ⊢
    split
    · rfl
    · split at hi
      · rename_i e; subst e; exact hb m hmb
      · exact I.clo i hi m hmb
  · rw [hD'] at hi
    split at hi
    · rename_i e; subst e; exact hlt
    · exact I.bnd i hi
  · rw [hD']; split
    · rfl
    · exact I.cut.lo m h1 h2
  · rw [hD', if_neg (fun c : m = j => na (by rw [← c]; exact h2))]
    exact I.cut.hi m h1 h2
  · rcases I.ob n with ⟨i, x, c1, c2, c3⟩ | ⟨c1, c2⟩
    · exact .inl ⟨i, x, (hex i x).2 c1, c2, c3⟩
    · exact .inr ⟨fun i x hx => c1 i x ((hex i x).1 hx), c2⟩
  · rw [hD'] at h2
    split at h2
    · cases h2
    · rw [hst.ext _ (by have := I.high; omega)]; exact I.fresh i h1 h2
/-- something is made -/
theorem Inv.make {D D' : Nat → Bool} {a a' : Act} {w w' : World} {H1 : H} {p j : Nat} {o : DOp} {ρ0 : Rho} {hh : H} {w0 : World} {x : Ob} {L : Loc} {oo : Obj} (T : Tr call base ops t0 h0 S W) (I : Inv call σ nt base ops t0 S W ρ0 hh w0 D a w ρ H1 p) (hj : ops[j]? = some o) (hn : D j = false) (hb : ∀ m, Bef ops j m → D m = true)
    (hD' : ∀ i, D' i = if i = j then true else D i) (hm : Mk call base ops S W j x) (hrt : RT σ (upd ρ (base + j) L) nt (putV o.op.dst (W j) (envOn ops t0 W D ops.length)) a') (hLb : L.b = w.heap.size) (hw : w'.heap = w.heap.push oo)
    (e1 : w'.tape = w.tape) (e2 : w'.os = w.os) (e3 : w'.output = w.output) (ho : ObIn σ ρ oo L x) :
    Inv call σ nt base ops t0 S W ρ0 hh w0 D' a' w' (upd ρ (base + j) L) (H1.setOb (some x) (base + j)) p := by
  have hlt := (List.getElem?_eq_some_iff.1 hj).1
  have hhigh := I.high
  have nl : ¬ Laid ops S p j := by
    rintro ⟨m, d1, d2, d3⟩
    have := I.clo m (I.cut.lo m d1 d2) j d3
    rw [hn] at this; cases this
  have na : ¬ IsK ops S .act j := fun c => by have := hm.isK.unique c; cases this
  have hno : H1.ob (base + j) = none := by
    rcases I.ob (base + j) with ⟨i, y, c1, c2, c3⟩ | ⟨_, c2⟩
    · have : i = j := by omega
      subst this
      have := c1.1; rw [hn] at this; cases this
    · rw [c2]; exact I.gone j x hm nl
  obtain ⟨g1, g2⟩ := RH.made I.rh I.st (n := base + j) (by omega) (by rw [I.low]; omega) (I.fresh j hlt hn) hLb hw e1 e2 e3 ho hno
  have hex : ∀ i y, Extra call base ops S W D' p i y ↔ (Extra call base ops S W D p i y ∨ (i = j ∧ y = x)) := by
    intro i y
    constructor
    · rintro ⟨c1, c2, c3⟩
      by_cases e : i = j
      · subst e; exact .inr ⟨rfl, c2.unique hm⟩
      · rw [hD', if_neg e] at c1; exact .inl ⟨c1, c2, c3⟩
    · rintro (⟨c1, c2, c3⟩ | ⟨rfl, rfl⟩)
      · refine ⟨?_, c2, c3⟩
        rw [hD']; split
        · rfl
        · exact c1
      · exact ⟨by rw [hD', if_pos rfl], hm, nl⟩
  refine ⟨fun i hi m hmb => ?_, fun i hi => ?_, ⟨fun m h1 h2 => ?_, fun m h1 h2 => ?_, I.cut.le⟩, hrt.congr (T.put I.clo hj hn hb hD'), g1, g2, (H.next_set _ _ _).trans I.nx, (H.grps_set _ _ _).trans I.gr, fun n => ?_, fun i h1 h2 => ?_, I.gone, by rw [H.next_set]; exact I.high, I.low⟩
  · rw [hD'] at hi ⊢
    split
    · rfl
    · split at hi
      · rename_i e; subst e; exact hb m hmb
      · exact I.clo i hi m hmb
  · rw [hD'] at hi
    split at hi
    · rename_i e; subst e; exact hlt
    · exact I.bnd i hi
  · rw [hD']; split
    · rfl
    · exact I.cut.lo m h1 h2
  · rw [hD', if_neg (fun c : m = j => na (by rw [← c]; exact h2))]
    exact I.cut.hi m h1 h2
  · rw [H.ob_set]
    by_cases e : n = base + j
    · rw [if_pos e]
      exact .inl ⟨j, x, (hex j x).2 (.inr ⟨rfl, rfl⟩), e, rfl⟩
    · rw [if_neg e]
      rcases I.ob n with ⟨i, y, c1, c2, c3⟩ | ⟨c1, c2⟩
      · exact .inl ⟨i, y, (hex i y).2 (.inl c1), c2, c3⟩
      · refine .inr ⟨fun i y hx => ?_, c2⟩
        rcases (hex i y).1 hx with hx | ⟨rfl, rfl⟩
        · exact c1 i y hx
        · exact e
  · rw [hD'] at h2
    split at h2
    · cases h2
    · rename_i e
      rw [upd_ne ρ L (by omega)]; exact I.fresh i h1 h2
/-- what an act finds -/
theorem Inv.ahead {D : Nat → Bool} {a : Act} {w : World} {H1 : H} {p j : Nat} {ρ0 : Rho} {hh : H} {w0 : World} (T : Tr call base ops t0 h0 S W) (I : Inv call σ nt base ops t0 S W ρ0 hh w0 D a w ρ H1 p) (ha : IsK ops S .act j) (hn : D j = false) (hb : ∀ m, Bef ops j m → D m = true)
    {o : DOp} (hj : ops[j]? = some o) {h1 : H} {k1 : List (Nat × Nat × Ob)} (hl : layKept o.bef (S j).k (S j).h [] = (h1, k1)) :
    p ≤ j ∧ (∀ m, p ≤ m → m < j → ¬ IsK ops S .act m) ∧ (∀ n y, h1.ob n = some y → H1.ob n = some y) ∧ h1.next = H1.next ∧ h1.grps = H1.grps ∧
      ∀ i x, Extra call base ops S W D p i x → Nat.testBit o.bef i = false → h1.ob (base + i) = none := by
  have hlt := (List.getElem?_eq_some_iff.1 hj).1
  have hpj : p ≤ j := by
    refine Nat.le_of_not_lt fun c => ?_
    have := I.cut.lo j c ha
    rw [hn] at this; cases this
  have hno : ∀ m, p ≤ m → m < j → ¬ IsK ops S .act m := by
    intro m c1 c2 c3
    have := I.cut.hi m c1 c3
    rw [hb m (T.chain j m c2 c3 ha)] at this; cases this
  have hS : (S j).h = (S p).h := T.same_h j hpj (by omega) hno
  have hsp := layKept_spec o.bef (S j).k (S j).h []
  rw [hl] at hsp
  obtain ⟨n1, n2, _, n4⟩ := hsp
  have ex : ∀ q, q ∈ (S j).k → Nat.testBit o.bef q.1 = true → ∃ i x, q = (i, base + i, x) ∧ Extra call base ops S W D p i x := by
    intro q hq hqb
    obtain ⟨i, x, rfl, c2, c3, c4⟩ := (T.kept j (by omega) q).1 hq
    refine ⟨i, x, rfl, hb i ⟨o, hj, hqb⟩, c3, ?_⟩
    rintro ⟨m, d1, d2, d3⟩
    exact c4 m (T.bef_lt d3) (by omega) d2 d3
  refine ⟨hpj, hno, fun n y hy => ?_, n1.trans (by rw [hS]; exact I.nx.symm), n2.trans (by rw [hS]; exact I.gr.symm), fun i x hx hbi => ?_⟩
  · rcases n4 n with ⟨q, q1, q2, q3, q4⟩ | ⟨q1, q2⟩
    · obtain ⟨i, x, rfl, hx⟩ := ex q q1 q2
      rw [q4] at hy; cases hy
      rcases I.ob n with ⟨i', x', c1, c2, c3⟩ | ⟨c1, c2⟩
      · have q3 : base + i = n := q3
        have : i' = i := by omega
        subst this
        rw [c3, c1.2.1.unique hx.2.1]
      · exact absurd q3.symm (c1 i x hx)
    · have q2 : h1.ob n = (S j).h.ob n := q2
      rw [q2, hS] at hy
      rcases I.ob n with ⟨i', x', c1, c2, c3⟩ | ⟨c1, c2⟩
      · rw [c2, I.gone i' x' c1.2.1 c1.2.2] at hy; cases hy
      · rw [c2]; exact hy
  · rcases n4 (base + i) with ⟨q, q1, q2, q3, q4⟩ | ⟨q1, q2⟩
    · obtain ⟨i', x', rfl, hx'⟩ := ex q q1 q2
      have q3 : base + i' = base + i := q3
      have q2 : Nat.testBit o.bef i' = true := q2
      have : i' = i := by omega
      subst this
      rw [hbi] at q2; cases q2
    · have q2 : h1.ob (base + i) = (S j).h.ob (base + i) := q2
      rw [q2, hS]
      exact I.gone i x hx.2.1 hx.2.2
/-- an act is done -/
theorem Inv.act {D D' : Nat → Bool} {a a' : Act} {w w' : World} {H1 : H} {p j : Nat} {ρ0 : Rho} {hh : H} {w0 : World} (T : Tr call base ops t0 h0 S W) (I : Inv call σ nt base ops t0 S W ρ0 hh w0 D a w ρ H1 p) (ha : IsK ops S .act j) (hn : D j = false) (hb : ∀ m, Bef ops j m → D m = true)
    (hD' : ∀ i, D' i = if i = j then true else D i)
    {o : DOp} (hj : ops[j]? = some o) {h1 h2 : H} {k1 : List (Nat × Nat × Ob)} (hl : layKept o.bef (S j).k (S j).h [] = (h1, k1)) (hh2 : (S (j + 1)).h = h2)
    (hrt : RT σ ρ' nt (putV o.op.dst (W j) (envOn ops t0 W D ops.length)) a') (hrh : RH σ ρ' h2 w') (hst : Step ρ h1 w ρ' h2 w') :
    ∃ H2, Inv call σ nt base ops t0 S W ρ0 hh w0 D' a' w' ρ' H2 (j + 1) := by
  have hlt := (List.getElem?_eq_some_iff.1 hj).1
  obtain ⟨hpj, hno, less, hnext, hgrps, hnone⟩ := I.ahead T ha hn hb hj hl
  have hhigh := I.high
  -- what is beside, behind the act
  have hlaid : ∀ i, Laid ops S (j + 1) i ↔ (Laid ops S p i ∨ Nat.testBit o.bef i = true) := by
    intro i
    constructor
    · rintro ⟨m, d1, d2, d3⟩
      by_cases e : m = j
      · subst e
        obtain ⟨o', h3, h4⟩ := d3
        rw [hj] at h3; cases h3
        exact .inr h4
      · left
        refine ⟨m, Nat.lt_of_not_le fun c => hno m c (by omega) d2, d2, d3⟩
    · rintro (⟨m, d1, d2, d3⟩ | h3)
      · exact ⟨m, by omega, d2, d3⟩
      · exact ⟨j, by omega, ha, o, hj, h3⟩
  have hex : ∀ i x, Extra call base ops S W D' (j + 1) i x ↔ (Extra call base ops S W D p i x ∧ Nat.testBit o.bef i = false) := by
    intro i x
    constructor
    · rintro ⟨c1, c2, c3⟩
      have e : i ≠ j := fun c => by subst c; have := c2.isK.unique ha; cases this
      rw [hD', if_neg e] at c1
      rw [hlaid] at c3
      refine ⟨⟨c1, c2, fun c => c3 (.inl c)⟩, ?_⟩
      cases hc : Nat.testBit o.bef i with
      | false => rfl
      | true => exact absurd (.inr hc) c3
    · rintro ⟨⟨c1, c2, c3⟩, c4⟩
      refine ⟨?_, c2, ?_⟩
      · rw [hD']; split
        · rfl
        · exact c1
      · rw [hlaid]
        rintro (c | c)
        · exact c3 c
        · rw [c4] at c; cases c
  open Classical in
  let f : Nat → Option Ob := fun i => if e : ∃ x, Extra call base ops S W D' (j + 1) i x then some e.choose else none
  have hf : ∀ i x, f i = some x ↔ Extra call base ops S W D' (j + 1) i x := by
    intro i x
    constructor
    · intro h
      by_cases e : ∃ x, Extra call base ops S W D' (j + 1) i x
      · have : f i = some e.choose := dif_pos e
        rw [this] at h
        rw [← Option.some.inj h]
        exact e.choose_spec
      · have : f i = none := dif_neg e
        rw [this] at h; cases h
    · intro h
      have e : ∃ x, Extra call base ops S W D' (j + 1) i x := ⟨x, h⟩
      have : f i = some e.choose := dif_pos e
      rw [this, e.choose_spec.2.1.unique h.2.1]
  obtain ⟨l1, l2, l3⟩ := layE_spec base f h2 ops.length
  let E : Nat → Option Ob := fun n => if base ≤ n ∧ n < base + ops.length then f (n - base) else none
  have hEs : ∀ n y, E n = some y → ∃ i, n = base + i ∧ i < ops.length ∧ Extra call base ops S W D' (j + 1) i y := by
    intro n y h
    by_cases c : base ≤ n ∧ n < base + ops.length
    · have : E n = f (n - base) := if_pos c
      rw [this] at h
      exact ⟨n - base, by omega, by omega, (hf _ _).1 h⟩
    · have : E n = none := if_neg c
      rw [this] at h; cases h
  have hEi : ∀ i, i < ops.length → E (base + i) = f i := by
    intro i hi
    have : E (base + i) = f (base + i - base) := if_pos (by omega)
    rw [this]; congr 1; omega
  have hob : ∀ n, (layE base f ops.length h2).ob n = match E n with | some y => some y | none => h2.ob n := by
    intro n
    rcases l3 n with ⟨i, x, c1, c2, c3, c4⟩ | ⟨c1, c2⟩
    · rw [c4, c3, hEi i c1, c2]
    · cases hEn : E n with
      | none => exact c2
      | some y =>
        obtain ⟨i, d1, d2, d3⟩ := hEs n y hEn
        exact absurd d1 (c1 i y d2 ((hf _ _).2 d3))
  obtain ⟨g1, g2⟩ := RH.frame (H2 := layE base f ops.length h2) I.rh hrh hst less hnext E (fun n y e => by
      obtain ⟨i, d1, d2, d3⟩ := hEs n y e
      obtain ⟨d4, d5⟩ := (hex i y).1 d3
      subst d1
      refine ⟨?_, hnone i y d4 d5⟩
      rcases I.ob (base + i) with ⟨i', x', c1, c2, c3⟩ | ⟨c1, c2⟩
      · have : i' = i := by omega
        subst this
        rw [c3, c1.2.1.unique d4.2.1]
      · exact absurd rfl (c1 i y d4)) (fun n r e => by
      obtain ⟨i, d1, d2, d3⟩ := hEs n _ e
      obtain ⟨d4, d5⟩ := (hex i _).1 d3
      exact mk_grp d4.2.1) hob l1 l2
  refine ⟨layE base f ops.length h2, fun i hi m hmb => ?_, fun i hi => ?_, ⟨fun m h1 h2 => ?_, fun m h1 h2 => ?_, by omega⟩, hrt.congr (T.put I.clo hj hn hb hD'), g1, I.st.trans g2, by rw [l1, hh2], by rw [l2, hh2], fun n => ?_, fun i h1 h2 => ?_, fun i x hm hnl => ?_, ?_, I.low⟩
  · rw [hD'] at hi ⊢
    split
    · rfl
    · split at hi
      · rename_i e; subst e; exact hb m hmb
      · exact I.clo i hi m hmb
  · rw [hD'] at hi
    split at hi
    · rename_i e; subst e; exact hlt
    · exact I.bnd i hi
  · rw [hD']
    split
    · rfl
    · rename_i e
      exact hb m (T.chain j m (by omega) h2 ha)
  · rw [hD', if_neg (by omega)]
    exact I.cut.hi m (by omega) h2
  · rcases l3 n with ⟨i, x, c1, c2, c3, c4⟩ | ⟨c1, c2⟩
    · exact .inl ⟨i, x, (hf _ _).1 c2, c3, c4⟩
    · exact .inr ⟨fun i x hx => c1 i x hx.2.1.lt ((hf _ _).2 hx), by rw [c2, hh2]⟩
  · rw [hD'] at h2
    split at h2
    · cases h2
    · rw [hst.ext _ (by omega)]; exact I.fresh i h1 h2
  · rw [hh2]
    have h3 : ¬ Laid ops S p i := fun c => hnl ((hlaid i).2 (.inl c))
    have h4 : Nat.testBit o.bef i = false := by
      cases hc : Nat.testBit o.bef i with
      | false => rfl
      | true => exact absurd ((hlaid i).2 (.inr hc)) hnl
    refine hst.keep _ (by have := hm.lt; omega) ?_
    -- ahead of the act it was not there
    have hS : (S j).h = (S p).h := T.same_h j hpj (by omega) hno
    have hsp := layKept_spec o.bef (S j).k (S j).h []
    rw [hl] at hsp
    rcases hsp.2.2.2 (base + i) with ⟨q, q1, q2, q3, q4⟩ | ⟨q1, q2⟩
    · obtain ⟨i', x', rfl, _⟩ := (T.kept j (by omega) q).1 q1
      have q3 : base + i' = base + i := q3
      have q2 : Nat.testBit o.bef i' = true := q2
      have : i' = i := by omega
      subst this
      rw [h4] at q2; cases q2
    · have q2 : h1.ob (base + i) = (S j).h.ob (base + i) := q2
      rw [q2, hS]
      exact I.gone i x hm h3
  · rw [l1]; have := hst.next; omega
end
end Go.Proofs.YtggnhaiohmgflaaGreatDoor.Sx
namespace Go.Proofs.YtggnhaiohmgflaaGreatDoor.Sx
open Go
variable {call : Nat → CallF} {σ : Nat → Int} {ρ ρ' : Rho} {h h' : H} {w w' : World} {P : Program} {ty : Nat → Option TI} {nt : Nat}

theorem pure_noread (c : CO) {t : Env} (hk : kindO c = .pure) : readName c t = none := by
  cases c <;> first | rfl | cases hk
theorem readName_same (op : CO) {t t' : Env} (hx : ∀ x ∈ coOpds op, ev x t' = ev x t) : readName op t' = readName op t := by
  cases op <;> first | rfl | (simp only [readName]; rw [hx _ (by simp [coOpds])])
theorem read_there (op : CO) {t : Env} {x : V} {r : Nat} (e : opV call op t h = .ok x h') (hr : readName op t = some r) : ∃ y, h.ob r = some y := by
  cases op with
  | ld1 a =>
    obtain ⟨q, off, h1, h3⟩ := onPtr_eq (show onPtr (.err "ld1") (fun r off => rO (load1 r off h) (okV h)) (ev a t) = .ok x h' from e) ok_ne
    simp only [readName, h1] at hr
    cases hr
    obtain ⟨v, h4, _⟩ := rO_eq h3
    obtain ⟨y, h5, _⟩ := load1_ok h4
    exact ⟨_, h5⟩
  | ldn n a =>
    obtain ⟨q, off, h1, h3⟩ := onPtr_eq (show onPtr (.err "ldn") (fun r off => rO (loadN r off n h) (okG h)) (ev a t) = .ok x h' from e) ok_ne
    simp only [readName, h1] at hr
    cases hr
    obtain ⟨v, h4, _⟩ := rO_eq h3
    obtain ⟨y, h5, _⟩ := loadN_ok h4
    exact ⟨_, h5⟩
  | subarr n s a lo hi =>
    have e : oSubarr n s a lo hi t h = .ok x h' := e
    unfold oSubarr at e
    split at e
    · rename_i q off hl
      simp only [readName, hl] at hr
      cases hr
      obtain ⟨y0, h1, _⟩ := rO_eq e
      exact ⟨_, H.row_ok h1⟩
    · cases e
  | b2s a =>
    have e : oB2s a t h = .ok x h' := e
    unfold oB2s at e
    split at e
    · rename_i hl; simp only [readName, hl] at hr; cases hr
    · rename_i hl
      simp only [readName, hl] at hr
      cases hr
      obtain ⟨cs, h1, _⟩ := rO_eq e
      obtain ⟨y, h5, _⟩ := loadN_ok h1
      exact ⟨_, h5⟩
    · cases e
  | lenm a =>
    have e : oLenm a t h = .ok x h' := e
    unfold oLenm at e
    split at e
    · rename_i q hl
      cases q with
      | none => simp only [readName, hl] at hr; cases hr
      | some q =>
        simp only [readName, hl] at hr
        cases hr
        obtain ⟨es, h1, _⟩ := rO_eq (show rO (h.map r) (fun es => okN h es.length) = .ok x h' from e)
        exact ⟨_, H.map_ok h1⟩
    · cases e
  | look s z o a k =>
    obtain ⟨es, e1, _⟩ := rO_eq (show rO (mapOf (ev a t) h) (fun es => rO (findK s (ev k t) es) fun r => look2 z o r h) = .ok x h' from e)
    simp only [readName] at hr
    split at hr
    · rename_i q hl
      cases hr
      rw [hl] at e1
      exact ⟨_, H.map_ok e1⟩
    · cases hr
  | _ => cases hr
theorem Step.bump {ρ0 : Rho} {h0 : H} {w0 : World} {n : Nat} (st : Step ρ0 h0 w0 ρ h w) (e1 : ∀ i, h'.ob i = h.ob i) (e2 : h'.next = h.next + n) : Step ρ0 h0 w0 ρ h' w :=
  ⟨st.ext, by rw [e2]; have := st.next; omega, st.fr, fun b hb => st.new b (by obtain ⟨i, o, L, k1, k2, k3⟩ := hb; exact ⟨i, o, L, by rw [← e1]; exact k1, k2, k3⟩), st.size, fun n hn e => by rw [e1]; exact st.keep n hn e, st.tape, st.os, st.out⟩
theorem RH.bump {n : Nat} (g : RH σ ρ h w) (e1 : ∀ i, h'.ob i = h.ob i) (e2 : h'.next = h.next + n) (e3 : h'.grps = h.grps) : RH σ ρ h' w :=
  ⟨fun i r e => g.row i r (by rw [← e1]; exact e), fun i r e => g.map i r (by rw [← e1]; exact e), fun i j x y L M a b c d e f => g.sep i j x y L M a (by rw [← e1]; exact b) (by rw [← e1]; exact c) d e f,
    fun i r a b => by rw [e3]; exact g.grp i r (by rw [← e1]; exact a) b, fun i r a => by rw [e2]; have := g.gnext i r (by rw [← e1]; exact a); omega,
    fun i a => by rw [e1]; exact g.next i (by omega), fun i a => g.dom i (by omega), by rw [e2]; have := g.pos; omega⟩
theorem Tr.state {base : Nat} {ops : List DOp} {t0 : Env} {h0 : H} {S : Nat → DS} {W : Nat → V} (T : Tr call base ops t0 h0 S W) {j : Nat} {o : DOp} (hj : ops[j]? = some o) :
    (guardOk o.op.guard (S j).t = some false ∧ W j = undV) ∨ (guardOk o.op.guard (S j).t = some true ∧
      ((kindO o.op.op = .pure ∧ ∃ h', opV call o.op.op (S j).t (S j).h = .ok (W j) h') ∨ kindO o.op.op = .read ∨ (∃ x, Mk call base ops S W j x) ∨ kindO o.op.op = .act)) := by
  have hix := T.ix j o hj
  have hs := T.stp j o hj
  generalize hSj : S j = s at hs
  generalize S (j + 1) = s' at hs
  generalize hW : W j = v at hs
  cases hs with
  | skip hg => exact .inl ⟨hg, rfl⟩
  | pure hg hk he => exact .inr ⟨hg, .inl ⟨hk, _, he⟩⟩
  | read hg hk => exact .inr ⟨hg, .inr (.inl hk)⟩
  | make hg hk he hx =>
    rw [hix] at he hx
    exact .inr ⟨hg, .inr (.inr (.inl ⟨_, o, _, _, _, hj, by rw [hSj]; exact hg, hk, by rw [hSj, hW]; exact he, hx⟩))⟩
  | act hg hk => exact .inr ⟨hg, .inr (.inr (.inr hk))⟩

/-- one operation, whatever was done -/
theorem Inv.one {base : Nat} {t0 : Env} {h0 : H} {S : Nat → DS} {W : Nat → V} {D D' : Nat → Bool} {a : Act} {w : World} {H1 : H} {p j : Nat} {ρ0 : Rho} {hh : H} {w0 : World} {src : Array Oper} {o : Oper} {bef : Nat} (hty : TyAll P ty) (hcall : CallsOk P σ call)
    {ops : List DOp} (T : Tr call base ops t0 h0 S W) (I : Inv call σ nt base ops t0 S W ρ0 hh w0 D a w ρ H1 p)
    (hs : src[j]? = some o) (hj : ops[j]? = some ⟨j, bef, compOper ty nt src.toList o⟩) (hn : D j = false) (hb : ∀ m, Bef ops j m → D m = true)
    (hD' : ∀ i, D' i = if i = j then true else D i) {Q : Exit → Act → World → Prop} :
    wpOp P src Q j (fun a' w' => ∃ ρ' H2 p', Inv call σ nt base ops t0 S W ρ0 hh w0 D' a' w' ρ' H2 p') a w := by
  have hlt := (List.getElem?_eq_some_iff.1 hj).1
  have hkg := T.knows_guard I.clo hj hn hb
  have hko := fun h => T.knows_op I.clo hj hn hb h
  simp only at hkg hko
  have fine : ∀ {b : Bool} {h : H}, guardOk (compOper ty nt src.toList o).guard (S j).t = some b → (b = false ∨ ∃ v h1, opV call (compOper ty nt src.toList o).op (S j).t h = .ok v h1) →
      compOper ty nt src.toList o = ⟨o.dst.map p3, compGuard src.toList o.guard, compOp ty o.op⟩ ∧ dstFine nt o.dst = true ∧ guardFine src.toList o.guard = true := fun e1 e2 => compOper_fine (call := call) e1 e2
  unfold wpOp
  rw [hs]
  simp only
  rcases T.state hj with ⟨hg, hW⟩ | ⟨hg, hk⟩
  · -- skipped
    obtain ⟨f1, f2, f3⟩ := fine (h := H1) hg (.inl rfl)
    rw [← hkg, f1] at hg
    rw [guard_spec (ops := src) (o := o) I.rt f3 hg, if_neg (by simp)]
    have nk : ∀ k, ¬ IsK ops S k j := by
      rintro k ⟨o', a1, a2, _⟩
      rw [hj] at a1; cases a1
      simp only at a2
      rw [← hkg, f1] at a2
      have a3 : some false = some true := hg.symm.trans a2
      cases a3
    refine ⟨ρ, H1, p, I.still T hj hn hb hD' (nk _) (nk _) ?_ I.rh (Step.refl _ _ _)⟩
    rw [hW]
    simp only [f1]
    exact put_spec I.rt f2 undV_spec
  · -- done
    have go : ∀ {h : H} {v : V} {h1 : H}, opV call (compOper ty nt src.toList o).op (S j).t h = .ok v h1 → ∀ K : Act → World → Prop,
        ((compOper ty nt src.toList o = ⟨o.dst.map p3, compGuard src.toList o.guard, compOp ty o.op⟩ ∧ dstFine nt o.dst = true ∧ opV call (compOp ty o.op) (envOn ops t0 W D ops.length) h = .ok v h1) → o.wp P a w K Q) →
        (if Region.wanted o (yielded src a.tmps) = true then o.wp P a w K Q ∨ (o.asks P a w ∧ LetsOut Q) else K (a.put o.dst undef) w) := by
      intro h v h1 he K hK
      obtain ⟨f1, f2, f3⟩ := fine (h := h) hg (.inr ⟨v, h1, he⟩)
      have hg' := hg
      rw [← hkg, f1] at hg'
      rw [guard_spec (ops := src) (o := o) I.rt f3 hg', if_pos rfl]
      left
      refine hK ⟨f1, f2, ?_⟩
      rw [← hko, f1] at he
      exact he
    have isk : ∀ {k : OK}, kindO (compOper ty nt src.toList o).op = k → IsK ops S k j := fun hk => ⟨_, hj, hg, hk⟩
    -- what leaves the memory
    have still : ∀ {v : V} {k : OK}, kindO (compOper ty nt src.toList o).op = k → (k = .pure ∨ k = .read) → opV call (compOper ty nt src.toList o).op (S j).t H1 = .ok v H1 → (∀ ρ v', RV σ ρ v v' → RV σ ρ (W j) v') →
        (if Region.wanted o (yielded src a.tmps) = true then o.wp P a w (fun a' w' => ∃ ρ' H2 p', Inv call σ nt base ops t0 S W ρ0 hh w0 D' a' w' ρ' H2 p') Q ∨ (o.asks P a w ∧ LetsOut Q) else
          (fun a' w' => ∃ ρ' H2 p', Inv call σ nt base ops t0 S W ρ0 hh w0 D' a' w' ρ' H2 p') (a.put o.dst undef) w) := by
      intro v k hk hpr he hv
      refine go he (fun a' w' => ∃ ρ' H2 p', Inv call σ nt base ops t0 S W ρ0 hh w0 D' a' w' ρ' H2 p') fun ⟨f1, f2, he'⟩ => ?_
      refine (runs_op hty hcall I.rt I.rh he').wp fun v' w' ha => ?_
      obtain ⟨ρ', r1, r2, r3⟩ := ha
      have hik := isk hk
      refine ⟨ρ', H1, p, I.still T hj hn hb hD' (fun c => ?_) (fun c => ?_) ?_ r2 r3⟩
      · have := hik.unique c; rcases hpr with rfl | rfl <;> cases this
      · have := hik.unique c; rcases hpr with rfl | rfl <;> cases this
      · simp only [f1]
        exact put_spec (I.rt.mono (r3.extends I.rh)) f2 (hv _ _ r1)
    rcases hk with ⟨hk, hx, he⟩ | hk | ⟨x, hm⟩ | hk
    · -- its operands alone
      simp only at hk he
      exact still hk (.inl rfl) (still_op (h2 := H1) _ (.inl hk) he (fun r hr => by rw [pure_noread _ hk] at hr; cases hr)).2 fun _ _ h => h
    · -- read
      simp only at hk
      obtain ⟨Hr, v, hx, he, hv, hob⟩ := T.read_any I.clo I.cut hj (isk hk) hb hn
      simp only at he
      have he1 : opV call (compOper ty nt src.toList o).op (S j).t H1 = .ok v H1 := by
        refine (still_op (h2 := H1) _ (.inr hk) he fun r hr => ?_).2
        -- the object that is read
        obtain ⟨f1, f2, f3⟩ := fine (h := Hr) hg (.inr ⟨v, hx, he⟩)
        have hr' : readName (compOp ty o.op) (envOn ops t0 W D ops.length) = some r := by
          have h5 : (compOper ty nt src.toList o).op = compOp ty o.op := by rw [f1]
          rw [← h5, ← hr]
          exact readName_same _ fun x hx => by
            cases x with
            | c v => rfl
            | v p => exact T.knows I.clo hj hn hb (mem_names_opd hx)
        obtain ⟨L, hL⟩ := read_known I.rt hr'
        obtain ⟨y, hy⟩ := read_there _ he hr
        rcases hob r with h1 | ⟨i, x, h1, h2, h3⟩ | ⟨i, x, h1, h2, h3⟩
        · rcases I.ob r with ⟨i, x, c1, c2, c3⟩ | ⟨c1, c2⟩
          · rw [h1, c2, I.gone i x c1.2.1 c1.2.2] at hy; cases hy
          · rw [c2, h1]
        · rcases I.ob r with ⟨i', x', c1, c2, c3⟩ | ⟨c1, c2⟩
          · have : i' = i := by omega
            subst this
            rw [c3, h3, c1.2.1.unique h1.2.1]
          · exact absurd h2 (c1 i x h1)
        · rw [h3, I.fresh i h1.lt h2] at hL; cases hL
      exact still hk (.inr rfl) he1 (fun ρ v' h => hv σ ρ v' h)
    · -- made
      obtain ⟨o', ob, n, g, a1, a2, a3, a4, a5⟩ := id hm
      rw [hj] at a1; cases a1
      simp only at a3 a4
      refine go a4 (fun a' w' => ∃ ρ' H2 p', Inv call σ nt base ops t0 S W ρ0 hh w0 D' a' w' ρ' H2 p') fun ⟨f1, f2, he'⟩ => ?_
      have hk' : kindO (compOp ty o.op) = .make := by rw [f1] at a3; exact a3
      obtain ⟨f, y, e1, e2, v, w', L, oo, m1, m2, m3, m4, m5, m6, m7, m8⟩ := makes_op (P := P) (w := w) hty I.rt hk' he'
      have e3 : H.mk ob n g = H.mk (Sx.T.set (some y) .nil (base + j)) (Nat.succ (base + j)) .nil := e2
      cases e3
      have e4 : x = y := by rw [Sx.T.get_set, if_pos rfl] at a5; exact (Option.some.inj a5).symm
      subst e4
      have e5 : W j = f (base + j) := e1
      simp only [Oper.wp, m1, Oper.upon]
      refine ⟨_, _, p, I.make T hj hn hb hD' hm (L := L) ?_ m2 m3 m4 m5 m6 m8⟩
      simp only [f1]
      refine put_spec (I.rt.mono ?_) f2 (by rw [e5]; exact m7 _)
      intro i M hi
      by_cases e : i = base + j
      · rw [e, I.fresh j hlt hn] at hi; cases hi
      · rw [upd_ne ρ L e]; exact hi
    · -- acted
      simp only at hk
      have hact := isk hk
      obtain ⟨o', h1, k1, h2, a1, _, _, _, hl, he, _, hh2, _⟩ := T.act hact
      rw [hj] at a1; cases a1
      simp only at he
      refine go he (fun a' w' => ∃ ρ' H2 p', Inv call σ nt base ops t0 S W ρ0 hh w0 D' a' w' ρ' H2 p') fun ⟨f1, f2, he'⟩ => ?_
      obtain ⟨_, _, less, hnext, hgrps, _⟩ := I.ahead T hact hn hb hj hl
      have hless : Less H1 h1 := ⟨less, hnext, fun hg i r e1 e2 => by rw [hgrps]; exact hg i r (less i _ e1) e2⟩
      have g1 := hless.rh I.rh
      refine (runs_op hty hcall I.rt g1 he').wp fun v' w' ha => ?_
      obtain ⟨ρ', r1, r2, r3⟩ := ha
      obtain ⟨H2, hI⟩ := I.act T hact hn hb hD' hj hl hh2 (by
        simp only [f1]
        exact put_spec (I.rt.mono (r3.extends g1)) f2 r1) r2 r3
      exact ⟨ρ', H2, j + 1, hI⟩

/-- all is done -/
theorem Inv.fin {base : Nat} {ops : List DOp} {t0 : Env} {h0 : H} {S : Nat → DS} {W : Nat → V} {D : Nat → Bool} {a : Act} {w : World} {H1 : H} {p : Nat} {ρ0 : Rho} {hh : H} {w0 : World}
    (T : Tr call base ops t0 h0 S W) (I : Inv call σ nt base ops t0 S W ρ0 hh w0 D a w ρ H1 p) (hall : ∀ i, i < ops.length → D i = true) :
    RT σ ρ nt (S ops.length).t a ∧ RH σ ρ (layAll (S ops.length).k (S ops.length).h) w ∧ Step ρ0 hh w0 ρ (layAll (S ops.length).k (S ops.length).h) w := by
  have ilt : ∀ {m}, IsK ops S .act m → m < ops.length := fun {m} hm => by
    obtain ⟨o, h, _⟩ := hm; exact (List.getElem?_eq_some_iff.1 h).1
  have hno : ∀ m, p ≤ m → ¬ IsK ops S .act m := by
    intro m c1 c2
    have := I.cut.hi m c1 c2
    rw [hall m (ilt c2)] at this; cases this
  have hS : (S ops.length).h = (S p).h := T.same_h _ I.cut.le (Nat.le_refl _) fun m c1 _ => hno m c1
  obtain ⟨l1, l2, l3⟩ := layAll_spec (S ops.length).k (S ops.length).h
  have hk : ∀ q, q ∈ (S ops.length).k ↔ ∃ i x, q = (i, base + i, x) ∧ Extra call base ops S W D p i x := by
    intro q
    rw [T.kept _ (Nat.le_refl _)]
    constructor
    · rintro ⟨i, x, c1, c2, c3, c4⟩
      refine ⟨i, x, c1, hall i c2, c3, ?_⟩
      rintro ⟨m, d1, d2, d3⟩
      exact c4 m (T.bef_lt d3) (ilt d2) d2 d3
    · rintro ⟨i, x, c1, c2, c3, c4⟩
      refine ⟨i, x, c1, c3.lt, c3, fun m d1 d2 d3 d4 => c4 ⟨m, Nat.lt_of_not_le fun c => hno m c d3, d3, d4⟩⟩
  have hob : ∀ n, (layAll (S ops.length).k (S ops.length).h).ob n = H1.ob n := by
    intro n
    rcases l3 n with ⟨q, q1, q2, q3⟩ | ⟨q1, q2⟩
    · obtain ⟨i, x, rfl, hx⟩ := (hk q).1 q1
      rcases I.ob n with ⟨i', x', c1, c2, c3⟩ | ⟨c1, c2⟩
      · have q2 : base + i = n := q2
        have : i' = i := by omega
        subst this
        rw [q3, c3, c1.2.1.unique hx.2.1]
      · exact absurd q2.symm (c1 i x hx)
    · rcases I.ob n with ⟨i', x', c1, c2, c3⟩ | ⟨c1, c2⟩
      · exact absurd c2.symm (q1 (i', base + i', x') ((hk _).2 ⟨i', x', rfl, c1⟩))
      · rw [q2, c2, hS]
  refine ⟨I.rt.congr fun p => ?_, I.rh.congr hob (by rw [l1, hS]; exact I.nx.symm) (by rw [l2, hS]; exact I.gr.symm), I.st.congr hob (by rw [l1, hS]; exact I.nx.symm)⟩
  rw [← T.ahead (j := ops.length) (Nat.le_refl _) ops.length (Nat.le_refl _) (Nat.le_refl _)]
  refine envOn_same _ (Nat.le_refl _) fun i hi _ => ?_
  rw [hall i hi]; simp [hi]
def undone (l : Array Bool) : Nat → Nat
  | 0 => 0
  | m + 1 => undone l m + (if l.getD m false = true then 0 else 1)
theorem undone_zero {l : Array Bool} : ∀ {m : Nat}, undone l m = 0 → ∀ i, i < m → l.getD i false = true
  | 0, _, i, hi => by omega
  | m + 1, h, i, hi => by
    unfold undone at h
    by_cases e : i = m
    · subst e
      by_cases c : l.getD i false = true
      · exact c
      · rw [if_neg c] at h; omega
    · exact undone_zero (m := m) (by omega) i (by omega)
theorem undone_set {l : Array Bool} {j : Nat} (hj : j < l.size) (hn : l.getD j false = false) : ∀ m, undone (l.setIfInBounds j true) m + (if j < m then 1 else 0) = undone l m
  | 0 => by simp [undone]
  | m + 1 => by
    have IH := undone_set hj hn m
    unfold undone
    by_cases e : m = j
    · subst e
      have h1 : (l.setIfInBounds m true).getD m false = true := by simp [hj]
      rw [if_pos h1, hn]
      rw [if_neg (by omega)] at IH
      rw [if_pos (by omega), if_neg (by simp)]
      omega
    · have h1 : (l.setIfInBounds j true).getD m false = l.getD m false := getD_set_ne false (fun c => e c.symm)
      rw [h1]
      by_cases c : j < m
      · have e1 : (if j < m then 1 else 0) = 1 := if_pos c
        have e2 : (if j < m + 1 then 1 else 0) = 1 := if_pos (by omega)
        rw [e1] at IH
        rw [e2]
        omega
      · have e1 : (if j < m then 1 else 0) = 0 := if_neg c
        have e2 : (if j < m + 1 then 1 else 0) = 0 := if_neg (by omega)
        rw [e1] at IH
        rw [e2]
        omega
theorem dreg_ok (hty : TyAll P ty) (hcall : CallsOk P σ call) (hmix : P.follows .mixedOrders = true) : DregOk P σ call ty nt := by
  intro id src t h t' h' ρ a w hf hr g gh
  have hf : dregFine (dops ty nt src.toList src.toList []) = true := hf
  have hr : kDreg call (dops ty nt src.toList src.toList []) t h = .nrm t' h' := hr
  have hlen : (dops ty nt src.toList src.toList []).length = src.size := by rw [dops_len]; simp
  have hget : ∀ j o, src[j]? = some o → ∃ L : List Nat, (dops ty nt src.toList src.toList [])[j]? = some ⟨j, befOf L o.after.toList, compOper ty nt src.toList o⟩ ∧ L.length = j ∧
      ∀ i p, i < j → (dops ty nt src.toList src.toList [])[i]? = some p → L[i]? = some p.bef := by
    intro j o hj
    obtain ⟨L, h1, h2, _, h4⟩ := dops_get (ty := ty) (nt := nt) src.toList src.toList [] j o (by simpa using hj)
    refine ⟨L, by simpa using h2, by simpa using h1, fun i p hi hp => ?_⟩
    have := h4 i p hi hp
    simpa using this
  generalize hops : dops ty nt src.toList src.toList [] = ops at *
  unfold kDreg at hr
  split at hr
  · rename_i s hs
    obtain ⟨S, W, s0, sn, stp⟩ := dAll_trace _ _ _ hs
    have T : Tr call h.next ops t (bumpH ops.length h) S W := by
      refine ⟨fun j o hj => ?_, hf, stp, s0⟩
      have hlt := (List.getElem?_eq_some_iff.1 hj).1
      obtain ⟨L, h1, _⟩ := hget j src[j] (Array.getElem?_eq_getElem (by omega))
      rw [h1] at hj; cases hj; rfl
    rw [← sn] at hr
    have hres : (S ops.length).t = t' ∧ layAll (S ops.length).k (S ops.length).h = h' := by
      generalize S ops.length = s' at hr
      obtain ⟨t1, h1, k1, a1, r1⟩ := s'
      cases hr
      exact ⟨rfl, rfl⟩
    -- nothing is done
    have hbn : (bumpH ops.length h).next = h.next + ops.length := by cases h; rfl
    have hbg : (bumpH ops.length h).grps = h.grps := by cases h; rfl
    have hbo : ∀ i, (bumpH ops.length h).ob i = h.ob i := by intro i; cases h; rfl
    have hno0 : ∀ n, h.next ≤ n → (bumpH ops.length h).ob n = none := fun n hn => by rw [hbo]; exact gh.next n hn
    have I0 : Inv call σ nt h.next ops t S W ρ h w (fun i => (Array.replicate src.size false).getD i false) a { w with drawn := w.drawn + 1 } ρ (bumpH ops.length h) 0 := by
      have hD : ∀ i, (Array.replicate src.size false).getD i false = false := by
        intro i
        rw [Array.getD_eq_getD_getElem?]
        cases hq : (Array.replicate src.size false)[i]? with
        | none => rfl
        | some b =>
          rw [Array.getElem?_replicate] at hq
          split at hq
          · cases hq; rfl
          · cases hq
      have hS0 : (S 0).h = bumpH ops.length h := by rw [s0]; rfl
      have hstep0 : Step ρ h w ρ (bumpH ops.length h) w := (Step.refl ρ h w).bump hbo hbn
      refine ⟨fun i hi => (by simp only [hD] at hi; cases hi), fun i hi => (by simp only [hD] at hi; cases hi), ⟨fun m hm => by omega, fun m _ _ => hD m, Nat.zero_le _⟩, ?_, ?_, ?_, by rw [hS0], by rw [hS0], fun n => ?_, fun i hi _ => gh.dom _ (by omega), fun i x _ _ => by rw [hS0]; exact hno0 _ (by omega), by rw [hbn]; exact Nat.le_refl _, rfl⟩
      · have : ∀ m, envOn ops t W (fun i => (Array.replicate src.size false).getD i false) m = t := by
          intro m
          induction m with
          | zero => rfl
          | succ m ih => rw [envOn_not (hD m)]; exact ih
        rw [this]; exact g
      · exact (gh.bump hbo hbn hbg).same rfl
      · exact hstep0.trans (Step.same _ _ rfl rfl rfl rfl)
      · refine .inr ⟨fun i x hx => ?_, by rw [hS0]⟩
        have := hx.1
        simp only [hD] at this; cases this
    refine wp_region_any hmix ?_
    -- the game
    have game : ∀ (fuel : Nat) (listed : Array Bool) (a : Act) (w' : World), listed.size = src.size → undone listed src.size ≤ fuel → (∃ ρ' H1 p, Inv call σ nt h.next ops t S W ρ h w (fun i => listed.getD i false) a w' ρ' H1 p) →
        wpAny P .any src (CRel σ ρ h w nt (.nrm t' h')) fuel listed a w' := by
      -- all done
      have fin : ∀ (listed : Array Bool) (a : Act) (w' : World), (∃ ρ' H1 p, Inv call σ nt h.next ops t S W ρ h w (fun i => listed.getD i false) a w' ρ' H1 p) → (∀ i, i < src.size → listed.getD i false = true) → CRel σ ρ h w nt (.nrm t' h') .normal a w' := by
        rintro listed a w' ⟨ρ', H1, p, I⟩ hall
        obtain ⟨r1, r2, r3⟩ := I.fin T fun i hi => hall i (by omega)
        rw [hres.1] at r1
        rw [hres.2] at r2 r3
        exact ⟨ρ', r1, r2, r3⟩
      have ready0 : ∀ (listed : Array Bool), listed.size = src.size → (∀ i, i < src.size → listed.getD i false = true) → Region.ready .any src listed = [] := by
        intro listed hsz hall
        cases hrr : Region.ready .any src listed with
        | nil => rfl
        | cons j l =>
          obtain ⟨h1, o, h2, _⟩ := mem_ready.1 (show j ∈ Region.ready .any src listed by rw [hrr]; exact List.mem_cons_self)
          have hlt := (Array.getElem?_eq_some_iff.1 h2).1
          have := hall j hlt
          rw [Array.getD_eq_getD_getElem?, Array.getElem?_eq_getElem (by omega)] at h1 this
          rw [Option.getD_some] at h1 this
          rw [h1] at this; cases this
      intro fuel
      induction fuel with
      | zero =>
        intro listed a w' hsz hu hI
        have hall := undone_zero (Nat.le_zero.1 hu)
        exact ⟨ready0 listed hsz hall, fin listed a w' hI hall⟩
      | succ fuel ih =>
        intro listed a w' hsz hu hI
        refine ⟨fun hrr => ?_, fun j hjr => ?_⟩
        · -- none is ready: all is done
          refine fin listed a w' hI fun i => ?_
          induction i using Nat.strongRecOn with
          | _ i ihi =>
            intro hi
            cases hc : listed.getD i false with
            | true => rfl
            | false =>
              exfalso
              have hso : src[i]? = some src[i] := Array.getElem?_eq_getElem hi
              have : i ∈ Region.ready .any src listed := by
                refine mem_ready.2 ⟨?_, src[i], hso, fun e he hbe => ?_⟩
                · rw [Array.getD_eq_getD_getElem?, Array.getElem?_eq_getElem (by omega)] at hc ⊢
                  rw [Option.getD_some] at hc ⊢; exact hc
                · obtain ⟨L, hL, _⟩ := hget i _ hso
                  have hbef : Bef ops i e.on := ⟨_, hL, (befOf_spec L e.on _).2 ⟨e, by simpa using he, hbe, .inl rfl⟩⟩
                  have := T.bef_lt hbef
                  exact ihi e.on this (by omega)
              rw [hrr] at this; cases this
        · obtain ⟨h1, o, h2, h3⟩ := mem_ready.1 hjr
          have hlt := (Array.getElem?_eq_some_iff.1 h2).1
          have hn : listed.getD j false = false := by
            rw [Array.getD_eq_getD_getElem?, Array.getElem?_eq_getElem (by omega)] at h1 ⊢
            rw [Option.getD_some] at h1 ⊢; exact h1
          obtain ⟨ρ', H1, p, I⟩ := hI
          obtain ⟨L, hL, hLl, hLb⟩ := hget j o h2
          have hb : ∀ m, Bef ops j m → (fun i => listed.getD i false) m = true := by
            rintro m ⟨o', e1, e2⟩
            rw [hL] at e1; cases e1
            obtain ⟨e, he, hbe, hor⟩ := (befOf_spec L m _).1 e2
            have hon := h3 e (by simpa using he) hbe
            rcases hor with rfl | hor
            · exact hon
            · -- behind an edge
              cases hLe : L[e.on]? with
              | none => rw [hLe] at hor; simp at hor
              | some q =>
                have hlt2 : e.on < j := by rw [← hLl]; exact (List.getElem?_eq_some_iff.1 hLe).1
                have hoe : ops[e.on]? = some ops[e.on] := List.getElem?_eq_getElem (by omega)
                have := hLb e.on _ hlt2 hoe
                rw [this] at hor
                exact I.clo e.on hon m ⟨_, hoe, hor⟩
          have key := I.one (Q := CRel σ ρ h w nt (.nrm t' h')) (D' := fun i => (listed.setIfInBounds j true).getD i false) hty hcall T h2 hL hn hb (fun i => by
            by_cases e : i = j
            · subst e; rw [if_pos rfl]; simp [hsz, hlt]
            · rw [if_neg e]; exact getD_set_ne false (fun c => e c.symm))
          refine wpOp_mono (fun a2 w2 hI2 => ih _ a2 w2 (by simp [hsz]) ?_ hI2) key
          have := undone_set (by omega) hn src.size
          rw [if_pos hlt] at this
          omega
    refine game src.size _ a _ (by simp) ?_ ⟨ρ, _, 0, I0⟩
    have : ∀ (l : Array Bool) m, undone l m ≤ m := by
      intro l m
      induction m with
      | zero => exact Nat.le_refl _
      | succ m ih => unfold undone; split <;> omega
    exact this _ _
  · cases hr
end Go.Proofs.YtggnhaiohmgflaaGreatDoor.Sx
