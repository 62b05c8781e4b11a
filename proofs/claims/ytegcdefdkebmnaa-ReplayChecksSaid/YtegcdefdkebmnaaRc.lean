/- A cache variable whose marks lie in a row of the call's own: one field changed. -/
import Derived.Test.YtegcdefdkebmnaaOnce
namespace Go.Proofs.Ytegcdefdkebmnaa
open Go.RowKit

theorem mcells_set {ms : List Mk} {k : Nat} {m m' : Mk} {j : Nat} {u : Value} (hk : ms[k]? = some m) (hj : j < 5) (hm : m'.cells = m.cells.set j u) : (mcells ms).set (k * 5 + j) u = mcells (ms.set k m') := by
  induction ms generalizing k with
  | nil => simp at hk
  | cons x ms ih =>
    have h5 : x.cells.length = 5 := rfl
    cases k with
    | zero =>
      simp at hk
      subst hk
      simp only [mcells, List.flatMap_cons, List.set_cons_zero, hm]
      rw [List.set_append_left _ _ (by omega)]
      simp
    | succ k =>
      simp only [mcells, List.flatMap_cons, List.set_cons_succ] at ih ⊢
      rw [List.set_append_right _ _ (by omega), show (k + 1) * 5 + j - x.cells.length = k * 5 + j by omega, ih (by simpa using hk)]

/-- block G holds the cache (z, f, ms), its marks in a row v that the call owns -/
def Rc (w : World) (G : Nat) (z f : Int) (ms : List Mk) (v : Value) (X : World) : Prop :=
  X.heap[G]? = some (.cells #[.int .i64 z, .int .i64 f, v] 24 (0, 0)) ∧ X.ownsRow w.heap.size 36 5 v ms.length (mcells ms) ∧ v.ownBlock ≠ some G ∧ (∀ x ∈ ms, x.ok) ∧ ms.length ≤ 41 ∧ Below w.heap.size w X ∧ w.heap.size ≤ G
theorem Rc.cells {w X : World} {G : Nat} {z f : Int} {ms : List Mk} {v : Value} (h : Rc w G z f ms v X) :
    X.cell? ⟨G, 0, none⟩ = some (.int .i64 z) ∧ X.cell? ⟨G, 1, none⟩ = some (.int .i64 f) ∧ X.cell? ⟨G, 2, none⟩ = some v ∧ X.frozen? ⟨G, 0, none⟩ = false ∧ X.frozen? ⟨G, 1, none⟩ = false ∧ X.frozen? ⟨G, 2, none⟩ = false ∧ G < X.heap.size := by
  have h2 := h.1
  exact ⟨by simp [World.cell?, h2], by simp [World.cell?, h2], by simp [World.cell?, h2], by simp [World.frozen?, h2], by simp [World.frozen?, h2], by simp [World.frozen?, h2], lt_of_block h2⟩
theorem Rc.below {w X X' : World} {G : Nat} {z f : Int} {ms : List Mk} {v : Value} (h : Rc w G z f ms v X) (hb : Below X.heap.size X X') : Rc w G z f ms v X' := by
  obtain ⟨h1, h2, h3, h4, h5, h6, h7⟩ := h
  exact ⟨(hb.block G (lt_of_block h1)).trans h1, ownsRow_below h2 hb, h3, h4, h5, bthen h6 hb, h7⟩
theorem own_apart {w : World} {base : Nat} {e : TypeId} {size : Nat} {v : Value} {n : Nat} {xs : List Value} {G i : Nat} (h : w.ownsRow base e size v n xs) (hne : v.ownBlock ≠ some G) (u : Value) : (w.setCell ⟨G, i, none⟩ u).ownsRow base e size v n xs := by
  have hg0 : w.grownBy w (some G) := ⟨rfl, rfl, rfl, Nat.le_refl _, fun _ _ _ => rfl⟩
  exact h.kept (grown_set hg0 i u) (.inr hne)
theorem Rc.set0 {w X : World} {G : Nat} {z f : Int} {ms : List Mk} {v : Value} (h : Rc w G z f ms v X) (n : Int) : Rc w G n f ms v (X.setCell ⟨G, 0, none⟩ (.int .i64 n)) := by
  obtain ⟨h1, h2, h3, h4, h5, h6, h7⟩ := h
  exact ⟨by simpa using setCell_at (i := 0) h1 (.int .i64 n), own_apart h2 h3 _, h3, h4, h5, h6.setCell h7 _, h7⟩
theorem Rc.set1 {w X : World} {G : Nat} {z f : Int} {ms : List Mk} {v : Value} (h : Rc w G z f ms v X) (n : Int) : Rc w G z n ms v (X.setCell ⟨G, 1, none⟩ (.int .i64 n)) := by
  obtain ⟨h1, h2, h3, h4, h5, h6, h7⟩ := h
  exact ⟨by simpa using setCell_at (i := 1) h1 (.int .i64 n), own_apart h2 h3 _, h3, h4, h5, h6.setCell h7 _, h7⟩
theorem Rc.more {w X X1 : World} {G : Nat} {z f : Int} {ms : List Mk} {v v' : Value} {m : Mk} {H : Nat} (h : Rc w G z f ms v X) (hm : m.ok) (hl : ms.length ≤ 40) (hg : X.grownBy X1 v.ownBlock) (ho : X1.ownsRow w.heap.size 36 5 v' (ms.length + 1) (mcells ms ++ m.cells)) (hat : v'.ownBlock = v.ownBlock ∨ v'.ownBlock = some H) (hH : G < H) :
    Rc w G z f (ms ++ [m]) v' (X1.setCell ⟨G, 2, none⟩ v') := by
  obtain ⟨h1, h2, h3, h4, h5, h6, h7⟩ := h
  have h1' : X1.heap[G]? = some (.cells #[.int .i64 z, .int .i64 f, v] 24 (0, 0)) := (hg.block G (lt_of_block h1) (fun e => h3 e.symm)).trans h1
  have h3' : v'.ownBlock ≠ some G := by
    rcases hat with e | e
    · rw [e]; exact h3
    · rw [e]; intro e; injection e with e; omega
  refine ⟨by simpa using setCell_at (i := 2) h1' v', ?_, h3', ?_, by simp; omega, (h6.grown hg h6.size (fun q hq => (own_lt h2 hq).2)).setCell h7 _, h7⟩
  · rw [mcells_snoc, List.length_append]
    exact own_apart ho h3' _
  · intro x hx
    rcases List.mem_append.1 hx with hx | hx
    · exact h4 x hx
    · rw [List.mem_singleton.1 hx]; exact hm
theorem Rc.put {w X : World} {G : Nat} {z f : Int} {ms : List Mk} {g n cap : Nat} {m m' : Mk} {k j : Nat} {u : Value} (h : Rc w G z f ms (.slice (some ⟨g, 0, none⟩) n cap) X) (hk : ms[k]? = some m) (hj : j < 5) (hm : m'.cells = m.cells.set j u) (hok : m'.ok) :
    Rc w G z f (ms.set k m') (.slice (some ⟨g, 0, none⟩) n cap) (X.setCell ⟨g, k * 5 + j, none⟩ u) := by
  obtain ⟨h1, h2, h3, h4, h5, h6, h7⟩ := h
  have hn : n = ms.length := by
    obtain ⟨a, c, e, _⟩ := own_isz h2
    injection e
  subst hn
  obtain ⟨s1, s2⟩ := h2.stored (k * 5 + j) u
  refine ⟨(s2.block G (lt_of_block h1) (fun e => h3 (by rw [e]; rfl))).trans h1, ?_, h3, ?_, by simpa using h5, h6.grown s2 h6.size (fun q hq => by injection hq with hq; subst hq; exact (own_lt h2 rfl).2), h7⟩
  · rw [mcells_set hk hj hm] at s1
    simpa using s1
  · intro x hx
    rcases List.mem_or_eq_of_mem_set hx with hx | hx
    · exact h4 x hx
    · rw [hx]; exact hok
theorem Rc.put5 {w X : World} {G : Nat} {z f : Int} {ms : List Mk} {g n cap : Nat} {m m' : Mk} {k : Nat} (h : Rc w G z f ms (.slice (some ⟨g, 0, none⟩) n cap) X) (hk : ms[k]? = some m) (hok : m'.ok) :
    ∃ ms', Rc w G z f ms' (.slice (some ⟨g, 0, none⟩) n cap) (((((X.setCell ⟨g, k * 5, none⟩ (.string m'.n)).setCell ⟨g, k * 5 + 1, none⟩ (.string m'.i)).setCell ⟨g, k * 5 + 2, none⟩ (.string m'.r)).setCell ⟨g, k * 5 + 3, none⟩ (.int .i64 m'.t)).setCell ⟨g, k * 5 + 4, none⟩ (.int .i64 m'.k)) := by
  have hmo := h.2.2.2.1 m (List.mem_of_getElem? hk)
  obtain ⟨o1, o2, o3, o4, o5⟩ := hmo
  obtain ⟨p1, p2, p3, p4, p5⟩ := hok
  have hkl := (List.getElem?_eq_some_iff.1 hk).1
  have e1 := h.put (m' := ⟨m'.n, m.i, m.r, m.t, m.k⟩) (j := 0) (u := .string m'.n) hk (by omega) rfl ⟨p1, o2, o3, o4, o5⟩
  have e2 := e1.put (m := ⟨m'.n, m.i, m.r, m.t, m.k⟩) (m' := ⟨m'.n, m'.i, m.r, m.t, m.k⟩) (k := k) (j := 1) (u := .string m'.i) (by simp [hkl]) (by omega) rfl ⟨p1, p2, o3, o4, o5⟩
  have e3 := e2.put (m := ⟨m'.n, m'.i, m.r, m.t, m.k⟩) (m' := ⟨m'.n, m'.i, m'.r, m.t, m.k⟩) (k := k) (j := 2) (u := .string m'.r) (by simp [hkl]) (by omega) rfl ⟨p1, p2, p3, o4, o5⟩
  have e4 := e3.put (m := ⟨m'.n, m'.i, m'.r, m.t, m.k⟩) (m' := ⟨m'.n, m'.i, m'.r, m'.t, m.k⟩) (k := k) (j := 3) (u := .int .i64 m'.t) (by simp [hkl]) (by omega) rfl ⟨p1, p2, p3, p4, o5⟩
  have e5 := e4.put (m := ⟨m'.n, m'.i, m'.r, m'.t, m.k⟩) (m' := m') (k := k) (j := 4) (u := .int .i64 m'.k) (by simp [hkl]) (by omega) rfl ⟨p1, p2, p3, p4, p5⟩
  exact ⟨_, e5⟩
theorem Rc.row {w X : World} {G : Nat} {z f : Int} {ms : List Mk} {g n cap : Nat} (h : Rc w G z f ms (.slice (some ⟨g, 0, none⟩) n cap) X) {k : Nat} (hk : k < n) :
    ∃ m, ms[k]? = some m ∧ m.ok ∧ X.cell? ⟨g, k * 5, none⟩ = some (.string m.n) ∧ X.cell? ⟨g, k * 5 + 1, none⟩ = some (.string m.i) ∧ X.cell? ⟨g, k * 5 + 2, none⟩ = some (.string m.r) ∧ X.cell? ⟨g, k * 5 + 3, none⟩ = some (.int .i64 m.t) ∧ X.cell? ⟨g, k * 5 + 4, none⟩ = some (.int .i64 m.k) := by
  have h2 := h.2.1
  have hn : n = ms.length := by
    obtain ⟨a, c, e, _⟩ := own_isz h2
    injection e
  rw [← hn] at h2
  obtain ⟨b, off, m, e, hm, c0, c1, c2, c3, c4⟩ := (own_frow h2).mark hk
  injection e with e
  cases e
  simp only [Nat.zero_add] at c0 c1 c2 c3 c4
  exact ⟨m, hm, h.2.2.2.1 m (List.mem_of_getElem? hm), c0, c1, c2, c3, c4⟩
theorem Rc.froz {w X : World} {G : Nat} {z f : Int} {ms : List Mk} {g n cap : Nat} (h : Rc w G z f ms (.slice (some ⟨g, 0, none⟩) n cap) X) (j : Nat) : X.frozen? ⟨g, j, none⟩ = false := by
  have h2 := h.2.1
  have hn : n = ms.length := by
    obtain ⟨a, c, e, _⟩ := own_isz h2
    injection e
  rw [← hn] at h2
  exact h2.frozenAt j
/-- the variable takes a copy of its marks -/
theorem RS.own {w X X1 : World} {G : Nat} {z f : Int} {ms : List Mk} {a : Option Addr} {cap : Nat} {v' : Value} {o : Obj} (h : RS w G z f ms a cap X) (hok : ∀ x ∈ ms, x.ok) (hl : ms.length ≤ 41) (hg : (X.alloc o).grownBy X1 (some X.heap.size)) (ho : X1.ownsRow w.heap.size 36 5 v' ms.length (mcells ms)) (hat : v'.ownBlock = some X.heap.size ∨ v'.ownBlock = some (X.heap.size + 1)) :
    (X1.cell? ⟨G, 2, none⟩ = some (.slice a ms.length cap) ∧ X1.frozen? ⟨G, 2, none⟩ = false) ∧ Rc w G z f ms v' (X1.setCell ⟨G, 2, none⟩ v') := by
  obtain ⟨h1, h2, h3, h4, h5, h6, h7⟩ := h
  have hG := lt_of_block h1
  have hs : (X.alloc o).heap.size = X.heap.size + 1 := by simp
  have h1' : X1.heap[G]? = some (.cells #[.int .i64 z, .int .i64 f, .slice a ms.length cap] 24 (0, 0)) := (hg.block G (by omega) (fun e => by injection e with e; omega)).trans ((heap_alloc_old X o hG).trans h1)
  have h3' : v'.ownBlock ≠ some G := by
    rcases hat with e | e <;> (rw [e]; intro e; injection e with e; omega)
  refine ⟨⟨by simp [World.cell?, h1'], by simp [World.frozen?, h1']⟩, by simpa using setCell_at (i := 2) h1' v', own_apart ho h3' _, h3', hok, hl, (((h5.alloc h5.size o).grown hg (by have := h5.size; omega) (fun q hq => by injection hq with hq; have := h5.size; omega)).setCell h6 _), h6⟩
/-- what is asked of the variable at the end -/
def Rend (w : World) (G : Nat) (X : World) : Prop := ∃ z f ms a cap, RS w G z f ms a cap X ∧ (∀ x ∈ ms, x.ok) ∧ ms.length ≤ 41
theorem Rc.fin {w X : World} {G : Nat} {z f : Int} {ms : List Mk} {v : Value} (h : Rc w G z f ms v X) : Rend w G X := by
  obtain ⟨h1, h2, h3, h4, h5, h6, h7⟩ := h
  obtain ⟨a, cap, rfl, hc1, hc2⟩ := own_isz h2
  unfold maxLen at hc2
  refine ⟨z, f, ms, a, cap, ⟨h1, own_frow h2, hc1, by omega, h6, h7, fun x hx _ e => ?_⟩, h4, h5⟩
  subst hx
  exact h3 (by rw [← e]; rfl)
theorem FRow.src {w : World} {a : Option Addr} {len : Nat} {ms : List Mk} (h : FRow w a len 5 (mcells ms)) : Src w a (mcells ms) := by
  have hl := h.1
  cases a with
  | none =>
    rcases h.2 with h0 | ⟨b, off, e, _⟩
    · subst h0
      exact .inl ⟨rfl, List.eq_nil_of_length_eq_zero (by omega)⟩
    · cases e
  | some x =>
    refine .inr ⟨x, rfl, fun j u hu => ?_⟩
    have hj := (List.getElem?_eq_some_iff.1 hu).1
    rcases h.2 with h0 | ⟨b, off, e, hc⟩
    · subst h0; omega
    · cases e
      rw [Addr.add_plain, hc j hj]
      exact hu
theorem one_marks (ms : List Mk) : ∀ u ∈ mcells ms, u.oneCell' = true := by
  intro u hu
  obtain ⟨m, _, hm⟩ := List.mem_flatMap.1 hu
  exact one_mark m u hm
theorem own_empty5 (w : World) (T : TypeId) (B : Nat) (hB : B ≤ w.heap.size) : (w.alloc (.cells #[] T)).ownsRow B T 5 (.slice (some ⟨w.heap.size, 0, none⟩) 0 0) 0 [] := by
  have := World.ownsRow_lit (base := B) (e := T) (size := 5) w #[] 0 hB (by unfold maxLen; omega) (by simp)
  simpa using this
end Go.Proofs.Ytegcdefdkebmnaa
