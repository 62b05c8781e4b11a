/- What Add of a replay cache returns; a struct of the call's own with a row of marks. -/
import Derived.Test.YtegcdefdkebmnaaCheckRef
import Derived.Test.YtegcdefdkebmnaaAppend
import Derived.OneCell
namespace Go.Proofs.Ytegcdefdkebmnaa
open Go.RowKit

def keepM (fl : Int) (ms : List Mk) : List Mk := ms.filter (fun x => decide (fl ≤ x.t))
def floorOf (f now skew : Int) : Int := max f (now - skew)
def addErr (z f : Int) (ms : List Mk) (m : Mk) (now skew : Int) : Int :=
  if checkErr z f ms ≠ 0 then 108 else if prinB m.n m.i m.r = false then 103 else if wiB m.k 0 199 = false then 104
  else if (nearB m.t now skew && !decide (m.t < f)) = false then 37 else if hasB ms m then 34
  else if z ≤ ((keepM (floorOf f now skew) ms).length : Int) then 82 else 0
def addZ (z f : Int) (ms : List Mk) (m : Mk) (now skew : Int) : Int := if addErr z f ms m now skew = 0 then z else 0
def addF (z f : Int) (ms : List Mk) (m : Mk) (now skew : Int) : Int := if addErr z f ms m now skew = 0 then floorOf f now skew else 0
def addM (z f : Int) (ms : List Mk) (m : Mk) (now skew : Int) : List Mk := if addErr z f ms m now skew = 0 then keepM (floorOf f now skew) ms ++ [m] else []
/-- a cache that the call made -/
def CachePost (z f : Int) (ms : List Mk) (er : Int) (w : World) (e : Ending) (w' : World) : Prop :=
  ∃ v, e = .returned (.tuple #[.agg #[.int .i64 z, .int .i64 f, v], .int .i64 er]) ∧ w'.ownsRow w.heap.size 36 5 v ms.length (mcells ms) ∧ Below w.heap.size w w'
def AddPost (z f : Int) (ms : List Mk) (m : Mk) (now skew : Int) (w : World) (e : Ending) (w' : World) : Prop :=
  CachePost (addZ z f ms m now skew) (addF z f ms m now skew) (addM z f ms m now skew) (addErr z f ms m now skew) w e w'
theorem AddPost.err {z f : Int} {ms : List Mk} {m : Mk} {now skew er : Int} {w w' : World} (h : addErr z f ms m now skew = er) (h0 : er ≠ 0) (hb : Below w.heap.size w w') :
    AddPost z f ms m now skew w (.returned (.tuple #[.agg #[.int .i64 0, .int .i64 0, .slice none 0 0], .int .i64 er])) w' := by
  subst h
  refine ⟨.slice none 0 0, by simp [addZ, addF, h0], ?_, hb⟩
  rw [show addM z f ms m now skew = [] by simp [addM, h0]]
  exact World.ownsRow_nil _ _ _ _
theorem AddPost.yes {z f : Int} {ms : List Mk} {m : Mk} {now skew : Int} {w w' : World} {v : Value} {n : Nat} (h : addErr z f ms m now skew = 0) (hn : n = (keepM (floorOf f now skew) ms).length) (ho : w'.ownsRow w.heap.size 36 5 v (n + 1) (mcells (keepM (floorOf f now skew) ms) ++ m.cells)) (hb : Below w.heap.size w w') :
    AddPost z f ms m now skew w (.returned (.tuple #[.agg #[.int .i64 z, .int .i64 (floorOf f now skew), v], .int .i64 0])) w' := by
  refine ⟨v, by simp [addZ, addF, h], ?_, hb⟩
  rw [show addM z f ms m now skew = keepM (floorOf f now skew) ms ++ [m] by simp [addM, h]]
  subst hn
  simpa [mcells] using ho

theorem keepM_take {fl : Int} {ms : List Mk} {k : Nat} {x : Mk} (hx : ms[k]? = some x) : keepM fl (ms.take (k + 1)) = keepM fl (ms.take k) ++ (if fl ≤ x.t then [x] else []) := by
  obtain ⟨hk, rfl⟩ := List.getElem?_eq_some_iff.1 hx
  rw [List.take_succ_eq_append_getElem hk, keepM, List.filter_append, keepM, List.filter_cons]
  by_cases h : fl ≤ (ms[k]).t <;> simp [h]
theorem keepM_len (fl : Int) (ms : List Mk) : (keepM fl ms).length ≤ ms.length := List.length_filter_le _ _
theorem mcells_snoc (ms : List Mk) (m : Mk) : mcells (ms ++ [m]) = mcells ms ++ m.cells := by simp [mcells]

theorem own_isz {w : World} {base : Nat} {T : TypeId} {size : Nat} {v : Value} {n : Nat} {xs : List Value} (h : w.ownsRow base T size v n xs) : ∃ a cap, v = .slice a n cap ∧ n ≤ cap ∧ cap ≤ maxLen := by
  rcases h.2 with ⟨rfl, rfl⟩ | ⟨g, cap, cur, rfl, _, _, hn, hc, _⟩
  · exact ⟨none, 0, rfl, Nat.le_refl _, Nat.zero_le _⟩
  · exact ⟨_, _, rfl, hn, hc⟩
theorem own_frow {w : World} {base : Nat} {T : TypeId} {size : Nat} {a : Option Addr} {n cap : Nat} {xs : List Value} (h : w.ownsRow base T size (.slice a n cap) n xs) : FRow w a n size xs := by
  refine ⟨h.1, ?_⟩
  by_cases h0 : n = 0
  · exact .inl h0
  · rcases h.2 with ⟨h1, h2⟩ | ⟨g, cap', cur, h1, _⟩
    · exact absurd h2 h0
    · injection h1 with h1
      subst h1
      refine .inr ⟨g, 0, rfl, fun i hi => ?_⟩
      rw [Nat.zero_add]
      exact World.ownsRow.cellAt h i (by rw [← h.1]; exact hi)

/-- the struct that Add builds: block G, and the row of its marks -/
def AddRel (W : World) (G : Nat) (z fl : Int) (n : Nat) (cs : List Value) (v : Value) (wr : World) : Prop :=
  W.grownBy wr (some G) ∧ wr.heap[G]? = some (.cells #[.int .i64 z, .int .i64 fl, v] 24 (0, 0)) ∧ wr.ownsRow W.heap.size 36 5 v n cs
theorem AddRel.cells {W wr : World} {G : Nat} {z fl : Int} {n : Nat} {cs : List Value} {v : Value} (h : AddRel W G z fl n cs v wr) :
    wr.cell? ⟨G, 0, none⟩ = some (.int .i64 z) ∧ wr.cell? ⟨G, 1, none⟩ = some (.int .i64 fl) ∧ wr.cell? ⟨G, 2, none⟩ = some v ∧ wr.frozen? ⟨G, 2, none⟩ = false ∧ G < wr.heap.size := by
  obtain ⟨_, h2, _⟩ := h
  refine ⟨by simp [World.cell?, h2], by simp [World.cell?, h2], by simp [World.cell?, h2], by simp [World.frozen?, h2], lt_of_block h2⟩
theorem AddRel.start (y : World) (z fl : Int) : AddRel (y.alloc (.cells #[.int .i64 z, .int .i64 fl, .slice none 0 0] 24)) y.heap.size z fl 0 [] (.slice none 0 0) (y.alloc (.cells #[.int .i64 z, .int .i64 fl, .slice none 0 0] 24)) :=
  ⟨⟨rfl, rfl, rfl, Nat.le_refl _, fun _ _ _ => rfl⟩, heap_alloc_new _ _, World.ownsRow_nil _ _ _ _⟩
theorem AddRel.far {W wr : World} {G : Nat} {z fl : Int} {n : Nat} {cs : List Value} {v : Value} (h : AddRel W G z fl n cs v wr) {b i : Nat} (hb : b < W.heap.size) (hne : b ≠ G) : wr.cell? ⟨b, i, none⟩ = W.cell? ⟨b, i, none⟩ ∧ wr.frozen? ⟨b, i, none⟩ = W.frozen? ⟨b, i, none⟩ :=
  ⟨h.1.cell_far _ hb (fun e => hne (by injection e)), h.1.frozen_far _ hb (fun e => hne (by injection e))⟩
theorem AddRel.below {w W wr : World} {G : Nat} {z fl : Int} {n : Nat} {cs : List Value} {v : Value} (h : AddRel W G z fl n cs v wr) (hw : Below w.heap.size w W) (hG : w.heap.size ≤ G) : Below w.heap.size w wr :=
  hw.grown h.1 hw.size (fun q hq => by injection hq with hq; omega)
theorem grown_alloc {a w : World} {row : Option Nat} (h : a.grownBy w row) (o : Obj) : a.grownBy (w.alloc o) row := h.trans (World.grownBy_alloc w o row)
theorem AddRel.alloc {W wr : World} {G : Nat} {z fl : Int} {n : Nat} {cs : List Value} {v : Value} (h : AddRel W G z fl n cs v wr) (o : Obj) : AddRel W G z fl n cs v (wr.alloc o) := by
  refine ⟨grown_alloc h.1 o, ?_, h.2.2.alloc o⟩
  rw [Below.heap_alloc wr o G (lt_of_block h.2.1)]
  exact h.2.1
theorem grown_set {a w : World} {G : Nat} (h : a.grownBy w (some G)) (i : Nat) (u : Value) : a.grownBy (w.setCell ⟨G, i, none⟩ u) (some G) :=
  ⟨h.os, h.tape, h.output, by simpa [World.setCell] using h.size, fun k hk hne => (Below.heap_setCell w ⟨G, i, none⟩ u k (by rintro rfl; exact hne rfl)).trans (h.block k hk hne)⟩
theorem AddRel.more {W wr w1 : World} {G : Nat} {z fl : Int} {n n' : Nat} {cs cs' : List Value} {v v' : Value} (h : AddRel W G z fl n cs v wr) (hG : G < W.heap.size) (ho : w1.ownsRow W.heap.size 36 5 v' n' cs') (hg : wr.grownBy w1 v.ownBlock) : AddRel W G z fl n' cs' v' (w1.setCell ⟨G, 2, none⟩ v') := by
  have hown : ∀ q, v.ownBlock = some q → W.heap.size ≤ q := fun q hq => (h.2.2.lt q hq).1
  have hg1 : W.grownBy w1 (some G) := ⟨hg.os.trans h.1.os, hg.tape.trans h.1.tape, hg.output.trans h.1.output, Nat.le_trans h.1.size hg.size, fun k hk hne => (hg.block k (Nat.lt_of_lt_of_le hk h.1.size) (fun e => by have := hown k e.symm; omega)).trans (h.1.block k hk hne)⟩
  have hb : w1.heap[G]? = some (.cells #[.int .i64 z, .int .i64 fl, v] 24 (0, 0)) := (hg.block G (lt_of_block h.2.1) (fun e => by have := hown G e.symm; omega)).trans h.2.1
  refine ⟨grown_set hg1 2 v', ?_, ownsRow_setCell_other ho (fun e => ?_) v'⟩
  · simp [World.setCell, Array.getElem?_modify, hb]
  · have := (ho.lt _ e).1
    simp at this
    omega
theorem FRow.lt {w : World} {a : Option Addr} {len sz : Nat} {cs : List Value} (h : FRow w a len sz cs) (hs : 0 < sz) : ∀ x, a = some x → len ≠ 0 → x.block < w.heap.size := by
  intro x e h0
  rcases h.2 with h3 | ⟨b, off, rfl, hc⟩
  · exact absurd h3 h0
  · cases e
    have hl : 0 < cs.length := by rw [h.1]; exact Nat.mul_pos (Nat.pos_of_ne_zero h0) hs
    have := hc 0 hl
    rw [List.getElem?_eq_getElem hl] at this
    exact World.block_lt_of_cell? _ _ this
theorem FRow.grown {w w' : World} {a : Option Addr} {len sz : Nat} {cs : List Value} {row : Option Nat} (h : FRow w a len sz cs) (hne : ∀ x, a = some x → len ≠ 0 → some x.block ≠ row) (hg : w.grownBy w' row) : FRow w' a len sz cs := by
  refine ⟨h.1, ?_⟩
  by_cases h0 : len = 0
  · exact .inl h0
  rcases h.2 with h3 | ⟨b, off, rfl, hc⟩
  · exact absurd h3 h0
  · refine .inr ⟨b, off, rfl, fun i hi => ?_⟩
    have := hc i hi
    rw [List.getElem?_eq_getElem hi] at this ⊢
    exact hg.cell this (hne ⟨b, off, none⟩ rfl h0)
theorem Src.cells5 (w : World) (T : TypeId) (a b c d e : Value) : Src (w.alloc (.cells #[a, b, c, d, e] T)) (some ⟨w.heap.size, 0, none⟩) [a, b, c, d, e] :=
  .inr ⟨_, rfl, fun j u hu => World.news_of_block (heap_alloc_new w (.cells #[a, b, c, d, e] T)) j u hu⟩
theorem one_mark (m : Mk) : ∀ u ∈ m.cells, u.oneCell' = true := by
  intro u hu
  simp only [Mk.cells, List.mem_cons, List.not_mem_nil, or_false] at hu
  rcases hu with rfl | rfl | rfl | rfl | rfl <;> rfl
theorem AddRel.at_more {W wr w1 : World} {G : Nat} {z fl : Int} {n : Nat} {cs : List Value} {v : Value} (h : AddRel W G z fl n cs v wr) (hG : G < W.heap.size) (hg : wr.grownBy w1 v.ownBlock) : w1.cell? ⟨G, 2, none⟩ = some v ∧ w1.frozen? ⟨G, 2, none⟩ = false ∧ w1.cell? ⟨G, 0, none⟩ = some (.int .i64 z) ∧ w1.cell? ⟨G, 1, none⟩ = some (.int .i64 fl) := by
  have hb : w1.heap[G]? = some (.cells #[.int .i64 z, .int .i64 fl, v] 24 (0, 0)) := (hg.block G (lt_of_block h.2.1) (fun e => by have := (h.2.2.lt G e.symm).1; omega)).trans h.2.1
  exact ⟨by simp [World.cell?, hb], by simp [World.frozen?, hb], by simp [World.cell?, hb], by simp [World.cell?, hb]⟩
end Go.Proofs.Ytegcdefdkebmnaa
