/- Small lemmas for the laws over replay caches. -/
import Derived.Test.YtegcdefdkebmnaaAwake16
import Derived.Test.YtegcdefdkebmnaaUses
import Derived.Test.YtegcdefdkebmnaaReplayLaw
namespace Go.Proofs.Ytegcdefdkebmnaa
open Go.RowKit

/-- block G holds the mark x -/
def MV (X : World) (G : Nat) (x : Mk) : Prop := X.cell? ⟨G, 0, none⟩ = some (.string x.n) ∧ X.cell? ⟨G, 1, none⟩ = some (.string x.i) ∧ X.cell? ⟨G, 2, none⟩ = some (.string x.r) ∧ X.cell? ⟨G, 3, none⟩ = some (.int .i64 x.t) ∧ X.cell? ⟨G, 4, none⟩ = some (.int .i64 x.k)
theorem MV.below {X X' : World} {G : Nat} {x : Mk} (h : MV X G x) (hb : Below X.heap.size X X') : MV X' G x := by
  have hG : G < X.heap.size := World.block_lt_of_cell? _ _ h.1
  obtain ⟨h0, h1, h2, h3, h4⟩ := h
  exact ⟨(hb.cell (p := ⟨G, 0, none⟩) hG).trans h0, (hb.cell (p := ⟨G, 1, none⟩) hG).trans h1, (hb.cell (p := ⟨G, 2, none⟩) hG).trans h2, (hb.cell (p := ⟨G, 3, none⟩) hG).trans h3, (hb.cell (p := ⟨G, 4, none⟩) hG).trans h4⟩
theorem endD {W y : World} (h : Below W.heap.size W y) (x : Mk) : ∃ G, Value.pointer (some ⟨y.heap.size, 0, none⟩) = .pointer (some ⟨G, 0, none⟩) ∧ Hid (MV (y.alloc (.cells #[.string x.n, .string x.i, .string x.r, .int .i64 x.t, .int .i64 x.k] 36)) G x ∧ W.heap.size ≤ G ∧ Below W.heap.size W (y.alloc (.cells #[.string x.n, .string x.i, .string x.r, .int .i64 x.t, .int .i64 x.k] 36))) := by
  have c := fun i => cell_new y #[.string x.n, .string x.i, .string x.r, .int .i64 x.t, .int .i64 x.k] 36 i
  exact ⟨_, rfl, Lib.hid ⟨⟨c 0, c 1, c 2, c 3, c 4⟩, h.size, bthen h (Below.alloc1 _ _)⟩⟩
theorem endE {W y : World} {g : Nat} (h : Below W.heap.size W y) (hg : W.heap.size ≤ g) {a b c d e : Value} (hb : y.heap[g]? = some (.cells #[a, b, c, d, e] 36 (0, 0))) (x : Mk) : ∃ G, Value.pointer (some ⟨g, 0, none⟩) = .pointer (some ⟨G, 0, none⟩) ∧ Hid (MV (((((y.setCell ⟨g, 0, none⟩ (.string x.n)).setCell ⟨g, 1, none⟩ (.string x.i)).setCell ⟨g, 2, none⟩ (.string x.r)).setCell ⟨g, 3, none⟩ (.int .i64 x.t)).setCell ⟨g, 4, none⟩ (.int .i64 x.k)) G x ∧ W.heap.size ≤ G ∧ Below W.heap.size W (((((y.setCell ⟨g, 0, none⟩ (.string x.n)).setCell ⟨g, 1, none⟩ (.string x.i)).setCell ⟨g, 2, none⟩ (.string x.r)).setCell ⟨g, 3, none⟩ (.int .i64 x.t)).setCell ⟨g, 4, none⟩ (.int .i64 x.k))) := by
  have hh := setCell_at (i := 4) (setCell_at (i := 3) (setCell_at (i := 2) (setCell_at (i := 1) (setCell_at (i := 0) hb (.string x.n)) (.string x.i)) (.string x.r)) (.int .i64 x.t)) (.int .i64 x.k)
  refine ⟨_, rfl, Lib.hid ⟨?_, hg, ((((h.setCell (p := ⟨g, 0, none⟩) hg (.string x.n)).setCell (p := ⟨g, 1, none⟩) hg (.string x.i)).setCell (p := ⟨g, 2, none⟩) hg (.string x.r)).setCell (p := ⟨g, 3, none⟩) hg (.int .i64 x.t)).setCell (p := ⟨g, 4, none⟩) hg (.int .i64 x.k)⟩⟩
  refine ⟨?_, ?_, ?_, ?_, ?_⟩
  all_goals simp [World.cell?, hh]
theorem addM_ok {z f : Int} {ms : List Mk} {m : Mk} {now skew : Int} (h : ∀ x ∈ ms, x.ok) (hm : m.ok) : ∀ x ∈ addM z f ms m now skew, x.ok := by
  unfold addM
  split
  · intro x hx
    rcases List.mem_append.1 hx with hx | hx
    · exact h x (List.mem_filter.1 hx).1
    · rw [List.mem_singleton.1 hx]; exact hm
  · intro x hx; cases hx
theorem addM_len (z f : Int) (ms : List Mk) (m : Mk) (now skew : Int) : (addM z f ms m now skew).length ≤ ms.length + 1 := by
  unfold addM
  split
  · have := keepM_len (floorOf f now skew) ms
    simp; omega
  · simp
end Go.Proofs.Ytegcdefdkebmnaa
