/- A variable that holds a replay cache. -/
import Derived.Test.YtegcdefdkebmnaaNew
import Derived.Test.YtegcdefdkebmnaaUse
namespace Go.Proofs.Ytegcdefdkebmnaa
open Go.RowKit

/-- block G holds the cache (z, f, ms) -/
def RS (w0 : World) (G : Nat) (z f : Int) (ms : List Mk) (a : Option Addr) (cap : Nat) (X : World) : Prop :=
  X.heap[G]? = some (.cells #[.int .i64 z, .int .i64 f, .slice a ms.length cap] 24 (0, 0)) ∧ FRow X a ms.length 5 (mcells ms) ∧ ms.length ≤ cap ∧ cap ≤ 9223372036854775807 ∧
    Below w0.heap.size w0 X ∧ w0.heap.size ≤ G ∧ ∀ x, a = some x → ms.length ≠ 0 → x.block ≠ G
theorem RS.cells {w0 X : World} {G : Nat} {z f : Int} {ms : List Mk} {a : Option Addr} {cap : Nat} (h : RS w0 G z f ms a cap X) :
    X.cell? ⟨G, 0, none⟩ = some (.int .i64 z) ∧ X.cell? ⟨G, 1, none⟩ = some (.int .i64 f) ∧ X.cell? ⟨G, 2, none⟩ = some (.slice a ms.length cap) ∧ X.frozen? ⟨G, 0, none⟩ = false ∧ X.frozen? ⟨G, 1, none⟩ = false ∧ X.frozen? ⟨G, 2, none⟩ = false ∧ G < X.heap.size := by
  have h2 := h.1
  exact ⟨by simp [World.cell?, h2], by simp [World.cell?, h2], by simp [World.cell?, h2], by simp [World.frozen?, h2], by simp [World.frozen?, h2], by simp [World.frozen?, h2], lt_of_block h2⟩
theorem RS.below {w0 X X' : World} {G : Nat} {z f : Int} {ms : List Mk} {a : Option Addr} {cap : Nat} (h : RS w0 G z f ms a cap X) (hb : Below X.heap.size X X') : RS w0 G z f ms a cap X' := by
  obtain ⟨h1, h2, h3, h4, h5, h6, h7⟩ := h
  exact ⟨(hb.block G (lt_of_block h1)).trans h1, h2.below hb, h3, h4, bthen h5 hb, h6, h7⟩
theorem setCell_at {X : World} {G i : Nat} {cs : Array Value} {T : TypeId} (h : X.heap[G]? = some (.cells cs T (0, 0))) (u : Value) : (X.setCell ⟨G, i, none⟩ u).heap[G]? = some (.cells (cs.setIfInBounds i u) T (0, 0)) := by
  simp [World.setCell, Array.getElem?_modify, h]
theorem FRow.setCell {w : World} {a : Option Addr} {len sz : Nat} {cs : List Value} (h : FRow w a len sz cs) {G i : Nat} (hne : ∀ x, a = some x → len ≠ 0 → x.block ≠ G) (u : Value) : FRow (w.setCell ⟨G, i, none⟩ u) a len sz cs := by
  refine ⟨h.1, ?_⟩
  by_cases h0 : len = 0
  · exact .inl h0
  rcases h.2 with h3 | ⟨b, off, rfl, hc⟩
  · exact absurd h3 h0
  · refine .inr ⟨b, off, rfl, fun j hj => ?_⟩
    have hb : b ≠ G := hne ⟨b, off, none⟩ rfl h0
    rw [World.cell?_setCell_other w ⟨G, i, none⟩ ⟨b, off + j, none⟩ u (fun e => by injection e with e; exact hb e.symm)]
    exact hc j hj
/-- the variable takes another cache -/
theorem RS.store {w0 X : World} {G : Nat} {z f z' f' : Int} {ms ms' : List Mk} {a a' : Option Addr} {cap cap' : Nat} (h : RS w0 G z f ms a cap X) (hr : FRow X a' ms'.length 5 (mcells ms')) (h1 : ms'.length ≤ cap') (h2 : cap' ≤ 9223372036854775807) (hne : ∀ x, a' = some x → ms'.length ≠ 0 → x.block ≠ G) :
    RS w0 G z' f' ms' a' cap' (((X.setCell ⟨G, 0, none⟩ (.int .i64 z')).setCell ⟨G, 1, none⟩ (.int .i64 f')).setCell ⟨G, 2, none⟩ (.slice a' ms'.length cap')) := by
  obtain ⟨g1, _, _, _, g5, g6, _⟩ := h
  refine ⟨?_, ((hr.setCell hne _).setCell hne _).setCell hne _, h1, h2, ((g5.setCell g6 _).setCell g6 _).setCell g6 _, g6, hne⟩
  have := setCell_at (i := 2) (setCell_at (i := 1) (setCell_at (i := 0) g1 (.int .i64 z')) (.int .i64 f')) (.slice a' ms'.length cap')
  simpa using this
theorem RS.new {w0 X : World} (h : Below w0.heap.size w0 X) (z f : Int) {ms : List Mk} {a : Option Addr} {cap : Nat} (hr : FRow X a ms.length 5 (mcells ms)) (h1 : ms.length ≤ cap) (h2 : cap ≤ 9223372036854775807) :
    RS w0 X.heap.size z f ms a cap (X.alloc (.cells #[.int .i64 z, .int .i64 f, .slice a ms.length cap] 24)) :=
  ⟨heap_alloc_new _ _, hr.below (Below.alloc1 _ _), h1, h2, bthen h (Below.alloc1 _ _), h.size, fun x hx h0 e => by have := hr.lt (by omega) x hx h0; omega⟩
/-- what Add handed back -/
theorem CachePost.row {ms : List Mk} {w w' : World} {v : Value} (h : w'.ownsRow w.heap.size 36 5 v ms.length (mcells ms)) : ∃ a cap, v = .slice a ms.length cap ∧ FRow w' a ms.length 5 (mcells ms) ∧ ms.length ≤ cap ∧ cap ≤ 9223372036854775807 ∧ ∀ x, a = some x → w.heap.size ≤ x.block := by
  obtain ⟨a, cap, rfl, h1, h2⟩ := own_isz h
  refine ⟨a, cap, rfl, own_frow h, h1, by unfold maxLen at h2; omega, fun x hx => ?_⟩
  subst hx
  rcases h.2 with ⟨h3, h4⟩ | ⟨g, c, cur, h3, h4, _⟩
  · cases h3
  · injection h3 with h3
    injection h3 with h3
    subst h3
    exact h4
theorem set3g {w w2 : World} (h : Below w.heap.size w w2) {g : Nat} (hg : w.heap.size ≤ g) (a b c : Value) : Below w.heap.size w (((w2.setCell ⟨g, 0, none⟩ a).setCell ⟨g, 1, none⟩ b).setCell ⟨g, 2, none⟩ c) :=
  ((h.setCell (p := ⟨g, 0, none⟩) hg _).setCell (p := ⟨g, 1, none⟩) hg _).setCell (p := ⟨g, 2, none⟩) hg _
end Go.Proofs.Ytegcdefdkebmnaa
