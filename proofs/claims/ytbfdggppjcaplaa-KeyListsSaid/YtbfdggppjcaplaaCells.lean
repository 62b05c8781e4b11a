/- Cells of blocks that were laid one after another; the first error of a list. -/
import Derived.Test.YtbfdggppjcaplaaBase
namespace Go.Proofs.Ytbfdggppjcaplaa
open Go.RowKit

theorem cell_new (w : World) (C : Array Value) (T : TypeId) (i : Nat) : (w.alloc (.cells C T)).cell? ⟨w.heap.size, i, none⟩ = C[i]? := by
  simp
theorem cells_one {x1 w' : World} {C1 : Array Value} {T1 : TypeId} (hb : Below (x1.alloc (.cells C1 T1)).heap.size (x1.alloc (.cells C1 T1)) w') :
    (∀ i, w'.cell? ⟨x1.heap.size, i, none⟩ = C1[i]?) ∧ ∀ b i, b < x1.heap.size → w'.cell? ⟨b, i, none⟩ = x1.cell? ⟨b, i, none⟩ := by
  have ha : (x1.alloc (.cells C1 T1)).heap.size = x1.heap.size + 1 := by simp
  refine ⟨fun i => ?_, fun b i h => ?_⟩
  · rw [hb.cell (by show x1.heap.size < _; omega)]
    exact cell_new x1 C1 T1 i
  · rw [hb.cell (by show b < _; omega), World.cell?_alloc_lt _ _ _ h]
theorem cells_two {x1 x2 w' : World} {C1 C2 : Array Value} {T1 T2 : TypeId} (hb : Below (x1.alloc (.cells C1 T1)).heap.size (x1.alloc (.cells C1 T1)) x2) (hw : Below (x2.alloc (.cells C2 T2)).heap.size (x2.alloc (.cells C2 T2)) w') :
    (∀ i, w'.cell? ⟨x1.heap.size, i, none⟩ = C1[i]?) ∧ (∀ i, w'.cell? ⟨x2.heap.size, i, none⟩ = C2[i]?) ∧ ∀ b i, b < x1.heap.size → w'.cell? ⟨b, i, none⟩ = x1.cell? ⟨b, i, none⟩ := by
  have hs : x1.heap.size + 1 ≤ x2.heap.size := by simpa using hb.size
  obtain ⟨h1, h2⟩ := cells_one hb
  obtain ⟨g1, g2⟩ := cells_one hw
  exact ⟨fun i => (g2 _ i (by omega)).trans (h1 i), g1, fun b i h => (g2 b i (by omega)).trans (h2 b i h)⟩

theorem froz_one {x1 w' : World} {C1 : Array Value} {T1 : TypeId} (hb : Below (x1.alloc (.cells C1 T1)).heap.size (x1.alloc (.cells C1 T1)) w') : (∀ i, w'.frozen? ⟨x1.heap.size, i, none⟩ = false) ∧ x1.heap.size < w'.heap.size := by
  have ha : (x1.alloc (.cells C1 T1)).heap.size = x1.heap.size + 1 := by simp
  refine ⟨fun i => ?_, by have := hb.size; omega⟩
  rw [hb.frozen (p := ⟨x1.heap.size, i, none⟩) (by show x1.heap.size < _; omega)]
  simp
theorem bcell {W w1 : World} (hb : Below W.heap.size W w1) : (∀ b o, b < W.heap.size → w1.cell? ⟨b, o, none⟩ = W.cell? ⟨b, o, none⟩) ∧ (∀ b o, b < W.heap.size → w1.frozen? ⟨b, o, none⟩ = W.frozen? ⟨b, o, none⟩) :=
  ⟨fun b o h => hb.cell (p := ⟨b, o, none⟩) h, fun b o h => hb.frozen (p := ⟨b, o, none⟩) h⟩
/-- the first error among n -/
def firstErr (g : Nat → Int) : Nat → Int
  | 0 => 0
  | n + 1 => if firstErr g n = 0 then g n else firstErr g n
theorem firstErr_zero {g : Nat → Int} : ∀ {n : Nat}, (∀ i, i < n → g i = 0) → firstErr g n = 0
  | 0, _ => rfl
  | n + 1, h => by rw [firstErr, firstErr_zero (fun i hi => h i (by omega)), if_pos rfl, h n (by omega)]
theorem firstErr_at {g : Nat → Int} {k : Nat} : ∀ {n : Nat}, k < n → (∀ i, i < k → g i = 0) → g k ≠ 0 → firstErr g n = g k
  | 0, h, _, _ => by omega
  | n + 1, h, h0, hk => by
    rw [firstErr]
    by_cases e : k = n
    · subst e; rw [firstErr_zero h0, if_pos rfl]
    · rw [firstErr_at (by omega) h0 hk, if_neg hk]
theorem firstErr_ok {g : Nat → Int} : ∀ {n : Nat}, firstErr g n = 0 → ∀ i, i < n → g i = 0
  | 0, _, i, hi => by omega
  | n + 1, h, i, hi => by
    rw [firstErr] at h
    split at h
    · rename_i h0
      by_cases e : i = n
      · subst e; exact h
      · exact firstErr_ok h0 i (by omega)
    · contradiction
end Go.Proofs.Ytbfdggppjcaplaa
