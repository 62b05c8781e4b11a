/- One field of a list of cross-realm keys is changed. -/
import Derived.Test.YtegcdefdkebmnaaCAdd
import Derived.Laws.OwnMore
namespace Go.Proofs.Ytegcdefdkebmnaa
open Go.RowKit

theorem ccells_set : ∀ (ms : List Ck) (k f : Nat) (m m' : Ck) (v : Value), ms[k]? = some m → f < 4 → m'.cells = m.cells.set f v → ccells (ms.set k m') = (ccells ms).set (k * 4 + f) v
  | [], k, f, m, m', v, hm, _, _ => by simp at hm
  | a :: ms, 0, f, m, m', v, hm, hf, hc => by
    obtain rfl : a = m := by simpa using hm
    show m'.cells ++ ccells ms = (a.cells ++ ccells ms).set (0 * 4 + f) v
    rw [hc, List.set_append_left _ _ (by show 0 * 4 + f < 4; omega)]
    simp
  | a :: ms, k + 1, f, m, m', v, hm, hf, hc => by
    have ih := ccells_set ms k f m m' v (by simpa using hm) hf hc
    show a.cells ++ ccells (ms.set k m') = (a.cells ++ ccells ms).set ((k + 1) * 4 + f) v
    have e4 : a.cells.length = 4 := rfl
    rw [ih, List.set_append_right _ _ (by rw [e4]; omega), e4]
    congr 2
    omega
theorem FRow.ckset {w : World} {b off len : Nat} {ms : List Ck} {k f : Nat} {m m' : Ck} {v : Value} (h : FRow w (some ⟨b, off, none⟩) len 4 (ccells ms)) (hm : ms[k]? = some m) (hf : f < 4) (hc : m'.cells = m.cells.set f v) :
    FRow (w.setCell ⟨b, off + k * 4 + f, none⟩ v) (some ⟨b, off, none⟩) len 4 (ccells (ms.set k m')) := by
  have hk : k < ms.length := (List.getElem?_eq_some_iff.1 hm).1
  have hl := h.clen
  rw [ccells_set ms k f m m' v hm hf hc]
  refine ⟨by rw [List.length_set]; exact h.1, ?_⟩
  rcases h.2 with h0 | ⟨b', off', e, hcell⟩
  · omega
  obtain ⟨rfl, rfl⟩ : b = b' ∧ off = off' := by simpa using e
  refine .inr ⟨b, off, rfl, fun i hi => ?_⟩
  rw [List.length_set] at hi
  have hj : k * 4 + f < (ccells ms).length := by rw [ccells_len]; omega
  by_cases e1 : i = k * 4 + f
  · subst e1
    rw [List.getElem?_set_self hj, ← Nat.add_assoc]
    have hc2 := hcell (k * 4 + f) hj
    rw [List.getElem?_eq_getElem hj, ← Nat.add_assoc] at hc2
    exact World.cell?_setCell_same _ _ _ hc2
  · rw [World.cell?_setCell_other w _ _ v (fun e => e1 (by injection e with _ e; omega)), hcell i hi, List.getElem?_set_ne (fun e => e1 e.symm)]
theorem own_spot {w : World} {base : Nat} {a : Option Addr} {n c : Nat} {ms : List Ck} (h : w.ownsRow base 54 4 (.slice a n c) n (ccells ms)) (hn : n ≠ 0) :
    ∃ b off, a = some ⟨b, off, none⟩ ∧ base ≤ b ∧ FRow w (some ⟨b, off, none⟩) n 4 (ccells ms) ∧ ∀ i, i < n * 4 → w.frozen? ⟨b, off + i, none⟩ = false := by
  have hf := own_frow h
  rcases h.2 with ⟨h1, h2⟩ | ⟨g, cap, cur, h1, hg, hh, _⟩
  · exact absurd h2 hn
  · injection h1 with h1
    subst h1
    exact ⟨g, 0, rfl, hg, hf, fun i hi => by simp [World.frozen?, hh]⟩
theorem ok_set {ms : List Ck} {k : Nat} {m' : Ck} (h : ∀ m ∈ ms, m.ok) (hm : m'.ok) : ∀ m ∈ ms.set k m', m.ok := by
  intro m hmem
  rcases List.mem_or_eq_of_mem_set hmem with h1 | h1
  · exact h m h1
  · rw [h1]; exact hm
end Go.Proofs.Ytegcdefdkebmnaa
