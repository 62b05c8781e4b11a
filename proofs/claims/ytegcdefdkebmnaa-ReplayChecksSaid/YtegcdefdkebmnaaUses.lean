/- A slice of uses: in memory, and as an argument. -/
import Derived.Test.YtegcdefdkebmnaaOpen16
namespace Go.Proofs.Ytegcdefdkebmnaa
open Go.RowKit Go.ChangeShapes Go.WideShapes Go.Deep

def Us.cells (u : Us) : List Value := [.int .u8 u.who, .int .u8 u.time, .int .u8 u.tick, .int .u8 u.now]
def ucells (us : List Us) : List Value := us.flatMap Us.cells
theorem ucells_len (us : List Us) : (ucells us).length = us.length * 4 := by
  induction us with
  | nil => rfl
  | cons m us ih => simp only [ucells, List.flatMap_cons, List.length_append, List.length_cons] at ih ⊢; rw [ih]; simp [Us.cells]; omega
theorem ucells_get (us : List Us) (k : Nat) (hk : k < us.length) (j : Nat) (hj : j < 4) : (ucells us)[k * 4 + j]? = (us[k]).cells[j]? := by
  induction us generalizing k with
  | nil => simp at hk
  | cons m us ih =>
    simp only [ucells, List.flatMap_cons]
    cases k with
    | zero => rw [List.getElem?_append_left (by simp [Us.cells]; omega)]; simp
    | succ k =>
      rw [List.getElem?_append_right (by simp [Us.cells]; omega)]
      have : (k + 1) * 4 + j - m.cells.length = k * 4 + j := by simp [Us.cells]; omega
      rw [this]
      exact ih k (by simpa using hk)
theorem FRow.use {w : World} {a : Option Addr} {len : Nat} {us : List Us} (h : FRow w a len 4 (ucells us)) {k : Nat} (hk : k < len) :
    ∃ b off u, a = some ⟨b, off, none⟩ ∧ us[k]? = some u ∧ w.cell? ⟨b, off + k * 4, none⟩ = some (.int .u8 u.who) ∧ w.cell? ⟨b, off + k * 4 + 1, none⟩ = some (.int .u8 u.time) ∧ w.cell? ⟨b, off + k * 4 + 2, none⟩ = some (.int .u8 u.tick) ∧ w.cell? ⟨b, off + k * 4 + 3, none⟩ = some (.int .u8 u.now) := by
  have hl : us.length = len := by have := h.1; rw [ucells_len] at this; omega
  rcases h.2 with h0 | ⟨b, off, rfl, hc⟩
  · omega
  have hk' : k < us.length := by omega
  refine ⟨b, off, us[k], rfl, List.getElem?_eq_getElem hk', ?_⟩
  have hm := ucells_len us
  have h0 := hc (k * 4 + 0) (by omega)
  have h1 := hc (k * 4 + 1) (by omega)
  have h2 := hc (k * 4 + 2) (by omega)
  have h3 := hc (k * 4 + 3) (by omega)
  rw [ucells_get _ _ hk' _ (by omega)] at h0 h1 h2 h3
  simp only [Nat.add_assoc] at *
  exact ⟨h0, h1, h2, h3⟩
section
variable {H : Type} {enc : TypeId × Value → H} {w : World} {base : Nat} {spare : Nat → Bool} {held : Bool}
theorem open_uses {fuel : Nat} {a : Option Addr} {len cap : Nat} {x : DataW H × List MemPlace} (h : DataW.trod enc Try.prog w base spare held fuel 25 [.slice a len cap] = some x) :
    ∃ us : List Us, FRow w a len 4 (ucells us) ∧ (∀ u ∈ us, u.ok) ∧ len ≤ cap ∧ cap ≤ 9223372036854775807 := by
  rcases open_slice Try.underlying25 h with ⟨h0, _⟩ | ⟨ad, len', cap', m, n, D, Pl, hcs, _, hl, hm, hmm, _, hi⟩
  · simp at h0
    obtain ⟨rfl, rfl, rfl⟩ := h0
    exact ⟨[], ⟨rfl, .inl rfl⟩, by simp, Nat.le_refl _, by omega⟩
  · simp at hcs
    obtain ⟨rfl, rfl, rfl⟩ := hcs
    have hlm : len ≤ m := by rw [hmm]; split <;> omega
    rw [cells_use] at hi
    have key : ∀ k, k ≤ len → ∃ us : List Us, us.length = k ∧ (∀ x ∈ us, x.ok) ∧ ∀ j, j < k * 4 → w.cell? (ad.add j) = (ucells us)[j]? := by
      intro k
      induction k with
      | zero => intro _; exact ⟨[], rfl, by simp, fun j hj => by omega⟩
      | succ k ih =>
        intro hk
        obtain ⟨us, h1, h2, h3⟩ := ih (by omega)
        obtain ⟨cs', hc, ht⟩ := hi k (by omega)
        obtain ⟨x, hxo, hxc⟩ := open_use ht
        obtain ⟨_, hcl, hat⟩ := World.cells?_some hc
        have hml : (ucells us).length = k * 4 := by rw [ucells_len, h1]
        refine ⟨us ++ [x], by simp [h1], ?_, fun j hj => ?_⟩
        · intro y hy
          rcases List.mem_append.1 hy with hy | hy
          · exact h2 y hy
          · rw [List.mem_singleton.1 hy]; exact hxo
        · rw [show ucells (us ++ [x]) = ucells us ++ x.cells by simp [ucells]]
          by_cases hjk : j < k * 4
          · rw [List.getElem?_append_left (by omega)]; exact h3 j hjk
          · rw [List.getElem?_append_right (by omega), hml, show x.cells = cs' from hxc.symm, ← hat (j - k * 4) (by omega)]
            congr 1
            rw [Go.Deep.add_add]
            congr 1
            omega
    obtain ⟨us, h1, h2, h3⟩ := key len (Nat.le_refl _)
    refine ⟨us, ⟨by rw [ucells_len, h1], ?_⟩, h2, hl, by unfold maxLen at hm; omega⟩
    by_cases h0 : len = 0
    · exact .inl h0
    · right
      obtain ⟨b, off, spot⟩ := ad
      have hc := h3 0 (by omega)
      rw [List.getElem?_eq_getElem (by rw [ucells_len]; omega)] at hc
      have hspot : spot = none := by simpa [Addr.add] using World.cell?_spot hc
      subst hspot
      refine ⟨b, off, rfl, fun i hi' => ?_⟩
      rw [ucells_len] at hi'
      rw [← h3 i (by omega)]
      unfold Addr.add
      split <;> simp_all
set_option maxRecDepth 100000 in
theorem open_usesV {a : Option Addr} {len cap : Nat} {d : DataW H} {p : List MemPlace} (h : DataW.Trod enc Try.prog w base spare held 25 (.slice a len cap) d p) :
    ∃ us : List Us, FRow w a len 4 (ucells us) ∧ (∀ u ∈ us, u.ok) ∧ len ≤ cap ∧ cap ≤ 9223372036854775807 := by
  obtain ⟨fuel, hf⟩ := h
  exact open_uses hf
end
end Go.Proofs.Ytegcdefdkebmnaa
