/- The key that is found, in plain words. -/
import Derived.Test.YtegcdefdkebmnaaCFind
import Derived.Test.YtegcdefdkebmnaaPeersLaw
namespace Go.Proofs.Ytegcdefdkebmnaa
open Go.RowKit

theorem fd_no {f t : ByteArray} {l : List Ck} : ∀ {k : Nat}, fdAt f t l k = none → ∀ (i : Nat) (x : Ck), i < k → l[i]? = some x → ¬ (x.fr.toList = f.toList ∧ x.to.toList = t.toList)
  | 0, _, i, x, hi, _ => by omega
  | k + 1, h, i, x, hi, hx => by
    rw [fdAt] at h
    split at h
    · rename_i hn
      by_cases e : i = k
      · subst e; rw [hn] at hx; cases hx
      · exact fd_no h i x (by omega) hx
    · rename_i y hy
      split at h
      · split at h
        · cases h
        · split at h <;> cases h
      · rename_i hne
        by_cases e : i = k
        · subst e; rw [hy] at hx; cases hx; exact hne
        · exact fd_no h i x (by omega) hx
theorem fd_max {f t : ByteArray} {l : List Ck} : ∀ {k j : Nat}, fdAt f t l k = some j → ∀ (i : Nat) (x : Ck), i < k → l[i]? = some x → x.fr.toList = f.toList → x.to.toList = t.toList → x.kv ≤ kvAt l j
  | 0, j, h, _, _, _, _, _, _ => by simp [fdAt] at h
  | k + 1, j, h, i, x, hi, hx, h1, h2 => by
    rw [fdAt] at h
    split at h
    · rename_i hn
      by_cases e : i = k
      · subst e; rw [hn] at hx; cases hx
      · exact fd_max h i x (by omega) hx h1 h2
    · rename_i y hy
      split at h
      · rename_i hm
        split at h
        · rename_i h0
          cases h
          by_cases e : i = k
          · subst e; rw [kvAt, hx]; exact Int.le_refl _
          · exact absurd ⟨h1, h2⟩ (fd_no h0 i x (by omega) hx)
        · rename_i j0 h0
          split at h
          · rename_i hlt
            cases h
            by_cases e : i = k
            · subst e; rw [kvAt, hx]; exact Int.le_refl _
            · have := fd_max h0 i x (by omega) hx h1 h2
              rw [kvAt, hy]
              show x.kv ≤ y.kv
              omega
          · rename_i hlt
            cases h
            by_cases e : i = k
            · subst e; rw [hy] at hx; cases hx; omega
            · exact fd_max h0 i x (by omega) hx h1 h2
      · rename_i hne
        by_cases e : i = k
        · subst e; rw [hy] at hx; cases hx; exact absurd ⟨h1, h2⟩ hne
        · exact fd_max h i x (by omega) hx h1 h2
theorem mem_targets {f : ByteArray} {l : List Ck} {t : List UInt8} : t ∈ targets f l ↔ ∃ (i : Nat) (x : Ck), l[i]? = some x ∧ x.fr.toList = f.toList ∧ x.to.toList = t := by
  rw [targets, List.mem_map]
  constructor
  · rintro ⟨x, hx, rfl⟩
    obtain ⟨h1, h2⟩ := List.mem_filter.1 hx
    obtain ⟨i, hi, rfl⟩ := List.mem_iff_getElem.1 h1
    exact ⟨i, _, List.getElem?_eq_getElem hi, by simpa using h2, rfl⟩
  · rintro ⟨i, x, hx, h1, rfl⟩
    exact ⟨x, List.mem_filter.2 ⟨List.mem_of_getElem? hx, by simpa using h1⟩, rfl⟩
def isB (t : ByteArray) (ps : List (List UInt8)) : Bool := ps.contains t.toList
theorem isB_snoc {t : ByteArray} {ps : List (List UInt8)} {k : Nat} {y : List UInt8} (hy : ps[k]? = some y) : isB t (ps.take (k + 1)) = (isB t (ps.take k) || (y == t.toList)) := by
  obtain ⟨hk, rfl⟩ := List.getElem?_eq_some_iff.1 hy
  rw [List.take_succ_eq_append_getElem hk, isB, isB, Bool.eq_iff_iff, Bool.or_eq_true, List.contains_iff_mem, List.contains_iff_mem, List.mem_append, List.mem_singleton, beq_iff_eq]
  constructor
  · rintro (h | h)
    · exact .inl h
    · exact .inr h.symm
  · rintro (h | h)
    · exact .inl h
    · exact .inr h.symm
theorem is_found (f t : ByteArray) (l : List Ck) : isB t (peersOf f l) = fdB f t l := by
  rw [Bool.eq_iff_iff, isB, List.contains_iff_mem, peers_mem, mem_targets, fdB]
  constructor
  · rintro ⟨i, x, hx, h1, h2⟩
    cases h : fdAt f t l l.length with
    | some j => rfl
    | none => exact absurd ⟨h1, h2⟩ (fd_no h i x (List.getElem?_eq_some_iff.1 hx).1 hx)
  · intro h
    obtain ⟨j, hj⟩ := Option.isSome_iff_exists.1 h
    obtain ⟨_, y, hy, h1, h2⟩ := fd_lt hj
    exact ⟨j, y, hy, h1, h2⟩
theorem fd_found {f t : ByteArray} {l : List Ck} (h : fdB f t l = true) : ∃ (j : Nat) (y : Ck), fdI f t l = (j : Nat) ∧ j < l.length ∧ l[j]? = some y ∧ y.fr.toList = f.toList ∧ y.to.toList = t.toList ∧ ∀ (i : Nat) (x : Ck), l[i]? = some x → x.fr.toList = f.toList → x.to.toList = t.toList → x.kv ≤ y.kv := by
  obtain ⟨j, hj⟩ := Option.isSome_iff_exists.1 h
  obtain ⟨h1, y, hy, h2, h3⟩ := fd_lt hj
  refine ⟨j, y, by rw [fdI, hj], h1, hy, h2, h3, fun i x hx g1 g2 => ?_⟩
  have := fd_max hj i x (List.getElem?_eq_some_iff.1 hx).1 hx g1 g2
  rwa [kvAt, hy] at this
end Go.Proofs.Ytegcdefdkebmnaa
