/- The plain law of replay caches: what Add makes of a valid cache is valid, and no mark comes back. -/
import Derived.Test.YtegcdefdkebmnaaAddDef
import Derived.Test.YtegcdefdkebmnaaAdd
namespace Go.Proofs.Ytegcdefdkebmnaa

/-- a mark that is valid in a cache with floor f -/
def MOk (f : Int) (x : Mk) : Prop := prinB x.n x.i x.r = true ∧ wiB x.t f 4294967295 = true ∧ wiB x.k 0 199 = true
theorem markErr_zero {f : Int} {prev : List Mk} {m : Mk} : markErr f prev m = 0 ↔ MOk f m ∧ m ∉ prev := by
  unfold markErr MOk hasB
  cases prinB m.n m.i m.r <;> cases wiB m.t f 4294967295 <;> cases wiB m.k 0 199 <;> simp
theorem errs_zero {f : Int} {ms : List Mk} : (∀ i, i < ms.length → errAt f ms i = 0) ↔ (∀ x ∈ ms, MOk f x) ∧ ms.Nodup := by
  constructor
  · intro h
    have h1 : ∀ i (hi : i < ms.length), MOk f ms[i] ∧ ms[i] ∉ ms.take i := fun i hi => by
      have := h i hi
      rw [errAt_eq (List.getElem?_eq_getElem hi), markErr_zero] at this
      exact this
    refine ⟨fun x hx => ?_, ?_⟩
    · obtain ⟨i, hi, rfl⟩ := List.mem_iff_getElem.1 hx
      exact (h1 i hi).1
    · rw [List.nodup_iff_pairwise_ne, List.pairwise_iff_getElem]
      intro i j hi hj hij e
      exact (h1 j hj).2 (e ▸ List.mem_iff_getElem.2 ⟨i, by simp; omega, by simp⟩)
  · rintro ⟨h1, h2⟩ i hi
    rw [errAt_eq (List.getElem?_eq_getElem hi), markErr_zero]
    refine ⟨h1 _ (List.getElem_mem hi), fun hm => ?_⟩
    obtain ⟨j, hj, e⟩ := List.mem_iff_getElem.1 hm
    rw [List.nodup_iff_pairwise_ne, List.pairwise_iff_getElem] at h2
    have hji : j < i := by simp at hj; omega
    exact h2 j i (by omega) hi hji (by simpa using e)
theorem check_iff {z f : Int} {ms : List Mk} : checkErr z f ms = 0 ↔ (1 ≤ z ∧ z ≤ 40) ∧ (0 ≤ f ∧ f ≤ 4294967295) ∧ (ms.length : Int) ≤ z ∧ (∀ x ∈ ms, MOk f x) ∧ ms.Nodup := by
  unfold checkErr
  constructor
  · intro h
    split at h
    · omega
    rename_i hw
    split at h
    · omega
    rename_i hl
    have hw' : wiB z 1 40 = true ∧ wiB f 0 4294967295 = true := by simpa using hw
    simp only [wiB, decide_eq_true_eq] at hw'
    exact ⟨hw'.1, hw'.2, by omega, errs_zero.1 (firstErr_ok h)⟩
  · rintro ⟨h1, h2, h3, h4⟩
    rw [if_neg (by simp [wiB, h1, h2]), if_neg (by omega)]
    exact firstErr_zero (errs_zero.2 h4)
theorem MOk.up {f f' : Int} {x : Mk} (h : MOk f x) (ht : f' ≤ x.t) : MOk f' x := by
  obtain ⟨h1, h2, h3⟩ := h
  simp only [wiB, decide_eq_true_eq] at h2
  exact ⟨h1, by simp only [wiB, decide_eq_true_eq]; omega, h3⟩
theorem add_ok {z f : Int} {ms : List Mk} {m : Mk} {now skew : Int} (h : addErr z f ms m now skew = 0) :
    checkErr z f ms = 0 ∧ prinB m.n m.i m.r = true ∧ wiB m.k 0 199 = true ∧ nearB m.t now skew = true ∧ f ≤ m.t ∧ m ∉ ms ∧ ((keepM (floorOf f now skew) ms).length : Int) < z := by
  unfold addErr at h
  split at h
  · omega
  rename_i h1
  split at h
  · omega
  rename_i h2
  split at h
  · omega
  rename_i h3
  split at h
  · omega
  rename_i h4
  split at h
  · omega
  rename_i h5
  split at h
  · omega
  rename_i h6
  have h4' : nearB m.t now skew = true ∧ ¬ m.t < f := by simpa using h4
  refine ⟨by simpa using h1, by simpa using h2, by simpa using h3, h4'.1, by omega, ?_, by omega⟩
  unfold hasB at h5
  simpa using h5
theorem add_floor {z f : Int} {ms : List Mk} {m : Mk} {now skew : Int} (h : addErr z f ms m now skew = 0) : f ≤ floorOf f now skew ∧ floorOf f now skew ≤ m.t ∧ 0 ≤ floorOf f now skew ∧ floorOf f now skew ≤ 4294967295 ∧ m.t ≤ 4294967295 := by
  obtain ⟨h1, _, _, h4, h5, _⟩ := add_ok h
  have hb := nearB_bd h4
  have hc := check_bd h1
  unfold nearB at h4
  simp only [Bool.and_eq_true, decide_eq_true_eq] at h4
  have ht := timeB_true h4.1.1.1.1
  unfold floorOf
  omega
/-- what Add makes is valid -/
theorem add_check {z f : Int} {ms : List Mk} {m : Mk} {now skew : Int} (h : addErr z f ms m now skew = 0) : checkErr z (floorOf f now skew) (keepM (floorOf f now skew) ms ++ [m]) = 0 := by
  obtain ⟨h1, h2, h3, h4, h5, h6, h7⟩ := add_ok h
  obtain ⟨f1, f2, f3, f4, f5⟩ := add_floor h
  obtain ⟨c1, c2, c3, c4, c5⟩ := check_iff.1 h1
  refine check_iff.2 ⟨c1, ⟨f3, f4⟩, by simp; omega, fun x hx => ?_, ?_⟩
  · rcases List.mem_append.1 hx with hx | hx
    · obtain ⟨hx1, hx2⟩ := List.mem_filter.1 hx
      exact (c4 x hx1).up (by simpa using hx2)
    · rw [List.mem_singleton.1 hx]
      exact ⟨h2, by simp only [wiB, decide_eq_true_eq]; omega, h3⟩
  · rw [List.nodup_append]
    refine ⟨c5.sublist List.filter_sublist, by simp, fun a ha b hb e => ?_⟩
    rw [List.mem_singleton.1 hb] at e
    subst e
    exact h6 (List.mem_filter.1 ha).1
/-- every mark that was added is still there, or lies below the floor -/
def Seen (f : Int) (ms added : List Mk) : Prop := ∀ x ∈ added, x ∈ ms ∨ x.t < f
theorem seen_not {z f : Int} {ms added : List Mk} {m : Mk} {now skew : Int} (h : addErr z f ms m now skew = 0) (hs : Seen f ms added) : m ∉ added := by
  intro hm
  obtain ⟨_, _, _, _, h5, h6, _⟩ := add_ok h
  rcases hs m hm with h | h
  · exact h6 h
  · omega
theorem seen_add {z f : Int} {ms added : List Mk} {m : Mk} {now skew : Int} (h : addErr z f ms m now skew = 0) (hs : Seen f ms added) : Seen (floorOf f now skew) (keepM (floorOf f now skew) ms ++ [m]) (added ++ [m]) := by
  obtain ⟨f1, _⟩ := add_floor h
  intro x hx
  rcases List.mem_append.1 hx with hx | hx
  · rcases hs x hx with hx | hx
    · by_cases ht : floorOf f now skew ≤ x.t
      · exact .inl (List.mem_append.2 (.inl (List.mem_filter.2 ⟨hx, by simpa using ht⟩)))
      · exact .inr (by omega)
    · exact .inr (by omega)
  · exact .inl (List.mem_append.2 (.inr hx))
end Go.Proofs.Ytegcdefdkebmnaa
