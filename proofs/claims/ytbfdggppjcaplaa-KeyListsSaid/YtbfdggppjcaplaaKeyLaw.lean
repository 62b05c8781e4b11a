/- Ascending lists of keys, in plain words: what sorting and compacting a list with one key more gives. -/
import Derived.Test.YtbfdggppjcaplaaListRef
import Derived.Lib.SlicesCompact
namespace Go.Proofs.Ytbfdggppjcaplaa
open Go.RowKit Go.Lib

def AscI (l : List Int) : Prop := l.Pairwise (fun a b => a < b)
theorem ascI_ext : ∀ {a b : List Int}, AscI a → AscI b → (∀ x, x ∈ a ↔ x ∈ b) → a = b
  | [], [], _, _, _ => rfl
  | [], y :: b, _, _, h => by have := (h y).2 (by simp); cases this
  | x :: a, [], _, _, h => by have := (h x).1 (by simp); cases this
  | x :: a, y :: b, ha, hb, h => by
    obtain ⟨a1, a2⟩ := List.pairwise_cons.1 ha
    obtain ⟨b1, b2⟩ := List.pairwise_cons.1 hb
    have hxy : x = y := by
      rcases List.mem_cons.1 ((h x).1 (by simp)) with e | hx
      · exact e
      · rcases List.mem_cons.1 ((h y).2 (by simp)) with e | hy
        · exact e.symm
        · have := a1 y hy; have := b1 x hx; omega
    subst hxy
    rw [ascI_ext a2 b2 fun z => ?_]
    constructor
    · intro hz
      rcases List.mem_cons.1 ((h z).1 (by simp [hz])) with e | h3
      · subst e; have := a1 z hz; omega
      · exact h3
    · intro hz
      rcases List.mem_cons.1 ((h z).2 (by simp [hz])) with e | h3
      · subst e; have := b1 z hz; omega
      · exact h3
theorem addTo_mem {l : List Int} {k x : Int} : x ∈ addTo l k ↔ x = k ∨ x ∈ l := by
  constructor
  · exact mem_addTo
  · intro h
    unfold addTo
    split
    · rename_i hk
      rcases h with rfl | h
      · exact List.mem_of_getElem? hk
      · exact h
    · rw [List.mem_append, List.mem_cons]
      rcases h with rfl | h
      · exact .inr (.inl rfl)
      · rw [← List.take_append_drop (lowN l k) l, List.mem_append] at h
        rcases h with h | h
        · exact .inl h
        · exact .inr (.inr h)
theorem lowN_cons (y : Int) (r : List Int) (k : Int) : lowN (y :: r) k = if y < k then lowN r k + 1 else 0 := by
  unfold lowN
  rw [List.takeWhile_cons]
  by_cases h : y < k <;> simp [h]
theorem addTo_cons (y : Int) (r : List Int) (k : Int) : addTo (y :: r) k = if y < k then y :: addTo r k else if y = k then y :: r else k :: y :: r := by
  unfold addTo
  rw [lowN_cons]
  by_cases h : y < k
  · rw [if_pos h, if_pos h, List.getElem?_cons_succ, List.take_succ_cons, List.drop_succ_cons]
    split <;> rfl
  · rw [if_neg h, if_neg h]
    by_cases e : y = k
    · simp [e]
    · simp [e]
theorem addTo_asc {k : Int} : ∀ {l : List Int}, AscI l → AscI (addTo l k)
  | [], _ => by simp [addTo, AscI]
  | y :: r, h => by
    obtain ⟨h1, h2⟩ := List.pairwise_cons.1 h
    rw [addTo_cons]
    split
    · rename_i hlt
      refine List.pairwise_cons.2 ⟨fun z hz => ?_, addTo_asc h2⟩
      rcases addTo_mem.1 hz with rfl | hz
      · exact hlt
      · exact h1 z hz
    · split
      · exact h
      · rename_i hn he
        refine List.pairwise_cons.2 ⟨fun z hz => ?_, h⟩
        rcases List.mem_cons.1 hz with rfl | hz
        · omega
        · have := h1 z hz; omega
theorem fold_asc : ∀ (l acc : List Int), AscI acc → AscI (l.foldl (fun acc x => addTo acc (keyAt x)) acc)
  | [], _, h => h
  | _ :: l, _, h => fold_asc l _ (addTo_asc h)
theorem listOf_asc (l : List Int) : AscI (listOf l) := fold_asc l [] List.Pairwise.nil

/-- the part of a list that is compacted -/
theorem comp_facts (zs : List Int) (hs : zs.Pairwise (fun a b => a ≤ b)) : ∀ m, m ≤ zs.length →
    AscI (compactUpTo zs.toArray m) ∧ (∀ x, x ∈ compactUpTo zs.toArray m ↔ x ∈ zs.take m)
  | 0, _ => by simp [compactUpTo, AscI]
  | m + 1, hm => by
    obtain ⟨h1, h2⟩ := comp_facts zs hs m (by omega)
    have hget : zs.toArray[m]! = zs[m] := by simp [getElem!_pos, show m < zs.length by omega]
    rw [compactUpTo_succ, List.take_succ_eq_append_getElem (by omega), hget]
    cases hk : keeps zs.toArray m
    · have hmem : zs[m] ∈ zs.take m := by
        have hk' : ¬ (m = 0 ∨ zs.toArray[m]! ≠ zs.toArray[m - 1]!) := by simpa [keeps] using hk
        have h0 : m ≠ 0 := fun e => hk' (.inl e)
        have he : zs.toArray[m]! = zs.toArray[m - 1]! := Classical.byContradiction fun e => hk' (.inr e)
        rw [hget] at he
        have hg2 : zs.toArray[m - 1]! = zs[m - 1] := by simp [getElem!_pos, show m - 1 < zs.length by omega]
        rw [he, hg2]
        exact List.mem_iff_getElem.2 ⟨m - 1, by simp; omega, by simp⟩
      simp only [Bool.false_eq_true, if_false, List.append_nil]
      refine ⟨h1, fun x => ?_⟩
      rw [h2 x, List.mem_append, List.mem_singleton]
      constructor
      · exact .inl
      · rintro (h | rfl)
        · exact h
        · exact hmem
    · simp only [if_true]
      refine ⟨List.pairwise_append.2 ⟨h1, by simp, fun a ha b hb => ?_⟩, fun x => by rw [List.mem_append, List.mem_append, h2 x]⟩
      rw [List.mem_singleton.1 hb]
      obtain ⟨i, hi, rfl⟩ := List.mem_iff_getElem.1 ((h2 a).1 ha)
      have him : i < m := by simp at hi; omega
      rw [List.getElem_take]
      have hk' : m = 0 ∨ zs.toArray[m]! ≠ zs.toArray[m - 1]! := by simpa [keeps] using hk
      have hg2 : zs.toArray[m - 1]! = zs[m - 1] := by simp [getElem!_pos, show m - 1 < zs.length by omega]
      have hne : zs[m] ≠ zs[m - 1] := by
        rcases hk' with h | h
        · omega
        · rwa [hget, hg2] at h
      have hP := List.pairwise_iff_getElem.1 hs
      have h3 := hP (m - 1) m (by omega) (by omega) (by omega)
      by_cases e : i = m - 1
      · subst e; omega
      · have h4 := hP i (m - 1) (by omega) (by omega) (by omega)
        omega
theorem comp_add {l : List Int} {k : Int} (h : AscI l) : compact ((l ++ [k]).mergeSort fun x y => decide (x ≤ y)) = addTo l k := by
  have tr : ∀ a b c : Int, decide (a ≤ b) = true → decide (b ≤ c) = true → decide (a ≤ c) = true := fun a b c h1 h2 => by simp at *; omega
  have tot : ∀ a b : Int, (decide (a ≤ b) || decide (b ≤ a)) = true := fun a b => by simp; omega
  have hp := List.pairwise_mergeSort tr tot (l ++ [k])
  have hm : ∀ x, x ∈ (l ++ [k]).mergeSort (fun x y => decide (x ≤ y)) ↔ x ∈ l ++ [k] := fun x => (List.mergeSort_perm (l ++ [k]) _).mem_iff
  generalize (l ++ [k]).mergeSort (fun x y => decide (x ≤ y)) = zs at *
  obtain ⟨c1, c2⟩ := comp_facts zs (hp.imp fun {a b} h => by simpa using h) zs.length (Nat.le_refl _)
  refine ascI_ext c1 (addTo_asc h) fun x => ?_
  show x ∈ compactUpTo zs.toArray zs.length ↔ _
  rw [c2 x, List.take_length, hm x, addTo_mem, List.mem_append, List.mem_singleton]
  constructor
  · rintro (h | h)
    · exact .inr h
    · exact .inl h
  · rintro (h | h)
    · exact .inr h
    · exact .inl h
theorem asc_at' {l : List Int} (h : AscI l) {i : Nat} (hi : i + 1 < l.length) : l[i]?.getD 0 < l[i + 1]?.getD 0 := by
  have := (List.pairwise_iff_getElem.1 h) i (i + 1) (by omega) hi (by omega)
  simpa [List.getElem?_eq_getElem hi, List.getElem?_eq_getElem (show i < l.length by omega)] using this
end Go.Proofs.Ytbfdggppjcaplaa
