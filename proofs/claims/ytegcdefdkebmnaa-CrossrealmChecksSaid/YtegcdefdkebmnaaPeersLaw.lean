/- The peers of a realm, in plain words: an ascending list without repeats. -/
import Derived.Test.YtegcdefdkebmnaaCross
import Derived.Sort.KeysCollected
import Derived.Maps.Views
namespace Go.Proofs.Ytegcdefdkebmnaa
open Go.RowKit Go.Maps

def targets (f : ByteArray) (l : List Ck) : List (List UInt8) := (l.filter (fun x => decide (x.fr.toList = f.toList))).map (fun x => x.to.toList)
def insT (t : List UInt8) : List (List UInt8) → List (List UInt8)
  | [] => [t]
  | x :: r => if x < t then x :: insT t r else if x = t then x :: r else t :: x :: r
def peersOf (f : ByteArray) (l : List Ck) : List (List UInt8) := (targets f l).foldl (fun acc t => insT t acc) []
def Asc (l : List (List UInt8)) : Prop := l.Pairwise (fun a b => a < b)

theorem lt_of_not {a b : List UInt8} (h1 : ¬ a < b) (h2 : ¬ a = b) : b < a := by
  apply Classical.byContradiction
  intro h3
  exact h2 (List.le_antisymm (List.not_lt.1 h3) (List.not_lt.1 h1))
theorem mem_insT {t x : List UInt8} : ∀ {l : List (List UInt8)}, x ∈ insT t l ↔ x = t ∨ x ∈ l
  | [] => by simp [insT]
  | y :: r => by
    rw [insT]
    split
    · rw [List.mem_cons, mem_insT, List.mem_cons]
      constructor
      · rintro (h | h | h)
        · exact .inr (.inl h)
        · exact .inl h
        · exact .inr (.inr h)
      · rintro (h | h | h)
        · exact .inr (.inl h)
        · exact .inl h
        · exact .inr (.inr h)
    · split
      · rename_i e
        subst e
        rw [List.mem_cons]
        constructor
        · rintro (h | h)
          · exact .inl h
          · exact .inr (.inr h)
        · rintro (h | h | h)
          · exact .inl h
          · exact .inl h
          · exact .inr h
      · rw [List.mem_cons]
theorem asc_insT {t : List UInt8} : ∀ {l : List (List UInt8)}, Asc l → Asc (insT t l)
  | [], _ => by simp [insT, Asc]
  | y :: r, h => by
    obtain ⟨h1, h2⟩ := List.pairwise_cons.1 h
    rw [insT]
    split
    · rename_i hlt
      refine List.pairwise_cons.2 ⟨fun z hz => ?_, asc_insT h2⟩
      rcases mem_insT.1 hz with rfl | hz
      · exact hlt
      · exact h1 z hz
    · split
      · exact h
      · rename_i hn he
        have hyt := lt_of_not hn he
        refine List.pairwise_cons.2 ⟨fun z hz => ?_, h⟩
        rcases List.mem_cons.1 hz with rfl | hz
        · exact hyt
        · exact List.lt_trans hyt (h1 z hz)
theorem asc_ext : ∀ {a b : List (List UInt8)}, Asc a → Asc b → (∀ x, x ∈ a ↔ x ∈ b) → a = b
  | [], [], _, _, _ => rfl
  | [], y :: b, _, _, h => by have := (h y).2 (by simp); cases this
  | x :: a, [], _, _, h => by have := (h x).1 (by simp); cases this
  | x :: a, y :: b, ha, hb, h => by
    obtain ⟨a1, a2⟩ := List.pairwise_cons.1 ha
    obtain ⟨b1, b2⟩ := List.pairwise_cons.1 hb
    have hxy : x = y := by
      rcases List.mem_cons.1 ((h x).1 (by simp)) with e | hx
      · exact e
      · rcases List.mem_cons.1 ((h y).2 (by simp)) with e | hy
        · exact e.symm
        · exact absurd (List.lt_trans (a1 y hy) (b1 x hx)) (List.lt_irrefl x)
    subst hxy
    rw [asc_ext a2 b2 fun z => ?_]
    constructor
    · intro hz
      rcases List.mem_cons.1 ((h z).1 (by simp [hz])) with e | h3
      · subst e; exact absurd (a1 z hz) (List.lt_irrefl z)
      · exact h3
    · intro hz
      rcases List.mem_cons.1 ((h z).2 (by simp [hz])) with e | h3
      · subst e; exact absurd (b1 z hz) (List.lt_irrefl z)
      · exact h3

theorem fold_asc : ∀ (ts acc : List (List UInt8)), Asc acc → Asc (ts.foldl (fun acc t => insT t acc) acc)
  | [], _, h => h
  | _ :: ts, _, h => fold_asc ts _ (asc_insT h)
theorem fold_mem {x : List UInt8} : ∀ (ts acc : List (List UInt8)), x ∈ ts.foldl (fun acc t => insT t acc) acc ↔ x ∈ ts ∨ x ∈ acc
  | [], acc => by simp
  | t :: ts, acc => by
    rw [List.foldl_cons, fold_mem ts, mem_insT, List.mem_cons]
    constructor
    · rintro (h | h | h)
      · exact .inl (.inr h)
      · exact .inl (.inl h)
      · exact .inr h
    · rintro ((h | h) | h)
      · exact .inr (.inl h)
      · exact .inl h
      · exact .inr (.inr h)
theorem peers_asc (f : ByteArray) (l : List Ck) : Asc (peersOf f l) := fold_asc _ _ List.Pairwise.nil
theorem peers_mem {f : ByteArray} {l : List Ck} {x : List UInt8} : x ∈ peersOf f l ↔ x ∈ targets f l := by
  rw [peersOf, fold_mem]; simp
theorem targets_snoc {f : ByteArray} {l : List Ck} {k : Nat} {x : Ck} (hx : l[k]? = some x) : targets f (l.take (k + 1)) = if x.fr.toList = f.toList then targets f (l.take k) ++ [x.to.toList] else targets f (l.take k) := by
  obtain ⟨hk, rfl⟩ := List.getElem?_eq_some_iff.1 hx
  rw [List.take_succ_eq_append_getElem hk, targets, List.filter_append, List.map_append]
  split <;> rename_i h <;> simp [targets, h]
theorem peers_yes {f : ByteArray} {l : List Ck} {k : Nat} {x : Ck} (hx : l[k]? = some x) (h : x.fr.toList = f.toList) : peersOf f (l.take (k + 1)) = insT x.to.toList (peersOf f (l.take k)) := by
  rw [peersOf, targets_snoc hx, if_pos h, List.foldl_append]; rfl
theorem peers_no {f : ByteArray} {l : List Ck} {k : Nat} {x : Ck} (hx : l[k]? = some x) (h : ¬ x.fr.toList = f.toList) : peersOf f (l.take (k + 1)) = peersOf f (l.take k) := by
  rw [peersOf, targets_snoc hx, if_neg h]; rfl
theorem targets_len (f : ByteArray) (l : List Ck) : (targets f l).length ≤ l.length := by
  rw [targets, List.length_map]; exact List.length_filter_le _ _
theorem insT_len (t : List UInt8) : ∀ l : List (List UInt8), (insT t l).length ≤ l.length + 1
  | [] => by simp [insT]
  | y :: r => by
    have := insT_len t r
    rw [insT]
    split
    · simp; omega
    · split <;> simp
theorem fold_len : ∀ (ts acc : List (List UInt8)), (ts.foldl (fun acc t => insT t acc) acc).length ≤ ts.length + acc.length
  | [], acc => by simp
  | t :: ts, acc => by
    have := fold_len ts (insT t acc)
    have := insT_len t acc
    rw [List.foldl_cons, List.length_cons]; omega
theorem peers_len (f : ByteArray) (l : List Ck) : (peersOf f l).length ≤ l.length := by
  have h1 := fold_len (targets f l) []
  have h2 := targets_len f l
  simp only [List.length_nil] at h1
  rw [peersOf]; omega
/-- the place where t belongs -/
theorem insT_at {t : List UInt8} : ∀ {l : List (List UInt8)} {k : Nat}, k ≤ l.length → (∀ i x, i < k → l[i]? = some x → x < t) → (∀ x, l[k]? = some x → ¬ x < t) →
    (∀ x, l[k]? = some x → ¬ x = t) → insT t l = l.take k ++ t :: l.drop k
  | [], k, hk, _, _, _ => by simp at hk; subst hk; rfl
  | y :: r, 0, _, _, h2, h3 => by rw [insT, if_neg (h2 y rfl), if_neg (h3 y rfl)]; rfl
  | y :: r, k + 1, hk, h1, h2, h3 => by
    rw [insT, if_pos (h1 0 y (by omega) rfl), insT_at (k := k) (by simpa using hk) (fun i x hi hx => h1 (i + 1) x (by omega) (by simpa using hx)) (fun x hx => h2 x (by simpa using hx)) (fun x hx => h3 x (by simpa using hx))]
    rfl
theorem insT_in {t : List UInt8} : ∀ {l : List (List UInt8)} {k : Nat}, (∀ i x, i < k → l[i]? = some x → x < t) → l[k]? = some t → insT t l = l
  | [], k, _, h => by simp at h
  | y :: r, 0, _, h2 => by
    obtain rfl : y = t := by simpa using h2
    rw [insT, if_neg (List.lt_irrefl y), if_pos rfl]
  | y :: r, k + 1, h1, h2 => by
    rw [insT, if_pos (h1 0 y (by omega) rfl), insT_in (k := k) (fun i x hi hx => h1 (i + 1) x (by omega) (by simpa using hx)) (by simpa using h2)]

/-- what is sorted out of a list without repeats -/
theorem asc_sorted {ss : List (List UInt8)} (h : ss.Nodup) : Asc (ss.mergeSort leB) := by
  have tr : ∀ a b c : List UInt8, leB a b = true → leB b c = true → leB a c = true := fun a b c h1 h2 => by simp only [leB, decide_eq_true_eq] at *; exact List.le_trans h1 h2
  have to : ∀ a b : List UInt8, (leB a b || leB b a) = true := fun a b => by simp only [leB, Bool.or_eq_true, decide_eq_true_eq]; exact List.le_total a b
  have hp := List.pairwise_mergeSort tr to ss
  have hn : (ss.mergeSort leB).Nodup := (List.mergeSort_perm ss leB).nodup_iff.2 h
  refine (hp.and hn).imp fun {a b} ⟨h1, h2⟩ => ?_
  simp only [leB, decide_eq_true_eq] at h1
  exact lt_of_not (fun h3 => h1 h3) (fun e => h2 e.symm)
def tset (f : ByteArray) (l : List Ck) : DataW Unit := setOf (.lit (.bool true)) ((targets f l).map Lit.string)
theorem tset_nil (f : ByteArray) (l : List Ck) : tset f (l.take 0) = .map [] := by simp [tset, targets, setOf]
theorem tset_yes {f : ByteArray} {l : List Ck} {k : Nat} {x : Ck} (hx : l[k]? = some x) (h : x.fr.toList = f.toList) : tset f (l.take (k + 1)) = (tset f (l.take k)).put (.string x.to.toList) (.lit (.bool true)) := by
  rw [tset, targets_snoc hx, if_pos h, List.map_append, List.map_singleton, setOf_snoc]; rfl
theorem tset_no {f : ByteArray} {l : List Ck} {k : Nat} {x : Ck} (hx : l[k]? = some x) (h : ¬ x.fr.toList = f.toList) : tset f (l.take (k + 1)) = tset f (l.take k) := by
  rw [tset, targets_snoc hx, if_neg h]; rfl
theorem tset_has (f : ByteArray) (l : List Ck) (x : List UInt8) : has (tset f l) (.string x) = true ↔ x ∈ targets f l := by
  rw [tset, has_setOf _ _ _ (fun y hy => by obtain ⟨_, _, rfl⟩ := List.mem_map.1 hy; trivial), List.any_eq_true]
  constructor
  · rintro ⟨y, hy, hs⟩
    obtain ⟨z, hz, rfl⟩ := List.mem_map.1 hy
    have : z = x := by simpa [Lit.sameKey] using hs
    exact this ▸ hz
  · intro hx
    exact ⟨.string x, List.mem_map.2 ⟨x, hx, rfl⟩, by simp [Lit.sameKey]⟩
/-- what the program has collected and sorted -/
theorem peers_sorted {f : ByteArray} {l : List Ck} {left : Lit → Bool} {ss : List (List UInt8)} (h : Collected (tset f l) left ss) (hl : ∀ kl, left kl = false) : ss.mergeSort leB = peersOf f l := by
  refine asc_ext (asc_sorted h.1) (peers_asc f l) fun x => ?_
  rw [peers_mem, (List.mergeSort_perm ss leB).mem_iff, h.2 x, hl, tset_has]
  simp
end Go.Proofs.Ytegcdefdkebmnaa
