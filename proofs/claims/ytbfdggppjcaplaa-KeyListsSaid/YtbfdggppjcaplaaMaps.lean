/- A map[K]bool that the call makes and asks by 'm[k]': the laws that the kit lacks. -/
import Derived.Test.YtbfdggppjcaplaaBase
import Derived.Maps.OwnOps
import Derived.Maps.Views
namespace Go.Proofs.Ytbfdggppjcaplaa
open Go.RowKit Go.Maps

theorem run_makeMap_hint {P : Program} {t k e : TypeId} (h : P.underlying t = some (.map k e)) (q : IntKind) (n : Int) (w : World) :
    (Instr.makeMap t (some (.int q n))).run P w = .ok (.map (some w.heap.size)) (w.alloc (.map #[] 0)) := by
  simp [Instr.makeMap, run_underlying h, asInt, asIntOf, Result.andThen]

theorem plainElem_bool_inv {H : Type} {P : Program} {e : TypeId} (he : P.underlying e = some .bool) {v : Value} {z : DataW H × List MemPlace} (h : plainElem P e v = some z) : ∃ x, v = .bool x ∧ z = (.lit (.bool x), []) := by
  unfold plainElem at h
  rw [he] at h
  cases v <;> simp at h
  exact ⟨_, rfl, h.symm⟩

/-- the set's datum: every key bears 'true' -/
def keySet (ks : List Lit) : DataW Unit := setOf (.lit (.bool true)) ks
theorem keySet_snoc (ks : List Lit) (k : Lit) : keySet (ks ++ [k]) = (keySet ks).put k (.lit (.bool true)) := setOf_snoc _ _ _
theorem atKey_fold (k : Lit) (hk : WideAt.IsKeyLit k) : ∀ (ks : List Lit) (m : DataW Unit), IsMap m → (k ∈ ks → (ks.foldl (fun m x => m.put x (.lit (.bool true))) m).atKey k (.lit (.bool false)) = .lit (.bool true)) ∧ (k ∉ ks → (ks.foldl (fun m x => m.put x (.lit (.bool true))) m).atKey k (.lit (.bool false)) = m.atKey k (.lit (.bool false)))
  | [], _, _ => by simp
  | a :: ks, m, h => by
    have ih := atKey_fold k hk ks _ (h.put a (.lit (.bool true)))
    rw [List.foldl_cons]
    constructor
    · intro hmem
      by_cases h1 : k ∈ ks
      · exact ih.1 h1
      · obtain rfl : k = a := by simpa [h1] using hmem
        rw [ih.2 h1, atKey_put_same h hk]
    · intro hno
      simp only [List.mem_cons, not_or] at hno
      rw [ih.2 hno.2, atKey_put_other (hne := hno.1)]
theorem atKey_keySet {k : Lit} (hk : WideAt.IsKeyLit k) (ks : List Lit) (c : Bool) (h : (keySet ks).atKey k (.lit (.bool false)) = .lit (.bool c)) : c = true ↔ k ∈ ks := by
  have := atKey_fold k hk ks (.map []) isMap_empty
  unfold keySet setOf at h
  constructor
  · intro hc
    subst hc
    apply Classical.byContradiction
    intro hno
    rw [this.2 hno] at h
    simp [DataW.atKey] at h
  · intro hy
    rw [this.1 hy] at h
    simpa using h.symm

theorem wpList_lookup_own_bool {P : Program} (w : World) {ops : Array Oper} {rest : List Oper} {o : Oper} {a : Act} {Q : Exit → Act → World → Prop}
    (hg : o.guard = none) (m x : Operand) (t : TypeId) (hop : o.op = Op.lookup t m x false)
    (k e : TypeId) (K : Keyed P k) (ht : P.underlying t = some (.map k e)) (he : P.underlying e = some .bool) (hz : (zeroValue e).run P w = .ok (.bool false) w) (b n : Nat) (ks : List Lit)
    (hm : a.eval m = .map (some b)) (hown : w.ownsMap P k (plainElem P e) b n (keySet ks)) (key : Value) (kl : Lit) (hx : a.eval x = key) (hkey : keyOf P k key = some kl) (hkl : WideAt.IsKeyLit kl)
    (hK : ∀ c : Bool, (c = true ↔ kl ∈ ks) → wpList P ops Q rest (a.put o.dst (.bool c)) w) :
    wpList P ops Q (o :: rest) a w := by
  refine wpList_plain hg fun K' hK' => ?_
  obtain ⟨v, ps, hrun, hv⟩ := hown.lookup K ht hz (plainElem_bool he false) hkey
  obtain ⟨c, rfl, hc⟩ := plainElem_bool_inv he hv
  simp only [Prod.mk.injEq] at hc
  unfold Oper.wp
  simp [execOp, hop, hm, hx, hrun, Result.andThen]
  exact hK' _ _ (hK c (atKey_keySet hkl ks c hc.1))

end Go.Proofs.Ytbfdggppjcaplaa
