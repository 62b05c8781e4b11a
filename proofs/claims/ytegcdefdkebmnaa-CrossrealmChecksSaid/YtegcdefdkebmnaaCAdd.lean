/- Contracts of crossrealm.Add and of the reference's Add. -/
import Derived.Test.YtegcdefdkebmnaaCCheck
import Derived.Test.YtegcdefdkebmnaaConcat
import Derived.Test.YtegcdefdkebmnaaAddDef
namespace Go.Proofs.Ytegcdefdkebmnaa
open Go.RowKit

theorem Src.of_frow {w : World} {a : Option Addr} {len sz : Nat} {cs : List Value} (h : FRow w a len sz cs) : Src w a cs := by
  by_cases h0 : len = 0
  · have : cs = [] := List.eq_nil_of_length_eq_zero (by rw [h.1, h0]; simp)
    subst this
    cases a with
    | none => exact .inl ⟨rfl, rfl⟩
    | some x => exact .inr ⟨x, rfl, fun j u hu => by simp at hu⟩
  · rcases h.2 with h3 | ⟨b, off, rfl, hc⟩
    · exact absurd h3 h0
    · refine .inr ⟨_, rfl, fun j u hu => ?_⟩
      have hj : j < cs.length := (List.getElem?_eq_some_iff.1 hu).1
      rw [Addr.add_plain, hc j hj]
      exact hu
theorem frow_nil {w : World} {a : Option Addr} {len sz cap : Nat} {cs : List Value} (h : FRow w a len sz cs) (hn : a = none → cap = 0) : a = none → len = 0 ∧ cap = 0 := by
  intro e
  refine ⟨?_, hn e⟩
  rcases h.2 with h3 | ⟨b, off, h3, _⟩
  · exact h3
  · rw [e] at h3; cases h3
theorem Src.cells4 (w : World) (T : TypeId) (a b c d : Value) : Src (w.alloc (.cells #[a, b, c, d] T)) (some ⟨w.heap.size, 0, none⟩) [a, b, c, d] :=
  .inr ⟨_, rfl, fun j u hu => World.news_of_block (heap_alloc_new w (.cells #[a, b, c, d] T)) j u hu⟩
theorem one_ck (m : Ck) : ∀ u ∈ m.cells, u.oneCell' = true := by
  intro u hu
  simp only [Ck.cells, List.mem_cons, List.not_mem_nil, or_false] at hu
  rcases hu with rfl | rfl | rfl | rfl <;> rfl
theorem one_cks (ms : List Ck) : ∀ u ∈ ccells ms, u.oneCell' = true := by
  intro u hu
  obtain ⟨m, _, hm⟩ := List.mem_flatMap.1 hu
  exact one_ck m u hm
theorem ccells_snoc (ms : List Ck) (m : Ck) : ccells (ms ++ [m]) = ccells ms ++ m.cells := by simp [ccells]
def addL (ms : List Ck) (x : Ck) : List Ck := if crErr (ms ++ [x]) = 0 then ms ++ [x] else []
def CAddPost (ms : List Ck) (x : Ck) (w : World) (e : Ending) (w' : World) : Prop :=
  ∃ v, e = .returned (.tuple #[v, .int .i64 (crErr (ms ++ [x]))]) ∧ w'.ownsRow w.heap.size 54 4 v (addL ms x).length (ccells (addL ms x)) ∧ Below w.heap.size w w'
theorem cadd_yes {ms : List Ck} {x : Ck} {w X : World} {v : Value} {n : Nat} {e : Int} (h : crErr (ms ++ [x]) = e) (h0 : e = 0) (hn : ms.length + 1 = n) (ho : X.ownsRow w.heap.size 54 4 v n (ccells (ms ++ [x]))) (hb : Below w.heap.size w X) : CAddPost ms x w (.returned (.tuple #[v, .int .i64 0])) X := by
  subst h0
  have hl : addL ms x = ms ++ [x] := by rw [addL, if_pos h]
  refine ⟨v, by rw [h], ?_, hb⟩
  rw [hl]
  subst hn
  simpa using ho
theorem cadd_no {ms : List Ck} {x : Ck} {w X : World} {e : Int} (h : crErr (ms ++ [x]) = e) (h0 : ¬ e = 0) (hb : Below w.heap.size w X) : CAddPost ms x w (.returned (.tuple #[.slice none 0 0, .int .i64 e])) X := by
  have hl : addL ms x = [] := by rw [addL, if_neg (by rw [h]; exact h0)]
  refine ⟨_, by rw [h], ?_, hb⟩
  rw [hl]
  exact World.ownsRow_nil _ _ _ _
theorem ok_snoc {ms : List Ck} {x : Ck} (h : ∀ m ∈ ms, m.ok) (hx : x.ok) : ∀ m ∈ ms ++ [x], m.ok := by
  intro m hm
  rcases List.mem_append.1 hm with h1 | h1
  · exact h m h1
  · rw [List.mem_singleton.1 h1]; exact hx
theorem own_e0 (w : World) (T : TypeId) (size : Nat) : (w.alloc (.cells #[] T)).ownsRow w.heap.size T size (.slice (some ⟨w.heap.size, 0, none⟩) 0 0) 0 [] := by
  have := World.ownsRow_lit (base := w.heap.size) (e := T) (size := size) w #[] 0 (Nat.le_refl _) (by unfold maxLen; omega) (by simp)
  simpa using this

set_option maxRecDepth 100000 in
set_option maxHeartbeats 4000000 in
theorem crAdd_any (a : Option Addr) (len cap : Nat) (ms : List Ck) (x : Ck) (w : World) (hr : FRow w a len 4 (ccells ms)) (hok : ∀ m ∈ ms, m.ok) (hxo : x.ok) (hnil : a = none → cap = 0) (hl : len ≤ 100000) :
    Calls Try.prog 29 #[.slice a len cap, .agg #[.string x.fr, .string x.to, .int .i64 x.kv, .int .u64 x.ky]] w (CAddPost ms x w) := by
  have HR := Lib.hid hr
  have HL := Lib.hid hr.clen
  have HOK := Lib.hid (ok_snoc hok hxo)
  have HN1 : Hid (a = none → len = 0 ∧ cap = 0) := Lib.hid (frow_nil hr hnil)
  clear hr hok hxo hnil
  go_enter Try.func29, Try.ntmps29
  go_wp2_with fail
  have HB3 : Hid (Below w.heap.size w (((w.alloc (.cells #[.string x.fr, .string x.to, .int .i64 x.kv, .int .u64 x.ky] 54)).alloc (.cells #[.string x.fr, .string x.to, .int .i64 x.kv, .int .u64 x.ky] 54)).alloc (.cells #[.slice a len cap, .slice (some ⟨w.heap.size + 1, 0, none⟩) 1 1] 49))) := Lib.hid (bthen (bthen (Below.alloc1 _ _) (Below.alloc1 _ _)) (Below.alloc1 _ _))
  have HS2 : Hid (Src (((w.alloc (.cells #[.string x.fr, .string x.to, .int .i64 x.kv, .int .u64 x.ky] 54)).alloc (.cells #[.string x.fr, .string x.to, .int .i64 x.kv, .int .u64 x.ky] 54)).alloc (.cells #[.slice a len cap, .slice (some ⟨w.heap.size + 1, 0, none⟩) 1 1] 49)) (some ⟨w.heap.size + 1, 0, none⟩) x.cells) := Lib.hid (by
    have h := (Src.cells4 (w.alloc (.cells #[.string x.fr, .string x.to, .int .i64 x.kv, .int .u64 x.ky] 54)) 54 (.string x.fr) (.string x.to) (.int .i64 x.kv) (.int .u64 x.ky)).below (Below.alloc1 _ (.cells #[.slice a len cap, .slice (some ⟨w.heap.size + 1, 0, none⟩) 1 1] 49))
    have e : (w.alloc (.cells #[.string x.fr, .string x.to, .int .i64 x.kv, .int .u64 x.ky] 54)).heap.size = w.heap.size + 1 := by simp
    rw [e] at h
    exact h)
  have HC0 : Hid ((((w.alloc (.cells #[.string x.fr, .string x.to, .int .i64 x.kv, .int .u64 x.ky] 54)).alloc (.cells #[.string x.fr, .string x.to, .int .i64 x.kv, .int .u64 x.ky] 54)).alloc (.cells #[.slice a len cap, .slice (some ⟨w.heap.size + 1, 0, none⟩) 1 1] 49)).cell? ⟨w.heap.size + 2, 0, none⟩ = some (.slice a len cap)) := Lib.hid ((by simp : ((w.alloc (.cells #[.string x.fr, .string x.to, .int .i64 x.kv, .int .u64 x.ky] 54)).alloc (.cells #[.string x.fr, .string x.to, .int .i64 x.kv, .int .u64 x.ky] 54)).heap.size = w.heap.size + 2) ▸ cell_new ((w.alloc (.cells #[.string x.fr, .string x.to, .int .i64 x.kv, .int .u64 x.ky] 54)).alloc (.cells #[.string x.fr, .string x.to, .int .i64 x.kv, .int .u64 x.ky] 54)) #[.slice a len cap, .slice (some ⟨w.heap.size + 1, 0, none⟩) 1 1] 49 0)
  have HC1 : Hid ((((w.alloc (.cells #[.string x.fr, .string x.to, .int .i64 x.kv, .int .u64 x.ky] 54)).alloc (.cells #[.string x.fr, .string x.to, .int .i64 x.kv, .int .u64 x.ky] 54)).alloc (.cells #[.slice a len cap, .slice (some ⟨w.heap.size + 1, 0, none⟩) 1 1] 49)).cell? ⟨w.heap.size + 2, 1, none⟩ = some (.slice (some ⟨w.heap.size + 1, 0, none⟩) 1 1)) := Lib.hid ((by simp : ((w.alloc (.cells #[.string x.fr, .string x.to, .int .i64 x.kv, .int .u64 x.ky] 54)).alloc (.cells #[.string x.fr, .string x.to, .int .i64 x.kv, .int .u64 x.ky] 54)).heap.size = w.heap.size + 2) ▸ cell_new ((w.alloc (.cells #[.string x.fr, .string x.to, .int .i64 x.kv, .int .u64 x.ky] 54)).alloc (.cells #[.string x.fr, .string x.to, .int .i64 x.kv, .int .u64 x.ky] 54)) #[.slice a len cap, .slice (some ⟨w.heap.size + 1, 0, none⟩) 1 1] 49 1)
  refine (concat_any (w.heap.size + 2) a len cap (ccells ms) ⟨w.heap.size + 1, 0, none⟩ x.cells _ HC0.out HC1.out ((Src.of_frow HR.out).below HB3.out) (by rw [ccells_len, HL.out]) (one_cks ms) HN1.out HS2.out rfl (one_ck x) (by omega)).mono ?_
  rintro e y ⟨v, rfl, ho, hb⟩
  rw [← ccells_snoc] at ho
  have HO := Lib.hid (ownsRow_base ho HB3.out.size)
  have HB := Lib.hid (bthen HB3.out hb)
  obtain ⟨va, vc, rfl, hv1, hv2⟩ := own_isz ho
  unfold maxLen at hv2
  clear ho hb
  have HCK : Hid (Calls Try.prog 27 #[.slice va (len + 1) vc] y fun e w' => e = .returned (.int .i64 (crErr (ms ++ [x]))) ∧ Below y.heap.size y w') := Lib.hid (crCheck_any _ _ _ _ _ (own_frow HO.out) HOK.out hv1 hv2)
  obtain ⟨e, HE⟩ : ∃ e, Hid (crErr (ms ++ [x]) = e) := ⟨_, rfl⟩
  rw [HE.out] at HCK
  by_cases h0 : e = 0
  · have h0' : (e == 0) = true := by simpa using h0
    have h0'' : (e != 0) = false := by simpa using h0
    have H0 := Lib.hid h0
    clear h0
    go_wp2_with (go_at_call 27; refine HCK.out.mono ?_; rintro e' w' ⟨rfl, hb⟩; have HB4 := Lib.hid hb; clear hb)
    go_ret2
    exact cadd_yes HE.out H0.out (by rw [HL.out]) (ownsRow_below HO.out HB4.out) (bthen HB.out HB4.out)
  · have h0' : (e == 0) = false := by simpa using h0
    have h0'' : (e != 0) = true := by simpa using h0
    have H0 := Lib.hid h0
    clear h0
    go_wp2_with (go_at_call 27; refine HCK.out.mono ?_; rintro e' w' ⟨rfl, hb⟩; have HB4 := Lib.hid hb; clear hb)
    go_ret2
    exact cadd_no HE.out H0.out (bthen HB.out HB4.out)

set_option maxRecDepth 100000 in
set_option maxHeartbeats 4000000 in
theorem refCrAdd_any (a : Option Addr) (len cap : Nat) (ms : List Ck) (x : Ck) (w : World) (hr : FRow w a len 4 (ccells ms)) (hok : ∀ m ∈ ms, m.ok) (hxo : x.ok) (hnil : a = none → cap = 0) (hl : len ≤ 100000) :
    Calls Try.prog 30 #[.slice a len cap, .agg #[.string x.fr, .string x.to, .int .i64 x.kv, .int .u64 x.ky]] w (CAddPost ms x w) := by
  have HL := Lib.hid hr.clen
  have HOK := Lib.hid (ok_snoc hok hxo)
  have HN1 : Hid (a = none → len = 0 ∧ cap = 0) := Lib.hid (frow_nil hr hnil)
  have HWW : Hid (Below w.heap.size w (w.alloc (.cells #[.string x.fr, .string x.to, .int .i64 x.kv, .int .u64 x.ky] 54))) := Lib.hid (Below.alloc1 _ _)
  have HST := Lib.hid ((Src.of_frow hr).below HWW.out)
  have HLT : Hid ((ccells ms).length = len * 4) := Lib.hid (by rw [ccells_len, HL.out])
  clear hr hok hxo hnil
  obtain ⟨i0, hi, hz0, hz1, hz2⟩ := info_parts info_el
  have HI0 := Lib.hid (And.intro hi (And.intro hz0 (And.intro hz1 hz2)))
  clear hi hz0 hz1 hz2
  go_enter Try.func30, Try.ntmps30
  go_upto_region 1 with fail
  go_cut [6] (fun v wx => ∃ va vc, v = .slice va (len + 1) vc ∧ len + 1 ≤ vc ∧ vc ≤ 9223372036854775807 ∧ Hid (wx.ownsRow w.heap.size 54 4 (.slice va (len + 1) vc) (len + 1) (ccells (ms ++ [x])) ∧ Below w.heap.size w wx))
  case first =>
    have HWa : Hid (Below w.heap.size w (((w.alloc (.cells #[.string x.fr, .string x.to, .int .i64 x.kv, .int .u64 x.ky] 54)).alloc (.cells #[] 54))).drew) := Lib.hid (bthen HWW.out (Below.alloc1 _ _)).drew
    have HWb : Hid (Below w.heap.size w ((((w.alloc (.cells #[.string x.fr, .string x.to, .int .i64 x.kv, .int .u64 x.ky] 54)).alloc (.cells #[] 54)).alloc (.cells #[.string x.fr, .string x.to, .int .i64 x.kv, .int .u64 x.ky] 54))).drew) := Lib.hid (bthen (bthen HWW.out (Below.alloc1 _ _)) (Below.alloc1 _ _)).drew
    have HWc : Hid (Below w.heap.size w ((((w.alloc (.cells #[.string x.fr, .string x.to, .int .i64 x.kv, .int .u64 x.ky] 54)).alloc (.cells #[.string x.fr, .string x.to, .int .i64 x.kv, .int .u64 x.ky] 54)).alloc (.cells #[] 54))).drew) := Lib.hid (bthen (bthen HWW.out (Below.alloc1 _ _)) (Below.alloc1 _ _)).drew
    have HSa : Hid (Src (((w.alloc (.cells #[.string x.fr, .string x.to, .int .i64 x.kv, .int .u64 x.ky] 54)).alloc (.cells #[] 54))).drew a (ccells ms)) := Lib.hid ((HST.out.below (Below.alloc1 _ _)).below (Below.drewN1 _ 1 _))
    have HSb : Hid (Src ((((w.alloc (.cells #[.string x.fr, .string x.to, .int .i64 x.kv, .int .u64 x.ky] 54)).alloc (.cells #[] 54)).alloc (.cells #[.string x.fr, .string x.to, .int .i64 x.kv, .int .u64 x.ky] 54))).drew a (ccells ms)) := Lib.hid (((HST.out.below (Below.alloc1 _ _)).below (Below.alloc1 _ _)).below (Below.drewN1 _ 1 _))
    have HSc : Hid (Src ((((w.alloc (.cells #[.string x.fr, .string x.to, .int .i64 x.kv, .int .u64 x.ky] 54)).alloc (.cells #[.string x.fr, .string x.to, .int .i64 x.kv, .int .u64 x.ky] 54)).alloc (.cells #[] 54))).drew a (ccells ms)) := Lib.hid (((HST.out.below (Below.alloc1 _ _)).below (Below.alloc1 _ _)).below (Below.drewN1 _ 1 _))
    have HOa : Hid ((((w.alloc (.cells #[.string x.fr, .string x.to, .int .i64 x.kv, .int .u64 x.ky] 54)).alloc (.cells #[] 54))).drew.ownsRow w.heap.size 54 4 (.slice (some ⟨w.heap.size + 1, 0, none⟩) 0 0) 0 []) := Lib.hid (by have := ownsRow_base (base' := w.heap.size) (own_e0 (w.alloc (.cells #[.string x.fr, .string x.to, .int .i64 x.kv, .int .u64 x.ky] 54)) 54 4) (by simp); simp at this; exact this)
    have HOb : Hid (((((w.alloc (.cells #[.string x.fr, .string x.to, .int .i64 x.kv, .int .u64 x.ky] 54)).alloc (.cells #[] 54)).alloc (.cells #[.string x.fr, .string x.to, .int .i64 x.kv, .int .u64 x.ky] 54))).drew.ownsRow w.heap.size 54 4 (.slice (some ⟨w.heap.size + 1, 0, none⟩) 0 0) 0 []) := Lib.hid (by have := (ownsRow_base (base' := w.heap.size) (own_e0 (w.alloc (.cells #[.string x.fr, .string x.to, .int .i64 x.kv, .int .u64 x.ky] 54)) 54 4) (by simp)).alloc (.cells #[.string x.fr, .string x.to, .int .i64 x.kv, .int .u64 x.ky] 54); simp at this; exact this)
    have HOc : Hid (((((w.alloc (.cells #[.string x.fr, .string x.to, .int .i64 x.kv, .int .u64 x.ky] 54)).alloc (.cells #[.string x.fr, .string x.to, .int .i64 x.kv, .int .u64 x.ky] 54)).alloc (.cells #[] 54))).drew.ownsRow w.heap.size 54 4 (.slice (some ⟨w.heap.size + 2, 0, none⟩) 0 0) 0 []) := Lib.hid (by have := ownsRow_base (base' := w.heap.size) (own_e0 ((w.alloc (.cells #[.string x.fr, .string x.to, .int .i64 x.kv, .int .u64 x.ky] 54)).alloc (.cells #[.string x.fr, .string x.to, .int .i64 x.kv, .int .u64 x.ky] 54)) 54 4) (by simp; omega); simp at this; exact this)
    have HKb : Hid (Src ((((w.alloc (.cells #[.string x.fr, .string x.to, .int .i64 x.kv, .int .u64 x.ky] 54)).alloc (.cells #[] 54)).alloc (.cells #[.string x.fr, .string x.to, .int .i64 x.kv, .int .u64 x.ky] 54))).drew (some ⟨w.heap.size + 2, 0, none⟩) x.cells) := Lib.hid (by have := Src.cells4 (((w.alloc (.cells #[.string x.fr, .string x.to, .int .i64 x.kv, .int .u64 x.ky] 54)).alloc (.cells #[] 54))) 54 (.string x.fr) (.string x.to) (.int .i64 x.kv) (.int .u64 x.ky); simp at this; exact this)
    have HKc : Hid (Src ((((w.alloc (.cells #[.string x.fr, .string x.to, .int .i64 x.kv, .int .u64 x.ky] 54)).alloc (.cells #[.string x.fr, .string x.to, .int .i64 x.kv, .int .u64 x.ky] 54)).alloc (.cells #[] 54))).drew (some ⟨w.heap.size + 1, 0, none⟩) x.cells) := Lib.hid (by have := (Src.cells4 (w.alloc (.cells #[.string x.fr, .string x.to, .int .i64 x.kv, .int .u64 x.ky] 54)) 54 (.string x.fr) (.string x.to) (.int .i64 x.kv) (.int .u64 x.ky)).below (Below.alloc1 _ (.cells #[] 54)); simp at this; exact this)
    have HZ1 : Hid (∀ q, some (w.heap.size + 1) = some q → w.heap.size ≤ q) := Lib.hid (fun q hq => by cases hq; omega)
    have HZ2 : Hid (∀ q, some (w.heap.size + 2) = some q → w.heap.size ≤ q) := Lib.hid (fun q hq => by cases hq; omega)
    have HNb : Hid (∀ y : Addr, some (⟨w.heap.size + 2, 0, none⟩ : Addr) = some y → some y.block ≠ some (w.heap.size + 1)) := Lib.hid (fun y hy => by cases hy; simp)
    have HNc : Hid (∀ y : Addr, some (⟨w.heap.size + 1, 0, none⟩ : Addr) = some y → some y.block ≠ some (w.heap.size + 2)) := Lib.hid (fun y hy => by cases hy; simp)
    have HFX : Hid (∀ X, Below w.heap.size w X → True) := Lib.hid (fun _ _ => trivial)
    have c0 : (w.alloc (.cells #[.string x.fr, .string x.to, .int .i64 x.kv, .int .u64 x.ky] 54)).cell? ⟨w.heap.size, 0, none⟩ = some (.string x.fr) := by simp
    go_region_law ((first | (refine step_append_src _ (by rfl) (.tmp 8) (.tmp 9) 49 (by rfl) w.heap.size 54 i0 (.agg #[.string ⟨#[]⟩, .string ⟨#[]⟩, .int .i64 0, .int .u64 0]) 4 48 Try.underlying49 HI0.out.1 HI0.out.2.1 HI0.out.2.2.1 HI0.out.2.2.2 rfl (by decide) _ 0 [] (by rfl) ?_ a len cap (ccells ms) (by rfl) HN1.out HLT.out ?_ (one_cks ms) ?_ ?_ ?_ ?_; (focus (first | exact HOa.out | exact HOb.out | exact HOc.out)); (focus (first | exact HSa.out | exact HSb.out | exact HSc.out)); (focus (unfold maxLen; omega)); (focus (omega)); (focus (first | exact HWa.out.size | exact HWb.out.size | exact HWc.out.size)); intro v1 w1 hown1 hgrow1 hat1; first | (have HB1 : Hid (Below w.heap.size w w1) := Lib.hid (HWa.out.grown hgrow1 HWa.out.size HZ1.out); have hg1 : ((((w.alloc (.cells #[.string x.fr, .string x.to, .int .i64 x.kv, .int .u64 x.ky] 54)).alloc (.cells #[] 54))).drew).grownBy w1 (some (w.heap.size + 1)) := hgrow1; have HX1 : Hid (w1.cell? ⟨w.heap.size, 0, none⟩ = some (.string x.fr) ∧ w1.cell? ⟨w.heap.size, 1, none⟩ = some (.string x.to) ∧ w1.cell? ⟨w.heap.size, 2, none⟩ = some (.int .i64 x.kv) ∧ w1.cell? ⟨w.heap.size, 3, none⟩ = some (.int .u64 x.ky)) := Lib.hid ⟨hg1.cell (by simp) (by simp), hg1.cell (by simp) (by simp), hg1.cell (by simp) (by simp), hg1.cell (by simp) (by simp)⟩; obtain ⟨z0, z1, z2, z3⟩ := HX1.out; clear hg1; have HO1 := Lib.hid hown1; clear hown1 hgrow1 hat1) | (have HB1 : Hid (Below w.heap.size w w1) := Lib.hid (HWb.out.grown hgrow1 HWb.out.size HZ1.out); have HK1 : Hid (Src w1 (some ⟨w.heap.size + 2, 0, none⟩) x.cells) := Lib.hid (HKb.out.far HNb.out hgrow1); have HO1 := Lib.hid hown1; clear hown1 hgrow1 hat1) | (have HB1 : Hid (Below w.heap.size w w1) := Lib.hid (HWc.out.grown hgrow1 HWc.out.size HZ2.out); have HK1 : Hid (Src w1 (some ⟨w.heap.size + 1, 0, none⟩) x.cells) := Lib.hid (HKc.out.far HNc.out hgrow1); have HO1 := Lib.hid hown1; clear hown1 hgrow1 hat1)) | (refine step_append_src _ (by rfl) (.tmp 10) (.tmp 12) 49 (by rfl) w.heap.size 54 i0 (.agg #[.string ⟨#[]⟩, .string ⟨#[]⟩, .int .i64 0, .int .u64 0]) 4 48 Try.underlying49 HI0.out.1 HI0.out.2.1 HI0.out.2.2.1 HI0.out.2.2.2 rfl (by decide) v1 (0 + len) ([] ++ ccells ms) (by rfl) ?_ (some ⟨_, 0, none⟩) 1 1 x.cells (by rfl) (fun h => (Option.some_ne_none _ h).elim) rfl ?_ (one_ck x) ?_ ?_ ?_ ?_; (focus (first | exact HO1.out | exact HO1.out.alloc _)); (focus (first | exact HK1.out | exact Src.cells4 w1 _ _ _ _ _)); (focus (unfold maxLen; omega)); (focus (omega)); (focus (first | exact HB1.out.size | exact (HB1.out.alloc HB1.out.size _).size)); intro v2 w2 hown2 hgrow2 hat2; obtain ⟨va, vc, HV⟩ : ∃ va vc, Hid (v2 = .slice va (len + 1) vc ∧ len + 1 ≤ vc ∧ vc ≤ 9223372036854775807 ∧ w2.ownsRow w.heap.size 54 4 (.slice va (len + 1) vc) (len + 1) (ccells (ms ++ [x])) ∧ Below w.heap.size w w2) := (by obtain ⟨va, vc, hv, hv1, hv2⟩ := own_isz hown2; rw [Nat.zero_add] at hv hv1; unfold maxLen at hv2; refine ⟨va, vc, Lib.hid ⟨hv, hv1, by omega, by rw [← hv, ccells_snoc]; simpa using hown2, ?_⟩⟩; first | exact HB1.out.grown hgrow2 HB1.out.size (fun q hq => (HO1.out.lt q hq).1) | exact (HB1.out.alloc HB1.out.size (.cells #[.string x.fr, .string x.to, .int .i64 x.kv, .int .u64 x.ky] 54)).grown hgrow2 (HB1.out.alloc HB1.out.size (.cells #[.string x.fr, .string x.to, .int .i64 x.kv, .int .u64 x.ky] 54)).size (fun q hq => (HO1.out.lt q hq).1)); clear hown2 hgrow2 hat2)))
    all_goals (go_wp2_with fail; go_meet; exact ⟨va, vc, HV.out.1, HV.out.2.1, HV.out.2.2.1, Lib.hid HV.out.2.2.2⟩)
  case rest =>
    obtain ⟨va, vc, rfl, hv1, hv2, HV⟩ := hcut
    have HCK : Hid (Calls Try.prog 28 #[.slice va (len + 1) vc] wc fun e w' => e = .returned (.int .i64 (crErr (ms ++ [x]))) ∧ Below wc.heap.size wc w') := Lib.hid (refCrCheck_any _ _ _ _ _ (own_frow HV.out.1) HOK.out hv1 hv2)
    obtain ⟨e, HE⟩ : ∃ e, Hid (crErr (ms ++ [x]) = e) := ⟨_, rfl⟩
    rw [HE.out] at HCK
    by_cases h0 : e = 0
    · have h0' : (e == 0) = true := by simpa using h0
      have h0'' : (e != 0) = false := by simpa using h0
      have H0 := Lib.hid h0
      clear h0
      go_wp2_with (go_at_call 28; refine HCK.out.mono ?_; rintro e' w' ⟨rfl, hb⟩; have HB4 := Lib.hid hb; clear hb)
      go_ret2
      exact cadd_yes HE.out H0.out (by rw [HL.out]) (ownsRow_below HV.out.1 HB4.out) (bthen HV.out.2 HB4.out)
    · have h0' : (e == 0) = false := by simpa using h0
      have h0'' : (e != 0) = true := by simpa using h0
      have H0 := Lib.hid h0
      clear h0
      go_wp2_with (go_at_call 28; refine HCK.out.mono ?_; rintro e' w' ⟨rfl, hb⟩; have HB4 := Lib.hid hb; clear hb)
      go_ret2
      exact cadd_no HE.out H0.out (bthen HV.out.2 HB4.out)
end Go.Proofs.Ytegcdefdkebmnaa
