/- Contract of the reference's Add: the key is put into its place. -/
import Derived.Test.YtbfdggppjcaplaaDrawRef
import Derived.Test.YtbfdggppjcaplaaAppend
import Derived.Test.YtbfdggppjcaplaaBytes
namespace Go.Proofs.Ytbfdggppjcaplaa
open Go.RowKit
set_option linter.unnecessarySimpa false

/-- how many elements at the front are less than k -/
def lowN (l : List Int) (k : Int) : Nat := (l.takeWhile (fun x => decide (x < k))).length
def addTo (l : List Int) (k : Int) : List Int := if l[lowN l k]? = some k then l else l.take (lowN l k) ++ k :: l.drop (lowN l k)

theorem lowN_le (l : List Int) (k : Int) : lowN l k ≤ l.length := by
  unfold lowN
  induction l with
  | nil => simp
  | cons x l ih => rw [List.takeWhile_cons]; split <;> simp <;> omega
theorem lowN_lt (l : List Int) (k : Int) : ∀ i, i < lowN l k → l[i]?.getD 0 < k := by
  unfold lowN
  induction l with
  | nil => intro i hi; simp at hi
  | cons x l ih =>
    intro i hi
    rw [List.takeWhile_cons] at hi
    split at hi
    · rename_i hx
      cases i with
      | zero => simpa using hx
      | succ i => simpa using ih i (by simpa using hi)
    · simp at hi
theorem lowN_eq (l : List Int) (k : Int) : ∀ j, j ≤ l.length → (∀ i, i < j → l[i]?.getD 0 < k) → (j < l.length → ¬ l[j]?.getD 0 < k) → lowN l k = j := by
  unfold lowN
  induction l with
  | nil => intro j hj _ _; simp at hj; simp [hj]
  | cons x l ih =>
    intro j hj h1 h2
    rw [List.takeWhile_cons]
    cases j with
    | zero =>
      have := h2 (by simp)
      rw [if_neg (by simpa using this)]; rfl
    | succ j =>
      have := h1 0 (by omega)
      rw [if_pos (by simpa using this)]
      have := ih j (by simpa using hj) (fun i hi => by simpa using h1 (i + 1) (by omega)) (fun h => by simpa using h2 (by simpa using h))
      simp [this]

theorem info_key : (Try.prog.info? 24).map (fun i => (i.zero, i.size, i.bytes)) = some (some (.int .u64 0), 1, 8) := by kernel_rfl

def AddPost (l : List Int) (k : Int) (w : World) (e : Ending) (w' : World) : Prop := ∃ v, e = .returned v ∧ Own .u64 24 w w' v (addTo l k)

/-- a literal of no elements -/
theorem own_empty (w : World) (T : TypeId) : (w.alloc (.cells #[] T)).ownsRow w.heap.size T 1 (.slice (some ⟨w.heap.size, 0, none⟩) 0 0) 0 [] := by
  have := World.ownsRow_lit (base := w.heap.size) (e := T) (size := 1) w #[] 0 (Nat.le_refl _) (by unfold maxLen; omega) (by simp)
  simpa using this

theorem own_add {w w3 : World} {v3 : Value} {zs : List Int} {k : Int} {j len : Nat} (hf : addTo zs k = zs.take j ++ k :: zs.drop j) (hl : zs.length = len) (hj : j ≤ len)
    (ho : w3.ownsRow w.heap.size 24 1 v3 (0 + j + 1 + (len - j)) ([] ++ (zs.take j).map (Value.int .u64) ++ [.int .u64 k] ++ (zs.drop j).map (Value.int .u64))) (hb : Below w.heap.size w w3) :
    Own .u64 24 w w3 v3 (addTo zs k) := by
  refine ⟨?_, hb⟩
  rw [hf]
  have e1 : (zs.take j ++ k :: zs.drop j).length = 0 + j + 1 + (len - j) := by simp; omega
  rw [e1]
  simpa using ho

set_option maxHeartbeats 2000000 in
theorem refAdd_any (k : Int) (a : Option Addr) (len cap : Nat) (zs : List Int) (w : World) (hr : Row .u64 w a len zs) (hcap : len ≤ cap) (hcm : cap ≤ maxLen) (hl : len ≤ 1000000) (ha : (a = none ∧ cap = 0) ∨ ∃ b off, a = some ⟨b, off, none⟩) :
    Calls Try.prog 46 #[.slice a len cap, .int .u64 k] w (AddPost zs k w) := by
  have HR := Lib.hid hr
  have HA := Lib.hid ha
  unfold maxLen at hcm
  clear hr ha
  obtain ⟨i0, hi, hz0, hz1, hz2⟩ := info_parts info_key
  have HI0 := Lib.hid (And.intro hi (And.intro hz0 (And.intro hz1 hz2)))
  clear hi hz0 hz1 hz2
  go_enter Try.func46, Try.ntmps46
  go_wp2
  go_loop [5] (fun i => ∃ j : Nat, j ≤ len ∧ i = .int .i64 j ∧ Hid (∀ i, i < j → zs[i]?.getD 0 < k)) (fun i => len - (intOf i).toNat)
  case atStart => exact ⟨0, Nat.zero_le _, rfl, Lib.hid (fun i hi => by omega)⟩
  case round =>
    obtain ⟨j, hj, rfl, HJ⟩ := hrel
    by_cases hlt : j < len
    · obtain ⟨b, off, rfl, hcell⟩ := HR.out.at hlt
      have hget := Lib.hid (show zs[j]? = some (zs[j]?.getD 0) by have := HR.out.1; simp [this, hlt])
      obtain ⟨x, HX⟩ : ∃ x, Hid (zs[j]?.getD 0 = x) := ⟨_, rfl⟩
      rw [HX.out] at hcell hget
      by_cases hx : x < k
      · go_wp2
        go_round
        case rel => exact ⟨j + 1, by omega, by go_num, Lib.hid (fun i hi => if e : i = j then by rw [e, HX.out]; exact hx else HJ.out i (by omega))⟩
        case measure => simp [intOf]; omega
      · have hlow := Lib.hid (lowN_eq zs k j (by rw [HR.out.1]; exact hj) HJ.out (fun _ => by rw [HX.out]; exact hx))
        have hxb : decide (x < k) = false := by simpa using hx
        by_cases hk : x = k
        · have hkb : (x == k) = true := by simpa using hk
          have HFIN := Lib.hid (show addTo zs k = zs by unfold addTo; rw [hlow.out, hget.out, if_pos (by rw [hk])])
          have HSRC := Lib.hid (Src.of_row HR.out)
          clear hk
          go_wp2_with (at_builtin; refine wpList_append_src _ rfl _ _ 31 rfl w.heap.size 24 i0 (.int .u64 0) 1 8 Try.underlying31 HI0.out.1 HI0.out.2.1 HI0.out.2.2.1 HI0.out.2.2.2 rfl (by decide) _ 0 _ rfl (own_empty _ _) (some ⟨b, off, none⟩) len cap (zs.map (Value.int .u64)) rfl (fun h => by cases h) (by simpa using HR.out.1) (HSRC.out.below (Below.alloc1 _ _)) (oneCell_ints _ _) (by unfold maxLen; omega) (by omega) (by simp) ?_)
          intro v' w1 hown' hgrow hat
          have HO : Hid (Own .u64 24 w w1 v' (addTo zs k)) := Lib.hid (by
            rw [HFIN.out]
            refine ⟨?_, (Below.alloc1 w (.cells #[] 24)).grown hgrow (by simp) (fun q hq => by cases hq; exact Nat.le_refl _)⟩
            rw [HR.out.1]
            simpa using hown')
          clear hown' hgrow hat
          go_wp2
          go_ret
          exact ⟨_, rfl, HO.out⟩
        · have hkb : (x == k) = false := by simpa using hk
          have HFIN := Lib.hid (show addTo zs k = zs.take j ++ k :: zs.drop j by unfold addTo; rw [hlow.out, hget.out, if_neg (by simpa using hk)])
          have HSRC := Lib.hid (Src.of_row HR.out)
          have HLT := Lib.hid (show (zs.take j).length = j by have := HR.out.1; simp; omega)
          have HST := Lib.hid (Src.of_row (HR.out.take j hj))
          have HLD := Lib.hid (show (zs.drop j).length = len - j by have := HR.out.1; simp; omega)
          have HSD := Lib.hid (Src.of_row (HR.out.drop j hj))
          have hj2 : j ≤ cap := by omega
          have hne : ¬ cap = j := by omega
          clear hk
          go_upto_region 6 with fail
          go_cut [4] (fun v wx => Hid (Own .u64 24 w wx v (addTo zs k)))
          case first =>
            have HWa : Hid (Below w.heap.size w (w.alloc (.cells #[] 24)).drew) := Lib.hid (Below.alloc1 w (.cells #[] 24)).drew
            have HWb : Hid (Below w.heap.size w ((w.alloc (.cells #[] 24)).alloc (.cells #[.int .u64 k] 24)).drew) := Lib.hid ((Below.alloc1 w (.cells #[] 24)).alloc (by simp) (.cells #[.int .u64 k] 24)).drew
            have HWc : Hid (Below w.heap.size w ((w.alloc (.cells #[.int .u64 k] 24)).alloc (.cells #[] 24)).drew) := Lib.hid ((Below.alloc1 w (.cells #[.int .u64 k] 24)).alloc (by simp) (.cells #[] 24)).drew
            have HOa : Hid ((w.alloc (.cells #[] 24)).drew.ownsRow w.heap.size 24 1 (.slice (some ⟨w.heap.size, 0, none⟩) 0 0) 0 []) := Lib.hid (own_empty w 24)
            have HOb : Hid (((w.alloc (.cells #[] 24)).alloc (.cells #[.int .u64 k] 24)).drew.ownsRow w.heap.size 24 1 (.slice (some ⟨w.heap.size, 0, none⟩) 0 0) 0 []) := Lib.hid ((own_empty w 24).alloc _)
            have HOc : Hid (((w.alloc (.cells #[.int .u64 k] 24)).alloc (.cells #[] 24)).drew.ownsRow w.heap.size 24 1 (.slice (some ⟨w.heap.size + 1, 0, none⟩) 0 0) 0 []) := Lib.hid (by have := ownsRow_base (base' := w.heap.size) (own_empty (w.alloc (.cells #[.int .u64 k] 24)) 24) (by simp); simp at this; exact this)
            have HKb : Hid (Src ((w.alloc (.cells #[] 24)).alloc (.cells #[.int .u64 k] 24)).drew (some ⟨w.heap.size + 1, 0, none⟩) [.int .u64 k]) := Lib.hid (by have := Src.one (w.alloc (.cells #[] 24)) (.int .u64 k) 24; simp at this; exact this)
            have HKc : Hid (Src ((w.alloc (.cells #[.int .u64 k] 24)).alloc (.cells #[] 24)).drew (some ⟨w.heap.size, 0, none⟩) [.int .u64 k]) := Lib.hid (((Src.one w (.int .u64 k) 24).below (Below.alloc1 _ (.cells #[] 24))).below (Below.drewN1 _ 1 _))
            have HZ : Hid (∀ q, some w.heap.size = some q → w.heap.size ≤ q) := Lib.hid (fun q hq => by cases hq; exact Nat.le_refl _)
            have HZ2 : Hid (∀ q, some (w.heap.size + 1) = some q → w.heap.size ≤ q) := Lib.hid (fun q hq => by cases hq; omega)
            have HN1 : Hid (∀ x : Addr, some (⟨w.heap.size + 1, 0, none⟩ : Addr) = some x → some x.block ≠ some w.heap.size) := Lib.hid (fun x hx => by cases hx; simp)
            have HN2 : Hid (∀ x : Addr, some (⟨w.heap.size, 0, none⟩ : Addr) = some x → some x.block ≠ some (w.heap.size + 1)) := Lib.hid (fun x hx => by cases hx; simp)
            go_region_law ((first | (refine step_append_src _ (by rfl) (.tmp 35) (.tmp 38) 31 (by rfl) w.heap.size 24 i0 (.int .u64 0) 1 8 Try.underlying31 HI0.out.1 HI0.out.2.1 HI0.out.2.2.1 HI0.out.2.2.2 rfl (by decide) _ 0 [] (by rfl) ?_ (some ⟨b, off, none⟩) j cap ((zs.take j).map (Value.int .u64)) (by rfl) (fun h => (Option.some_ne_none _ h).elim) ?_ ?_ (oneCell_ints _ _) ?_ ?_ ?_ ?_; (focus (first | exact HOa.out | exact HOb.out | exact HOc.out)); (focus (simpa using HLT.out)); (focus (first | exact HST.out.below HWa.out | exact HST.out.below HWb.out | exact HST.out.below HWc.out)); (focus (unfold maxLen; omega)); (focus (omega)); (focus (first | exact HWa.out.size | exact HWb.out.size | exact HWc.out.size)); intro v1 w1 hown1 hgrow1 hat1; first | (have HB1 : Hid (Below w.heap.size w w1) := Lib.hid (HWa.out.grown hgrow1 HWa.out.size HZ.out); have HO1 := Lib.hid hown1; clear hown1 hgrow1 hat1) | (have HB1 : Hid (Below w.heap.size w w1) := Lib.hid (HWb.out.grown hgrow1 HWb.out.size HZ.out); have HK1 : Hid (Src w1 (some ⟨w.heap.size + 1, 0, none⟩) [.int .u64 k]) := Lib.hid (HKb.out.far HN1.out hgrow1); have HO1 := Lib.hid hown1; clear hown1 hgrow1 hat1) | (have HB1 : Hid (Below w.heap.size w w1) := Lib.hid (HWc.out.grown hgrow1 HWc.out.size HZ2.out); have HK1 : Hid (Src w1 (some ⟨w.heap.size, 0, none⟩) [.int .u64 k]) := Lib.hid (HKc.out.far HN2.out hgrow1); have HO1 := Lib.hid hown1; clear hown1 hgrow1 hat1)) | (refine step_append_src _ (by rfl) (.tmp 42) (.tmp 45) 31 (by rfl) w.heap.size 24 i0 (.int .u64 0) 1 8 Try.underlying31 HI0.out.1 HI0.out.2.1 HI0.out.2.2.1 HI0.out.2.2.2 rfl (by decide) v2 (0 + j + 1) ([] ++ (zs.take j).map (Value.int .u64) ++ [.int .u64 k]) (by rfl) HO2.out (some ⟨b, off + j, none⟩) (len - j) (cap - j) ((zs.drop j).map (Value.int .u64)) (by rfl) (fun h => (Option.some_ne_none _ h).elim) ?_ (HSD.out.below HB2.out) (oneCell_ints _ _) ?_ ?_ HB2.out.size ?_; (focus (simpa using HLD.out)); (focus (unfold maxLen; omega)); (focus (omega)); intro v3 w3 hown3 hgrow3 hat3; have HO3 : Hid (Own .u64 24 w w3 v3 (addTo zs k)) := Lib.hid (own_add HFIN.out HR.out.1 hj hown3 (HB2.out.grown hgrow3 HB2.out.size (fun q hq => (HO2.out.lt q hq).1))); clear hown3 hgrow3 hat3) | (refine step_append_src _ (by rfl) (.tmp 39) (.tmp 41) 31 (by rfl) w.heap.size 24 i0 (.int .u64 0) 1 8 Try.underlying31 HI0.out.1 HI0.out.2.1 HI0.out.2.2.1 HI0.out.2.2.2 rfl (by decide) v1 (0 + j) ([] ++ (zs.take j).map (Value.int .u64)) (by rfl) ?_ (some ⟨_, 0, none⟩) 1 1 [.int .u64 k] (by rfl) (fun h => (Option.some_ne_none _ h).elim) rfl ?_ (oneCell_ints .u64 [k]) ?_ ?_ ?_ ?_; (focus (first | exact HO1.out | exact HO1.out.alloc _)); (focus (first | exact Src.one w1 _ _ | exact HK1.out)); (focus (unfold maxLen; omega)); (focus (omega)); (focus (first | exact HB1.out.size | exact (HB1.out.alloc HB1.out.size _).size)); intro v2 w2 hown2 hgrow2 hat2; first | (have HB2 : Hid (Below w.heap.size w w2) := Lib.hid (HB1.out.grown hgrow2 HB1.out.size (fun q hq => (HO1.out.lt q hq).1)); have HO2 := Lib.hid hown2; clear hown2 hgrow2 hat2) | (have HB2 : Hid (Below w.heap.size w w2) := Lib.hid ((HB1.out.alloc HB1.out.size (.cells #[.int .u64 k] 24)).grown hgrow2 (HB1.out.alloc HB1.out.size (.cells #[.int .u64 k] 24)).size (fun q hq => (HO1.out.lt q hq).1)); have HO2 := Lib.hid hown2; clear hown2 hgrow2 hat2))))
            all_goals (go_wp2_with fail; go_meet; exact HO3)
          case rest =>
            go_wp2
            go_ret
            exact ⟨_, rfl, hcut.out⟩
    · obtain rfl : j = len := by omega
      have hlow := Lib.hid (lowN_eq zs k j (by rw [HR.out.1]; exact hj) HJ.out (fun h => absurd h (by rw [HR.out.1]; omega)))
      have HFIN := Lib.hid (show addTo zs k = zs.take j ++ k :: zs.drop j by unfold addTo; rw [hlow.out, List.getElem?_eq_none (by rw [HR.out.1]; exact Nat.le_refl _), if_neg (by simp)])
      have HLT := Lib.hid (show (zs.take j).length = j by have := HR.out.1; simp; omega)
      have HLD := Lib.hid (show (zs.drop j).length = 0 by have := HR.out.1; simp; omega)
      have HZD := Lib.hid (show zs.drop j = [] from List.eq_nil_of_length_eq_zero HLD.out)
      have hjb : decide ((j : Int) < (j : Int)) = false := by simp
      clear hlow
      rcases HA.out with ⟨rfl, rfl⟩ | ⟨b, off, rfl⟩
      · obtain rfl : j = 0 := by
          rcases HR.out.2.2 with h | ⟨b, off, h, _⟩
          · exact h
          · cases h
        have HST : Hid (Src w none ((zs.take 0).map (Value.int .u64))) := Lib.hid (.inl ⟨rfl, by simp⟩)
        have HSD : Hid (Src w none ((zs.drop 0).map (Value.int .u64))) := Lib.hid (.inl ⟨rfl, by rw [HZD.out]; rfl⟩)
        go_upto_region 6 with fail
        go_cut [4] (fun v wx => Hid (Own .u64 24 w wx v (addTo zs k)))
        case first =>
          have HWa : Hid (Below w.heap.size w (w.alloc (.cells #[] 24)).drew) := Lib.hid (Below.alloc1 w (.cells #[] 24)).drew
          have HWb : Hid (Below w.heap.size w ((w.alloc (.cells #[] 24)).alloc (.cells #[.int .u64 k] 24)).drew) := Lib.hid ((Below.alloc1 w (.cells #[] 24)).alloc (by simp) (.cells #[.int .u64 k] 24)).drew
          have HWc : Hid (Below w.heap.size w ((w.alloc (.cells #[.int .u64 k] 24)).alloc (.cells #[] 24)).drew) := Lib.hid ((Below.alloc1 w (.cells #[.int .u64 k] 24)).alloc (by simp) (.cells #[] 24)).drew
          have HOa : Hid ((w.alloc (.cells #[] 24)).drew.ownsRow w.heap.size 24 1 (.slice (some ⟨w.heap.size, 0, none⟩) 0 0) 0 []) := Lib.hid (own_empty w 24)
          have HOb : Hid (((w.alloc (.cells #[] 24)).alloc (.cells #[.int .u64 k] 24)).drew.ownsRow w.heap.size 24 1 (.slice (some ⟨w.heap.size, 0, none⟩) 0 0) 0 []) := Lib.hid ((own_empty w 24).alloc _)
          have HOc : Hid (((w.alloc (.cells #[.int .u64 k] 24)).alloc (.cells #[] 24)).drew.ownsRow w.heap.size 24 1 (.slice (some ⟨w.heap.size + 1, 0, none⟩) 0 0) 0 []) := Lib.hid (by have := ownsRow_base (base' := w.heap.size) (own_empty (w.alloc (.cells #[.int .u64 k] 24)) 24) (by simp); simp at this; exact this)
          have HKb : Hid (Src ((w.alloc (.cells #[] 24)).alloc (.cells #[.int .u64 k] 24)).drew (some ⟨w.heap.size + 1, 0, none⟩) [.int .u64 k]) := Lib.hid (by have := Src.one (w.alloc (.cells #[] 24)) (.int .u64 k) 24; simp at this; exact this)
          have HKc : Hid (Src ((w.alloc (.cells #[.int .u64 k] 24)).alloc (.cells #[] 24)).drew (some ⟨w.heap.size, 0, none⟩) [.int .u64 k]) := Lib.hid (((Src.one w (.int .u64 k) 24).below (Below.alloc1 _ (.cells #[] 24))).below (Below.drewN1 _ 1 _))
          have HZ : Hid (∀ q, some w.heap.size = some q → w.heap.size ≤ q) := Lib.hid (fun q hq => by cases hq; exact Nat.le_refl _)
          have HZ2 : Hid (∀ q, some (w.heap.size + 1) = some q → w.heap.size ≤ q) := Lib.hid (fun q hq => by cases hq; omega)
          have HN1 : Hid (∀ x : Addr, some (⟨w.heap.size + 1, 0, none⟩ : Addr) = some x → some x.block ≠ some w.heap.size) := Lib.hid (fun x hx => by cases hx; simp)
          have HN2 : Hid (∀ x : Addr, some (⟨w.heap.size, 0, none⟩ : Addr) = some x → some x.block ≠ some (w.heap.size + 1)) := Lib.hid (fun x hx => by cases hx; simp)
          go_region_law ((first | (refine step_append_src _ (by rfl) (.tmp 35) (.tmp 38) 31 (by rfl) w.heap.size 24 i0 (.int .u64 0) 1 8 Try.underlying31 HI0.out.1 HI0.out.2.1 HI0.out.2.2.1 HI0.out.2.2.2 rfl (by decide) _ 0 [] (by rfl) ?_ none 0 0 ((zs.take 0).map (Value.int .u64)) (by rfl) (fun _ => ⟨rfl, rfl⟩) ?_ ?_ (oneCell_ints _ _) ?_ ?_ ?_ ?_; (focus (first | exact HOa.out | exact HOb.out | exact HOc.out)); (focus (simpa using HLT.out)); (focus (first | exact HST.out.below HWa.out | exact HST.out.below HWb.out | exact HST.out.below HWc.out)); (focus (unfold maxLen; omega)); (focus (omega)); (focus (first | exact HWa.out.size | exact HWb.out.size | exact HWc.out.size)); intro v1 w1 hown1 hgrow1 hat1; first | (have HB1 : Hid (Below w.heap.size w w1) := Lib.hid (HWa.out.grown hgrow1 HWa.out.size HZ.out); have HO1 := Lib.hid hown1; clear hown1 hgrow1 hat1) | (have HB1 : Hid (Below w.heap.size w w1) := Lib.hid (HWb.out.grown hgrow1 HWb.out.size HZ.out); have HK1 : Hid (Src w1 (some ⟨w.heap.size + 1, 0, none⟩) [.int .u64 k]) := Lib.hid (HKb.out.far HN1.out hgrow1); have HO1 := Lib.hid hown1; clear hown1 hgrow1 hat1) | (have HB1 : Hid (Below w.heap.size w w1) := Lib.hid (HWc.out.grown hgrow1 HWc.out.size HZ2.out); have HK1 : Hid (Src w1 (some ⟨w.heap.size, 0, none⟩) [.int .u64 k]) := Lib.hid (HKc.out.far HN2.out hgrow1); have HO1 := Lib.hid hown1; clear hown1 hgrow1 hat1)) | (refine step_append_src _ (by rfl) (.tmp 42) (.tmp 45) 31 (by rfl) w.heap.size 24 i0 (.int .u64 0) 1 8 Try.underlying31 HI0.out.1 HI0.out.2.1 HI0.out.2.2.1 HI0.out.2.2.2 rfl (by decide) v2 (0 + 0 + 1) ([] ++ (zs.take 0).map (Value.int .u64) ++ [.int .u64 k]) (by rfl) HO2.out none 0 0 ((zs.drop 0).map (Value.int .u64)) (by rfl) (fun _ => ⟨rfl, rfl⟩) ?_ (HSD.out.below HB2.out) (oneCell_ints _ _) ?_ ?_ HB2.out.size ?_; (focus (simpa using HLD.out)); (focus (unfold maxLen; omega)); (focus (omega)); intro v3 w3 hown3 hgrow3 hat3; have HO3 : Hid (Own .u64 24 w w3 v3 (addTo zs k)) := Lib.hid (own_add (j := 0) (len := 0) HFIN.out HR.out.1 (Nat.le_refl _) (by simpa using hown3) (HB2.out.grown hgrow3 HB2.out.size (fun q hq => (HO2.out.lt q hq).1))); clear hown3 hgrow3 hat3) | (refine step_append_src _ (by rfl) (.tmp 39) (.tmp 41) 31 (by rfl) w.heap.size 24 i0 (.int .u64 0) 1 8 Try.underlying31 HI0.out.1 HI0.out.2.1 HI0.out.2.2.1 HI0.out.2.2.2 rfl (by decide) v1 (0 + 0) ([] ++ (zs.take 0).map (Value.int .u64)) (by rfl) ?_ (some ⟨_, 0, none⟩) 1 1 [.int .u64 k] (by rfl) (fun h => (Option.some_ne_none _ h).elim) rfl ?_ (oneCell_ints .u64 [k]) ?_ ?_ ?_ ?_; (focus (first | exact HO1.out | exact HO1.out.alloc _)); (focus (first | exact Src.one w1 _ _ | exact HK1.out)); (focus (unfold maxLen; omega)); (focus (omega)); (focus (first | exact HB1.out.size | exact (HB1.out.alloc HB1.out.size _).size)); intro v2 w2 hown2 hgrow2 hat2; first | (have HB2 : Hid (Below w.heap.size w w2) := Lib.hid (HB1.out.grown hgrow2 HB1.out.size (fun q hq => (HO1.out.lt q hq).1)); have HO2 := Lib.hid hown2; clear hown2 hgrow2 hat2) | (have HB2 : Hid (Below w.heap.size w w2) := Lib.hid ((HB1.out.alloc HB1.out.size (.cells #[.int .u64 k] 24)).grown hgrow2 (HB1.out.alloc HB1.out.size (.cells #[.int .u64 k] 24)).size (fun q hq => (HO1.out.lt q hq).1)); have HO2 := Lib.hid hown2; clear hown2 hgrow2 hat2))))
          all_goals (go_wp2_with fail; go_meet; exact HO3)
        case rest =>
          go_wp2
          go_ret
          exact ⟨_, rfl, hcut.out⟩
      · have HST := Lib.hid (Src.of_row (HR.out.take j hj))
        by_cases hcj : cap = j
        · obtain rfl : j = cap := hcj.symm
          have HSD : Hid (Src w (some ⟨b, off, none⟩) ((zs.drop j).map (Value.int .u64))) := Lib.hid (.inr ⟨_, rfl, by rw [HZD.out]; intro j u hu; simp at hu⟩)
          go_upto_region 6 with fail
          go_cut [4] (fun v wx => Hid (Own .u64 24 w wx v (addTo zs k)))
          case first =>
            have HWa : Hid (Below w.heap.size w (w.alloc (.cells #[] 24)).drew) := Lib.hid (Below.alloc1 w (.cells #[] 24)).drew
            have HWb : Hid (Below w.heap.size w ((w.alloc (.cells #[] 24)).alloc (.cells #[.int .u64 k] 24)).drew) := Lib.hid ((Below.alloc1 w (.cells #[] 24)).alloc (by simp) (.cells #[.int .u64 k] 24)).drew
            have HWc : Hid (Below w.heap.size w ((w.alloc (.cells #[.int .u64 k] 24)).alloc (.cells #[] 24)).drew) := Lib.hid ((Below.alloc1 w (.cells #[.int .u64 k] 24)).alloc (by simp) (.cells #[] 24)).drew
            have HOa : Hid ((w.alloc (.cells #[] 24)).drew.ownsRow w.heap.size 24 1 (.slice (some ⟨w.heap.size, 0, none⟩) 0 0) 0 []) := Lib.hid (own_empty w 24)
            have HOb : Hid (((w.alloc (.cells #[] 24)).alloc (.cells #[.int .u64 k] 24)).drew.ownsRow w.heap.size 24 1 (.slice (some ⟨w.heap.size, 0, none⟩) 0 0) 0 []) := Lib.hid ((own_empty w 24).alloc _)
            have HOc : Hid (((w.alloc (.cells #[.int .u64 k] 24)).alloc (.cells #[] 24)).drew.ownsRow w.heap.size 24 1 (.slice (some ⟨w.heap.size + 1, 0, none⟩) 0 0) 0 []) := Lib.hid (by have := ownsRow_base (base' := w.heap.size) (own_empty (w.alloc (.cells #[.int .u64 k] 24)) 24) (by simp); simp at this; exact this)
            have HKb : Hid (Src ((w.alloc (.cells #[] 24)).alloc (.cells #[.int .u64 k] 24)).drew (some ⟨w.heap.size + 1, 0, none⟩) [.int .u64 k]) := Lib.hid (by have := Src.one (w.alloc (.cells #[] 24)) (.int .u64 k) 24; simp at this; exact this)
            have HKc : Hid (Src ((w.alloc (.cells #[.int .u64 k] 24)).alloc (.cells #[] 24)).drew (some ⟨w.heap.size, 0, none⟩) [.int .u64 k]) := Lib.hid (((Src.one w (.int .u64 k) 24).below (Below.alloc1 _ (.cells #[] 24))).below (Below.drewN1 _ 1 _))
            have HZ : Hid (∀ q, some w.heap.size = some q → w.heap.size ≤ q) := Lib.hid (fun q hq => by cases hq; exact Nat.le_refl _)
            have HZ2 : Hid (∀ q, some (w.heap.size + 1) = some q → w.heap.size ≤ q) := Lib.hid (fun q hq => by cases hq; omega)
            have HN1 : Hid (∀ x : Addr, some (⟨w.heap.size + 1, 0, none⟩ : Addr) = some x → some x.block ≠ some w.heap.size) := Lib.hid (fun x hx => by cases hx; simp)
            have HN2 : Hid (∀ x : Addr, some (⟨w.heap.size, 0, none⟩ : Addr) = some x → some x.block ≠ some (w.heap.size + 1)) := Lib.hid (fun x hx => by cases hx; simp)
            go_region_law ((first | (refine step_append_src _ (by rfl) (.tmp 35) (.tmp 38) 31 (by rfl) w.heap.size 24 i0 (.int .u64 0) 1 8 Try.underlying31 HI0.out.1 HI0.out.2.1 HI0.out.2.2.1 HI0.out.2.2.2 rfl (by decide) _ 0 [] (by rfl) ?_ (some ⟨b, off, none⟩) j j ((zs.take j).map (Value.int .u64)) (by rfl) (fun h => (Option.some_ne_none _ h).elim) ?_ ?_ (oneCell_ints _ _) ?_ ?_ ?_ ?_; (focus (first | exact HOa.out | exact HOb.out | exact HOc.out)); (focus (simpa using HLT.out)); (focus (first | exact HST.out.below HWa.out | exact HST.out.below HWb.out | exact HST.out.below HWc.out)); (focus (unfold maxLen; omega)); (focus (omega)); (focus (first | exact HWa.out.size | exact HWb.out.size | exact HWc.out.size)); intro v1 w1 hown1 hgrow1 hat1; first | (have HB1 : Hid (Below w.heap.size w w1) := Lib.hid (HWa.out.grown hgrow1 HWa.out.size HZ.out); have HO1 := Lib.hid hown1; clear hown1 hgrow1 hat1) | (have HB1 : Hid (Below w.heap.size w w1) := Lib.hid (HWb.out.grown hgrow1 HWb.out.size HZ.out); have HK1 : Hid (Src w1 (some ⟨w.heap.size + 1, 0, none⟩) [.int .u64 k]) := Lib.hid (HKb.out.far HN1.out hgrow1); have HO1 := Lib.hid hown1; clear hown1 hgrow1 hat1) | (have HB1 : Hid (Below w.heap.size w w1) := Lib.hid (HWc.out.grown hgrow1 HWc.out.size HZ2.out); have HK1 : Hid (Src w1 (some ⟨w.heap.size, 0, none⟩) [.int .u64 k]) := Lib.hid (HKc.out.far HN2.out hgrow1); have HO1 := Lib.hid hown1; clear hown1 hgrow1 hat1)) | (refine step_append_src _ (by rfl) (.tmp 42) (.tmp 45) 31 (by rfl) w.heap.size 24 i0 (.int .u64 0) 1 8 Try.underlying31 HI0.out.1 HI0.out.2.1 HI0.out.2.2.1 HI0.out.2.2.2 rfl (by decide) v2 (0 + j + 1) ([] ++ (zs.take j).map (Value.int .u64) ++ [.int .u64 k]) (by rfl) HO2.out (some ⟨b, off, none⟩) 0 0 ((zs.drop j).map (Value.int .u64)) (by rfl) (fun h => (Option.some_ne_none _ h).elim) ?_ (HSD.out.below HB2.out) (oneCell_ints _ _) ?_ ?_ HB2.out.size ?_; (focus (simpa using HLD.out)); (focus (unfold maxLen; omega)); (focus (omega)); intro v3 w3 hown3 hgrow3 hat3; have HO3 : Hid (Own .u64 24 w w3 v3 (addTo zs k)) := Lib.hid (own_add (j := j) (len := j) HFIN.out HR.out.1 (Nat.le_refl _) (by simpa using hown3) (HB2.out.grown hgrow3 HB2.out.size (fun q hq => (HO2.out.lt q hq).1))); clear hown3 hgrow3 hat3) | (refine step_append_src _ (by rfl) (.tmp 39) (.tmp 41) 31 (by rfl) w.heap.size 24 i0 (.int .u64 0) 1 8 Try.underlying31 HI0.out.1 HI0.out.2.1 HI0.out.2.2.1 HI0.out.2.2.2 rfl (by decide) v1 (0 + j) ([] ++ (zs.take j).map (Value.int .u64)) (by rfl) ?_ (some ⟨_, 0, none⟩) 1 1 [.int .u64 k] (by rfl) (fun h => (Option.some_ne_none _ h).elim) rfl ?_ (oneCell_ints .u64 [k]) ?_ ?_ ?_ ?_; (focus (first | exact HO1.out | exact HO1.out.alloc _)); (focus (first | exact Src.one w1 _ _ | exact HK1.out)); (focus (unfold maxLen; omega)); (focus (omega)); (focus (first | exact HB1.out.size | exact (HB1.out.alloc HB1.out.size _).size)); intro v2 w2 hown2 hgrow2 hat2; first | (have HB2 : Hid (Below w.heap.size w w2) := Lib.hid (HB1.out.grown hgrow2 HB1.out.size (fun q hq => (HO1.out.lt q hq).1)); have HO2 := Lib.hid hown2; clear hown2 hgrow2 hat2) | (have HB2 : Hid (Below w.heap.size w w2) := Lib.hid ((HB1.out.alloc HB1.out.size (.cells #[.int .u64 k] 24)).grown hgrow2 (HB1.out.alloc HB1.out.size (.cells #[.int .u64 k] 24)).size (fun q hq => (HO1.out.lt q hq).1)); have HO2 := Lib.hid hown2; clear hown2 hgrow2 hat2))))
            all_goals (go_wp2_with fail; go_meet; exact HO3)
          case rest =>
            go_wp2
            go_ret
            exact ⟨_, rfl, hcut.out⟩
        · have hj2 : j ≤ cap := by omega
          have hne : ¬ cap = j := hcj
          have HSD : Hid (Src w (some ⟨b, off + j, none⟩) ((zs.drop j).map (Value.int .u64))) := Lib.hid (.inr ⟨_, rfl, by rw [HZD.out]; intro j u hu; simp at hu⟩)
          go_upto_region 6 with fail
          go_cut [4] (fun v wx => Hid (Own .u64 24 w wx v (addTo zs k)))
          case first =>
            have HWa : Hid (Below w.heap.size w (w.alloc (.cells #[] 24)).drew) := Lib.hid (Below.alloc1 w (.cells #[] 24)).drew
            have HWb : Hid (Below w.heap.size w ((w.alloc (.cells #[] 24)).alloc (.cells #[.int .u64 k] 24)).drew) := Lib.hid ((Below.alloc1 w (.cells #[] 24)).alloc (by simp) (.cells #[.int .u64 k] 24)).drew
            have HWc : Hid (Below w.heap.size w ((w.alloc (.cells #[.int .u64 k] 24)).alloc (.cells #[] 24)).drew) := Lib.hid ((Below.alloc1 w (.cells #[.int .u64 k] 24)).alloc (by simp) (.cells #[] 24)).drew
            have HOa : Hid ((w.alloc (.cells #[] 24)).drew.ownsRow w.heap.size 24 1 (.slice (some ⟨w.heap.size, 0, none⟩) 0 0) 0 []) := Lib.hid (own_empty w 24)
            have HOb : Hid (((w.alloc (.cells #[] 24)).alloc (.cells #[.int .u64 k] 24)).drew.ownsRow w.heap.size 24 1 (.slice (some ⟨w.heap.size, 0, none⟩) 0 0) 0 []) := Lib.hid ((own_empty w 24).alloc _)
            have HOc : Hid (((w.alloc (.cells #[.int .u64 k] 24)).alloc (.cells #[] 24)).drew.ownsRow w.heap.size 24 1 (.slice (some ⟨w.heap.size + 1, 0, none⟩) 0 0) 0 []) := Lib.hid (by have := ownsRow_base (base' := w.heap.size) (own_empty (w.alloc (.cells #[.int .u64 k] 24)) 24) (by simp); simp at this; exact this)
            have HKb : Hid (Src ((w.alloc (.cells #[] 24)).alloc (.cells #[.int .u64 k] 24)).drew (some ⟨w.heap.size + 1, 0, none⟩) [.int .u64 k]) := Lib.hid (by have := Src.one (w.alloc (.cells #[] 24)) (.int .u64 k) 24; simp at this; exact this)
            have HKc : Hid (Src ((w.alloc (.cells #[.int .u64 k] 24)).alloc (.cells #[] 24)).drew (some ⟨w.heap.size, 0, none⟩) [.int .u64 k]) := Lib.hid (((Src.one w (.int .u64 k) 24).below (Below.alloc1 _ (.cells #[] 24))).below (Below.drewN1 _ 1 _))
            have HZ : Hid (∀ q, some w.heap.size = some q → w.heap.size ≤ q) := Lib.hid (fun q hq => by cases hq; exact Nat.le_refl _)
            have HZ2 : Hid (∀ q, some (w.heap.size + 1) = some q → w.heap.size ≤ q) := Lib.hid (fun q hq => by cases hq; omega)
            have HN1 : Hid (∀ x : Addr, some (⟨w.heap.size + 1, 0, none⟩ : Addr) = some x → some x.block ≠ some w.heap.size) := Lib.hid (fun x hx => by cases hx; simp)
            have HN2 : Hid (∀ x : Addr, some (⟨w.heap.size, 0, none⟩ : Addr) = some x → some x.block ≠ some (w.heap.size + 1)) := Lib.hid (fun x hx => by cases hx; simp)
            go_region_law ((first | (refine step_append_src _ (by rfl) (.tmp 35) (.tmp 38) 31 (by rfl) w.heap.size 24 i0 (.int .u64 0) 1 8 Try.underlying31 HI0.out.1 HI0.out.2.1 HI0.out.2.2.1 HI0.out.2.2.2 rfl (by decide) _ 0 [] (by rfl) ?_ (some ⟨b, off, none⟩) j cap ((zs.take j).map (Value.int .u64)) (by rfl) (fun h => (Option.some_ne_none _ h).elim) ?_ ?_ (oneCell_ints _ _) ?_ ?_ ?_ ?_; (focus (first | exact HOa.out | exact HOb.out | exact HOc.out)); (focus (simpa using HLT.out)); (focus (first | exact HST.out.below HWa.out | exact HST.out.below HWb.out | exact HST.out.below HWc.out)); (focus (unfold maxLen; omega)); (focus (omega)); (focus (first | exact HWa.out.size | exact HWb.out.size | exact HWc.out.size)); intro v1 w1 hown1 hgrow1 hat1; first | (have HB1 : Hid (Below w.heap.size w w1) := Lib.hid (HWa.out.grown hgrow1 HWa.out.size HZ.out); have HO1 := Lib.hid hown1; clear hown1 hgrow1 hat1) | (have HB1 : Hid (Below w.heap.size w w1) := Lib.hid (HWb.out.grown hgrow1 HWb.out.size HZ.out); have HK1 : Hid (Src w1 (some ⟨w.heap.size + 1, 0, none⟩) [.int .u64 k]) := Lib.hid (HKb.out.far HN1.out hgrow1); have HO1 := Lib.hid hown1; clear hown1 hgrow1 hat1) | (have HB1 : Hid (Below w.heap.size w w1) := Lib.hid (HWc.out.grown hgrow1 HWc.out.size HZ2.out); have HK1 : Hid (Src w1 (some ⟨w.heap.size, 0, none⟩) [.int .u64 k]) := Lib.hid (HKc.out.far HN2.out hgrow1); have HO1 := Lib.hid hown1; clear hown1 hgrow1 hat1)) | (refine step_append_src _ (by rfl) (.tmp 42) (.tmp 45) 31 (by rfl) w.heap.size 24 i0 (.int .u64 0) 1 8 Try.underlying31 HI0.out.1 HI0.out.2.1 HI0.out.2.2.1 HI0.out.2.2.2 rfl (by decide) v2 (0 + j + 1) ([] ++ (zs.take j).map (Value.int .u64) ++ [.int .u64 k]) (by rfl) HO2.out (some ⟨b, off + j, none⟩) 0 (cap - j) ((zs.drop j).map (Value.int .u64)) (by rfl) (fun h => (Option.some_ne_none _ h).elim) ?_ (HSD.out.below HB2.out) (oneCell_ints _ _) ?_ ?_ HB2.out.size ?_; (focus (simpa using HLD.out)); (focus (unfold maxLen; omega)); (focus (omega)); intro v3 w3 hown3 hgrow3 hat3; have HO3 : Hid (Own .u64 24 w w3 v3 (addTo zs k)) := Lib.hid (own_add (j := j) (len := j) HFIN.out HR.out.1 (Nat.le_refl _) (by simpa using hown3) (HB2.out.grown hgrow3 HB2.out.size (fun q hq => (HO2.out.lt q hq).1))); clear hown3 hgrow3 hat3) | (refine step_append_src _ (by rfl) (.tmp 39) (.tmp 41) 31 (by rfl) w.heap.size 24 i0 (.int .u64 0) 1 8 Try.underlying31 HI0.out.1 HI0.out.2.1 HI0.out.2.2.1 HI0.out.2.2.2 rfl (by decide) v1 (0 + j) ([] ++ (zs.take j).map (Value.int .u64)) (by rfl) ?_ (some ⟨_, 0, none⟩) 1 1 [.int .u64 k] (by rfl) (fun h => (Option.some_ne_none _ h).elim) rfl ?_ (oneCell_ints .u64 [k]) ?_ ?_ ?_ ?_; (focus (first | exact HO1.out | exact HO1.out.alloc _)); (focus (first | exact Src.one w1 _ _ | exact HK1.out)); (focus (unfold maxLen; omega)); (focus (omega)); (focus (first | exact HB1.out.size | exact (HB1.out.alloc HB1.out.size _).size)); intro v2 w2 hown2 hgrow2 hat2; first | (have HB2 : Hid (Below w.heap.size w w2) := Lib.hid (HB1.out.grown hgrow2 HB1.out.size (fun q hq => (HO1.out.lt q hq).1)); have HO2 := Lib.hid hown2; clear hown2 hgrow2 hat2) | (have HB2 : Hid (Below w.heap.size w w2) := Lib.hid ((HB1.out.alloc HB1.out.size (.cells #[.int .u64 k] 24)).grown hgrow2 (HB1.out.alloc HB1.out.size (.cells #[.int .u64 k] 24)).size (fun q hq => (HO1.out.lt q hq).1)); have HO2 := Lib.hid hown2; clear hown2 hgrow2 hat2))))
            all_goals (go_wp2_with fail; go_meet; exact HO3)
          case rest =>
            go_wp2
            go_ret
            exact ⟨_, rfl, hcut.out⟩
end Go.Proofs.Ytbfdggppjcaplaa
