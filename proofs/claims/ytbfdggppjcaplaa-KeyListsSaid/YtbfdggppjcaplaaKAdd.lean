/- Contracts of key.Has and key.Add, and of the reference's Same. -/
import Derived.Test.YtbfdggppjcaplaaKeyLaw
import Derived.Test.YtbfdggppjcaplaaConcatK
import Derived.Test.YtbfdggppjcaplaaCompact
import Derived.Test.YtbfdggppjcaplaaSort9
import Derived.Sort.Grow
namespace Go.Proofs.Ytbfdggppjcaplaa
open Go.RowKit Go.Sort

def IdxPost (k : Int) (zs : List Int) (w : World) (e : Ending) (w' : World) : Prop := ∃ r : Int, e = .returned (.int .i64 r) ∧ decide (0 ≤ r) = decide (k ∈ zs) ∧ w = w'
theorem mem_take_snoc {zs : List Int} {j : Nat} {k : Int} (hj : j < zs.length) (h : k ∉ zs.take j) (hx : ¬ k = zs[j]?.getD 0) : k ∉ zs.take (j + 1) := by
  rw [take_snoc zs j hj, List.mem_append, List.mem_singleton]
  rintro (h1 | h1)
  · exact h h1
  · exact hx h1
set_option maxHeartbeats 1000000 in
theorem index_any (k : Int) (a : Option Addr) (len cap : Nat) (zs : List Int) (w : World) (hr : Row .u64 w a len zs) :
    Calls Try.prog 57 #[.slice a len cap, .int .u64 k] w (IdxPost k zs w) := by
  have HR := Lib.hid hr
  have hml := hr.2.1
  unfold maxLen at hml
  clear hr
  go_enter Try.func57, Try.ntmps57
  go_wp2
  go_loopw [8] (fun i wr => ∃ j : Nat, j ≤ len ∧ i = .int .i64 j ∧ w = wr ∧ Hid (k ∉ zs.take j)) (fun i _ => len - (RowKit.intOf i).toNat)
  case atStart => exact ⟨0, Nat.zero_le _, rfl, rfl, Lib.hid (by simp)⟩
  case round =>
    obtain ⟨j, hj, rfl, rfl, HJ⟩ := hrel
    by_cases hlt : j < len
    · obtain ⟨b, off, rfl, hcell⟩ := HR.out.at hlt
      have HM := Lib.hid (getD_mem zs j (by rw [HR.out.1]; exact hlt))
      have HT := Lib.hid (mem_take_snoc (k := k) (show j < zs.length by rw [HR.out.1]; exact hlt) HJ.out)
      generalize zs[j]?.getD 0 = x at *
      by_cases hx : k = x
      · have HF : Hid (k ∈ zs) := Lib.hid (hx ▸ HM.out)
        have hx' : (k == x) = true := by simpa using hx
        clear hx
        go_wp2
        go_ret
        exact ⟨j, rfl, by rw [decide_eq_true HF.out]; simp, rfl⟩
      · have hx' : (k == x) = false := by simpa using hx
        have HN := Lib.hid (HT.out hx)
        clear hx
        go_wp2
        go_roundw
        case rel => exact ⟨j + 1, by omega, by go_num, by trivial, HN⟩
        case measure => simp [RowKit.intOf]; omega
    · have HF : Hid (k ∉ zs) := Lib.hid (by have h := HJ.out; rwa [List.take_of_length_le (by have := HR.out.1; omega)] at h)
      go_wp2
      go_ret
      exact ⟨-1, rfl, by rw [decide_eq_false HF.out]; simp, rfl⟩
set_option maxHeartbeats 1000000 in
theorem containsK_any (k : Int) (a : Option Addr) (len cap : Nat) (zs : List Int) (w : World) (hr : Row .u64 w a len zs) :
    Calls Try.prog 53 #[.slice a len cap, .int .u64 k] w fun e w' => e = .returned (.bool (decide (k ∈ zs))) ∧ w = w' := by
  go_enter Try.func53, Try.ntmps53
  go_wp2_with fail
  refine (index_any k a len cap zs w hr).mono ?_
  rintro e w' ⟨r, rfl, hr2, rfl⟩
  have HR2 := Lib.hid hr2
  clear hr2 hr
  go_wp2
  go_ret
  exact ⟨by rw [← HR2.out]; rfl, rfl⟩
set_option maxHeartbeats 1000000 in
theorem keyHas_any (k : Int) (a : Option Addr) (len cap : Nat) (zs : List Int) (w : World) (hr : Row .u64 w a len zs) :
    Calls Try.prog 42 #[.slice a len cap, .int .u64 k] w fun e w' => e = .returned (.bool (decide (k ∈ zs))) ∧ w = w' := by
  go_enter Try.func42, Try.ntmps42
  go_wp2_with fail
  refine (containsK_any k a len cap zs w hr).mono ?_
  rintro e w' ⟨rfl, rfl⟩
  clear hr
  go_wp2
  go_ret
  exact ⟨rfl, rfl⟩

theorem row_nil {w : World} {a : Option Addr} {len cap : Nat} {zs : List Int} (h : Row .u64 w a len zs) (hn : a = none → cap = 0) : a = none → len = 0 ∧ cap = 0 := by
  intro e
  refine ⟨?_, hn e⟩
  rcases h.2.2 with h3 | ⟨b, off, h3, _⟩
  · exact h3
  · rw [e] at h3; cases h3
theorem own_holds {X : World} {base g n cap : Nat} {T : TypeId} {zs : List Int} (h : X.ownsRow base T 1 (.slice (some ⟨g, 0, none⟩) n cap) n (zs.map (Value.int .u64))) : Holds (Value.int .u64) X g 0 zs.toArray ∧ g < X.heap.size ∧ base ≤ g ∧ n ≤ cap ∧ cap ≤ maxLen ∧ zs.length = n := by
  have hl : zs.length = n := by have := h.1; simpa using this
  rcases h.2 with ⟨h1, _⟩ | ⟨g', cap', cur, h1, hg, hh, hn, hc, hs, ht⟩
  · cases h1
  · cases h1
    refine ⟨fun j hj => ?_, lt_of_block hh, hg, hn, hc, hl⟩
    have hj' : j < zs.length := by simpa using hj
    refine ⟨?_, by simp [World.frozen?, hh]⟩
    rw [Nat.zero_add, World.ownsRow.cellAt h j (by omega)]
    simp [hj']
theorem grown_sort (X : World) (g n : Nat) (d : Array Int) (os : Array Obj) : X.grownBy (grow (putRow (Value.int .u64) (Sort.ahead X n) g 0 d) os) (some g) := by
  refine ⟨rfl, rfl, rfl, by simp, fun k hk hne => ?_⟩
  rw [heap_grow_old _ _ (by simpa using hk)]
  have : g ≠ k := fun e => hne (by rw [e])
  simp [putRow, mapBlock, Sort.ahead, Array.getElem?_modify, this]
theorem grown_put (X : World) (g n : Nat) (d : Array Int) : X.grownBy (putRow (Value.int .u64) (Sort.ahead X n) g 0 d) (some g) := by
  refine ⟨rfl, rfl, rfl, by simp, fun k hk hne => ?_⟩
  have : g ≠ k := fun e => hne (by rw [e])
  simp [putRow, mapBlock, Sort.ahead, Array.getElem?_modify, this]
def KAddPost (L : List Int) (w : World) (e : Ending) (w' : World) : Prop := ∃ (g cap : Nat), e = .returned (.slice (some ⟨g, 0, none⟩) L.length cap) ∧ Row .u64 w' (some ⟨g, 0, none⟩) L.length L ∧ Below w.heap.size w w' ∧ L.length ≤ cap ∧ cap ≤ 9223372036854775807
theorem comp_len (zs : List Int) : (Lib.compact zs).length ≤ zs.length := by
  unfold Lib.compact Lib.compactUpTo
  rw [List.length_map]
  have := List.length_filter_le (Lib.keeps zs.toArray) (List.range zs.length)
  simpa using this
theorem row_of_put {w X : World} {g n : Nat} {zs L : List Int} (hH : Holds (Value.int .u64) X g 0 zs.toArray) (hg : w.heap.size ≤ g) (hb : Below w.heap.size w X) (hl : L.length ≤ zs.length) (hm : zs.length ≤ 1000) :
    Row .u64 (putRow (Value.int .u64) (Sort.ahead X n) g 0 (L ++ List.replicate (zs.length - L.length) 0).toArray) (some ⟨g, 0, none⟩) L.length L ∧ Below w.heap.size w (putRow (Value.int .u64) (Sort.ahead X n) g 0 (L ++ List.replicate (zs.length - L.length) 0).toArray) := by
  refine ⟨⟨rfl, by unfold maxLen; omega, ?_⟩, hb.grown (grown_put X g n _) hb.size (fun q hq => by cases hq; exact hg)⟩
  have h2 := holds_putRow (Value.int .u64) (Sort.ahead X n) g 0 zs.toArray (L ++ List.replicate (zs.length - L.length) 0).toArray (holds_ahead _ _ _ _ _ _ hH) (by simp; omega)
  refine .inr ⟨g, 0, rfl, fun i hi => ?_⟩
  have := (h2 i (by simp; omega)).1
  rw [this]
  simp [getElem!_pos, show i < L.length + (zs.length - L.length) by omega, hi, List.getElem_append_left hi]

set_option maxRecDepth 100000 in
set_option maxHeartbeats 4000000 in
theorem keyAdd_any (k : Int) (a : Option Addr) (len cap : Nat) (zs : List Int) (w : World) (hr : Row .u64 w a len zs) (hnil : a = none → cap = 0) (hl : len ≤ 100) :
    Calls Try.prog 44 #[.slice a len cap, .int .u64 k] w (KAddPost (Lib.compact ((zs ++ [k]).mergeSort fun x y => decide (x ≤ y))) w) := by
  have HR := Lib.hid hr
  have HN1 : Hid (a = none → len = 0 ∧ cap = 0) := Lib.hid (row_nil hr hnil)
  clear hr hnil
  go_enter Try.func44, Try.ntmps44
  go_wp2_with fail
  have HB2 : Hid (Below w.heap.size w ((w.alloc (.cells #[.int .u64 k] 24)).alloc (.cells #[.slice a len cap, .slice (some ⟨w.heap.size, 0, none⟩) 1 1] 31))) := Lib.hid (bthen (Below.alloc1 _ _) (Below.alloc1 _ _))
  have HS2 : Hid (Src ((w.alloc (.cells #[.int .u64 k] 24)).alloc (.cells #[.slice a len cap, .slice (some ⟨w.heap.size, 0, none⟩) 1 1] 31)) (some ⟨w.heap.size, 0, none⟩) [.int .u64 k]) := Lib.hid ((Src.one w (.int .u64 k) 24).below (Below.alloc1 _ _))
  have HC0 : Hid (((w.alloc (.cells #[.int .u64 k] 24)).alloc (.cells #[.slice a len cap, .slice (some ⟨w.heap.size, 0, none⟩) 1 1] 31)).cell? ⟨w.heap.size + 1, 0, none⟩ = some (.slice a len cap)) := Lib.hid ((by simp : (w.alloc (.cells #[.int .u64 k] 24)).heap.size = w.heap.size + 1) ▸ cell_new (w.alloc (.cells #[.int .u64 k] 24)) #[.slice a len cap, .slice (some ⟨w.heap.size, 0, none⟩) 1 1] 31 0)
  have HC1 : Hid (((w.alloc (.cells #[.int .u64 k] 24)).alloc (.cells #[.slice a len cap, .slice (some ⟨w.heap.size, 0, none⟩) 1 1] 31)).cell? ⟨w.heap.size + 1, 1, none⟩ = some (.slice (some ⟨w.heap.size, 0, none⟩) 1 1)) := Lib.hid ((by simp : (w.alloc (.cells #[.int .u64 k] 24)).heap.size = w.heap.size + 1) ▸ cell_new (w.alloc (.cells #[.int .u64 k] 24)) #[.slice a len cap, .slice (some ⟨w.heap.size, 0, none⟩) 1 1] 31 1)
  refine (concat_any (w.heap.size + 1) a len cap (zs.map (Value.int .u64)) ⟨w.heap.size, 0, none⟩ [.int .u64 k] _ HC0.out HC1.out ((Src.of_row HR.out).below HB2.out) (by rw [List.length_map, HR.out.1]; omega) (oneCell_ints _ _) HN1.out HS2.out rfl (oneCell_ints .u64 [k]) (by omega)).mono ?_
  rintro e y ⟨v, rfl, ho, hb⟩
  have ho' : y.ownsRow w.heap.size 24 1 v (len + 1) ((zs ++ [k]).map (Value.int .u64)) := by
    have := ownsRow_base ho HB2.out.size
    simpa using this
  have hb' := bthen HB2.out hb
  obtain ⟨g, vc, rfl⟩ : ∃ g vc, v = .slice (some ⟨g, 0, none⟩) (len + 1) vc := by
    rcases ho'.2 with ⟨_, h⟩ | ⟨g, c, cur, h, _⟩
    · omega
    · exact ⟨g, c, h⟩
  obtain ⟨hH, hgl, hgb, hcl, hcm, hzl⟩ := own_holds ho'
  have HBE := Lib.hid hb'
  clear ho ho' hb hb' HB2 HS2 HC0 HC1
  generalize hqs : zs ++ [k] = qs at *
  have HQS := Lib.hid hqs
  clear hqs
  have hsl : (qs.mergeSort fun x y => decide (x ≤ y)).length = len + 1 := by simp [hzl]
  have HSORT : Hid (Calls Try.prog 55 #[.slice (some ⟨g, 0, none⟩) (len + 1) vc] y fun e w' => e = .returned (.tuple #[]) ∧ ∃ n os, w' = grow (putRow (Value.int .u64) (Sort.ahead y n) g 0 (qs.mergeSort fun x y => decide (x ≤ y)).toArray) os) := Lib.hid (by
    have h := Ks.slices_Sort_int g 0 vc qs y hH hgl (by omega)
    rw [hzl] at h
    exact h)
  have HH2 : Hid (∀ n os, Holds (Value.int .u64) (grow (putRow (Value.int .u64) (Sort.ahead y n) g 0 (qs.mergeSort fun x y => decide (x ≤ y)).toArray) os) g 0 (qs.mergeSort fun x y => decide (x ≤ y)).toArray) := Lib.hid (fun n os => holds_grow _ _ _ _ _ _ (by simpa using hgl) (holds_putRow _ _ _ _ qs.toArray _ (holds_ahead _ _ _ _ _ _ hH) (by simp)))
  have HB2 : Hid (∀ n os, Below w.heap.size w (grow (putRow (Value.int .u64) (Sort.ahead y n) g 0 (qs.mergeSort fun x y => decide (x ≤ y)).toArray) os)) := Lib.hid (fun n os => HBE.out.grown (grown_sort y g n _ os) HBE.out.size (fun q hq => by cases hq; exact hgb))
  clear hH
  generalize hss : (qs.mergeSort fun x y => decide (x ≤ y)) = ss at *
  have HE : Hid (Lib.compact ((zs ++ [k]).mergeSort fun x y => decide (x ≤ y)) = Lib.compact ss) := Lib.hid (by rw [HQS.out, hss])
  clear hss
  have HSL := Lib.hid hsl
  unfold maxLen at hcm
  clear hsl hzl
  go_wp2_with fail
  refine HSORT.out.mono ?_
  rintro e y2 ⟨rfl, n, os, hy2⟩
  have H2 := Lib.hid (HH2.out n os)
  have HB3 := Lib.hid (HB2.out n os)
  rw [← hy2] at H2 HB3
  clear hy2 HH2 HB2 HSORT
  have HCOMP : Hid (Calls Try.prog 56 #[.slice (some ⟨g, 0, none⟩) (len + 1) vc] y2 fun e w' => e = .returned (.slice (some ⟨g, 0, none⟩) (Lib.compact ss).length vc) ∧ ∃ q, w' = putRow (Value.int .u64) (Sort.ahead y2 q) g 0 (Lib.compact ss ++ List.replicate (ss.length - (Lib.compact ss).length) 0).toArray) := Lib.hid (by
    have h := Ks.slices_Compact_int g 0 vc ss y2 H2.out (by have := HSL.out; omega) (by have := HSL.out; omega)
    have e : ss.length = len + 1 := HSL.out
    simp only [e] at h ⊢
    exact h)
  go_wp2_with fail
  refine HCOMP.out.mono ?_
  rintro e y3 ⟨rfl, q, rfl⟩
  have HF := Lib.hid (row_of_put (n := q) H2.out hgb HB3.out (comp_len ss) (by have := HSL.out; omega))
  have HCL := Lib.hid (comp_len ss)
  clear HCOMP H2 HB3
  go_wp2
  go_ret
  rw [HE.out]
  exact ⟨g, vc, rfl, HF.out.1, HF.out.2, by have := HCL.out; have := HSL.out; omega, by omega⟩
end Go.Proofs.Ytbfdggppjcaplaa
