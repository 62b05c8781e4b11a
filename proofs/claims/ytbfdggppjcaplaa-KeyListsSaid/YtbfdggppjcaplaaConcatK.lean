/- Contracts of slices.Grow (of nil) and slices.Concat (of two slices). -/
import Derived.Test.YtbfdggppjcaplaaAppend
import Derived.Test.YtbfdggppjcaplaaCells
import Derived.Lib.AppendZerosOnto
import Derived.Lib.SliceRun
namespace Go.Proofs.Ytbfdggppjcaplaa
open Go.RowKit Go.Lib

theorem own_grown (w : World) (T : TypeId) (size G : Nat) (C : Array Value) (hC : C.size = G * size) (hG : G ≤ maxLen) : (w.alloc (.cells C T)).drew.ownsRow w.heap.size T size (.slice (some ⟨w.heap.size, 0, none⟩) 0 G) 0 [] :=
  ⟨by simp, .inr ⟨w.heap.size, G, C, rfl, Nat.le_refl _, (show (w.alloc (.cells C T)).heap[w.heap.size]? = some (.cells C T (0, 0)) from by unfold World.alloc; exact Array.getElem?_push_size), Nat.zero_le _, hG, hC, by simp⟩⟩
theorem info_el : (Try.prog.info? 24).map (fun i => (i.zero, i.size, i.bytes)) = some (some (.int .u64 0), 1, 8) := by kernel_rfl
def GrowPost (w : World) (e : Ending) (w' : World) : Prop := ∃ v, e = .returned v ∧ w'.ownsRow w.heap.size 24 1 v 0 [] ∧ Below w.heap.size w w'
theorem zeroCells_size (C : Array Value) (n : Nat) : (Builtin.zeroCells C n).size = n * C.size := by
  simp [Builtin.zeroCells]

set_option maxRecDepth 100000 in
set_option maxHeartbeats 2000000 in
theorem grow_any (n : Nat) (w : World) (hn : n ≤ 1000001) :
    Calls Try.prog 58 #[.slice none 0 0, .int .i64 n] w (GrowPost w) := by
  by_cases h0 : n = 0
  · subst h0
    go_enter Try.func58, Try.ntmps58
    go_wp2
    go_ret
    exact ⟨_, rfl, ⟨by simp, .inl ⟨rfl, rfl⟩⟩, Below.refl _ _⟩
  · obtain ⟨i0, hi, hz0, hz1, hz2⟩ := info_parts info_el
    have hGn : n ≤ grownCap w n 0 24 := grownCap_ge w _ _ _
    have hGm : grownCap w n 0 24 ≤ maxLen := grownCap_le_maxLen w n 0 24 (by unfold maxLen; omega)
    have hrz : ∀ ty, (Builtin.append_ #[31, 3] ty #[.slice none 0 0, .int .i64 (n : Int)]).run Try.prog w = .ok (.slice (some ⟨w.heap.size, 0, none⟩) n (grownCap w n 0 24)) (w.drew.alloc (.cells (([] : List Value).toArray ++ Builtin.zeroCells (.int .u64 0 : Value).cells n ++ Builtin.zeroCells (.int .u64 0 : Value).cells (grownCap w n 0 24 - n)) 24)) := fun ty => by
      have h := Lib.run_append_grow_zeros w 31 3 ty 24 i0 (.int .u64 0) .i64 .i64 Try.underlying31 Try.underlying3 hi hz0 none 0 0 [] (run_firstCells_none w.drew i0.size 0 0 0) n (by omega) (by rw [hz1]; decide) (by omega) (by omega) (by rw [hz2]; omega)
        (by rw [hz2, Nat.zero_add]; exact growslice_fits (by omega) (by omega))
      simpa using h
    have HC : Hid (GrowPost w (.returned (.slice (some ⟨w.heap.size, 0, none⟩) 0 (grownCap w n 0 24))) (World.drew (w.alloc (.cells (([] : List Value).toArray ++ Builtin.zeroCells (.int .u64 0 : Value).cells n ++ Builtin.zeroCells (.int .u64 0 : Value).cells (grownCap w n 0 24 - n)) 24)))) := Lib.hid ⟨_, rfl, own_grown w _ _ _ _ (by
        rw [Array.size_append, Array.size_append, zeroCells_size, zeroCells_size]
        have : (.int .u64 0 : Value).cells.size = 1 := rfl
        rw [this]; simp; omega) hGm, ((Below.refl _ _).alloc (Nat.le_refl _) _).drew⟩
    unfold maxLen at hGm
    generalize grownCap w n 0 24 = G at *
    generalize ([] : List Value).toArray ++ Builtin.zeroCells (.int .u64 0 : Value).cells n ++ Builtin.zeroCells (.int .u64 0 : Value).cells (G - n) = C at *
    clear hi hz0 hz1 hz2
    have h1 : (0 : Int) < (n : Int) := by omega
    go_enter Try.func58, Try.ntmps58
    go_wp2_with (at_builtin; refine Lib.wpList_append_run _ rfl _ _ _ _ rfl _ _ rfl rfl _ _ (hrz _) ?_)
    go_ret
    exact HC.out

def ConcatPost (n : Nat) (cs : List Value) (w : World) (e : Ending) (w' : World) : Prop := ∃ v, e = .returned v ∧ w'.ownsRow w.heap.size 24 1 v n cs ∧ Below w.heap.size w w'
def cnt2 (len : Nat) (k : Nat) : Nat := if k = 0 then 0 else if k = 1 then len else len + 1
def cs2 (a b : List Value) (k : Nat) : List Value := if k = 0 then [] else if k = 1 then a else a ++ b
set_option maxRecDepth 100000 in
set_option maxHeartbeats 4000000 in
theorem concat_any (B : Nat) (a1 : Option Addr) (len cap : Nat) (cs1 : List Value) (X : Addr) (csx : List Value) (w : World) (c0 : w.cell? ⟨B, 0, none⟩ = some (.slice a1 len cap)) (c1 : w.cell? ⟨B, 1, none⟩ = some (.slice (some X) 1 1))
    (h1 : Src w a1 cs1) (l1 : cs1.length = len * 1) (o1 : ∀ u ∈ cs1, u.oneCell' = true) (n1 : a1 = none → len = 0 ∧ cap = 0) (h2 : Src w (some X) csx) (l2 : csx.length = 1 * 1) (o2 : ∀ u ∈ csx, u.oneCell' = true) (hl : len ≤ 1000000) :
    Calls Try.prog 54 #[.slice (some ⟨B, 0, none⟩) 2 2] w (ConcatPost (len + 1) (cs1 ++ csx) w) := by
  have H1 := Lib.hid (And.intro h1 (And.intro l1 (And.intro o1 n1)))
  have H2 := Lib.hid (And.intro h2 (And.intro l2 o2))
  have HC := Lib.hid (And.intro c0 c1)
  clear h1 l1 o1 n1 h2 l2 o2
  obtain ⟨i0, hi, hz0, hz1, hz2⟩ := info_parts info_el
  have HI0 := Lib.hid (And.intro hi (And.intro hz0 (And.intro hz1 hz2)))
  clear hi hz0 hz1 hz2
  go_enter Try.func54, Try.ntmps54
  go_wp2
  go_loop [11, 3] (fun i s => ∃ k : Nat, k ≤ 2 ∧ i = .int .i64 k ∧ s = .int .i64 (cnt2 len k : Nat)) (fun i _ => 2 - (intOf i).toNat)
  case atStart => exact ⟨0, by omega, rfl, rfl⟩
  case round =>
    obtain ⟨k, hk, rfl, rfl⟩ := hrel
    have hk3 : k = 0 ∨ k = 1 ∨ k = 2 := by omega
    rcases hk3 with rfl | rfl | rfl
    · have e0 : cnt2 len 0 = 0 := rfl
      have E1 : Hid (cnt2 len 1 = len) := Lib.hid rfl
      rw [e0]
      clear e0
      go_wp2
      go_round
      case rel => exact ⟨1, by omega, rfl, by rw [E1.out]⟩
      case measure => simp [intOf]
    · have e0 : cnt2 len 1 = len := rfl
      have E1 : Hid (cnt2 len 2 = len + 1) := Lib.hid rfl
      rw [e0]
      clear e0
      go_wp2
      go_round
      case rel => exact ⟨2, by omega, rfl, by rw [E1.out]; go_num⟩
      case measure => simp [intOf]
    · have e0 : cnt2 len 2 = len + 1 := rfl
      rw [e0]
      clear e0
      go_wp2_with (go_at_call 58; refine (grow_any (len + 1) _ (by omega)).mono ?_; rintro e w0 ⟨v0, rfl, ho0, hb0⟩; have HO0 := Lib.hid (And.intro ho0 hb0); clear ho0 hb0)
      go_loopw [27, 6] (fun i v wr => ∃ k : Nat, k ≤ 2 ∧ i = .int .i64 k ∧ Hid (wr.ownsRow w.heap.size 24 1 v (cnt2 len k) (cs2 cs1 csx k) ∧ Below w.heap.size w wr)) (fun i _ _ => 2 - (intOf i).toNat)
      case atStart => exact ⟨0, by omega, rfl, HO0⟩
      case round =>
        obtain ⟨k, hk, rfl, HR⟩ := hrel
        clear HO0
        have hk3 : k = 0 ∨ k = 1 ∨ k = 2 := by omega
        have d0 := (HR.out.2.cell (World.block_lt_of_cell? _ _ HC.out.1)).trans HC.out.1
        have d1 := (HR.out.2.cell (World.block_lt_of_cell? _ _ HC.out.2)).trans HC.out.2
        rcases hk3 with rfl | rfl | rfl
        · go_wp2_with (at_builtin; refine wpList_append_src _ rfl _ _ 31 rfl w.heap.size 24 i0 (.int .u64 0) 1 8 Try.underlying31 HI0.out.1 HI0.out.2.1 HI0.out.2.2.1 HI0.out.2.2.2 rfl (by decide) _ 0 [] rfl HR.out.1 a1 len cap cs1 rfl H1.out.2.2.2 H1.out.2.1 (H1.out.1.below HR.out.2) H1.out.2.2.1 (by unfold maxLen; omega) (by omega) HR.out.2.size ?_; intro v' w1 hown' hgrow hat)
          have HN : Hid (w1.ownsRow w.heap.size 24 1 v' (cnt2 len 1) (cs2 cs1 csx 1) ∧ Below w.heap.size w w1) := Lib.hid ⟨by simpa [cnt2, cs2] using hown', HR.out.2.grown hgrow HR.out.2.size (fun q hq => (HR.out.1.lt q hq).1)⟩
          clear hown' hgrow hat
          go_wp2
          go_roundw
          case rel => exact ⟨1, by omega, rfl, HN⟩
          case measure => simp [intOf]
        · go_wp2_with (at_builtin; refine wpList_append_src _ rfl _ _ 31 rfl w.heap.size 24 i0 (.int .u64 0) 1 8 Try.underlying31 HI0.out.1 HI0.out.2.1 HI0.out.2.2.1 HI0.out.2.2.2 rfl (by decide) _ len cs1 rfl HR.out.1 (some X) 1 1 csx rfl (fun h => (Option.some_ne_none _ h).elim) H2.out.2.1 (H2.out.1.below HR.out.2) H2.out.2.2 (by unfold maxLen; omega) (by omega) HR.out.2.size ?_; intro v' w1 hown' hgrow hat)
          have HN : Hid (w1.ownsRow w.heap.size 24 1 v' (cnt2 len 2) (cs2 cs1 csx 2) ∧ Below w.heap.size w w1) := Lib.hid ⟨by simpa [cnt2, cs2] using hown', HR.out.2.grown hgrow HR.out.2.size (fun q hq => (HR.out.1.lt q hq).1)⟩
          clear hown' hgrow hat
          go_wp2
          go_roundw
          case rel => exact ⟨2, by omega, rfl, HN⟩
          case measure => simp [intOf]
        · go_wp2
          go_ret
          exact ⟨_, rfl, HR.out.1, HR.out.2⟩
end Go.Proofs.Ytbfdggppjcaplaa
