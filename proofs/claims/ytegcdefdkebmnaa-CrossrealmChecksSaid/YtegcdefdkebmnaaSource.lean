/- Contracts of kerbsuitedata.Source: More, Next. -/
import Derived.Test.YtegcdefdkebmnaaAddDef
import Derived.Test.YtegcdefdkebmnaaQuiet
import Derived.Test.YtegcdefdkebmnaaCells
namespace Go.Proofs.Ytegcdefdkebmnaa
open Go.RowKit

/-- block g is a source over the bytes zs, at k -/
def SrcAt (X : World) (g : Nat) (a : Option Addr) (len cap : Nat) (zs : List Int) (k : Nat) : Prop :=
  X.heap[g]? = some (.cells #[.slice a len cap, .int .i64 k] 79 (0, 0)) ∧ k ≤ len ∧ Row .u8 X a len zs ∧ (∀ x, a = some x → len ≠ 0 → x.block ≠ g)
theorem SrcAt.cells {X : World} {g : Nat} {a : Option Addr} {len cap : Nat} {zs : List Int} {k : Nat} (h : SrcAt X g a len cap zs k) :
    X.cell? ⟨g, 0, none⟩ = some (.slice a len cap) ∧ X.cell? ⟨g, 1, none⟩ = some (.int .i64 k) ∧ X.frozen? ⟨g, 1, none⟩ = false ∧ g < X.heap.size := by
  have h2 := h.1
  exact ⟨by simp [World.cell?, h2], by simp [World.cell?, h2], by simp [World.frozen?, h2], lt_of_block h2⟩
theorem SrcAt.grown {X X' : World} {g : Nat} {a : Option Addr} {len cap : Nat} {zs : List Int} {k : Nat} {row : Option Nat} (h : SrcAt X g a len cap zs k) (hg : X.grownBy X' row) (h1 : some g ≠ row) (h2 : ∀ x, a = some x → len ≠ 0 → some x.block ≠ row) : SrcAt X' g a len cap zs k := by
  obtain ⟨q1, q2, q3, q4⟩ := h
  refine ⟨(hg.block g (lt_of_block q1) h1).trans q1, q2, ⟨q3.1, q3.2.1, ?_⟩, q4⟩
  by_cases h0 : len = 0
  · exact .inl h0
  rcases q3.2.2 with h3 | ⟨b, off, rfl, hc⟩
  · exact absurd h3 h0
  · exact .inr ⟨b, off, rfl, fun i hi => hg.cell (hc i hi) (h2 ⟨b, off, none⟩ rfl h0)⟩
theorem below_grown {X X' : World} (h : Below X.heap.size X X') (row : Option Nat) : X.grownBy X' row := ⟨h.os, h.tape, h.output, h.size, fun k hk _ => h.block k hk⟩
theorem SrcAt.below {X X' : World} {g : Nat} {a : Option Addr} {len cap : Nat} {zs : List Int} {k : Nat} (h : SrcAt X g a len cap zs k) (hb : Below X.heap.size X X') : SrcAt X' g a len cap zs k :=
  h.grown (below_grown hb none) (by simp) (by simp)
theorem SrcAt.next {X : World} {g : Nat} {a : Option Addr} {len cap : Nat} {zs : List Int} {k : Nat} (h : SrcAt X g a len cap zs k) (hk : k + 1 ≤ len) : SrcAt (X.setCell ⟨g, 1, none⟩ (.int .i64 ((k : Int) + 1))) g a len cap zs (k + 1) ∧ X.grownBy (X.setCell ⟨g, 1, none⟩ (.int .i64 ((k : Int) + 1))) (some g) := by
  obtain ⟨q1, q2, q3, q4⟩ := h
  refine ⟨⟨?_, hk, ⟨q3.1, q3.2.1, ?_⟩, q4⟩, grown_set (World.grownBy.refl _ _) 1 _⟩
  · simp [World.setCell, Array.getElem?_modify, q1]
  by_cases h0 : len = 0
  · exact .inl h0
  rcases q3.2.2 with h3 | ⟨b, off, rfl, hc⟩
  · exact absurd h3 h0
  · refine .inr ⟨b, off, rfl, fun j hj => ?_⟩
    have hb : b ≠ g := q4 ⟨b, off, none⟩ rfl h0
    rw [World.cell?_setCell_other X ⟨g, 1, none⟩ ⟨b, off + j, none⟩ _ (fun e => by injection e with e; exact hb e.symm)]
    exact hc j hj

set_option maxHeartbeats 2000000 in
theorem more_any (g : Nat) (a : Option Addr) (len cap : Nat) (zs : List Int) (k : Nat) (w : World) (h : SrcAt w g a len cap zs k) :
    Calls Try.prog 47 #[.pointer (some ⟨g, 0, none⟩)] w fun e w' => e = .returned (.bool (decide (k < len))) ∧ Below w.heap.size w w' := by
  obtain ⟨c0, c1, _, c3⟩ := h.cells
  clear h
  go_enter Try.func47, Try.ntmps47
  go_wp2
  go_quiet (fail)
  go_wp2
  go_ret
  exact ⟨rfl, Below.drewN1 _ _ _⟩

def NextPost (g : Nat) (a : Option Addr) (len cap : Nat) (zs : List Int) (n : Int) (w : World) (e : Ending) (w' : World) : Prop :=
  ∃ (y : Int) (k' : Nat), e = .returned (.int .i64 y) ∧ 0 ≤ y ∧ y < n ∧ SrcAt w' g a len cap zs k' ∧ w.grownBy w' (some g)
set_option maxHeartbeats 4000000 in
theorem next_any (n : Int) (g : Nat) (a : Option Addr) (len cap : Nat) (zs : List Int) (k : Nat) (w : World) (h : SrcAt w g a len cap zs k) (hz : ∀ m ∈ zs, (Lit.int .u8 m).wf = true) (hn : 1 ≤ n) (hn2 : n ≤ 100000) :
    Calls Try.prog 48 #[.pointer (some ⟨g, 0, none⟩), .int .i64 n] w (NextPost g a len cap zs n w) := by
  obtain ⟨c0, c1, c2, c3⟩ := h.cells
  have H := Lib.hid h
  have hkl := h.2.1
  have hml := h.2.2.1.2.1
  unfold maxLen at hml
  clear h
  by_cases hlt : k < len
  · obtain ⟨b, off, rfl, hc⟩ := H.out.2.2.1.at hlt
    have hne : ¬ b = g := H.out.2.2.2 ⟨b, off, none⟩ rfl (by omega)
    have hm := bounds_u8 (hz _ (getD_mem zs k (by rw [H.out.2.2.1.1]; exact hlt)))
    generalize zs[k]?.getD 0 = y at *
    have b1 : decide ((len : Int) ≤ (k : Int)) = false := by simp; omega
    have b1' : decide ((k : Int) ≥ (len : Int)) = false := by simp; omega
    have b2 : decide (n ≤ 0) = false := by simp; omega
    have q1 : (0 : Int) ≤ (k : Int) := by omega
    have q2 : (k : Int) < (len : Int) := by omega
    have w1 : IntKind.i64.wrap y = y := IntWalk.i64_in _ (by omega)
    have t1 : y.tmod n = y % n := Int.tmod_eq_emod_of_nonneg (by omega)
    have m1 := Int.emod_nonneg y (show n ≠ 0 by omega)
    have m2 := Int.emod_lt_of_pos y (show 0 < n by omega)
    have n0 : (n == 0) = false := by simp; omega
    have HW : Hid (IntKind.i64.wrap (y % n) = y % n) := Lib.hid (IntWalk.i64_in _ (by omega))
    have w2 := HW.out
    clear hz
    go_enter Try.func48, Try.ntmps48
    go_wp2
    go_quiet (fail)
    go_wp2
    go_quiet (fail)
    clear w1 w2 t1
    go_wp2
    go_ret
    obtain ⟨s1, s2⟩ := (H.out.below (Below.drewN1 w (_ + _) _)).next (by omega)
    exact ⟨y % n, k + 1, rfl, m1, m2, s1, (below_grown (Below.drewN1 _ _ _) _).trans s2⟩
  · have b1 : decide ((len : Int) ≤ (k : Int)) = true := by simp; omega
    go_enter Try.func48, Try.ntmps48
    go_wp2
    go_quiet (fail)
    go_wp2
    go_ret
    exact ⟨0, k, rfl, by omega, by omega, H.out.below (Below.drewN1 _ _ _), below_grown (Below.drewN1 _ _ _) _⟩
end Go.Proofs.Ytegcdefdkebmnaa
