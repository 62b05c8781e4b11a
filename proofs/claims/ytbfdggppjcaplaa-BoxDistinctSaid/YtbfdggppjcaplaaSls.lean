/- A slice of byte slices, as the laws over boxes hold it. -/
import Derived.Test.YtbfdggppjcaplaaSpoil
import Derived.Test.YtbfdggppjcaplaaBoxLaw
namespace Go.Proofs.Ytbfdggppjcaplaa
open Go.RowKit
set_option linter.unusedVariables false

theorem str_at {w : World} {a : Option Addr} {n cap : Nat} {zs : List Int} (h : Row .u8 w a n zs) :
    (convert 32 9 (.slice a n cap)).run Try.prog w = .ok (.string (strOfNums zs)) w :=
  run_str Try.underlying32 Try.underlying5 Try.underlying9 h
theorem own_form' {T : TypeId} {w w' : World} {v : Value} {zs : List Int} (h : Own .u8 T w w' v zs) (hl : zs.length ≤ 100000) : ∃ a cap, v = .slice a zs.length cap ∧ zs.length ≤ cap ∧ cap ≤ 9223372036854775807 ∧ Row .u8 w' a zs.length zs ∧ (a = none → zs.length = 0 ∧ cap = 0) := by
  obtain ⟨a, cap, hv, h1, h2, h3, h4⟩ := own_slice h.1 (by unfold maxLen; omega)
  refine ⟨a, cap, hv, h1, h2, h3, fun h => ?_⟩
  rcases h4 with ⟨_, h2⟩ | ⟨b, off, h2⟩
  · subst h2; exact ⟨Nat.le_zero.1 h1, rfl⟩
  · rw [h] at h2; cases h2
/-- a byte slice that reads as zs -/
def Sl (w : World) (v : Value) (zs : List Int) : Prop := ∃ a n c, v = .slice a n c ∧ Row .u8 w a n zs ∧ (∀ x ∈ zs, 0 ≤ x ∧ x ≤ 255) ∧ n ≤ c ∧ c ≤ 9223372036854775807 ∧ n ≤ 100000
theorem Sl.below {w w' : World} {v : Value} {zs : List Int} (h : Sl w v zs) (hb : Below w.heap.size w w') : Sl w' v zs := by
  obtain ⟨a, n, c, h1, h2, h3⟩ := h
  exact ⟨a, n, c, h1, h2.below hb, h3⟩
def Has (w : World) (B N : Nat) : Prop := ∀ k, k < N → ∃ v zs, w.cell? ⟨B, k, none⟩ = some v ∧ Sl w v zs
theorem Has.below {w w' : World} {B N : Nat} (h : Has w B N) (hb : Below w.heap.size w w') : Has w' B N := by
  intro k hk
  obtain ⟨v, zs, h1, h2⟩ := h k hk
  exact ⟨v, zs, by rw [hb.cell (World.block_lt_of_cell? _ _ h1)]; exact h1, h2.below hb⟩
theorem has3 {w : World} {v0 v1 v2 : Value} {z0 z1 z2 : List Int} (T : TypeId) (h0 : Sl w v0 z0) (h1 : Sl w v1 z1) (h2 : Sl w v2 z2) : Has (w.alloc (.cells #[v0, v1, v2] T)) w.heap.size 3 := by
  intro k hk
  have hb := Below.alloc1 w (.cells #[v0, v1, v2] T)
  rcases (by omega : k = 0 ∨ k = 1 ∨ k = 2) with rfl | rfl | rfl
  · exact ⟨v0, z0, by simp, h0.below hb⟩
  · exact ⟨v1, z1, by simp, h1.below hb⟩
  · exact ⟨v2, z2, by simp, h2.below hb⟩
theorem has4 {w : World} {v0 v1 v2 v3 : Value} {z0 z1 z2 z3 : List Int} (T : TypeId) (h0 : Sl w v0 z0) (h1 : Sl w v1 z1) (h2 : Sl w v2 z2) (h3 : Sl w v3 z3) : Has (w.alloc (.cells #[v0, v1, v2, v3] T)) w.heap.size 4 := by
  intro k hk
  have hb := Below.alloc1 w (.cells #[v0, v1, v2, v3] T)
  rcases (by omega : k = 0 ∨ k = 1 ∨ k = 2 ∨ k = 3) with rfl | rfl | rfl | rfl
  · exact ⟨v0, z0, by simp, h0.below hb⟩
  · exact ⟨v1, z1, by simp, h1.below hb⟩
  · exact ⟨v2, z2, by simp, h2.below hb⟩
  · exact ⟨v3, z3, by simp, h3.below hb⟩
theorem sl_own {T : TypeId} {w w' : World} {v : Value} {zs : List Int} (h : Own .u8 T w w' v zs) (hb : ∀ x ∈ zs, 0 ≤ x ∧ x ≤ 255) (hl : zs.length ≤ 100000) : Sl w' v zs := by
  obtain ⟨a, cap, hv, h1, h2, h3, _⟩ := own_form' h hl
  exact ⟨a, _, cap, hv, h3, hb, h1, h2, hl⟩
theorem sl_row {w : World} {a : Option Addr} {len cap : Nat} {zs : List Int} (h : IsRow .u8 w a len cap zs) (hl : len ≤ 100000) : Sl w (.slice a len cap) (zs.take len) := by
  refine ⟨a, len, cap, rfl, h.row, fun n hn => bounds_u8 (h.wf n hn), ?_, ?_, hl⟩
  · rcases h with ⟨_, h1, h2, _⟩ | ⟨x, _, h1, h2, _⟩
    · omega
    · exact h1
  · rcases h with ⟨_, h1, h2, _⟩ | ⟨x, _, h1, h2, _⟩
    · omega
    · unfold maxLen at h2; omega
theorem openOut_len (b : List Int) (kind k : Int) : (openOut b kind k).length ≤ b.length := by
  unfold openOut boxBody
  split
  · split
    · simp; omega
    · simp
  · simp
theorem makeOut_len (kind k : Int) (b : List Int) : (makeOut kind k b).length ≤ 12 + b.length := by
  unfold makeOut
  split
  · simp [boxOf, bytesOf]; omega
  · simp
theorem makeOut_bd {kind k : Int} {b : List Int} (hk : 1 ≤ kind ∧ kind ≤ 10) (h0 : 0 ≤ k) (h1 : k ≤ 18446744073709551615) (hl : b.length ≤ 1000) (hb : ∀ x ∈ b, 0 ≤ x ∧ x ≤ 255) : ∀ x ∈ makeOut kind k b, 0 ≤ x ∧ x ≤ 255 := by
  unfold makeOut
  split
  · exact boxOf_bd hk h0 h1 hl hb
  · intro x hx; cases hx
end Go.Proofs.Ytbfdggppjcaplaa
