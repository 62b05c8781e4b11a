/- Arguments of the laws of chapter 14, opened: cross-realm keys, bytes. -/
import Derived.Test.YtegcdefdkebmnaaCross
import Derived.ProofKit
import Derived.OpenShut
import Derived.Deep.Slices
namespace Go.Proofs.Ytegcdefdkebmnaa
open Go.RowKit Go.ChangeShapes Go.WideShapes Go.Deep
section
variable {H : Type} {enc : TypeId × Value → H} {w : World} {base : Nat} {spare : Nat → Bool} {held : Bool}

namespace Open14
theorem cells_int : Try.prog.cellsOf 3 = 1 := by kernel_rfl
theorem cells_str : Try.prog.cellsOf 9 = 1 := by kernel_rfl
theorem cells_key : Try.prog.cellsOf 52 = 1 := by kernel_rfl
theorem cells_ck : Try.prog.cellsOf 54 = 4 := by kernel_rfl
theorem list4 {α : Type} {l : List α} (h : l.length = 4) : ∃ a b c d, l = [a, b, c, d] := by
  match l, h with
  | [a, b, c, d], _ => exact ⟨a, b, c, d, rfl⟩
theorem some_of {α : Type} {l : List α} {i n : Nat} (h : l.length = n) (hi : i < n) : ∃ y, l[i]? = some y := ⟨l[i]'(by omega), List.getElem?_eq_getElem (by omega)⟩
end Open14
open Open14

theorem open_ck {fuel : Nat} {cs : List Value} {x : DataW H × List MemPlace} (h : DataW.trod enc Try.prog w base spare held fuel 54 cs = some x) : ∃ m : Ck, m.ok ∧ cs = m.cells := by
  obtain ⟨xs, k, _, _, hl, hx, hf⟩ := DataW.trod_struct Try.underlying54 h
  rw [cells_ck] at hl
  obtain ⟨c0, c1, c2, c3, rfl⟩ := list4 hl
  have hx4 : xs.length = 4 := hx
  obtain ⟨y0, e0⟩ := some_of hx4 (i := 0) (by omega)
  obtain ⟨y1, e1⟩ := some_of hx4 (i := 1) (by omega)
  obtain ⟨y2, e2⟩ := some_of hx4 (i := 2) (by omega)
  obtain ⟨y3, e3⟩ := some_of hx4 (i := 3) (by omega)
  have h0 : DataW.trod enc Try.prog w base spare held k 9 (([c0, c1, c2, c3].drop 0).take (Try.prog.cellsOf 9)) = some y0 := (hf 0 _ rfl).trans e0
  have h1 : DataW.trod enc Try.prog w base spare held k 9 (([c0, c1, c2, c3].drop 1).take (Try.prog.cellsOf 9)) = some y1 := (hf 1 _ rfl).trans e1
  have h2 : DataW.trod enc Try.prog w base spare held k 3 (([c0, c1, c2, c3].drop 2).take (Try.prog.cellsOf 3)) = some y2 := (hf 2 _ rfl).trans e2
  have h3 : DataW.trod enc Try.prog w base spare held k 52 (([c0, c1, c2, c3].drop 3).take (Try.prog.cellsOf 52)) = some y3 := (hf 3 _ rfl).trans e3
  rw [cells_str] at h0 h1
  rw [cells_int] at h2
  rw [cells_key] at h3
  obtain ⟨n0, g0, _, s0⟩ := DataW.trod_string Try.underlying9 h0
  obtain ⟨n1, g1, _, s1⟩ := DataW.trod_string Try.underlying9 h1
  obtain ⟨n2, g2, _, s2⟩ := DataW.trod_int Try.underlying3 h2
  obtain ⟨n3, g3, _, s3⟩ := DataW.trod_int Try.underlying52 h3
  simp at g0 g1 g2 g3
  subst g0 g1 g2 g3
  have b2 := bounds_i64 s2
  have b3 := bounds_u64' s3
  exact ⟨⟨n0, n1, n2, n3⟩, ⟨s0, s1, by constructor <;> (simp only; omega), b3⟩, rfl⟩
/-- what the reader says of a list of cross-realm keys -/
def CkRow (w : World) (a : Option Addr) (len cap : Nat) (ms : List Ck) : Prop := FRow w a len 4 (ccells ms) ∧ (∀ m ∈ ms, m.ok) ∧ len ≤ cap ∧ cap ≤ 9223372036854775807 ∧ (a = none → cap = 0)
theorem open_cks {fuel : Nat} {a : Option Addr} {len cap : Nat} {x : DataW H × List MemPlace} (h : DataW.trod enc Try.prog w base spare held fuel 49 [.slice a len cap] = some x) :
    ∃ ms : List Ck, CkRow w a len cap ms := by
  rcases open_slice Try.underlying49 h with ⟨h0, _⟩ | ⟨ad, len', cap', m, n, D, Pl, hcs, _, hl, hm, hmm, _, hi⟩
  · simp at h0
    obtain ⟨rfl, rfl, rfl⟩ := h0
    exact ⟨[], ⟨rfl, .inl rfl⟩, by simp, Nat.le_refl _, by omega, fun _ => rfl⟩
  · simp at hcs
    obtain ⟨rfl, rfl, rfl⟩ := hcs
    have hlm : len ≤ m := by rw [hmm]; split <;> omega
    rw [cells_ck] at hi
    have key : ∀ k, k ≤ len → ∃ ms : List Ck, ms.length = k ∧ (∀ x ∈ ms, x.ok) ∧ ∀ j, j < k * 4 → w.cell? (ad.add j) = (ccells ms)[j]? := by
      intro k
      induction k with
      | zero => intro _; exact ⟨[], rfl, by simp, fun j hj => by omega⟩
      | succ k ih =>
        intro hk
        obtain ⟨ms, h1, h2, h3⟩ := ih (by omega)
        obtain ⟨cs', hc, ht⟩ := hi k (by omega)
        obtain ⟨x, hxo, rfl⟩ := open_ck ht
        obtain ⟨_, hcl, hat⟩ := World.cells?_some hc
        have hml : (ccells ms).length = k * 4 := by rw [ccells_len, h1]
        refine ⟨ms ++ [x], by simp [h1], ?_, fun j hj => ?_⟩
        · intro y hy
          rcases List.mem_append.1 hy with hy | hy
          · exact h2 y hy
          · rw [List.mem_singleton.1 hy]; exact hxo
        · rw [show ccells (ms ++ [x]) = ccells ms ++ x.cells by simp [ccells]]
          by_cases hjk : j < k * 4
          · rw [List.getElem?_append_left (by omega)]; exact h3 j hjk
          · rw [List.getElem?_append_right (by omega), hml, ← hat (j - k * 4) (by omega)]
            congr 1
            rw [Go.Deep.add_add]
            congr 1
            omega
    obtain ⟨ms, h1, h2, h3⟩ := key len (Nat.le_refl _)
    refine ⟨ms, ⟨by rw [ccells_len, h1], ?_⟩, h2, hl, by unfold maxLen at hm; omega, fun h => by cases h⟩
    by_cases h0 : len = 0
    · exact .inl h0
    · right
      obtain ⟨b, off, spot⟩ := ad
      have hc := h3 0 (by omega)
      rw [List.getElem?_eq_getElem (by rw [ccells_len]; omega)] at hc
      have hspot : spot = none := by simpa [Addr.add] using World.cell?_spot hc
      subst hspot
      refine ⟨b, off, rfl, fun i hi' => ?_⟩
      rw [ccells_len] at hi'
      rw [← h3 i (by omega)]
      unfold Addr.add
      split <;> simp_all
set_option maxRecDepth 100000 in
theorem open_ckV {r : Reach} {b0 : Nat} {v : Value} {d : DataW H} {p : List MemPlace} (hv : Value.okWide Try.prog w r b0 54 v) (h : DataW.Trod enc Try.prog w base spare held 54 v d p) : ∃ m : Ck, m.ok ∧ v = .agg #[.string m.fr, .string m.to, .int .i64 m.kv, .int .u64 m.ky] := by
  obtain ⟨cs, rfl, _⟩ := okWide_struct Try.underlying54 hv
  obtain ⟨fuel, hf⟩ := h
  obtain ⟨m, hm, hc⟩ := open_ck hf
  exact ⟨m, hm, by have : cs.toList = _ := hc; rw [← Array.toArray_toList (xs := cs), this]; rfl⟩
set_option maxRecDepth 100000 in
theorem open_cksV {a : Option Addr} {len cap : Nat} {d : DataW H} {p : List MemPlace} (h : DataW.Trod enc Try.prog w base spare held 49 (.slice a len cap) d p) : ∃ ms : List Ck, CkRow w a len cap ms := by
  obtain ⟨fuel, hf⟩ := h
  exact open_cks hf
set_option maxRecDepth 100000 in
theorem open_bytesV {a : Option Addr} {len cap : Nat} {d : DataW H} {p : List MemPlace} (h : DataW.Trod enc Try.prog w base (fun _ => true) held 50 (.slice a len cap) d p) : ∃ zs : List Int, Row .u8 w a len zs ∧ ∀ n ∈ zs, (Lit.int .u8 n).wf = true := by
  obtain ⟨fuel, hf⟩ := h
  obtain ⟨zs, hz⟩ : ∃ zs, IsRow .u8 w a len cap zs := by
    rcases open_ints Try.underlying50 Try.underlying5 (by kernel_rfl) hf with ⟨hcs, _⟩ | ⟨x, l, c, zs, hcs, _, hl, hm, hz, _, hcell, hwz⟩
    · simp [Value.cells] at hcs
      obtain ⟨rfl, rfl, rfl⟩ := hcs
      exact ⟨[], .inl ⟨rfl, rfl, rfl, rfl⟩⟩
    · simp [Value.cells] at hcs
      obtain ⟨rfl, rfl, rfl⟩ := hcs
      exact ⟨zs, .inr ⟨_, rfl, hl, hm, by simpa using hz, hcell, hwz⟩⟩
  exact ⟨zs.take len, hz.row, hz.wf⟩
end
end Go.Proofs.Ytegcdefdkebmnaa
