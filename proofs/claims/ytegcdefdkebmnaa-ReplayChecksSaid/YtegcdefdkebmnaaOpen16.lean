/- Arguments of the laws of chapter 16, opened: marks, caches, uses. -/
import Derived.Test.YtegcdefdkebmnaaUse
import Derived.ProofKit
import Derived.OpenShut
import Derived.Deep.Slices
namespace Go.Proofs.Ytegcdefdkebmnaa
open Go.RowKit Go.ChangeShapes Go.WideShapes Go.Deep
section
variable {H : Type} {enc : TypeId × Value → H} {w : World} {base : Nat} {spare : Nat → Bool} {held : Bool}

theorem cells_int : Try.prog.cellsOf 3 = 1 := by kernel_rfl
theorem cells_str : Try.prog.cellsOf 9 = 1 := by kernel_rfl
theorem cells_u8 : Try.prog.cellsOf 5 = 1 := by kernel_rfl
theorem cells_prin : Try.prog.cellsOf 34 = 3 := by kernel_rfl
theorem cells_mark : Try.prog.cellsOf 36 = 5 := by kernel_rfl
theorem cells_use : Try.prog.cellsOf 38 = 4 := by kernel_rfl
theorem cells_cache : Try.prog.cellsOf 24 = 3 := by kernel_rfl
theorem cells_marks : Try.prog.cellsOf 22 = 1 := by kernel_rfl
theorem list3 {α : Type} {l : List α} (h : l.length = 3) : ∃ a b c, l = [a, b, c] := by
  match l, h with
  | [a, b, c], _ => exact ⟨a, b, c, rfl⟩
theorem list4 {α : Type} {l : List α} (h : l.length = 4) : ∃ a b c d, l = [a, b, c, d] := by
  match l, h with
  | [a, b, c, d], _ => exact ⟨a, b, c, d, rfl⟩
theorem list5 {α : Type} {l : List α} (h : l.length = 5) : ∃ a b c d e, l = [a, b, c, d, e] := by
  match l, h with
  | [a, b, c, d, e], _ => exact ⟨a, b, c, d, e, rfl⟩
theorem some_of {α : Type} {l : List α} {i n : Nat} (h : l.length = n) (hi : i < n) : ∃ y, l[i]? = some y := ⟨l[i]'(by omega), List.getElem?_eq_getElem (by omega)⟩

theorem open_prin {fuel : Nat} {cs : List Value} {x : DataW H × List MemPlace} (h : DataW.trod enc Try.prog w base spare held fuel 34 cs = some x) :
    ∃ n i r : ByteArray, cs = [.string n, .string i, .string r] ∧ n.size ≤ maxLen ∧ i.size ≤ maxLen ∧ r.size ≤ maxLen := by
  obtain ⟨xs, k, _, _, hl, hx, hf⟩ := DataW.trod_struct Try.underlying34 h
  rw [cells_prin] at hl
  obtain ⟨c0, c1, c2, rfl⟩ := list3 hl
  · skip
    have hx3 : xs.length = 3 := hx
    obtain ⟨y0, e0⟩ := some_of hx3 (i := 0) (by omega)
    obtain ⟨y1, e1⟩ := some_of hx3 (i := 1) (by omega)
    obtain ⟨y2, e2⟩ := some_of hx3 (i := 2) (by omega)
    have h0 : DataW.trod enc Try.prog w base spare held k 9 (([c0, c1, c2].drop 0).take (Try.prog.cellsOf 9)) = some y0 := (hf 0 _ rfl).trans e0
    have h1 : DataW.trod enc Try.prog w base spare held k 9 (([c0, c1, c2].drop 1).take (Try.prog.cellsOf 9)) = some y1 := (hf 1 _ rfl).trans e1
    have h2 : DataW.trod enc Try.prog w base spare held k 9 (([c0, c1, c2].drop 2).take (Try.prog.cellsOf 9)) = some y2 := (hf 2 _ rfl).trans e2
    rw [cells_str] at h0 h1 h2
    obtain ⟨n, g0, _, s0⟩ := DataW.trod_string Try.underlying9 h0
    obtain ⟨i, g1, _, s1⟩ := DataW.trod_string Try.underlying9 h1
    obtain ⟨r, g2, _, s2⟩ := DataW.trod_string Try.underlying9 h2
    simp at g0 g1 g2
    subst g0 g1 g2
    exact ⟨n, i, r, rfl, s0, s1, s2⟩
theorem open_mark {fuel : Nat} {cs : List Value} {x : DataW H × List MemPlace} (h : DataW.trod enc Try.prog w base spare held fuel 36 cs = some x) : ∃ m : Mk, m.ok ∧ cs = m.cells := by
  obtain ⟨xs, k, _, _, hl, hx, hf⟩ := DataW.trod_struct Try.underlying36 h
  rw [cells_mark] at hl
  obtain ⟨c0, c1, c2, c3, c4, rfl⟩ := list5 hl
  · skip
    have hx3 : xs.length = 3 := hx
    obtain ⟨y0, e0⟩ := some_of hx3 (i := 0) (by omega)
    obtain ⟨y1, e1⟩ := some_of hx3 (i := 1) (by omega)
    obtain ⟨y2, e2⟩ := some_of hx3 (i := 2) (by omega)
    have h0 : DataW.trod enc Try.prog w base spare held k 34 (([c0, c1, c2, c3, c4].drop 0).take (Try.prog.cellsOf 34)) = some y0 := (hf 0 _ rfl).trans e0
    have h1 : DataW.trod enc Try.prog w base spare held k 3 (([c0, c1, c2, c3, c4].drop 3).take (Try.prog.cellsOf 3)) = some y1 := (hf 1 _ rfl).trans e1
    have h2 : DataW.trod enc Try.prog w base spare held k 3 (([c0, c1, c2, c3, c4].drop 4).take (Try.prog.cellsOf 3)) = some y2 := (hf 2 _ rfl).trans e2
    rw [cells_prin] at h0
    rw [cells_int] at h1 h2
    obtain ⟨n, i, r, g0, s0, s1, s2⟩ := open_prin h0
    obtain ⟨t, g1, _, s3⟩ := DataW.trod_int Try.underlying3 h1
    obtain ⟨q, g2, _, s4⟩ := DataW.trod_int Try.underlying3 h2
    simp at g0 g1 g2
    obtain ⟨rfl, rfl, rfl⟩ := g0
    subst g1 g2
    have b3 := bounds_i64 s3
    have b4 := bounds_i64 s4
    exact ⟨⟨n, i, r, t, q⟩, ⟨s0, s1, s2, by constructor <;> (simp only; omega), by constructor <;> (simp only; omega)⟩, rfl⟩
theorem open_marks {fuel : Nat} {a : Option Addr} {len cap : Nat} {x : DataW H × List MemPlace} (h : DataW.trod enc Try.prog w base spare held fuel 22 [.slice a len cap] = some x) :
    ∃ ms : List Mk, FRow w a len 5 (mcells ms) ∧ (∀ m ∈ ms, m.ok) ∧ len ≤ cap ∧ cap ≤ 9223372036854775807 := by
  rcases open_slice Try.underlying22 h with ⟨h0, _⟩ | ⟨ad, len', cap', m, n, D, Pl, hcs, _, hl, hm, hmm, _, hi⟩
  · simp at h0
    obtain ⟨rfl, rfl, rfl⟩ := h0
    exact ⟨[], ⟨rfl, .inl rfl⟩, by simp, Nat.le_refl _, by omega⟩
  · simp at hcs
    obtain ⟨rfl, rfl, rfl⟩ := hcs
    have hlm : len ≤ m := by rw [hmm]; split <;> omega
    rw [cells_mark] at hi
    have key : ∀ k, k ≤ len → ∃ ms : List Mk, ms.length = k ∧ (∀ x ∈ ms, x.ok) ∧ ∀ j, j < k * 5 → w.cell? (ad.add j) = (mcells ms)[j]? := by
      intro k
      induction k with
      | zero => intro _; exact ⟨[], rfl, by simp, fun j hj => by omega⟩
      | succ k ih =>
        intro hk
        obtain ⟨ms, h1, h2, h3⟩ := ih (by omega)
        obtain ⟨cs', hc, ht⟩ := hi k (by omega)
        obtain ⟨x, hxo, rfl⟩ := open_mark ht
        obtain ⟨_, hcl, hat⟩ := World.cells?_some hc
        have hml : (mcells ms).length = k * 5 := by rw [mcells_len, h1]
        refine ⟨ms ++ [x], by simp [h1], ?_, fun j hj => ?_⟩
        · intro y hy
          rcases List.mem_append.1 hy with hy | hy
          · exact h2 y hy
          · rw [List.mem_singleton.1 hy]; exact hxo
        · rw [show mcells (ms ++ [x]) = mcells ms ++ x.cells by simp [mcells]]
          by_cases hjk : j < k * 5
          · rw [List.getElem?_append_left (by omega)]; exact h3 j hjk
          · rw [List.getElem?_append_right (by omega), hml, ← hat (j - k * 5) (by omega)]
            congr 1
            rw [Go.Deep.add_add]
            congr 1
            omega
    obtain ⟨ms, h1, h2, h3⟩ := key len (Nat.le_refl _)
    refine ⟨ms, ⟨by rw [mcells_len, h1], ?_⟩, h2, hl, by unfold maxLen at hm; omega⟩
    by_cases h0 : len = 0
    · exact .inl h0
    · right
      obtain ⟨b, off, spot⟩ := ad
      have hc := h3 0 (by omega)
      rw [List.getElem?_eq_getElem (by rw [mcells_len]; omega)] at hc
      have hspot : spot = none := by simpa [Addr.add] using World.cell?_spot hc
      subst hspot
      refine ⟨b, off, rfl, fun i hi' => ?_⟩
      rw [mcells_len] at hi'
      rw [← h3 i (by omega)]
      unfold Addr.add
      split <;> simp_all
theorem open_use {fuel : Nat} {cs : List Value} {x : DataW H × List MemPlace} (h : DataW.trod enc Try.prog w base spare held fuel 38 cs = some x) : ∃ u : Us, u.ok ∧ cs = [.int .u8 u.who, .int .u8 u.time, .int .u8 u.tick, .int .u8 u.now] := by
  obtain ⟨xs, k, _, _, hl, hx, hf⟩ := DataW.trod_struct Try.underlying38 h
  rw [cells_use] at hl
  obtain ⟨c0, c1, c2, c3, rfl⟩ := list4 hl
  have hx4 : xs.length = 4 := hx
  obtain ⟨y0, e0⟩ := some_of hx4 (i := 0) (by omega)
  obtain ⟨y1, e1⟩ := some_of hx4 (i := 1) (by omega)
  obtain ⟨y2, e2⟩ := some_of hx4 (i := 2) (by omega)
  obtain ⟨y3, e3⟩ := some_of hx4 (i := 3) (by omega)
  have h0 : DataW.trod enc Try.prog w base spare held k 5 (([c0, c1, c2, c3].drop 0).take (Try.prog.cellsOf 5)) = some y0 := (hf 0 _ rfl).trans e0
  have h1 : DataW.trod enc Try.prog w base spare held k 5 (([c0, c1, c2, c3].drop 1).take (Try.prog.cellsOf 5)) = some y1 := (hf 1 _ rfl).trans e1
  have h2 : DataW.trod enc Try.prog w base spare held k 5 (([c0, c1, c2, c3].drop 2).take (Try.prog.cellsOf 5)) = some y2 := (hf 2 _ rfl).trans e2
  have h3 : DataW.trod enc Try.prog w base spare held k 5 (([c0, c1, c2, c3].drop 3).take (Try.prog.cellsOf 5)) = some y3 := (hf 3 _ rfl).trans e3
  rw [cells_u8] at h0 h1 h2 h3
  obtain ⟨n0, g0, _, s0⟩ := DataW.trod_int Try.underlying5 h0
  obtain ⟨n1, g1, _, s1⟩ := DataW.trod_int Try.underlying5 h1
  obtain ⟨n2, g2, _, s2⟩ := DataW.trod_int Try.underlying5 h2
  obtain ⟨n3, g3, _, s3⟩ := DataW.trod_int Try.underlying5 h3
  simp at g0 g1 g2 g3
  subst g0 g1 g2 g3
  exact ⟨⟨n0, n1, n2, n3⟩, ⟨bounds_u8 s0, bounds_u8 s1, bounds_u8 s2, bounds_u8 s3⟩, rfl⟩
set_option maxRecDepth 100000 in
theorem open_useV {r : Reach} {b0 : Nat} {v : Value} {d : DataW H} {p : List MemPlace} (hv : Value.okWide Try.prog w r b0 38 v) (h : DataW.Trod enc Try.prog w base spare held 38 v d p) : ∃ u : Us, u.ok ∧ v = .agg #[.int .u8 u.who, .int .u8 u.time, .int .u8 u.tick, .int .u8 u.now] := by
  obtain ⟨cs, rfl, _⟩ := okWide_struct Try.underlying38 hv
  obtain ⟨fuel, hf⟩ := h
  obtain ⟨u, hu, hc⟩ := open_use hf
  exact ⟨u, hu, by have : cs.toList = _ := hc; rw [← Array.toArray_toList (xs := cs), this]⟩
set_option maxRecDepth 100000 in
theorem open_markV {r : Reach} {b0 : Nat} {v : Value} {d : DataW H} {p : List MemPlace} (hv : Value.okWide Try.prog w r b0 36 v) (h : DataW.Trod enc Try.prog w base spare held 36 v d p) : ∃ m : Mk, m.ok ∧ v = .agg #[.string m.n, .string m.i, .string m.r, .int .i64 m.t, .int .i64 m.k] := by
  obtain ⟨cs, rfl, _⟩ := okWide_struct Try.underlying36 hv
  obtain ⟨fuel, hf⟩ := h
  obtain ⟨m, hm, hc⟩ := open_mark hf
  exact ⟨m, hm, by have : cs.toList = _ := hc; rw [← Array.toArray_toList (xs := cs), this]; rfl⟩
set_option maxRecDepth 100000 in
theorem open_cacheV {r : Reach} {b0 : Nat} {v : Value} {d : DataW H} {p : List MemPlace} (hv : Value.okWide Try.prog w r b0 24 v) (h : DataW.Trod enc Try.prog w base spare held 24 v d p) :
    ∃ (z f : Int) (a : Option Addr) (len cap : Nat) (ms : List Mk), v = .agg #[.int .i64 z, .int .i64 f, .slice a len cap] ∧ FRow w a len 5 (mcells ms) ∧ (∀ m ∈ ms, m.ok) ∧ len ≤ cap ∧ cap ≤ 9223372036854775807 := by
  obtain ⟨cs, rfl, _⟩ := okWide_struct Try.underlying24 hv
  obtain ⟨fuel, hf0⟩ := h
  obtain ⟨xs, k, _, _, hl, hx, hf⟩ := DataW.trod_struct Try.underlying24 hf0
  rw [cells_cache] at hl
  obtain ⟨l⟩ := cs
  obtain ⟨c0, c1, c2, rfl⟩ := list3 (l := l) hl
  have hx3 : xs.length = 3 := hx
  obtain ⟨y0, e0⟩ := some_of hx3 (i := 0) (by omega)
  obtain ⟨y1, e1⟩ := some_of hx3 (i := 1) (by omega)
  obtain ⟨y2, e2⟩ := some_of hx3 (i := 2) (by omega)
  have h0 : DataW.trod enc Try.prog w base spare held k 3 (([c0, c1, c2].drop 0).take (Try.prog.cellsOf 3)) = some y0 := (hf 0 _ rfl).trans e0
  have h1 : DataW.trod enc Try.prog w base spare held k 3 (([c0, c1, c2].drop 1).take (Try.prog.cellsOf 3)) = some y1 := (hf 1 _ rfl).trans e1
  have h2 : DataW.trod enc Try.prog w base spare held k 22 (([c0, c1, c2].drop 2).take (Try.prog.cellsOf 22)) = some y2 := (hf 2 _ rfl).trans e2
  rw [cells_int] at h0 h1
  rw [cells_marks] at h2
  obtain ⟨z, g0, _, _⟩ := DataW.trod_int Try.underlying3 h0
  obtain ⟨f, g1, _, _⟩ := DataW.trod_int Try.underlying3 h1
  simp at g0 g1
  subst g0 g1
  have h2' : DataW.trod enc Try.prog w base spare held k 22 [c2] = some y2 := h2
  rcases open_slice Try.underlying22 h2' with ⟨q, _⟩ | ⟨ad, len, cap, _, _, _, _, q, _⟩
  · simp at q
    subst q
    obtain ⟨ms, m1, m2, m3, m4⟩ := open_marks h2'
    exact ⟨z, f, none, 0, 0, ms, rfl, m1, m2, m3, m4⟩
  · simp at q
    subst q
    obtain ⟨ms, m1, m2, m3, m4⟩ := open_marks h2'
    exact ⟨z, f, some ad, len, cap, ms, rfl, m1, m2, m3, m4⟩
end
end Go.Proofs.Ytegcdefdkebmnaa
