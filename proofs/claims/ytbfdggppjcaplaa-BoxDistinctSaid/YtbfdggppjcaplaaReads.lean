/- Lemmas for BoxReads: a row that the call builds beside a slice that another call handed back. -/
import Derived.Test.YtbfdggppjcaplaaSls
namespace Go.Proofs.Ytbfdggppjcaplaa
open Go.RowKit
set_option linter.unusedVariables false

def SlF (w : World) (v : Value) (row : Option Nat) : Prop := (∃ zs, Sl w v zs) ∧ ∀ x n c, v = .slice (some x) n c → n ≠ 0 → some x.block ≠ row ∧ x.block < w.heap.size
def One (wb X : World) (v1 : Value) (n : Nat) (cs : List Value) : Prop := Below wb.heap.size wb X ∧ X.ownsRow wb.heap.size 5 1 v1 n cs
def Two (wb X : World) (v1 : Value) (n : Nat) (cs : List Value) (v2 : Value) : Prop := Below wb.heap.size wb X ∧ X.ownsRow wb.heap.size 5 1 v1 n cs ∧ SlF X v2 v1.ownBlock

theorem Row.far {k : IntKind} {w w' : World} {a : Option Addr} {len : Nat} {zs : List Int} {row : Option Nat} (h : Row k w a len zs) (hne : ∀ x, a = some x → len ≠ 0 → some x.block ≠ row) (hg : w.grownBy w' row) : Row k w' a len zs := by
  obtain ⟨h1, h2, h3⟩ := h
  refine ⟨h1, h2, ?_⟩
  by_cases h0 : len = 0
  · exact .inl h0
  rcases h3 with h3 | ⟨b, off, rfl, hc⟩
  · exact absurd h3 h0
  exact .inr ⟨b, off, rfl, fun i hi => hg.cell (hc i hi) (hne ⟨b, off, none⟩ rfl h0)⟩
theorem below_more {B : Nat} {a b c : World} {v : Value} {n : Nat} {cs : List Value} {T : TypeId} (h : Below B a b) (ho : b.ownsRow B T 1 v n cs) (hg : b.grownBy c v.ownBlock) (hB : B ≤ b.heap.size) : Below B a c :=
  h.grown hg hB (fun q hq => (ho.lt q hq).1)
theorem One.more {wb X X' : World} {v1 v' : Value} {n n' : Nat} {cs cs' : List Value} (h : One wb X v1 n cs) (ho : X'.ownsRow wb.heap.size 5 1 v' n' cs') (hg : X.grownBy X' v1.ownBlock) : One wb X' v' n' cs' :=
  ⟨below_more h.1 h.2 hg h.1.size, ho⟩
theorem Two.more {wb X X' : World} {v1 v' v2 : Value} {n n' : Nat} {cs cs' : List Value} (h : Two wb X v1 n cs v2) (ho : X'.ownsRow wb.heap.size 5 1 v' n' cs') (hg : X.grownBy X' v1.ownBlock) (hat : v'.ownBlock = v1.ownBlock ∨ v'.ownBlock = some X.heap.size) : Two wb X' v' n' cs' v2 := by
  obtain ⟨h1, h2, ⟨zs, a, m, c, rfl, hr, hrest⟩, h4⟩ := h
  refine ⟨below_more h1 h2 hg h1.size, ho, ⟨zs, a, m, c, rfl, hr.far (fun x hx h0 => (h4 x m c (by rw [hx]) h0).1) hg, hrest⟩, fun x n' c' e h0 => ?_⟩
  have := h4 x n' c' e h0
  refine ⟨?_, Nat.lt_of_lt_of_le this.2 hg.size⟩
  rcases hat with hat | hat
  · rw [hat]; exact this.1
  · rw [hat]; intro e; injection e with e; omega
theorem Sl.lt {w : World} {v : Value} {zs : List Int} (h : Sl w v zs) : ∀ x n c, v = .slice (some x) n c → n ≠ 0 → x.block < w.heap.size := by
  obtain ⟨a, m, c, rfl, hr, _⟩ := h
  intro x n c' e h0
  injection e with e1 e2 e3
  subst e2
  exact hr.lt x e1 h0
theorem own_blk {w : World} {base : Nat} {T : TypeId} {v : Value} {n : Nat} {xs : List Value} (h : w.ownsRow base T 1 v n xs) : ∀ x m c, v = .slice (some x) m c → base ≤ x.block := by
  intro x m c e
  rcases h.2 with ⟨h1, h2⟩ | ⟨g, cap, cur, hv, hg, _⟩
  · rw [h1] at e; cases e
  · rw [hv] at e; injection e with e1; injection e1 with e1; subst e1; exact hg
theorem One.spoil {wb X wc : World} {v1 v2 : Value} {n : Nat} {cs : List Value} {ys : List Int} (h : One wb X v1 n cs) (ho : Own .u8 5 X wc v2 ys) (hb : ∀ x ∈ ys, 0 ≤ x ∧ x ≤ 255) (hl : ys.length ≤ 100000) : Two wb wc v1 n cs v2 := by
  have hs := sl_own ho hb hl
  refine ⟨bnext h.1 h.1.size ho.2, ownsRow_below h.2 ho.2, ⟨ys, hs⟩, fun x m c e h0 => ⟨fun e2 => ?_, hs.lt x m c e h0⟩⟩
  have h1 := own_blk ho.1 x m c e
  have h2 := (h.2.lt _ e2.symm).2
  omega
theorem spoil_lit {wb X wc : World} {v2 : Value} {ys : List Int} (h : Below wb.heap.size wb X) (ho : Own .u8 5 X wc v2 ys) (hb : ∀ x ∈ ys, 0 ≤ x ∧ x ≤ 255) (hl : ys.length ≤ 100000) : Two wb (wc.alloc (.cells #[] 5)) (.slice (some ⟨wc.heap.size, 0, none⟩) 0 0) 0 [] v2 := by
  have hs := sl_own ho hb hl
  have hbc := bnext h h.size ho.2
  have ha := Below.alloc1 wc (.cells #[] 5)
  refine ⟨bnext hbc hbc.size ha, ownsRow_base (own_empty wc 5) hbc.size, ⟨ys, hs.below ha⟩, fun x m c e h0 => ⟨fun e2 => ?_, Nat.lt_of_lt_of_le (hs.lt x m c e h0) ha.size⟩⟩
  have h2 := hs.lt x m c e h0
  simp [Value.ownBlock] at e2
  omega
theorem One.lit (wb : World) : One wb (wb.alloc (.cells #[] 5)).drew (.slice (some ⟨wb.heap.size, 0, none⟩) 0 0) 0 [] :=
  ⟨(Below.alloc1 wb _).drew, own_empty wb 5⟩
theorem Two.slOwn {wb X : World} {v1 v2 : Value} {n : Nat} {zs : List Int} (h : Two wb X v1 n (zs.map (Value.int .u8)) v2) (hb : ∀ x ∈ zs, 0 ≤ x ∧ x ≤ 255) (hl : n ≤ 100000) : ∃ z1 z2, Sl X v1 z1 ∧ Sl X v2 z2 := by
  obtain ⟨h1, h2, ⟨z2, h3⟩, _⟩ := h
  obtain ⟨a, cap, hv, hc1, hc2, hr, _⟩ := own_slice h2 (by unfold maxLen; omega)
  exact ⟨zs, z2, ⟨a, n, cap, hv, hr, hb, hc1, hc2, hl⟩, h3⟩
theorem cell_new (w : World) (C : Array Value) (T : TypeId) (i : Nat) : (w.alloc (.cells C T)).cell? ⟨w.heap.size, i, none⟩ = C[i]? := by
  simp
theorem cells_two {x1 x2 w' : World} {C1 C2 : Array Value} {T1 T2 : TypeId} (hb : Below (x1.alloc (.cells C1 T1)).heap.size (x1.alloc (.cells C1 T1)) x2) (hw : Below (x2.alloc (.cells C2 T2)).heap.size (x2.alloc (.cells C2 T2)) w') :
    (∀ i, w'.cell? ⟨x1.heap.size, i, none⟩ = C1[i]?) ∧ (∀ i, w'.cell? ⟨x2.heap.size, i, none⟩ = C2[i]?) ∧ ∀ b i, b < x1.heap.size → w'.cell? ⟨b, i, none⟩ = x1.cell? ⟨b, i, none⟩ := by
  have hs : x1.heap.size + 1 ≤ x2.heap.size := by simpa using hb.size
  have ha : (x1.alloc (.cells C1 T1)).heap.size = x1.heap.size + 1 := by simp
  have hb' : (x2.alloc (.cells C2 T2)).heap.size = x2.heap.size + 1 := by simp
  refine ⟨fun i => ?_, fun i => ?_, fun b i h => ?_⟩
  · rw [hw.cell (by show x1.heap.size < _; omega), World.cell?_alloc_lt _ _ _ (by show x1.heap.size < _; omega), hb.cell (by show x1.heap.size < _; omega)]
    exact cell_new x1 C1 T1 i
  · rw [hw.cell (by show x2.heap.size < _; omega)]
    exact cell_new x2 C2 T2 i
  · rw [hw.cell (by show b < _; omega), World.cell?_alloc_lt _ _ _ (by show b < _; omega), hb.cell (by show b < _; omega), World.cell?_alloc_lt _ _ _ h]
theorem boxBody_len (b : List Int) : (boxBody b).length ≤ b.length := by
  unfold boxBody
  split
  · simp; omega
  · simp
theorem Reads4 {w wb X : World} {v1 v2 v0 v3 : Value} {n : Nat} {xs zr z0 z3 : List Int} (hbb : Below w.heap.size w wb) (h : Two wb X v1 n ([] ++ xs.map (Value.int .u8) ++ zr.map (Value.int .u8)) v2) (h0 : Sl wb v0 z0) (h3 : Sl wb v3 z3) (hx : ∀ x ∈ xs, 0 ≤ x ∧ x ≤ 255) (hz : ∀ x ∈ zr, 0 ≤ x ∧ x ≤ 255) (hl : n ≤ 100000) :
    ∃ B, Value.slice (some ⟨X.heap.size, 0, none⟩) 4 4 = .slice (some ⟨B, 0, none⟩) 4 4 ∧ Hid (Below w.heap.size w (X.alloc (.cells #[v0, v1, v2, v3] 32)) ∧ Has (X.alloc (.cells #[v0, v1, v2, v3] 32)) B 4) := by
  have h' : Two wb X v1 n ((xs ++ zr).map (Value.int .u8)) v2 := by simpa using h
  obtain ⟨z1, z2, k1, k2⟩ := h'.slOwn (fun x hx' => by rcases List.mem_append.1 hx' with h | h; exact hx x h; exact hz x h) hl
  exact ⟨_, rfl, Lib.hid ⟨bthen (bthen hbb h.1) (Below.alloc1 _ _), has4 _ (h0.below h.1) k1 k2 (h3.below h.1)⟩⟩
end Go.Proofs.Ytbfdggppjcaplaa
