/- Small helpers, without the program: rows of integers in memory, numbers, bits. -/
import Derived.Test.YtbfdggppjcaplaaRows
import Derived.WalkKit
import Derived.WalkSpells
import Derived.WalkLawsBesides
import Derived.Lib.Hide
import Derived.Laws.BitsLemmas
import Derived.Laws.Bits64
import Derived.Deep.QuietTactic
import Derived.BigQuiet
import Derived.Maps.AppendAt
import Derived.OpenShut
namespace Go.Proofs.Ytbfdggppjcaplaa
open Go.RowKit

theorem ret_int {k : IntKind} {a b : Int} (h : a = b) : Ending.returned (.int k a) = .returned (.int k b) := by rw [h]
theorem ret_bool {a b : Bool} (h : a = b) : Ending.returned (.bool a) = .returned (.bool b) := by rw [h]
theorem ret_ib {k : IntKind} {a b : Int} {c d : Bool} (h : a = b) (g : c = d) : Ending.returned (.tuple #[.int k a, .bool c]) = .returned (.tuple #[.int k b, .bool d]) := by rw [h, g]

theorem quiet_eq {P : Program} {f : FuncId} {args : Array Value} {w : World} {n : Nat} {v : Value}
    (h : Calls P f args (w.drewN n) fun e w' => e = .returned v ∧ w.drewN n = w') : Calls P f args (w.drewN n) fun e w'' => e = .returned v ∧ ∃ m, w'' = w.drewN m :=
  h.mono fun _ _ ⟨he, hm⟩ => ⟨he, n, hm.symm⟩

theorem Below.alloc1 (w : World) (o : Obj) : Below w.heap.size w (w.alloc o) := (Below.refl _ _).alloc (Nat.le_refl _) _
theorem Below.drewN1 (w : World) (n : Nat) (B : Nat) : Below B w (w.drewN n) := ⟨rfl, rfl, rfl, Nat.le_refl _, fun _ _ => rfl⟩
theorem bnext {B : Nat} {a b c : World} (h : Below B a b) (hB : B ≤ b.heap.size) (k : Below b.heap.size b c) : Below B a c := h.trans (k.mono hB)
theorem bthen {a b c : World} (h : Below a.heap.size a b) (k : Below b.heap.size b c) : Below a.heap.size a c := h.trans (k.mono h.size)

/-- What the row's reader says of a slice of integers that came in. -/
def IsRow (k : IntKind) (w : World) (a : Option Addr) (len cap : Nat) (zs : List Int) : Prop :=
  (a = none ∧ len = 0 ∧ cap = 0 ∧ zs = []) ∨
  ∃ x, a = some x ∧ len ≤ cap ∧ cap ≤ maxLen ∧ zs.length = cap ∧ (∀ i, i < zs.length → w.cell? (x.add i) = some (.int k (zs.getD i 0))) ∧ ∀ n ∈ zs, (Lit.int k n).wf = true

/-- A slice whose 'len' elements are the numbers zs. -/
def Row (k : IntKind) (w : World) (a : Option Addr) (len : Nat) (zs : List Int) : Prop :=
  zs.length = len ∧ len ≤ maxLen ∧ (len = 0 ∨ ∃ b off, a = some ⟨b, off, none⟩ ∧ ∀ i, i < len → w.cell? ⟨b, off + i, none⟩ = some (.int k (zs[i]?.getD 0)))

theorem IsRow.row {k : IntKind} {w : World} {a : Option Addr} {len cap : Nat} {zs : List Int} (h : IsRow k w a len cap zs) : Row k w a len (zs.take len) := by
  rcases h with ⟨rfl, rfl, rfl, rfl⟩ | ⟨x, rfl, hl, hm, hz, hcell, hwz⟩
  · exact ⟨rfl, Nat.zero_le _, .inl rfl⟩
  · refine ⟨by simp; omega, by omega, ?_⟩
    by_cases h0 : len = 0
    · exact .inl h0
    · right
      obtain ⟨b, off, spot⟩ := x
      have hc := hcell 0 (by omega)
      have hspot : spot = none := by simpa [Addr.add] using World.cell?_spot hc
      subst hspot
      refine ⟨b, off, rfl, fun i hi => ?_⟩
      have := hcell i (by omega)
      by_cases h1 : i = 0
      · subst h1; simpa [Addr.add, List.getElem?_take, hi] using this
      · simpa [Addr.add, List.getElem?_take, hi, h1] using this
theorem IsRow.wf {k : IntKind} {w : World} {a : Option Addr} {len cap : Nat} {zs : List Int} (h : IsRow k w a len cap zs) : ∀ n ∈ zs.take len, (Lit.int k n).wf = true := by
  rcases h with ⟨_, rfl, _, rfl⟩ | ⟨x, _, _, _, _, _, hw⟩
  · simp
  · intro n hn; exact hw n (List.mem_of_mem_take hn)

theorem Row.below {k : IntKind} {w w' : World} {a : Option Addr} {len : Nat} {zs : List Int} (h : Row k w a len zs) (hb : Below w.heap.size w w') : Row k w' a len zs := by
  obtain ⟨h1, h2, h3⟩ := h
  refine ⟨h1, h2, h3.imp id ?_⟩
  rintro ⟨b, off, rfl, hc⟩
  refine ⟨b, off, rfl, fun i hi => ?_⟩
  have := hc i hi
  rw [hb.cell (p := ⟨b, off + i, none⟩) (World.block_lt_of_cell? _ _ this)]
  exact this
theorem Row.at {k : IntKind} {w : World} {a : Option Addr} {len : Nat} {zs : List Int} (h : Row k w a len zs) {i : Nat} (hi : i < len) :
    ∃ b off, a = some ⟨b, off, none⟩ ∧ w.cell? ⟨b, off + i, none⟩ = some (.int k (zs[i]?.getD 0)) := by
  rcases h.2.2 with h0 | ⟨b, off, rfl, hc⟩
  · omega
  · exact ⟨b, off, rfl, hc i hi⟩
theorem Row.lt {k : IntKind} {w : World} {a : Option Addr} {len : Nat} {zs : List Int} (h : Row k w a len zs) : ∀ x, a = some x → len ≠ 0 → x.block < w.heap.size := by
  intro x e h0
  rcases h.2.2 with h3 | ⟨b, off, rfl, hc⟩
  · exact absurd h3 h0
  · cases e
    exact World.block_lt_of_cell? _ _ (hc 0 (by omega))
theorem Row.grown {k : IntKind} {w w' : World} {a : Option Addr} {len : Nat} {zs : List Int} {row : Option Nat} {B : Nat} (h : Row k w a len zs) (hlt : ∀ x, a = some x → len ≠ 0 → x.block < B) (hg : w.grownBy w' row) (hr : ∀ k, row = some k → B ≤ k) : Row k w' a len zs := by
  obtain ⟨h1, h2, h3⟩ := h
  refine ⟨h1, h2, ?_⟩
  by_cases h0 : len = 0
  · exact .inl h0
  rcases h3 with h3 | ⟨b, off, rfl, hc⟩
  · exact absurd h3 h0
  refine .inr ⟨b, off, rfl, fun i hi => hg.cell (hc i hi) (fun e => ?_)⟩
  have h5 : B ≤ b := hr _ e.symm
  have h6 : b < B := hlt _ rfl h0
  omega
theorem Row.take {k : IntKind} {w : World} {a : Option Addr} {len : Nat} {zs : List Int} (h : Row k w a len zs) (n : Nat) (hn : n ≤ len) : Row k w a n (zs.take n) := by
  obtain ⟨h1, h2, h3⟩ := h
  refine ⟨by simp [h1]; omega, by omega, ?_⟩
  by_cases h0 : n = 0
  · exact .inl h0
  · rcases h3 with h3 | ⟨b, off, rfl, hc⟩
    · omega
    · exact .inr ⟨b, off, rfl, fun i hi => by rw [hc i (by omega)]; simp [hi]⟩
theorem Row.drop {k : IntKind} {w : World} {b off : Nat} {len : Nat} {zs : List Int} (h : Row k w (some ⟨b, off, none⟩) len zs) (n : Nat) (hn : n ≤ len) : Row k w (some ⟨b, off + n, none⟩) (len - n) (zs.drop n) := by
  obtain ⟨h1, h2, h3⟩ := h
  refine ⟨by simp [h1], by omega, ?_⟩
  by_cases h0 : len - n = 0
  · exact .inl h0
  · rcases h3 with h3 | ⟨b', off', e, hc⟩
    · omega
    · cases e
      refine .inr ⟨b, off + n, rfl, fun i hi => ?_⟩
      rw [Nat.add_assoc, hc (n + i) (by omega)]
      simp
/-- A new block of integers, as a slice. -/
theorem Row.lit (k : IntKind) (w : World) (T : TypeId) (zs : List Int) (h : zs.length ≤ 1000) : Row k (w.alloc (.cells (zs.map (Value.int k)).toArray T)) (some ⟨w.heap.size, 0, none⟩) zs.length zs :=
  ⟨rfl, by unfold maxLen; omega, .inr ⟨_, _, rfl, fun i hi => by simp [hi]⟩⟩
/-- .. out of a row that the call owns. -/
theorem own_row {k : IntKind} {w : World} {base : Nat} {e : TypeId} {v : Value} {n : Nat} {zs : List Int} (h : w.ownsRow base e 1 v n (zs.map (Value.int k))) (hn : n ≤ maxLen) : ∃ a cap, v = .slice a n cap ∧ Row k w a n zs := by
  have hl : zs.length = n := by have := h.1; simpa using this
  rcases h.2 with ⟨rfl, rfl⟩ | ⟨g, cap, cur, rfl, hg, hh, hn', hc, hs, ht⟩
  · exact ⟨none, 0, rfl, hl, hn, .inl rfl⟩
  · refine ⟨some ⟨g, 0, none⟩, cap, rfl, hl, hn, ?_⟩
    by_cases h0 : n = 0
    · exact .inl h0
    · refine .inr ⟨g, 0, rfl, fun i hi => ?_⟩
      have := World.ownsRow.cellAt h i (by omega)
      rw [Nat.zero_add, this]
      simp [hl, hi]
theorem ownsRow_below {w w' : World} {base : Nat} {e : TypeId} {size : Nat} {v : Value} {n : Nat} {xs : List Value} (h : w.ownsRow base e size v n xs) (hb : Below w.heap.size w w') : w'.ownsRow base e size v n xs :=
  h.kept (row := none) ⟨hb.os, hb.tape, hb.output, hb.size, fun k hk _ => hb.block k hk⟩ (by cases v.ownBlock <;> simp)
theorem ownsRow_base {w : World} {base base' : Nat} {e : TypeId} {size : Nat} {v : Value} {n : Nat} {xs : List Value} (h : w.ownsRow base e size v n xs) (hb : base' ≤ base) : w.ownsRow base' e size v n xs := by
  refine ⟨h.1, h.2.imp id ?_⟩
  rintro ⟨g, cap, cur, hv, hg, r⟩
  exact ⟨g, cap, cur, hv, Nat.le_trans hb hg, r⟩
theorem one_new (w : World) (v : Value) (T : TypeId) : ∀ j u, ([v] : List Value)[j]? = some u → (w.alloc (.cells #[v] T)).cell? (Addr.add ⟨w.heap.size, 0, none⟩ j) = some u := cell_one_new w v T

theorem take_snoc (l : List Int) (k : Nat) (h : k < l.length) : l.take (k + 1) = l.take k ++ [l[k]?.getD 0] := by
  rw [List.take_succ_eq_append_getElem h]; simp [h]
theorem getD_mem (l : List Int) (k : Nat) (h : k < l.length) : l[k]?.getD 0 ∈ l := by simp [h]
theorem mem_getD (l : List Int) (x : Int) (h : x ∈ l) : ∃ k, k < l.length ∧ l[k]?.getD 0 = x := by
  obtain ⟨k, hk, rfl⟩ := List.mem_iff_getElem.1 h
  exact ⟨k, hk, by simp [hk]⟩

theorem wraps_u64 (n : Int) (h0 : 0 ≤ n) (h1 : n < 2 ^ 64) : IntKind.u64.wrap n = n := by rw [IntKind.wrap_u64]; omega
theorem and_low56 (n : Int) (h0 : 0 ≤ n) (h1 : n ≤ 18446744073709551615) : bits .and .u64 n 72057594037927935 = n % 72057594037927936 := by
  have h := bits_mask .u64 64 (by decide) wraps_u64 56 (by decide) n h0 (by omega)
  have e : ((2 : Int) ^ 56 - 1) = 72057594037927935 := by decide
  have e2 : ((2 : Int) ^ 56) = 72057594037927936 := by decide
  rw [e, e2] at h
  exact h
theorem or_join (x y : Int) (hx : 0 ≤ x) (hx2 : x % 72057594037927936 = 0) (hx3 : x ≤ 18446744073709551615) (hy : 0 ≤ y) (hy2 : y < 72057594037927936) : bits .or .u64 x y = x + y := by
  have e2 : ((2 : Int) ^ 56) = 72057594037927936 := by decide
  have e3 : ((2 : Int) ^ 64) = 18446744073709551616 := by decide
  exact bits_join .u64 64 (by decide) wraps_u64 56 x y hx (by rw [e2]; exact hx2) (by rw [e3]; omega) hy (by rw [e2]; exact hy2) (by rw [e3]; omega)
theorem or_byte (x y : Int) (hx : 0 ≤ x) (hx2 : x % 256 = 0) (hx3 : x ≤ 18446744073709551615) (hy : 0 ≤ y) (hy2 : y < 256) : bits .or .u64 x y = x + y := by
  have e2 : ((2 : Int) ^ 8) = 256 := by decide
  have e3 : ((2 : Int) ^ 64) = 18446744073709551616 := by decide
  exact bits_join .u64 64 (by decide) wraps_u64 8 x y hx (by rw [e2]; exact hx2) (by rw [e3]; omega) hy (by rw [e2]; exact hy2) (by rw [e3]; omega)
theorem bounds_u64' {n : Int} (h : (Lit.int .u64 n).wf = true) : 0 ≤ n ∧ n ≤ 18446744073709551615 := by
  have := bounds_u64 h
  omega

end Go.Proofs.Ytbfdggppjcaplaa
