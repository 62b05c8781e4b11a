/- Marks in memory; contracts of replay.contains, replay.Has and of the reference's Has. -/
import Derived.Test.YtegcdefdkebmnaaPrinRef
import Derived.Test.YtegcdefdkebmnaaNear
import Derived.Laws.StructEq
namespace Go.Proofs.Ytegcdefdkebmnaa
open Go.RowKit

/-- a row of cells, 'sz' an element -/
def FRow (w : World) (a : Option Addr) (len sz : Nat) (cs : List Value) : Prop :=
  cs.length = len * sz ∧ (len = 0 ∨ ∃ b off, a = some ⟨b, off, none⟩ ∧ ∀ i, i < cs.length → w.cell? ⟨b, off + i, none⟩ = cs[i]?)
theorem FRow.below {w w' : World} {a : Option Addr} {len sz : Nat} {cs : List Value} (h : FRow w a len sz cs) (hb : Below w.heap.size w w') : FRow w' a len sz cs := by
  refine ⟨h.1, h.2.imp id ?_⟩
  rintro ⟨b, off, rfl, hc⟩
  refine ⟨b, off, rfl, fun i hi => ?_⟩
  have := hc i hi
  rw [List.getElem?_eq_getElem hi] at this ⊢
  rw [hb.cell (p := ⟨b, off + i, none⟩) (World.block_lt_of_cell? _ _ this)]
  exact this

structure Mk where
  n : ByteArray
  i : ByteArray
  r : ByteArray
  t : Int
  k : Int
  deriving DecidableEq
def Mk.cells (m : Mk) : List Value := [.string m.n, .string m.i, .string m.r, .int .i64 m.t, .int .i64 m.k]
def mcells (ms : List Mk) : List Value := ms.flatMap Mk.cells
def Mk.ok (m : Mk) : Prop := m.n.size ≤ maxLen ∧ m.i.size ≤ maxLen ∧ m.r.size ≤ maxLen ∧ (-9223372036854775808 ≤ m.t ∧ m.t ≤ 9223372036854775807) ∧ (-9223372036854775808 ≤ m.k ∧ m.k ≤ 9223372036854775807)
theorem mcells_len (ms : List Mk) : (mcells ms).length = ms.length * 5 := by
  induction ms with
  | nil => rfl
  | cons m ms ih => simp only [mcells, List.flatMap_cons, List.length_append, List.length_cons] at ih ⊢; rw [ih]; simp [Mk.cells]; omega
theorem mcells_get (ms : List Mk) (k : Nat) (hk : k < ms.length) (j : Nat) (hj : j < 5) : (mcells ms)[k * 5 + j]? = (ms[k]).cells[j]? := by
  induction ms generalizing k with
  | nil => simp at hk
  | cons m ms ih =>
    simp only [mcells, List.flatMap_cons]
    cases k with
    | zero => rw [List.getElem?_append_left (by simp [Mk.cells]; omega)]; simp
    | succ k =>
      rw [List.getElem?_append_right (by simp [Mk.cells]; omega)]
      have : (k + 1) * 5 + j - m.cells.length = k * 5 + j := by simp [Mk.cells]; omega
      rw [this]
      exact ih k (by simpa using hk)
theorem FRow.mark {w : World} {a : Option Addr} {len : Nat} {ms : List Mk} (h : FRow w a len 5 (mcells ms)) {k : Nat} (hk : k < len) :
    ∃ b off m, a = some ⟨b, off, none⟩ ∧ ms[k]? = some m ∧ w.cell? ⟨b, off + k * 5, none⟩ = some (.string m.n) ∧ w.cell? ⟨b, off + k * 5 + 1, none⟩ = some (.string m.i) ∧ w.cell? ⟨b, off + k * 5 + 2, none⟩ = some (.string m.r) ∧ w.cell? ⟨b, off + k * 5 + 3, none⟩ = some (.int .i64 m.t) ∧ w.cell? ⟨b, off + k * 5 + 4, none⟩ = some (.int .i64 m.k) := by
  have hl : ms.length = len := by have := h.1; rw [mcells_len] at this; omega
  rcases h.2 with h0 | ⟨b, off, rfl, hc⟩
  · omega
  have hk' : k < ms.length := by omega
  refine ⟨b, off, ms[k], rfl, List.getElem?_eq_getElem hk', ?_⟩
  have hm := mcells_len ms
  have h0 := hc (k * 5 + 0) (by omega)
  have h1 := hc (k * 5 + 1) (by omega)
  have h2 := hc (k * 5 + 2) (by omega)
  have h3 := hc (k * 5 + 3) (by omega)
  have h4 := hc (k * 5 + 4) (by omega)
  rw [mcells_get _ _ hk' _ (by omega)] at h0 h1 h2 h3 h4
  simp only [Nat.add_assoc] at *
  exact ⟨h0, h1, h2, h3, h4⟩

def hasB (ms : List Mk) (m : Mk) : Bool := ms.contains m
theorem contains_at' {ms : List Mk} {m x : Mk} {k : Nat} (hx : ms[k]? = some x) (h : x = m)   : hasB ms m = true := by
  rw [hasB, List.contains_iff_mem, ← h]
  exact List.mem_of_getElem? hx
theorem contains_take' {ms : List Mk} {m x : Mk} {k : Nat} (hx : ms[k]? = some x) (h : hasB (ms.take k) m = false) (hne : ¬ x = m) : hasB (ms.take (k + 1)) m = false := by
  obtain ⟨hk, rfl⟩ := List.getElem?_eq_some_iff.1 hx
  rw [List.take_succ_eq_append_getElem hk]
  unfold hasB at h ⊢
  rw [← Bool.not_eq_true, List.contains_iff_mem] at h ⊢
  rw [List.mem_append, List.mem_singleton]
  rintro (e | e)
  · exact h e
  · exact hne e.symm
theorem contains_done' {ms : List Mk} {m : Mk} {k : Nat} (hk : ms.length ≤ k) (h : hasB (ms.take k) m = false) : hasB ms m = false := by
  rwa [List.take_of_length_le hk] at h
theorem bytes_eq {a b : ByteArray} : a.toList = b.toList ↔ a = b := by
  constructor
  · intro h
    rw [ByteArray.toList_eq, ByteArray.toList_eq] at h
    cases a; cases b
    simp at h
    simp [h]
  · intro h; rw [h]
theorem Mk.ext_iff' {x m : Mk} : x = m ↔ x.n.toList = m.n.toList ∧ x.i.toList = m.i.toList ∧ x.r.toList = m.r.toList ∧ x.t = m.t ∧ x.k = m.k := by
  simp only [bytes_eq]
  constructor
  · rintro rfl; exact ⟨rfl, rfl, rfl, rfl, rfl⟩
  · rintro ⟨h1, h2, h3, h4, h5⟩; cases x; cases m; simp_all
theorem eql_mark (x m : Mk) (w : World) : (binOp .eql 36 (.agg #[.string x.n, .string x.i, .string x.r, .int .i64 x.t, .int .i64 x.k]) (.agg #[.string m.n, .string m.i, .string m.r, .int .i64 m.t, .int .i64 m.k])).run Try.prog w = .ok (.bool (decide (x = m))) w := by
  have e := @Mk.ext_iff' x m
  go_simp
  by_cases h1 : x.n.toList = m.n.toList
  · by_cases h2 : x.i.toList = m.i.toList
    · by_cases h3 : x.r.toList = m.r.toList
      · by_cases h4 : x.t = m.t
        · by_cases h5 : x.k = m.k <;> simp [h1, h2, h3, h4, h5]
        · simp [h1, h2, h3, h4]
      · simp [h1, h2, h3]
    · simp [h1, h2]
  · simp [h1]
theorem neq_mark (x m : Mk) (w : World) : (binOp .neq 36 (.agg #[.string x.n, .string x.i, .string x.r, .int .i64 x.t, .int .i64 x.k]) (.agg #[.string m.n, .string m.i, .string m.r, .int .i64 m.t, .int .i64 m.k])).run Try.prog w = .ok (.bool (!decide (x = m))) w := by
  have e := @Mk.ext_iff' x m
  go_simp
  by_cases h1 : x.n.toList = m.n.toList
  · by_cases h2 : x.i.toList = m.i.toList
    · by_cases h3 : x.r.toList = m.r.toList
      · by_cases h4 : x.t = m.t
        · by_cases h5 : x.k = m.k <;> simp [h1, h2, h3, h4, h5]
        · simp [h1, h2, h3, h4]
      · simp [h1, h2, h3]
    · simp [h1, h2]
  · simp [h1]

set_option maxHeartbeats 1000000 in
theorem contains_any (a : Option Addr) (len cap : Nat) (ms : List Mk) (m : Mk) (w : World) (hr : FRow w a len 5 (mcells ms)) (hl : len ≤ 9223372036854775807) :
    Calls Try.prog 42 #[.slice a len cap, .agg #[.string m.n, .string m.i, .string m.r, .int .i64 m.t, .int .i64 m.k]] w fun e w' => e = .returned (.bool (hasB ms m)) ∧ Below w.heap.size w w' := by
  have HR := Lib.hid hr
  clear hr
  have HB0 := Lib.hid (Below.alloc1 w (.cells #[.string m.n, .string m.i, .string m.r, .int .i64 m.t, .int .i64 m.k] 36))
  go_enter Try.func42, Try.ntmps42
  go_wp2
  go_loopw [9] (fun i wr => ∃ k : Nat, k ≤ len ∧ i = .int .i64 k ∧ Hid (Below (w.alloc (.cells #[.string m.n, .string m.i, .string m.r, .int .i64 m.t, .int .i64 m.k] 36)).heap.size (w.alloc (.cells #[.string m.n, .string m.i, .string m.r, .int .i64 m.t, .int .i64 m.k] 36)) wr ∧ hasB (ms.take k) m = false)) (fun i _ => len - (intOf i).toNat)
  case atStart => exact ⟨0, Nat.zero_le _, rfl, Lib.hid ⟨Below.refl _ _, rfl⟩⟩
  case round =>
    obtain ⟨k, hk, rfl, H⟩ := hrel
    by_cases hlt : k < len
    · obtain ⟨b, off, x, rfl, hx, c0, c1, c2, c3, c4⟩ := (((HR.out.below HB0.out).below H.out.1)).mark hlt
      obtain ⟨d0, d1, d2, d3, d4⟩ : wr.cell? ⟨w.heap.size, 0, none⟩ = some (.string m.n) ∧ wr.cell? ⟨w.heap.size, 1, none⟩ = some (.string m.i) ∧ wr.cell? ⟨w.heap.size, 2, none⟩ = some (.string m.r) ∧ wr.cell? ⟨w.heap.size, 3, none⟩ = some (.int .i64 m.t) ∧ wr.cell? ⟨w.heap.size, 4, none⟩ = some (.int .i64 m.k) := by
        refine ⟨?_, ?_, ?_, ?_, ?_⟩
        all_goals (rw [H.out.1.cell (by simp)]; simp)
      have HX := Lib.hid hx
      have hz : w.heap.size < wr.heap.size := by have := H.out.1.size; simp at this; omega
      have hq := fun W => eql_mark x m W
      clear hx
      by_cases he : x = m
      · have HC := Lib.hid (contains_at' HX.out he)
        have he' : decide (x = m) = true := by simpa using he
        have HE := Lib.hid he
        clear he
        go_wp2
        go_ret
        exact ⟨ret_bool HC.out.symm, bthen HB0.out (H.out.1.alloc H.out.1.size _)⟩
      · have HC := Lib.hid (contains_take' HX.out H.out.2 he)
        have he' : decide (x = m) = false := by simpa using he
        have HE := Lib.hid he
        clear he
        go_wp2
        go_roundw
        case rel => exact ⟨k + 1, by omega, by go_num, Lib.hid ⟨H.out.1.alloc H.out.1.size _, HC.out⟩⟩
        case measure => simp [intOf]; omega
    · have HC := Lib.hid (contains_done' (by have := HR.out.1; rw [mcells_len] at this; omega) H.out.2)
      go_wp2
      go_ret
      exact ⟨ret_bool HC.out.symm, bthen HB0.out H.out.1⟩

set_option maxHeartbeats 1000000 in
theorem has_any (z f : Int) (a : Option Addr) (len cap : Nat) (ms : List Mk) (m : Mk) (w : World) (hr : FRow w a len 5 (mcells ms)) (hl : len ≤ 9223372036854775807) :
    Calls Try.prog 21 #[.agg #[.int .i64 z, .int .i64 f, .slice a len cap], .agg #[.string m.n, .string m.i, .string m.r, .int .i64 m.t, .int .i64 m.k]] w fun e w' => e = .returned (.bool (hasB ms m)) ∧ Below w.heap.size w w' := by
  have HB : Hid (Below w.heap.size w ((w.alloc (.cells #[.int .i64 z, .int .i64 f, .slice a len cap] 24)).alloc (.cells #[.string m.n, .string m.i, .string m.r, .int .i64 m.t, .int .i64 m.k] 36))) := Lib.hid (bthen (Below.alloc1 _ _) (Below.alloc1 _ _))
  have HR := Lib.hid (hr.below HB.out)
  clear hr
  go_enter Try.func21, Try.ntmps21
  go_wp2_with (go_at_call 42; refine (contains_any _ _ _ ms m _ HR.out hl).mono ?_; rintro e w' ⟨rfl, hb⟩; have HB1 := Lib.hid hb; clear hb)
  go_ret
  exact ⟨rfl, bthen HB.out HB1.out⟩

set_option maxHeartbeats 1000000 in
theorem refHas_any (z f : Int) (a : Option Addr) (len cap : Nat) (ms : List Mk) (m : Mk) (w : World) (hr : FRow w a len 5 (mcells ms)) (hl : len ≤ 9223372036854775807) :
    Calls Try.prog 22 #[.agg #[.int .i64 z, .int .i64 f, .slice a len cap], .agg #[.string m.n, .string m.i, .string m.r, .int .i64 m.t, .int .i64 m.k]] w fun e w' => e = .returned (.bool (hasB ms m)) ∧ Below w.heap.size w w' := by
  have HB : Hid (Below w.heap.size w ((w.alloc (.cells #[.int .i64 z, .int .i64 f, .slice a len cap] 24)).alloc (.cells #[.string m.n, .string m.i, .string m.r, .int .i64 m.t, .int .i64 m.k] 36))) := Lib.hid (bthen (Below.alloc1 _ _) (Below.alloc1 _ _))
  have HR := Lib.hid (hr.below HB.out)
  have HL : Hid (ms.length = len) := Lib.hid (by have := hr.1; rw [mcells_len] at this; omega)
  clear hr
  go_enter Try.func22, Try.ntmps22
  go_wp2
  have hcs : ∀ n, ((w.alloc (.cells #[.int .i64 z, .int .i64 f, .slice a len cap] 24)).alloc (.cells #[.string m.n, .string m.i, .string m.r, .int .i64 m.t, .int .i64 m.k] 36)).drewN n = ((w.alloc (.cells #[.int .i64 z, .int .i64 f, .slice a len cap] 24)).alloc (.cells #[.string m.n, .string m.i, .string m.r, .int .i64 m.t, .int .i64 m.k] 36)).drewN n := fun _ => rfl
  clear hcs
  go_loopw [5] (fun i wr => ∃ k n : Nat, k ≤ len ∧ i = .int .i64 k ∧ wr = ((w.alloc (.cells #[.int .i64 z, .int .i64 f, .slice a len cap] 24)).alloc (.cells #[.string m.n, .string m.i, .string m.r, .int .i64 m.t, .int .i64 m.k] 36)).drewN n ∧ Hid (hasB (ms.take k) m = false)) (fun i _ => len - (intOf i).toNat)
  case atStart => exact ⟨0, 0, Nat.zero_le _, rfl, rfl, Lib.hid rfl⟩
  case round =>
    obtain ⟨k, n, hk, rfl, rfl, H⟩ := hrel
    by_cases hlt : k < len
    · obtain ⟨b, off, x, rfl, hx, c0, c1, c2, c3, c4⟩ := HR.out.mark hlt
      have hq := fun W => eql_mark x m W
      have HX := Lib.hid hx
      have q1 : (0 : Int) ≤ (k : Int) := by omega
      have q2 : (k : Int) < (len : Int) := by omega
      clear hx
      by_cases he : x = m
      · have HC := Lib.hid (contains_at' HX.out he)
        have he' : decide (x = m) = true := by simpa using he
        have HE := Lib.hid he
        clear he
        go_wp2
        go_quiet (fail)
        go_wp2
        go_ret
        exact ⟨ret_bool HC.out.symm, bthen HB.out (bthen (Below.drewN1 _ _ _) (Below.drewN1 _ _ _))⟩
      · have HC := Lib.hid (contains_take' HX.out H.out he)
        have he' : decide (x = m) = false := by simpa using he
        have HE := Lib.hid he
        clear he
        go_wp2
        go_quiet (fail)
        go_wp2
        go_roundw
        case rel => exact ⟨k + 1, _, by omega, by go_num, rfl, HC⟩
        case measure => simp [intOf]; omega
    · have HC := Lib.hid (contains_done' (by have := HL.out; omega) H.out)
      go_wp2
      go_ret
      exact ⟨ret_bool HC.out.symm, bthen HB.out (Below.drewN1 _ _ _)⟩
end Go.Proofs.Ytegcdefdkebmnaa
