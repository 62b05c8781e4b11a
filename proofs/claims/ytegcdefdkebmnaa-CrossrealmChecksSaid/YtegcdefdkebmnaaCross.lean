/- Cross-realm keys in memory; contracts of crossrealm.search, Key and of the reference's Key. -/
import Derived.Test.YtegcdefdkebmnaaMark
import Derived.Test.YtegcdefdkebmnaaCells
import Derived.Test.YtegcdefdkebmnaaCKey
import Derived.Laws.StructEq
namespace Go.Proofs.Ytegcdefdkebmnaa
open Go.RowKit

structure Ck where
  fr : ByteArray
  to : ByteArray
  kv : Int
  ky : Int
  deriving DecidableEq
def Ck.cells (m : Ck) : List Value := [.string m.fr, .string m.to, .int .i64 m.kv, .int .u64 m.ky]
def ccells (ms : List Ck) : List Value := ms.flatMap Ck.cells
def Ck.ok (m : Ck) : Prop := m.fr.size ≤ maxLen ∧ m.to.size ≤ maxLen ∧ (-9223372036854775808 ≤ m.kv ∧ m.kv ≤ 9223372036854775807) ∧ (0 ≤ m.ky ∧ m.ky ≤ 18446744073709551615)
theorem ccells_len (ms : List Ck) : (ccells ms).length = ms.length * 4 := by
  induction ms with
  | nil => rfl
  | cons m ms ih => simp only [ccells, List.flatMap_cons, List.length_append, List.length_cons] at ih ⊢; rw [ih]; simp [Ck.cells]; omega
theorem ccells_get (ms : List Ck) (k : Nat) (hk : k < ms.length) (j : Nat) (hj : j < 4) : (ccells ms)[k * 4 + j]? = (ms[k]).cells[j]? := by
  induction ms generalizing k with
  | nil => simp at hk
  | cons m ms ih =>
    simp only [ccells, List.flatMap_cons]
    cases k with
    | zero => rw [List.getElem?_append_left (by simp [Ck.cells]; omega)]; simp
    | succ k =>
      rw [List.getElem?_append_right (by simp [Ck.cells]; omega)]
      have : (k + 1) * 4 + j - m.cells.length = k * 4 + j := by simp [Ck.cells]; omega
      rw [this]
      exact ih k (by simpa using hk)
theorem ccells_take (ms : List Ck) (k : Nat) : (ccells ms).take (k * 4) = ccells (ms.take k) := by
  induction ms generalizing k with
  | nil => simp [ccells]
  | cons m ms ih =>
    cases k with
    | zero => simp [ccells]
    | succ k =>
      have h4 : m.cells.length = 4 := rfl
      rw [List.take_succ_cons]
      simp only [ccells, List.flatMap_cons] at ih ⊢
      rw [show (k + 1) * 4 = m.cells.length + k * 4 by omega, List.take_length_add_append, ih]
theorem FRow.ctake {w : World} {a : Option Addr} {len : Nat} {ms : List Ck} (h : FRow w a len 4 (ccells ms)) (k : Nat) (hk : k ≤ len) : FRow w a k 4 (ccells (ms.take k)) := by
  have hl : ms.length = len := by have := h.1; rw [ccells_len] at this; omega
  refine ⟨by rw [ccells_len]; simp; omega, ?_⟩
  rcases h.2 with h0 | ⟨b, off, rfl, hc⟩
  · exact .inl (by omega)
  · refine .inr ⟨b, off, rfl, fun i hi => ?_⟩
    rw [← ccells_take] at hi ⊢
    have hi2 : i < (ccells ms).length ∧ i < k * 4 := by simp at hi; omega
    rw [hc i hi2.1, List.getElem?_take, if_pos hi2.2]
theorem FRow.clen {w : World} {a : Option Addr} {len : Nat} {ms : List Ck} (h : FRow w a len 4 (ccells ms)) : ms.length = len := by have := h.1; rw [ccells_len] at this; omega
theorem FRow.ck {w : World} {a : Option Addr} {len : Nat} {ms : List Ck} (h : FRow w a len 4 (ccells ms)) {k : Nat} (hk : k < len) :
    ∃ b off m, a = some ⟨b, off, none⟩ ∧ ms[k]? = some m ∧ w.cell? ⟨b, off + k * 4, none⟩ = some (.string m.fr) ∧ w.cell? ⟨b, off + k * 4 + 1, none⟩ = some (.string m.to) ∧ w.cell? ⟨b, off + k * 4 + 2, none⟩ = some (.int .i64 m.kv) ∧ w.cell? ⟨b, off + k * 4 + 3, none⟩ = some (.int .u64 m.ky) := by
  have hl := h.clen
  rcases h.2 with h0 | ⟨b, off, rfl, hc⟩
  · omega
  have hk' : k < ms.length := by omega
  refine ⟨b, off, ms[k], rfl, List.getElem?_eq_getElem hk', ?_⟩
  have hm := ccells_len ms
  have h0 := hc (k * 4 + 0) (by omega)
  have h1 := hc (k * 4 + 1) (by omega)
  have h2 := hc (k * 4 + 2) (by omega)
  have h3 := hc (k * 4 + 3) (by omega)
  rw [ccells_get _ _ hk' _ (by omega)] at h0 h1 h2 h3
  simp only [Nat.add_assoc] at *
  exact ⟨h0, h1, h2, h3⟩

def ckB (f t : ByteArray) (v : Int) (x : Ck) : Bool := decide (x.fr.toList = f.toList) && (decide (x.to.toList = t.toList) && decide (x.kv = v))
/-- where an element with these realms and this version lies first -/
def srI (f t : ByteArray) (v : Int) (l : List Ck) : Int := match l.findIdx? (ckB f t v) with | some i => i | none => 0
def srB (f t : ByteArray) (v : Int) (l : List Ck) : Bool := (l.findIdx? (ckB f t v)).isSome
def srK (f t : ByteArray) (v : Int) (l : List Ck) : Int := match l.find? (ckB f t v) with | some x => x.ky | none => 0
theorem sr_at {f t : ByteArray} {v : Int} {l : List Ck} {k : Nat} {x : Ck} (h0 : (l.take k).findIdx? (ckB f t v) = none) (hx : l[k]? = some x) (hc : ckB f t v x = true) : srI f t v l = k ∧ srB f t v l = true ∧ srK f t v l = x.ky := by
  obtain ⟨hk, rfl⟩ := List.getElem?_eq_some_iff.1 hx
  have hs : l = l.take k ++ l[k] :: l.drop (k + 1) := by
    rw [← List.drop_eq_getElem_cons hk, List.take_append_drop]
  have hi : l.findIdx? (ckB f t v) = some k := by
    have hl : (l.take k).length = k := by simp; omega
    generalize l.drop (k + 1) = r at hs
    generalize l[k] = y at hs hc
    rw [hs, List.findIdx?_append, h0, hl]
    simp [List.findIdx?_cons, hc]
  have hf : l.find? (ckB f t v) = some l[k] := by
    have h1 : (l.take k).find? (ckB f t v) = none := by
      rw [List.find?_eq_none]
      rw [List.findIdx?_eq_none_iff] at h0
      intro y hy; simp [h0 y hy]
    generalize l.drop (k + 1) = r at hs
    generalize l[k] = y at hs hc
    rw [hs, List.find?_append, h1]
    simp [hc]
  simp [srI, srB, srK, hi, hf]
theorem sr_none {f t : ByteArray} {v : Int} {l : List Ck} (h0 : l.findIdx? (ckB f t v) = none) : srI f t v l = 0 ∧ srB f t v l = false ∧ srK f t v l = 0 := by
  have h1 : l.find? (ckB f t v) = none := by
    rw [List.find?_eq_none]
    rw [List.findIdx?_eq_none_iff] at h0
    intro y hy; simp [h0 y hy]
  simp [srI, srB, srK, h0, h1]
theorem sr_next {f t : ByteArray} {v : Int} {l : List Ck} {k : Nat} {x : Ck} (h0 : (l.take k).findIdx? (ckB f t v) = none) (hx : l[k]? = some x) (hc : ckB f t v x = false) : (l.take (k + 1)).findIdx? (ckB f t v) = none := by
  obtain ⟨hk, rfl⟩ := List.getElem?_eq_some_iff.1 hx
  rw [List.take_succ_eq_append_getElem hk, List.findIdx?_append, h0]
  simp [List.findIdx?_cons, hc]
theorem sr_done {f t : ByteArray} {v : Int} {l : List Ck} {k : Nat} (h0 : (l.take k).findIdx? (ckB f t v) = none) (hk : l.length ≤ k) : l.findIdx? (ckB f t v) = none := by
  rwa [List.take_of_length_le hk] at h0
theorem ckB_eq (f t : ByteArray) (v : Int) (x : Ck) {a b c : Bool} (ha : decide (x.fr.toList = f.toList) = a) (hb : decide (x.to.toList = t.toList) = b) (hc : decide (x.kv = v) = c) : ckB f t v x = (a && (b && c)) := by rw [ckB, ha, hb, hc]
theorem ret_ub {i j : Int} {a b : Bool} (h : i = j) (g : a = b) : Ending.returned (.tuple #[.int .u64 i, .bool a]) = .returned (.tuple #[.int .u64 j, .bool b]) := by rw [h, g]

theorem sr_found {f t : ByteArray} {v : Int} {l : List Ck} (h : srB f t v l = true) : ∃ k x, k < l.length ∧ l[k]? = some x ∧ srI f t v l = k ∧ srK f t v l = x.ky := by
  unfold srB at h
  obtain ⟨i, hi⟩ := Option.isSome_iff_exists.1 h
  obtain ⟨hl, hp, hm⟩ := List.findIdx?_eq_some_iff_getElem.1 hi
  have h0 : (l.take i).findIdx? (ckB f t v) = none := by
    rw [List.findIdx?_eq_none_iff]
    intro x hx
    obtain ⟨j, hj, rfl⟩ := List.mem_iff_getElem.1 hx
    have hj' : j < i := by simp at hj; omega
    have := hm j hj'
    rw [List.getElem_take]
    simpa using this
  have := sr_at h0 (List.getElem?_eq_getElem hl) hp
  exact ⟨i, l[i], hl, List.getElem?_eq_getElem hl, this.1, this.2.2⟩
theorem sr_lost {f t : ByteArray} {v : Int} {l : List Ck} (h : srB f t v l = false) : srI f t v l = 0 ∧ srB f t v l = false ∧ srK f t v l = 0 := by
  unfold srB at h
  exact sr_none (by simpa using h)
set_option maxHeartbeats 2000000 in
theorem search_any (a : Option Addr) (len cap : Nat) (ms : List Ck) (f t : ByteArray) (v : Int) (w : World) (hr : FRow w a len 4 (ccells ms)) (hl : len ≤ 9223372036854775807) :
    Calls Try.prog 51 #[.slice a len cap, .string f, .string t, .int .i64 v] w fun e w' => e = .returned (.tuple #[.int .i64 (srI f t v ms), .bool (srB f t v ms)]) ∧ Below w.heap.size w w' := by
  have HR := Lib.hid hr
  have HL := Lib.hid hr.clen
  clear hr
  go_enter Try.func51, Try.ntmps51
  go_wp2
  go_loopw [14] (fun i wr => ∃ k : Nat, k ≤ len ∧ i = .int .i64 k ∧ Hid (Below w.heap.size w wr ∧ (ms.take k).findIdx? (ckB f t v) = none)) (fun i _ => len - (intOf i).toNat)
  case atStart => exact ⟨0, Nat.zero_le _, rfl, Lib.hid ⟨Below.refl _ _, rfl⟩⟩
  case round =>
    obtain ⟨k, hk, rfl, H⟩ := hrel
    by_cases hlt : k < len
    · obtain ⟨b, off, x, rfl, hx, c0, c1, c2, c3⟩ := (HR.out.below H.out.1).ck hlt
      have HX := Lib.hid hx
      have HBB : Hid (Below w.heap.size w (wr.alloc (.cells #[.string x.fr, .string x.to, .int .i64 x.kv, .int .u64 x.ky] 54))) := Lib.hid (bthen H.out.1 (Below.alloc1 _ _))
      clear hx
      cases h1 : decide (x.fr.toList = f.toList)
      all_goals first | have h1' : ¬ x.fr.toList = f.toList := of_decide_eq_false h1 | have h1' : x.fr.toList = f.toList := of_decide_eq_true h1
      · have HC := Lib.hid (sr_next H.out.2 HX.out (ckB_eq f t v x h1 rfl rfl))
        go_wp2
        go_roundw
        case rel => exact ⟨k + 1, by omega, by go_num, Lib.hid ⟨HBB.out, HC.out⟩⟩
        case measure => simp [intOf]; omega
      cases h2 : decide (x.to.toList = t.toList)
      all_goals first | have h2' : ¬ x.to.toList = t.toList := of_decide_eq_false h2 | have h2' : x.to.toList = t.toList := of_decide_eq_true h2
      · have HC := Lib.hid (sr_next H.out.2 HX.out (ckB_eq f t v x h1 h2 rfl))
        go_wp2
        go_roundw
        case rel => exact ⟨k + 1, by omega, by go_num, Lib.hid ⟨HBB.out, HC.out⟩⟩
        case measure => simp [intOf]; omega
      by_cases h3 : x.kv = v
      · have HC := Lib.hid (sr_at H.out.2 HX.out (ckB_eq f t v x h1 h2 (decide_eq_true h3)))
        subst h3
        go_wp2
        go_ret2
        exact ⟨ret_ib HC.out.1.symm HC.out.2.1.symm, HBB.out⟩
      · have HC := Lib.hid (sr_next H.out.2 HX.out (ckB_eq f t v x h1 h2 (decide_eq_false h3)))
        go_wp2
        go_roundw
        case rel => exact ⟨k + 1, by omega, by go_num, Lib.hid ⟨HBB.out, HC.out⟩⟩
        case measure => simp [intOf]; omega
    · have HC := Lib.hid (sr_none (sr_done H.out.2 (by have := HL.out; omega)))
      go_wp2
      go_ret2
      exact ⟨ret_ib HC.out.1.symm HC.out.2.1.symm, H.out.1⟩

set_option maxHeartbeats 2000000 in
theorem crkey_any (a : Option Addr) (len cap : Nat) (ms : List Ck) (f t : ByteArray) (v : Int) (w : World) (hr : FRow w a len 4 (ccells ms)) (hl : len ≤ 9223372036854775807) :
    Calls Try.prog 36 #[.slice a len cap, .string f, .string t, .int .i64 v] w fun e w' => e = .returned (.tuple #[.int .u64 (srK f t v ms), .bool (srB f t v ms)]) ∧ Below w.heap.size w w' := by
  have HR := Lib.hid hr
  have HL := Lib.hid hr.clen
  clear hr
  cases hb : srB f t v ms
  · have HC := Lib.hid (sr_lost hb)
    go_enter Try.func36, Try.ntmps36
    go_wp2_with (go_at_call 51; refine (search_any _ _ _ ms f t v _ HR.out hl).mono ?_; rintro e w' ⟨rfl, hb'⟩; have HB1 := Lib.hid hb'; clear hb')
    go_ret2
    exact ⟨ret_ub HC.out.2.2.symm rfl, HB1.out⟩
  · obtain ⟨k, x, hk, hx, hi, hy⟩ := sr_found hb
    have HY := Lib.hid hy
    have HX := Lib.hid hx
    have hk' : k < len := by have := HL.out; omega
    have q1 : (0 : Int) ≤ (k : Int) := by omega
    have q2 : (k : Int) < (len : Int) := by omega
    clear hx hy
    go_enter Try.func36, Try.ntmps36
    go_wp2_with fail
    refine (search_any _ _ _ ms f t v _ HR.out hl).mono ?_
    rintro e w' ⟨rfl, hb'⟩
    obtain ⟨b, off, x', rfl, hx', c0, c1, c2, c3⟩ := (HR.out.below hb').ck hk'
    obtain rfl : x' = x := by have := HX.out; rw [hx'] at this; exact Option.some.inj this
    have HB1 := Lib.hid hb'
    clear hb' hx' c0 c1 c2
    rw [hi]
    go_wp2
    go_ret2
    exact ⟨ret_ub HY.out.symm rfl, HB1.out⟩

set_option maxHeartbeats 2000000 in
theorem refKey_any (a : Option Addr) (len cap : Nat) (ms : List Ck) (f t : ByteArray) (v : Int) (w : World) (hr : FRow w a len 4 (ccells ms)) (hl : len ≤ 9223372036854775807) :
    Calls Try.prog 37 #[.slice a len cap, .string f, .string t, .int .i64 v] w fun e w' => e = .returned (.tuple #[.int .u64 (srK f t v ms), .bool (srB f t v ms)]) ∧ w = w' := by
  have HR := Lib.hid hr
  have HL := Lib.hid hr.clen
  clear hr
  go_enter Try.func37, Try.ntmps37
  go_wp2
  go_loopw [10] (fun i wr => ∃ k : Nat, k ≤ len ∧ i = .int .i64 k ∧ w = wr ∧ Hid ((ms.take k).findIdx? (ckB f t v) = none)) (fun i _ => len - (intOf i).toNat)
  case atStart => exact ⟨0, Nat.zero_le _, rfl, rfl, Lib.hid rfl⟩
  case round =>
    obtain ⟨k, hk, rfl, rfl, H⟩ := hrel
    by_cases hlt : k < len
    · obtain ⟨b, off, x, rfl, hx, c0, c1, c2, c3⟩ := HR.out.ck hlt
      have HX := Lib.hid hx
      have q1 : (0 : Int) ≤ (k : Int) := by omega
      have q2 : (k : Int) < (len : Int) := by omega
      clear hx
      by_cases h1 : x.fr.toList = f.toList
      · by_cases h2 : x.to.toList = t.toList
        · by_cases h3 : x.kv = v
          · have HC := Lib.hid (sr_at H.out HX.out (ckB_eq f t v x (decide_eq_true h1) (decide_eq_true h2) (decide_eq_true h3)))
            subst h3
            go_wp2
            go_ret2
            exact ⟨ret_ub HC.out.2.2.symm HC.out.2.1.symm, rfl⟩
          · have HC := Lib.hid (sr_next H.out HX.out (ckB_eq f t v x (decide_eq_true h1) (decide_eq_true h2) (decide_eq_false h3)))
            go_wp2
            go_roundw
            case rel => exact ⟨k + 1, by omega, by go_num, by trivial, HC⟩
            case measure => simp [intOf]; omega
        · have HC := Lib.hid (sr_next H.out HX.out (ckB_eq f t v x (decide_eq_true h1) (decide_eq_false h2) rfl))
          go_wp2
          go_roundw
          case rel => exact ⟨k + 1, by omega, by go_num, by trivial, HC⟩
          case measure => simp [intOf]; omega
      · have HC := Lib.hid (sr_next H.out HX.out (ckB_eq f t v x (decide_eq_false h1) rfl rfl))
        go_wp2
        go_roundw
        case rel => exact ⟨k + 1, by omega, by go_num, by trivial, HC⟩
        case measure => simp [intOf]; omega
    · have HC := Lib.hid (sr_none (sr_done H.out (by have := HL.out; omega)))
      go_wp2
      go_ret2
      exact ⟨ret_ub HC.out.2.2.symm HC.out.2.1.symm, rfl⟩
end Go.Proofs.Ytegcdefdkebmnaa
