/- Contracts of box.isKind and box.Make. -/
import Derived.Test.YtbfdggppjcaplaaBytes
import Derived.Test.YtbfdggppjcaplaaAppend
namespace Go.Proofs.Ytbfdggppjcaplaa
open Go.RowKit

def kindB (n : Int) : Bool := decide (1 ≤ n ∧ n ≤ 10)
theorem kindB_true {n : Int} (h : kindB n = true) : 1 ≤ n ∧ n ≤ 10 := by simpa [kindB] using h
theorem kindB_false {n : Int} (h : kindB n = false) : n < 1 ∨ 10 < n := by simp [kindB] at h; omega
theorem kindB_mk {n : Int} (a : 1 ≤ n) (b : n ≤ 10) : kindB n = true := by simp [kindB]; omega
theorem kindB_mkF {n : Int} (a : n < 1 ∨ 10 < n) : kindB n = false := by simp [kindB]; omega

set_option maxHeartbeats 400000 in
theorem isKind_any (n : Int) (w : World) :
    Calls Try.prog 51 #[.int .i64 n] w fun e w' => e = .returned (.bool (kindB n)) ∧ w = w' := by
  by_cases h0 : 1 ≤ n
  · by_cases h1 : n ≤ 10
    · go_enter Try.func51, Try.ntmps51
      go_wp2
      go_ret
      exact ⟨ret_bool (kindB_mk h0 h1).symm, rfl⟩
    · go_enter Try.func51, Try.ntmps51
      go_wp2
      go_ret
      exact ⟨ret_bool (kindB_mkF (by omega)).symm, rfl⟩
  · go_enter Try.func51, Try.ntmps51
    go_wp2
    go_ret
    exact ⟨ret_bool (kindB_mkF (by omega)).symm, rfl⟩

/-- the bytes of a box -/
def boxOf (kind k : Int) (body : List Int) : List Int := [66, kind] ++ bytesOf k ++ [(body.length : Int) / 256, (body.length : Int) % 256] ++ body
def makeErr (kind k : Int) (n : Nat) : Int := if kindB kind then (if valB k then (if 1000 < n then 105 else 0) else 10) else 104
def makeOut (kind k : Int) (body : List Int) : List Int := if makeErr kind k body.length = 0 then boxOf kind k body else []

def MakePost (kind k : Int) (body : List Int) (w : World) (e : Ending) (w' : World) : Prop :=
  ∃ v, e = .returned (.tuple #[v, .int .i64 (makeErr kind k body.length)]) ∧ Own .u8 5 w w' v (makeOut kind k body)

theorem ret_sl {v : Value} {a b : Int} (h : a = b) : Ending.returned (.tuple #[v, .int .i64 a]) = .returned (.tuple #[v, .int .i64 b]) := by rw [h]
theorem own_nil (k : IntKind) (T : TypeId) (w : World) : Own k T w w (.slice none 0 0) [] := ⟨World.ownsRow_nil _ _ _ _, Below.refl _ _⟩

/-- a row that the call owns, and what was there before -/
def Owns (w : World) (T : TypeId) (v : Value) (n : Nat) (xs : List Value) (wr : World) : Prop := wr.ownsRow w.heap.size T 1 v n xs ∧ Below w.heap.size w wr
theorem Owns.alloc {w wr : World} {T : TypeId} {v : Value} {n : Nat} {xs : List Value} (h : Owns w T v n xs wr) (o : Obj) : Owns w T v n xs (wr.alloc o) := ⟨h.1.alloc o, h.2.alloc h.2.size o⟩
theorem Owns.below {w wr w' : World} {T : TypeId} {v : Value} {n : Nat} {xs : List Value} (h : Owns w T v n xs wr) (hb : Below wr.heap.size wr w') : Owns w T v n xs w' := ⟨ownsRow_below h.1 hb, bthen h.2 hb⟩
theorem Owns.more {w wr w1 : World} {T : TypeId} {v v' : Value} {n n' : Nat} {xs xs' : List Value} (h : Owns w T v n xs wr) (ho : w1.ownsRow w.heap.size T 1 v' n' xs') (hg : wr.grownBy w1 v.ownBlock) : Owns w T v' n' xs' w1 :=
  ⟨ho, h.2.grown hg h.2.size (fun q hq => (h.1.lt q hq).1)⟩
theorem Src.two (k : IntKind) (w : World) (a b : Int) (T : TypeId) : Src (w.alloc (.cells #[.int k a, .int k b] T)) (some ⟨w.heap.size, 0, none⟩) [.int k a, .int k b] := Src.of_row (Row.lit k w T [a, b] (by simp))

set_option maxRecDepth 100000 in
set_option maxHeartbeats 2000000 in
theorem boxMake_any (kind k : Int) (a : Option Addr) (len cap : Nat) (zs : List Int) (w : World) (hr : Row .u8 w a len zs) (h0 : 0 ≤ k) (h1 : k ≤ 18446744073709551615) (hn : a = none → len = 0 ∧ cap = 0) :
    Calls Try.prog 32 #[.int .i64 kind, .int .u64 k, .slice a len cap] w (MakePost kind k zs w) := by
  have hml := hr.2.1
  unfold maxLen at hml
  have HL := Lib.hid hr.1
  have HR := Lib.hid hr
  have HN := Lib.hid hn
  clear hr hn
  cases hk : kindB kind
  · have HE := Lib.hid (show makeErr kind k zs.length = 104 by simp [makeErr, hk])
    have HO := Lib.hid (show makeOut kind k zs = [] by unfold makeOut; rw [HE.out]; rfl)
    go_enter Try.func32, Try.ntmps32
    go_wp2_with (go_at_call 51; refine (isKind_any _ _).mono ?_; rintro e w' ⟨rfl, rfl⟩)
    go_ret2
    exact ⟨_, ret_sl HE.out.symm, by rw [HO.out]; exact own_nil _ _ _⟩
  cases hv : valB k
  · have HE := Lib.hid (show makeErr kind k zs.length = 10 by simp [makeErr, hk, hv])
    have HO := Lib.hid (show makeOut kind k zs = [] by unfold makeOut; rw [HE.out]; rfl)
    go_enter Try.func32, Try.ntmps32
    go_wp2_with (first | (go_at_call 51; refine (isKind_any _ _).mono ?_; rintro e w' ⟨rfl, rfl⟩) | (go_at_call 16; refine (valid_any _ _ h0 h1).mono ?_; rintro e w' ⟨rfl, rfl⟩))
    go_ret2
    exact ⟨_, ret_sl HE.out.symm, by rw [HO.out]; exact own_nil _ _ _⟩
  by_cases hb : 1000 < len
  · have HE := Lib.hid (show makeErr kind k zs.length = 105 by simp [makeErr, hk, hv, HL.out, hb])
    have HO := Lib.hid (show makeOut kind k zs = [] by unfold makeOut; rw [HE.out]; rfl)
    go_enter Try.func32, Try.ntmps32
    go_wp2_with (first | (go_at_call 51; refine (isKind_any _ _).mono ?_; rintro e w' ⟨rfl, rfl⟩) | (go_at_call 16; refine (valid_any _ _ h0 h1).mono ?_; rintro e w' ⟨rfl, rfl⟩))
    go_ret2
    exact ⟨_, ret_sl HE.out.symm, by rw [HO.out]; exact own_nil _ _ _⟩
  have HE := Lib.hid (show makeErr kind k zs.length = 0 by simp [makeErr, hk, hv, HL.out]; omega)
  have HO := Lib.hid (show makeOut kind k zs = boxOf kind k zs by unfold makeOut; rw [HE.out]; rfl)
  have hkb := kindB_true hk
  obtain ⟨i0, hi, hz0, hz1, hz2⟩ := info_parts info_u8
  have HI0 := Lib.hid (And.intro hi (And.intro hz0 (And.intro hz1 hz2)))
  clear hi hz0 hz1 hz2
  go_enter Try.func32, Try.ntmps32
  go_wp2_with (first | (go_at_call 51; refine (isKind_any _ _).mono ?_; rintro e w' ⟨rfl, rfl⟩) | (go_at_call 16; refine (valid_any _ _ h0 h1).mono ?_; rintro e w' ⟨rfl, rfl⟩) | (at_make; refine wpList_make_own _ rfl _ _ 32 rfl w.heap.size 5 i0 (.int .u8 0) 1 Try.underlying32 HI0.out.1 HI0.out.2.1 HI0.out.2.2.1 .i64 .i64 _ (12 + len) rfl rfl (by omega) (by rw [HI0.out.2.2.2]; omega) (by unfold maxLen; omega) (Nat.le_refl _) ?_))
  intro w1 hown1 hgrow1
  have H1 : Hid (Owns w 5 (.slice (some ⟨w.heap.size, 0, none⟩) 0 (12 + len)) 0 [] w1) := Lib.hid ⟨hown1, (Below.refl _ _).grown hgrow1 (Nat.le_refl _) (fun q hq => by cases hq)⟩
  clear hown1 hgrow1
  go_wp2_with (at_builtin; refine wpList_append_src _ rfl (.tmp 25) (.tmp 28) 32 rfl w.heap.size 5 i0 (.int .u8 0) 1 1 Try.underlying32 HI0.out.1 HI0.out.2.1 HI0.out.2.2.1 HI0.out.2.2.2 rfl (by decide) _ 0 _ rfl (H1.out.alloc _).1 (some ⟨w1.heap.size, 0, none⟩) 2 2 [.int .u8 66, .int .u8 kind] rfl (fun h => (Option.some_ne_none _ h).elim) rfl (Src.two _ _ _ _ _) (oneCell_ints .u8 [66, kind]) (by unfold maxLen; omega) (by omega) (H1.out.alloc _).2.size ?_)
  intro v2 w2 hown2 hgrow2 hat2
  have H2 := Lib.hid ((H1.out.alloc _).more hown2 hgrow2)
  clear hown2 hgrow2 hat2 H1
  go_wp2_with fail
  refine (bytes_any _ _ h0 h1).mono ?_
  rintro e w3 ⟨v3, rfl, hown3⟩
  have H3 := Lib.hid (H2.out.below hown3.2)
  obtain ⟨a3, cap3, hv3, hc3, hm3, hrow3, hf3⟩ := own_slice hown3.1 (by simp [bytesOf, maxLen])
  have HS3 := Lib.hid (Src.of_row hrow3)
  have HF3 : Hid (a3 = none → (bytesOf k).length = 0 ∧ cap3 = 0) := Lib.hid (fun h => by
    rcases hf3 with ⟨_, h2⟩ | ⟨b, off, h2⟩
    · subst h2; exact ⟨by omega, rfl⟩
    · rw [h] at h2; cases h2)
  rw [hv3]
  clear hv3 hc3 hm3 hrow3 hf3 hown3 H2
  have hb8 : (bytesOf k).length = 8 := by simp [bytesOf]
  have HB8 := Lib.hid hb8
  rw [hb8] at HF3 ⊢
  clear hb8
  go_wp2_with (at_builtin; refine wpList_append_src _ rfl (.tmp 30) (.tmp 32) 32 rfl w.heap.size 5 i0 (.int .u8 0) 1 1 Try.underlying32 HI0.out.1 HI0.out.2.1 HI0.out.2.2.1 HI0.out.2.2.2 rfl (by decide) _ 2 _ rfl H3.out.1 a3 8 cap3 ((bytesOf k).map (Value.int .u8)) rfl HF3.out (by simpa using HB8.out) HS3.out (oneCell_ints _ _) (by unfold maxLen; omega) (by omega) H3.out.2.size ?_)
  intro v4 w4 hown4 hgrow4 hat4
  have H4 := Lib.hid (H3.out.more hown4 hgrow4)
  clear hown4 hgrow4 hat4 H3 HS3 HF3
  go_wp2_with (at_builtin; refine wpList_append_src _ rfl (.tmp 34) (.tmp 42) 32 rfl w.heap.size 5 i0 (.int .u8 0) 1 1 Try.underlying32 HI0.out.1 HI0.out.2.1 HI0.out.2.2.1 HI0.out.2.2.2 rfl (by decide) _ 10 _ rfl (H4.out.alloc _).1 (some ⟨w4.heap.size, 0, none⟩) 2 2 [.int .u8 ((len : Int) / 256), .int .u8 ((len : Int) % 256)] rfl (fun h => (Option.some_ne_none _ h).elim) rfl (Src.two _ _ _ _ _) (oneCell_ints .u8 [(len : Int) / 256, (len : Int) % 256]) (by unfold maxLen; omega) (by omega) (H4.out.alloc _).2.size ?_)
  intro v5 w5 hown5 hgrow5 hat5
  have H5 := Lib.hid ((H4.out.alloc _).more hown5 hgrow5)
  clear hown5 hgrow5 hat5 H4
  go_wp2_with (at_builtin; refine wpList_append_src _ rfl (.tmp 44) (.tmp 45) 32 rfl w.heap.size 5 i0 (.int .u8 0) 1 1 Try.underlying32 HI0.out.1 HI0.out.2.1 HI0.out.2.2.1 HI0.out.2.2.2 rfl (by decide) _ 12 _ rfl H5.out.1 a len cap (zs.map (Value.int .u8)) rfl HN.out (by simpa using HL.out) ((Src.of_row HR.out).below H5.out.2) (oneCell_ints _ _) (by unfold maxLen; omega) (by omega) H5.out.2.size ?_)
  intro v6 w6 hown6 hgrow6 hat6
  have H6 := Lib.hid (H5.out.more hown6 hgrow6)
  clear hown6 hgrow6 hat6 H5
  go_wp2
  go_ret2
  refine ⟨_, ret_sl HE.out.symm, ?_⟩
  rw [HO.out]
  refine ⟨?_, H6.out.2⟩
  have e1 : (boxOf kind k zs).length = 12 + len := by simp [boxOf, bytesOf, HL.out]; omega
  rw [e1]
  have h6 := H6.out.1
  simpa [boxOf, HL.out] using h6
end Go.Proofs.Ytbfdggppjcaplaa
