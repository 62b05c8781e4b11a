/- Contracts of least, FromSeconds, Grant and their references. -/
import Derived.Test.YtpbokbaboldhdaaW1
namespace Go.Proofs.Ytpbokbaboldhdaa
open Go.RowKit

def IsRow (k : IntKind) (w : World) (a : Option Addr) (len cap : Nat) (zs : List Int) : Prop :=
  (a = none ∧ len = 0 ∧ cap = 0 ∧ zs = []) ∨
  ∃ x, a = some x ∧ len ≤ cap ∧ cap ≤ maxLen ∧ zs.length = cap ∧ (∀ i, i < zs.length → w.cell? (x.add i) = some (.int k (zs.getD i 0))) ∧ ∀ n ∈ zs, (Lit.int k n).wf = true

/-- A slice whose first 'len' elements are the numbers zs. -/
def Row (k : IntKind) (w : World) (a : Option Addr) (len : Nat) (zs : List Int) : Prop :=
  zs.length = len ∧ len ≤ maxLen ∧ (len = 0 ∨ ∃ b off, a = some ⟨b, off, none⟩ ∧ ∀ i, i < len → w.cell? ⟨b, off + i, none⟩ = some (.int k (zs[i]?.getD 0)))

theorem IsRow.row {k : IntKind} {w : World} {a : Option Addr} {len cap : Nat} {zs : List Int} (h : IsRow k w a len cap zs) : Row k w a len (zs.take len) := by
  rcases h with ⟨rfl, rfl, rfl, rfl⟩ | ⟨x, rfl, hl, hm, hz, hcell, hwz⟩
  · exact ⟨rfl, Nat.zero_le _, .inl rfl⟩
  · refine ⟨by simp; omega, by omega, ?_⟩
    by_cases h0 : len = 0
    · exact .inl h0
    · right
      obtain ⟨b, off, spot⟩ := x
      have hc := hcell 0 (by omega)
      have hspot : spot = none := by simpa [Addr.add] using World.cell?_spot hc
      subst hspot
      refine ⟨b, off, rfl, fun i hi => ?_⟩
      have := hcell i (by omega)
      by_cases h1 : i = 0
      · subst h1; simpa [Addr.add, List.getElem?_take, hi] using this
      · simpa [Addr.add, List.getElem?_take, hi, h1] using this

theorem ret_two {k : IntKind} {a b : Int} {c d : Bool} (h : a = b) (g : c = d) : Ending.returned (.tuple #[.int k a, .bool c]) = .returned (.tuple #[.int k b, .bool d]) := by rw [h, g]

def leastOf (a : Int) (l : List Int) : Int := l.foldl (fun m x => if x < m then x else m) a
theorem leastOf_snoc (a : Int) (l : List Int) (x : Int) : leastOf a (l ++ [x]) = if x < leastOf a l then x else leastOf a l := by
  unfold leastOf; rw [List.foldl_append]; rfl
theorem take_snoc (l : List Int) (k : Nat) (h : k < l.length) : l.take (k + 1) = l.take k ++ [l[k]?.getD 0] := by
  rw [List.take_succ_eq_append_getElem h]; simp [h]

set_option maxHeartbeats 400000 in
theorem least_any (n : Int) (a : Option Addr) (len cap : Nat) (zs : List Int) (w : World) (hr : Row .i64 w a len zs) :
    Calls Try.prog 24 #[.int .i64 n, .slice a len cap] w fun e w' => e = .returned (.int .i64 (leastOf n zs)) ∧ w = w' := by
  obtain ⟨hz, hm, hc⟩ := hr
  have HZ := Lib.hid hz
  clear hz
  unfold maxLen at hm
  rcases hc with rfl | ⟨b, off, rfl, hcell⟩
  · have hfin := Lib.hid (show leastOf n zs = n by rw [List.eq_nil_of_length_eq_zero HZ.out]; rfl)
    go_enter Try.func24, Try.ntmps24
    go_wp2
    go_loop [0, 9] (fun m i => m = .int .i64 n ∧ i = .int .i64 0) (fun _ _ => 0)
    case atStart => exact ⟨rfl, rfl⟩
    case round =>
      obtain ⟨rfl, rfl⟩ := hrel
      go_wp2
      go_ret
      exact ⟨ret_int hfin.out.symm, rfl⟩
  · have HC := Lib.hid hcell
    clear hcell
    go_enter Try.func24, Try.ntmps24
    go_wp2
    go_loop [0, 9] (fun m i => ∃ k : Nat, k ≤ len ∧ i = .int .i64 k ∧ m = .int .i64 (leastOf n (zs.take k))) (fun _ i => len - (intOf i).toNat)
    case atStart => exact ⟨0, Nat.zero_le _, rfl, rfl⟩
    case round =>
      obtain ⟨k, hk, rfl, rfl⟩ := hrel
      by_cases hlt : k < len
      · have hcell := HC.out k hlt
        have HS := Lib.hid (show leastOf n (zs.take (k + 1)) = if zs[k]?.getD 0 < leastOf n (zs.take k) then zs[k]?.getD 0 else leastOf n (zs.take k) by rw [take_snoc _ _ (by rw [HZ.out]; exact hlt), leastOf_snoc])
        by_cases hx : zs[k]?.getD 0 < leastOf n (zs.take k)
        · go_wp2
          go_round
          case rel => exact ⟨k + 1, by omega, by go_num, by rw [HS.out, if_pos hx]⟩
          case measure => simp [intOf]; omega
        · go_wp2
          go_round
          case rel => exact ⟨k + 1, by omega, by go_num, by rw [HS.out, if_neg hx]⟩
          case measure => simp [intOf]; omega
      · go_wp2
        go_ret
        exact ⟨ret_int (by rw [List.take_of_length_le (by rw [HZ.out]; omega)]), rfl⟩

/-- FromSeconds. -/
def fromSec (n : Int) : Int := if n < 300 then 0 else if 255 < n / 300 - 1 then 255 else n / 300 - 1
def fromOk (n : Int) : Bool := !decide (n < 300)

set_option maxHeartbeats 400000 in
theorem fromSeconds_any (n : Int) (w : World) (hn : n ≤ 9223372036854775807) :
    Calls Try.prog 13 #[.int .i64 n] w fun e w' => e = .returned (.tuple #[.int .i64 (fromSec n), .bool (fromOk n)]) ∧ Below w.heap.size w w' := by
  by_cases h : n < 300
  · have h1 := Lib.hid (show fromSec n = 0 by simp [fromSec, h])
    have h2 := Lib.hid (show fromOk n = false by simp [fromOk, h])
    go_enter Try.func13, Try.ntmps13
    go_wp2
    go_ret2
    exact ⟨ret_two h1.out.symm h2.out.symm, Below.refl _ _⟩
  · have h1 := Lib.hid (show fromSec n = leastOf (n / 300 - 1) [255] by simp [fromSec, h, leastOf])
    have h2 := Lib.hid (show fromOk n = true by simp [fromOk]; omega)
    have hr : ∀ T : TypeId, Row .i64 (w.alloc (.cells #[.int .i64 255] T)) (some ⟨w.heap.size, 0, none⟩) 1 [255] := fun T =>
      ⟨rfl, by unfold maxLen; omega, .inr ⟨_, _, rfl, fun i hi => by obtain rfl : i = 0 := by omega
                                                                     simp⟩⟩
    have HR := Lib.hid hr
    clear hr
    go_enter Try.func13, Try.ntmps13
    go_wp2_with (go_at_call 24; refine (least_any _ _ _ _ [255] _ (HR.out _)).mono ?_; rintro e w' ⟨rfl, rfl⟩)
    go_ret2
    exact ⟨ret_two h1.out.symm h2.out.symm, (Below.refl _ _).alloc (Nat.le_refl _) _⟩

set_option maxHeartbeats 400000 in
theorem refFrom_any (n : Int) (w : World) (hn : n ≤ 9223372036854775807) :
    Calls Try.prog 14 #[.int .i64 n] w fun e w' => e = .returned (.tuple #[.int .i64 (fromSec n), .bool (fromOk n)]) ∧ w = w' := by
  by_cases h : n < 300
  · have h1 := Lib.hid (show fromSec n = 0 by simp [fromSec, h])
    have h2 := Lib.hid (show fromOk n = false by simp [fromOk, h])
    go_enter Try.func14, Try.ntmps14
    go_wp2
    go_ret2
    exact ⟨ret_two h1.out.symm h2.out.symm, rfl⟩
  · have h2 := Lib.hid (show fromOk n = true by simp [fromOk]; omega)
    by_cases hx : 255 < n / 300 - 1
    · have h1 := Lib.hid (show fromSec n = 255 by simp [fromSec, h, hx])
      go_enter Try.func14, Try.ntmps14
      go_wp2
      go_ret2
      exact ⟨ret_two (by rw [h1.out]) h2.out.symm, rfl⟩
    · have h1 := Lib.hid (show fromSec n = n / 300 - 1 by simp [fromSec, h, hx])
      go_enter Try.func14, Try.ntmps14
      go_wp2
      go_ret2
      exact ⟨ret_two (by rw [h1.out]) h2.out.symm, rfl⟩

/-- Grant. -/
def grantPair (now want : Int) (ends : List Int) : Int × Bool :=
  if timeB now && !decide (want < 0) then
    (let e := leastOf (now + 300 * (leastOf want [255] + 1)) ends
     if e < now then (0, false) else (fromSec (e - now), fromOk (e - now)))
  else (0, false)

theorem least1 (a b : Int) : leastOf a [b] = if b < a then b else a := rfl
theorem leastOf_le (l : List Int) : ∀ a, leastOf a l ≤ a := by
  induction l with
  | nil => intro a; exact Int.le_refl _
  | cons x l ih => intro a; have := ih (if x < a then x else a); show leastOf (if x < a then x else a) l ≤ a; split at this <;> split <;> omega
theorem leastOf_ge (l : List Int) : ∀ a m, m ≤ a → (∀ x ∈ l, m ≤ x) → m ≤ leastOf a l := by
  induction l with
  | nil => intro a m h _; exact h
  | cons x l ih =>
    intro a m h g
    show m ≤ leastOf (if x < a then x else a) l
    refine ih _ _ ?_ (fun y hy => g y (List.mem_cons_of_mem _ hy))
    have := g x List.mem_cons_self
    split <;> omega


theorem Row.below {k : IntKind} {w w' : World} {a : Option Addr} {len : Nat} {zs : List Int} (h : Row k w a len zs) (hb : Below w.heap.size w w') : Row k w' a len zs := by
  obtain ⟨h1, h2, h3⟩ := h
  refine ⟨h1, h2, h3.imp id ?_⟩
  rintro ⟨b, off, rfl, hc⟩
  refine ⟨b, off, rfl, fun i hi => ?_⟩
  have := hc i hi
  rw [hb.cell (p := ⟨b, off + i, none⟩) (World.block_lt_of_cell? _ _ this)]
  exact this
theorem Row.one (w : World) (T : TypeId) (n : Int) : Row .i64 (w.alloc (.cells #[.int .i64 n] T)) (some ⟨w.heap.size, 0, none⟩) 1 [n] :=
  ⟨rfl, by unfold maxLen; omega, .inr ⟨_, _, rfl, fun i hi => by obtain rfl : i = 0 := by omega
                                                                 simp⟩⟩
theorem Below.alloc1 (w : World) (o : Obj) : Below w.heap.size w (w.alloc o) := (Below.refl _ _).alloc (Nat.le_refl _) _

set_option maxHeartbeats 1000000 in
theorem grant_any (now want : Int) (a : Option Addr) (len cap : Nat) (zs : List Int) (w : World) (hr : Row .i64 w a len zs)
    (hw : want ≤ 9223372036854775807) :
    Calls Try.prog 15 #[.int .i64 now, .int .i64 want, .slice a len cap] w fun e w' => e = .returned (.tuple #[.int .i64 (grantPair now want zs).1, .bool (grantPair now want zs).2]) ∧ Below w.heap.size w w' := by
  have HR := Lib.hid hr
  clear hr
  cases ht : timeB now
  · have hfin := Lib.hid (show grantPair now want zs = (0, false) by simp [grantPair, ht])
    go_enter Try.func15, Try.ntmps15
    go_wp2_with (first | (go_at_call 24; refine (least_any _ _ _ _ [255] _ (Row.one _ _ _)).mono ?_; rintro e w' ⟨rfl, rfl⟩) | (go_at_call 21; refine (isTime_any _ _).mono ?_; rintro e w' ⟨rfl, rfl⟩))
    go_ret2
    exact ⟨ret_two (by rw [hfin.out]) (by rw [hfin.out]), Below.alloc1 _ _⟩
  by_cases hw0 : want < 0
  · have hfin := Lib.hid (show grantPair now want zs = (0, false) by simp [grantPair, hw0])
    have hm : leastOf want [255] < 0 := by rw [least1]; split <;> omega
    go_enter Try.func15, Try.ntmps15
    go_wp2_with (first | (go_at_call 24; refine (least_any _ _ _ _ [255] _ (Row.one _ _ _)).mono ?_; rintro e w' ⟨rfl, rfl⟩) | (go_at_call 21; refine (isTime_any _ _).mono ?_; rintro e w' ⟨rfl, rfl⟩))
    go_ret2
    exact ⟨ret_two (by rw [hfin.out]) (by rw [hfin.out]), Below.alloc1 _ _⟩
  have hm : 0 ≤ leastOf want [255] ∧ leastOf want [255] ≤ 255 := by rw [least1]; split <;> omega
  have hn := timeB_true ht
  have he := Lib.hid (show endOf now (leastOf want [255]) = now + 300 * (leastOf want [255] + 1) by simp [endOf, ht, lifeB_mk hm.1 hm.2])
  have hle := leastOf_le zs (endOf now (leastOf want [255]))
  have hfin := Lib.hid (show grantPair now want zs = if leastOf (endOf now (leastOf want [255])) zs < now then (0, false) else (fromSec (leastOf (endOf now (leastOf want [255])) zs - now), fromOk (leastOf (endOf now (leastOf want [255])) zs - now)) by rw [he.out]; simp [grantPair, ht, hw0])
  have hub : leastOf (endOf now (leastOf want [255])) zs ≤ 4294967295 + 76800 := by have := he.out; omega
  clear hle
  by_cases hlt : leastOf (endOf now (leastOf want [255])) zs < now
  · go_enter Try.func15, Try.ntmps15
    go_wp2_with (fail)
    refine (least_any _ _ _ _ [255] _ (Row.one _ _ _)).mono ?_
    rintro e w' ⟨rfl, rfl⟩
    go_wp2_with (first | (go_at_call 21; refine (isTime_any _ _).mono ?_; rintro e w' ⟨rfl, rfl⟩) | (go_at_call 11; refine (end_any _ _ _).mono ?_; rintro e w' ⟨rfl, rfl⟩))
    refine (least_any _ _ _ _ zs _ (HR.out.below (Below.alloc1 _ _))).mono ?_
    rintro e w' ⟨rfl, rfl⟩
    go_wp2
    go_ret2
    exact ⟨ret_two (by rw [hfin.out, if_pos hlt]) (by rw [hfin.out, if_pos hlt]), Below.alloc1 _ _⟩
  · go_enter Try.func15, Try.ntmps15
    go_wp2_with (fail)
    refine (least_any _ _ _ _ [255] _ (Row.one _ _ _)).mono ?_
    rintro e w' ⟨rfl, rfl⟩
    go_wp2_with (first | (go_at_call 21; refine (isTime_any _ _).mono ?_; rintro e w' ⟨rfl, rfl⟩) | (go_at_call 11; refine (end_any _ _ _).mono ?_; rintro e w' ⟨rfl, rfl⟩))
    refine (least_any _ _ _ _ zs _ (HR.out.below (Below.alloc1 _ _))).mono ?_
    rintro e w' ⟨rfl, rfl⟩
    go_wp2_with (go_at_call 13; refine (fromSeconds_any _ _ (by omega)).mono ?_; rintro e w' ⟨rfl, hb⟩)
    go_ret2
    exact ⟨ret_two (by rw [hfin.out, if_neg (by omega)]) (by rw [hfin.out, if_neg (by omega)]), (Below.alloc1 _ _).trans (hb.mono (by simp))⟩

/-- the reference's inner loop: the greatest life that is at most l and ends not behind e; -1 or less: none. -/
def cutTo (now l e : Int) : Int := if l < 0 then l else if now + 300 * (l + 1) ≤ e then l else if e < now + 300 then -1 else (e - now) / 300 - 1
def cutAll (now l : Int) (es : List Int) : Int := es.foldl (cutTo now) l
theorem cutAll_snoc (now l : Int) (es : List Int) (e : Int) : cutAll now l (es ++ [e]) = cutTo now (cutAll now l es) e := by
  unfold cutAll; rw [List.foldl_append]; rfl
theorem cutTo_step {now l e : Int} (h0 : 0 ≤ l) (h : e < now + 300 * (l + 1)) : cutTo now (l - 1) e = cutTo now l e := by
  unfold cutTo
  repeat (first | split | omega)
  all_goals omega
theorem cutTo_bd {now l e : Int} (h0 : -1 ≤ l) : -1 ≤ cutTo now l e ∧ cutTo now l e ≤ l := by
  unfold cutTo
  repeat (first | split | omega)
  all_goals omega
theorem cutAll_bd (now : Int) (es : List Int) : ∀ l : Int, -1 ≤ l → -1 ≤ cutAll now l es ∧ cutAll now l es ≤ l := by
  induction es with
  | nil => intro l h; exact ⟨h, Int.le_refl _⟩
  | cons e es ih => intro l h; have a := cutTo_bd (now := now) (e := e) h; have b := ih (cutTo now l e) a.1; show -1 ≤ cutAll now (cutTo now l e) es ∧ cutAll now (cutTo now l e) es ≤ l; omega

def refPair (now want : Int) (ends : List Int) : Int × Bool :=
  if timeB now && !decide (want < 0) then (if cutAll now (leastOf want [255]) ends < 0 then (0, false) else (cutAll now (leastOf want [255]) ends, true)) else (0, false)

set_option maxHeartbeats 1000000 in
theorem refGrant_any (now want : Int) (a : Option Addr) (len cap : Nat) (zs : List Int) (w : World) (hr : Row .i64 w a len zs)
    (hw : want ≤ 9223372036854775807) :
    Calls Try.prog 16 #[.int .i64 now, .int .i64 want, .slice a len cap] w fun e w' => e = .returned (.tuple #[.int .i64 (refPair now want zs).1, .bool (refPair now want zs).2]) ∧ w = w' := by
  obtain ⟨hz, hml, hc⟩ := hr
  have HZ := Lib.hid hz
  clear hz
  unfold maxLen at hml
  cases ht : timeB now
  · have hfin := Lib.hid (show refPair now want zs = (0, false) by simp [refPair, ht])
    go_enter Try.func16, Try.ntmps16
    go_wp2_with (go_at_call 23; refine (time_any _ _).mono ?_; rintro e w' ⟨rfl, rfl⟩)
    go_ret2
    exact ⟨ret_two (by rw [hfin.out]) (by rw [hfin.out]), rfl⟩
  by_cases hw0 : want < 0
  · have hfin := Lib.hid (show refPair now want zs = (0, false) by simp [refPair, hw0])
    go_enter Try.func16, Try.ntmps16
    go_wp2_with (go_at_call 23; refine (time_any _ _).mono ?_; rintro e w' ⟨rfl, rfl⟩)
    go_ret2
    exact ⟨ret_two (by rw [hfin.out]) (by rw [hfin.out]), rfl⟩
  have hn := timeB_true ht
  have hm0 : 0 ≤ leastOf want [255] ∧ leastOf want [255] ≤ 255 := by rw [least1]; split <;> omega
  have hcb := cutAll_bd now zs (leastOf want [255]) (by omega)
  have hfin := Lib.hid (show refPair now want zs = (if cutAll now (leastOf want [255]) zs < 0 then (0, false) else (cutAll now (leastOf want [255]) zs, true)) by simp [refPair, ht, hw0])
  have HC := Lib.hid hc
  clear hc
  obtain ⟨m, HM⟩ : ∃ m, Hid (m = leastOf want [255]) := ⟨_, rfl⟩
  have hm1 : 0 ≤ m ∧ m ≤ 255 := by rw [HM.out]; exact hm0
  have HM2 := Lib.hid (show (want ≤ 255 → m = want) ∧ (255 < want → m = 255) by rw [HM.out, least1]; constructor <;> intro h <;> split <;> omega)
  rw [← HM.out] at hcb hfin
  clear hm0
  have hb0 : decide (want < 0) = false := by simp; omega
  by_cases hx : 255 < want
  all_goals
    go_enter Try.func16, Try.ntmps16
    go_wp2_with (go_at_call 23; refine (time_any _ _).mono ?_; rintro e w' ⟨rfl, rfl⟩)
    go_loop [8, 9] (fun l i => ∃ k : Nat, k ≤ len ∧ i = .int .i64 k ∧ l = .int .i64 (cutAll now m (zs.take k))) (fun _ i => len - (intOf i).toNat)
    case atStart => exact ⟨0, Nat.zero_le _, rfl, by first | rw [← HM2.out.1 (by omega)]; rfl | rw [← HM2.out.2 (by omega)]; rfl⟩
    case round =>
      obtain ⟨k, hk, rfl, rfl⟩ := hrel
      have hcb2 := cutAll_bd now (zs.take k) m (by omega)
      by_cases hlt : k < len
      · have HS := Lib.hid (show cutAll now m (zs.take (k + 1)) = cutTo now (cutAll now m (zs.take k)) (zs[k]?.getD 0) by rw [take_snoc _ _ (by rw [HZ.out]; exact hlt), cutAll_snoc])
        obtain ⟨b, off, rfl, hcell0⟩ : ∃ b off, a = some ⟨b, off, none⟩ ∧ w.cell? ⟨b, off + k, none⟩ = some (.int .i64 (zs[k]?.getD 0)) := by
          rcases HC.out with h | ⟨b, off, h1, h2⟩
          · omega
          · exact ⟨b, off, h1, h2 k hlt⟩
        generalize zs[k]?.getD 0 = e at *
        go_wp2
        go_loop [8] (fun l => ∃ x : Int, -1 ≤ x ∧ x ≤ 255 ∧ Hid (cutTo now x e = cutTo now (cutAll now m (zs.take k)) e) ∧ l = .int .i64 x) (fun l => (intOf l + 1).toNat)
        case atStart => exact ⟨_, by omega, by omega, Lib.hid rfl, rfl⟩
        case round =>
          obtain ⟨x, hx1, hx2, hx3, rfl⟩ := hrel
          by_cases h0 : 0 ≤ x
          · by_cases h1 : e < now + 300 * (x + 1)
            · go_wp2
              go_round
              case rel => exact ⟨x - 1, by omega, by omega, Lib.hid (by rw [cutTo_step h0 h1]; exact hx3.out), rfl⟩
              case measure => simp [intOf]; omega
            · have hfx := Lib.hid (show cutTo now x e = x by unfold cutTo; rw [if_neg (by omega), if_pos (by omega)])
              go_wp2
              go_round
              case rel => exact ⟨k + 1, by omega, by go_num, by rw [HS.out, ← hx3.out, hfx.out]⟩
              case measure => simp [intOf]; omega
          · have hfx := Lib.hid (show cutTo now x e = x by unfold cutTo; rw [if_pos (by omega)])
            have hbx : decide (0 ≤ x) = false := by simp; omega
            go_wp2
            go_round
            case rel => exact ⟨k + 1, by omega, by go_num, by rw [HS.out, ← hx3.out, hfx.out]⟩
            case measure => simp [intOf]; omega
      · have hfx := Lib.hid (show zs.take k = zs by rw [List.take_of_length_le (by rw [HZ.out]; omega)])
        by_cases h0 : cutAll now m (zs.take k) < 0
        · go_wp2
          go_ret2
          rw [hfx.out] at h0
          exact ⟨ret_two (by rw [hfin.out, if_pos h0]) (by rw [hfin.out, if_pos h0]), rfl⟩
        · go_wp2
          go_ret2
          rw [hfx.out] at h0
          exact ⟨ret_two (by rw [hfin.out, if_neg (by omega), hfx.out]) (by rw [hfin.out, if_neg (by omega)]), rfl⟩

end Go.Proofs.Ytpbokbaboldhdaa
