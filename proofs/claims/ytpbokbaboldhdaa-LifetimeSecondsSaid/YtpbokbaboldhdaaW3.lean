/- Contracts of awake and numbers; the plain law of Grant. -/
import Derived.Test.YtpbokbaboldhdaaW2
namespace Go.Proofs.Ytpbokbaboldhdaa
open Go.RowKit

theorem grant_ref (now want : Int) (zs : List Int) : grantPair now want zs = refPair now want zs := by
  unfold grantPair refPair
  cases ht : timeB now
  · rfl
  by_cases hw : want < 0
  · simp [hw]
  have hn := timeB_true ht
  have hm : 0 ≤ leastOf want [255] ∧ leastOf want [255] ≤ 255 := by rw [least1]; split <;> omega
  generalize leastOf want [255] = m at *
  simp only [hw, decide_false, Bool.not_false, Bool.and_self, if_true]
  suffices h : ∀ l : Int, -1 ≤ l → l ≤ 255 → ∀ e : Int, e ≤ now + 76800 → (cutTo now 255 e = l) → 
      (if leastOf e zs < now then ((0 : Int), false) else (fromSec (leastOf e zs - now), fromOk (leastOf e zs - now))) = if cutAll now l zs < 0 then (0, false) else (cutAll now l zs, true) by
    refine h m (by omega) (by omega) (now + 300 * (m + 1)) (by omega) ?_
    unfold cutTo
    repeat (first | split | omega)
    all_goals omega
  induction zs with
  | nil =>
    intro l h1 h2 e he hc
    show (if e < now then ((0 : Int), false) else (fromSec (e - now), fromOk (e - now))) = if l < 0 then (0, false) else (l, true)
    by_cases c1 : e < now
    · have : l = -1 := by rw [← hc]; unfold cutTo; rw [if_neg (by omega), if_neg (by omega), if_pos (by omega)]
      subst this; rw [if_pos c1]; rfl
    by_cases c2 : e < now + 300
    · have : l = -1 := by rw [← hc]; unfold cutTo; rw [if_neg (by omega), if_neg (by omega), if_pos (by omega)]
      subst this; rw [if_neg c1]
      have d1 : fromSec (e - now) = 0 := by unfold fromSec; rw [if_pos (by omega)]
      have d2 : fromOk (e - now) = false := by unfold fromOk; simp; omega
      rw [d1, d2]; rfl
    have d2 : fromOk (e - now) = true := by unfold fromOk; simp; omega
    have d1 : fromSec (e - now) = l := by
      rw [← hc]; unfold fromSec cutTo
      repeat (first | split | omega)
      all_goals omega
    have d3 : ¬ l < 0 := by
      rw [← hc]; unfold cutTo
      repeat (first | split | omega)
      all_goals omega
    rw [d1, d2, if_neg c1, if_neg d3]
  | cons x zs ih =>
    intro l h1 h2 e he hc
    have := ih (cutTo now l x) (cutTo_bd h1).1 (by have := (cutTo_bd (now := now) (e := x) h1).2; omega) (if x < e then x else e) (by split <;> omega) (by
      subst hc
      unfold cutTo
      repeat (first | split | omega)
      all_goals omega)
    exact this

set_option maxHeartbeats 400000 in
theorem awake_any (w : World) :
    Calls Try.prog 9 #[] w fun e w' => e = .returned (.bool true) ∧ Below w.heap.size w w' := by
  have e1 := Lib.hid (show fromSec 899 = 1 ∧ fromOk 899 = true by decide)
  have e2 := Lib.hid (show fromSec 299 = 0 ∧ fromOk 299 = false by decide)
  have e3 := Lib.hid (show grantPair 1000 255 [1900] = (2, true) by decide)
  have e4 := Lib.hid (show endOf 0 0 = 300 by decide)
  go_enter Try.func9, Try.ntmps9
  go_wp2_with fail
  refine (fromSeconds_any _ _ (by omega)).mono ?_
  rintro e w1 ⟨rfl, hb1⟩
  rw [e1.out.1, e1.out.2]
  have HB1 := Lib.hid hb1
  clear hb1
  go_wp2_with fail
  refine (fromSeconds_any _ _ (by omega)).mono ?_
  rintro e w2 ⟨rfl, hb2⟩
  rw [e2.out.1, e2.out.2]
  have HB2 := Lib.hid hb2
  clear hb2
  go_wp2_with fail
  refine (grant_any _ _ _ _ _ [1900] _ (Row.one _ _ _) (by omega)).mono ?_
  rintro e w3 ⟨rfl, hb3⟩
  rw [e3.out]
  have HB3 := Lib.hid hb3
  clear hb3
  go_wp2_with fail
  refine (end_any _ _ _).mono ?_
  rintro e w4 ⟨rfl, rfl⟩
  rw [e4.out]
  go_wp2
  go_ret
  exact ⟨rfl, (HB1.out.trans (HB2.out.mono HB1.out.size)).trans (((Below.alloc1 _ _).trans (HB3.out.mono (by simp))).mono (Nat.le_trans HB1.out.size HB2.out.size))⟩

def numList (n s : Int) : List Int := [n, s, s % 300, s % 5 * 300, 4294967295 - s % 3 + 1, -1, 255, 256]

def NumPost (n s : Int) (w : World) (e : Ending) (w' : World) : Prop :=
  ∃ b, e = .returned (.slice (some ⟨b, 0, none⟩) 8 8) ∧ Row .i64 w' (some ⟨b, 0, none⟩) 8 (numList n s) ∧ Below w.heap.size w w'

theorem Row.eight (w : World) (T : TypeId) (a b c d e f g h : Int) : Row .i64 (w.alloc (.cells #[.int .i64 a, .int .i64 b, .int .i64 c, .int .i64 d, .int .i64 e, .int .i64 f, .int .i64 g, .int .i64 h] T)) (some ⟨w.heap.size, 0, none⟩) 8 [a, b, c, d, e, f, g, h] :=
  ⟨rfl, by unfold maxLen; omega, .inr ⟨_, _, rfl, fun i hi => by
    rcases (by omega : i = 0 ∨ i = 1 ∨ i = 2 ∨ i = 3 ∨ i = 4 ∨ i = 5 ∨ i = 6 ∨ i = 7) with h | h | h | h | h | h | h | h <;> subst h <;> simp⟩⟩

set_option maxHeartbeats 400000 in
theorem numbers_any (n s : Int) (w : World) (h0 : 0 ≤ s) (h1 : s ≤ 65535) :
    Calls Try.prog 10 #[.int .i64 n, .int .u16 s] w (NumPost n s w) := by
  go_enter Try.func10, Try.ntmps10
  go_wp2
  go_ret
  exact ⟨_, rfl, Row.eight _ _ _ _ _ _ _ _ _ _, Below.alloc1 _ _⟩

end Go.Proofs.Ytpbokbaboldhdaa
