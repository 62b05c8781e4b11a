/- Contracts of replay.within, replay.Check. -/
import Derived.Test.YtegcdefdkebmnaaMark
import Derived.Test.YtegcdefdkebmnaaCells
import Derived.Deep.RegionHeld3
import Derived.Deep.DeepCutAuto
import Derived.Deep.DrawnRows
namespace Go.Proofs.Ytegcdefdkebmnaa
open Go.RowKit
attribute [local go_sem ↓] Go.wp_at_zero Go.wp_at_succ

def wiB (n lo hi : Int) : Bool := decide (lo ≤ n ∧ n ≤ hi)
set_option maxHeartbeats 400000 in
theorem within_any (n lo hi : Int) (w : World) :
    Calls Try.prog 40 #[.int .i64 n, .int .i64 lo, .int .i64 hi] w fun e w' => e = .returned (.bool (wiB n lo hi)) ∧ w = w' := by
  by_cases h0 : lo ≤ n
  · by_cases h1 : n ≤ hi
    · have HF : Hid (wiB n lo hi = true) := Lib.hid (by simp [wiB, h0, h1])
      go_enter Try.func40, Try.ntmps40
      go_wp2
      go_ret
      exact ⟨ret_bool HF.out.symm, rfl⟩
    · have HF : Hid (wiB n lo hi = false) := Lib.hid (by simp [wiB, h1])
      go_enter Try.func40, Try.ntmps40
      go_wp2
      go_ret
      exact ⟨ret_bool HF.out.symm, rfl⟩
  · have HF : Hid (wiB n lo hi = false) := Lib.hid (by simp [wiB, h0])
    have h0' : decide (lo ≤ n) = false := by simpa using h0
    go_enter Try.func40, Try.ntmps40
    go_wp2
    go_ret
    exact ⟨ret_bool HF.out.symm, rfl⟩

def markErr (f : Int) (prev : List Mk) (m : Mk) : Int :=
  if prinB m.n m.i m.r = false then 103 else if (wiB m.t f 4294967295 && wiB m.k 0 199) = false then 104 else if hasB prev m then 107 else 0
def errAt (f : Int) (ms : List Mk) (i : Nat) : Int := match ms[i]? with | some m => markErr f (ms.take i) m | none => 0
def checkErr (z f : Int) (ms : List Mk) : Int :=
  if (wiB z 1 40 && wiB f 0 4294967295) = false then 104 else if z < (ms.length : Int) then 106 else firstErr (errAt f ms) ms.length
theorem errAt_eq {f : Int} {ms : List Mk} {i : Nat} {m : Mk} (h : ms[i]? = some m) : errAt f ms i = markErr f (ms.take i) m := by rw [errAt, h]

theorem mcells_take (ms : List Mk) (k : Nat) : (mcells ms).take (k * 5) = mcells (ms.take k) := by
  induction ms generalizing k with
  | nil => simp [mcells]
  | cons m ms ih =>
    cases k with
    | zero => simp [mcells]
    | succ k =>
      have h5 : m.cells.length = 5 := rfl
      rw [List.take_succ_cons]
      simp only [mcells, List.flatMap_cons] at ih ⊢
      rw [show (k + 1) * 5 = m.cells.length + k * 5 by omega, List.take_length_add_append, ih]
theorem FRow.take {w : World} {a : Option Addr} {len : Nat} {ms : List Mk} (h : FRow w a len 5 (mcells ms)) (k : Nat) (hk : k ≤ len) : FRow w a k 5 (mcells (ms.take k)) := by
  have hl : ms.length = len := by have := h.1; rw [mcells_len] at this; omega
  refine ⟨by rw [mcells_len]; simp; omega, ?_⟩
  rcases h.2 with h0 | ⟨b, off, rfl, hc⟩
  · exact .inl (by omega)
  · refine .inr ⟨b, off, rfl, fun i hi => ?_⟩
    rw [← mcells_take] at hi ⊢
    have hi2 : i < (mcells ms).length ∧ i < k * 5 := by simp at hi; omega
    rw [hc i hi2.1, List.getElem?_take, if_pos hi2.2]

set_option maxRecDepth 100000 in
set_option maxHeartbeats 2000000 in
theorem check_any (z f : Int) (a : Option Addr) (len cap : Nat) (ms : List Mk) (w : World) (hr : FRow w a len 5 (mcells ms)) (hok : ∀ m ∈ ms, m.ok) (hcap : len ≤ cap) (hcm : cap ≤ 9223372036854775807) :
    Calls Try.prog 13 #[.agg #[.int .i64 z, .int .i64 f, .slice a len cap]] w fun e w' => e = .returned (.int .i64 (checkErr z f ms)) ∧ Below w.heap.size w w' := by
  have HL : Hid (ms.length = len) := Lib.hid (by have := hr.1; rw [mcells_len] at this; omega)
  have HB0 := Lib.hid (Below.alloc1 w (.cells #[.int .i64 z, .int .i64 f, .slice a len cap] 24))
  have HR := Lib.hid (hr.below HB0.out)
  have HOK := Lib.hid hok
  clear hr hok
  cases h1 : wiB z 1 40
  · have HF : Hid (checkErr z f ms = 104) := Lib.hid (by simp [checkErr, h1])
    go_enter Try.func13, Try.ntmps13
    go_wp2_with (go_at_call 40; refine (within_any _ _ _ _).mono ?_; rintro e w' ⟨rfl, rfl⟩)
    go_ret
    exact ⟨ret_int HF.out.symm, HB0.out⟩
  cases h2 : wiB f 0 4294967295
  · have HF : Hid (checkErr z f ms = 104) := Lib.hid (by simp [checkErr, h2])
    go_enter Try.func13, Try.ntmps13
    go_wp2_with (go_at_call 40; refine (within_any _ _ _ _).mono ?_; rintro e w' ⟨rfl, rfl⟩)
    go_ret
    exact ⟨ret_int HF.out.symm, HB0.out⟩
  by_cases h3 : z < (len : Int)
  · have HF : Hid (checkErr z f ms = 106) := Lib.hid (by simp [checkErr, h1, h2, HL.out, h3])
    have h3' : decide (z < (len : Int)) = true := by simpa using h3
    go_enter Try.func13, Try.ntmps13
    go_wp2_with (go_at_call 40; refine (within_any _ _ _ _).mono ?_; rintro e w' ⟨rfl, rfl⟩)
    go_ret
    exact ⟨ret_int HF.out.symm, HB0.out⟩
  have HF : Hid (checkErr z f ms = firstErr (errAt f ms) len) := Lib.hid (by simp [checkErr, h1, h2, HL.out, h3])
  have h3' : decide (z < (len : Int)) = false := by simpa using h3
  go_enter Try.func13, Try.ntmps13
  go_wp2_with (go_at_call 40; refine (within_any _ _ _ _).mono ?_; rintro e w' ⟨rfl, rfl⟩)
  clear h1 h2 h3 h3'
  go_loopw [24] (fun i wr => ∃ k : Nat, k ≤ len ∧ i = .int .i64 k ∧ Hid (Below (w.alloc (.cells #[.int .i64 z, .int .i64 f, .slice a len cap] 24)).heap.size (w.alloc (.cells #[.int .i64 z, .int .i64 f, .slice a len cap] 24)) wr ∧ ∀ i, i < k → errAt f ms i = 0)) (fun i _ => len - (intOf i).toNat)
  case atStart => exact ⟨0, Nat.zero_le _, rfl, Lib.hid ⟨Below.refl _ _, fun i hi => by omega⟩⟩
  case round =>
    obtain ⟨k, hk, rfl, H⟩ := hrel
    by_cases hlt : k < len
    · obtain ⟨b, off, x, rfl, hx, c0, c1, c2, c3, c4⟩ := (HR.out.below H.out.1).mark hlt
      have HX := Lib.hid hx
      have HXO := Lib.hid (HOK.out x (List.mem_of_getElem? hx))
      have HE := Lib.hid (errAt_eq (f := f) hx)
      have HFA : Hid (∀ e, markErr f (ms.take k) x = e → e ≠ 0 → checkErr z f ms = e) := Lib.hid (fun e he h0 => by rw [HF.out, firstErr_at hlt H.out.2 (by rw [HE.out, he]; exact h0), HE.out, he])
      have HBX : Hid (Below w.heap.size w (wr.alloc (.cells #[.string x.n, .string x.i, .string x.r, .int .i64 x.t, .int .i64 x.k] 36))) := Lib.hid (bthen (bthen HB0.out H.out.1) (Below.alloc1 _ _))
      have HCS := Lib.hid (fun X => cells_two (w' := X) (C2 := #[.string x.n, .string x.i, .string x.r, .int .i64 x.t, .int .i64 x.k]) (T2 := 36) H.out.1)
      have hz : w.heap.size < wr.heap.size := by have := H.out.1.size; simp at this; omega
      clear hx
      cases g1 : prinB x.n x.i x.r
      · have HM : Hid (markErr f (ms.take k) x = 103) := Lib.hid (by simp [markErr, g1])
        go_wp2_with (go_at_call 41; refine (valid_p_any _ _ _ _ HXO.out.1 HXO.out.2.1 HXO.out.2.2.1).mono ?_; rintro e y2 ⟨rfl, hb2⟩; have HB2 := Lib.hid hb2; clear hb2)
        go_ret
        exact ⟨ret_int (HFA.out _ HM.out (by decide)).symm, bthen HBX.out HB2.out⟩
      go_wp2_with fail
      refine (valid_p_any _ _ _ _ HXO.out.1 HXO.out.2.1 HXO.out.2.2.1).mono ?_
      rintro e y2 ⟨rfl, hb2⟩
      obtain ⟨d1, d2, _⟩ := HCS.out y2 hb2
      have e0 : y2.cell? ⟨w.heap.size, 1, none⟩ = some (.int .i64 f) := d1 1
      have e1 : y2.cell? ⟨w.heap.size, 2, none⟩ = some (.slice (some ⟨b, off, none⟩) len cap) := d1 2
      have f0 : y2.cell? ⟨wr.heap.size, 0, none⟩ = some (.string x.n) := d2 0
      have f1 : y2.cell? ⟨wr.heap.size, 1, none⟩ = some (.string x.i) := d2 1
      have f2 : y2.cell? ⟨wr.heap.size, 2, none⟩ = some (.string x.r) := d2 2
      have f3 : y2.cell? ⟨wr.heap.size, 3, none⟩ = some (.int .i64 x.t) := d2 3
      have f4 : y2.cell? ⟨wr.heap.size, 4, none⟩ = some (.int .i64 x.k) := d2 4
      have HB2 := Lib.hid hb2
      clear hb2 d1 d2 c0 c1 c2 c3 c4
      cases g2 : wiB x.t f 4294967295
      · have HM : Hid (markErr f (ms.take k) x = 104) := Lib.hid (by simp [markErr, g1, g2])
        go_wp2_with (go_at_call 40; refine (within_any _ _ _ _).mono ?_; rintro e w' ⟨rfl, rfl⟩)
        go_ret
        exact ⟨ret_int (HFA.out _ HM.out (by decide)).symm, bthen HBX.out HB2.out⟩
      cases g3 : wiB x.k 0 199
      · have HM : Hid (markErr f (ms.take k) x = 104) := Lib.hid (by simp [markErr, g1, g3])
        go_wp2_with (go_at_call 40; refine (within_any _ _ _ _).mono ?_; rintro e w' ⟨rfl, rfl⟩)
        go_ret
        exact ⟨ret_int (HFA.out _ HM.out (by decide)).symm, bthen HBX.out HB2.out⟩
      go_upto_region 12 with (go_at_call 40; refine (within_any _ _ _ _).mono ?_; rintro e w' ⟨rfl, rfl⟩)
      have HS : Hid (∀ X, Below y2.heap.size y2 X → X.cell? ⟨w.heap.size, 2, none⟩ = some (.slice (some ⟨b, off, none⟩) len cap) ∧ X.cell? ⟨wr.heap.size, 0, none⟩ = some (.string x.n) ∧ X.cell? ⟨wr.heap.size, 1, none⟩ = some (.string x.i) ∧ X.cell? ⟨wr.heap.size, 2, none⟩ = some (.string x.r) ∧ X.cell? ⟨wr.heap.size, 3, none⟩ = some (.int .i64 x.t) ∧ X.cell? ⟨wr.heap.size, 4, none⟩ = some (.int .i64 x.k)) := Lib.hid (fun X hX => by
        obtain ⟨d1, d2, _⟩ := HCS.out X (bthen HB2.out hX)
        exact ⟨d1 2, d2 0, d2 1, d2 2, d2 3, d2 4⟩)
      have HQ0 : Hid (Below y2.heap.size y2 y2.drew) := Lib.hid (Below.refl _ _).drew
      have HRT : Hid (FRow y2.drew (some ⟨b, off, none⟩) k 5 (mcells (ms.take k))) := Lib.hid ((((HR.out.below H.out.1).below (Below.alloc1 _ _)).below (bthen HB2.out HQ0.out)).take k hk)
      have hk0 : (0 : Int) ≤ (k : Int) := by omega
      have hk1 : (k : Int) ≤ (cap : Int) := by omega
      have hk2 : k ≤ cap := by omega
      clear e0 e1 f0 f1 f2 f3 f4
      cases g4 : hasB (ms.take k) x
      · have HM : Hid (errAt f ms k = 0) := Lib.hid (by rw [HE.out]; simp [markErr, g1, g2, g3, g4])
        go_region_held3 (fun X => X.cell? ⟨w.heap.size, 2, none⟩ = some (.slice (some ⟨b, off, none⟩) len cap) ∧ X.cell? ⟨wr.heap.size, 0, none⟩ = some (.string x.n) ∧ X.cell? ⟨wr.heap.size, 1, none⟩ = some (.string x.i) ∧ X.cell? ⟨wr.heap.size, 2, none⟩ = some (.string x.r) ∧ X.cell? ⟨wr.heap.size, 3, none⟩ = some (.int .i64 x.t) ∧ X.cell? ⟨wr.heap.size, 4, none⟩ = some (.int .i64 x.k)) (first | exact HS.out _ HQ0.out | exact HS.out _ HQ1.out) (first | (go_simp; go_at_call 42; refine (contains_any _ _ _ (ms.take k) x _ HRT.out (by omega)).mono ?_; rintro e y3 ⟨rfl, hb3⟩; have HQ1 := Lib.hid (bthen HQ0.out hb3); clear hb3))
        go_wp2
        go_roundw
        case rel => exact ⟨k + 1, by omega, by go_num, Lib.hid ⟨bthen (bthen (bthen H.out.1 (Below.alloc1 _ _)) HB2.out) HQ1.out, fun i hi => if h : i = k then by rw [h]; exact HM.out else H.out.2 i (by omega)⟩⟩
        case measure => simp [intOf]; omega
      · have HM : Hid (markErr f (ms.take k) x = 107) := Lib.hid (by simp [markErr, g1, g2, g3, g4])
        go_region_held3 (fun X => X.cell? ⟨w.heap.size, 2, none⟩ = some (.slice (some ⟨b, off, none⟩) len cap) ∧ X.cell? ⟨wr.heap.size, 0, none⟩ = some (.string x.n) ∧ X.cell? ⟨wr.heap.size, 1, none⟩ = some (.string x.i) ∧ X.cell? ⟨wr.heap.size, 2, none⟩ = some (.string x.r) ∧ X.cell? ⟨wr.heap.size, 3, none⟩ = some (.int .i64 x.t) ∧ X.cell? ⟨wr.heap.size, 4, none⟩ = some (.int .i64 x.k)) (first | exact HS.out _ HQ0.out | exact HS.out _ HQ1.out) (first | (go_simp; go_at_call 42; refine (contains_any _ _ _ (ms.take k) x _ HRT.out (by omega)).mono ?_; rintro e y3 ⟨rfl, hb3⟩; have HQ1 := Lib.hid (bthen HQ0.out hb3); clear hb3))
        go_wp2
        go_ret
        exact ⟨ret_int (HFA.out _ HM.out (by decide)).symm, bthen HBX.out (bthen HB2.out HQ1.out)⟩
    · have HZ := Lib.hid (firstErr_zero (g := errAt f ms) (n := len) (fun i hi => H.out.2 i (by omega)))
      go_wp2
      go_ret
      exact ⟨ret_int (by rw [HF.out, HZ.out]), bthen HB0.out H.out.1⟩
end Go.Proofs.Ytegcdefdkebmnaa
