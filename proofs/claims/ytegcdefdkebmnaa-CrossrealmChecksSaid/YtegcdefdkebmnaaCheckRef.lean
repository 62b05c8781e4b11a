/- Contract of the reference's Check. -/
import Derived.Test.YtegcdefdkebmnaaCheck
namespace Go.Proofs.Ytegcdefdkebmnaa
open Go.RowKit
attribute [local go_sem ↓] Go.wp_at_zero Go.wp_at_succ

theorem wiB_lo {n lo hi : Int} (h : n < lo) : wiB n lo hi = false := by simp [wiB]; omega
theorem wiB_hi {n lo hi : Int} (h : hi < n) : wiB n lo hi = false := by simp [wiB]; omega
theorem wiB_mk {n lo hi : Int} (h : ¬ n < lo) (g : ¬ hi < n) : wiB n lo hi = true := by simp [wiB]; omega

set_option maxRecDepth 100000 in
set_option maxHeartbeats 2000000 in
theorem refCheck_any (z f : Int) (a : Option Addr) (len cap : Nat) (ms : List Mk) (w : World) (hr : FRow w a len 5 (mcells ms)) (hok : ∀ m ∈ ms, m.ok) (hcap : len ≤ cap) (hcm : cap ≤ 9223372036854775807) :
    Calls Try.prog 14 #[.agg #[.int .i64 z, .int .i64 f, .slice a len cap]] w fun e w' => e = .returned (.int .i64 (checkErr z f ms)) ∧ Below w.heap.size w w' := by
  have HL : Hid (ms.length = len) := Lib.hid (by have := hr.1; rw [mcells_len] at this; omega)
  have HB0 := Lib.hid (Below.alloc1 w (.cells #[.int .i64 z, .int .i64 f, .slice a len cap] 24))
  have HR := Lib.hid (hr.below HB0.out)
  have HOK := Lib.hid hok
  clear hr hok
  by_cases p1 : z < 1
  · have HF : Hid (checkErr z f ms = 104) := Lib.hid (by simp [checkErr, wiB_lo p1])
    have p1' : decide (z < 1) = true := by simpa using p1
    go_enter Try.func14, Try.ntmps14
    go_wp2
    go_ret
    exact ⟨ret_int HF.out.symm, HB0.out⟩
  have p1' : decide (z < 1) = false := by simpa using p1
  by_cases p2 : 40 < z
  · have HF : Hid (checkErr z f ms = 104) := Lib.hid (by simp [checkErr, wiB_hi p2])
    have p2' : decide (40 < z) = true := by simpa using p2
    go_enter Try.func14, Try.ntmps14
    go_wp2
    go_ret
    exact ⟨ret_int HF.out.symm, HB0.out⟩
  have p2' : decide (40 < z) = false := by simpa using p2
  by_cases p3 : f < 0
  · have HF : Hid (checkErr z f ms = 104) := Lib.hid (by simp [checkErr, wiB_lo p3])
    have p3' : decide (f < 0) = true := by simpa using p3
    go_enter Try.func14, Try.ntmps14
    go_wp2
    go_ret
    exact ⟨ret_int HF.out.symm, HB0.out⟩
  have p3' : decide (f < 0) = false := by simpa using p3
  by_cases p4 : 4294967295 < f
  · have HF : Hid (checkErr z f ms = 104) := Lib.hid (by simp [checkErr, wiB_hi p4])
    have p4' : decide (4294967295 < f) = true := by simpa using p4
    go_enter Try.func14, Try.ntmps14
    go_wp2
    go_ret
    exact ⟨ret_int HF.out.symm, HB0.out⟩
  have p4' : decide (4294967295 < f) = false := by simpa using p4
  have h1 := wiB_mk p1 p2
  have h2 := wiB_mk p3 p4
  by_cases h3 : z < (len : Int)
  · have HF : Hid (checkErr z f ms = 106) := Lib.hid (by simp [checkErr, h1, h2, HL.out, h3])
    have h3' : decide (z < (len : Int)) = true := by simpa using h3
    go_enter Try.func14, Try.ntmps14
    go_wp2
    go_ret
    exact ⟨ret_int HF.out.symm, HB0.out⟩
  have HF : Hid (checkErr z f ms = firstErr (errAt f ms) len) := Lib.hid (by simp [checkErr, h1, h2, HL.out, h3])
  have h3' : decide (z < (len : Int)) = false := by simpa using h3
  go_enter Try.func14, Try.ntmps14
  go_wp2
  clear h1 h2 h3 h3' p1 p2 p3 p4 p1' p2' p3' p4'
  go_loopw [3] (fun i wr => ∃ k : Nat, k ≤ len ∧ i = .int .i64 k ∧ Hid (Below (w.alloc (.cells #[.int .i64 z, .int .i64 f, .slice a len cap] 24)).heap.size (w.alloc (.cells #[.int .i64 z, .int .i64 f, .slice a len cap] 24)) wr ∧ ∀ i, i < k → errAt f ms i = 0)) (fun i _ => len - (intOf i).toNat)
  case atStart => exact ⟨0, Nat.zero_le _, rfl, Lib.hid ⟨Below.refl _ _, fun i hi => by omega⟩⟩
  case round =>
    obtain ⟨k, hk, rfl, H⟩ := hrel
    obtain ⟨o1, _⟩ := cells_one H.out.1
    have n2 : wr.cell? ⟨w.heap.size, 2, none⟩ = some (.slice a len cap) := o1 2
    clear o1
    by_cases hlt : k < len
    · obtain ⟨b, off, x, rfl, hx, c0, c1, c2, c3, c4⟩ := (HR.out.below H.out.1).mark hlt
      have HX := Lib.hid hx
      have HXO := Lib.hid (HOK.out x (List.mem_of_getElem? hx))
      have HE := Lib.hid (errAt_eq (f := f) hx)
      have HFA : Hid (∀ e, markErr f (ms.take k) x = e → e ≠ 0 → checkErr z f ms = e) := Lib.hid (fun e he h0 => by rw [HF.out, firstErr_at hlt H.out.2 (by rw [HE.out, he]; exact h0), HE.out, he])
      have HBX : Hid (Below w.heap.size w (wr.alloc (.cells #[.string x.n, .string x.i, .string x.r, .int .i64 x.t, .int .i64 x.k] 36))) := Lib.hid (bthen (bthen HB0.out H.out.1) (Below.alloc1 _ _))
      have HCS := Lib.hid (fun X => cells_two (w' := X) (C2 := #[.string x.n, .string x.i, .string x.r, .int .i64 x.t, .int .i64 x.k]) (T2 := 36) H.out.1)
      have hz : w.heap.size < wr.heap.size := by have := H.out.1.size; simp at this; omega
      clear hx
      cases g1 : prinB x.n x.i x.r
      · have HM : Hid (markErr f (ms.take k) x = 103) := Lib.hid (by simp [markErr, g1])
        go_wp2_with (go_at_call 43; refine (refValid_p_any _ _ _ _ HXO.out.1 HXO.out.2.1 HXO.out.2.2.1).mono ?_; rintro e y2 ⟨rfl, hb2⟩; have HB2 := Lib.hid hb2; clear hb2)
        go_ret
        exact ⟨ret_int (HFA.out _ HM.out (by decide)).symm, bthen HBX.out HB2.out⟩
      go_wp2_with fail
      refine (refValid_p_any _ _ _ _ HXO.out.1 HXO.out.2.1 HXO.out.2.2.1).mono ?_
      rintro e y2 ⟨rfl, hb2⟩
      obtain ⟨d1, d2, _⟩ := HCS.out y2 hb2
      have e0 : y2.cell? ⟨w.heap.size, 1, none⟩ = some (.int .i64 f) := d1 1
      have e1 : y2.cell? ⟨w.heap.size, 2, none⟩ = some (.slice (some ⟨b, off, none⟩) len cap) := d1 2
      have f0 : y2.cell? ⟨wr.heap.size, 0, none⟩ = some (.string x.n) := d2 0
      have f1 : y2.cell? ⟨wr.heap.size, 1, none⟩ = some (.string x.i) := d2 1
      have f2 : y2.cell? ⟨wr.heap.size, 2, none⟩ = some (.string x.r) := d2 2
      have f3 : y2.cell? ⟨wr.heap.size, 3, none⟩ = some (.int .i64 x.t) := d2 3
      have f4 : y2.cell? ⟨wr.heap.size, 4, none⟩ = some (.int .i64 x.k) := d2 4
      have HB2 := Lib.hid hb2
      clear hb2 d1 d2 c0 c1 c2 c3 c4 n2
      by_cases q1 : x.t < f
      · have HM : Hid (markErr f (ms.take k) x = 104) := Lib.hid (by simp [markErr, g1, wiB_lo q1])
        have q1' : decide (x.t < f) = true := by simpa using q1
        go_wp2
        go_ret
        exact ⟨ret_int (HFA.out _ HM.out (by decide)).symm, bthen HBX.out HB2.out⟩
      have q1' : decide (x.t < f) = false := by simpa using q1
      by_cases q2 : 4294967295 < x.t
      · have HM : Hid (markErr f (ms.take k) x = 104) := Lib.hid (by simp [markErr, g1, wiB_hi q2])
        have q2' : decide (4294967295 < x.t) = true := by simpa using q2
        go_wp2
        go_ret
        exact ⟨ret_int (HFA.out _ HM.out (by decide)).symm, bthen HBX.out HB2.out⟩
      have q2' : decide (4294967295 < x.t) = false := by simpa using q2
      by_cases q3 : x.k < 0
      · have HM : Hid (markErr f (ms.take k) x = 104) := Lib.hid (by simp [markErr, g1, wiB_lo q3])
        have q3' : decide (x.k < 0) = true := by simpa using q3
        go_wp2
        go_ret
        exact ⟨ret_int (HFA.out _ HM.out (by decide)).symm, bthen HBX.out HB2.out⟩
      have q3' : decide (x.k < 0) = false := by simpa using q3
      by_cases q4 : 199 < x.k
      · have HM : Hid (markErr f (ms.take k) x = 104) := Lib.hid (by simp [markErr, g1, wiB_hi q4])
        have q4' : decide (199 < x.k) = true := by simpa using q4
        go_wp2
        go_ret
        exact ⟨ret_int (HFA.out _ HM.out (by decide)).symm, bthen HBX.out HB2.out⟩
      have q4' : decide (199 < x.k) = false := by simpa using q4
      have g2 := wiB_mk q1 q2
      have g3 := wiB_mk q3 q4
      go_upto_region 13 with fail
      clear q1 q2 q3 q4 q1' q2' q3' q4'
      have HS : Hid (∀ X, Below y2.heap.size y2 X → X.cell? ⟨w.heap.size, 2, none⟩ = some (.slice (some ⟨b, off, none⟩) len cap) ∧ X.cell? ⟨wr.heap.size, 0, none⟩ = some (.string x.n) ∧ X.cell? ⟨wr.heap.size, 1, none⟩ = some (.string x.i) ∧ X.cell? ⟨wr.heap.size, 2, none⟩ = some (.string x.r) ∧ X.cell? ⟨wr.heap.size, 3, none⟩ = some (.int .i64 x.t) ∧ X.cell? ⟨wr.heap.size, 4, none⟩ = some (.int .i64 x.k)) := Lib.hid (fun X hX => by
        obtain ⟨d1, d2, _⟩ := HCS.out X (bthen HB2.out hX)
        exact ⟨d1 2, d2 0, d2 1, d2 2, d2 3, d2 4⟩)
      have HQ0 : Hid (Below y2.heap.size y2 y2.drew) := Lib.hid (Below.refl _ _).drew
      have HRT : Hid (FRow y2.drew (some ⟨b, off, none⟩) k 5 (mcells (ms.take k))) := Lib.hid ((((HR.out.below H.out.1).below (Below.alloc1 _ _)).below (bthen HB2.out HQ0.out)).take k hk)
      have hk0 : (0 : Int) ≤ (k : Int) := by omega
      have hk1 : (k : Int) ≤ (cap : Int) := by omega
      have hk2 : k ≤ cap := by omega
      clear e0 e1 f0 f1 f2 f3 f4
      cases g4 : hasB (ms.take k) x
      · have HM : Hid (errAt f ms k = 0) := Lib.hid (by rw [HE.out]; simp [markErr, g1, g2, g3, g4])
        go_region_held3 (fun X => X.cell? ⟨w.heap.size, 2, none⟩ = some (.slice (some ⟨b, off, none⟩) len cap) ∧ X.cell? ⟨wr.heap.size, 0, none⟩ = some (.string x.n) ∧ X.cell? ⟨wr.heap.size, 1, none⟩ = some (.string x.i) ∧ X.cell? ⟨wr.heap.size, 2, none⟩ = some (.string x.r) ∧ X.cell? ⟨wr.heap.size, 3, none⟩ = some (.int .i64 x.t) ∧ X.cell? ⟨wr.heap.size, 4, none⟩ = some (.int .i64 x.k)) (first | exact HS.out _ HQ0.out | exact HS.out _ HQ1.out) (first | (go_simp; go_at_call 22; refine (refHas_any _ _ _ _ _ (ms.take k) x _ HRT.out (by omega)).mono ?_; rintro e y3 ⟨rfl, hb3⟩; have HQ1 := Lib.hid (bthen HQ0.out hb3); clear hb3))
        go_wp2
        go_roundw
        case rel => exact ⟨k + 1, by omega, by go_num, Lib.hid ⟨bthen (bthen (bthen H.out.1 (Below.alloc1 _ _)) HB2.out) HQ1.out, fun i hi => if h : i = k then by rw [h]; exact HM.out else H.out.2 i (by omega)⟩⟩
        case measure => simp [intOf]; omega
      · have HM : Hid (markErr f (ms.take k) x = 107) := Lib.hid (by simp [markErr, g1, g2, g3, g4])
        go_region_held3 (fun X => X.cell? ⟨w.heap.size, 2, none⟩ = some (.slice (some ⟨b, off, none⟩) len cap) ∧ X.cell? ⟨wr.heap.size, 0, none⟩ = some (.string x.n) ∧ X.cell? ⟨wr.heap.size, 1, none⟩ = some (.string x.i) ∧ X.cell? ⟨wr.heap.size, 2, none⟩ = some (.string x.r) ∧ X.cell? ⟨wr.heap.size, 3, none⟩ = some (.int .i64 x.t) ∧ X.cell? ⟨wr.heap.size, 4, none⟩ = some (.int .i64 x.k)) (first | exact HS.out _ HQ0.out | exact HS.out _ HQ1.out) (first | (go_simp; go_at_call 22; refine (refHas_any _ _ _ _ _ (ms.take k) x _ HRT.out (by omega)).mono ?_; rintro e y3 ⟨rfl, hb3⟩; have HQ1 := Lib.hid (bthen HQ0.out hb3); clear hb3))
        go_wp2
        go_ret
        exact ⟨ret_int (HFA.out _ HM.out (by decide)).symm, bthen HBX.out (bthen HB2.out HQ1.out)⟩
    · have HZ := Lib.hid (firstErr_zero (g := errAt f ms) (n := len) (fun i hi => H.out.2 i (by omega)))
      go_wp2
      go_ret
      exact ⟨ret_int (by rw [HF.out, HZ.out]), bthen HB0.out H.out.1⟩
end Go.Proofs.Ytegcdefdkebmnaa
