/- Contracts of New (program and reference), Same, long. -/
import Derived.Test.YtegcdefdkebmnaaAddRf
namespace Go.Proofs.Ytegcdefdkebmnaa
open Go.RowKit
attribute [local go_sem ↓] Go.wp_at_zero Go.wp_at_succ

def newErr (n : Int) : Int := if wiB n 1 40 then 0 else 104
def newZ (n : Int) : Int := if wiB n 1 40 then n else 0
set_option maxHeartbeats 400000 in
theorem new_any (n : Int) (w : World) :
    Calls Try.prog 16 #[.int .i64 n] w fun e w' => e = .returned (.tuple #[.agg #[.int .i64 (newZ n), .int .i64 0, .slice none 0 0], .int .i64 (newErr n)]) ∧ Below w.heap.size w w' := by
  cases h : wiB n 1 40
  · have HF : Hid (newZ n = 0 ∧ newErr n = 104) := Lib.hid ⟨by simp [newZ, h], by simp [newErr, h]⟩
    go_enter Try.func16, Try.ntmps16
    go_wp2_with (go_at_call 40; refine (within_any _ _ _ _).mono ?_; rintro e w' ⟨rfl, rfl⟩)
    exact bodyPost_ret (v := .tuple #[.agg #[.int .i64 0, .int .i64 0, .slice none 0 0], .int .i64 104]) (by simp [results, Try.results16, go_sem]) rfl ⟨by rw [HF.out.1, HF.out.2], Below.alloc1 _ _⟩
  · have HF : Hid (newZ n = n ∧ newErr n = 0) := Lib.hid ⟨by simp [newZ, h], by simp [newErr, h]⟩
    go_enter Try.func16, Try.ntmps16
    go_wp2_with (go_at_call 40; refine (within_any _ _ _ _).mono ?_; rintro e w' ⟨rfl, rfl⟩)
    exact bodyPost_ret (v := .tuple #[.agg #[.int .i64 n, .int .i64 0, .slice none 0 0], .int .i64 0]) (by simp [results, Try.results16, go_sem]) rfl ⟨by rw [HF.out.1, HF.out.2], Below.alloc1 _ _⟩
set_option maxHeartbeats 400000 in
theorem refNew_any (n : Int) (w : World) :
    Calls Try.prog 17 #[.int .i64 n] w fun e w' => e = .returned (.tuple #[.agg #[.int .i64 (newZ n), .int .i64 0, .slice none 0 0], .int .i64 (newErr n)]) ∧ Below w.heap.size w w' := by
  by_cases h1 : n < 1
  · have HF : Hid (newZ n = 0 ∧ newErr n = 104) := Lib.hid ⟨by simp [newZ, wiB_lo h1], by simp [newErr, wiB_lo h1]⟩
    have h1' : decide (n < 1) = true := by simpa using h1
    go_enter Try.func17, Try.ntmps17
    go_wp2
    exact bodyPost_ret (v := .tuple #[.agg #[.int .i64 0, .int .i64 0, .slice none 0 0], .int .i64 104]) (by simp [results, Try.results17, go_sem]) rfl ⟨by rw [HF.out.1, HF.out.2], Below.alloc1 _ _⟩
  have h1' : decide (n < 1) = false := by simpa using h1
  by_cases h2 : 40 < n
  · have HF : Hid (newZ n = 0 ∧ newErr n = 104) := Lib.hid ⟨by simp [newZ, wiB_hi h2], by simp [newErr, wiB_hi h2]⟩
    have h2' : decide (40 < n) = true := by simpa using h2
    go_enter Try.func17, Try.ntmps17
    go_wp2
    exact bodyPost_ret (v := .tuple #[.agg #[.int .i64 0, .int .i64 0, .slice none 0 0], .int .i64 104]) (by simp [results, Try.results17, go_sem]) rfl ⟨by rw [HF.out.1, HF.out.2], Below.alloc1 _ _⟩
  have h2' : decide (40 < n) = false := by simpa using h2
  have HF : Hid (newZ n = n ∧ newErr n = 0) := Lib.hid ⟨by simp [newZ, wiB_mk h1 h2], by simp [newErr, wiB_mk h1 h2]⟩
  go_enter Try.func17, Try.ntmps17
  go_wp2
  exact bodyPost_ret (v := .tuple #[.agg #[.int .i64 n, .int .i64 0, .slice none 0 0], .int .i64 0]) (by simp [results, Try.results17, go_sem]) rfl ⟨by rw [HF.out.1, HF.out.2], Below.alloc1 _ _⟩

set_option maxRecDepth 100000 in
set_option maxHeartbeats 2000000 in
theorem same_any (z f : Int) (a1 : Option Addr) (cap1 : Nat) (a2 : Option Addr) (cap2 : Nat) (len : Nat) (ms : List Mk) (w : World) (hr1 : FRow w a1 len 5 (mcells ms)) (hr2 : FRow w a2 len 5 (mcells ms)) (hl : len ≤ 1000000) :
    Calls Try.prog 18 #[.agg #[.int .i64 z, .int .i64 f, .slice a1 len cap1], .agg #[.int .i64 z, .int .i64 f, .slice a2 len cap2]] w fun e w' => e = .returned (.bool true) ∧ Below w.heap.size w w' := by
  have HB : Hid (Below w.heap.size w ((w.alloc (.cells #[.int .i64 z, .int .i64 f, .slice a1 len cap1] 24)).alloc (.cells #[.int .i64 z, .int .i64 f, .slice a2 len cap2] 24))) := Lib.hid (bthen (Below.alloc1 _ _) (Below.alloc1 _ _))
  have HR1 := Lib.hid (hr1.below HB.out)
  have HR2 := Lib.hid (hr2.below HB.out)
  clear hr1 hr2
  go_enter Try.func18, Try.ntmps18
  go_wp2
  go_loopw [5] (fun i wr => ∃ k n : Nat, k ≤ len ∧ i = .int .i64 k ∧ wr = ((w.alloc (.cells #[.int .i64 z, .int .i64 f, .slice a1 len cap1] 24)).alloc (.cells #[.int .i64 z, .int .i64 f, .slice a2 len cap2] 24)).drewN n) (fun i _ => len - (intOf i).toNat)
  case atStart => exact ⟨0, 0, Nat.zero_le _, rfl, rfl⟩
  case round =>
    obtain ⟨k, n, hk, rfl, rfl⟩ := hrel
    by_cases hlt : k < len
    · obtain ⟨b1, off1, x, rfl, hx, c0, c1, c2, c3, c4⟩ := HR1.out.mark hlt
      obtain ⟨b2, off2, x2, rfl, hx2, d0, d1, d2, d3, d4⟩ := HR2.out.mark hlt
      obtain rfl : x = x2 := by rw [hx] at hx2; injection hx2
      have hq := fun W => neq_mark x x W
      simp only [decide_true, Bool.not_true] at hq
      have q1 : (0 : Int) ≤ (k : Int) := by omega
      have q2 : (k : Int) < (len : Int) := by omega
      clear hx hx2
      go_wp2
      go_quiet (fail)
      go_wp2
      go_roundw
      case rel => exact ⟨k + 1, _, by omega, by go_num, rfl⟩
      case measure => simp [intOf]; omega
    · go_wp2
      go_ret
      exact ⟨rfl, bthen HB.out (Below.drewN1 _ _ _)⟩

def LongPost (len : Nat) (w : World) (e : Ending) (w' : World) : Prop := ∃ b, e = .returned (.bool b) ∧ (b = false → len ≤ 50) ∧ Below w.heap.size w w'
set_option maxRecDepth 100000 in
set_option maxHeartbeats 2000000 in
theorem long16_any (z f : Int) (a : Option Addr) (len cap : Nat) (ms : List Mk) (w : World) (hr : FRow w a len 5 (mcells ms)) (hok : ∀ m ∈ ms, m.ok) (hl : len ≤ 9223372036854775807) :
    Calls Try.prog 11 #[.agg #[.int .i64 z, .int .i64 f, .slice a len cap]] w (LongPost len w) := by
  have HB := Lib.hid (Below.alloc1 w (.cells #[.int .i64 z, .int .i64 f, .slice a len cap] 24))
  have HR := Lib.hid (hr.below HB.out)
  have HOK := Lib.hid hok
  clear hr hok
  by_cases h1 : 50 < len
  · have h1' : decide (50 < len) = true := by simpa using h1
    go_enter Try.func11, Try.ntmps11
    go_wp2
    go_ret
    exact ⟨true, rfl, (fun h => by cases h), HB.out⟩
  have h1' : decide (50 < len) = false := by simpa using h1
  go_enter Try.func11, Try.ntmps11
  go_wp2
  go_loop [3] (fun i => ∃ k : Nat, k ≤ len ∧ i = .int .i64 k) (fun i => len - (intOf i).toNat)
  case atStart => exact ⟨0, Nat.zero_le _, rfl⟩
  case round =>
    obtain ⟨k, hk, rfl⟩ := hrel
    by_cases hlt : k < len
    · obtain ⟨b, off, x, rfl, hx, c0, c1, c2, c3, c4⟩ := HR.out.mark hlt
      have hxo := HOK.out x (List.mem_of_getElem? hx)
      obtain ⟨o1, o2, o3, _⟩ := hxo
      unfold maxLen at o1 o2 o3
      clear hx
      go_wp2
      all_goals first | (go_ret; exact ⟨true, rfl, (fun h => by cases h), HB.out⟩) | (go_round; (case rel => exact ⟨k + 1, by omega, by go_num⟩); (case measure => simp [intOf]; omega))
    · go_wp2
      go_ret
      exact ⟨false, rfl, fun _ => by omega, HB.out⟩
end Go.Proofs.Ytegcdefdkebmnaa
