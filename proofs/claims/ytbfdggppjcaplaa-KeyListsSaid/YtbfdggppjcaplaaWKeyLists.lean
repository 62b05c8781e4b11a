/- The walk of KeyLists. -/
import Derived.Test.YtbfdggppjcaplaaAwake3
import Derived.Test.YtbfdggppjcaplaaKAdd
namespace Go.Proofs.Ytbfdggppjcaplaa
open Go.RowKit
namespace KeyLists
set_option linter.unusedVariables false

set_option maxHeartbeats 1000000 in
theorem sameK_any (a b : Option Addr) (len cap cap2 : Nat) (zs : List Int) (w : World) (hr : Row .u64 w a len zs) (hr2 : Row .u64 w b len zs) :
    Calls Try.prog 45 #[.slice a len cap, .slice b len cap2] w fun e w' => e = .returned (.bool true) ∧ Below w.heap.size w w' := by
  have HR := Lib.hid hr
  have HR2 := Lib.hid hr2
  have hml := hr.2.1
  unfold maxLen at hml
  clear hr hr2
  go_enter Try.func45, Try.ntmps45
  go_wp2
  go_loopw [5] (fun i wr => ∃ k : Nat, k ≤ len ∧ i = .int .i64 k ∧ Hid (Below w.heap.size w wr)) (fun i _ => len - (RowKit.intOf i).toNat)
  case atStart => exact ⟨0, Nat.zero_le _, rfl, Lib.hid (Below.refl _ _)⟩
  case round =>
    obtain ⟨k, hk, rfl, HB⟩ := hrel
    by_cases hlt : k < len
    · obtain ⟨b1, off1, rfl, c1⟩ := (HR.out.below HB.out).at hlt
      obtain ⟨b2, off2, rfl, c2⟩ := (HR2.out.below HB.out).at hlt
      generalize zs[k]?.getD 0 = x at *
      have q1 : (0 : Int) ≤ (k : Int) := by omega
      have q2 : (k : Int) < (len : Int) := by omega
      go_wp2
      go_quiet (fail)
      go_wp2
      go_roundw
      case rel => exact ⟨k + 1, by omega, by go_num, Lib.hid (bthen HB.out (Below.drewN1 _ _ _))⟩
      case measure => simp [RowKit.intOf]; omega
    · go_wp2
      go_ret
      exact ⟨rfl, HB.out⟩

set_option maxRecDepth 100000 in
set_option maxHeartbeats 8000000 in
theorem walk0 (a0 : Option Addr) (len0 cap0 : Nat) (z0 : List Int) (a1 : Option Addr) (len1 cap1 : Nat) (z1 : List Int) (k n : Int) (w : World) (w0 : IsRow .u8 w a0 len0 cap0 z0) (w1 : IsRow .u64 w a1 len1 cap1 z1) (w2 : (Lit.int .u64 k).wf = true) (w3 : (Lit.int .u8 n).wf = true) :
    Calls Try.prog 12 #[.slice a0 len0 cap0, .slice a1 len1 cap1, .int .u64 k, .int .u8 n] w fun e w' => e = .returned (.bool true) ∧ Below w.heap.size w w' := by
  have u3 := bounds_u8 w3
  have R0 := Lib.hid w0.row
  have R1 := Lib.hid w1.row
  have HBZ : Hid (∀ n ∈ z0.take len0, 0 ≤ n ∧ n ≤ 255) := Lib.hid (fun n hn => bounds_u8 (w0.wf n hn))
  have hl1 : len1 ≤ 9223372036854775807 := by have := R1.out.2.1; unfold maxLen at this; omega
  clear w0 w1 w2 w3
  generalize z0.take len0 = zl at *
  generalize z1.take len1 = zr at *
  go_enter Try.func12, Try.ntmps12
  go_wp2_with fail
  refine (awake3_any _).mono ?_
  rintro e wa ⟨rfl, hba⟩
  have HBA := Lib.hid hba
  clear hba
  by_cases hb0 : (60 : Int) < (len1 : Int)
  · have hb0' : decide ((60 : Int) < (len1 : Int)) = true := decide_eq_true hb0
    go_wp2
    go_ret
    exact ⟨rfl, HBA.out⟩
  have hb0' : decide ((60 : Int) < (len1 : Int)) = false := decide_eq_false hb0
  go_wp2_with fail
  refine (list_any a0 len0 cap0 zl _ (R0.out.below HBA.out) HBZ.out).mono ?_
  rintro e wb ⟨v, rfl, hown, hbb⟩
  have HASC := Lib.hid (listOf_asc (zl.take 60))
  have HLN : Hid ((listOf (zl.take 60)).length ≤ 60) := Lib.hid (by have := listOf_len _ (zl.take 60) rfl; simp at this; omega)
  generalize listOf (zl.take 60) = A at *
  obtain ⟨aa, ac, rfl, hc1, hc2, hrow, hnil⟩ := own_slice hown (by unfold maxLen; have := HLN.out; omega)
  have HRA := Lib.hid hrow
  have HNI := Lib.hid hnil
  have HCM := Lib.hid hc2
  have HB1 := Lib.hid (bthen HBA.out hbb)
  have R1b := Lib.hid (R1.out.below HB1.out)
  clear hown hbb hrow hnil hc2 HBA R0 R1 HBZ
  obtain ⟨N, hN⟩ : ∃ N, A.length = N := ⟨_, rfl⟩
  have HN := Lib.hid hN
  have hN60 : N ≤ 60 := by have := HLN.out; omega
  rw [hN] at HRA hc1 ⊢
  clear hN HLN
  have m1 : n % 2 < 2 := by omega
  have m2 : 0 ≤ n % 2 := by omega
  have m3 : 0 ≤ n / 2 := by omega
  have m4 : n / 2 ≤ 127 := by omega
  go_wp2_with fail
  refine (refMake_any _ _ _).mono ?_
  rintro e wb' ⟨rfl, rfl⟩
  generalize mkKey (1 + n % 2) (1 + n / 2) = x at *
  go_wp2_with fail
  refine (keyHas_any k a1 len1 cap1 zr _ R1b.out).mono ?_
  rintro e wb' ⟨rfl, rfl⟩
  go_wp2_with fail
  refine (refHas_any k a1 len1 cap1 zr _ R1b.out).mono ?_
  rintro e wb' ⟨rfl, rfl⟩
  generalize decide (k ∈ zr) = b1 at *
  have n1 : (b1 != b1) = false := by simp
  go_wp2_with fail
  refine (keyHas_any x aa N ac A _ HRA.out).mono ?_
  rintro e wb' ⟨rfl, rfl⟩
  go_wp2_with fail
  refine (refHas_any x aa N ac A _ HRA.out).mono ?_
  rintro e wb' ⟨rfl, rfl⟩
  generalize decide (x ∈ A) = b2 at *
  have n2 : (b2 != b2) = false := by simp
  go_wp2_with fail
  refine (keyAdd_any x aa N ac A _ HRA.out (fun h => by rcases HNI.out with ⟨_, h1⟩ | ⟨b, off, h1⟩; exact h1; rw [h] at h1; cases h1) (by omega)).mono ?_
  rintro e wc ⟨g, bc, rfl, hbrow, hbc, hbl1, hbl2⟩
  rw [comp_add HASC.out] at hbrow hbl1 ⊢
  have HBR := Lib.hid hbrow
  have HRA2 := Lib.hid (HRA.out.below hbc)
  have HB2 := Lib.hid (bthen HB1.out hbc)
  clear hbrow hbc HRA HB1
  go_wp2_with fail
  refine (refAdd_any x aa N ac A _ HRA2.out hc1 HCM.out (by omega) HNI.out).mono ?_
  rintro e wd ⟨v, rfl, hown, hbd⟩
  have HXM : Hid (decide (x ∈ addTo A x) = true) := Lib.hid (decide_eq_true (addTo_mem.2 (.inl rfl)))
  have HAA := Lib.hid (addTo_asc (k := x) HASC.out)
  have hL62 : (addTo A x).length ≤ 61 := by have := addTo_len A x; have := HN.out; omega
  generalize addTo A x = B at *
  obtain ⟨ba, bcap, rfl, hd1, hd2, hrow2, _⟩ := own_slice hown (by unfold maxLen; omega)
  have HR2 := Lib.hid hrow2
  have HBR2 := Lib.hid (HBR.out.below hbd)
  have HB3 := Lib.hid (bthen HB2.out hbd)
  clear hown hbd hrow2 HBR HRA2 HB2 hd2
  obtain ⟨L, hL⟩ : ∃ L, B.length = L := ⟨_, rfl⟩
  rw [hL] at HR2 HBR2 hL62 hbl1 hd1 ⊢
  have HLL := Lib.hid hL
  clear hL
  go_wp2_with fail
  refine (sameK_any _ _ L _ _ B _ HBR2.out HR2.out).mono ?_
  rintro e we ⟨rfl, hbe⟩
  have HBR3 := Lib.hid (HBR2.out.below hbe)
  have HB4 := Lib.hid (bthen HB3.out hbe)
  clear hbe HBR2 HR2 HB3
  go_wp2_with fail
  refine (keyHas_any x _ L _ B _ HBR3.out).mono ?_
  rintro e we' ⟨rfl, rfl⟩
  rw [HXM.out]
  go_wp2
  go_loopw [12] (fun i wr => ∃ j : Nat, i = .int .i64 j ∧ 1 ≤ j ∧ j ≤ L + 1 ∧ Hid (Below we.heap.size we wr)) (fun i _ => L + 1 - (RowKit.intOf i).toNat)
  case atStart => exact ⟨1, rfl, by omega, by omega, Lib.hid (Below.refl _ _)⟩
  case round =>
    obtain ⟨j, rfl, hj1, hj2, HJ⟩ := hrel
    by_cases hlt : j < L
    · have hlt' : decide ((j : Int) < (L : Int)) = true := by simp; omega
      obtain ⟨q, rfl⟩ : ∃ q, j = q + 1 := ⟨j - 1, by omega⟩
      obtain ⟨b', off', e', c1⟩ := (HBR3.out.below HJ.out).at hlt
      obtain ⟨b2', off2', e2', c2⟩ := (HBR3.out.below HJ.out).at (show q < L by omega)
      have hb' : b' = g ∧ off' = 0 := by injection e' with e'; injection e' with h1 h2; exact ⟨h1.symm, h2.symm⟩
      have hb2' : b2' = g ∧ off2' = 0 := by injection e2' with e'; injection e' with h1 h2; exact ⟨h1.symm, h2.symm⟩
      obtain ⟨rfl, rfl⟩ := hb'
      obtain ⟨rfl, rfl⟩ := hb2'
      have hless := asc_at' HAA.out (i := q) (by rw [HLL.out]; exact hlt)
      generalize B[q]?.getD 0 = u at *
      generalize B[q + 1]?.getD 0 = t at *
      rw [Nat.zero_add] at c1 c2
      have g2 : IntKind.i64.wrap (((q + 1 : Nat) : Int) - 1) = (q : Int) := by rw [IntWalk.i64_in _ (by omega)]; omega
      have g3 : (q : Int) < (L : Int) := by omega
      have g4 : (0 : Int) ≤ (q : Int) := by omega
      have g5 : ((q + 1 : Nat) : Int) < (L : Int) := by omega
      have g6 : decide (t ≤ u) = false := by simp; omega
      have g7 : decide (u ≥ t) = false := by simp; omega
      clear e' e2'
      go_wp2
      go_quiet (fail)
      go_wp2
      go_roundw
      case rel => exact ⟨q + 1 + 1, by go_num, by omega, by omega, Lib.hid (bthen HJ.out (Below.drewN1 _ _ _))⟩
      case measure => simp [RowKit.intOf]; omega
    · have hlt' : decide ((j : Int) < (L : Int)) = false := by simp; omega
      go_wp2
      go_ret
      exact ⟨rfl, bthen HB4.out HJ.out⟩
end KeyLists
end Go.Proofs.Ytbfdggppjcaplaa
