/- The walk of BoxMakes. -/
import Derived.Test.YtbfdggppjcaplaaAwake4
import Derived.Test.YtbfdggppjcaplaaBoxRef
namespace Go.Proofs.Ytbfdggppjcaplaa
open Go.RowKit Go.ChangeShapes
namespace BoxMakes
set_option linter.unusedVariables false

theorem two_i (w : World) (T : TypeId) (x y : Int) (j : Nat) (hj : j < 2) : (w.alloc (.cells #[.int .i64 x, .int .i64 y] T)).cell? ⟨w.heap.size, j, none⟩ = some (.int .i64 (if j = 0 then x else y)) := by
  rcases (by omega : j = 0 ∨ j = 1) with rfl | rfl <;> simp
theorem two_k (w : World) (T : TypeId) (x y : Int) (j : Nat) (hj : j < 2) : (w.alloc (.cells #[.int .u64 x, .int .u64 y] T)).cell? ⟨w.heap.size, j, none⟩ = some (.int .u64 (if j = 0 then x else y)) := by
  rcases (by omega : j = 0 ∨ j = 1) with rfl | rfl <;> simp
theorem str_at {w : World} {a : Option Addr} {n cap : Nat} {zs : List Int} (h : Row .u8 w a n zs) :
    (convert 32 9 (.slice a n cap)).run Try.prog w = .ok (.string (strOfNums zs)) w :=
  run_str Try.underlying32 Try.underlying5 Try.underlying9 h
theorem makeOut_len (kind k : Int) (b : List Int) : (makeOut kind k b).length ≤ 12 + b.length := by
  unfold makeOut
  split
  · simp [boxOf, bytesOf]; omega
  · simp

set_option maxRecDepth 100000 in
set_option maxHeartbeats 4000000 in
theorem walk0 (a0 : Int) (a1 : Int) (a2 : Option Addr) (len2 cap2 : Nat) (z2 : List Int) (a3 : Int) (a4 : Int) (a5 : Int) (w : World) (w0 : (Lit.int .i64 a0).wf = true) (w1 : (Lit.int .u64 a1).wf = true) (w2 : IsRow .u8 w a2 len2 cap2 z2) (w3 : (Lit.int .u8 a3).wf = true) (w4 : (Lit.int .u8 a4).wf = true) (w5 : (Lit.int .u16 a5).wf = true) :
    Calls Try.prog 7 #[.int .i64 a0, .int .u64 a1, .slice a2 len2 cap2, .int .u8 a3, .int .u8 a4, .int .u16 a5] w fun e w' => e = .returned (.bool true) ∧ Below w.heap.size w w' := by
  have u1 := bounds_u64' w1
  have u3 := bounds_u8 w3
  have u4 := bounds_u8 w4
  have u5 := bounds_u16 w5
  have R2 := Lib.hid w2.row
  have HBZ : Hid (∀ n ∈ z2.take len2, 0 ≤ n ∧ n ≤ 255) := Lib.hid (fun n hn => bounds_u8 (w2.wf n hn))
  have HN2 : Hid (a2 = none → len2 = 0 ∧ cap2 = 0) := Lib.hid (fun h => by
    rcases w2 with ⟨_, h1, h2, _⟩ | ⟨x, h1, _⟩
    · exact ⟨h1, h2⟩
    · rw [h] at h1; cases h1)
  have hl2 : len2 ≤ 9223372036854775807 := by have := R2.out.2.1; unfold maxLen at this; omega
  clear w0 w1 w2 w3 w4 w5
  generalize z2.take len2 = zb at *
  by_cases hb : 900 < len2
  · have hb' : decide (900 < len2) = true := by simpa using hb
    go_enter Try.func7, Try.ntmps7
    go_wp2_with (go_at_call 29; refine (awake4_any _).mono ?_; rintro e wa ⟨rfl, hba⟩; have HBA := Lib.hid hba; clear hba)
    go_ret
    exact ⟨rfl, HBA.out⟩
  have hb' : decide (900 < len2) = false := by simpa using hb
  have lv := longOf_val (n := a4) (by omega) (by omega)
  have hlv := lv.2
  clear lv
  go_enter Try.func7, Try.ntmps7
  go_wp2_with (go_at_call 29; refine (awake4_any _).mono ?_; rintro e wa ⟨rfl, hba⟩; have HBA := Lib.hid hba; clear hba)
  refine (body_any _ _ _ zb _ _ (R2.out.below HBA.out) HBZ.out (by omega) HN2.out u5.1 u5.2).mono ?_
  rintro e wb ⟨v, zs, rfl, hown, hbz, hlz⟩
  obtain ⟨la, lcap, hv, hc1, hc2, hrow, hform⟩ := own_slice hown.1 (by unfold maxLen; omega)
  have HROW := Lib.hid hrow
  have HB0 := Lib.hid (bthen HBA.out hown.2)
  have HNN : Hid (la = none → zs.length = 0 ∧ lcap = 0) := Lib.hid (fun h => by
    rcases hform with ⟨_, h2⟩ | ⟨b, off, h2⟩
    · subst h2; exact ⟨by omega, rfl⟩
    · rw [h] at h2; cases h2)
  rw [hv]
  clear hv hrow hform hown hbz HBA hc1 hc2
  obtain ⟨nz, hnz⟩ : ∃ n, n = zs.length := ⟨_, rfl⟩
  rw [← hnz] at hlz HROW HNN ⊢
  have HNZ := Lib.hid hnz
  clear hnz
  go_wp2
  go_loopw [14] (fun i wr => ∃ k : Nat, k ≤ 4 ∧ i = .int .i64 k ∧ Hid (Below w.heap.size w wr ∧ Row .u8 wr la nz zs)) (fun i _ => 4 - (intOf i).toNat)
  case atStart => exact ⟨0, by omega, rfl, Lib.hid ⟨HB0.out, HROW.out⟩⟩
  case round =>
    clear HB0 HROW
    obtain ⟨k, hk, rfl, HI⟩ := hrel
    by_cases hlt : k < 4
    · obtain ⟨m, hcm⟩ : ∃ m, ∀ T, (wr.alloc (.cells #[.int .i64 a0, .int .i64 (a3 % 12)] T)).cell? ⟨wr.heap.size, k % 2, none⟩ = some (.int .i64 m) := ⟨_, fun T => two_i wr T _ _ (k % 2) (by omega)⟩
      go_wp2_with fail
      refine (long_any _ _ (by omega) (by omega)).mono ?_
      rintro e w' ⟨rfl, rfl⟩
      obtain ⟨x, hx, hcx⟩ : ∃ x, (0 ≤ x ∧ x ≤ 18446744073709551615) ∧ ∀ T, ((wr.alloc (.cells #[.int .i64 a0, .int .i64 (a3 % 12)] 3)).alloc (.cells #[.int .u64 a1, .int .u64 (longOf a4)] T)).cell? ⟨wr.heap.size + 1, k / 2, none⟩ = some (.int .u64 x) :=
        ⟨if k / 2 = 0 then a1 else longOf a4, by split <;> assumption, fun T => by have := two_k (wr.alloc (.cells #[.int .i64 a0, .int .i64 (a3 % 12)] 3)) T a1 (longOf a4) (k / 2) (by omega); simpa using this⟩
      have HBX : Hid (Below wr.heap.size wr ((wr.alloc (.cells #[.int .i64 a0, .int .i64 (a3 % 12)] 3)).alloc (.cells #[.int .u64 a1, .int .u64 (longOf a4)] 24))) := Lib.hid ((Below.alloc1 _ _).alloc (by simp) _)
      go_wp2_with fail
      refine (boxMake_any _ _ _ _ _ zs _ (HI.out.2.below HBX.out) hx.1 hx.2 HNN.out).mono ?_
      rintro e wc ⟨v1, rfl, hown1⟩
      obtain ⟨ya, ycap, hy, _, _, hyrow, _⟩ := own_slice hown1.1 (by have := makeOut_len m x zs; have := HNZ.out; unfold maxLen; omega)
      have HY := Lib.hid hyrow
      have HBC := Lib.hid (bthen HBX.out hown1.2)
      rw [hy]
      clear hy hyrow hown1 hcm hcx HBX
      obtain ⟨er, HER⟩ : ∃ er, Hid (makeErr m x zs.length = er) := ⟨_, rfl⟩
      rw [HER.out]
      go_wp2_with fail
      refine (refBoxMake_any _ _ _ _ _ zs _ (HI.out.2.below HBC.out) hx.1 hx.2 HNN.out).mono ?_
      rintro e wd ⟨v2, rfl, hown2⟩
      obtain ⟨za, zcap, hz, _, _, hzrow, _⟩ := own_slice hown2.1 (by have := makeOut_len m x zs; have := HNZ.out; unfold maxLen; omega)
      have HBD := Lib.hid (bthen HBC.out hown2.2)
      have hcv1 := str_at (cap := ycap) (HY.out.below hown2.2)
      have hcv2 := str_at (cap := zcap) hzrow
      rw [hz, HER.out]
      clear hz hzrow hown2
      generalize (makeOut m x zs).length = nl at *
      generalize makeOut m x zs = out at *
      go_wp2
      go_roundw
      case rel => exact ⟨k + 1, by omega, by go_num, Lib.hid ⟨bthen HI.out.1 HBD.out, HI.out.2.below HBD.out⟩⟩
      case measure => simp [intOf]; omega
    · go_wp2
      go_ret
      exact ⟨rfl, HI.out.1⟩
end BoxMakes
end Go.Proofs.Ytbfdggppjcaplaa
