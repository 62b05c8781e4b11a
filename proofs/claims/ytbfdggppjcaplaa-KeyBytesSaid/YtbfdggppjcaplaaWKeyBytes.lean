/- The walk of KeyBytes. -/
import Derived.Test.YtbfdggppjcaplaaAwake3
import Derived.Test.YtbfdggppjcaplaaBytesRef
import Derived.Test.YtbfdggppjcaplaaStr
import Derived.Deep.RegionWith
import Derived.Deep.DeepCutAuto
namespace Go.Proofs.Ytbfdggppjcaplaa
open Go.RowKit Go.ChangeShapes
namespace KeyBytes
set_option linter.unusedVariables false

theorem two_at (w : World) (T : TypeId) (x y : Int) (j : Nat) (hj : j < 2) : (w.alloc (.cells #[.int .u64 x, .int .u64 y] T)).cell? ⟨w.heap.size, j, none⟩ = some (.int .u64 (if j = 0 then x else y)) := by
  rcases (by omega : j = 0 ∨ j = 1) with rfl | rfl <;> simp

def At (k : Int) (w : World) (e : Ending) (w' : World) : Prop :=
  ∃ g cap, e = .returned (.slice (some ⟨g, 0, none⟩) 8 cap) ∧ 8 ≤ cap ∧ cap ≤ 9223372036854775807 ∧ Row .u8 w' (some ⟨g, 0, none⟩) 8 (bytesOf k) ∧ Below w.heap.size w w'
theorem at_of {k : Int} {w : World} {e : Ending} {w' : World} (h : BytesPost k w e w') : At k w e w' := by
  obtain ⟨v, rfl, hown⟩ := h
  obtain ⟨g, cap, rfl, h1, h2, h3, h4⟩ := own_form hown (by simp [bytesOf]) (by simp [bytesOf, maxLen])
  exact ⟨g, cap, rfl, h1, by unfold maxLen at h2; omega, h4, hown.2⟩
theorem str_at {w : World} {a : Option Addr} {cap : Nat} {zs : List Int} (h : Row .u8 w a 8 zs) :
    (convert 32 9 (.slice a 8 cap)).run Try.prog w = .ok (.string (strOfNums zs)) w :=
  run_str Try.underlying32 Try.underlying5 Try.underlying9 h

set_option maxRecDepth 100000 in
set_option maxHeartbeats 4000000 in
theorem walk0 (a0 : Int) (a1 : Option Addr) (len1 cap1 : Nat) (z1 : List Int) (x2 : Bool) (a3 : Int) (a4 : Int) (w : World) (w0 : (Lit.int .u64 a0).wf = true) (w1 : IsRow .u8 w a1 len1 cap1 z1) (w3 : (Lit.int .u32 a3).wf = true) (w4 : (Lit.int .u8 a4).wf = true) :
    Calls Try.prog 6 #[.int .u64 a0, .slice a1 len1 cap1, .bool x2, .int .u32 a3, .int .u8 a4] w fun e w' => e = .returned (.bool true) ∧ Below w.heap.size w w' := by
  have u0 := bounds_u64' w0
  have u3 := bounds_u32 w3
  have u4 := bounds_u8 w4
  have R1 := Lib.hid w1.row
  have hbz : ∀ n ∈ z1.take len1, 0 ≤ n ∧ n ≤ 255 := fun n hn => bounds_u8 (w1.wf n hn)
  have HBZ := Lib.hid hbz
  have hl1 : len1 ≤ 9223372036854775807 := by have := R1.out.2.1; unfold maxLen at this; omega
  clear w0 w1 w3 w4 hbz
  obtain ⟨c4, rfl⟩ := Int.eq_ofNat_of_zero_le u4.1
  generalize z1.take len1 = z at *
  by_cases hb1 : 40 < len1
  · have hb1' : decide (40 < len1) = true := by simpa using hb1
    go_enter Try.func6, Try.ntmps6
    go_wp2_with (go_at_call 13; refine (awake3_any _).mono ?_; rintro e wa ⟨rfl, hba⟩; have HBA := Lib.hid hba; clear hba)
    go_ret
    exact ⟨rfl, HBA.out⟩
  have hb1' : decide (40 < len1) = false := by simpa using hb1
  cases x2
  case' false =>
    go_enter Try.func6, Try.ntmps6
    go_wp2_with (first | (go_at_call 13; refine (awake3_any _).mono ?_; rintro e wa ⟨rfl, hba⟩; have HBA := Lib.hid hba; clear hba) | (go_at_call 15; refine (refMake_any _ _ _).mono ?_; rintro e w' ⟨rfl, rfl⟩))
    have hxb := mkKey_bd 1 a3
    generalize mkKey 1 a3 = x at hxb ⊢
  case' true =>
    go_enter Try.func6, Try.ntmps6
    go_wp2_with (first | (go_at_call 13; refine (awake3_any _).mono ?_; rintro e wa ⟨rfl, hba⟩; have HBA := Lib.hid hba; clear hba) | (go_at_call 15; refine (refMake_any _ _ _).mono ?_; rintro e w' ⟨rfl, rfl⟩))
    have hxb := mkKey_bd 2 a3
    generalize mkKey 2 a3 = x at hxb ⊢
  all_goals
    go_loopw [13] (fun i wr => ∃ k : Nat, k ≤ 2 ∧ i = .int .i64 k ∧ Hid (Below w.heap.size w wr)) (fun i _ => 2 - (intOf i).toNat)
    case atStart => exact ⟨0, by omega, rfl, HBA⟩
    case round =>
      clear HBA
      obtain ⟨k, hk, rfl, HB⟩ := hrel
      obtain ⟨wo, rfl⟩ : ∃ wo : World, wo = wr := ⟨_, rfl⟩
      by_cases hlt : k < 2
      · obtain ⟨y, Hy, hy0, hcell⟩ : ∃ y, True ∧ (0 ≤ y ∧ y ≤ 18446744073709551615) ∧ ∀ T, (wo.alloc (.cells #[.int .u64 a0, .int .u64 x] T)).cell? ⟨wo.heap.size, k, none⟩ = some (.int .u64 y) :=
          ⟨_, trivial, by split <;> assumption, fun T => two_at wo T _ _ k hlt⟩
        go_wp2_with fail
        refine ((bytes_any _ _ hy0.1 hy0.2).mono fun _ _ => at_of).mono ?_
        rintro e wc ⟨g, cap, rfl, hc1, hc2, hrow, hbc⟩
        have HBC := Lib.hid (HB.out.trans ((bthen (Below.alloc1 _ _) hbc).mono HB.out.size))
        have HROW : Hid (Row .u8 wc.drew (some ⟨g, 0, none⟩) 8 (bytesOf y)) := Lib.hid (hrow.below (Below.drewN1 wc 1 _))
        have hcv := str_at (cap := cap) HROW.out
        clear hbc hrow hcell
        go_upto_region 14 with fail
        go_cut [49] (fun v wx => v = .bool false ∧ Hid (Below w.heap.size w wx ∧ Row .u8 wx (some ⟨g, 0, none⟩) 8 (bytesOf y)))
        case first =>
          go_region_with (go_at_call 26; refine ((refBytes_any _ _ hy0.1 hy0.2).mono fun _ _ => at_of).mono ?_; rintro e wd ⟨g2, cap2, rfl, hd1, hd2, hrow2, hbd⟩; have hcv2 := str_at (cap := cap2) hrow2; have hcv3 := str_at (cap := cap) (HROW.out.below hbd); have HD := Lib.hid hbd; clear hbd hrow2)
          all_goals (go_wp2_with fail; go_meet; exact ⟨rfl, Lib.hid ⟨(HBC.out.trans (Below.drewN1 wc 1 _)).trans (HD.out.mono HBC.out.size), HROW.out.below HD.out⟩⟩)
        case rest =>
          obtain ⟨rfl, HC⟩ := hcut
          clear hcv HROW HBC
          have hk1 := Lib.hid (readKey_bytesOf y)
          have hk2 := Lib.hid (readOk_bytesOf y)
          have hbb := Lib.hid (bytesOf_bd y hy0.1 hy0.2)
          have hl8 := Lib.hid (show (bytesOf y).length = 8 by simp [bytesOf])
          cases hv : valB y
          case' false =>
            have HE : Hid (readKey (bytesOf y) = 0 ∧ readOk (bytesOf y) = false) := Lib.hid ⟨by rw [hk1.out, hv]; rfl, by rw [hk2.out, hv]⟩
          case' true =>
            have HE : Hid (readKey (bytesOf y) = y ∧ readOk (bytesOf y) = true) := Lib.hid ⟨by rw [hk1.out, hv]; rfl, by rw [hk2.out, hv]⟩
          all_goals
            by_cases hc8 : c4 < 8
            · have hrf := Lib.hid (show readOk ((bytesOf y).take c4) = false by
                unfold readOk; rw [List.length_take, hl8.out]; simp; omega)
              have hcb2 : ((c4 : Int) != 8) = true := by simp; omega
              have hcb3 : decide ((c4 : Int) < 8) = true := by simp; omega
              go_wp2_with fail
              refine (read_any _ _ _ _ _ HC.out.2 hbb.out).mono ?_
              rintro e w' ⟨rfl, rfl⟩
              rw [HE.out.1, HE.out.2]
              go_wp2_with (go_at_call 19; refine (refValid_any _ _ hy0.1 hy0.2).mono ?_; rintro e w' ⟨rfl, rfl⟩)
              refine (read_any _ _ _ _ _ (HC.out.2.take c4 (by omega)) (fun x hx => hbb.out x (List.mem_of_mem_take hx))).mono ?_
              rintro e w' ⟨rfl, rfl⟩
              rw [hrf.out]
              go_wp2
              go_roundw
              case rel => exact ⟨k + 1, by omega, by go_num, Lib.hid HC.out.1⟩
              case measure => simp [intOf]; omega
            · by_cases hc88 : c4 = 8
              · have hcb : ((c4 : Int) == 8) = true := by simp; omega
                have hcb2 : ((c4 : Int) != 8) = false := by simp; omega
                clear hc88
                go_wp2_with fail
                refine (read_any _ _ _ _ _ HC.out.2 hbb.out).mono ?_
                rintro e w' ⟨rfl, rfl⟩
                rw [HE.out.1, HE.out.2]
                go_wp2_with (go_at_call 19; refine (refValid_any _ _ hy0.1 hy0.2).mono ?_; rintro e w' ⟨rfl, rfl⟩)
                go_roundw
                case rel => exact ⟨k + 1, by omega, by go_num, Lib.hid HC.out.1⟩
                case measure => simp [intOf]; omega
              · have hcb : ((c4 : Int) == 8) = false := by simp; omega
                have hcb2 : ((c4 : Int) != 8) = true := by simp; omega
                have hcb3 : decide ((c4 : Int) < 8) = false := by simp; omega
                clear hc88
                go_wp2_with fail
                refine (read_any _ _ _ _ _ HC.out.2 hbb.out).mono ?_
                rintro e w' ⟨rfl, rfl⟩
                rw [HE.out.1, HE.out.2]
                go_wp2_with (go_at_call 19; refine (refValid_any _ _ hy0.1 hy0.2).mono ?_; rintro e w' ⟨rfl, rfl⟩)
                go_roundw
                case rel => exact ⟨k + 1, by omega, by go_num, Lib.hid HC.out.1⟩
                case measure => simp [intOf]; omega
      · go_wp2_with (first | (go_at_call 27; refine (read_any _ _ _ z _ (R1.out.below HB.out) HBZ.out).mono ?_; rintro e w' ⟨rfl, rfl⟩) | (go_at_call 28; refine (refRead_any _ _ _ z _ (R1.out.below HB.out) HBZ.out).mono ?_; rintro e w' ⟨rfl, rfl⟩))
        go_ret
        exact ⟨rfl, HB.out⟩
end KeyBytes
end Go.Proofs.Ytbfdggppjcaplaa
