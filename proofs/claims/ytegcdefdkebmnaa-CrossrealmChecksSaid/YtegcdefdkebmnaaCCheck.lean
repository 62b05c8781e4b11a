/- Contracts of crossrealm.Check and of the reference's Check. -/
import Derived.Test.YtegcdefdkebmnaaCross
import Derived.Test.YtegcdefdkebmnaaQuiet
import Derived.Deep.DeepCutAuto
namespace Go.Proofs.Ytegcdefdkebmnaa
open Go.RowKit

def ckErr (prev : List Ck) (x : Ck) : Int :=
  if realmB x.fr = false then 103 else if realmB x.to = false then 103 else if (x.fr.toList == x.to.toList) = true then 103 else if x.kv < 0 then 104 else if 255 < x.kv then 104 else if valB x.ky = false then 10 else if srB x.fr x.to x.kv prev = true then 107 else 0
def cerrAt (l : List Ck) (i : Nat) : Int := match l[i]? with | some x => ckErr (l.take i) x | none => 0
def crErr (l : List Ck) : Int := if 20 < l.length then 106 else firstErr (cerrAt l) l.length
theorem ck_last {prev : List Ck} {x : Ck} (g1 : realmB x.fr = true) (g2 : realmB x.to = true) (g3 : (x.fr.toList == x.to.toList) = false) (g4 : ¬ x.kv < 0) (g5 : ¬ 255 < x.kv) (g6 : valB x.ky = true) : ckErr prev x = if srB x.fr x.to x.kv prev = true then 107 else 0 := by
  rw [ckErr, if_neg (by rw [g1]; decide), if_neg (by rw [g2]; decide), if_neg (by rw [g3]; decide), if_neg g4, if_neg g5, if_neg (by rw [g6]; decide)]
theorem cerrAt_eq {l : List Ck} {i : Nat} {x : Ck} (h : l[i]? = some x) : cerrAt l i = ckErr (l.take i) x := by rw [cerrAt, h]

set_option maxRecDepth 100000 in
set_option maxHeartbeats 2000000 in
theorem crCheck_any (a : Option Addr) (len cap : Nat) (ms : List Ck) (w : World) (hr : FRow w a len 4 (ccells ms)) (hok : ∀ m ∈ ms, m.ok) (hcap : len ≤ cap) (hcm : cap ≤ 9223372036854775807) :
    Calls Try.prog 27 #[.slice a len cap] w fun e w' => e = .returned (.int .i64 (crErr ms)) ∧ Below w.heap.size w w' := by
  have HR := Lib.hid hr
  have HL := Lib.hid hr.clen
  have HOK := Lib.hid hok
  clear hr hok
  by_cases h20 : (20 : Int) < (len : Int)
  · have h20' : decide ((20 : Int) < (len : Int)) = true := decide_eq_true h20
    have HF : Hid (crErr ms = 106) := Lib.hid (by rw [crErr, HL.out, if_pos (by omega)])
    go_enter Try.func27, Try.ntmps27
    go_wp2
    go_ret
    exact ⟨ret_int HF.out.symm, Below.refl _ _⟩
  have h20' : decide ((20 : Int) < (len : Int)) = false := decide_eq_false h20
  have HF : Hid (crErr ms = firstErr (cerrAt ms) len) := Lib.hid (by rw [crErr, HL.out, if_neg (by omega)])
  go_enter Try.func27, Try.ntmps27
  go_wp2
  clear h20 h20'
  go_loopw [12] (fun i wr => ∃ k : Nat, k ≤ len ∧ i = .int .i64 k ∧ Hid (Below w.heap.size w wr ∧ ∀ i, i < k → cerrAt ms i = 0)) (fun i _ => len - (intOf i).toNat)
  case atStart => exact ⟨0, Nat.zero_le _, rfl, Lib.hid ⟨Below.refl _ _, fun i hi => by omega⟩⟩
  case round =>
    obtain ⟨k, hk, rfl, H⟩ := hrel
    by_cases hlt : k < len
    · obtain ⟨b, off, x, rfl, hx, c0, c1, c2, c3⟩ := (HR.out.below H.out.1).ck hlt
      have HX := Lib.hid hx
      have HXO := Lib.hid (HOK.out x (List.mem_of_getElem? hx))
      have HE := Lib.hid (cerrAt_eq hx)
      have HFA : Hid (∀ e, ckErr (ms.take k) x = e → e ≠ 0 → crErr ms = e) := Lib.hid (fun e he h0 => by rw [HF.out, firstErr_at hlt H.out.2 (by rw [HE.out, he]; exact h0), HE.out, he])
      have HBX : Hid (Below w.heap.size w (wr.alloc (.cells #[.string x.fr, .string x.to, .int .i64 x.kv, .int .u64 x.ky] 54))) := Lib.hid (bthen H.out.1 (Below.alloc1 _ _))
      have tok1 : True := trivial
      have q1 : (0 : Int) ≤ (k : Int) := by omega
      have q2 : (k : Int) < (len : Int) := by omega
      clear hx
      cases g1 : realmB x.fr
      · have HM : Hid (ckErr (ms.take k) x = 103) := Lib.hid (by simp [ckErr, g1])
        go_wp2_with (first | (go_at_call 49; have _t := tok1; refine (validRealm_any x.fr _ HXO.out.1).mono ?_; rintro e w' ⟨rfl, rfl⟩; clear tok1 _t) | (go_at_call 49; refine (validRealm_any x.to _ HXO.out.2.1).mono ?_; rintro e w' ⟨rfl, rfl⟩) | (go_at_call 50; refine (valid_any _ _ HXO.out.2.2.2.1 HXO.out.2.2.2.2).mono ?_; rintro e w' ⟨rfl, rfl⟩))
        go_ret
        exact ⟨ret_int (HFA.out _ HM.out (by decide)).symm, HBX.out⟩
      cases g2 : realmB x.to
      · have HM : Hid (ckErr (ms.take k) x = 103) := Lib.hid (by simp [ckErr, g1, g2])
        go_wp2_with (first | (go_at_call 49; have _t := tok1; refine (validRealm_any x.fr _ HXO.out.1).mono ?_; rintro e w' ⟨rfl, rfl⟩; clear tok1 _t) | (go_at_call 49; refine (validRealm_any x.to _ HXO.out.2.1).mono ?_; rintro e w' ⟨rfl, rfl⟩) | (go_at_call 50; refine (valid_any _ _ HXO.out.2.2.2.1 HXO.out.2.2.2.2).mono ?_; rintro e w' ⟨rfl, rfl⟩))
        go_ret
        exact ⟨ret_int (HFA.out _ HM.out (by decide)).symm, HBX.out⟩
      cases g3 : (x.fr.toList == x.to.toList)
      rotate_left 1
      · have HM : Hid (ckErr (ms.take k) x = 103) := Lib.hid (by simp [ckErr, g1, g2, g3])
        go_wp2_with (first | (go_at_call 49; have _t := tok1; refine (validRealm_any x.fr _ HXO.out.1).mono ?_; rintro e w' ⟨rfl, rfl⟩; clear tok1 _t) | (go_at_call 49; refine (validRealm_any x.to _ HXO.out.2.1).mono ?_; rintro e w' ⟨rfl, rfl⟩) | (go_at_call 50; refine (valid_any _ _ HXO.out.2.2.2.1 HXO.out.2.2.2.2).mono ?_; rintro e w' ⟨rfl, rfl⟩))
        go_ret
        exact ⟨ret_int (HFA.out _ HM.out (by decide)).symm, HBX.out⟩
      by_cases g4 : x.kv < 0
      · have HM : Hid (ckErr (ms.take k) x = 104) := Lib.hid (by simp [ckErr, g1, g2, g3, g4])
        go_wp2_with (first | (go_at_call 49; have _t := tok1; refine (validRealm_any x.fr _ HXO.out.1).mono ?_; rintro e w' ⟨rfl, rfl⟩; clear tok1 _t) | (go_at_call 49; refine (validRealm_any x.to _ HXO.out.2.1).mono ?_; rintro e w' ⟨rfl, rfl⟩) | (go_at_call 50; refine (valid_any _ _ HXO.out.2.2.2.1 HXO.out.2.2.2.2).mono ?_; rintro e w' ⟨rfl, rfl⟩))
        go_ret
        exact ⟨ret_int (HFA.out _ HM.out (by decide)).symm, HBX.out⟩
      by_cases g5 : 255 < x.kv
      · have HM : Hid (ckErr (ms.take k) x = 104) := Lib.hid (by simp [ckErr, g1, g2, g3, g4, g5])
        go_wp2_with (first | (go_at_call 49; have _t := tok1; refine (validRealm_any x.fr _ HXO.out.1).mono ?_; rintro e w' ⟨rfl, rfl⟩; clear tok1 _t) | (go_at_call 49; refine (validRealm_any x.to _ HXO.out.2.1).mono ?_; rintro e w' ⟨rfl, rfl⟩) | (go_at_call 50; refine (valid_any _ _ HXO.out.2.2.2.1 HXO.out.2.2.2.2).mono ?_; rintro e w' ⟨rfl, rfl⟩))
        go_ret
        exact ⟨ret_int (HFA.out _ HM.out (by decide)).symm, HBX.out⟩
      cases g6 : valB x.ky
      · have HM : Hid (ckErr (ms.take k) x = 10) := Lib.hid (by simp [ckErr, g1, g2, g3, g4, g5, g6])
        go_wp2_with (first | (go_at_call 49; have _t := tok1; refine (validRealm_any x.fr _ HXO.out.1).mono ?_; rintro e w' ⟨rfl, rfl⟩; clear tok1 _t) | (go_at_call 49; refine (validRealm_any x.to _ HXO.out.2.1).mono ?_; rintro e w' ⟨rfl, rfl⟩) | (go_at_call 50; refine (valid_any _ _ HXO.out.2.2.2.1 HXO.out.2.2.2.2).mono ?_; rintro e w' ⟨rfl, rfl⟩))
        go_ret
        exact ⟨ret_int (HFA.out _ HM.out (by decide)).symm, HBX.out⟩
      go_upto_region 12 with (first | (go_at_call 49; have _t := tok1; refine (validRealm_any x.fr _ HXO.out.1).mono ?_; rintro e w' ⟨rfl, rfl⟩; clear tok1 _t) | (go_at_call 49; refine (validRealm_any x.to _ HXO.out.2.1).mono ?_; rintro e w' ⟨rfl, rfl⟩) | (go_at_call 50; refine (valid_any _ _ HXO.out.2.2.2.1 HXO.out.2.2.2.2).mono ?_; rintro e w' ⟨rfl, rfl⟩))
      have HQ : Hid (Below (wr.alloc (.cells #[.string x.fr, .string x.to, .int .i64 x.kv, .int .u64 x.ky] 54)).heap.size (wr.alloc (.cells #[.string x.fr, .string x.to, .int .i64 x.kv, .int .u64 x.ky] 54)) ((wr.alloc (.cells #[.string x.fr, .string x.to, .int .i64 x.kv, .int .u64 x.ky] 54)))) := Lib.hid (Below.refl _ _)
      have HRW : Hid (FRow ((wr.alloc (.cells #[.string x.fr, .string x.to, .int .i64 x.kv, .int .u64 x.ky] 54))) (some ⟨b, off, none⟩) k 4 (ccells (ms.take k))) := Lib.hid ((((HR.out.below H.out.1).below (Below.alloc1 _ _)).below HQ.out).ctake k hk)
      have HSR : Hid (∀ y : BX ((wr.alloc (.cells #[.string x.fr, .string x.to, .int .i64 x.kv, .int .u64 x.ky] 54))), Calls Try.prog 51 #[.slice (some ⟨b, off, none⟩) k cap, .string x.fr, .string x.to, .int .i64 x.kv] y.X fun e w' => e = .returned (.tuple #[.int .i64 (srI x.fr x.to x.kv (ms.take k)), .bool (srB x.fr x.to x.kv (ms.take k))]) ∧ Below y.X.heap.size y.X w') := Lib.hid (fun y => search_any _ _ _ (ms.take k) _ _ _ _ (HRW.out.below y.h) (by omega))
      obtain ⟨e, _⟩ := cells_one HQ.out
      have e0 := BX.cell (e 0)
      have e1 := BX.cell (e 1)
      have e2 := BX.cell (e 2)
      have hk1 : (k : Int) ≤ (cap : Int) := by omega
      have hk2 : k ≤ cap := by omega
      simp at e0 e1 e2
      clear e c0 c1 c2 c3
      refine wp_region_below (by kernel_rfl) (by kernel_rfl) ?_
      repeat (go_big_quiet_step ((go_at_call 51; exact Calls.below_of (HSR.out _))))
      refine wpQuiet_nil ?_
      rintro _ ⟨xq, rfl⟩
      have HQ2 : Hid (Below w.heap.size w xq.X) := Lib.hid (bthen (bthen HBX.out HQ.out) xq.h)
      clear HSR e0 e1 e2
      cases g7 : srB x.fr x.to x.kv (ms.take k)
      · have HM : Hid (cerrAt ms k = 0) := Lib.hid (by rw [HE.out, ck_last g1 g2 g3 (by omega) (by omega) g6, g7]; rfl)
        go_wp2
        go_roundw
        case rel => exact ⟨k + 1, by omega, by go_num, Lib.hid ⟨HQ2.out, fun i hi => if h : i = k then by rw [h]; exact HM.out else H.out.2 i (by omega)⟩⟩
        case measure => simp [intOf]; omega
      · have HM : Hid (ckErr (ms.take k) x = 107) := Lib.hid (by rw [ck_last g1 g2 g3 (by omega) (by omega) g6, g7]; rfl)
        go_wp2
        go_ret
        exact ⟨ret_int (HFA.out _ HM.out (by decide)).symm, HQ2.out⟩
    · have HZ := Lib.hid (firstErr_zero (g := cerrAt ms) (n := len) (fun i hi => H.out.2 i (by omega)))
      go_wp2
      go_ret
      exact ⟨ret_int (by rw [HF.out, HZ.out]), H.out.1⟩

set_option maxRecDepth 100000 in
set_option maxHeartbeats 2000000 in
theorem refCrCheck_any (a : Option Addr) (len cap : Nat) (ms : List Ck) (w : World) (hr : FRow w a len 4 (ccells ms)) (hok : ∀ m ∈ ms, m.ok) (hcap : len ≤ cap) (hcm : cap ≤ 9223372036854775807) :
    Calls Try.prog 28 #[.slice a len cap] w fun e w' => e = .returned (.int .i64 (crErr ms)) ∧ Below w.heap.size w w' := by
  have HR := Lib.hid hr
  have HL := Lib.hid hr.clen
  have HOK := Lib.hid hok
  clear hr hok
  by_cases h20 : (20 : Int) < (len : Int)
  · have h20' : decide ((20 : Int) < (len : Int)) = true := decide_eq_true h20
    have HF : Hid (crErr ms = 106) := Lib.hid (by rw [crErr, HL.out, if_pos (by omega)])
    go_enter Try.func28, Try.ntmps28
    go_wp2
    go_ret
    exact ⟨ret_int HF.out.symm, Below.refl _ _⟩
  have h20' : decide ((20 : Int) < (len : Int)) = false := decide_eq_false h20
  have HF : Hid (crErr ms = firstErr (cerrAt ms) len) := Lib.hid (by rw [crErr, HL.out, if_neg (by omega)])
  go_enter Try.func28, Try.ntmps28
  go_wp2
  clear h20 h20'
  go_loopw [3] (fun i wr => ∃ k : Nat, k ≤ len ∧ i = .int .i64 k ∧ Hid (Below w.heap.size w wr ∧ ∀ i, i < k → cerrAt ms i = 0)) (fun i _ => len - (intOf i).toNat)
  case atStart => exact ⟨0, Nat.zero_le _, rfl, Lib.hid ⟨Below.refl _ _, fun i hi => by omega⟩⟩
  case round =>
    obtain ⟨k, hk, rfl, H⟩ := hrel
    by_cases hlt : k < len
    · obtain ⟨b, off, x, rfl, hx, c0, c1, c2, c3⟩ := (HR.out.below H.out.1).ck hlt
      have HX := Lib.hid hx
      have HXO := Lib.hid (HOK.out x (List.mem_of_getElem? hx))
      have HE := Lib.hid (cerrAt_eq hx)
      have HFA : Hid (∀ e, ckErr (ms.take k) x = e → e ≠ 0 → crErr ms = e) := Lib.hid (fun e he h0 => by rw [HF.out, firstErr_at hlt H.out.2 (by rw [HE.out, he]; exact h0), HE.out, he])
      have HBX : Hid (Below w.heap.size w (wr.alloc (.cells #[.string x.fr, .string x.to, .int .i64 x.kv, .int .u64 x.ky] 54))) := Lib.hid (bthen H.out.1 (Below.alloc1 _ _))
      have tok1 : True := trivial
      have q1 : (0 : Int) ≤ (k : Int) := by omega
      have q2 : (k : Int) < (len : Int) := by omega
      clear hx
      cases g1 : realmB x.fr
      · have HM : Hid (ckErr (ms.take k) x = 103) := Lib.hid (by simp [ckErr, g1])
        go_wp2_with (first | (go_at_call 52; have _t := tok1; refine (refRealm_any x.fr _ HXO.out.1).mono ?_; rintro e w' ⟨rfl, m1, rfl⟩; clear tok1 _t) | (go_at_call 52; refine (refRealm_any x.to _ HXO.out.2.1).mono ?_; rintro e w' ⟨rfl, m2, rfl⟩) | (go_at_call 53; refine (refValid_any x.ky _ HXO.out.2.2.2.1 HXO.out.2.2.2.2).mono ?_; rintro e w' ⟨rfl, rfl⟩))
        go_ret
        exact ⟨ret_int (HFA.out _ HM.out (by decide)).symm, bthen HBX.out (Below.drewN1 _ _ _)⟩
      cases g2 : realmB x.to
      · have HM : Hid (ckErr (ms.take k) x = 103) := Lib.hid (by simp [ckErr, g1, g2])
        go_wp2_with (first | (go_at_call 52; have _t := tok1; refine (refRealm_any x.fr _ HXO.out.1).mono ?_; rintro e w' ⟨rfl, m1, rfl⟩; clear tok1 _t) | (go_at_call 52; refine (refRealm_any x.to _ HXO.out.2.1).mono ?_; rintro e w' ⟨rfl, m2, rfl⟩) | (go_at_call 53; refine (refValid_any x.ky _ HXO.out.2.2.2.1 HXO.out.2.2.2.2).mono ?_; rintro e w' ⟨rfl, rfl⟩))
        go_ret
        exact ⟨ret_int (HFA.out _ HM.out (by decide)).symm, bthen HBX.out (Below.drewN1 _ _ _)⟩
      cases g3 : (x.fr.toList == x.to.toList)
      rotate_left 1
      · have HM : Hid (ckErr (ms.take k) x = 103) := Lib.hid (by simp [ckErr, g1, g2, g3])
        go_wp2_with (first | (go_at_call 52; have _t := tok1; refine (refRealm_any x.fr _ HXO.out.1).mono ?_; rintro e w' ⟨rfl, m1, rfl⟩; clear tok1 _t) | (go_at_call 52; refine (refRealm_any x.to _ HXO.out.2.1).mono ?_; rintro e w' ⟨rfl, m2, rfl⟩) | (go_at_call 53; refine (refValid_any x.ky _ HXO.out.2.2.2.1 HXO.out.2.2.2.2).mono ?_; rintro e w' ⟨rfl, rfl⟩))
        go_ret
        exact ⟨ret_int (HFA.out _ HM.out (by decide)).symm, bthen HBX.out (Below.drewN1 _ _ _)⟩
      by_cases g4 : x.kv < 0
      · have HM : Hid (ckErr (ms.take k) x = 104) := Lib.hid (by simp [ckErr, g1, g2, g3, g4])
        go_wp2_with (first | (go_at_call 52; have _t := tok1; refine (refRealm_any x.fr _ HXO.out.1).mono ?_; rintro e w' ⟨rfl, m1, rfl⟩; clear tok1 _t) | (go_at_call 52; refine (refRealm_any x.to _ HXO.out.2.1).mono ?_; rintro e w' ⟨rfl, m2, rfl⟩) | (go_at_call 53; refine (refValid_any x.ky _ HXO.out.2.2.2.1 HXO.out.2.2.2.2).mono ?_; rintro e w' ⟨rfl, rfl⟩))
        go_ret
        exact ⟨ret_int (HFA.out _ HM.out (by decide)).symm, bthen HBX.out (Below.drewN1 _ _ _)⟩
      by_cases g5 : 255 < x.kv
      · have HM : Hid (ckErr (ms.take k) x = 104) := Lib.hid (by simp [ckErr, g1, g2, g3, g4, g5])
        go_wp2_with (first | (go_at_call 52; have _t := tok1; refine (refRealm_any x.fr _ HXO.out.1).mono ?_; rintro e w' ⟨rfl, m1, rfl⟩; clear tok1 _t) | (go_at_call 52; refine (refRealm_any x.to _ HXO.out.2.1).mono ?_; rintro e w' ⟨rfl, m2, rfl⟩) | (go_at_call 53; refine (refValid_any x.ky _ HXO.out.2.2.2.1 HXO.out.2.2.2.2).mono ?_; rintro e w' ⟨rfl, rfl⟩))
        go_ret
        exact ⟨ret_int (HFA.out _ HM.out (by decide)).symm, bthen HBX.out (Below.drewN1 _ _ _)⟩
      cases g6 : valB x.ky
      · have HM : Hid (ckErr (ms.take k) x = 10) := Lib.hid (by simp [ckErr, g1, g2, g3, g4, g5, g6])
        go_wp2_with (first | (go_at_call 52; have _t := tok1; refine (refRealm_any x.fr _ HXO.out.1).mono ?_; rintro e w' ⟨rfl, m1, rfl⟩; clear tok1 _t) | (go_at_call 52; refine (refRealm_any x.to _ HXO.out.2.1).mono ?_; rintro e w' ⟨rfl, m2, rfl⟩) | (go_at_call 53; refine (refValid_any x.ky _ HXO.out.2.2.2.1 HXO.out.2.2.2.2).mono ?_; rintro e w' ⟨rfl, rfl⟩))
        go_ret
        exact ⟨ret_int (HFA.out _ HM.out (by decide)).symm, bthen HBX.out (Below.drewN1 _ _ _)⟩
      go_upto_region 13 with (first | (go_at_call 52; have _t := tok1; refine (refRealm_any x.fr _ HXO.out.1).mono ?_; rintro e w' ⟨rfl, m1, rfl⟩; clear tok1 _t) | (go_at_call 52; refine (refRealm_any x.to _ HXO.out.2.1).mono ?_; rintro e w' ⟨rfl, m2, rfl⟩) | (go_at_call 53; refine (refValid_any x.ky _ HXO.out.2.2.2.1 HXO.out.2.2.2.2).mono ?_; rintro e w' ⟨rfl, rfl⟩))
      have HQ : Hid (Below (wr.alloc (.cells #[.string x.fr, .string x.to, .int .i64 x.kv, .int .u64 x.ky] 54)).heap.size (wr.alloc (.cells #[.string x.fr, .string x.to, .int .i64 x.kv, .int .u64 x.ky] 54)) ((wr.alloc (.cells #[.string x.fr, .string x.to, .int .i64 x.kv, .int .u64 x.ky] 54)).drewN (m1 + m2))) := Lib.hid (Below.drewN1 _ _ _)
      have HRW : Hid (FRow ((wr.alloc (.cells #[.string x.fr, .string x.to, .int .i64 x.kv, .int .u64 x.ky] 54)).drewN (m1 + m2)) (some ⟨b, off, none⟩) k 4 (ccells (ms.take k))) := Lib.hid ((((HR.out.below H.out.1).below (Below.alloc1 _ _)).below HQ.out).ctake k hk)
      have HSR : Hid (∀ y : BX ((wr.alloc (.cells #[.string x.fr, .string x.to, .int .i64 x.kv, .int .u64 x.ky] 54)).drewN (m1 + m2)), Calls Try.prog 37 #[.slice (some ⟨b, off, none⟩) k cap, .string x.fr, .string x.to, .int .i64 x.kv] y.X fun e w' => e = .returned (.tuple #[.int .u64 (srK x.fr x.to x.kv (ms.take k)), .bool (srB x.fr x.to x.kv (ms.take k))]) ∧ y.X = w') := Lib.hid (fun y => refKey_any _ _ _ (ms.take k) _ _ _ _ (HRW.out.below y.h) (by omega))
      obtain ⟨e, _⟩ := cells_one HQ.out
      have e0 := BX.cell (e 0)
      have e1 := BX.cell (e 1)
      have e2 := BX.cell (e 2)
      have hk1 : (k : Int) ≤ (cap : Int) := by omega
      have hk2 : k ≤ cap := by omega
      simp at e0 e1 e2
      clear e c0 c1 c2 c3
      refine wp_region_below (by kernel_rfl) (by kernel_rfl) ?_
      repeat (go_big_quiet_step ((go_at_call 37; exact Calls.below_eq (HSR.out _))))
      refine wpQuiet_nil ?_
      rintro _ ⟨xq, rfl⟩
      have HQ2 : Hid (Below w.heap.size w xq.X) := Lib.hid (bthen (bthen HBX.out HQ.out) xq.h)
      clear HSR e0 e1 e2
      cases g7 : srB x.fr x.to x.kv (ms.take k)
      · have HM : Hid (cerrAt ms k = 0) := Lib.hid (by rw [HE.out, ck_last g1 g2 g3 (by omega) (by omega) g6, g7]; rfl)
        go_wp2
        go_roundw
        case rel => exact ⟨k + 1, by omega, by go_num, Lib.hid ⟨HQ2.out, fun i hi => if h : i = k then by rw [h]; exact HM.out else H.out.2 i (by omega)⟩⟩
        case measure => simp [intOf]; omega
      · have HM : Hid (ckErr (ms.take k) x = 107) := Lib.hid (by rw [ck_last g1 g2 g3 (by omega) (by omega) g6, g7]; rfl)
        go_wp2
        go_ret
        exact ⟨ret_int (HFA.out _ HM.out (by decide)).symm, HQ2.out⟩
    · have HZ := Lib.hid (firstErr_zero (g := cerrAt ms) (n := len) (fun i hi => H.out.2 i (by omega)))
      go_wp2
      go_ret
      exact ⟨ret_int (by rw [HF.out, HZ.out]), H.out.1⟩
end Go.Proofs.Ytegcdefdkebmnaa
