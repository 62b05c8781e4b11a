/- The walk of CrossrealmFinds. -/
import Derived.Test.YtegcdefdkebmnaaFdLaw
import Derived.Test.YtegcdefdkebmnaaAwake14
import Derived.Test.YtegcdefdkebmnaaPeersRef
import Derived.Test.YtegcdefdkebmnaaCSame
import Derived.Test.YtegcdefdkebmnaaOpen14
namespace Go.Proofs.Ytegcdefdkebmnaa
open Go.RowKit Go.Sort
set_option linter.unusedVariables false

def CkAt (X : World) (a : Option Addr) (len : Nat) (ms : List Ck) : Prop := FRow X a len 4 (ccells ms) ∧ (∀ m ∈ ms, m.ok) ∧ len ≤ 40
theorem CkAt.below {X Y : World} {a : Option Addr} {len : Nat} {ms : List Ck} (h : CkAt X a len ms) (hb : Below X.heap.size X Y) : CkAt Y a len ms := ⟨h.1.below hb, h.2⟩

set_option maxRecDepth 100000 in
set_option maxHeartbeats 16000000 in
theorem wCrossrealmFinds (ar : Option Addr) (lr cr : Nat) (raw : List Ck) (al : Option Addr) (len cap : Nat) (zs : List Int) (s1 s2 : ByteArray) (kv xa xb xc : Int) (w : World) (hraw : CkRow w ar lr cr raw) (hr : Row .u8 w al len zs) (hz : ∀ m ∈ zs, (Lit.int .u8 m).wf = true)
    (h1 : s1.size ≤ maxLen) (h2 : s2.size ≤ maxLen) (hkv : -9223372036854775808 ≤ kv ∧ kv ≤ 9223372036854775807) (ha : 0 ≤ xa ∧ xa ≤ 255) (hb : 0 ≤ xb ∧ xb ≤ 255) (hc : 0 ≤ xc ∧ xc ≤ 255) :
    Calls Try.prog 9 #[.slice ar lr cr, .slice al len cap, .string s1, .string s2, .int .i64 kv, .int .u8 xa, .int .u8 xb, .int .u8 xc] w fun e w' => e = .returned (.bool true) ∧ Below w.heap.size w w' := by
  have HRAW := Lib.hid hraw
  have HRR := Lib.hid hr
  have HZ := Lib.hid hz
  have hml := hr.2.1
  unfold maxLen at hml h1 h2
  have hlr : lr ≤ 9223372036854775807 := by have := hraw.2.2; omega
  clear hr hz hraw
  go_enter Try.func9, Try.ntmps9
  go_wp2_with fail
  refine (awake14_any _).mono ?_
  rintro e w0 ⟨rfl, hb0⟩
  have HB0 := Lib.hid hb0
  clear hb0
  go_wp2_with fail
  refine (clong_any ar lr cr raw w0 (HRAW.out.1.below HB0.out) HRAW.out.2.1 hlr).mono ?_
  rintro e w0' ⟨r, rfl, hrf, rfl⟩
  cases r
  rotate_left 1
  · clear hrf
    go_wp2
    go_ret
    exact ⟨rfl, HB0.out⟩
  have HRF := Lib.hid (hrf rfl)
  clear hrf
  by_cases e1 : (100 : Int) < (s1.size : Int)
  · have e1' : decide ((100 : Int) < (s1.size : Int)) = true := decide_eq_true e1
    go_wp2
    go_ret
    exact ⟨rfl, HB0.out⟩
  have e1' : decide ((100 : Int) < (s1.size : Int)) = false := decide_eq_false e1
  by_cases e2 : (100 : Int) < (s2.size : Int)
  · have e2' : decide ((100 : Int) < (s2.size : Int)) = true := decide_eq_true e2
    go_wp2
    go_ret
    exact ⟨rfl, HB0.out⟩
  have e2' : decide ((100 : Int) < (s2.size : Int)) = false := decide_eq_false e2
  by_cases h120 : (120 : Int) < (len : Int)
  · have h120' : decide ((120 : Int) < (len : Int)) = true := decide_eq_true h120
    go_wp2
    go_ret
    exact ⟨rfl, HB0.out⟩
  have h120' : decide ((120 : Int) < (len : Int)) = false := decide_eq_false h120
  go_wp2
  go_loopw [17] (fun i wr => ∃ k : Nat, i = .int .i64 k ∧ k ≤ 4 ∧ Hid (Below w.heap.size w wr)) (fun i _ => 4 - (intOf i).toNat)
  case atStart => exact ⟨0, rfl, by omega, HB0⟩
  case round =>
    obtain ⟨k, rfl, hk, HK⟩ := hrel
    clear HB0
    by_cases hlt : k < 4
    · have hlt' : decide ((k : Int) < 4) = true := by simp; omega
      go_upto_region 8 with fail
      go_cut [18] (fun v X => ∃ a n c ms, v = .slice a n c ∧ n ≤ 40 ∧ Hid (CkAt X a n ms ∧ Below wr.heap.size wr X))
      case first =>
        go_wp2_with fail
        refine (cross_any al len cap zs wr (HRR.out.below HK.out) HZ.out).mono ?_
        rintro e w1 ⟨ms, v, rfl, hm25, hgood, hown, hb1, _⟩
        obtain ⟨xa1, xc1, rfl, hv1, hv2⟩ := own_isz hown
        have HA : Hid (Below wr.heap.size wr (w1.alloc (.cells #[.slice ar lr cr, .slice xa1 ms.length xc1] 49))) := Lib.hid (bthen hb1 (Below.alloc1 _ _))
        have HC1 : Hid (CkAt (w1.alloc (.cells #[.slice ar lr cr, .slice xa1 ms.length xc1] 49)) ar lr raw) := Lib.hid ⟨(HRAW.out.1.below HK.out).below HA.out, HRAW.out.2.1, HRF.out.1⟩
        have HC2 : Hid (CkAt (w1.alloc (.cells #[.slice ar lr cr, .slice xa1 ms.length xc1] 49)) xa1 ms.length ms) := Lib.hid ⟨(own_frow hown).below (Below.alloc1 _ _), fun m hm => (hgood m hm).1, by omega⟩
        have hlr40 := HRF.out.1
        generalize ms.length = N at *
        clear hgood hown hb1 hv1 hv2
        have h4 : k = 0 ∨ k = 1 ∨ k = 2 ∨ k = 3 := by omega
        rcases h4 with rfl | rfl | rfl | rfl
        all_goals
          go_wp2
          go_meet
          first
            | exact ⟨_, _, _, _, rfl, hlr40, Lib.hid ⟨HC1.out, HA.out⟩⟩
            | exact ⟨_, _, _, _, rfl, by omega, Lib.hid ⟨HC2.out, HA.out⟩⟩
      case rest =>
        obtain ⟨xs, n, c, ms, rfl, hn40, HM⟩ := hcut
        have HRA : Hid (∀ X, Calls Try.prog 32 #[.int .i64 xa] X fun e w' => e = .returned (.string (realmS xa)) ∧ Below X.heap.size X w') := Lib.hid (fun X => realm_any xa X (by omega) (by omega))
        have HRB : Hid (∀ X, Calls Try.prog 32 #[.int .i64 xb] X fun e w' => e = .returned (.string (realmS xb)) ∧ Below X.heap.size X w') := Lib.hid (fun X => realm_any xb X (by omega) (by omega))
        go_upto_region 9 with fail
        go_cut [19, 20] (fun p q X => ∃ P Q, p = .string P ∧ q = .string Q ∧ Hid (Below wc.heap.size wc X))
        case first =>
          have h2 : (k : Int) / 2 = 0 ∨ (k : Int) / 2 = 1 := by omega
          have wa : IntKind.i64.wrap xa = xa := IntWalk.i64_in _ (by omega)
          have wb : IntKind.i64.wrap xb = xb := IntWalk.i64_in _ (by omega)
          have wk : ((k : Int)).tdiv 2 = (k : Int) / 2 := Int.tdiv_eq_ediv_of_nonneg (by omega)
          generalize realmS xa = ra at *
          generalize realmS xb = rb at *
          have tok1 : True := trivial
          rcases h2 with h2 | h2
          all_goals
            have h2' : IntKind.i64.wrap ((k : Int) / 2) = (k : Int) / 2 := IntWalk.i64_in _ (by omega)
            rw [h2] at wk h2'
            clear h2
            go_region_with (first | (go_at_call 32; have _t := tok1; refine (HRA.out _).mono ?_; rintro e y1 ⟨rfl, hb1⟩; have HY1 : Hid (Below wc.heap.size wc y1) := Lib.hid (bthen (Below.drewN1 _ 1 _) hb1); clear hb1 tok1 _t) | (go_at_call 32; refine (HRB.out _).mono ?_; rintro e y2 ⟨rfl, hb2⟩; have HY2 : Hid (Below wc.heap.size wc y2) := (by first | exact Lib.hid (bthen HY1.out hb2) | exact Lib.hid (bthen (bthen HY1.out (Below.alloc1 _ _)) hb2)); obtain ⟨hc2, _⟩ := bcell hb2; have hz2 := hb2.size; (try simp at hz2); (try have hq2 : y1.heap.size < y2.heap.size := (by omega)); clear hb2))
            all_goals (go_wp2_with fail; go_meet; exact ⟨_, _, rfl, rfl, Lib.hid (by first | exact bthen HY2.out (Below.alloc1 _ _) | exact bthen (bthen HY2.out (Below.alloc1 _ _)) (Below.alloc1 _ _))⟩)
        case rest =>
          obtain ⟨P, Q, rfl, rfl, HPQ⟩ := hcut
          have HMX := Lib.hid (HM.out.1.below HPQ.out)
          have HBX := Lib.hid (bthen (bthen HK.out HM.out.2) HPQ.out)
          obtain ⟨X, HX⟩ : ∃ X, Hid (X = wc) := ⟨_, rfl⟩
          clear HM HPQ HRA HRB
          go_upto_region 10 with fail
          go_cut [21] (fun v Y => ∃ nv : Int, v = .int .i64 nv ∧ Hid (Below wc.heap.size wc Y))
          case first =>
            have h2 : (k : Int) / 2 = 0 ∨ (k : Int) / 2 = 1 := by omega
            have wk : ((k : Int)).tdiv 2 = (k : Int) / 2 := Int.tdiv_eq_ediv_of_nonneg (by omega)
            rcases h2 with h2 | h2
            all_goals
              have h2' : IntKind.i64.wrap ((k : Int) / 2) = (k : Int) / 2 := IntWalk.i64_in _ (by omega)
              rw [h2] at wk h2'
              go_wp2
              go_meet
              exact ⟨_, rfl, Lib.hid (Below.alloc1 _ _)⟩
          case rest =>
            obtain ⟨nv, rfl, HNV⟩ := hcut
            have HM1 := Lib.hid (HMX.out.below HNV.out)
            have HB1 := Lib.hid (bthen HBX.out HNV.out)
            clear HMX HBX HNV HX
            go_wp2_with fail
            refine (find_any xs n c ms P Q _ HM1.out.1 (by omega)).mono ?_
            rintro e y1 ⟨rfl, hb1⟩
            have HM2 := Lib.hid (HM1.out.below hb1)
            have HB2 := Lib.hid (bthen HB1.out hb1)
            clear hb1 HM1 HB1
            go_wp2_with fail
            refine (refFind_any xs n c ms P Q _ HM2.out.1 (by omega)).mono ?_
            rintro e y2 ⟨rfl, hb2⟩
            have HM3 := Lib.hid (HM2.out.below hb2)
            have HB3 := Lib.hid (bthen HB2.out hb2)
            clear hb2 HM2 HB2
            generalize fdI P Q ms = fi at *
            generalize fdB P Q ms = fb at *
            go_wp2_with fail
            refine (crkey_any xs n c ms P Q nv _ HM3.out.1 (by omega)).mono ?_
            rintro e y3 ⟨rfl, hb3⟩
            have HM4 := Lib.hid (HM3.out.below hb3)
            have HB4 := Lib.hid (bthen HB3.out hb3)
            clear hb3 HM3 HB3
            go_wp2_with fail
            refine (refKey_any xs n c ms P Q nv _ HM4.out.1 (by omega)).mono ?_
            rintro e y4 ⟨rfl, rfl⟩
            generalize srK P Q nv ms = ki at *
            generalize srB P Q nv ms = kb at *
            have q1 : (fi != fi) = false := by simp
            have q2 : (fb != fb) = false := by simp
            have q3 : (ki != ki) = false := by simp
            have q4 : (kb != kb) = false := by simp
            go_wp2_with fail
            refine (peers_any xs n c ms P _ HM4.out.1 HM4.out.2.1 (by omega)).mono ?_
            rintro e y5 ⟨v, rfl, hs, hb5⟩
            have HM5 := Lib.hid (HM4.out.below hb5)
            have HB5 := Lib.hid (bthen HB4.out hb5)
            unfold SRow at hs
            obtain ⟨p1, c1, rfl, hp1, hp2⟩ := own_isz hs
            have HS5 := Lib.hid hs
            clear hs hb5 HM4 HB4 hp1 hp2
            go_wp2_with fail
            refine (refPeers_any xs n c ms P _ HM5.out.1 (by omega)).mono ?_
            rintro e y6 ⟨v, rfl, hs, hb6⟩
            have HB6 := Lib.hid (bthen HB5.out hb6)
            unfold SRow at hs
            obtain ⟨p2, c2, rfl, hp1, hp2⟩ := own_isz hs
            have HS6 := Lib.hid hs
            have HS7 := Lib.hid (ownsRow_below HS5.out hb6)
            have hpl : (peersOf P ms).length ≤ n := by have := peers_len P ms; have := HM5.out.1.clen; omega
            clear hs hb6 HS5 HB5 hp1 hp2 HM5
            obtain ⟨L, hL⟩ : ∃ L, (peersOf P ms).length = L := ⟨_, rfl⟩
            rw [hL] at HS6 HS7 hpl ⊢
            clear hL
            generalize peersOf P ms = ps at *
            go_wp2
            go_loopw [32] (fun i wq => ∃ j : Nat, i = .int .i64 j ∧ j ≤ L ∧ Hid (Below y6.heap.size y6 wq)) (fun i _ => L - (intOf i).toNat)
            case atStart => exact ⟨0, rfl, by omega, Lib.hid (Below.refl _ _)⟩
            case round =>
              obtain ⟨j, rfl, hj, HJ⟩ := hrel
              by_cases hjl : j < L
              · have hjl' : decide ((j : Int) < (L : Int)) = true := by simp; omega
                obtain ⟨g1, z1, rfl, hz1, d1⟩ := SRow.at (ownsRow_below HS7.out HJ.out) rfl hjl
                obtain ⟨g2, z2, rfl, hz2, d2⟩ := SRow.at (ownsRow_below HS6.out HJ.out) rfl hjl
                obtain rfl : z1 = z2 := by rw [hz1] at hz2; exact Option.some.inj hz2
                obtain ⟨s, hs⟩ : ∃ s : ByteArray, encStr z1 = .string s := ⟨_, rfl⟩
                rw [hs] at d1 d2
                have r1 : (0 : Int) ≤ (j : Int) := by omega
                have r2 : (j : Int) < (L : Int) := by omega
                clear hs hz1 hz2
                go_wp2
                go_quiet (fail)
                go_wp2
                go_roundw
                case rel => exact ⟨j + 1, by go_num, by omega, Lib.hid (bthen HJ.out (Below.drewN1 _ _ _))⟩
                case measure => simp [intOf]; omega
              · have hjl' : decide ((j : Int) < (L : Int)) = false := by simp; omega
                go_wp2
                go_roundw
                case rel => exact ⟨k + 1, by go_num, by omega, Lib.hid (bthen HB6.out HJ.out)⟩
                case measure => simp [intOf]; omega
    · have hlt' : decide ((k : Int) < 4) = false := by simp; omega
      go_wp2
      go_ret
      exact ⟨rfl, HK.out⟩
end Go.Proofs.Ytegcdefdkebmnaa
