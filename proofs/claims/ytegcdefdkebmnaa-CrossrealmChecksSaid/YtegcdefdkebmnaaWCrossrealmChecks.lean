/- The walk of CrossrealmChecks. -/
import Derived.Test.YtegcdefdkebmnaaGood
import Derived.Test.YtegcdefdkebmnaaAwake14
import Derived.Test.YtegcdefdkebmnaaCSame
import Derived.Test.YtegcdefdkebmnaaOpen14
import Derived.Test.YtegcdefdkebmnaaCSet
import Derived.Deep.RegionHeld3
namespace Go.Proofs.Ytegcdefdkebmnaa
open Go.RowKit
set_option linter.unusedVariables false

/-- a list of cross-realm keys, as a slice -/
def CkL (X : World) (a : Option Addr) (n c : Nat) (ms : List Ck) : Prop := FRow X a n 4 (ccells ms) ∧ (∀ m ∈ ms, m.ok) ∧ n ≤ 40 ∧ n ≤ c ∧ c ≤ 9223372036854775807 ∧ (a = none → c = 0)
theorem CkL.below {X Y : World} {a : Option Addr} {n c : Nat} {ms : List Ck} (h : CkL X a n c ms) (hb : Below X.heap.size X Y) : CkL Y a n c ms := ⟨h.1.below hb, h.2⟩
theorem own_ckl {X : World} {base : Nat} {a : Option Addr} {n c : Nat} {ms : List Ck} (h : X.ownsRow base 54 4 (.slice a n c) n (ccells ms)) (hok : ∀ m ∈ ms, m.ok) (hn : n ≤ 40) : CkL X a n c ms := by
  obtain ⟨a', c', e, h1, h2⟩ := own_isz h
  injection e with e1 e2 e3
  subst e1 e3
  unfold maxLen at h2
  refine ⟨own_frow h, hok, hn, h1, by omega, fun ha => ?_⟩
  subst ha
  rcases h.2 with ⟨h3, _⟩ | ⟨g, c3, cur, h3, _⟩
  · injection h3
  · injection h3 with h3; cases h3
def MoreL (X : World) (a : Option Addr) (n : Nat) (ms : List Ck) : Prop := FRow X a n 4 (ccells ms) ∧ (∀ m ∈ ms, m.ok)

theorem own_lit4 {W y : World} {a b c d : Value} (h : Below W.heap.size W y) : (y.alloc (.cells #[a, b, c, d] 54)).ownsRow W.heap.size 54 4 (.slice (some ⟨y.heap.size, 0, none⟩) 1 1) 1 [a, b, c, d] :=
  World.ownsRow_lit (base := W.heap.size) (e := 54) (size := 4) y #[a, b, c, d] 1 h.size (by unfold maxLen; omega) rfl
theorem more_ok {x : Ck} {mm : List Ck} (hx : x.ok) (h : ∀ m ∈ mm, goodCk m) : ∀ m ∈ x :: mm, m.ok := by
  intro m hm
  rcases List.mem_cons.1 hm with rfl | h1
  · exact hx
  · exact (h m h1).1
theorem own_nilc {w : World} {base : Nat} {T : TypeId} {size : Nat} {a : Option Addr} {n cap : Nat} {xs : List Value} (h : w.ownsRow base T size (.slice a n cap) n xs) : a = none → cap = 0 := by
  intro e
  subst e
  rcases h.2 with ⟨h3, _⟩ | ⟨g, c, cur, h3, _⟩
  · injection h3
  · injection h3 with h3; cases h3
set_option maxRecDepth 100000 in
set_option maxHeartbeats 16000000 in
theorem wCrossrealmChecks (ar : Option Addr) (lr cr : Nat) (raw : List Ck) (al : Option Addr) (len cap : Nat) (zs : List Int) (am : Option Addr) (lm cm : Nat) (zm : List Int) (x : Ck) (xf xat kn : Int) (s : ByteArray) (w : World) (hraw : CkRow w ar lr cr raw) (hr : Row .u8 w al len zs) (hz : ∀ m ∈ zs, (Lit.int .u8 m).wf = true)
    (hrm : Row .u8 w am lm zm) (hzm : ∀ m ∈ zm, (Lit.int .u8 m).wf = true) (hxo : x.ok) (h1 : s.size ≤ maxLen) (hkn : -9223372036854775808 ≤ kn ∧ kn ≤ 9223372036854775807) (ha : 0 ≤ xf ∧ xf ≤ 255) (hb : 0 ≤ xat ∧ xat ≤ 255) :
    Calls Try.prog 7 #[.slice ar lr cr, .slice al len cap, .slice am lm cm, .agg #[.string x.fr, .string x.to, .int .i64 x.kv, .int .u64 x.ky], .int .u8 xf, .int .u8 xat, .int .i64 kn, .string s] w fun e w' => e = .returned (.bool true) ∧ Below w.heap.size w w' := by
  have HBX : Hid (Below w.heap.size w (w.alloc (.cells #[.string x.fr, .string x.to, .int .i64 x.kv, .int .u64 x.ky] 54))) := Lib.hid (Below.alloc1 _ _)
  have HRAW := Lib.hid (And.intro (hraw.1.below HBX.out) hraw.2)
  have HRR := Lib.hid (hr.below HBX.out)
  have HRM := Lib.hid (hrm.below HBX.out)
  have HZ := Lib.hid hz
  have HZM := Lib.hid hzm
  have HXO := Lib.hid hxo
  have HSZ := Lib.hid h1
  have hml := hr.2.1
  have hmm := hrm.2.1
  unfold maxLen at hml hmm h1
  have hlr : lr ≤ 9223372036854775807 := by have := hraw.2.2; omega
  have HXC : Hid (∀ X, Below (w.alloc (.cells #[.string x.fr, .string x.to, .int .i64 x.kv, .int .u64 x.ky] 54)).heap.size (w.alloc (.cells #[.string x.fr, .string x.to, .int .i64 x.kv, .int .u64 x.ky] 54)) X → X.cell? ⟨w.heap.size, 0, none⟩ = some (.string x.fr) ∧ X.cell? ⟨w.heap.size, 1, none⟩ = some (.string x.to) ∧ X.cell? ⟨w.heap.size, 2, none⟩ = some (.int .i64 x.kv) ∧ X.cell? ⟨w.heap.size, 3, none⟩ = some (.int .u64 x.ky) ∧ w.heap.size < X.heap.size) := Lib.hid (fun X hX => by
    obtain ⟨c, _⟩ := cells_one hX
    exact ⟨c 0, c 1, c 2, c 3, (froz_one hX).2⟩)
  clear hr hz hraw hrm hzm hxo
  go_enter Try.func7, Try.ntmps7
  go_wp2_with fail
  generalize hW : w.alloc (.cells #[.string x.fr, .string x.to, .int .i64 x.kv, .int .u64 x.ky] 54) = W at *
  clear hW
  refine (awake14_any _).mono ?_
  rintro e w0 ⟨rfl, hb0⟩
  have HB0 := Lib.hid hb0
  clear hb0
  obtain ⟨x0, x1, x2, x3, x4⟩ := HXC.out w0 HB0.out
  go_wp2_with fail
  refine (clong_any ar lr cr raw w0 (HRAW.out.1.below HB0.out) HRAW.out.2.1 hlr).mono ?_
  rintro e w0' ⟨r, rfl, hrf, rfl⟩
  cases r
  rotate_left 1
  · clear hrf
    go_wp2
    go_ret
    exact ⟨rfl, bthen HBX.out HB0.out⟩
  have HRF := Lib.hid (hrf rfl)
  clear hrf
  go_wp2_with fail
  refine (clong_any (some ⟨w0.heap.size, 0, none⟩) 1 1 [x] _ ⟨rfl, .inr ⟨_, _, rfl, fun i hi => ?_⟩⟩ (fun m hm => by rw [List.mem_singleton.1 hm]; exact HXO.out) (by omega)).mono ?_
  · rw [Nat.zero_add]
    rw [cell_new w0 _ _ i]
    simp [ccells, Ck.cells]
  rintro e w1 ⟨r, rfl, hrf, rfl⟩
  have HB1 := Lib.hid (bthen HB0.out (Below.alloc1 w0 (.cells #[.string x.fr, .string x.to, .int .i64 x.kv, .int .u64 x.ky] 54)))
  clear HB0 x0 x1 x2 x3 x4
  cases r
  rotate_left 1
  · clear hrf
    go_wp2
    go_ret
    exact ⟨rfl, bthen HBX.out HB1.out⟩
  clear hrf
  by_cases e1 : (100 : Int) < (s.size : Int)
  · have e1' : decide ((100 : Int) < (s.size : Int)) = true := decide_eq_true e1
    go_wp2
    go_ret
    exact ⟨rfl, bthen HBX.out HB1.out⟩
  have e1' : decide ((100 : Int) < (s.size : Int)) = false := decide_eq_false e1
  by_cases h120 : (120 : Int) < (len : Int)
  · have h120' : decide ((120 : Int) < (len : Int)) = true := decide_eq_true h120
    go_wp2
    go_ret
    exact ⟨rfl, bthen HBX.out HB1.out⟩
  have h120' : decide ((120 : Int) < (len : Int)) = false := decide_eq_false h120
  by_cases h8 : (8 : Int) < (lm : Int)
  · have h8' : decide ((8 : Int) < (lm : Int)) = true := decide_eq_true h8
    go_wp2
    go_ret
    exact ⟨rfl, bthen HBX.out HB1.out⟩
  have h8' : decide ((8 : Int) < (lm : Int)) = false := decide_eq_false h8
  go_wp2_with fail
  refine (cross_any al len cap zs _ (HRR.out.below HB1.out) HZ.out).mono ?_
  rintro e w2 ⟨ms, v, rfl, hm25, hgood, hown, hb2, _⟩
  obtain ⟨ya, yc, rfl, hv1, hv2⟩ := own_isz hown
  obtain ⟨N, hN⟩ : ∃ N, ms.length = N := ⟨_, rfl⟩
  rw [hN] at hown hm25 hv1 ⊢
  have HOWN := Lib.hid (ownsRow_base hown (show W.heap.size ≤ _ by have := HB1.out.size; omega))
  have HOK := Lib.hid (fun m hm => (hgood m hm).1)
  have HB2 := Lib.hid (bthen HB1.out hb2)
  unfold maxLen at hv2
  clear hgood hown hb2 HB1 hN
  go_upto_if 55 with fail
  go_cut [] (fun X => Hid ((∃ ms, CkL X ya N yc ms) ∧ Below W.heap.size W X))
  case first =>
    by_cases h0 : N = 0
    · subst h0
      have HF : Hid ((∃ ms, CkL w2 ya 0 yc ms) ∧ Below W.heap.size W w2) := Lib.hid ⟨⟨ms, own_ckl HOWN.out HOK.out (by omega)⟩, HB2.out⟩
      go_wp2
      go_meet
      exact HF
    · have h0' : decide ((0 : Int) < (N : Int)) = true := decide_eq_true (by omega)
      obtain ⟨b, off, hya, hbb, hfr, hfz⟩ := own_spot HOWN.out h0
      obtain ⟨q, hq⟩ : ∃ q : Nat, xat % (N : Int) = (q : Int) := ⟨(xat % (N : Int)).toNat, by have := Int.emod_nonneg xat (show (N : Int) ≠ 0 by omega); omega⟩
      have hqN : q < N := by have := Int.emod_lt_of_pos xat (show 0 < (N : Int) by omega); omega
      have hnil : ya = none → yc = 0 := (own_ckl HOWN.out HOK.out (by omega)).2.2.2.2.2
      subst hya
      obtain ⟨b', off', m, e', hm, c0, c1, c2, c3⟩ := hfr.ck hqN
      obtain ⟨rfl, rfl⟩ : b = b' ∧ off = off' := by simpa using e'
      have hmo := HOK.out m (List.mem_of_getElem? hm)
      have f0 := hfz (q * 4) (by omega)
      have f1 := hfz (q * 4 + 1) (by omega)
      have f2 := hfz (q * 4 + 2) (by omega)
      have f3 := hfz (q * 4 + 3) (by omega)
      rw [← Nat.add_assoc] at f1 f2 f3
      have HFIN : Hid (∀ (f : Nat) (u : Value) (m' : Ck), f < 4 → m'.cells = m.cells.set f u → m'.ok → (∃ ms, CkL (w2.setCell ⟨b, off + q * 4 + f, none⟩ u) (some ⟨b, off, none⟩) N yc ms) ∧ Below W.heap.size W (w2.setCell ⟨b, off + q * 4 + f, none⟩ u)) := Lib.hid (fun f u m' hf hc ho => ⟨⟨ms.set q m', hfr.ckset hm hf hc, ok_set HOK.out ho, by omega, hv1, by omega, hnil⟩, HB2.out.setCell hbb _⟩)
      have HSAME : Hid ((∃ ms, CkL w2 (some ⟨b, off, none⟩) N yc ms) ∧ Below W.heap.size W w2) := Lib.hid ⟨⟨ms, own_ckl HOWN.out HOK.out (by omega)⟩, HB2.out⟩
      have HMO := Lib.hid hmo
      have wb : IntKind.i64.wrap xat = xat := IntWalk.i64_in _ (by omega)
      have q1 : (0 : Int) ≤ (q : Int) := by omega
      have q2 : (q : Int) < (N : Int) := by omega
      have hNm : N ≤ 9223372036854775807 := by omega
      clear hfz hfr e' hm hmo hnil
      have h5 : xf % 8 = 0 ∨ xf % 8 = 1 ∨ xf % 8 = 2 ∨ xf % 8 = 3 ∨ 4 ≤ xf % 8 := by omega
      rcases h5 with h5 | h5 | h5 | h5 | h5
      · go_wp2
        go_meet
        exact Lib.hid (HFIN.out 0 _ ⟨s, m.to, m.kv, m.ky⟩ (by omega) rfl ⟨HSZ.out, HMO.out.2⟩)
      · go_wp2
        go_meet
        exact Lib.hid (HFIN.out 2 _ ⟨m.fr, m.to, kn, m.ky⟩ (by omega) rfl ⟨HMO.out.1, HMO.out.2.1, hkn, HMO.out.2.2.2⟩)
      · have hku : 0 ≤ IntKind.u64.wrap kn ∧ IntKind.u64.wrap kn ≤ 18446744073709551615 := by rw [IntKind.wrap_u64]; omega
        go_wp2
        go_meet
        exact Lib.hid (HFIN.out 3 _ ⟨m.fr, m.to, m.kv, IntKind.u64.wrap kn⟩ (by omega) rfl ⟨HMO.out.1, HMO.out.2.1, HMO.out.2.2.1, hku⟩)
      · go_wp2
        go_meet
        exact Lib.hid (HFIN.out 1 _ ⟨m.fr, m.fr, m.kv, m.ky⟩ (by omega) rfl ⟨HMO.out.1, HMO.out.1, HMO.out.2.2⟩)
      · have g0 : (xf % 8 == 0) = false := by simp; omega
        have g1 : (xf % 8 == 1) = false := by simp; omega
        have g2 : (xf % 8 == 2) = false := by simp; omega
        have g3 : (xf % 8 == 3) = false := by simp; omega
        go_wp2
        go_meet
        exact HSAME
  case rest =>
    obtain ⟨⟨ys, hys⟩, hbY⟩ := hcut.out
    have HYS := Lib.hid hys
    have HBY := Lib.hid hbY
    clear hys hbY hcut HOWN HOK HB2
    go_wp2
    go_loopw [19] (fun i wr => ∃ k : Nat, i = .int .i64 k ∧ k ≤ 3 ∧ Hid (Below wc.heap.size wc wr)) (fun i _ => 3 - (intOf i).toNat)
    case atStart => exact ⟨0, rfl, by omega, Lib.hid (Below.refl _ _)⟩
    case round =>
      obtain ⟨k, rfl, hk, HK⟩ := hrel
      by_cases hlt : k < 3
      · have hlt' : decide ((k : Int) < 3) = true := by simp; omega
        have HBW : Hid (Below W.heap.size W wr) := Lib.hid (bthen HBY.out HK.out)
        obtain ⟨wy, HWY⟩ : ∃ wy, Hid (wy = wc) := ⟨_, rfl⟩
        go_upto_region 20 with fail
        go_cut [20] (fun v X => ∃ a n c ms, v = .slice a n c ∧ n ≤ 40 ∧ Hid (CkL X a n c ms ∧ (k = 2 → crErr ms = 0) ∧ Below wr.heap.size wr X))
        case first =>
          go_wp2_with fail
          refine (goodCross_any al len cap zs wr (HRR.out.below HBW.out) HZ.out).mono ?_
          rintro e w3 ⟨gs, v, rfl, hg20, hgerr, hgok, hgown, hb3⟩
          obtain ⟨ga, gc, rfl, hv1, hv2⟩ := own_isz hgown
          obtain ⟨L, hL⟩ : ∃ L, gs.length = L := ⟨_, rfl⟩
          rw [hL] at hgown hg20 ⊢
          have HA : Hid (Below wr.heap.size wr (w3.alloc (.cells #[.slice ar lr cr, .slice ya N yc, .slice ga L gc] 49))) := Lib.hid (bthen hb3 (Below.alloc1 _ _))
          have HC0 : Hid (CkL (w3.alloc (.cells #[.slice ar lr cr, .slice ya N yc, .slice ga L gc] 49)) ar lr cr raw) := Lib.hid ⟨(HRAW.out.1.below HBW.out).below HA.out, HRAW.out.2.1, HRF.out.1, HRAW.out.2.2⟩
          have HC1 : Hid (CkL (w3.alloc (.cells #[.slice ar lr cr, .slice ya N yc, .slice ga L gc] 49)) ya N yc ys) := Lib.hid ((HYS.out.below HK.out).below HA.out)
          have HC2 : Hid (CkL (w3.alloc (.cells #[.slice ar lr cr, .slice ya N yc, .slice ga L gc] 49)) ga L gc gs) := Lib.hid ((own_ckl hgown hgok (by omega)).below (Below.alloc1 _ _))
          have HE2 := Lib.hid hgerr
          have hlr40 := HRF.out.1
          clear hgown hgok hgerr hb3 hv1 hv2 hL
          have h4 : k = 0 ∨ k = 1 ∨ k = 2 := by omega
          rcases h4 with rfl | rfl | rfl
          all_goals
            go_wp2
            go_meet
            first
              | exact ⟨_, _, _, _, rfl, hlr40, Lib.hid ⟨HC0.out, (fun h => by cases h), HA.out⟩⟩
              | exact ⟨_, _, _, _, rfl, by omega, Lib.hid ⟨HC1.out, (fun h => by cases h), HA.out⟩⟩
              | exact ⟨_, _, _, _, rfl, by omega, Lib.hid ⟨HC2.out, (fun _ => HE2.out), HA.out⟩⟩
        case rest =>
          obtain ⟨za, zn, zc, zl, rfl, hz40, HZL⟩ := hcut
          have HZ1 := Lib.hid HZL.out.1
          have HZE := Lib.hid HZL.out.2.1
          have HBZ : Hid (Below wr.heap.size wr wc) := Lib.hid HZL.out.2.2
          obtain ⟨hzc1, hzc2⟩ : zn ≤ zc ∧ zc ≤ 9223372036854775807 := ⟨HZ1.out.2.2.2.1, HZ1.out.2.2.2.2.1⟩
          clear HZL
          go_upto_region 21 with fail
          go_cut [121] (fun v X => v = .bool false ∧ Hid (Below wc.heap.size wc X))
          case first =>
            go_wp2_with fail
            refine (crCheck_any za zn zc zl _ HZ1.out.1 HZ1.out.2.1 hzc1 hzc2).mono ?_
            rintro e y1 ⟨rfl, hb1⟩
            have HZ2 := Lib.hid (HZ1.out.below hb1)
            have HD1 := Lib.hid hb1
            clear hb1 HZ1
            go_wp2_with fail
            refine (refCrCheck_any za zn zc zl _ HZ2.out.1 HZ2.out.2.1 hzc1 hzc2).mono ?_
            rintro e y2 ⟨rfl, hb2⟩
            have HZ3 := Lib.hid (HZ2.out.below hb2)
            have HD2 := Lib.hid (bthen HD1.out hb2)
            clear hb2 HZ2 HD1
            have HC3 : Hid (Calls Try.prog 27 #[.slice za zn zc] y2 fun e w' => e = .returned (.int .i64 (crErr zl)) ∧ Below y2.heap.size y2 w') := Lib.hid (crCheck_any za zn zc zl _ HZ3.out.1 HZ3.out.2.1 hzc1 hzc2)
            obtain ⟨ce, HCE⟩ : ∃ ce, Hid (crErr zl = ce) := ⟨_, rfl⟩
            rw [HCE.out] at HC3 ⊢
            have n1 : (ce != ce) = false := by simp
            by_cases hk2 : k = 2
            · have HC0 := Lib.hid (HZE.out hk2)
              subst hk2
              obtain rfl : ce = 0 := by rw [← HCE.out]; exact HC0.out
              go_wp2_with (go_at_call 27; refine HC3.out.mono ?_; rintro e y3 ⟨rfl, hb3⟩; have HD3 := Lib.hid (bthen HD2.out hb3); clear hb3)
              go_meet
              exact ⟨rfl, HD3⟩
            · have k2 : ((k : Int) == 2) = false := by simp; omega
              go_wp2
              go_meet
              exact ⟨rfl, HD2⟩
          case rest =>
            obtain ⟨rfl, HQ⟩ := hcut
            have HZ4 := Lib.hid (HZ1.out.below HQ.out)
            have HBZ4 := Lib.hid (bthen HBZ.out HQ.out)
            clear HZ1 HBZ HQ HZE
            go_wp2
            have HBWC : Hid (Below W.heap.size W wc) := Lib.hid (bthen HBW.out HBZ4.out)
            obtain ⟨x0, x1, x2, x3, x4⟩ := HXC.out wc HBWC.out
            go_upto_region 23 with fail
            go_cut [21] (fun v X => ∃ a n c more, v = .slice a n c ∧ 1 ≤ n ∧ n ≤ 26 ∧ n ≤ c ∧ c ≤ 9223372036854775807 ∧ Hid (MoreL X a n more ∧ Below wc.heap.size wc X))
            case first =>
              obtain ⟨i0, hi, hz0, hz1, hz2⟩ := info_parts info_el
              have HI0 := Lib.hid (And.intro hi (And.intro hz0 (And.intro hz1 hz2)))
              clear hi hz0 hz1 hz2
              have HCR : Hid (∀ X, Below wc.heap.size wc X → Calls Try.prog 25 #[.slice am lm cm] X (CrossPost X)) := Lib.hid (fun X hX => cross_any am lm cm zm X ((HRM.out.below HBWC.out).below hX) HZM.out)
              have HWa : Hid (Below wc.heap.size wc (wc.alloc (.cells #[.string x.fr, .string x.to, .int .i64 x.kv, .int .u64 x.ky] 54)).drew) := Lib.hid (Below.alloc1 wc (.cells #[.string x.fr, .string x.to, .int .i64 x.kv, .int .u64 x.ky] 54)).drew
              have HWb : Hid (Below wc.heap.size wc wc.drew) := Lib.hid (Below.refl _ _).drew
              have HOa : Hid ((wc.alloc (.cells #[.string x.fr, .string x.to, .int .i64 x.kv, .int .u64 x.ky] 54)).drew.ownsRow wc.heap.size 54 4 (.slice (some ⟨wc.heap.size, 0, none⟩) 1 1) 1 x.cells) := Lib.hid (World.ownsRow_lit (base := wc.heap.size) (e := 54) (size := 4) wc #[.string x.fr, .string x.to, .int .i64 x.kv, .int .u64 x.ky] 1 (Nat.le_refl _) (by unfold maxLen; omega) rfl)
              have HXW : Hid (∀ X, Below wc.heap.size wc X → X.cell? ⟨w.heap.size, 0, none⟩ = some (.string x.fr) ∧ X.cell? ⟨w.heap.size, 1, none⟩ = some (.string x.to) ∧ X.cell? ⟨w.heap.size, 2, none⟩ = some (.int .i64 x.kv) ∧ X.cell? ⟨w.heap.size, 3, none⟩ = some (.int .u64 x.ky) ∧ w.heap.size < X.heap.size) := Lib.hid (fun X hX => HXC.out X (bthen HBWC.out hX))
              go_region_law ((first | (refine step_append_src _ (by rfl) (.tmp 123) (.tmp 125) 49 (by rfl) wc.heap.size 54 i0 (.agg #[.string ⟨#[]⟩, .string ⟨#[]⟩, .int .i64 0, .int .u64 0]) 4 48 Try.underlying49 HI0.out.1 HI0.out.2.1 HI0.out.2.2.1 HI0.out.2.2.2 rfl (by decide) (.slice (some ⟨_, 0, none⟩) 1 1) 1 x.cells (by rfl) ?_ ma M mc (ccells mm) (by rfl) HMN.out HMC.out ?_ (one_cks mm) ?_ ?_ ?_ ?_; (focus (first | exact HT.out | exact own_lit4 HYB.out)); (focus (first | exact HMS.out | exact HMS.out.below (Below.alloc1 _ _))); (focus (unfold maxLen; omega)); (focus (omega)); (focus (first | exact HYB.out.size | exact (HYB.out.alloc HYB.out.size _).size)); intro v2 w2 hown2 hgrow2 hat2; obtain ⟨va, vc, HV⟩ : ∃ va vc, Hid (v2 = .slice va (1 + M) vc ∧ 1 + M ≤ vc ∧ vc ≤ 9223372036854775807 ∧ MoreL w2 va (1 + M) (x :: mm) ∧ Below wc.heap.size wc w2) := (by obtain ⟨va, vc, hv, hv1, hv2⟩ := own_isz hown2; subst hv; unfold maxLen at hv2; refine ⟨va, vc, Lib.hid ⟨rfl, hv1, by omega, ⟨own_frow hown2, more_ok HXO.out HMG.out⟩, ?_⟩⟩; first | exact HYB.out.grown hgrow2 HYB.out.size HT2.out | exact (HYB.out.alloc HYB.out.size (.cells #[.string x.fr, .string x.to, .int .i64 x.kv, .int .u64 x.ky] 54)).grown hgrow2 (HYB.out.alloc HYB.out.size (.cells #[.string x.fr, .string x.to, .int .i64 x.kv, .int .u64 x.ky] 54)).size (fun q hq => by cases hq; exact HYB.out.size)); clear hown2 hgrow2 hat2) | (go_simp; go_at_call 25; refine (HCR.out _ ?_).mono ?_; (focus (first | exact HWa.out | exact HWb.out)); rintro e y ⟨mm, v, rfl, hm1, hm2, hm3, hm4, _⟩; obtain ⟨ma, mc, rfl, hm5, hm6⟩ := own_isz hm3; obtain ⟨M, hM⟩ : ∃ M, mm.length = M := ⟨_, rfl⟩; rw [hM] at hm1 hm3 ⊢; have HMS := Lib.hid (Src.of_frow (own_frow hm3)); have HMC : Hid ((ccells mm).length = M * 4) := Lib.hid (by rw [ccells_len, hM]); have HMN := Lib.hid (frow_nil (own_frow hm3) (own_nilc hm3)); have HMG := Lib.hid hm2; first | (have HYB : Hid (Below wc.heap.size wc y) := Lib.hid (bthen HWa.out hm4); have HT := Lib.hid (ownsRow_below HOa.out hm4); have HT2 : Hid (∀ q, some wc.heap.size = some q → wc.heap.size ≤ q) := Lib.hid (fun q hq => by cases hq; exact Nat.le_refl _); clear hm2 hm3 hm4 hm5 hm6 hM) | (have HYB : Hid (Below wc.heap.size wc y) := Lib.hid (bthen HWb.out hm4); obtain ⟨z0, z1, z2, z3, z4⟩ := HXW.out y HYB.out; clear hm2 hm3 hm4 hm5 hm6 hM))))
              all_goals
                have hM25 : M ≤ 25 := hm1
                go_wp2_with fail
                go_meet
                exact ⟨va, 1 + M, vc, x :: mm, HV.out.1, by omega, by omega, HV.out.2.1, HV.out.2.2.1, Lib.hid HV.out.2.2.2⟩
            case rest =>
              obtain ⟨fa, fn, fc, more, rfl, hf1, hf26, hf3, hf4, HF⟩ := hcut
              have HMORE := Lib.hid HF.out.1
              have HZ5 := Lib.hid (HZ4.out.below HF.out.2)
              have HB5 := Lib.hid (bthen HBZ4.out HF.out.2)
              clear HF HZ4 HBZ4 HBWC x0 x1 x2 x3 x4
              obtain ⟨wm, HWM⟩ : ∃ wm, Hid (wm = wc) := ⟨_, rfl⟩
              go_wp2
              go_loopw [22] (fun i wq => ∃ j : Nat, i = .int .i64 j ∧ j ≤ 3 ∧ Hid (Below wc.heap.size wc wq)) (fun i _ => 3 - (intOf i).toNat)
              case atStart => exact ⟨0, rfl, by omega, Lib.hid (Below.refl _ _)⟩
              case round =>
                obtain ⟨j, rfl, hj, HJ⟩ := hrel
                by_cases hjn : j < fn
                · have hjn' : decide ((j : Int) < (fn : Int)) = true := by simp; omega
                  by_cases hj3 : j < 3
                  · have hj3' : decide ((j : Int) < 3) = true := by simp; omega
                    obtain ⟨b, off, m, rfl, hm, c0, c1, c2, c3⟩ := (HMORE.out.1.below HJ.out).ck hjn
                    have HMOK := Lib.hid (HMORE.out.2 m (List.mem_of_getElem? hm))
                    have HZ6 := Lib.hid (HZ5.out.below HJ.out)
                    have r1 : (0 : Int) ≤ (j : Int) := by omega
                    have r2 : (j : Int) < (fn : Int) := by omega
                    clear hm
                    go_wp2_with fail
                    refine (crAdd_any za zn zc zl m _ HZ6.out.1 HZ6.out.2.1 HMOK.out HZ6.out.2.2.2.2.2 (by omega)).mono ?_
                    rintro e y1 ⟨v1, rfl, ho1, hb1⟩
                    obtain ⟨a1, k1, rfl, _, _⟩ := own_isz ho1
                    have HO1 := Lib.hid ho1
                    have HD1 := Lib.hid hb1
                    have HZ7 := Lib.hid (HZ6.out.below hb1)
                    have d0 := (hb1.cell (World.block_lt_of_cell? _ _ c0)).trans c0
                    have d1 := (hb1.cell (World.block_lt_of_cell? _ _ c1)).trans c1
                    have d2 := (hb1.cell (World.block_lt_of_cell? _ _ c2)).trans c2
                    have d3 := (hb1.cell (World.block_lt_of_cell? _ _ c3)).trans c3
                    clear ho1 hb1 HZ6 c0 c1 c2 c3
                    go_wp2_with fail
                    refine (refCrAdd_any za zn zc zl m _ HZ7.out.1 HZ7.out.2.1 HMOK.out HZ7.out.2.2.2.2.2 (by omega)).mono ?_
                    rintro e y2 ⟨v2, rfl, ho2, hb2⟩
                    obtain ⟨a2, k2, rfl, _, _⟩ := own_isz ho2
                    have HO2 := Lib.hid ho2
                    have HO1' := Lib.hid (ownsRow_below HO1.out hb2)
                    have HD2 := Lib.hid (bthen HD1.out hb2)
                    have HAL : Hid ((addL zl m).length ≤ 41) := Lib.hid (by unfold addL; have := HZ7.out.1.clen; split <;> simp <;> omega)
                    clear ho2 hb2 HZ7 HO1 HD1 d0 d1 d2 d3
                    generalize addL zl m = al2 at *
                    obtain ⟨A, hA⟩ : ∃ A, al2.length = A := ⟨_, rfl⟩
                    rw [hA] at HO1' HO2 HAL ⊢
                    generalize crErr (zl ++ [m]) = ce at *
                    have n1 : (ce != ce) = false := by simp
                    clear hA
                    go_wp2_with fail
                    refine (csame_any a1 a2 A k1 k2 al2 _ (own_frow HO1'.out) (own_frow HO2.out) (by have := HAL.out; omega)).mono ?_
                    rintro e y3 ⟨rfl, hb3⟩
                    have HD3 := Lib.hid (bthen HD2.out hb3)
                    clear hb3 HO1' HO2 HD2 HAL
                    go_wp2
                    go_roundw
                    case rel => exact ⟨j + 1, by go_num, by omega, Lib.hid (bthen HJ.out HD3.out)⟩
                    case measure => simp [intOf]; omega
                  · have hj3' : decide ((j : Int) < 3) = false := by simp; omega
                    go_wp2
                    go_roundw
                    case rel => exact ⟨k + 1, by go_num, by omega, Lib.hid (bthen HK.out (bthen HB5.out HJ.out))⟩
                    case measure => simp [intOf]; omega
                · have hjn' : decide ((j : Int) < (fn : Int)) = false := by simp; omega
                  go_wp2
                  go_roundw
                  case rel => exact ⟨k + 1, by go_num, by omega, Lib.hid (bthen HK.out (bthen HB5.out HJ.out))⟩
                  case measure => simp [intOf]; omega
      · have hlt' : decide ((k : Int) < 3) = false := by simp; omega
        go_wp2
        go_ret
        exact ⟨rfl, bthen (bthen HBX.out HBY.out) HK.out⟩
end Go.Proofs.Ytegcdefdkebmnaa
