/- The walk of CrossrealmPeers. -/
import Derived.Test.YtegcdefdkebmnaaFdLaw
import Derived.Test.YtegcdefdkebmnaaAwake14
import Derived.Test.YtegcdefdkebmnaaPeersRef
namespace Go.Proofs.Ytegcdefdkebmnaa
open Go.RowKit Go.Sort

theorem asc_at {ps : List (List UInt8)} (h : Asc ps) {i : Nat} {a b : List UInt8} (ha : ps[i]? = some a) (hb : ps[i + 1]? = some b) : a < b := by
  obtain ⟨h1, rfl⟩ := List.getElem?_eq_some_iff.1 ha
  obtain ⟨h2, rfl⟩ := List.getElem?_eq_some_iff.1 hb
  exact (List.pairwise_iff_getElem.1 h) i (i + 1) h1 h2 (by omega)

set_option maxRecDepth 100000 in
set_option maxHeartbeats 16000000 in
theorem wCrossrealmPeers (al : Option Addr) (len cap : Nat) (zs : List Int) (xa xb : Int) (w : World) (hr : Row .u8 w al len zs) (hz : ∀ m ∈ zs, (Lit.int .u8 m).wf = true) (ha : 0 ≤ xa ∧ xa ≤ 255) (hb : 0 ≤ xb ∧ xb ≤ 255) :
    Calls Try.prog 8 #[.slice al len cap, .int .u8 xa, .int .u8 xb] w fun e w' => e = .returned (.bool true) ∧ Below w.heap.size w w' := by
  have HRR := Lib.hid hr
  have HZ := Lib.hid hz
  have hml := hr.2.1
  unfold maxLen at hml
  clear hr hz
  go_enter Try.func8, Try.ntmps8
  go_wp2_with fail
  refine (awake14_any _).mono ?_
  rintro e w0 ⟨rfl, hb0⟩
  have HB0 := Lib.hid hb0
  clear hb0
  by_cases h120 : (120 : Int) < (len : Int)
  · have h120' : decide ((120 : Int) < (len : Int)) = true := by simp; omega
    go_wp2
    go_ret
    exact ⟨rfl, HB0.out⟩
  have h120' : decide ((120 : Int) < (len : Int)) = false := by simp; omega
  go_wp2_with fail
  refine (cross_any al len cap zs w0 (HRR.out.below HB0.out) HZ.out).mono ?_
  rintro e w1 ⟨ms, v, rfl, hm25, hgood, hown, hb1, _⟩
  obtain ⟨xa1, xc, rfl, hv1, hv2⟩ := own_isz hown
  obtain ⟨N, hN⟩ : ∃ N, ms.length = N := ⟨_, rfl⟩
  have HR1 := Lib.hid (own_frow hown)
  rw [hN] at HR1 hv1 hm25 ⊢
  have HN := Lib.hid hN
  have HG := Lib.hid (fun m hm => (hgood m hm).1)
  have HB1 := Lib.hid (bthen HB0.out hb1)
  clear hown hgood hb1 HB0 hN
  go_wp2_with fail
  refine (realm_any xa _ (by omega) (by omega)).mono ?_
  rintro e w2 ⟨rfl, hb2⟩
  have HR2 := Lib.hid (HR1.out.below hb2)
  have HB2 := Lib.hid (bthen HB1.out hb2)
  clear hb2 HB1 HR1
  go_wp2_with fail
  refine (realm_any xb _ (by omega) (by omega)).mono ?_
  rintro e w3 ⟨rfl, hb3⟩
  have HR3 := Lib.hid (HR2.out.below hb3)
  have HB3 := Lib.hid (bthen HB2.out hb3)
  clear hb3 HB2 HR2
  generalize realmS xa = f at *
  generalize realmS xb = t at *
  go_wp2_with fail
  refine (peers_any xa1 N xc ms f w3 HR3.out HG.out (by omega)).mono ?_
  rintro e w4 ⟨v, rfl, hs, hb4⟩
  unfold SRow at hs
  have HASC := Lib.hid (peers_asc f ms)
  have HISF := Lib.hid (is_found f t ms)
  have HPL := Lib.hid (peers_len f ms)
  generalize peersOf f ms = ps at *
  obtain ⟨pa, pc, rfl, hp1, hp2⟩ := own_isz hs
  obtain ⟨P, hP⟩ : ∃ P, ps.length = P := ⟨_, rfl⟩
  rw [hP] at hs hp1 ⊢
  have hPN : P ≤ N := by have := HPL.out; have := HN.out; omega
  have HP := Lib.hid hP
  have HS := Lib.hid hs
  have HR4 := Lib.hid (HR3.out.below hb4)
  have HB4 := Lib.hid (bthen HB3.out hb4)
  clear hs hb4 HR3 HB3 hP HPL
  go_wp2
  go_loopw [11, 12] (fun o i wr => ∃ (k : Nat) (ob : Bool), o = .bool ob ∧ i = .int .i64 k ∧ k ≤ P ∧ Hid (isB t (ps.take k) = ob ∧ Below w4.heap.size w4 wr)) (fun _ i _ => P - (intOf i).toNat)
  case atStart => exact ⟨0, false, rfl, rfl, by omega, Lib.hid ⟨rfl, Below.refl _ _⟩⟩
  case round =>
    obtain ⟨k, ob, rfl, rfl, hk, HK⟩ := hrel
    by_cases hlt : k < P
    · have hlt' : decide ((k : Int) < (P : Int)) = true := by simp; omega
      obtain ⟨g, y, rfl, hy, d0⟩ := SRow.at (ownsRow_below HS.out HK.out.2) rfl hlt
      obtain ⟨s, hs⟩ : ∃ s : ByteArray, encStr y = .string s ∧ s.toList = y := ⟨⟨y.toArray⟩, rfl, by rw [ByteArray.toList_eq]⟩
      rw [hs.1] at d0
      have HSY := Lib.hid hs.2
      have HY := Lib.hid hy
      have HIS := Lib.hid (isB_snoc (t := t) hy)
      clear hs hy
      have r1 : (0 : Int) ≤ (k : Int) := by omega
      have r2 : (k : Int) < (P : Int) := by omega
      obtain ⟨yb, HYB⟩ : ∃ yb, Hid ((s.toList == t.toList) = yb) := ⟨_, rfl⟩
      have hyb := HYB.out
      have HNX : Hid (isB t (ps.take (k + 1)) = (ob || yb)) := Lib.hid (by rw [HIS.out, HK.out.1, ← HYB.out, HSY.out])
      by_cases h0 : k = 0
      · subst h0
        cases ob <;> cases yb
        all_goals
          go_wp2
          go_quiet (fail)
          go_wp2
          go_roundw
          case rel => exact ⟨0 + 1, _, rfl, by go_num, by omega, Lib.hid ⟨HNX.out, bthen HK.out.2 (Below.drewN1 _ _ _)⟩⟩
          case measure => simp [intOf]; omega
      · obtain ⟨q, rfl⟩ : ∃ q, k = q + 1 := ⟨k - 1, by omega⟩
        obtain ⟨g', y', e', hy', d1⟩ := SRow.at (ownsRow_below HS.out HK.out.2) rfl (show q < P by omega)
        obtain rfl : g = g' := by simpa using e'
        obtain ⟨s', hs'⟩ : ∃ s : ByteArray, encStr y' = .string s ∧ s.toList = y' := ⟨⟨y'.toArray⟩, rfl, by rw [ByteArray.toList_eq]⟩
        rw [hs'.1] at d1
        have hless : Op.bytesLess s'.toList s.toList = true := by rw [bytesLess_eq, hs'.2, HSY.out]; simpa using asc_at HASC.out hy' HY.out
        clear hs' hy' e'
        have g1 : decide ((0 : Int) < ((q + 1 : Nat) : Int)) = true := decide_eq_true (by omega)
        have g2 : IntKind.i64.wrap (((q + 1 : Nat) : Int) - 1) = (q : Int) := by rw [IntWalk.i64_in _ (by omega)]; omega
        have g3 : (q : Int) < (P : Int) := by omega
        have g4 : (0 : Int) ≤ (q : Int) := by omega
        cases ob <;> cases yb
        all_goals
          go_wp2
          go_quiet (fail)
          go_wp2
          go_roundw
          case rel => exact ⟨q + 1 + 1, _, rfl, by go_num, by omega, Lib.hid ⟨HNX.out, bthen HK.out.2 (Below.drewN1 _ _ _)⟩⟩
          case measure => simp [intOf]; omega
    · have HOB : Hid (fdB f t ms = ob) := Lib.hid (by have h := HK.out.1; rw [List.take_of_length_le (by have := HP.out; omega)] at h; rw [← HISF.out, h])
      have hlt' : decide ((k : Int) < (P : Int)) = false := by simp; omega
      have HR5 := Lib.hid (HR4.out.below HK.out.2)
      have HB5 := Lib.hid (bthen HB4.out HK.out.2)
      clear HK HR4 HB4 HS
      go_wp2_with fail
      refine (find_any xa1 N xc ms f t _ HR5.out (by omega)).mono ?_
      rintro e w5 ⟨rfl, hb5⟩
      have HR6 := Lib.hid (HR5.out.below hb5)
      have HB6 := Lib.hid (bthen HB5.out hb5)
      clear hb5 HR5 HB5
      rw [HOB.out]
      cases ob
      · generalize fdI f t ms = fi at *
        go_wp2
        refine wp_loop_rounds 1 ?_
        rw [rounds_succ]
        go_wp2
        go_ret
        exact ⟨rfl, HB6.out⟩
      · obtain ⟨j, y, hj, hjl, hy, hyf, hyt, hmax⟩ := fd_found HOB.out
        rw [hj]
        have HMX := Lib.hid hmax
        have HY := Lib.hid hy
        have hjN : j < N := by have := HN.out; omega
        have hyf' : (y.fr.toList == f.toList) = true := by simpa using hyf
        have hyt' : (y.to.toList == t.toList) = true := by simpa using hyt
        clear hmax hy hj hyf hyt
        obtain ⟨b, off, y', rfl, hy', c0, c1, c2, c3⟩ := HR6.out.ck hjN
        obtain rfl : y' = y := by have := HY.out; rw [hy'] at this; exact Option.some.inj this
        have j1 : decide ((j : Int) < 0) = false := by simp
        have j2 : decide ((N : Int) ≤ (j : Int)) = false := by simp; omega
        have j3 : (0 : Int) ≤ (j : Int) := by omega
        have j4 : (j : Int) < (N : Int) := by omega
        clear hy' c3
        go_wp2
        go_loopw [15] (fun i wr => ∃ k : Nat, i = .int .i64 k ∧ k ≤ N ∧ Hid (Below w5.heap.size w5 wr)) (fun i _ => N - (intOf i).toNat)
        case atStart => exact ⟨0, rfl, by omega, Lib.hid (Below.refl _ _)⟩
        case round =>
          obtain ⟨k, rfl, hk, HK⟩ := hrel
          have c2' := (HK.out.cell (World.block_lt_of_cell? _ _ c2)).trans c2
          by_cases hlt : k < N
          · have hlt' : decide ((k : Int) < (N : Int)) = true := by simp; omega
            obtain ⟨b', off', x, e', hx, d0, d1, d2, d3⟩ := (HR6.out.below HK.out).ck hlt
            obtain ⟨rfl, rfl⟩ : b = b' ∧ off = off' := by simpa using e'
            have HLE := Lib.hid (HMX.out k x hx)
            have r1 : (0 : Int) ≤ (k : Int) := by omega
            have r2 : (k : Int) < (N : Int) := by omega
            clear e' hx d3
            by_cases h1 : x.fr.toList = f.toList
            · by_cases h2 : x.to.toList = t.toList
              · have hle := HLE.out h1 h2
                have h1e : (x.fr.toList == f.toList) = true := by simpa using h1
                have h2e : (x.to.toList == t.toList) = true := by simpa using h2
                have h3e : decide (y'.kv < x.kv) = false := by simp; omega
                clear h1 h2
                go_wp2
                go_quiet (fail)
                go_wp2
                go_roundw
                case rel => exact ⟨k + 1, by go_num, by omega, Lib.hid (bthen HK.out (Below.drewN1 _ _ _))⟩
                case measure => simp [intOf]; omega
              · have h1e : (x.fr.toList == f.toList) = true := by simpa using h1
                have h2e : (x.to.toList == t.toList) = false := by simpa using h2
                clear h1 h2
                go_wp2
                go_quiet (fail)
                go_wp2
                go_roundw
                case rel => exact ⟨k + 1, by go_num, by omega, Lib.hid (bthen HK.out (Below.drewN1 _ _ _))⟩
                case measure => simp [intOf]; omega
            · have h1e : (x.fr.toList == f.toList) = false := by simpa using h1
              clear h1
              go_wp2
              go_quiet (fail)
              go_wp2
              go_roundw
              case rel => exact ⟨k + 1, by go_num, by omega, Lib.hid (bthen HK.out (Below.drewN1 _ _ _))⟩
              case measure => simp [intOf]; omega
          · have hlt' : decide ((k : Int) < (N : Int)) = false := by simp; omega
            go_wp2
            go_ret
            exact ⟨rfl, bthen HB6.out HK.out⟩
end Go.Proofs.Ytegcdefdkebmnaa
