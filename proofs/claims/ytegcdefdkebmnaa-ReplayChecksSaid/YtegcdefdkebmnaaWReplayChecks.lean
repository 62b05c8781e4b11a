/- The walk of ReplayChecks. -/
import Derived.Test.YtegcdefdkebmnaaFilled
import Derived.Test.YtegcdefdkebmnaaRc
import Derived.Deep.CutBlock
namespace Go.Proofs.Ytegcdefdkebmnaa
open Go.RowKit
namespace ReplayChecks
set_option maxRecDepth 100000 in
set_option maxHeartbeats 8000000 in
theorem walk0 (z f : Int) (a : Option Addr) (len cap : Nat) (ms : List Mk) (size skew : Int) (al : Option Addr) (lenl capl : Nat) (us : List Us) (field at_ n : Int) (w : World) (hr : FRow w a len 5 (mcells ms)) (hok : ∀ m ∈ ms, m.ok) (hcap : len ≤ cap) (hcm : cap ≤ 9223372036854775807)
    (h0 : 0 ≤ size ∧ size ≤ 255) (h1 : 0 ≤ skew ∧ skew ≤ 255) (hru : FRow w al lenl 4 (ucells us)) (huok : ∀ u ∈ us, u.ok) (hll : lenl ≤ 9223372036854775807) (hf : 0 ≤ field ∧ field ≤ 255) (ha : 0 ≤ at_ ∧ at_ ≤ 255) (hn : -9223372036854775808 ≤ n ∧ n ≤ 9223372036854775807) :
    Calls Try.prog 3 #[.agg #[.int .i64 z, .int .i64 f, .slice a len cap], .int .u8 size, .int .u8 skew, .slice al lenl capl, .int .u8 field, .int .u8 at_, .int .i64 n] w fun e w' => e = .returned (.bool true) ∧ Below w.heap.size w w' := by
  have HB0 := Lib.hid (Below.alloc1 w (.cells #[.int .i64 z, .int .i64 f, .slice a len cap] 24))
  have HR := Lib.hid (hr.below HB0.out)
  have HRU := Lib.hid (hru.below HB0.out)
  have HOK := Lib.hid hok
  have HUO := Lib.hid huok
  have HRC : Hid (∀ X, Below (w.alloc (.cells #[.int .i64 z, .int .i64 f, .slice a len cap] 24)).heap.size (w.alloc (.cells #[.int .i64 z, .int .i64 f, .slice a len cap] 24)) X → X.cell? ⟨w.heap.size, 0, none⟩ = some (.int .i64 z) ∧ X.cell? ⟨w.heap.size, 1, none⟩ = some (.int .i64 f) ∧ X.cell? ⟨w.heap.size, 2, none⟩ = some (.slice a len cap)) := Lib.hid (fun X hX => by
    obtain ⟨c, _⟩ := cells_one hX
    exact ⟨c 0, c 1, c 2⟩)
  clear hr hru hok huok
  go_enter Try.func3, Try.ntmps3
  go_wp2_with fail
  refine (awake16_any _).mono ?_
  rintro e y1 ⟨rfl, hb1⟩
  have HY1 := Lib.hid hb1
  obtain ⟨r0, r1, r2⟩ := HRC.out y1 hb1
  clear hb1
  go_wp2_with fail
  clear r0 r1 r2
  refine (long16_any z f a len cap ms y1 (HR.out.below HY1.out) HOK.out (by omega)).mono ?_
  rintro e y2 ⟨lb, rfl, hlb, hb2⟩
  have HY2 := Lib.hid (bthen HY1.out hb2)
  clear hb2
  cases lb
  case true =>
    go_wp2
    go_ret
    exact ⟨rfl, bthen HB0.out HY2.out⟩
  have hl5 : len ≤ 50 := hlb rfl
  clear hlb
  by_cases p0 : 60 < lenl
  · have p0' : decide (60 < lenl) = true := by simpa using p0
    go_wp2
    go_ret
    exact ⟨rfl, bthen HB0.out HY2.out⟩
  have p0' : decide (60 < lenl) = false := by simpa using p0
  go_wp2_with fail
  refine (filled_any size skew al lenl capl us y2 h0 h1 (HRU.out.below HY2.out) HUO.out hll).mono ?_
  rintro e y3 ⟨z1, f1, m1, a1, cap1, cnt, rfl, hck, hmo, hr1, hc1, hc2, hcn, hb3⟩
  have HCN := Lib.hid hcn
  clear hcn
  clear p0 p0'
  have HY3 := Lib.hid (bthen HY2.out hb3)
  have HCK := Lib.hid hck
  have HMO := Lib.hid hmo
  have HRS := Lib.hid (RS.new (bthen HY2.out hb3) z1 f1 hr1 hc1 hc2)
  have HL40 : Hid (m1.length ≤ 40) := Lib.hid (by have h := check_iff.1 hck; have h1 := h.1; have h2 := h.2.2.1; omega)
  clear hb3 hck hmo hr1
  obtain ⟨n1, hn1⟩ : ∃ n, m1.length = n := ⟨_, rfl⟩
  have HN1 := Lib.hid hn1
  rw [hn1] at hc1 HRS HL40 ⊢
  clear hn1
  have hn40 : n1 ≤ 40 := HL40.out
  go_upto_region 6 with fail
  generalize y3.alloc (.cells #[.int .i64 z1, .int .i64 f1, .slice a1 n1 cap1] 24) = V1 at *
  generalize hG : y3.heap.size = G at *
  clear hG
  obtain ⟨g0, g1, g2, g3, g4, g5, hGV⟩ := HRS.out.cells
  rw [HN1.out] at g2
  obtain ⟨r0, r1, r2⟩ := HRC.out V1 HRS.out.2.2.2.2.1
  have HFN : Hid (FRow V1 a1 n1 5 (mcells m1)) := Lib.hid (by have := HRS.out.2.1; rw [HN1.out] at this; exact this)
  have HCA : Hid (∀ x : BX V1, Calls Try.prog 13 #[.agg #[.int .i64 z1, .int .i64 f1, .slice a1 n1 cap1]] x.X fun e w' => e = .returned (.int .i64 0) ∧ Below x.X.heap.size x.X w') := Lib.hid (fun x => by
    have := check_any z1 f1 a1 n1 cap1 m1 x.X (HFN.out.below x.h) HMO.out hc1 hc2
    rw [HCK.out] at this
    exact this)
  have HCB : Hid (∀ x : BX V1, Calls Try.prog 13 #[.agg #[.int .i64 z, .int .i64 f, .slice a len cap]] x.X fun e w' => e = .returned (.int .i64 (checkErr z f ms)) ∧ Below x.X.heap.size x.X w') := Lib.hid (fun x => check_any z f a len cap ms x.X (HR.out.below (bthen HRS.out.2.2.2.2.1 x.h)) HOK.out hcap hcm)
  have HCC : Hid (∀ x : BX V1, Calls Try.prog 14 #[.agg #[.int .i64 z, .int .i64 f, .slice a len cap]] x.X fun e w' => e = .returned (.int .i64 (checkErr z f ms)) ∧ Below x.X.heap.size x.X w') := Lib.hid (fun x => refCheck_any z f a len cap ms x.X (HR.out.below (bthen HRS.out.2.2.2.2.1 x.h)) HOK.out hcap hcm)
  have g0' := BX.cell g0
  have g1' := BX.cell g1
  have g2' := BX.cell g2
  have r0' := BX.cell r0
  have r1' := BX.cell r1
  have r2' := BX.cell r2
  clear g0 g1 g2 g3 g4 g5 r0 r1 r2
  generalize checkErr z f ms = ce at *
  refine wp_region_below (by kernel_rfl) (by kernel_rfl) ?_
  repeat (go_big_quiet_step ((first | (go_at_call 13; first | (with_reducible exact Calls.below_of (HCA.out _)) | (with_reducible exact Calls.below_of (HCB.out _))) | (go_at_call 14; exact Calls.below_of (HCC.out _)))))
  refine wpQuiet_nil ?_
  rintro _ ⟨xq, rfl⟩
  have HRQ := Lib.hid (HRS.out.below xq.h)
  clear g0' g1' g2' r0' r1' r2' HCA HCB HCC HFN HRS HRC hGV
  generalize xq.X = V2 at *
  go_upto_region 8 with fail
  have HFR := Lib.hid HRQ.out.2.1
  obtain ⟨g0, g1, g2, g3, g4, g5, hGV⟩ := HRQ.out.cells
  rw [HN1.out] at g2
  obtain ⟨i0, hi, hz0, hz1, hz2⟩ := info_parts info_mark
  have HI0 := Lib.hid (And.intro hi (And.intro hz0 (And.intro hz1 hz2)))
  clear hi hz0 hz1 hz2
  have HVS : Hid ((w.alloc (.cells #[.int .i64 z, .int .i64 f, .slice a len cap] 24)).heap.size ≤ V2.heap.size) := Lib.hid HRQ.out.2.2.2.2.1.size
  have HOE : Hid ((V2.alloc (.cells #[] 36)).ownsRow (w.alloc (.cells #[.int .i64 z, .int .i64 f, .slice a len cap] 24)).heap.size 36 5 (.slice (some ⟨V2.heap.size, 0, none⟩) 0 0) 0 []) := Lib.hid (own_empty5 V2 36 _ HVS.out)
  have HSR : Hid (Src (V2.alloc (.cells #[] 36)) a1 (mcells m1)) := Lib.hid (by have := HFR.out; exact this.src.below (Below.alloc1 _ _))
  have HNC : Hid (a1 = none → n1 = 0 ∧ cap1 = 0) := Lib.hid (fun e => ⟨(by have := HFR.out.2; rw [HN1.out, e] at this; rcases this with h | ⟨_, _, h, _⟩; exact h; cases h), HCN.out e⟩)
  have HML : Hid ((mcells m1).length = n1 * 5) := Lib.hid (by rw [mcells_len, HN1.out])
  have HSZ : Hid ((w.alloc (.cells #[.int .i64 z, .int .i64 f, .slice a len cap] 24)).heap.size ≤ (V2.alloc (.cells #[] 36)).heap.size) := Lib.hid (by have := HVS.out; simp at this ⊢; omega)
  go_wp2_with (at_builtin; refine wpList_append_src _ rfl (.tmp 52) (.tmp 54) 22 rfl (w.alloc (.cells #[.int .i64 z, .int .i64 f, .slice a len cap] 24)).heap.size 36 i0 (.agg #[.string ByteArray.empty, .string ByteArray.empty, .string ByteArray.empty, .int .i64 0, .int .i64 0]) 5 64 Try.underlying22 HI0.out.1 HI0.out.2.1 HI0.out.2.2.1 HI0.out.2.2.2 rfl (by decide) _ 0 _ rfl HOE.out a1 n1 cap1 (mcells m1) rfl HNC.out HML.out HSR.out (one_marks m1) (by unfold maxLen; omega) (by omega) HSZ.out ?_)
  intro v' w1 hown hgrow hat
  obtain ⟨⟨u0, u1⟩, hrc⟩ := HRQ.out.own HMO.out (by rw [HN1.out]; omega) hgrow (by rw [HN1.out]; simpa using hown) hat
  have HRC1 := Lib.hid hrc
  have hGw : G < w1.heap.size := Nat.lt_of_lt_of_le (by simp; omega) hgrow.size
  rw [HN1.out] at u0
  obtain ⟨va, vc, rfl, hvc1, hvc2⟩ := own_isz hown
  unfold maxLen at hvc2
  clear hrc hown hgrow hat HOE HSR HSZ HI0 HFR HRQ g0 g1 g2 g3 g4 g5 HML HNC HVS
  go_upto_block 0 with fail
  generalize w1.setCell ⟨G, 2, none⟩ (.slice va n1 vc) = X1 at *
  have HB1 : Hid (Below (w.alloc (.cells #[.int .i64 z, .int .i64 f, .slice a len cap] 24)).heap.size (w.alloc (.cells #[.int .i64 z, .int .i64 f, .slice a len cap] 24)) X1) := Lib.hid HRC1.out.2.2.2.2.2.1
  generalize w.alloc (.cells #[.int .i64 z, .int .i64 f, .slice a len cap] 24) = W0 at *
  clear u0 u1 HB1
  have hf7 : 0 ≤ field % 7 ∧ field % 7 < 7 := by omega
  have HF7 := Lib.hid hf7
  go_cut [58] (fun _ X => Hid (∃ z2 f2 m2 v2, Rc W0 G z2 f2 m2 v2 X))
  case first =>
    obtain ⟨g0, g1, g2, g3, g4, g5, hGX⟩ := HRC1.out.cells
    by_cases c0 : field % 7 = 0
    · clear HF7 hf7
      rcases (by omega : at_ % 5 = 0 ∨ at_ % 5 = 1 ∨ at_ % 5 = 2 ∨ at_ % 5 = 3 ∨ at_ % 5 = 4) with e5 | e5 | e5 | e5 | e5
      all_goals (go_wp2; go_meet; exact Lib.hid ⟨_, _, _, _, (HRC1.out.set0 _).below (Below.alloc1 _ _)⟩)
    by_cases c1 : field % 7 = 1
    · clear HF7 hf7 c0
      have HFB : Hid (0 ≤ f1 ∧ f1 ≤ 4294967295) := Lib.hid (check_iff.1 HCK.out).2.1
      obtain ⟨fb1, fb2⟩ := HFB.out
      rcases (by omega : at_ % 5 = 0 ∨ at_ % 5 = 1 ∨ at_ % 5 = 2 ∨ at_ % 5 = 3 ∨ at_ % 5 = 4) with e5 | e5 | e5 | e5 | e5
      all_goals (go_wp2; go_meet; exact Lib.hid ⟨_, _, _, _, (HRC1.out.set1 _).below (Below.alloc1 _ _)⟩)
    have c0' : (field % 7 == 0) = false := by simpa using c0
    have c1' : (field % 7 == 1) = false := by simpa using c1
    by_cases c2 : field % 7 = 2
    · clear HF7 hf7 c0 c1 c0' c1'
      go_upto_region 15 with fail
      have HUK : Hid ((Us.mk at_ 0 0 0).ok) := Lib.hid ⟨ha, ⟨by simp, by simp⟩, ⟨by simp, by simp⟩, ⟨by simp, by simp⟩⟩
      have HMA : Hid (∀ X, Calls Try.prog 15 #[.agg #[.int .u8 at_, .int .u8 0, .int .u8 0, .int .u8 0]] X fun e w' => e = .returned (.agg #[.string (useMark ⟨at_, 0, 0, 0⟩).n, .string (useMark ⟨at_, 0, 0, 0⟩).i, .string (useMark ⟨at_, 0, 0, 0⟩).r, .int .i64 (useMark ⟨at_, 0, 0, 0⟩).t, .int .i64 (useMark ⟨at_, 0, 0, 0⟩).k]) ∧ Below X.heap.size X w') := Lib.hid (fun X => mark_any ⟨at_, 0, 0, 0⟩ X HUK.out)
      have HXO := Lib.hid (useMark_ok HUK.out)
      generalize useMark ⟨at_, 0, 0, 0⟩ = x at *
      obtain ⟨i0, hi, hz0, hz1, hz2⟩ := info_parts info_mark
      have HI0 := Lib.hid (And.intro hi (And.intro hz0 (And.intro hz1 hz2)))
      clear hi hz0 hz1 hz2
      go_region_law (first
        | (go_simp; go_at_call 15; refine (HMA.out _).mono ?_; rintro e y5 ⟨rfl, hb5⟩; have HX5 := Lib.hid (HRC1.out.below (bthen (Below.drewN1 _ 1 _) hb5)); obtain ⟨g0, g1, g2, g3, g4, g5, hGX⟩ := HX5.out.cells; have HRA := Lib.hid (HX5.out.below (Below.alloc1 y5 (.cells #[.string x.n, .string x.i, .string x.r, .int .i64 x.t, .int .i64 x.k] 36))); have HOW : Hid ((y5.alloc (.cells #[.string x.n, .string x.i, .string x.r, .int .i64 x.t, .int .i64 x.k] 36)).ownsRow W0.heap.size 36 5 (.slice va n1 vc) n1 (mcells m1)) := Lib.hid (by have := HRA.out.2.1; rw [HN1.out] at this; exact this); have HSR := Lib.hid (Src.cells5 y5 36 (.string x.n) (.string x.i) (.string x.r) (.int .i64 x.t) (.int .i64 x.k)); have HSZ := Lib.hid HRA.out.2.2.2.2.2.1.size; clear hb5)
        | (refine step_append_src _ (by rfl) (.tmp 89) (.tmp 93) 22 (by rfl) W0.heap.size 36 i0 (.agg #[.string ByteArray.empty, .string ByteArray.empty, .string ByteArray.empty, .int .i64 0, .int .i64 0]) 5 64 Try.underlying22 HI0.out.1 HI0.out.2.1 HI0.out.2.2.1 HI0.out.2.2.2 rfl (by decide) (.slice va n1 vc) n1 (mcells m1) (by rfl) ?_ (some ⟨y5.heap.size, 0, none⟩) 1 1 x.cells (by rfl) (fun h => (Option.some_ne_none _ h).elim) (by rfl) ?_ (one_mark x) ?_ ?_ ?_ ?_; (focus (exact HOW.out)); (focus (exact HSR.out)); (focus (unfold maxLen; omega)); (focus omega); (focus (exact HSZ.out)); intro v' w2 hown hgrow hat; have HRM := Lib.hid (HRA.out.more HXO.out (by rw [HN1.out]; exact hn40) hgrow (by rw [HN1.out]; exact hown) hat (by simp; omega)); have hG2 := (HRM.out.cells.2.2.2.2.2.2); have k2 : w2.cell? ⟨G, 2, none⟩ = some (.slice va n1 vc) := hgrow.cell (HRA.out.cells.2.2.1) (fun e => HRA.out.2.2.1 e.symm); have k3 : w2.frozen? ⟨G, 2, none⟩ = false := (World.frozen?_of_block (hgrow.block G HRA.out.cells.2.2.2.2.2.2 (fun e => HRA.out.2.2.1 e.symm))).trans HRA.out.cells.2.2.2.2.2.1; have hGw2 : G < w2.heap.size := World.block_lt_of_cell? _ _ k2; obtain ⟨va2, vc2, rfl, _, _⟩ := own_isz hown; clear hown hgrow hat g0 g1 g2 g3 g4 g5 hGX))
      all_goals (go_wp2; go_meet; exact Lib.hid ⟨_, _, _, _, HRM.out⟩)
    have c2' : (field % 7 == 2) = false := by simpa using c2
    clear c0 c1 c2
    go_wp2
    go_meet
    exact Lib.hid ⟨_, _, _, _, HRC1.out⟩
  case rest =>
    obtain ⟨z2, f2, m2, v2, hrc2⟩ := hcut.out
    have HRC2 := Lib.hid hrc2
    clear hrc2 HRC1
    obtain ⟨va2, vc2, rfl, hvd1, hvd2⟩ := own_isz HRC2.out.2.1
    unfold maxLen at hvd2
    have hm41 : m2.length ≤ 41 := HRC2.out.2.2.2.2.1
    obtain ⟨n2, hn2⟩ : ∃ n, m2.length = n := ⟨_, rfl⟩
    have HN2 := Lib.hid hn2
    rw [hn2] at hm41 hvd1 HRC2
    clear hn2
    obtain ⟨g0, g1, g2, g3, g4, g5, hGX⟩ := HRC2.out.cells
    go_upto_if 99 with fail
    go_cut [] (fun X => Hid (Rend W0 G X))
    case first =>
      by_cases hz : n2 = 0
      · have hz' : decide (0 < n2) = false := by simp; omega
        go_wp2
        go_meet
        exact Lib.hid HRC2.out.fin
      have hz0 : 0 < n2 := by omega
      have hz' : decide (0 < n2) = true := by simpa using hz0
      obtain ⟨g, gc, hv, hg1, hg2⟩ := World.ownsRow.form HRC2.out.2.1 (by rw [HN2.out]; exact hz0)
      rw [HN2.out] at hv
      injection hv with hva hvn hvc
      subst hva
      obtain ⟨k, hk, hkn⟩ : ∃ k : Nat, at_ % (n2 : Int) = k ∧ k < n2 := ⟨(at_ % (n2 : Int)).toNat, by have := Int.emod_nonneg at_ (by omega : (n2 : Int) ≠ 0); omega, by have := Int.emod_lt_of_pos at_ (by omega : (0 : Int) < n2); have := Int.emod_nonneg at_ (by omega : (n2 : Int) ≠ 0); omega⟩
      obtain ⟨x, hx, hxo, d0, d1, d2, d3, d4⟩ := HRC2.out.row hkn
      have HX := Lib.hid hx
      have HXO := Lib.hid hxo
      clear hx hxo
      have k0 := HRC2.out.froz (k * 5)
      have k1 := HRC2.out.froz (k * 5 + 1)
      have k2 := HRC2.out.froz (k * 5 + 2)
      have k3 := HRC2.out.froz (k * 5 + 3)
      have k4 := HRC2.out.froz (k * 5 + 4)
      have HA2 : Hid (0 ≤ at_ % 2 ∧ at_ % 2 < 2) := Lib.hid (by omega)
      obtain ⟨at1, at2⟩ := HA2.out
      clear hf7
      have q1 : (0 : Int) ≤ (k : Int) := by omega
      have q2 : (k : Int) < (n2 : Int) := by omega
      by_cases c3 : field % 7 = 3
      · have HE := Lib.hid (HRC2.out.put (m' := ⟨x.n, x.i, x.r, n, x.k⟩) (j := 3) (u := .int .i64 n) HX.out (by omega) rfl ⟨HXO.out.1, HXO.out.2.1, HXO.out.2.2.1, hn, HXO.out.2.2.2.2⟩).fin
        go_wp2
        go_meet
        exact HE
      have c3' : (field % 7 == 3) = false := by simpa using c3
      by_cases c4 : field % 7 = 4
      · have HE := Lib.hid (HRC2.out.put (m' := ⟨x.n, x.i, x.r, x.t, 199 + at_ % 2⟩) (j := 4) (u := .int .i64 (199 + at_ % 2)) HX.out (by omega) rfl ⟨HXO.out.1, HXO.out.2.1, HXO.out.2.2.1, HXO.out.2.2.2.1, ⟨by simp; omega, by simp; omega⟩⟩).fin
        go_wp2
        go_meet
        exact HE
      have c4' : (field % 7 == 4) = false := by simpa using c4
      by_cases c5 : field % 7 = 5
      · obtain ⟨y, _, hyo, e0, e1, e2, e3, e4⟩ := HRC2.out.row (k := 0) hz0
        simp only [Nat.zero_mul, Nat.zero_add] at e0 e1 e2 e3 e4
        obtain ⟨ms3, hE⟩ := HRC2.out.put5 HX.out hyo
        have HE := Lib.hid (hE.below (Below.drewN1 _ 1 _)).fin
        clear hE hyo
        go_upto_region 24 with fail
        go_region
        all_goals (go_wp2; go_meet; exact HE)
      have c5' : (field % 7 == 5) = false := by simpa using c5
      by_cases c6 : field % 7 = 6
      · have HE := Lib.hid (HRC2.out.put (m' := ⟨x.n, x.i, ByteArray.empty, x.t, x.k⟩) (j := 2) (u := .string ⟨#[]⟩) HX.out (by omega) rfl ⟨HXO.out.1, HXO.out.2.1, by simp [maxLen], HXO.out.2.2.2⟩).fin
        go_wp2
        go_meet
        exact HE
      have c6' : (field % 7 == 6) = false := by simpa using c6
      clear c3 c4 c5 c6
      go_wp2
      go_meet
      exact Lib.hid HRC2.out.fin
    case rest =>
      obtain ⟨z3, f3, m3, a3, cap3, hrs3, hok3, hl3⟩ := hcut.out
      have HR3 := Lib.hid hrs3
      have HO3 := Lib.hid hok3
      clear hrs3 hok3 HRC2 g0 g1 g2 g3 g4 g5 hGX hf7 HF7
      obtain ⟨n3, hn3⟩ : ∃ n, m3.length = n := ⟨_, rfl⟩
      have HN3 := Lib.hid hn3
      rw [hn3] at hl3
      clear hn3
      go_wp2_with fail
      refine (new_any _ _).mono ?_
      rintro e t1 ⟨rfl, hb1⟩
      have HT1 := Lib.hid hb1
      clear hb1
      go_wp2_with fail
      refine (refNew_any _ _).mono ?_
      rintro e t2 ⟨rfl, hb2⟩
      have HT2 := Lib.hid hb2
      clear hb2
      go_wp2_with fail
      refine (new_any _ _).mono ?_
      rintro e t3 ⟨rfl, hb3⟩
      have HT3 := Lib.hid hb3
      clear hb3
      go_wp2_with fail
      refine (refNew_any _ _).mono ?_
      rintro e t4 ⟨rfl, hb4⟩
      have HT4 := Lib.hid hb4
      clear hb4
      go_upto_region 31 with fail
      have HA1 := Lib.hid (RS.new (bthen HR3.out.2.2.2.2.1 HT1.out) (newZ n) 0 (ms := []) (FRow.none _) (Nat.le_refl _) (Nat.zero_le _))
      have HA2 := Lib.hid (RS.new (bthen HA1.out.2.2.2.2.1 HT2.out) (newZ n) 0 (ms := []) (FRow.none _) (Nat.le_refl _) (Nat.zero_le _))
      have HA3 := Lib.hid (RS.new (bthen HA2.out.2.2.2.2.1 HT3.out) (newZ (at_ % 43)) 0 (ms := []) (FRow.none _) (Nat.le_refl _) (Nat.zero_le _))
      have HA4 := Lib.hid (RS.new (bthen HA3.out.2.2.2.2.1 HT4.out) (newZ (at_ % 43)) 0 (ms := []) (FRow.none _) (Nat.le_refl _) (Nat.zero_le _))
      have HB3 := Lib.hid (bthen HT4.out (Below.alloc1 t4 (.cells #[.int .i64 (newZ (at_ % 43)), .int .i64 0, .slice none 0 0] 24)))
      have HB2 := Lib.hid (bthen (bthen HT3.out (Below.alloc1 t3 (.cells #[.int .i64 (newZ (at_ % 43)), .int .i64 0, .slice none 0 0] 24))) HB3.out)
      have HB1 := Lib.hid (bthen (bthen HT2.out (Below.alloc1 t2 (.cells #[.int .i64 (newZ n), .int .i64 0, .slice none 0 0] 24))) HB2.out)
      have HB0' := Lib.hid (bthen (bthen HT1.out (Below.alloc1 t1 (.cells #[.int .i64 (newZ n), .int .i64 0, .slice none 0 0] 24))) HB1.out)
      obtain ⟨p0, p1, p2, _⟩ := (HA1.out.below HB1.out).cells
      obtain ⟨q0, q1, q2, _⟩ := (HA2.out.below HB2.out).cells
      obtain ⟨s0, s1, s2, _⟩ := (HA3.out.below HB3.out).cells
      obtain ⟨u0, u1, u2, _⟩ := HA4.out.cells
      have HRV := Lib.hid (HR3.out.below HB0'.out)
      obtain ⟨g0, g1, g2, _⟩ := HRV.out.cells
      rw [HN3.out] at g2
      simp only [List.length_nil] at p2 q2 s2 u2
      clear HA1 HA2 HA3 HA4 HB1 HB2 HB3 HB0' HT1 HT2 HT3 HT4 HR3
      generalize t4.alloc (.cells #[.int .i64 (newZ (at_ % 43)), .int .i64 0, .slice none 0 0] 24) = V4 at *
      have HF3 : Hid (FRow V4 a3 n3 5 (mcells m3)) := Lib.hid (by have := HRV.out.2.1; rw [HN3.out] at this; exact this)
      have hc31 : n3 ≤ cap3 := by have := HRV.out.2.2.1; rw [HN3.out] at this; exact this
      have hc32 : cap3 ≤ 9223372036854775807 := HRV.out.2.2.2.1
      have HCA : Hid (∀ x : BX V4, Calls Try.prog 13 #[.agg #[.int .i64 z3, .int .i64 f3, .slice a3 n3 cap3]] x.X fun e w' => e = .returned (.int .i64 (checkErr z3 f3 m3)) ∧ Below x.X.heap.size x.X w') := Lib.hid (fun x => check_any z3 f3 a3 n3 cap3 m3 x.X (HF3.out.below x.h) HO3.out hc31 hc32)
      have HCB : Hid (∀ x : BX V4, Calls Try.prog 14 #[.agg #[.int .i64 z3, .int .i64 f3, .slice a3 n3 cap3]] x.X fun e w' => e = .returned (.int .i64 (checkErr z3 f3 m3)) ∧ Below x.X.heap.size x.X w') := Lib.hid (fun x => refCheck_any z3 f3 a3 n3 cap3 m3 x.X (HF3.out.below x.h) HO3.out hc31 hc32)
      have HSM : Hid (∀ (v : Int) (x : BX V4), Calls Try.prog 18 #[.agg #[.int .i64 (newZ v), .int .i64 0, .slice none 0 0], .agg #[.int .i64 (newZ v), .int .i64 0, .slice none 0 0]] x.X fun e w' => e = .returned (.bool true) ∧ Below x.X.heap.size x.X w') := Lib.hid (fun v x => same_any (newZ v) 0 none 0 none 0 0 [] x.X (FRow.none _) (FRow.none _) (by omega))
      have g0' := BX.cell g0
      have g1' := BX.cell g1
      have g2' := BX.cell g2
      have p0' := BX.cell p0
      have p1' := BX.cell p1
      have p2' := BX.cell p2
      have q0' := BX.cell q0
      have q1' := BX.cell q1
      have q2' := BX.cell q2
      have s0' := BX.cell s0
      have s1' := BX.cell s1
      have s2' := BX.cell s2
      have u0' := BX.cell u0
      have u1' := BX.cell u1
      have u2' := BX.cell u2
      clear g0 g1 g2 p0 p1 p2 q0 q1 q2 s0 s1 s2 u0 u1 u2
      generalize checkErr z3 f3 m3 = ce3 at *
      refine wp_region_below (by kernel_rfl) (by kernel_rfl) ?_
      repeat (go_big_quiet_step ((first | (go_at_call 13; exact Calls.below_of (HCA.out _)) | (go_at_call 14; exact Calls.below_of (HCB.out _)) | (go_at_call 18; exact Calls.below_of (HSM.out _ _)))))
      refine wpQuiet_nil ?_
      rintro _ ⟨xq, rfl⟩
      go_wp2
      go_ret
      exact ⟨ret_bool (by simp), bthen HB0.out (bthen HRV.out.2.2.2.2.1 xq.h)⟩
end ReplayChecks
end Go.Proofs.Ytegcdefdkebmnaa
