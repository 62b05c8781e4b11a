/- The walk of ReplayAdds. -/
import Derived.Test.YtegcdefdkebmnaaRep
namespace Go.Proofs.Ytegcdefdkebmnaa
open Go.RowKit
namespace ReplayAdds
attribute [local go_sem ↓] Go.wp_at_zero Go.wp_at_succ

set_option maxRecDepth 100000 in
set_option maxHeartbeats 8000000 in
theorem walk0 (size skew : Int) (al : Option Addr) (len cap : Nat) (us : List Us) (m : Mk) (now other : Int) (w : World) (h0 : 0 ≤ size ∧ size ≤ 255) (h1 : 0 ≤ skew ∧ skew ≤ 255) (hr : FRow w al len 4 (ucells us)) (hok : ∀ u ∈ us, u.ok) (hmo : m.ok) (hll : len ≤ 9223372036854775807) :
    Calls Try.prog 4 #[.int .u8 size, .int .u8 skew, .slice al len cap, .agg #[.string m.n, .string m.i, .string m.r, .int .i64 m.t, .int .i64 m.k], .int .i64 now, .int .i64 other] w fun e w' => e = .returned (.bool true) ∧ Below w.heap.size w w' := by
  have HB1 := Lib.hid (Below.alloc1 w (.cells #[.string m.n, .string m.i, .string m.r, .int .i64 m.t, .int .i64 m.k] 36))
  have HR := Lib.hid (hr.below HB1.out)
  have HOK := Lib.hid hok
  have HMO := Lib.hid hmo
  have HMC : Hid (∀ X, Below (w.alloc (.cells #[.string m.n, .string m.i, .string m.r, .int .i64 m.t, .int .i64 m.k] 36)).heap.size (w.alloc (.cells #[.string m.n, .string m.i, .string m.r, .int .i64 m.t, .int .i64 m.k] 36)) X → X.cell? ⟨w.heap.size, 0, none⟩ = some (.string m.n) ∧ X.cell? ⟨w.heap.size, 1, none⟩ = some (.string m.i) ∧ X.cell? ⟨w.heap.size, 2, none⟩ = some (.string m.r) ∧ X.cell? ⟨w.heap.size, 3, none⟩ = some (.int .i64 m.t) ∧ X.cell? ⟨w.heap.size, 4, none⟩ = some (.int .i64 m.k)) := Lib.hid (fun X hX => by
    obtain ⟨c, _⟩ := cells_one hX
    exact ⟨c 0, c 1, c 2, c 3, c 4⟩)
  obtain ⟨o1, o2, o3, _, _⟩ := hmo
  unfold maxLen at o1 o2 o3
  clear hr hok
  go_enter Try.func4, Try.ntmps4
  go_wp2_with fail
  refine (awake16_any _).mono ?_
  rintro e y1 ⟨rfl, hb1⟩
  have HY1 := Lib.hid hb1
  have HBY : Hid (Below w.heap.size w y1) := Lib.hid (bthen HB1.out hb1)
  obtain ⟨m0, m1, m2, m3, m4⟩ := HMC.out y1 hb1
  clear hb1
  by_cases p0 : 60 < len
  · have p0' : decide (60 < len) = true := by simpa using p0
    go_wp2
    go_ret
    exact ⟨rfl, HBY.out⟩
  have p0' : decide (60 < len) = false := by simpa using p0
  by_cases p1 : 100 < m.n.size
  · have p1' : decide (100 < m.n.size) = true := by simpa using p1
    go_wp2
    go_ret
    exact ⟨rfl, HBY.out⟩
  have p1' : decide (100 < m.n.size) = false := by simpa using p1
  by_cases p2 : 100 < m.i.size
  · have p2' : decide (100 < m.i.size) = true := by simpa using p2
    go_wp2
    go_ret
    exact ⟨rfl, HBY.out⟩
  have p2' : decide (100 < m.i.size) = false := by simpa using p2
  by_cases p3 : 100 < m.r.size
  · have p3' : decide (100 < m.r.size) = true := by simpa using p3
    go_wp2
    go_ret
    exact ⟨rfl, HBY.out⟩
  have p3' : decide (100 < m.r.size) = false := by simpa using p3
  go_wp2_with fail
  refine (refNew_any _ _).mono ?_
  rintro e y2 ⟨rfl, hb2⟩
  have HZ : Hid (newZ (1 + size % 40) = 1 + size % 40 ∧ newErr (1 + size % 40) = 0) := Lib.hid ⟨by rw [newZ, wiB_mk (by omega) (by omega)]; rfl, by rw [newErr, wiB_mk (by omega) (by omega)]; rfl⟩
  rw [HZ.out.1, HZ.out.2]
  have HRS := Lib.hid (RS.new (bthen HY1.out hb2) (1 + size % 40) 0 (ms := []) (FRow.none _) (Nat.le_refl _) (Nat.zero_le _))
  clear hb2 m0 m1 m2 m3 m4 p0' p1 p1' p2 p2' p3 p3'
  go_wp2
  have HST : Hid (∃ z f ms a cap, RS (w.alloc (.cells #[.string m.n, .string m.i, .string m.r, .int .i64 m.t, .int .i64 m.k] 36)) y2.heap.size z f ms a cap (y2.alloc (.cells #[.int .i64 (1 + size % 40), .int .i64 0, .slice none 0 0] 24)) ∧ (∀ x ∈ ms, x.ok) ∧ ms.length ≤ 0) := Lib.hid ⟨_, _, [], _, _, HRS.out, (fun x hx => by cases hx), Nat.le_refl _⟩
  clear HRS HBY HY1 HZ
  have hHW : w.heap.size < (w.alloc (.cells #[.string m.n, .string m.i, .string m.r, .int .i64 m.t, .int .i64 m.k] 36)).heap.size := by simp
  generalize (w.alloc (.cells #[.string m.n, .string m.i, .string m.r, .int .i64 m.t, .int .i64 m.k] 36)) = W1 at *
  generalize y2.alloc (.cells #[.int .i64 (1 + size % 40), .int .i64 0, .slice none 0 0] 24) = V0 at *
  generalize y2.heap.size = G at *
  have hws : IntKind.i64.wrap skew = skew := IntWalk.i64_in _ (by omega)
  go_loopw [15] (fun i wr => ∃ k : Nat, k ≤ len ∧ i = .int .i64 k ∧ Hid (∃ z f ms a cap, RS W1 G z f ms a cap wr ∧ (∀ x ∈ ms, x.ok) ∧ ms.length ≤ k)) (fun i _ => len - (intOf i).toNat)
  case atStart => exact ⟨0, Nat.zero_le _, rfl, HST⟩
  case round =>
    obtain ⟨k, hk, rfl, HI⟩ := hrel
    clear HST
    obtain ⟨z, f, ms, a, cp, hrs, hmok, hmk⟩ := HI.out
    have HRS := Lib.hid hrs
    have HMK := Lib.hid hmok
    clear hrs hmok HI
    by_cases hlt : k < len
    · obtain ⟨b, off, u, rfl, hu, c0, c1, c2, c3⟩ := (HR.out.below HRS.out.2.2.2.2.1).use hlt
      have HUO := Lib.hid (HOK.out u (List.mem_of_getElem? hu))
      obtain ⟨v1, v2, v3, v4⟩ := HUO.out
      clear hu
      have hbq : b < wr.heap.size := World.block_lt_of_cell? _ _ c0
      have n0 := World.new_ne wr _ c0
      have n1 := World.new_ne wr _ c1
      have n2 := World.new_ne wr _ c2
      have n3 := World.new_ne wr _ c3
      have hne1 : ¬ b = wr.heap.size := by omega
      have hne2 : ¬ wr.heap.size = b := by omega
      have q1 : (0 : Int) ≤ (k : Int) := by omega
      have q2 : (k : Int) < (len : Int) := by omega
      have a1 : IntKind.i64.wrap u.now = u.now := IntWalk.i64_in _ (by omega)
      have a2 : u.now.tdiv 2 = u.now / 2 := Int.tdiv_eq_ediv_of_nonneg (by omega)
      have a3 : IntKind.i64.wrap (u.now / 2) = u.now / 2 := IntWalk.i64_in _ (by omega)
      have a4 : IntKind.i64.wrap (1000 + u.now / 2) = 1000 + u.now / 2 := IntWalk.i64_in _ (by omega)
      have HMA : Hid (∀ X, Calls Try.prog 15 #[.agg #[.int .u8 u.who, .int .u8 u.time, .int .u8 u.tick, .int .u8 u.now]] X fun e w' => e = .returned (.agg #[.string (useMark u).n, .string (useMark u).i, .string (useMark u).r, .int .i64 (useMark u).t, .int .i64 (useMark u).k]) ∧ Below X.heap.size X w') := Lib.hid (fun X => mark_any u X HUO.out)
      go_upto_region 9 with fail
      go_cut [16, 17] (fun v t X => t = .int .i64 (1000 + u.now / 2) ∧ ∃ G16, v = .pointer (some ⟨G16, 0, none⟩) ∧ Hid (MV X G16 (useMark u) ∧ wr.heap.size ≤ G16 ∧ Below wr.heap.size wr X))
      case first =>
        go_region_held3 (fun X => X.cell? ⟨b, off + k * 4, none⟩ = some (.int .u8 u.who) ∧ X.cell? ⟨b, off + k * 4 + 1, none⟩ = some (.int .u8 u.time) ∧ X.cell? ⟨b, off + k * 4 + 2, none⟩ = some (.int .u8 u.tick) ∧ X.cell? ⟨b, off + k * 4 + 3, none⟩ = some (.int .u8 u.now)) (first | go_keep) (first | (go_simp; go_at_call 15; refine (HMA.out _).mono ?_; rintro e y3 ⟨rfl, hb3⟩; have HY3 : Hid (Below wr.heap.size wr y3) := (by first | exact Lib.hid (bthen (Below.drewN1 _ 1 _) hb3) | exact Lib.hid (bthen (bthen (Below.alloc1 _ _) (Below.drewN1 _ 1 _)) hb3)); have d0 := (HY3.out.cell (p := ⟨b, off + k * 4, none⟩) hbq).trans c0; have d1 := (HY3.out.cell (p := ⟨b, off + k * 4 + 1, none⟩) hbq).trans c1; have d2 := (HY3.out.cell (p := ⟨b, off + k * 4 + 2, none⟩) hbq).trans c2; have d3 := (HY3.out.cell (p := ⟨b, off + k * 4 + 3, none⟩) hbq).trans c3; have hbq3 : b < y3.heap.size := (World.block_lt_of_cell? _ _ d0); obtain ⟨hc3, hf3⟩ := bcell hb3; have hz3 := hb3.size; (try simp at hz3); (try have hq3 : wr.heap.size < y3.heap.size := (by omega)); (try have HBK := Lib.hid ((hb3.block wr.heap.size (by simp)).trans (heap_alloc_new wr _))); clear hb3))
        all_goals (go_wp2_with fail; go_meet; refine ⟨rfl, ?_⟩; first | exact endD HY3.out (useMark u) | exact endE HY3.out (Nat.le_refl _) HBK.out (useMark u))
      case rest =>
        obtain ⟨rfl, G16, rfl, HC⟩ := hcut
        clear c0 c1 c2 c3 n0 n1 n2 n3 hbq hne1 hne2 a1 a2 a3 a4 HMA
        have HRC := Lib.hid (HRS.out.below HC.out.2.2)
        clear HRS
        obtain ⟨nm, hnm⟩ : ∃ nm, ms.length = nm := ⟨_, rfl⟩
        have HNM := Lib.hid hnm
        obtain ⟨g0, g1, g2, _, _, _, gz⟩ := HRC.out.cells
        rw [hnm] at g2 hmk
        clear hnm
        have HFC : Hid (FRow wc a nm 5 (mcells ms)) := Lib.hid (by have := HRC.out.2.1; rw [HNM.out] at this; exact this)
        have HCC : Hid (nm ≤ cp ∧ cp ≤ 9223372036854775807) := Lib.hid ⟨by have := HRC.out.2.2.1; rw [HNM.out] at this; exact this, HRC.out.2.2.2.1⟩
        have HMX := Lib.hid HC.out.1
        obtain ⟨x0, x1, x2, x3, x4⟩ := HC.out.1
        go_wp2_with fail
        clear g0 g1 g2 x0 x1 x2 x3 x4
        refine (add_any z f a nm cp ms (useMark u) (1000 + u.now / 2) (skew % 40) wc HFC.out HMK.out (useMark_ok HUO.out) HCC.out.1 HCC.out.2 (by omega)).mono ?_
        rintro e y2 ⟨va, rfl, hown2, hb2⟩
        have HNL : Hid ((addM z f ms (useMark u) (1000 + u.now / 2) (skew % 40)).length ≤ nm + 1) := Lib.hid (by have := addM_len z f ms (useMark u) (1000 + u.now / 2) (skew % 40); rw [HNM.out] at this; exact this)
        have HAO : Hid (∀ y ∈ addM z f ms (useMark u) (1000 + u.now / 2) (skew % 40), y.ok) := Lib.hid (addM_ok HMK.out (useMark_ok HUO.out))
        obtain ⟨a2, cap2, hv2, hr2, _⟩ := CachePost.row hown2
        have HF2 := Lib.hid hr2
        have HB2' := Lib.hid hb2
        rw [hv2]
        clear hv2 hr2 hown2 hb2
        generalize hzA : addZ z f ms (useMark u) (1000 + u.now / 2) (skew % 40) = zA at *
        generalize hfA : addF z f ms (useMark u) (1000 + u.now / 2) (skew % 40) = fA at *
        generalize hmA : addM z f ms (useMark u) (1000 + u.now / 2) (skew % 40) = mA at *
        generalize heA : addErr z f ms (useMark u) (1000 + u.now / 2) (skew % 40) = eA at *
        have HEQ := Lib.hid (And.intro hzA (And.intro hfA (And.intro hmA heA)))
        clear hzA hfA hmA heA
        obtain ⟨nA, HNA⟩ : ∃ n, Hid (mA.length = n) := ⟨_, Lib.hid rfl⟩
        rw [HNA.out] at HNL HF2 ⊢
        have HV2 : Hid (Below wc.heap.size wc (y2.alloc (.cells #[.int .i64 zA, .int .i64 fA, .slice a2 nA cap2] 24))) := Lib.hid (bthen HB2'.out (Below.alloc1 _ _))
        obtain ⟨g0, g1, g2, _, _, _, gz2⟩ := (HRC.out.below HV2.out).cells
        rw [HNM.out] at g2
        obtain ⟨x0, x1, x2, x3, x4⟩ := HMX.out.below HV2.out
        go_wp2_with fail
        clear g0 g1 g2 x0 x1 x2 x3 x4
        refine (refAdd16_any z f a nm cp ms (useMark u) (1000 + u.now / 2) (skew % 40) _ (HFC.out.below HV2.out) HMK.out (useMark_ok HUO.out) HCC.out.1 HCC.out.2 (by omega)).mono ?_
        rintro e y3 ⟨vb, rfl, hown3, hb3⟩
        rw [HEQ.out.2.2.1] at hown3
        rw [HEQ.out.1, HEQ.out.2.1, HEQ.out.2.2.2]
        obtain ⟨a3, cap3, hv3, hr3, hk1, hk2, hbl3⟩ := CachePost.row hown3
        have HF3 := Lib.hid hr3
        have HB3' := Lib.hid hb3
        have HK3 := Lib.hid (And.intro hk1 (And.intro hk2 hbl3))
        rw [hv3]
        clear hv3 hr3 hown3 hb3 hk1 hk2 hbl3
        rw [HNA.out] at HF3 ⊢
        go_upto_region 12 with fail
        have HV3 : Hid (Below wc.heap.size wc (y3.alloc (.cells #[.int .i64 zA, .int .i64 fA, .slice a3 nA cap3] 24))) := Lib.hid (bthen (bthen HV2.out HB3'.out) (Below.alloc1 _ _))
        have HS : Hid (∀ X, Below (y3.alloc (.cells #[.int .i64 zA, .int .i64 fA, .slice a3 nA cap3] 24)).heap.size (y3.alloc (.cells #[.int .i64 zA, .int .i64 fA, .slice a3 nA cap3] 24)) X → X.cell? ⟨y2.heap.size, 0, none⟩ = some (.int .i64 zA) ∧ X.cell? ⟨y2.heap.size, 1, none⟩ = some (.int .i64 fA) ∧ X.cell? ⟨y2.heap.size, 2, none⟩ = some (.slice a2 nA cap2) ∧ X.cell? ⟨y3.heap.size, 0, none⟩ = some (.int .i64 zA) ∧ X.cell? ⟨y3.heap.size, 1, none⟩ = some (.int .i64 fA) ∧ X.cell? ⟨y3.heap.size, 2, none⟩ = some (.slice a3 nA cap3) ∧ X.cell? ⟨G, 0, none⟩ = some (.int .i64 z) ∧ X.cell? ⟨G, 1, none⟩ = some (.int .i64 f) ∧ X.cell? ⟨G, 2, none⟩ = some (.slice a nm cp) ∧ X.cell? ⟨G16, 0, none⟩ = some (.string (useMark u).n) ∧ X.cell? ⟨G16, 1, none⟩ = some (.string (useMark u).i) ∧ X.cell? ⟨G16, 2, none⟩ = some (.string (useMark u).r) ∧ X.cell? ⟨G16, 3, none⟩ = some (.int .i64 (useMark u).t) ∧ X.cell? ⟨G16, 4, none⟩ = some (.int .i64 (useMark u).k)) := Lib.hid (fun X hX => by
          obtain ⟨p1, p2, _⟩ := cells_two HB3'.out hX
          obtain ⟨g0, g1, g2, _⟩ := (HRC.out.below (bthen HV3.out hX)).cells
          rw [HNM.out] at g2
          obtain ⟨x0, x1, x2, x3, x4⟩ := HMX.out.below (bthen HV3.out hX)
          exact ⟨p1 0, p1 1, p1 2, p2 0, p2 1, p2 2, g0, g1, g2, x0, x1, x2, x3, x4⟩)
        have HSA : Hid (∀ X, Below (y3.alloc (.cells #[.int .i64 zA, .int .i64 fA, .slice a3 nA cap3] 24)).heap.size (y3.alloc (.cells #[.int .i64 zA, .int .i64 fA, .slice a3 nA cap3] 24)) X → Calls Try.prog 18 #[.agg #[.int .i64 zA, .int .i64 fA, .slice a2 nA cap2], .agg #[.int .i64 zA, .int .i64 fA, .slice a3 nA cap3]] X fun e w' => e = .returned (.bool true) ∧ Below X.heap.size X w') := Lib.hid (fun X hX => same_any zA fA a2 cap2 a3 cap3 nA mA X (((HF2.out.below (Below.alloc1 _ _)).below HB3'.out).below (bthen (Below.alloc1 _ _) hX)) (HF3.out.below (bthen (Below.alloc1 _ _) hX)) (by have := HNL.out; omega))
        have HHA : Hid (∀ X, Below (y3.alloc (.cells #[.int .i64 zA, .int .i64 fA, .slice a3 nA cap3] 24)).heap.size (y3.alloc (.cells #[.int .i64 zA, .int .i64 fA, .slice a3 nA cap3] 24)) X → Calls Try.prog 21 #[.agg #[.int .i64 z, .int .i64 f, .slice a nm cp], .agg #[.string (useMark u).n, .string (useMark u).i, .string (useMark u).r, .int .i64 (useMark u).t, .int .i64 (useMark u).k]] X fun e w' => e = .returned (.bool (hasB ms (useMark u))) ∧ Below X.heap.size X w') := Lib.hid (fun X hX => has_any z f a nm cp ms (useMark u) X (HFC.out.below (bthen HV3.out hX)) (by omega))
        have HHB : Hid (∀ X, Below (y3.alloc (.cells #[.int .i64 zA, .int .i64 fA, .slice a3 nA cap3] 24)).heap.size (y3.alloc (.cells #[.int .i64 zA, .int .i64 fA, .slice a3 nA cap3] 24)) X → Calls Try.prog 22 #[.agg #[.int .i64 z, .int .i64 f, .slice a nm cp], .agg #[.string (useMark u).n, .string (useMark u).i, .string (useMark u).r, .int .i64 (useMark u).t, .int .i64 (useMark u).k]] X fun e w' => e = .returned (.bool (hasB ms (useMark u))) ∧ Below X.heap.size X w') := Lib.hid (fun X hX => refHas_any z f a nm cp ms (useMark u) X (HFC.out.below (bthen HV3.out hX)) (by omega))
        have HQ0 : Hid (Below (y3.alloc (.cells #[.int .i64 zA, .int .i64 fA, .slice a3 nA cap3] 24)).heap.size (y3.alloc (.cells #[.int .i64 zA, .int .i64 fA, .slice a3 nA cap3] 24)) (y3.alloc (.cells #[.int .i64 zA, .int .i64 fA, .slice a3 nA cap3] 24)).drew) := Lib.hid (Below.refl _ _).drew
        have HF3A := Lib.hid (HF3.out.below (Below.alloc1 y3 (.cells #[.int .i64 zA, .int .i64 fA, .slice a3 nA cap3] 24)))
        have hy3 : y3.heap.size < (y3.alloc (.cells #[.int .i64 zA, .int .i64 fA, .slice a3 nA cap3] 24)).heap.size := by simp
        generalize hasB ms (useMark u) = hb at *
        generalize (y3.alloc (.cells #[.int .i64 zA, .int .i64 fA, .slice a3 nA cap3] 24)) = V3 at *
        go_region_held3 (fun X => X.cell? ⟨y2.heap.size, 0, none⟩ = some (.int .i64 zA) ∧ X.cell? ⟨y2.heap.size, 1, none⟩ = some (.int .i64 fA) ∧ X.cell? ⟨y2.heap.size, 2, none⟩ = some (.slice a2 nA cap2) ∧ X.cell? ⟨y3.heap.size, 0, none⟩ = some (.int .i64 zA) ∧ X.cell? ⟨y3.heap.size, 1, none⟩ = some (.int .i64 fA) ∧ X.cell? ⟨y3.heap.size, 2, none⟩ = some (.slice a3 nA cap3) ∧ X.cell? ⟨G, 0, none⟩ = some (.int .i64 z) ∧ X.cell? ⟨G, 1, none⟩ = some (.int .i64 f) ∧ X.cell? ⟨G, 2, none⟩ = some (.slice a nm cp) ∧ X.cell? ⟨G16, 0, none⟩ = some (.string (useMark u).n) ∧ X.cell? ⟨G16, 1, none⟩ = some (.string (useMark u).i) ∧ X.cell? ⟨G16, 2, none⟩ = some (.string (useMark u).r) ∧ X.cell? ⟨G16, 3, none⟩ = some (.int .i64 (useMark u).t) ∧ X.cell? ⟨G16, 4, none⟩ = some (.int .i64 (useMark u).k)) (first | exact HS.out _ HQ3.out | exact HS.out _ HQ2.out | exact HS.out _ HQ1.out | exact HS.out _ HQ0.out) (first | (go_simp; go_at_call 18; refine (HSA.out _ ?_).mono ?_; (focus (first | exact HQ2.out | exact HQ1.out | exact HQ0.out)); rintro e y4 ⟨rfl, hb4⟩; first | (have HQ3 := Lib.hid (bthen HQ2.out hb4); clear hb4) | (have HQ2 := Lib.hid (bthen HQ1.out hb4); clear hb4) | (have HQ1 := Lib.hid (bthen HQ0.out hb4); clear hb4)) | (go_simp; go_at_call 21; refine (HHA.out _ ?_).mono ?_; (focus (first | exact HQ2.out | exact HQ1.out | exact HQ0.out)); rintro e y4 ⟨rfl, hb4⟩; first | (have HQ3 := Lib.hid (bthen HQ2.out hb4); clear hb4) | (have HQ2 := Lib.hid (bthen HQ1.out hb4); clear hb4) | (have HQ1 := Lib.hid (bthen HQ0.out hb4); clear hb4)) | (go_simp; go_at_call 22; refine (HHB.out _ ?_).mono ?_; (focus (first | exact HQ2.out | exact HQ1.out | exact HQ0.out)); rintro e y4 ⟨rfl, hb4⟩; first | (have HQ3 := Lib.hid (bthen HQ2.out hb4); clear hb4) | (have HQ2 := Lib.hid (bthen HQ1.out hb4); clear hb4) | (have HQ1 := Lib.hid (bthen HQ0.out hb4); clear hb4)))
        obtain ⟨p0, p1, p2, s0, s1, s2, g0, g1, g2, _⟩ := HS.out _ HQ3.out
        have HRN := Lib.hid (HRC.out.below (bthen HV3.out HQ3.out))
        obtain ⟨_, _, _, f0, f1, f2, gz3⟩ := HRN.out.cells
        by_cases heA : eA = 0
        · have heA' : (eA == 0) = true := by simpa using heA
          have HRX := Lib.hid (HRN.out.store (z' := zA) (f' := fA) (ms' := mA) (a' := a3) (cap' := cap3) (by rw [HNA.out]; exact HF3A.out.below HQ3.out) HK3.out.1 HK3.out.2.1 (fun q hq _ e => by have := HK3.out.2.2 q hq; omega))
          rw [HNA.out] at HRX
          clear heA
          go_wp2
          go_roundw
          case rel => exact ⟨k + 1, by omega, by go_num, Lib.hid ⟨zA, fA, mA, a3, cap3, HRX.out, HAO.out, by have := HNL.out; rw [HNA.out]; omega⟩⟩
          case measure => simp [intOf]; omega
        · have heA' : (eA == 0) = false := by simpa using heA
          clear heA
          go_wp2
          go_roundw
          case rel => exact ⟨k + 1, by omega, by go_num, Lib.hid ⟨z, f, ms, a, cp, HRN.out, HMK.out, by have := HNM.out; omega⟩⟩
          case measure => simp [intOf]; omega
    · have HRS' := HRS
      obtain ⟨nm, hnm⟩ : ∃ nm, ms.length = nm := ⟨_, rfl⟩
      have HNM := Lib.hid hnm
      rw [hnm] at hmk
      clear hnm HRS
      obtain ⟨wo, rfl⟩ : ∃ wo : World, wo = wr := ⟨_, rfl⟩
      go_wp2
      go_loopw [22] (fun i wq => ∃ j : Nat, j ≤ 3 ∧ i = .int .i64 j ∧ Hid (RS W1 G z f ms a cp wq)) (fun i _ => 3 - (intOf i).toNat)
      case atStart => exact ⟨0, by omega, rfl, HRS'⟩
      case round =>
        obtain ⟨j, hj, rfl, HRQ⟩ := hrel
        clear HRS'
        obtain ⟨wq, rfl⟩ : ∃ wq : World, wq = wr := ⟨_, rfl⟩
        obtain ⟨m0, m1, m2, m3, m4⟩ := HMC.out wq HRQ.out.2.2.2.2.1
        have hHq : w.heap.size < wq.heap.size := World.block_lt_of_cell? _ _ m0
        have h3 : j = 0 ∨ j = 1 ∨ j = 2 ∨ j = 3 := by omega
        rcases h3 with rfl | rfl | rfl | rfl
        · go_upto_region 19 with fail
          go_cut [23, 24] (fun t s X => t = .int .i64 now ∧ s = .int .i64 other ∧ Hid (Below wq.heap.size wq X))
          case first =>
            go_region
            all_goals (go_wp2_with fail; go_meet; exact ⟨rfl, rfl, Lib.hid (bthen (bthen (Below.alloc1 _ _) (Below.alloc1 _ _)) (Below.drewN1 _ 1 _))⟩)
          case rest =>
            obtain ⟨rfl, rfl, HC⟩ := hcut
            clear m0 m1 m2 m3 m4
            have HRC := Lib.hid (HRQ.out.below HC.out)
            have HFC : Hid (FRow wc a nm 5 (mcells ms)) := Lib.hid (by have := HRC.out.2.1; rw [HNM.out] at this; exact this)
            have HCC : Hid (nm ≤ cp ∧ cp ≤ 9223372036854775807) := Lib.hid ⟨by have := HRC.out.2.2.1; rw [HNM.out] at this; exact this, HRC.out.2.2.2.1⟩
            obtain ⟨g0, g1, g2, _, _, _, gz⟩ := HRC.out.cells
            rw [HNM.out] at g2
            obtain ⟨m0, m1, m2, m3, m4⟩ := HMC.out wc HRC.out.2.2.2.2.1
            go_wp2_with fail
            clear g0 g1 g2 m0 m1 m2 m3 m4
            refine (add_any z f a nm cp ms m now other wc HFC.out HMK.out HMO.out HCC.out.1 HCC.out.2 (by omega)).mono ?_
            rintro e y2 ⟨va, rfl, hown2, hb2⟩
            have HNL : Hid ((addM z f ms m now other).length ≤ nm + 1) := Lib.hid (by have := addM_len z f ms m now other; rw [HNM.out] at this; exact this)
            obtain ⟨a2, cap2, hv2, hr2, _⟩ := CachePost.row hown2
            have HF2 := Lib.hid hr2
            have HB2' := Lib.hid hb2
            rw [hv2]
            clear hv2 hr2 hown2 hb2
            generalize hzA : addZ z f ms m now other = zA at *
            generalize hfA : addF z f ms m now other = fA at *
            generalize hmA : addM z f ms m now other = mA at *
            generalize heA : addErr z f ms m now other = eA at *
            have HEQ := Lib.hid (And.intro hzA (And.intro hfA (And.intro hmA heA)))
            clear hzA hfA hmA heA
            obtain ⟨nA, HNA⟩ : ∃ n, Hid (mA.length = n) := ⟨_, Lib.hid rfl⟩
            rw [HNA.out] at HNL HF2 ⊢
            have HV2 : Hid (Below wc.heap.size wc (y2.alloc (.cells #[.int .i64 zA, .int .i64 fA, .slice a2 nA cap2] 24))) := Lib.hid (bthen HB2'.out (Below.alloc1 _ _))
            obtain ⟨g0, g1, g2, _, _, _, gz2⟩ := (HRC.out.below HV2.out).cells
            rw [HNM.out] at g2
            obtain ⟨m0, m1, m2, m3, m4⟩ := HMC.out _ (HRC.out.below HV2.out).2.2.2.2.1
            go_wp2_with fail
            clear g0 g1 g2 m0 m1 m2 m3 m4
            refine (refAdd16_any z f a nm cp ms m now other _ (HFC.out.below HV2.out) HMK.out HMO.out HCC.out.1 HCC.out.2 (by omega)).mono ?_
            rintro e y3 ⟨vb, rfl, hown3, hb3⟩
            rw [HEQ.out.2.2.1] at hown3
            rw [HEQ.out.1, HEQ.out.2.1, HEQ.out.2.2.2]
            obtain ⟨a3, cap3, hv3, hr3, _⟩ := CachePost.row hown3
            have HF3 := Lib.hid hr3
            have HB3' := Lib.hid hb3
            rw [hv3]
            clear hv3 hr3 hown3 hb3
            rw [HNA.out] at HF3 ⊢
            obtain ⟨p1, p2, _⟩ := cells_two (w' := (y3.alloc (.cells #[.int .i64 zA, .int .i64 fA, .slice a3 nA cap3] 24))) HB3'.out (Below.refl _ _)
            have k0 : (y3.alloc (.cells #[.int .i64 zA, .int .i64 fA, .slice a3 nA cap3] 24)).cell? ⟨y2.heap.size, 0, none⟩ = some (.int .i64 zA) := p1 0
            have k1 : (y3.alloc (.cells #[.int .i64 zA, .int .i64 fA, .slice a3 nA cap3] 24)).cell? ⟨y2.heap.size, 1, none⟩ = some (.int .i64 fA) := p1 1
            have k2 : (y3.alloc (.cells #[.int .i64 zA, .int .i64 fA, .slice a3 nA cap3] 24)).cell? ⟨y2.heap.size, 2, none⟩ = some (.slice a2 nA cap2) := p1 2
            have hy23 : y2.heap.size < y3.heap.size := by have := HB3'.out.size; simp at this; omega
            obtain ⟨b0, b1, b2⟩ : y3.cell? ⟨y2.heap.size, 0, none⟩ = some (.int .i64 zA) ∧ y3.cell? ⟨y2.heap.size, 1, none⟩ = some (.int .i64 fA) ∧ y3.cell? ⟨y2.heap.size, 2, none⟩ = some (.slice a2 nA cap2) := (by obtain ⟨c, _⟩ := cells_one HB3'.out; exact ⟨c 0, c 1, c 2⟩)
            have HV3 : Hid (Below wc.heap.size wc (y3.alloc (.cells #[.int .i64 zA, .int .i64 fA, .slice a3 nA cap3] 24))) := Lib.hid (bthen (bthen HV2.out HB3'.out) (Below.alloc1 _ _))
            clear k0 k1 k2 p1 p2
            go_wp2_with fail
            refine (same_any zA fA a2 cap2 a3 cap3 nA mA (y3.alloc (.cells #[.int .i64 zA, .int .i64 fA, .slice a3 nA cap3] 24)) (((HF2.out.below (Below.alloc1 _ _)).below HB3'.out).below (Below.alloc1 _ _)) (HF3.out.below (Below.alloc1 _ _)) (by have := HNL.out; omega)).mono ?_
            rintro e y4 ⟨rfl, hb4⟩
            have HQ := Lib.hid (HRC.out.below (bthen HV3.out hb4))
            clear hb4 b0 b1 b2
            go_wp2
            go_roundw
            case rel => exact ⟨1, by omega, rfl, HQ⟩
            case measure => simp [intOf]
        · go_upto_region 19 with fail
          go_cut [23, 24] (fun t s X => t = .int .i64 m.t ∧ s = .int .i64 300 ∧ Hid (Below wq.heap.size wq X))
          case first =>
            go_region
            all_goals (go_wp2_with fail; go_meet; exact ⟨rfl, rfl, Lib.hid (bthen (bthen (Below.alloc1 _ _) (Below.alloc1 _ _)) (Below.drewN1 _ 1 _))⟩)
          case rest =>
            obtain ⟨rfl, rfl, HC⟩ := hcut
            clear m0 m1 m2 m3 m4
            have HRC := Lib.hid (HRQ.out.below HC.out)
            have HFC : Hid (FRow wc a nm 5 (mcells ms)) := Lib.hid (by have := HRC.out.2.1; rw [HNM.out] at this; exact this)
            have HCC : Hid (nm ≤ cp ∧ cp ≤ 9223372036854775807) := Lib.hid ⟨by have := HRC.out.2.2.1; rw [HNM.out] at this; exact this, HRC.out.2.2.2.1⟩
            obtain ⟨g0, g1, g2, _, _, _, gz⟩ := HRC.out.cells
            rw [HNM.out] at g2
            obtain ⟨m0, m1, m2, m3, m4⟩ := HMC.out wc HRC.out.2.2.2.2.1
            go_wp2_with fail
            clear g0 g1 g2 m0 m1 m2 m3 m4
            refine (add_any z f a nm cp ms m m.t 300 wc HFC.out HMK.out HMO.out HCC.out.1 HCC.out.2 (by omega)).mono ?_
            rintro e y2 ⟨va, rfl, hown2, hb2⟩
            have HNL : Hid ((addM z f ms m m.t 300).length ≤ nm + 1) := Lib.hid (by have := addM_len z f ms m m.t 300; rw [HNM.out] at this; exact this)
            obtain ⟨a2, cap2, hv2, hr2, _⟩ := CachePost.row hown2
            have HF2 := Lib.hid hr2
            have HB2' := Lib.hid hb2
            rw [hv2]
            clear hv2 hr2 hown2 hb2
            generalize hzA : addZ z f ms m m.t 300 = zA at *
            generalize hfA : addF z f ms m m.t 300 = fA at *
            generalize hmA : addM z f ms m m.t 300 = mA at *
            generalize heA : addErr z f ms m m.t 300 = eA at *
            have HEQ := Lib.hid (And.intro hzA (And.intro hfA (And.intro hmA heA)))
            clear hzA hfA hmA heA
            obtain ⟨nA, HNA⟩ : ∃ n, Hid (mA.length = n) := ⟨_, Lib.hid rfl⟩
            rw [HNA.out] at HNL HF2 ⊢
            have HV2 : Hid (Below wc.heap.size wc (y2.alloc (.cells #[.int .i64 zA, .int .i64 fA, .slice a2 nA cap2] 24))) := Lib.hid (bthen HB2'.out (Below.alloc1 _ _))
            obtain ⟨g0, g1, g2, _, _, _, gz2⟩ := (HRC.out.below HV2.out).cells
            rw [HNM.out] at g2
            obtain ⟨m0, m1, m2, m3, m4⟩ := HMC.out _ (HRC.out.below HV2.out).2.2.2.2.1
            go_wp2_with fail
            clear g0 g1 g2 m0 m1 m2 m3 m4
            refine (refAdd16_any z f a nm cp ms m m.t 300 _ (HFC.out.below HV2.out) HMK.out HMO.out HCC.out.1 HCC.out.2 (by omega)).mono ?_
            rintro e y3 ⟨vb, rfl, hown3, hb3⟩
            rw [HEQ.out.2.2.1] at hown3
            rw [HEQ.out.1, HEQ.out.2.1, HEQ.out.2.2.2]
            obtain ⟨a3, cap3, hv3, hr3, _⟩ := CachePost.row hown3
            have HF3 := Lib.hid hr3
            have HB3' := Lib.hid hb3
            rw [hv3]
            clear hv3 hr3 hown3 hb3
            rw [HNA.out] at HF3 ⊢
            obtain ⟨p1, p2, _⟩ := cells_two (w' := (y3.alloc (.cells #[.int .i64 zA, .int .i64 fA, .slice a3 nA cap3] 24))) HB3'.out (Below.refl _ _)
            have k0 : (y3.alloc (.cells #[.int .i64 zA, .int .i64 fA, .slice a3 nA cap3] 24)).cell? ⟨y2.heap.size, 0, none⟩ = some (.int .i64 zA) := p1 0
            have k1 : (y3.alloc (.cells #[.int .i64 zA, .int .i64 fA, .slice a3 nA cap3] 24)).cell? ⟨y2.heap.size, 1, none⟩ = some (.int .i64 fA) := p1 1
            have k2 : (y3.alloc (.cells #[.int .i64 zA, .int .i64 fA, .slice a3 nA cap3] 24)).cell? ⟨y2.heap.size, 2, none⟩ = some (.slice a2 nA cap2) := p1 2
            have hy23 : y2.heap.size < y3.heap.size := by have := HB3'.out.size; simp at this; omega
            obtain ⟨b0, b1, b2⟩ : y3.cell? ⟨y2.heap.size, 0, none⟩ = some (.int .i64 zA) ∧ y3.cell? ⟨y2.heap.size, 1, none⟩ = some (.int .i64 fA) ∧ y3.cell? ⟨y2.heap.size, 2, none⟩ = some (.slice a2 nA cap2) := (by obtain ⟨c, _⟩ := cells_one HB3'.out; exact ⟨c 0, c 1, c 2⟩)
            have HV3 : Hid (Below wc.heap.size wc (y3.alloc (.cells #[.int .i64 zA, .int .i64 fA, .slice a3 nA cap3] 24))) := Lib.hid (bthen (bthen HV2.out HB3'.out) (Below.alloc1 _ _))
            clear k0 k1 k2 p1 p2
            go_wp2_with fail
            refine (same_any zA fA a2 cap2 a3 cap3 nA mA (y3.alloc (.cells #[.int .i64 zA, .int .i64 fA, .slice a3 nA cap3] 24)) (((HF2.out.below (Below.alloc1 _ _)).below HB3'.out).below (Below.alloc1 _ _)) (HF3.out.below (Below.alloc1 _ _)) (by have := HNL.out; omega)).mono ?_
            rintro e y4 ⟨rfl, hb4⟩
            have HQ := Lib.hid (HRC.out.below (bthen HV3.out hb4))
            clear hb4 b0 b1 b2
            go_wp2
            go_roundw
            case rel => exact ⟨2, by omega, rfl, HQ⟩
            case measure => simp [intOf]
        · go_upto_region 19 with fail
          go_cut [23, 24] (fun t s X => t = .int .i64 1000 ∧ s = .int .i64 skew ∧ Hid (Below wq.heap.size wq X))
          case first =>
            go_region
            all_goals (go_wp2_with fail; go_meet; exact ⟨rfl, rfl, Lib.hid (bthen (bthen (Below.alloc1 _ _) (Below.alloc1 _ _)) (Below.drewN1 _ 1 _))⟩)
          case rest =>
            obtain ⟨rfl, rfl, HC⟩ := hcut
            clear m0 m1 m2 m3 m4
            have HRC := Lib.hid (HRQ.out.below HC.out)
            have HFC : Hid (FRow wc a nm 5 (mcells ms)) := Lib.hid (by have := HRC.out.2.1; rw [HNM.out] at this; exact this)
            have HCC : Hid (nm ≤ cp ∧ cp ≤ 9223372036854775807) := Lib.hid ⟨by have := HRC.out.2.2.1; rw [HNM.out] at this; exact this, HRC.out.2.2.2.1⟩
            obtain ⟨g0, g1, g2, _, _, _, gz⟩ := HRC.out.cells
            rw [HNM.out] at g2
            obtain ⟨m0, m1, m2, m3, m4⟩ := HMC.out wc HRC.out.2.2.2.2.1
            go_wp2_with fail
            clear g0 g1 g2 m0 m1 m2 m3 m4
            refine (add_any z f a nm cp ms m 1000 skew wc HFC.out HMK.out HMO.out HCC.out.1 HCC.out.2 (by omega)).mono ?_
            rintro e y2 ⟨va, rfl, hown2, hb2⟩
            have HNL : Hid ((addM z f ms m 1000 skew).length ≤ nm + 1) := Lib.hid (by have := addM_len z f ms m 1000 skew; rw [HNM.out] at this; exact this)
            obtain ⟨a2, cap2, hv2, hr2, _⟩ := CachePost.row hown2
            have HF2 := Lib.hid hr2
            have HB2' := Lib.hid hb2
            rw [hv2]
            clear hv2 hr2 hown2 hb2
            generalize hzA : addZ z f ms m 1000 skew = zA at *
            generalize hfA : addF z f ms m 1000 skew = fA at *
            generalize hmA : addM z f ms m 1000 skew = mA at *
            generalize heA : addErr z f ms m 1000 skew = eA at *
            have HEQ := Lib.hid (And.intro hzA (And.intro hfA (And.intro hmA heA)))
            clear hzA hfA hmA heA
            obtain ⟨nA, HNA⟩ : ∃ n, Hid (mA.length = n) := ⟨_, Lib.hid rfl⟩
            rw [HNA.out] at HNL HF2 ⊢
            have HV2 : Hid (Below wc.heap.size wc (y2.alloc (.cells #[.int .i64 zA, .int .i64 fA, .slice a2 nA cap2] 24))) := Lib.hid (bthen HB2'.out (Below.alloc1 _ _))
            obtain ⟨g0, g1, g2, _, _, _, gz2⟩ := (HRC.out.below HV2.out).cells
            rw [HNM.out] at g2
            obtain ⟨m0, m1, m2, m3, m4⟩ := HMC.out _ (HRC.out.below HV2.out).2.2.2.2.1
            go_wp2_with fail
            clear g0 g1 g2 m0 m1 m2 m3 m4
            refine (refAdd16_any z f a nm cp ms m 1000 skew _ (HFC.out.below HV2.out) HMK.out HMO.out HCC.out.1 HCC.out.2 (by omega)).mono ?_
            rintro e y3 ⟨vb, rfl, hown3, hb3⟩
            rw [HEQ.out.2.2.1] at hown3
            rw [HEQ.out.1, HEQ.out.2.1, HEQ.out.2.2.2]
            obtain ⟨a3, cap3, hv3, hr3, _⟩ := CachePost.row hown3
            have HF3 := Lib.hid hr3
            have HB3' := Lib.hid hb3
            rw [hv3]
            clear hv3 hr3 hown3 hb3
            rw [HNA.out] at HF3 ⊢
            obtain ⟨p1, p2, _⟩ := cells_two (w' := (y3.alloc (.cells #[.int .i64 zA, .int .i64 fA, .slice a3 nA cap3] 24))) HB3'.out (Below.refl _ _)
            have k0 : (y3.alloc (.cells #[.int .i64 zA, .int .i64 fA, .slice a3 nA cap3] 24)).cell? ⟨y2.heap.size, 0, none⟩ = some (.int .i64 zA) := p1 0
            have k1 : (y3.alloc (.cells #[.int .i64 zA, .int .i64 fA, .slice a3 nA cap3] 24)).cell? ⟨y2.heap.size, 1, none⟩ = some (.int .i64 fA) := p1 1
            have k2 : (y3.alloc (.cells #[.int .i64 zA, .int .i64 fA, .slice a3 nA cap3] 24)).cell? ⟨y2.heap.size, 2, none⟩ = some (.slice a2 nA cap2) := p1 2
            have hy23 : y2.heap.size < y3.heap.size := by have := HB3'.out.size; simp at this; omega
            obtain ⟨b0, b1, b2⟩ : y3.cell? ⟨y2.heap.size, 0, none⟩ = some (.int .i64 zA) ∧ y3.cell? ⟨y2.heap.size, 1, none⟩ = some (.int .i64 fA) ∧ y3.cell? ⟨y2.heap.size, 2, none⟩ = some (.slice a2 nA cap2) := (by obtain ⟨c, _⟩ := cells_one HB3'.out; exact ⟨c 0, c 1, c 2⟩)
            have HV3 : Hid (Below wc.heap.size wc (y3.alloc (.cells #[.int .i64 zA, .int .i64 fA, .slice a3 nA cap3] 24))) := Lib.hid (bthen (bthen HV2.out HB3'.out) (Below.alloc1 _ _))
            clear k0 k1 k2 p1 p2
            go_wp2_with fail
            refine (same_any zA fA a2 cap2 a3 cap3 nA mA (y3.alloc (.cells #[.int .i64 zA, .int .i64 fA, .slice a3 nA cap3] 24)) (((HF2.out.below (Below.alloc1 _ _)).below HB3'.out).below (Below.alloc1 _ _)) (HF3.out.below (Below.alloc1 _ _)) (by have := HNL.out; omega)).mono ?_
            rintro e y4 ⟨rfl, hb4⟩
            have HQ := Lib.hid (HRC.out.below (bthen HV3.out hb4))
            clear hb4 b0 b1 b2
            go_wp2
            go_roundw
            case rel => exact ⟨3, by omega, rfl, HQ⟩
            case measure => simp [intOf]
        · go_upto_region 24 with fail
          clear m0 m1 m2 m3 m4
          have HFC : Hid (FRow wq a nm 5 (mcells ms)) := Lib.hid (by have := HRQ.out.2.1; rw [HNM.out] at this; exact this)
          have HS : Hid (∀ X, Below wq.heap.size wq X → X.cell? ⟨G, 0, none⟩ = some (.int .i64 z) ∧ X.cell? ⟨G, 1, none⟩ = some (.int .i64 f) ∧ X.cell? ⟨G, 2, none⟩ = some (.slice a nm cp) ∧ X.cell? ⟨w.heap.size, 0, none⟩ = some (.string m.n) ∧ X.cell? ⟨w.heap.size, 1, none⟩ = some (.string m.i) ∧ X.cell? ⟨w.heap.size, 2, none⟩ = some (.string m.r) ∧ X.cell? ⟨w.heap.size, 3, none⟩ = some (.int .i64 m.t) ∧ X.cell? ⟨w.heap.size, 4, none⟩ = some (.int .i64 m.k)) := Lib.hid (fun X hX => by
            obtain ⟨g0, g1, g2, _⟩ := (HRQ.out.below hX).cells
            rw [HNM.out] at g2
            exact ⟨g0, g1, g2, HMC.out X (HRQ.out.below hX).2.2.2.2.1⟩)
          have HHA : Hid (∀ X, Below wq.heap.size wq X → Calls Try.prog 21 #[.agg #[.int .i64 z, .int .i64 f, .slice a nm cp], .agg #[.string m.n, .string m.i, .string m.r, .int .i64 m.t, .int .i64 m.k]] X fun e w' => e = .returned (.bool (hasB ms m)) ∧ Below X.heap.size X w') := Lib.hid (fun X hX => has_any z f a nm cp ms m X (HFC.out.below hX) (by omega))
          have HHB : Hid (∀ X, Below wq.heap.size wq X → Calls Try.prog 22 #[.agg #[.int .i64 z, .int .i64 f, .slice a nm cp], .agg #[.string m.n, .string m.i, .string m.r, .int .i64 m.t, .int .i64 m.k]] X fun e w' => e = .returned (.bool (hasB ms m)) ∧ Below X.heap.size X w') := Lib.hid (fun X hX => refHas_any z f a nm cp ms m X (HFC.out.below hX) (by omega))
          have HQ0 : Hid (Below wq.heap.size wq wq.drew) := Lib.hid (Below.refl _ _).drew
          generalize hasB ms m = hb at *
          go_region_held3 (fun X => X.cell? ⟨G, 0, none⟩ = some (.int .i64 z) ∧ X.cell? ⟨G, 1, none⟩ = some (.int .i64 f) ∧ X.cell? ⟨G, 2, none⟩ = some (.slice a nm cp) ∧ X.cell? ⟨w.heap.size, 0, none⟩ = some (.string m.n) ∧ X.cell? ⟨w.heap.size, 1, none⟩ = some (.string m.i) ∧ X.cell? ⟨w.heap.size, 2, none⟩ = some (.string m.r) ∧ X.cell? ⟨w.heap.size, 3, none⟩ = some (.int .i64 m.t) ∧ X.cell? ⟨w.heap.size, 4, none⟩ = some (.int .i64 m.k)) (first | exact HS.out _ HQ2.out | exact HS.out _ HQ1.out | exact HS.out _ HQ0.out) (first | (go_simp; go_at_call 21; refine (HHA.out _ ?_).mono ?_; (focus (first | exact HQ1.out | exact HQ0.out)); rintro e y4 ⟨rfl, hb4⟩; first | (have HQ2 := Lib.hid (bthen HQ1.out hb4); clear hb4) | (have HQ1 := Lib.hid (bthen HQ0.out hb4); clear hb4)) | (go_simp; go_at_call 22; refine (HHB.out _ ?_).mono ?_; (focus (first | exact HQ1.out | exact HQ0.out)); rintro e y4 ⟨rfl, hb4⟩; first | (have HQ2 := Lib.hid (bthen HQ1.out hb4); clear hb4) | (have HQ1 := Lib.hid (bthen HQ0.out hb4); clear hb4)))
          all_goals go_wp2
          all_goals go_ret
          all_goals exact ⟨ret_bool (by simp), bthen HB1.out (bthen HRQ.out.2.2.2.2.1 HQ2.out)⟩
end ReplayAdds
end Go.Proofs.Ytegcdefdkebmnaa
