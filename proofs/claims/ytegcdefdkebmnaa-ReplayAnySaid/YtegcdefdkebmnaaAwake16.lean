/- Contract of awake of chapter 16. -/
import Derived.Test.YtegcdefdkebmnaaCache
namespace Go.Proofs.Ytegcdefdkebmnaa
open Go.RowKit
attribute [local go_sem ↓] Go.wp_at_zero Go.wp_at_succ

def am0 : Mk := ⟨userS 0, ByteArray.empty, realmS (0 / 3), 1000, 0⟩
def am1 : Mk := ⟨userS 1, ByteArray.empty, realmS (1 / 3), 1000, 0⟩
def am2 : Mk := ⟨userS 1, ByteArray.empty, realmS (1 / 3), 1301, 0⟩
theorem nameB_eq (s : ByteArray) : nameB s = (!decide (s.size = 0) && decide (s.size ≤ 39) && txt [46, 64] s) := by rw [nameB, empty_size]
theorem realmB_eq (s : ByteArray) : realmB s = (!decide (s.size = 0) && instB s) := by rw [realmB, empty_size]
theorem prin0 : prinB (userS 0) ByteArray.empty (realmS (0 / 3)) = true := by
  rw [prinB, nameB_eq, realmB_eq]
  decide +kernel
theorem prin1 : prinB (userS 1) ByteArray.empty (realmS (1 / 3)) = true := by
  rw [prinB, nameB_eq, realmB_eq]
  decide +kernel
theorem am0_ok : am0.ok := ⟨userS_size 0, (by decide : ByteArray.empty.size ≤ maxLen), (by show (realmS (0 / 3)).size ≤ maxLen; exact realmS_size _), by decide, by decide⟩
theorem am1_ok : am1.ok := ⟨userS_size 1, (by decide : ByteArray.empty.size ≤ maxLen), (by show (realmS (1 / 3)).size ≤ maxLen; exact realmS_size _), by decide, by decide⟩
theorem am2_ok : am2.ok := ⟨userS_size 1, (by decide : ByteArray.empty.size ≤ maxLen), (by show (realmS (1 / 3)).size ≤ maxLen; exact realmS_size _), by decide, by decide⟩
theorem chk0 : checkErr 1 0 [] = 0 := by decide
theorem chk1 : checkErr 1 700 [am0] = 0 := by
  have h : errAt 700 [am0] 0 = 0 := by
    rw [errAt_eq (m := am0) rfl, markErr]
    show (if prinB (userS 0) ByteArray.empty (realmS (0 / 3)) = false then _ else _) = _
    rw [prin0]
    decide
  unfold checkErr
  rw [if_neg (by decide), if_neg (by decide)]
  exact firstErr_zero (fun i hi => by
    obtain rfl : i = 0 := by simpa using hi
    exact h)
theorem aw1 : addErr 1 0 [] am0 1000 300 = 0 := by
  rw [addErr, chk0]
  show (if (0:Int) ≠ 0 then (108:Int) else if prinB (userS 0) ByteArray.empty (realmS (0 / 3)) = false then _ else _) = 0
  rw [prin0]
  decide
theorem has01 : hasB [am0] am1 = false := by
  unfold hasB
  rw [← Bool.not_eq_true, List.contains_iff_mem, List.mem_singleton]
  intro h
  have := congrArg Mk.n h
  revert this
  decide +kernel
theorem has02 : hasB [am0] am2 = false := by
  unfold hasB
  rw [← Bool.not_eq_true, List.contains_iff_mem, List.mem_singleton]
  intro h
  have := congrArg Mk.t h
  revert this
  decide
theorem aw2 : addErr 1 700 [am0] am1 1000 300 = 82 := by
  rw [addErr, chk1, has01]
  show (if (0:Int) ≠ 0 then (108:Int) else if prinB (userS 1) ByteArray.empty (realmS (1 / 3)) = false then _ else _) = 82
  rw [prin1]
  decide
theorem aw3 : addErr 1 700 [am0] am2 1301 300 = 0 := by
  rw [addErr, chk1, has02]
  show (if (0:Int) ≠ 0 then (108:Int) else if prinB (userS 1) ByteArray.empty (realmS (1 / 3)) = false then _ else _) = 0
  rw [prin1]
  decide
theorem aw1' : addZ 1 0 [] am0 1000 300 = 1 ∧ addF 1 0 [] am0 1000 300 = 700 ∧ addM 1 0 [] am0 1000 300 = [am0] := by
  refine ⟨by rw [addZ, aw1]; rfl, by rw [addF, aw1]; decide, by rw [addM, aw1]; rfl⟩
theorem aw3' : addZ 1 700 [am0] am2 1301 300 = 1 ∧ addF 1 700 [am0] am2 1301 300 = 1001 ∧ addM 1 700 [am0] am2 1301 300 = [am2] := by
  refine ⟨by rw [addZ, aw3]; rfl, by rw [addF, aw3]; decide, by rw [addM, aw3]; rfl⟩
theorem ok1 : ∀ x ∈ [am0], x.ok := by intro x hx; rw [List.mem_singleton.1 hx]; exact am0_ok
theorem FRow.none (w : World) : FRow w none 0 5 (mcells []) := ⟨rfl, .inl rfl⟩

set_option maxRecDepth 100000 in
set_option maxHeartbeats 4000000 in
theorem awake16_any (w : World) :
    Calls Try.prog 10 #[] w fun e w' => e = .returned (.bool true) ∧ Below w.heap.size w w' := by
  have HU0 : Hid (∀ X, Calls Try.prog 39 #[.int .i64 0] X fun e w' => e = .returned (.agg #[.string am0.n, .string am0.i, .string am0.r]) ∧ Below X.heap.size X w') := Lib.hid (fun X => user_any 0 X (by decide) (by decide))
  have HU1 : Hid (∀ X, Calls Try.prog 39 #[.int .i64 1] X fun e w' => e = .returned (.agg #[.string am1.n, .string am1.i, .string am1.r]) ∧ Below X.heap.size X w') := Lib.hid (fun X => user_any 1 X (by decide) (by decide))
  go_enter Try.func10, Try.ntmps10
  go_wp2_with fail
  refine (new_any 1 _).mono ?_
  rintro e y0 ⟨rfl, hb0⟩
  rw [show newZ 1 = 1 from by decide, show newErr 1 = 0 from by decide]
  go_upto_region 2 with fail
  have HR0 := Lib.hid (RS.new hb0 1 0 (ms := []) (FRow.none _) (Nat.le_refl _) (Nat.zero_le _))
  clear hb0
  generalize y0.alloc (.cells #[.int .i64 1, .int .i64 0, .slice none 0 0] 24) = W at *
  generalize y0.heap.size = G at *
  go_cut [3] (fun v X => v = .int .i64 0 ∧ Hid (∃ a cap, RS w G 1 700 [am0] a cap X))
  case first =>
    obtain ⟨g0, g1, g2, f0, f1, f2, gz⟩ := HR0.out.cells
    go_region_with (first | (go_at_call 39; refine (HU0.out _).mono ?_; rintro e y1 ⟨rfl, hb1⟩; have HR1 := Lib.hid ((HR0.out.below (Below.drewN1 W 1 _)).below hb1); obtain ⟨g0, g1, g2, f0, f1, f2, gz1⟩ := HR1.out.cells; clear hb1) | (go_at_call 19; refine (add_any 1 0 none 0 0 [] am0 1000 300 _ (FRow.none _) (fun x hx => (List.not_mem_nil hx).elim) am0_ok (Nat.le_refl _) (by decide) (by decide)).mono ?_; rintro e y2 ⟨v, rfl, hown, hb2⟩; rw [aw1'.1, aw1'.2.1, aw1]; rw [aw1'.2.2] at hown; obtain ⟨a, cap, hv, hr, hc1, hc2, hbl⟩ := CachePost.row hown; rw [hv]; have HR2 := Lib.hid (HR1.out.below hb2); obtain ⟨g0, g1, g2, f0, f1, f2, gz2⟩ := HR2.out.cells; have HFR := Lib.hid (And.intro hr (And.intro hc1 (And.intro hc2 hbl))); clear hv hown hb2 hr hc1 hc2 hbl))
    all_goals (go_wp2_with fail; go_meet; exact ⟨rfl, Lib.hid ⟨a, cap, HR2.out.store HFR.out.1 HFR.out.2.1 HFR.out.2.2.1 (fun x hx _ e => by have := HFR.out.2.2.2 x hx; omega)⟩⟩)
  case rest =>
    obtain ⟨rfl, HC⟩ := hcut
    clear HR0
    obtain ⟨a, cap, hrs⟩ := HC.out
    have HR1 := Lib.hid hrs
    clear hrs HC
    go_upto_region 3 with fail
    go_cut [5] (fun v Y => v = .int .i64 82 ∧ Hid (RS w G 1 700 [am0] a cap Y))
    case first =>
      obtain ⟨g0, g1, g2, f0, f1, f2, gz⟩ := HR1.out.cells
      simp only [List.length_cons, List.length_nil, Nat.zero_add] at g2
      go_region_with (first | (go_at_call 39; refine (HU1.out _).mono ?_; rintro e y1 ⟨rfl, hb1⟩; have HY1 : Hid (Below wc.heap.size wc y1) := (by first | exact Lib.hid (bthen (Below.drewN1 _ 1 _) hb1) | exact Lib.hid (bthen (bthen (Below.alloc1 _ _) (Below.drewN1 _ 1 _)) hb1)); obtain ⟨g0, g1, g2, f0, f1, f2, gz1⟩ := (HR1.out.below HY1.out).cells; simp only [List.length_cons, List.length_nil, Nat.zero_add] at g2; obtain ⟨hc1, hf1⟩ := bcell hb1; have hz1 := hb1.size; (try simp at hz1); (try have hq1 : wc.heap.size < y1.heap.size := (by omega)); clear hb1) | (go_at_call 19; refine (add_any 1 700 a 1 cap [am0] am1 1000 300 _ ?_ ok1 am1_ok HR1.out.2.2.1 HR1.out.2.2.2.1 (by decide)).mono ?_; (focus (first | exact (HR1.out.below HY1.out).2.1 | exact (HR1.out.below (bthen HY1.out (Below.alloc1 _ _))).2.1)); rintro e y2 ⟨v, rfl, hown, hb2⟩; have HY2 : Hid (Below wc.heap.size wc y2) := (by first | exact Lib.hid (bthen HY1.out hb2) | exact Lib.hid (bthen (bthen HY1.out (Below.alloc1 _ _)) hb2)); rw [aw2]; obtain ⟨a9, c9, hv, _⟩ := CachePost.row hown; rw [hv]; obtain ⟨hc2, hf2⟩ := bcell hb2; have hz2 := hb2.size; (try simp at hz2); (try have hq2 : wc.heap.size < y2.heap.size := (by omega)); (try have hq3 : y1.heap.size < y2.heap.size := (by omega)); clear hv hown hb2))
      all_goals (go_wp2_with fail; go_meet; exact ⟨rfl, Lib.hid (HR1.out.below (by first | exact HY2.out | exact bthen HY2.out (Below.alloc1 _ _) | exact set3g HY2.out (Nat.le_refl _) _ _ _ | exact set3g HY2.out HY1.out.size _ _ _))⟩)
    case rest =>
      obtain ⟨rfl, HR3⟩ := hcut
      clear HR1
      go_upto_region 4 with fail
      go_cut [6] (fun v Y => v = .int .i64 0 ∧ Hid (∃ a cap, RS w G 1 1001 [am2] a cap Y))
      case first =>
        have HR1 := HR3
        clear HR3
        obtain ⟨g0, g1, g2, f0, f1, f2, gz⟩ := HR1.out.cells
        simp only [List.length_cons, List.length_nil, Nat.zero_add] at g2
        go_region_with (first | (go_at_call 39; refine (HU1.out _).mono ?_; rintro e y1 ⟨rfl, hb1⟩; have HY1 : Hid (Below wc.heap.size wc y1) := (by first | exact Lib.hid (bthen (Below.drewN1 _ 1 _) hb1) | exact Lib.hid (bthen (bthen (Below.alloc1 _ _) (Below.drewN1 _ 1 _)) hb1)); obtain ⟨g0, g1, g2, f0, f1, f2, gz1⟩ := (HR1.out.below HY1.out).cells; simp only [List.length_cons, List.length_nil, Nat.zero_add] at g2; obtain ⟨hc1, hf1⟩ := bcell hb1; have hz1 := hb1.size; (try simp at hz1); (try have hq1 : wc.heap.size < y1.heap.size := (by omega)); clear hb1) | (go_at_call 19; refine (add_any 1 700 a 1 cap [am0] am2 1301 300 _ ?_ ok1 am2_ok HR1.out.2.2.1 HR1.out.2.2.2.1 (by decide)).mono ?_; (focus (first | exact (HR1.out.below HY1.out).2.1 | exact (HR1.out.below (bthen HY1.out (Below.alloc1 _ _))).2.1)); rintro e y2 ⟨v, rfl, hown, hb2⟩; have HY2 : Hid (Below wc.heap.size wc y2) := (by first | exact Lib.hid (bthen HY1.out hb2) | exact Lib.hid (bthen (bthen HY1.out (Below.alloc1 _ _)) hb2)); rw [aw3'.1, aw3'.2.1, aw3]; rw [aw3'.2.2] at hown; obtain ⟨a9, c9, hv, hr, hk1, hk2, hbl⟩ := CachePost.row hown; rw [hv]; obtain ⟨g0, g1, g2, f0, f1, f2, gz2⟩ := (HR1.out.below HY2.out).cells; have HFR := Lib.hid (And.intro hr (And.intro hk1 (And.intro hk2 hbl))); clear hv hown hb2 hr hk1 hk2 hbl))
        all_goals (go_wp2_with fail; go_meet; exact ⟨rfl, Lib.hid ⟨a9, c9, (HR1.out.below HY2.out).store HFR.out.1 HFR.out.2.1 HFR.out.2.2.1 (fun x hx _ e => by have := HFR.out.2.2.2 x hx; omega)⟩⟩)
      case rest =>
        obtain ⟨rfl, HC⟩ := hcut
        obtain ⟨a5, cap5, hrs⟩ := HC.out
        obtain ⟨g0, g1, g2, f0, f1, f2, gz⟩ := hrs.cells
        simp only [List.length_cons, List.length_nil, Nat.zero_add] at g2
        have HBF := Lib.hid hrs.2.2.2.2.1
        clear hrs HC HR3
        go_wp2
        go_ret
        exact ⟨rfl, HBF.out⟩
end Go.Proofs.Ytegcdefdkebmnaa
