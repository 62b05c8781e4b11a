/- The walk of ReplayOnce. -/
import Derived.Test.YtegcdefdkebmnaaOnce
import Derived.Test.YtegcdefdkebmnaaQuiet
namespace Go.Proofs.Ytegcdefdkebmnaa
open Go.RowKit
namespace ReplayOnce
attribute [local go_sem ↓] Go.wp_at_zero Go.wp_at_succ

set_option maxRecDepth 100000 in
set_option maxHeartbeats 8000000 in
theorem walk0 (size skew : Int) (al : Option Addr) (len cap : Nat) (us : List Us) (w : World) (h0 : 0 ≤ size ∧ size ≤ 255) (h1 : 0 ≤ skew ∧ skew ≤ 255) (hr : FRow w al len 4 (ucells us)) (hok : ∀ u ∈ us, u.ok) (hll : len ≤ 9223372036854775807) :
    Calls Try.prog 6 #[.int .u8 size, .int .u8 skew, .slice al len cap] w fun e w' => e = .returned (.bool true) ∧ Below w.heap.size w w' := by
  have HR := Lib.hid hr
  have HOK := Lib.hid hok
  clear hr hok
  go_enter Try.func6, Try.ntmps6
  go_wp2_with fail
  refine (awake16_any _).mono ?_
  rintro e y1 ⟨rfl, hb1⟩
  have HY1 := Lib.hid hb1
  clear hb1
  by_cases p0 : 60 < len
  · have p0' : decide (60 < len) = true := by simpa using p0
    go_wp2
    go_ret
    exact ⟨rfl, HY1.out⟩
  have p0' : decide (60 < len) = false := by simpa using p0
  go_wp2_with fail
  refine (new_any _ _).mono ?_
  rintro e y2 ⟨rfl, hb2⟩
  have HZ : Hid (newZ (1 + size % 40) = 1 + size % 40 ∧ newErr (1 + size % 40) = 0) := Lib.hid ⟨by rw [newZ, wiB_mk (by omega) (by omega)]; rfl, by rw [newErr, wiB_mk (by omega) (by omega)]; rfl⟩
  rw [HZ.out.1, HZ.out.2]
  have HST : Hid (∃ z f ms a cp A, St w y2.heap.size z f ms a cp (.slice none 0 0) A (y2.alloc (.cells #[.int .i64 (1 + size % 40), .int .i64 0, .slice none 0 0] 24)) ∧ A.length ≤ 0) := Lib.hid ⟨_, _, [], _, _, [], ⟨RS.new (bthen HY1.out hb2) (1 + size % 40) 0 (ms := []) (FRow.none _) (Nat.le_refl _) (Nat.zero_le _), check_iff.2 ⟨by omega, by omega, by simp; omega, (fun x hx => by cases hx), List.nodup_nil⟩, (fun x hx => by cases hx), (fun x hx => by cases hx), World.ownsRow_nil _ _ _ _, (fun q hq => by cases hq)⟩, Nat.le_refl _⟩
  clear hb2 p0'
  go_wp2
  clear HY1 HZ
  generalize y2.alloc (.cells #[.int .i64 (1 + size % 40), .int .i64 0, .slice none 0 0] 24) = V0 at *
  generalize y2.heap.size = G at *
  go_loopw [9, 10] (fun v i wr => ∃ k : Nat, k ≤ len ∧ i = .int .i64 k ∧ Hid (∃ z f ms a cp A, St w G z f ms a cp v A wr ∧ A.length ≤ k)) (fun _ i _ => len - (intOf i).toNat)
  case atStart => exact ⟨0, Nat.zero_le _, rfl, HST⟩
  case round =>
    obtain ⟨k, hk, rfl, HI⟩ := hrel
    clear HST
    obtain ⟨z, f, ms, a, cp, A, hst, hAk⟩ := HI.out
    have HS0 := Lib.hid hst
    clear hst HI
    obtain ⟨sa, sc, rfl, hsc1, hsc2⟩ := own_isz HS0.out.2.2.2.2.1
    unfold maxLen at hsc2
    have HVB := Lib.hid (fun q (hq : (Value.slice sa A.length sc).ownBlock = some q) => (own_lt HS0.out.2.2.2.2.1 hq).1)
    by_cases hlt : k < len
    · obtain ⟨b, off, u, rfl, hu, c0, c1, c2, c3⟩ := (HR.out.below HS0.out.1.2.2.2.2.1).use hlt
      have HUO := Lib.hid (HOK.out u (List.mem_of_getElem? hu))
      obtain ⟨v1, v2, v3, v4⟩ := HUO.out
      have HCU : Hid (∀ X, Below wr.heap.size wr X → X.cell? ⟨b, off + k * 4 + 3, none⟩ = some (.int .u8 u.now)) := Lib.hid (fun X hX => (hX.cell (p := ⟨b, off + k * 4 + 3, none⟩) (World.block_lt_of_cell? _ _ c3)).trans c3)
      clear hu
      go_wp2_with fail
      refine (mark_any u _ HUO.out).mono ?_
      rintro e y3 ⟨rfl, hb3⟩
      have HB3 := Lib.hid hb3
      clear hb3 c0 c1 c2 c3
      go_upto_region 13 with fail
      have HM1 : Hid (MV (y3.alloc (.cells #[.string (useMark u).n, .string (useMark u).i, .string (useMark u).r, .int .i64 (useMark u).t, .int .i64 (useMark u).k] 36)) y3.heap.size (useMark u)) := Lib.hid (by have c := fun i => cell_new y3 #[.string (useMark u).n, .string (useMark u).i, .string (useMark u).r, .int .i64 (useMark u).t, .int .i64 (useMark u).k] 36 i; exact ⟨c 0, c 1, c 2, c 3, c 4⟩)
      have HV1 : Hid (Below wr.heap.size wr (y3.alloc (.cells #[.string (useMark u).n, .string (useMark u).i, .string (useMark u).r, .int .i64 (useMark u).t, .int .i64 (useMark u).k] 36))) := Lib.hid (bthen HB3.out (Below.alloc1 _ _))
      have hG11 : wr.heap.size ≤ y3.heap.size := HB3.out.size
      generalize y3.alloc (.cells #[.string (useMark u).n, .string (useMark u).i, .string (useMark u).r, .int .i64 (useMark u).t, .int .i64 (useMark u).k] 36) = V1 at *
      generalize y3.heap.size = G11 at *
      have HS1 := Lib.hid (HS0.out.below HV1.out)
      have hGV : G < V1.heap.size := HS1.out.1.cells.2.2.2.2.2.2
      have hwV : wr.heap.size ≤ V1.heap.size := HV1.out.size
      clear HS0
      obtain ⟨nm, hnm⟩ : ∃ nm, ms.length = nm := ⟨_, rfl⟩
      have HNM := Lib.hid hnm
      clear hnm
      have HSF : Hid (∀ X, Below V1.heap.size V1 X → X.cell? ⟨G, 0, none⟩ = some (.int .i64 z) ∧ X.cell? ⟨G, 1, none⟩ = some (.int .i64 f) ∧ X.cell? ⟨G, 2, none⟩ = some (.slice a nm cp) ∧ X.cell? ⟨G11, 0, none⟩ = some (.string (useMark u).n) ∧ X.cell? ⟨G11, 1, none⟩ = some (.string (useMark u).i) ∧ X.cell? ⟨G11, 2, none⟩ = some (.string (useMark u).r) ∧ X.cell? ⟨G11, 3, none⟩ = some (.int .i64 (useMark u).t) ∧ X.cell? ⟨G11, 4, none⟩ = some (.int .i64 (useMark u).k) ∧ X.cell? ⟨b, off + k * 4 + 3, none⟩ = some (.int .u8 u.now)) := Lib.hid (fun X hX => by
        obtain ⟨g0, g1, g2, _⟩ := (HS1.out.below hX).1.cells
        rw [HNM.out] at g2
        obtain ⟨x0, x1, x2, x3, x4⟩ := HM1.out.below hX
        exact ⟨g0, g1, g2, x0, x1, x2, x3, x4, HCU.out X (bthen HV1.out hX)⟩)
      have HADD : Hid (∀ X, Below V1.heap.size V1 X → Calls Try.prog 19 #[.agg #[.int .i64 z, .int .i64 f, .slice a nm cp], .agg #[.string (useMark u).n, .string (useMark u).i, .string (useMark u).r, .int .i64 (useMark u).t, .int .i64 (useMark u).k], .int .i64 (1000 + u.now / 2), .int .i64 (skew % 40)] X (AddPost z f ms (useMark u) (1000 + u.now / 2) (skew % 40) X)) := Lib.hid (fun X hX => by
        have h := (HS1.out.below hX).1
        have := add_any z f a ms.length cp ms (useMark u) (1000 + u.now / 2) (skew % 40) X h.2.1 HS1.out.2.2.1 (useMark_ok HUO.out) h.2.2.1 h.2.2.2.1 (by have := check_len HS1.out.2.1; have := (check_bd HS1.out.2.1).2.1; omega)
        rw [HNM.out] at this
        exact this)
      obtain ⟨g0, g1, g2, x0, x1, x2, x3, x4, x5⟩ := HSF.out V1 (Below.refl _ _)
      have a1 : IntKind.i64.wrap u.now = u.now := IntWalk.i64_in _ (by omega)
      have a2 : u.now.tdiv 2 = u.now / 2 := Int.tdiv_eq_ediv_of_nonneg (by omega)
      have a3 : IntKind.i64.wrap (u.now / 2) = u.now / 2 := IntWalk.i64_in _ (by omega)
      have a4 : IntKind.i64.wrap (1000 + u.now / 2) = 1000 + u.now / 2 := IntWalk.i64_in _ (by omega)
      have b1 : IntKind.i64.wrap skew = skew := IntWalk.i64_in _ (by omega)
      have b2 : skew.tmod 40 = skew % 40 := Int.tmod_eq_emod_of_nonneg (by omega)
      have b3 : IntKind.i64.wrap (skew % 40) = skew % 40 := IntWalk.i64_in _ (by omega)
      have q1 : (0 : Int) ≤ (k : Int) := by omega
      have q2 : (k : Int) < (len : Int) := by omega
      have n0 := World.new_ne V1 _ g0
      have n1 := World.new_ne V1 _ x0
      have n2 := World.new_ne V1 _ x5
      have l0 := World.block_lt_of_cell? V1 _ g0
      have l1 := World.block_lt_of_cell? V1 _ x0
      have l2 := World.block_lt_of_cell? V1 _ x5
      go_cut [12, 13] (fun v e X => e = .int .i64 (addErr z f ms (useMark u) (1000 + u.now / 2) (skew % 40)) ∧ ∃ G12 a2 cap2, v = .pointer (some ⟨G12, 0, none⟩) ∧ Hid (RS w G12 (addZ z f ms (useMark u) (1000 + u.now / 2) (skew % 40)) (addF z f ms (useMark u) (1000 + u.now / 2) (skew % 40)) (addM z f ms (useMark u) (1000 + u.now / 2) (skew % 40)) a2 cap2 X ∧ Below V1.heap.size V1 X ∧ V1.heap.size ≤ G12 ∧ ∀ x, a2 = some x → V1.heap.size ≤ x.block))
      case first =>
        go_region_held3 (fun X => X.cell? ⟨G, 0, none⟩ = some (.int .i64 z) ∧ X.cell? ⟨G, 1, none⟩ = some (.int .i64 f) ∧ X.cell? ⟨G, 2, none⟩ = some (.slice a nm cp) ∧ X.cell? ⟨G11, 0, none⟩ = some (.string (useMark u).n) ∧ X.cell? ⟨G11, 1, none⟩ = some (.string (useMark u).i) ∧ X.cell? ⟨G11, 2, none⟩ = some (.string (useMark u).r) ∧ X.cell? ⟨G11, 3, none⟩ = some (.int .i64 (useMark u).t) ∧ X.cell? ⟨G11, 4, none⟩ = some (.int .i64 (useMark u).k) ∧ X.cell? ⟨b, off + k * 4 + 3, none⟩ = some (.int .u8 u.now)) (first | go_keep) (first | (go_simp; go_at_call 19; refine (HADD.out _ ?_).mono ?_; (focus (first | exact Below.drewN1 _ 1 _ | exact bthen (Below.alloc1 _ _) (Below.drewN1 _ 1 _))); rintro e y4 ⟨va, rfl, hown4, hb4⟩; have HY4 : Hid (Below V1.heap.size V1 y4) := (by first | exact Lib.hid (bthen (Below.drewN1 _ 1 _) hb4) | exact Lib.hid (bthen (bthen (Below.alloc1 _ _) (Below.drewN1 _ 1 _)) hb4)); obtain ⟨aa, ca, hva, hra, hka1, hka2, hbla⟩ := CachePost.row hown4; rw [hva]; have HFA := Lib.hid (And.intro hra (And.intro hka1 (And.intro hka2 hbla))); obtain ⟨g0, g1, g2, x0, x1, x2, x3, x4, x5⟩ := HSF.out y4 HY4.out; obtain ⟨hc4, hf4⟩ := bcell hb4; have hz4 := hb4.size; (try simp at hz4); (try have hq4 : V1.heap.size < y4.heap.size := (by omega)); (try have HBK := Lib.hid ((hb4.block V1.heap.size (by simp)).trans (heap_alloc_new V1 _))); have l0' := World.block_lt_of_cell? y4 _ g0; have l1' := World.block_lt_of_cell? y4 _ x0; have l2' := World.block_lt_of_cell? y4 _ x5; clear hva hown4 hb4 hra hka1 hka2 hbla))
        all_goals (go_wp2_with fail; go_meet; first | exact ⟨rfl, _, aa, ca, rfl, Lib.hid ⟨RS.new (bthen HS1.out.1.2.2.2.2.1 HY4.out) _ _ HFA.out.1 HFA.out.2.1 HFA.out.2.2.1, bthen HY4.out (Below.alloc1 _ _), HY4.out.size, fun x hx => (by have := HFA.out.2.2.2 x hx; (try simp at this); omega)⟩⟩ | exact ⟨rfl, _, aa, ca, rfl, Lib.hid ⟨RS.store (z := 0) (f := 0) (ms := []) (a := none) (cap := 0) ⟨HBK.out, FRow.none _, Nat.le_refl _, Nat.zero_le _, bthen HS1.out.1.2.2.2.2.1 HY4.out, HS1.out.1.2.2.2.2.1.size, fun x hx => by cases hx⟩ HFA.out.1 HFA.out.2.1 HFA.out.2.2.1 (fun x hx _ e => by have := HFA.out.2.2.2 x hx; simp at this; omega), set3g HY4.out (Nat.le_refl _) _ _ _, Nat.le_refl _, fun x hx => (by have := HFA.out.2.2.2 x hx; (try simp at this); omega)⟩⟩)
      case rest =>
        obtain ⟨rfl, G12, a2, cap2, rfl, HC⟩ := hcut
        clear g0 g1 g2 x0 x1 x2 x3 x4 x5 a1 a3 a4 b1 b2 b3 n0 n1 n2 l0 l1 l2 HADD HSF
        have HS2 := Lib.hid (HS1.out.below HC.out.2.1)
        have HM2 := Lib.hid (HM1.out.below HC.out.2.1)
        by_cases he : addErr z f ms (useMark u) (1000 + u.now / 2) (skew % 40) = 0
        case neg =>
          have he' : (addErr z f ms (useMark u) (1000 + u.now / 2) (skew % 40) != 0) = true := by simpa using he
          clear he
          go_wp2
          go_roundw
          case rel => exact ⟨k + 1, by omega, by go_num, Lib.hid ⟨z, f, ms, a, cp, A, HS2.out, by omega⟩⟩
          case measure => simp [intOf]; omega
        have he' : (addErr z f ms (useMark u) (1000 + u.now / 2) (skew % 40) != 0) = false := by simpa using he
        have HNS := Lib.hid (seen_not he HS2.out.2.2.2.1)
        have HE := Lib.hid he
        clear he
        have HFA := Lib.hid (own_frow HS2.out.2.2.2.2.1)
        obtain ⟨nA, hnA⟩ : ∃ n, A.length = n := ⟨_, rfl⟩
        have HNA := Lib.hid hnA
        rw [hnA] at HFA hsc1 hAk ⊢
        clear hnA
        have hAl : nA ≤ 60 := by omega
        go_wp2
        go_loopw [14] (fun i wq => ∃ j n : Nat, j ≤ nA ∧ i = .int .i64 j ∧ wq = wc.drewN n) (fun i _ => nA - (intOf i).toNat)
        case atStart => exact ⟨0, 0, Nat.zero_le _, rfl, rfl⟩
        case round =>
          obtain ⟨j, n, hj, rfl, rfl⟩ := hrel
          by_cases hjl : j < nA
          · obtain ⟨b2, off2, y, rfl, hy, d0, d1, d2, d3, d4⟩ := HFA.out.mark hjl
            obtain ⟨x0, x1, x2, x3, x4⟩ := HM2.out
            have hne : decide (y = (useMark u)) = false := by
              simp only [decide_eq_false_iff_not]
              exact fun e => HNS.out (e ▸ List.mem_of_getElem? hy)
            have hq := fun W => eql_mark y (useMark u) W
            rw [hne] at hq
            have q3 : (0 : Int) ≤ (j : Int) := by omega
            have q4 : (j : Int) < (nA : Int) := by omega
            clear hy hne
            go_wp2
            go_quiet (fail)
            go_wp2
            go_roundw
            case rel => exact ⟨j + 1, _, by omega, by go_num, rfl⟩
            case measure => simp [intOf]; omega
          · have HX0 := Lib.hid (HS2.out.below (Below.drewN1 wc n wc.heap.size))
            have HR2 := Lib.hid (HC.out.1.below (Below.drewN1 wc n wc.heap.size))
            have HM3 := Lib.hid (HM2.out.below (Below.drewN1 wc n wc.heap.size))
            have HAL := Lib.hid (add_all HE.out HX0.out.2.2.2.1 HX0.out.2.2.1 (useMark_ok HUO.out))
            rw [HNA.out] at HX0 HVB
            clear HFA
            generalize wc.drewN n = X at *
            generalize addZ z f ms (useMark u) (1000 + u.now / 2) (skew % 40) = zN at *
            generalize addF z f ms (useMark u) (1000 + u.now / 2) (skew % 40) = fN at *
            generalize addM z f ms (useMark u) (1000 + u.now / 2) (skew % 40) = mN at *
            obtain ⟨x0, x1, x2, x3, x4⟩ := HM3.out
            have HOWN : Hid ((X.alloc (.cells #[.string (useMark u).n, .string (useMark u).i, .string (useMark u).r, .int .i64 (useMark u).t, .int .i64 (useMark u).k] 36)).ownsRow w.heap.size 36 5 (.slice sa nA sc) nA (mcells A)) := Lib.hid (by have := HX0.out.2.2.2.2.1; rw [HNA.out] at this; exact this.alloc _)
            have HSZ : Hid (w.heap.size ≤ (X.alloc (.cells #[.string (useMark u).n, .string (useMark u).i, .string (useMark u).r, .int .i64 (useMark u).t, .int .i64 (useMark u).k] 36)).heap.size) := Lib.hid (by have := HX0.out.1.2.2.2.2.1.size; simp; omega)
            have HSR : Hid (Src (X.alloc (.cells #[.string (useMark u).n, .string (useMark u).i, .string (useMark u).r, .int .i64 (useMark u).t, .int .i64 (useMark u).k] 36)) (some ⟨X.heap.size, 0, none⟩) (useMark u).cells) := Lib.hid (Src.cells5 X 36 (.string (useMark u).n) (.string (useMark u).i) (.string (useMark u).r) (.int .i64 (useMark u).t) (.int .i64 (useMark u).k))
            obtain ⟨i0, hi, hz0, hz1, hz2⟩ := info_parts info_mark
            have HI0 := Lib.hid (And.intro hi (And.intro hz0 (And.intro hz1 hz2)))
            clear hi hz0 hz1 hz2
            go_wp2_with (at_builtin; refine wpList_append_src _ rfl (.tmp 73) (.tmp 75) 22 rfl w.heap.size 36 i0 (.agg #[.string ByteArray.empty, .string ByteArray.empty, .string ByteArray.empty, .int .i64 0, .int .i64 0]) 5 64 Try.underlying22 HI0.out.1 HI0.out.2.1 HI0.out.2.2.1 HI0.out.2.2.2 rfl (by decide) _ nA _ rfl HOWN.out (some ⟨X.heap.size, 0, none⟩) 1 1 (useMark u).cells rfl (fun h => (Option.some_ne_none _ h).elim) rfl HSR.out (one_mark (useMark u)) (by unfold maxLen; omega) (by omega) HSZ.out ?_)
            intro v' w1 hown hgrow hat
            have HNX := Lib.hid (HX0.out.nx HR2.out HM3.out hGV HC.out.2.2.1 HC.out.2.2.2 (fun q hq => ⟨by have := HVB.out q hq; omega, by have := HVB.out q hq; omega⟩) hgrow hat)
            obtain ⟨va, vc, rfl, hv1, hv2⟩ := own_isz hown
            have HO1 : Hid (w1.ownsRow w.heap.size 36 5 (.slice va (nA + 1) vc) (A ++ [useMark u]).length (mcells (A ++ [useMark u]))) := Lib.hid (by rw [mcells_snoc, List.length_append, HNA.out]; exact hown)
            clear x0 x1 x2 x3 x4 hown hgrow hat HOWN HSZ HSR HI0 HX0 HR2 HM3 HC HS2 HM2 HNS HE he'
            obtain ⟨nN, hnN⟩ : ∃ n, mN.length = n := ⟨_, rfl⟩
            have HNN := Lib.hid hnN
            clear hnN
            have HCEL : Hid (∀ Y, Below w1.heap.size w1 Y → Y.cell? ⟨G, 1, none⟩ = some (.int .i64 f) ∧ Y.cell? ⟨G12, 0, none⟩ = some (.int .i64 zN) ∧ Y.cell? ⟨G12, 1, none⟩ = some (.int .i64 fN) ∧ Y.cell? ⟨G12, 2, none⟩ = some (.slice a2 nN cap2) ∧ Y.cell? ⟨G11, 0, none⟩ = some (.string (useMark u).n) ∧ Y.cell? ⟨G11, 1, none⟩ = some (.string (useMark u).i) ∧ Y.cell? ⟨G11, 2, none⟩ = some (.string (useMark u).r) ∧ Y.cell? ⟨G11, 3, none⟩ = some (.int .i64 (useMark u).t) ∧ Y.cell? ⟨G11, 4, none⟩ = some (.int .i64 (useMark u).k)) := Lib.hid (fun Y hY => by
              have h := HNX.out.below hY
              obtain ⟨_, g1, _⟩ := h.1.cells
              obtain ⟨e0, e1, e2, _⟩ := h.2.1.cells
              rw [HNN.out] at e2
              exact ⟨g1, e0, e1, e2, h.2.2.1⟩)
            have t1 : decide (fN < f) = false := by have := HAL.out.1; simp; omega
            have t2 : decide (zN < (nN : Int)) = false := by have := HAL.out.2.1; rw [HNN.out] at this; simp; omega
            obtain ⟨g1, e0, e1, e2, x0, x1, x2, x3, x4⟩ := HCEL.out w1 (Below.refl _ _)
            have HRW : Hid (RS w G12 zN fN mN a2 cap2 w1) := Lib.hid HNX.out.2.1
            have HFN : Hid (FRow w1 a2 nN 5 (mcells mN)) := Lib.hid (by have := HRW.out.2.1; rw [HNN.out] at this; exact this)
            have hcN1 : nN ≤ cap2 := by have := HRW.out.2.2.1; rw [HNN.out] at this; exact this
            have hcN2 : cap2 ≤ 9223372036854775807 := HRW.out.2.2.2.1
            go_wp2_with fail
            clear g1 e0 e1 e2 x0 x1 x2 x3 x4
            refine (check_any zN fN a2 nN cap2 mN w1 HFN.out HAL.out.2.2.2.2.2.1 hcN1 hcN2).mono ?_
            rintro e y5 ⟨rfl, hb5⟩
            rw [HAL.out.2.2.1]
            have HB5 := Lib.hid hb5
            obtain ⟨g1, e0, e1, e2, x0, x1, x2, x3, x4⟩ := HCEL.out y5 hb5
            clear hb5
            go_wp2_with fail
            clear g1 e0 e1 e2 x0 x1 x2 x3 x4
            refine (has_any zN fN a2 nN cap2 mN (useMark u) y5 (HFN.out.below HB5.out) (by omega)).mono ?_
            rintro e y6 ⟨rfl, hb6⟩
            rw [HAL.out.2.2.2.1]
            have HB6 := Lib.hid (bthen HB5.out hb6)
            clear hb6
            obtain ⟨_, e0, e1, e2, _⟩ := HCEL.out y6 HB6.out
            obtain ⟨g0, g1, g2, k0, k1, k2, hGy⟩ := (HNX.out.below HB6.out).1.cells
            have HS6 := Lib.hid ((HNX.out.below HB6.out).st HAL.out.2.2.1 HAL.out.2.2.2.2.2.1 HAL.out.2.2.2.2.1 (ownsRow_below HO1.out HB6.out))
            have HAL6 : Hid ((A ++ [useMark u]).length ≤ k + 1) := Lib.hid (by rw [List.length_append, HNA.out]; simp; omega)
            rw [HNN.out] at HS6
            clear HNX HCEL HRW HFN HB5 HB6
            go_wp2
            go_roundw
            case rel => exact ⟨k + 1, by omega, by go_num, Lib.hid ⟨zN, fN, mN, a2, cap2, A ++ [useMark u], HS6.out, HAL6.out⟩⟩
            case measure => simp [intOf]; omega
    · have HFA := Lib.hid (own_frow HS0.out.2.2.2.2.1)
      obtain ⟨nA, hnA⟩ : ∃ n, A.length = n := ⟨_, rfl⟩
      have HNA := Lib.hid hnA
      rw [hnA] at HFA hsc1 hAk ⊢
      clear hnA
      have hAl : nA ≤ 60 := by omega
      obtain ⟨nm, hnm⟩ : ∃ nm, ms.length = nm := ⟨_, rfl⟩
      have HNM := Lib.hid hnm
      clear hnm
      have HNM4 : Hid (nm ≤ 40) := Lib.hid (by have h := check_iff.1 HS0.out.2.1; have h1 := h.1; have h2 := h.2.2.1; rw [HNM.out] at h2; omega)
      go_wp2
      obtain ⟨wo, rfl⟩ : ∃ wo : World, wo = wr := ⟨_, rfl⟩
      go_loopw [15] (fun i wx => ∃ j : Nat, j ≤ nA ∧ i = .int .i64 j ∧ Hid (Below wo.heap.size wo wx)) (fun i _ => nA - (intOf i).toNat)
      case atStart => exact ⟨0, Nat.zero_le _, rfl, Lib.hid (Below.refl _ _)⟩
      case round =>
        obtain ⟨j, hj, rfl, HQ⟩ := hrel
        by_cases hjl : j < nA
        · obtain ⟨b2, off2, y, rfl, hy, d0, d1, d2, d3, d4⟩ := (HFA.out.below HQ.out).mark hjl
          have HSY : Hid (hasB ms y = false → y.t < f) := Lib.hid (fun hh => by
            rcases HS0.out.2.2.2.1 y (List.mem_of_getElem? hy) with h | h
            · rw [hasB, List.contains_iff_mem.2 h] at hh; cases hh
            · exact h)
          have HCL : Hid (∀ X, Below wr.heap.size wr X → X.cell? ⟨G, 0, none⟩ = some (.int .i64 z) ∧ X.cell? ⟨G, 1, none⟩ = some (.int .i64 f) ∧ X.cell? ⟨G, 2, none⟩ = some (.slice a nm cp) ∧ X.cell? ⟨b2, off2 + j * 5, none⟩ = some (.string y.n) ∧ X.cell? ⟨b2, off2 + j * 5 + 1, none⟩ = some (.string y.i) ∧ X.cell? ⟨b2, off2 + j * 5 + 2, none⟩ = some (.string y.r) ∧ X.cell? ⟨b2, off2 + j * 5 + 3, none⟩ = some (.int .i64 y.t) ∧ X.cell? ⟨b2, off2 + j * 5 + 4, none⟩ = some (.int .i64 y.k)) := Lib.hid (fun X hX => by
            obtain ⟨g0, g1, g2, _⟩ := ((HS0.out.below HQ.out).below hX).1.cells
            rw [HNM.out] at g2
            have hb := World.block_lt_of_cell? _ _ d0
            exact ⟨g0, g1, g2, (hX.cell (p := ⟨b2, off2 + j * 5, none⟩) hb).trans d0, (hX.cell (p := ⟨b2, off2 + j * 5 + 1, none⟩) hb).trans d1, (hX.cell (p := ⟨b2, off2 + j * 5 + 2, none⟩) hb).trans d2, (hX.cell (p := ⟨b2, off2 + j * 5 + 3, none⟩) hb).trans d3, (hX.cell (p := ⟨b2, off2 + j * 5 + 4, none⟩) hb).trans d4⟩)
          have HFC : Hid (FRow wr a nm 5 (mcells ms)) := Lib.hid (by have := (HS0.out.below HQ.out).1.2.1; rw [HNM.out] at this; exact this)
          have HHA : Hid (∀ X, Below wr.heap.size wr X → Calls Try.prog 21 #[.agg #[.int .i64 z, .int .i64 f, .slice a nm cp], .agg #[.string y.n, .string y.i, .string y.r, .int .i64 y.t, .int .i64 y.k]] X fun e w' => e = .returned (.bool (hasB ms y)) ∧ Below X.heap.size X w') := Lib.hid (fun X hX => has_any z f a nm cp ms y X (HFC.out.below hX) (by have := HNM4.out; omega))
          have q3 : (0 : Int) ≤ (j : Int) := by omega
          have q4 : (j : Int) < (nA : Int) := by omega
          clear hy
          generalize hasB ms y = hh at *
          obtain ⟨g0, g1, g2, _⟩ := HCL.out wr (Below.refl _ _)
          have g0' := BX.cell g0
          have g1' := BX.cell g1
          have g2' := BX.cell g2
          have d0' := BX.cell d0
          have d1' := BX.cell d1
          have d2' := BX.cell d2
          have d3' := BX.cell d3
          have d4' := BX.cell d4
          clear HCL g0 g1 g2 d0 d1 d2 d3 d4
          go_wp2
          cases hh
          · have hyf : y.t < f := HSY.out rfl
            have hyf' : decide (f ≤ y.t) = false := by simp; omega
            refine wp_region_below (by kernel_rfl) (by kernel_rfl) ?_
            repeat (go_big_quiet_step ((go_at_call 21; exact Calls.below_of (HHA.out _ (BX.h _)))))
            refine wpQuiet_nil ?_
            rintro _ ⟨xq, rfl⟩
            have HQ2 := Lib.hid (bthen HQ.out xq.h)
            clear HFC HHA HSY
            go_wp2
            go_roundw
            case rel => exact ⟨j + 1, by omega, by go_num, HQ2⟩
            case measure => simp [intOf]; omega
          · refine wp_region_below (by kernel_rfl) (by kernel_rfl) ?_
            repeat (go_big_quiet_step ((go_at_call 21; exact Calls.below_of (HHA.out _ (BX.h _)))))
            refine wpQuiet_nil ?_
            rintro _ ⟨xq, rfl⟩
            have HQ2 := Lib.hid (bthen HQ.out xq.h)
            clear HFC HHA HSY
            go_wp2
            go_roundw
            case rel => exact ⟨j + 1, by omega, by go_num, HQ2⟩
            case measure => simp [intOf]; omega
        · go_wp2
          go_ret
          exact ⟨rfl, bthen HS0.out.1.2.2.2.2.1 HQ.out⟩
end ReplayOnce
end Go.Proofs.Ytegcdefdkebmnaa
