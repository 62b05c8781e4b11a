/- Contract of the reference's Read of boxes. -/
import Derived.Test.YtbfdggppjcaplaaBoxRead
import Derived.Test.YtbfdggppjcaplaaBytesRef
import Derived.IntWalk
namespace Go.Proofs.Ytbfdggppjcaplaa
open Go.RowKit
set_option linter.unnecessarySimpa false

theorem own_emptyB (w : World) (T : TypeId) : (w.alloc (.cells #[] T)).ownsRow w.heap.size T 1 (.slice (some ⟨w.heap.size, 0, none⟩) 0 0) 0 [] := by
  have := World.ownsRow_lit (base := w.heap.size) (e := T) (size := 1) w #[] 0 (Nat.le_refl _) (by unfold maxLen; omega) (by simp)
  simpa using this
theorem own_isv {w : World} {base : Nat} {T : TypeId} {v : Value} {n : Nat} {xs : List Value} (h : w.ownsRow base T 1 v n xs) : ∃ a cap, v = .slice a n cap := by
  rcases h.2 with ⟨h1, h2⟩ | ⟨g, cap, cur, h1, _⟩
  · exact ⟨none, 0, by rw [h2]; exact h1⟩
  · exact ⟨_, cap, h1⟩

theorem own_after2 {w W0 w1 : World} {v : Value} {zs : List Int} {n : Nat} {x y z : Value} (hx : Below w.heap.size w W0) (hs : W0.heap.size = w.heap.size + 1) (hl : zs.length = n)
    (h : w1.ownsRow W0.heap.size 5 1 v n (zs.map (Value.int .u8))) (hb1 : Below W0.heap.size W0 w1) :
    Own .u8 5 w (((w1.setCell ⟨w.heap.size, 0, none⟩ x).setCell ⟨w.heap.size, 1, none⟩ y).setCell ⟨w.heap.size, 2, none⟩ z) v zs := by
  subst hl
  have hb : Below w.heap.size w w1 := bthen hx hb1
  refine ⟨?_, ((hb.setCell (Nat.le_refl _) _).setCell (Nat.le_refl _) _).setCell (Nat.le_refl _) _⟩
  have hlt : w.heap.size < W0.heap.size := by omega
  exact ownsRow_base (ownsRow_setCell_below (ownsRow_setCell_below (ownsRow_setCell_below h (a := ⟨w.heap.size, 0, none⟩) hlt x) (a := ⟨w.heap.size, 1, none⟩) hlt y) (a := ⟨w.heap.size, 2, none⟩) hlt z) (by omega)

set_option maxRecDepth 100000 in
set_option maxHeartbeats 4000000 in
theorem refBoxRead_any (a : Option Addr) (len cap : Nat) (zs : List Int) (w : World) (hr : Row .u8 w a len zs) (hb : ∀ x ∈ zs, 0 ≤ x ∧ x ≤ 255) (hcap : len ≤ cap) (hcm : cap ≤ 9223372036854775807) :
    Calls Try.prog 37 #[.slice a len cap] w (ReadPost zs w) := by
  have HL := Lib.hid hr.1
  have HR := Lib.hid hr
  have HB := Lib.hid hb
  clear hr hb
  by_cases h12 : len < 12
  · have HE := Lib.hid (show readErr zs = 101 by simp [readErr, HL.out, h12])
    go_enter Try.func37, Try.ntmps37
    go_wp2
    exact bodyPost_ret (v := .tuple #[.agg #[.int .i64 0, .int .u64 0, .slice none 0 0], .int .i64 0, .int .i64 101]) (by simp [results, Try.results37, go_sem]) rfl (ReadPost.fail HE.out (by decide) (Below.alloc1 _ _))
  obtain ⟨b, off, rfl, hc0⟩ := HR.out.at (i := 0) (by omega)
  have hcl := fun (i : Nat) (hi : i < len) => (show w.cell? ⟨b, off + i, none⟩ = some (.int .u8 (bAt zs i)) by
    obtain ⟨b', off', e, h⟩ := HR.out.at hi
    cases e
    exact h)
  have hc1 := hcl 1 (by omega)
  have hc10 := hcl 10 (by omega)
  have hc11 := hcl 11 (by omega)
  have hblt : b < w.heap.size := World.block_lt_of_cell? _ _ hc1
  clear hcl
  have hc0' : w.cell? ⟨b, off, none⟩ = some (.int .u8 (bAt zs 0)) := hc0
  clear hc0
  have b0 := bAt_bd HB.out 0
  have b1 := bAt_bd HB.out 1
  have b10 := bAt_bd HB.out 10
  have b11 := bAt_bd HB.out 11
  have hor := or_i64 (bAt zs 10) (bAt zs 11) b10.1 b10.2 b11.1 b11.2
  have hsz : boxSize zs = bAt zs 10 * 256 + bAt zs 11 := rfl
  have HSZ := Lib.hid hsz
  rw [← hsz] at hor
  have hsb : 0 ≤ boxSize zs ∧ boxSize zs ≤ 65535 := by rw [hsz]; omega
  clear hsz
  have HKR : Hid (Row .u8 w (some ⟨b, off + 2, none⟩) 8 (keyPart zs)) := Lib.hid (by
    have := (HR.out.drop 2 (by omega)).take 8 (by omega)
    exact this)
  have HKB : Hid (∀ x ∈ keyPart zs, 0 ≤ x ∧ x ≤ 255) := Lib.hid (fun x hx => HB.out x (List.mem_of_mem_drop (List.mem_of_mem_take hx)))
  have hne : ¬ cap = 2 := by omega
  have h12b : decide (len < 12) = false := by simpa using h12
  cases hm : (bAt zs 0 == 66)
  · have HE := Lib.hid (show readErr zs = 100 by simp [readErr, HL.out, h12, hm])
    have hm2 : (bAt zs 0 != 66) = true := by simp [bne, hm]
    go_enter Try.func37, Try.ntmps37
    go_wp2_with (go_at_call 28; refine (refRead_any _ _ _ _ _ (HKR.out.below (Below.alloc1 _ _)) HKB.out).mono ?_; rintro e w' ⟨rfl, rfl⟩)
    go_quiet (fail)
    go_wp2
    exact bodyPost_ret (v := .tuple #[.agg #[.int .i64 0, .int .u64 0, .slice none 0 0], .int .i64 0, .int .i64 100]) (by simp [results, Try.results37, go_sem]) rfl (ReadPost.fail HE.out (by decide) (((((Below.alloc1 _ _).trans (Below.drewN1 _ _ _)).setCell (Nat.le_refl _) _).setCell (Nat.le_refl _) _).setCell (Nat.le_refl _) _))
  have hm2 : (bAt zs 0 != 66) = false := by simp [bne, hm]
  by_cases hk1 : bAt zs 1 < 1
  · have HE := Lib.hid (show readErr zs = 100 by simp [readErr, HL.out, h12, kindB_mkF (.inl hk1)])
    go_enter Try.func37, Try.ntmps37
    go_wp2_with (go_at_call 28; refine (refRead_any _ _ _ _ _ (HKR.out.below (Below.alloc1 _ _)) HKB.out).mono ?_; rintro e w' ⟨rfl, rfl⟩)
    go_quiet (fail)
    go_wp2
    exact bodyPost_ret (v := .tuple #[.agg #[.int .i64 0, .int .u64 0, .slice none 0 0], .int .i64 0, .int .i64 100]) (by simp [results, Try.results37, go_sem]) rfl (ReadPost.fail HE.out (by decide) (((((Below.alloc1 _ _).trans (Below.drewN1 _ _ _)).setCell (Nat.le_refl _) _).setCell (Nat.le_refl _) _).setCell (Nat.le_refl _) _))
  by_cases hk2 : 10 < bAt zs 1
  · have HE := Lib.hid (show readErr zs = 100 by simp [readErr, HL.out, h12, kindB_mkF (.inr hk2)])
    go_enter Try.func37, Try.ntmps37
    go_wp2_with (go_at_call 28; refine (refRead_any _ _ _ _ _ (HKR.out.below (Below.alloc1 _ _)) HKB.out).mono ?_; rintro e w' ⟨rfl, rfl⟩)
    go_quiet (fail)
    go_wp2
    exact bodyPost_ret (v := .tuple #[.agg #[.int .i64 0, .int .u64 0, .slice none 0 0], .int .i64 0, .int .i64 100]) (by simp [results, Try.results37, go_sem]) rfl (ReadPost.fail HE.out (by decide) (((((Below.alloc1 _ _).trans (Below.drewN1 _ _ _)).setCell (Nat.le_refl _) _).setCell (Nat.le_refl _) _).setCell (Nat.le_refl _) _))
  have HK := Lib.hid (show kindB (bAt zs 1) = true from kindB_mk (by omega) (by omega))
  cases ho : readOk (keyPart zs)
  · have HE := Lib.hid (show readErr zs = 100 by simp [readErr, HL.out, h12, ho])
    go_enter Try.func37, Try.ntmps37
    go_wp2_with (go_at_call 28; refine (refRead_any _ _ _ _ _ (HKR.out.below (Below.alloc1 _ _)) HKB.out).mono ?_; rintro e w' ⟨rfl, rfl⟩)
    go_quiet (fail)
    go_wp2
    exact bodyPost_ret (v := .tuple #[.agg #[.int .i64 0, .int .u64 0, .slice none 0 0], .int .i64 0, .int .i64 100]) (by simp [results, Try.results37, go_sem]) rfl (ReadPost.fail HE.out (by decide) (((((Below.alloc1 _ _).trans (Below.drewN1 _ _ _)).setCell (Nat.le_refl _) _).setCell (Nat.le_refl _) _).setCell (Nat.le_refl _) _))
  by_cases hbig : 1000 < boxSize zs
  · have HE := Lib.hid (show readErr zs = 100 by simp [readErr, HL.out, h12, hbig])
    go_enter Try.func37, Try.ntmps37
    go_wp2_with (go_at_call 28; refine (refRead_any _ _ _ _ _ (HKR.out.below (Below.alloc1 _ _)) HKB.out).mono ?_; rintro e w' ⟨rfl, rfl⟩)
    go_quiet (fail)
    go_wp2
    exact bodyPost_ret (v := .tuple #[.agg #[.int .i64 0, .int .u64 0, .slice none 0 0], .int .i64 0, .int .i64 100]) (by simp [results, Try.results37, go_sem]) rfl (ReadPost.fail HE.out (by decide) (((((Below.alloc1 _ _).trans (Below.drewN1 _ _ _)).setCell (Nat.le_refl _) _).setCell (Nat.le_refl _) _).setCell (Nat.le_refl _) _))
  by_cases hend : (len : Int) < 12 + boxSize zs
  · have HE := Lib.hid (show readErr zs = 101 by simp [readErr, HL.out, h12, hm, HK.out, ho, hbig, hend])
    go_enter Try.func37, Try.ntmps37
    go_wp2_with (go_at_call 28; refine (refRead_any _ _ _ _ _ (HKR.out.below (Below.alloc1 _ _)) HKB.out).mono ?_; rintro e w' ⟨rfl, rfl⟩)
    go_quiet (fail)
    go_wp2
    exact bodyPost_ret (v := .tuple #[.agg #[.int .i64 0, .int .u64 0, .slice none 0 0], .int .i64 0, .int .i64 101]) (by simp [results, Try.results37, go_sem]) rfl (ReadPost.fail HE.out (by decide) (((((Below.alloc1 _ _).trans (Below.drewN1 _ _ _)).setCell (Nat.le_refl _) _).setCell (Nat.le_refl _) _).setCell (Nat.le_refl _) _))
  have HE := Lib.hid (show readErr zs = 0 by simp [readErr, HL.out, h12, hm, HK.out, ho, hbig, hend])
  obtain ⟨n, HN⟩ : ∃ n : Nat, Hid (boxSize zs = (n : Int)) := ⟨(boxSize zs).toNat, Lib.hid (by omega)⟩
  rw [HN.out] at hor hsb hbig hend
  have hn : n ≤ 1000 ∧ 12 + n ≤ len := by omega
  have HBR : Hid (Row .u8 w (some ⟨b, off + 12, none⟩) n ((zs.drop 12).take n)) := Lib.hid ((HR.out.drop 12 (by omega)).take n (by omega))
  have HBODY := Lib.hid (show boxBody zs = (zs.drop 12).take n by unfold boxBody; rw [HE.out, if_pos rfl, HN.out]; rfl)
  have HLB := Lib.hid (HBR.out.1)
  obtain ⟨i0, hi, hz0, hz1, hz2⟩ := info_parts info_u8
  have HI0 := Lib.hid (And.intro hi (And.intro hz0 (And.intro hz1 hz2)))
  clear hi hz0 hz1 hz2
  by_cases hc12 : cap = 12
  · subst hc12
    obtain rfl : n = 0 := by omega
    have HBODY := Lib.hid (show boxBody zs = [] by rw [HBODY.out]; rfl)
    have HLB := Lib.hid (show ([] : List Int).length = 0 from rfl)
    have HS0 : Hid (Src w (some ⟨b, off, none⟩) (([] : List Int).map (Value.int .u8))) := Lib.hid (.inr ⟨_, rfl, fun j u hu => by simp at hu⟩)
    go_enter Try.func37, Try.ntmps37
    go_wp2_with (go_at_call 28; refine (refRead_any _ _ _ _ _ (HKR.out.below (Below.alloc1 _ _)) HKB.out).mono ?_; rintro e w' ⟨rfl, rfl⟩)
    go_quiet (fail)
    go_wp2
    have HX : Hid (Below w.heap.size w ((w.alloc (.cells #[.int .i64 0, .int .u64 0, .slice none 0 0] 50)).drewN nq)) := Lib.hid ((Below.alloc1 _ _).trans (Below.drewN1 _ _ _))
    have hx1 : ((w.alloc (.cells #[.int .i64 0, .int .u64 0, .slice none 0 0] 50)).drewN nq).cell? ⟨b, off + 1, none⟩ = some (.int .u8 (bAt zs 1)) := by rw [HX.out.cell (p := ⟨b, off + 1, none⟩) hblt]; exact hc1
    have hr0 : ((w.alloc (.cells #[.int .i64 0, .int .u64 0, .slice none 0 0] 50)).drewN nq).cell? ⟨w.heap.size, 0, none⟩ = some (.int .i64 0) := by simp
    have hr1 : ((w.alloc (.cells #[.int .i64 0, .int .u64 0, .slice none 0 0] 50)).drewN nq).cell? ⟨w.heap.size, 1, none⟩ = some (.int .u64 0) := by simp
    have hr2 : ((w.alloc (.cells #[.int .i64 0, .int .u64 0, .slice none 0 0] 50)).drewN nq).cell? ⟨w.heap.size, 2, none⟩ = some (.slice none 0 0) := by simp
    have hf0 : ∀ j, ((w.alloc (.cells #[.int .i64 0, .int .u64 0, .slice none 0 0] 50)).drewN nq).frozen? ⟨w.heap.size, j, none⟩ = false := fun j => by simp
    have hxs : ((w.alloc (.cells #[.int .i64 0, .int .u64 0, .slice none 0 0] 50)).drewN nq).heap.size = w.heap.size + 1 := by simp
    have HSRC := Lib.hid (HS0.out.below HX.out)
    clear hc0' hc1 hc10 hc11
    generalize (w.alloc (.cells #[.int .i64 0, .int .u64 0, .slice none 0 0] 50)).drewN nq = W0 at *
    have HF0 := Lib.hid hf0
    have HXS := Lib.hid hxs
    have HE0 : Hid ((W0.alloc (.cells #[] 5)).drew.ownsRow W0.heap.size 5 1 (.slice (some ⟨W0.heap.size, 0, none⟩) 0 0) 0 []) := Lib.hid (own_emptyB W0 5)
    have HE1 : Hid (Below W0.heap.size W0 (W0.alloc (.cells #[] 5)).drew) := Lib.hid (Below.alloc1 W0 _).drew
    have HR0 := Lib.hid hr0
    have HR1 := Lib.hid hr1
    have HR2 := Lib.hid hr2
    have HX1 := Lib.hid hx1
    have hlt0 : w.heap.size < W0.heap.size := by rw [hxs]; omega
    have hltb : b < W0.heap.size := by rw [hxs]; omega
    clear hf0 hxs hr0 hr1 hr2
    have q5 : IntKind.i64.wrap 12 = 12 := IntWalk.i64_in _ (by omega)
    have q6 : IntKind.i64.wrap (bAt zs 1) = bAt zs 1 := IntWalk.i64_in _ (by omega)
    go_region_law ((refine step_append_src _ (by rfl) (.tmp 66) (.tmp 70) 32 (by rfl) W0.heap.size 5 i0 (.int .u8 0) 1 1 Try.underlying32 HI0.out.1 HI0.out.2.1 HI0.out.2.2.1 HI0.out.2.2.2 rfl (by decide) _ 0 [] (by rfl) HE0.out (some ⟨b, off, none⟩) 0 0 (([] : List Int).map (Value.int .u8)) (by rfl) (fun h => (Option.some_ne_none _ h).elim) ?_ (HSRC.out.below HE1.out) (oneCell_ints _ _) ?_ ?_ HE1.out.size ?_; (focus (simpa using HLB.out)); (focus (unfold maxLen; omega)); (focus omega); intro v1 w1 hown1 hgrow1 hat1; have hb1 : Below W0.heap.size W0 w1 := HE1.out.grown hgrow1 HE1.out.size (fun q hq => by cases hq; exact Nat.le_refl _); have hx1 : w1.cell? ⟨b, off + 1, none⟩ = some (.int .u8 (bAt zs 1)) := (hb1.cell (p := ⟨b, off + 1, none⟩) hltb).trans HX1.out; have hq0 : w1.cell? ⟨w.heap.size, 0, none⟩ = some (.int .i64 0) := (hb1.cell (p := ⟨w.heap.size, 0, none⟩) hlt0).trans HR0.out; have hq1 : w1.cell? ⟨w.heap.size, 1, none⟩ = some (.int .u64 0) := (hb1.cell (p := ⟨w.heap.size, 1, none⟩) hlt0).trans HR1.out; have hq2 : w1.cell? ⟨w.heap.size, 2, none⟩ = some (.slice none 0 0) := (hb1.cell (p := ⟨w.heap.size, 2, none⟩) hlt0).trans HR2.out; have hg0 : w1.frozen? ⟨w.heap.size, 0, none⟩ = false := (hb1.frozen (p := ⟨w.heap.size, 0, none⟩) hlt0).trans (HF0.out 0); have hg1 : w1.frozen? ⟨w.heap.size, 1, none⟩ = false := (hb1.frozen (p := ⟨w.heap.size, 1, none⟩) hlt0).trans (HF0.out 1); have hg2 : w1.frozen? ⟨w.heap.size, 2, none⟩ = false := (hb1.frozen (p := ⟨w.heap.size, 2, none⟩) hlt0).trans (HF0.out 2); obtain ⟨va, vcap, hv⟩ := own_isv hown1; have HOWN := Lib.hid (And.intro hown1 hb1); rw [hv] at *; clear hown1 hgrow1 hat1 hb1 hv))
    all_goals
      clear q5 q6
      go_wp2
      refine bodyPost_ret (v := .tuple #[.agg #[.int .i64 (bAt zs 1), .int .u64 (readKey (keyPart zs)), .slice va 0 vcap], .int .i64 12, .int .i64 0]) (by simp [results, Try.results37, go_sem, hq0, hq1, hq2]) rfl ?_
      refine ReadPost.yes HE.out (by rw [HN.out]; rfl) ?_
      rw [HBODY.out]
      exact own_after2 HX.out HXS.out HLB.out (by simpa using HOWN.out.1) HOWN.out.2
  · have hc12' : 12 < cap := by omega
    generalize (zs.drop 12).take n = B at *
    go_enter Try.func37, Try.ntmps37
    go_wp2_with (go_at_call 28; refine (refRead_any _ _ _ _ _ (HKR.out.below (Below.alloc1 _ _)) HKB.out).mono ?_; rintro e w' ⟨rfl, rfl⟩)
    go_quiet (fail)
    go_wp2
    have HX : Hid (Below w.heap.size w ((w.alloc (.cells #[.int .i64 0, .int .u64 0, .slice none 0 0] 50)).drewN nq)) := Lib.hid ((Below.alloc1 _ _).trans (Below.drewN1 _ _ _))
    have hx1 : ((w.alloc (.cells #[.int .i64 0, .int .u64 0, .slice none 0 0] 50)).drewN nq).cell? ⟨b, off + 1, none⟩ = some (.int .u8 (bAt zs 1)) := by rw [HX.out.cell (p := ⟨b, off + 1, none⟩) hblt]; exact hc1
    have hr0 : ((w.alloc (.cells #[.int .i64 0, .int .u64 0, .slice none 0 0] 50)).drewN nq).cell? ⟨w.heap.size, 0, none⟩ = some (.int .i64 0) := by simp
    have hr1 : ((w.alloc (.cells #[.int .i64 0, .int .u64 0, .slice none 0 0] 50)).drewN nq).cell? ⟨w.heap.size, 1, none⟩ = some (.int .u64 0) := by simp
    have hr2 : ((w.alloc (.cells #[.int .i64 0, .int .u64 0, .slice none 0 0] 50)).drewN nq).cell? ⟨w.heap.size, 2, none⟩ = some (.slice none 0 0) := by simp
    have hf0 : ∀ j, ((w.alloc (.cells #[.int .i64 0, .int .u64 0, .slice none 0 0] 50)).drewN nq).frozen? ⟨w.heap.size, j, none⟩ = false := fun j => by simp
    have hxs : ((w.alloc (.cells #[.int .i64 0, .int .u64 0, .slice none 0 0] 50)).drewN nq).heap.size = w.heap.size + 1 := by simp
    have HSRC := Lib.hid ((Src.of_row HBR.out).below HX.out)
    clear hc0' hc1 hc10 hc11
    generalize (w.alloc (.cells #[.int .i64 0, .int .u64 0, .slice none 0 0] 50)).drewN nq = W0 at *
    have HF0 := Lib.hid hf0
    have HXS := Lib.hid hxs
    have HE0 : Hid ((W0.alloc (.cells #[] 5)).drew.ownsRow W0.heap.size 5 1 (.slice (some ⟨W0.heap.size, 0, none⟩) 0 0) 0 []) := Lib.hid (own_emptyB W0 5)
    have HE1 : Hid (Below W0.heap.size W0 (W0.alloc (.cells #[] 5)).drew) := Lib.hid (Below.alloc1 W0 _).drew
    have HR0 := Lib.hid hr0
    have HR1 := Lib.hid hr1
    have HR2 := Lib.hid hr2
    have HX1 := Lib.hid hx1
    have hlt0 : w.heap.size < W0.heap.size := by rw [hxs]; omega
    have hltb : b < W0.heap.size := by rw [hxs]; omega
    clear hf0 hxs hr0 hr1 hr2
    have q1 : (0 : Int) ≤ 12 + (n : Int) := by omega
    have q2 : (12 : Int) + (n : Int) ≤ (cap : Int) := by omega
    have q3 : (12 : Int) ≤ 12 + (n : Int) := by omega
    have q4 : (12 + (n : Int)).toNat = 12 + n := by omega
    have q5 : IntKind.i64.wrap (12 + (n : Int)) = 12 + (n : Int) := IntWalk.i64_in _ (by omega)
    have q6 : IntKind.i64.wrap (bAt zs 1) = bAt zs 1 := IntWalk.i64_in _ (by omega)
    go_region_law ((refine step_append_src _ (by rfl) (.tmp 66) (.tmp 70) 32 (by rfl) W0.heap.size 5 i0 (.int .u8 0) 1 1 Try.underlying32 HI0.out.1 HI0.out.2.1 HI0.out.2.2.1 HI0.out.2.2.2 rfl (by decide) _ 0 [] (by rfl) HE0.out (some ⟨b, off + 12, none⟩) n (cap - 12) (B.map (Value.int .u8)) (by rfl) (fun h => (Option.some_ne_none _ h).elim) ?_ (HSRC.out.below HE1.out) (oneCell_ints _ _) ?_ ?_ HE1.out.size ?_; (focus (simpa using HLB.out)); (focus (unfold maxLen; omega)); (focus omega); intro v1 w1 hown1 hgrow1 hat1; have hb1 : Below W0.heap.size W0 w1 := HE1.out.grown hgrow1 HE1.out.size (fun q hq => by cases hq; exact Nat.le_refl _); have hx1 : w1.cell? ⟨b, off + 1, none⟩ = some (.int .u8 (bAt zs 1)) := (hb1.cell (p := ⟨b, off + 1, none⟩) hltb).trans HX1.out; have hq0 : w1.cell? ⟨w.heap.size, 0, none⟩ = some (.int .i64 0) := (hb1.cell (p := ⟨w.heap.size, 0, none⟩) hlt0).trans HR0.out; have hq1 : w1.cell? ⟨w.heap.size, 1, none⟩ = some (.int .u64 0) := (hb1.cell (p := ⟨w.heap.size, 1, none⟩) hlt0).trans HR1.out; have hq2 : w1.cell? ⟨w.heap.size, 2, none⟩ = some (.slice none 0 0) := (hb1.cell (p := ⟨w.heap.size, 2, none⟩) hlt0).trans HR2.out; have hg0 : w1.frozen? ⟨w.heap.size, 0, none⟩ = false := (hb1.frozen (p := ⟨w.heap.size, 0, none⟩) hlt0).trans (HF0.out 0); have hg1 : w1.frozen? ⟨w.heap.size, 1, none⟩ = false := (hb1.frozen (p := ⟨w.heap.size, 1, none⟩) hlt0).trans (HF0.out 1); have hg2 : w1.frozen? ⟨w.heap.size, 2, none⟩ = false := (hb1.frozen (p := ⟨w.heap.size, 2, none⟩) hlt0).trans (HF0.out 2); obtain ⟨va, vcap, hv⟩ := own_isv hown1; have HOWN := Lib.hid (And.intro hown1 hb1); rw [hv] at *; clear hown1 hgrow1 hat1 hb1 hv))
    all_goals
      clear q1 q2 q3 q4 q5 q6
      go_wp2
      refine bodyPost_ret (v := .tuple #[.agg #[.int .i64 (bAt zs 1), .int .u64 (readKey (keyPart zs)), .slice va n vcap], .int .i64 (12 + (n : Int)), .int .i64 0]) (by simp [results, Try.results37, go_sem, hq0, hq1, hq2]) rfl ?_
      refine ReadPost.yes HE.out (by rw [HN.out]) ?_
      rw [HBODY.out]
      exact own_after2 HX.out HXS.out HLB.out (by simpa using HOWN.out.1) HOWN.out.2
end Go.Proofs.Ytbfdggppjcaplaa
