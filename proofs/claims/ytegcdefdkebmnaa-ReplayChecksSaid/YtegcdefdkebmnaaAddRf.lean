/- Contract of the reference's Add of chapter 16. -/
import Derived.Test.YtegcdefdkebmnaaAdd
import Derived.StillTailTactics
namespace Go.Proofs.Ytegcdefdkebmnaa
open Go.RowKit
attribute [local go_sem ↓] Go.wp_at_zero Go.wp_at_succ

theorem AddRel.drewN {W wr : World} {G : Nat} {z fl : Int} {n : Nat} {cs : List Value} {v : Value} (h : AddRel W G z fl n cs v wr) (q : Nat) : AddRel W G z fl n cs v (wr.drewN q) :=
  ⟨⟨h.1.os, h.1.tape, h.1.output, h.1.size, h.1.block⟩, h.2.1, h.2.2⟩
theorem check_len {z f : Int} {ms : List Mk} (h : checkErr z f ms = 0) : (ms.length : Int) ≤ z := by
  unfold checkErr at h
  split at h
  · omega
  · split at h
    · omega
    · omega
set_option maxRecDepth 100000 in
set_option maxHeartbeats 4000000 in
theorem refAdd16_any (z f : Int) (a : Option Addr) (len cap : Nat) (ms : List Mk) (m : Mk) (now skew : Int) (w : World) (hr : FRow w a len 5 (mcells ms)) (hok : ∀ x ∈ ms, x.ok) (hmo : m.ok) (hcap : len ≤ cap) (hcm : cap ≤ 9223372036854775807) (hll : len ≤ 1000000) :
    Calls Try.prog 20 #[.agg #[.int .i64 z, .int .i64 f, .slice a len cap], .agg #[.string m.n, .string m.i, .string m.r, .int .i64 m.t, .int .i64 m.k], .int .i64 now, .int .i64 skew] w (AddPost z f ms m now skew w) := by
  have HL : Hid (ms.length = len) := Lib.hid (by have := hr.1; rw [mcells_len] at this; omega)
  have HB3 : Hid (Below w.heap.size w (((w.alloc (.cells #[.int .i64 z, .int .i64 f, .slice a len cap] 24)).alloc (.cells #[.string m.n, .string m.i, .string m.r, .int .i64 m.t, .int .i64 m.k] 36)).alloc (.cells #[.int .i64 0, .int .i64 0, .slice none 0 0] 24))) := Lib.hid (bthen (bthen (Below.alloc1 _ _) (Below.alloc1 _ _)) (Below.alloc1 _ _))
  have HR := Lib.hid (hr.below HB3.out)
  have HOK := Lib.hid hok
  have HMO := Lib.hid hmo
  have HBX := Lib.hid (boxes z f a len cap m w)
  have HW3 : Hid ((((w.alloc (.cells #[.int .i64 z, .int .i64 f, .slice a len cap] 24)).alloc (.cells #[.string m.n, .string m.i, .string m.r, .int .i64 m.t, .int .i64 m.k] 36)).alloc (.cells #[.int .i64 0, .int .i64 0, .slice none 0 0] 24)).heap.size = w.heap.size + 3) := Lib.hid (by simp)
  clear hr hok hmo
  have HFIN : Hid (∀ er y, Below (((w.alloc (.cells #[.int .i64 z, .int .i64 f, .slice a len cap] 24)).alloc (.cells #[.string m.n, .string m.i, .string m.r, .int .i64 m.t, .int .i64 m.k] 36)).alloc (.cells #[.int .i64 0, .int .i64 0, .slice none 0 0] 24)).heap.size (((w.alloc (.cells #[.int .i64 z, .int .i64 f, .slice a len cap] 24)).alloc (.cells #[.string m.n, .string m.i, .string m.r, .int .i64 m.t, .int .i64 m.k] 36)).alloc (.cells #[.int .i64 0, .int .i64 0, .slice none 0 0] 24)) y → addErr z f ms m now skew = er → er ≠ 0 → ∀ w', w' = ((y.setCell ⟨w.heap.size + 2, 0, none⟩ (.int .i64 0)).setCell ⟨w.heap.size + 2, 1, none⟩ (.int .i64 0)).setCell ⟨w.heap.size + 2, 2, none⟩ (.slice none 0 0) → AddPost z f ms m now skew w (.returned (.tuple #[.agg #[.int .i64 0, .int .i64 0, .slice none 0 0], .int .i64 er])) w') := Lib.hid (fun er y hy he h0 w' hw => by
    subst hw
    exact AddPost.err he h0 ((((bthen HB3.out hy).setCell (by simp) _).setCell (by simp) _).setCell (by simp) _))
  go_enter Try.func20, Try.ntmps20
  go_wp2_with fail
  refine (refCheck_any _ _ _ _ _ ms _ HR.out HOK.out hcap hcm).mono ?_
  rintro e y1 ⟨rfl, hb1⟩
  have HB1 := Lib.hid hb1
  obtain ⟨r0, r1, r2, m0, m1, m2, m3, m4, s0, s1, s2, t0, t1, t2⟩ := HBX.out y1 hb1
  clear hb1
  have hy1 : w.heap.size + 3 ≤ y1.heap.size := by have := HB1.out.size; rw [HW3.out] at this; exact this
  by_cases h1 : checkErr z f ms = 0
  case neg =>
    have HE : Hid (addErr z f ms m now skew = 108) := Lib.hid (by simp [addErr, h1])
    have h1' : (checkErr z f ms != 0) = true := by simpa using h1
    clear h1
    go_wp2
    refine bodyPost_ret (v := .tuple #[.agg #[.int .i64 0, .int .i64 0, .slice none 0 0], .int .i64 108]) (by simp [results, Try.results20, go_sem, s0, s1, s2]) rfl ?_
    exact HFIN.out 108 y1 HB1.out HE.out (by decide) _ rfl
  have h1' : (checkErr z f ms != 0) = false := by simpa using h1
  have H1 := Lib.hid h1
  clear h1
  go_wp2_with fail
  refine (refValid_p_any _ _ _ _ HMO.out.1 HMO.out.2.1 HMO.out.2.2.1).mono ?_
  rintro e y2 ⟨rfl, hb2⟩
  have HB2 := Lib.hid (bthen HB1.out hb2)
  clear hb2
  clear r0 r1 r2 m0 m1 m2 m3 m4 s0 s1 s2 t0 t1 t2
  obtain ⟨r0, r1, r2, m0, m1, m2, m3, m4, s0, s1, s2, t0, t1, t2⟩ := HBX.out y2 HB2.out
  have hy2 : w.heap.size + 3 ≤ y2.heap.size := by have := HB2.out.size; rw [HW3.out] at this; exact this
  cases h2 : prinB m.n m.i m.r
  · have HE : Hid (addErr z f ms m now skew = 103) := Lib.hid (by simp [addErr, H1.out, h2])
    go_wp2
    refine bodyPost_ret (v := .tuple #[.agg #[.int .i64 0, .int .i64 0, .slice none 0 0], .int .i64 103]) (by simp [results, Try.results20, go_sem, s0, s1, s2]) rfl ?_
    exact HFIN.out 103 y2 HB2.out HE.out (by decide) _ rfl
  by_cases p1 : m.k < 0
  · have HE : Hid (addErr z f ms m now skew = 104) := Lib.hid (by simp [addErr, H1.out, h2, wiB_lo p1])
    have p1' : decide (m.k < 0) = true := by simpa using p1
    go_wp2
    refine bodyPost_ret (v := .tuple #[.agg #[.int .i64 0, .int .i64 0, .slice none 0 0], .int .i64 104]) (by simp [results, Try.results20, go_sem, s0, s1, s2]) rfl ?_
    exact HFIN.out 104 y2 HB2.out HE.out (by decide) _ rfl
  have p1' : decide (m.k < 0) = false := by simpa using p1
  by_cases p2 : 199 < m.k
  · have HE : Hid (addErr z f ms m now skew = 104) := Lib.hid (by simp [addErr, H1.out, h2, wiB_hi p2])
    have p2' : decide (199 < m.k) = true := by simpa using p2
    go_wp2
    refine bodyPost_ret (v := .tuple #[.agg #[.int .i64 0, .int .i64 0, .slice none 0 0], .int .i64 104]) (by simp [results, Try.results20, go_sem, s0, s1, s2]) rfl ?_
    exact HFIN.out 104 y2 HB2.out HE.out (by decide) _ rfl
  have p2' : decide (199 < m.k) = false := by simpa using p2
  have h3 := wiB_mk p1 p2
  cases h4 : nearB m.t now skew
  · have HE : Hid (addErr z f ms m now skew = 37) := Lib.hid (by simp [addErr, H1.out, h2, h3, h4])
    go_wp2_with (first | (go_at_call 40; refine (within_any _ _ _ _).mono ?_; rintro e w' ⟨rfl, rfl⟩) | (go_at_call 45; refine (refNear_any _ _ _ _).mono ?_; rintro e w' ⟨rfl, rfl⟩))
    refine bodyPost_ret (v := .tuple #[.agg #[.int .i64 0, .int .i64 0, .slice none 0 0], .int .i64 37]) (by simp [results, Try.results20, go_sem, s0, s1, s2]) rfl ?_
    exact HFIN.out 37 y2 HB2.out HE.out (by decide) _ rfl
  by_cases h5 : m.t < f
  · have HE : Hid (addErr z f ms m now skew = 37) := Lib.hid (by simp [addErr, H1.out, h2, h3, h5])
    have h5' : decide (m.t < f) = true := by simpa using h5
    go_wp2_with (first | (go_at_call 40; refine (within_any _ _ _ _).mono ?_; rintro e w' ⟨rfl, rfl⟩) | (go_at_call 45; refine (refNear_any _ _ _ _).mono ?_; rintro e w' ⟨rfl, rfl⟩))
    refine bodyPost_ret (v := .tuple #[.agg #[.int .i64 0, .int .i64 0, .slice none 0 0], .int .i64 37]) (by simp [results, Try.results20, go_sem, s0, s1, s2]) rfl ?_
    exact HFIN.out 37 y2 HB2.out HE.out (by decide) _ rfl
  have h5' : decide (m.t < f) = false := by simpa using h5
  go_wp2_with (first | (go_at_call 40; refine (within_any _ _ _ _).mono ?_; rintro e w' ⟨rfl, rfl⟩) | (go_at_call 45; refine (refNear_any _ _ _ _).mono ?_; rintro e w' ⟨rfl, rfl⟩))
  refine (refHas_any _ _ _ _ _ ms m _ (HR.out.below HB2.out) (by omega)).mono ?_
  rintro e y3 ⟨rfl, hb3⟩
  have HB3' := Lib.hid (bthen HB2.out hb3)
  clear r0 r1 r2 m0 m1 m2 m3 m4 s0 s1 s2 t0 t1 t2 hb3
  obtain ⟨r0, r1, r2, m0, m1, m2, m3, m4, s0, s1, s2, t0, t1, t2⟩ := HBX.out y3 HB3'.out
  have hy3 : w.heap.size + 3 ≤ y3.heap.size := by have := HB3'.out.size; rw [HW3.out] at this; exact this
  cases h6 : hasB ms m
  case true =>
    have HE : Hid (addErr z f ms m now skew = 34) := Lib.hid (by rw [addErr_tail H1.out h2 h3 h4 h5', h6]; rfl)
    go_wp2
    refine bodyPost_ret (v := .tuple #[.agg #[.int .i64 0, .int .i64 0, .slice none 0 0], .int .i64 34]) (by simp [results, Try.results20, go_sem, s0, s1, s2]) rfl ?_
    exact HFIN.out 34 y3 HB3'.out HE.out (by decide) _ rfl
  obtain ⟨hn0, hn1, hs0, hs1⟩ := nearB_bd h4
  obtain ⟨hz0, hz1, hf0, hf1⟩ := check_bd H1.out
  have HA : Hid (addErr z f ms m now skew = if z ≤ ((keepM (floorOf f now skew) ms).length : Int) then 82 else 0) := Lib.hid (by rw [addErr_tail H1.out h2 h3 h4 h5', h6]; rfl)
  have hq0 : w.heap.size < y3.heap.size := by omega
  have hq1 : w.heap.size + 1 < y3.heap.size := by omega
  have hq2 : w.heap.size + 2 < y3.heap.size := by omega
  have hlz : (len : Int) ≤ z := by have := check_len H1.out; rw [HL.out] at this; exact this
  clear h1' h2 h3 h4 h5 h5' h6 hy1 hy2 p1 p2 p1' p2'
  go_wp2
  rw [show max f (now - skew) = floorOf f now skew from rfl]
  have HST := Lib.hid (AddRel.start y3 z (floorOf f now skew))
  have HWB : Hid (Below (((w.alloc (.cells #[.int .i64 z, .int .i64 f, .slice a len cap] 24)).alloc (.cells #[.string m.n, .string m.i, .string m.r, .int .i64 m.t, .int .i64 m.k] 36)).alloc (.cells #[.int .i64 0, .int .i64 0, .slice none 0 0] 24)).heap.size (((w.alloc (.cells #[.int .i64 z, .int .i64 f, .slice a len cap] 24)).alloc (.cells #[.string m.n, .string m.i, .string m.r, .int .i64 m.t, .int .i64 m.k] 36)).alloc (.cells #[.int .i64 0, .int .i64 0, .slice none 0 0] 24)) (y3.alloc (.cells #[.int .i64 z, .int .i64 (floorOf f now skew), .slice none 0 0] 24))) := Lib.hid (bthen HB3'.out (Below.alloc1 _ _))
  have hGW : y3.heap.size < (y3.alloc (.cells #[.int .i64 z, .int .i64 (floorOf f now skew), .slice none 0 0] 24)).heap.size := by simp
  have HRW := Lib.hid (HR.out.below HWB.out)
  have HRL : Hid (∀ x, a = some x → len ≠ 0 → some x.block ≠ some y3.heap.size) := Lib.hid (fun x hx h0 e => by
    have h1 := HR.out.lt (by omega) x hx h0
    rw [HW3.out] at h1
    injection e with e
    omega)
  clear r0 r1 r2 m0 m1 m2 m3 m4 s0 s1 s2 t0 t1 t2 H1 HB1 HB2 HB3' hn0 hn1 hs0 hs1 hf0 hf1
  generalize y3.alloc (.cells #[.int .i64 z, .int .i64 (floorOf f now skew), .slice none 0 0] 24) = W at *
  generalize y3.heap.size = G at *
  have HPY : Hid (∀ v n w', addErr z f ms m now skew = 0 → n = (keepM (floorOf f now skew) ms).length → w'.ownsRow w.heap.size 36 5 v (n + 1) (mcells (keepM (floorOf f now skew) ms) ++ m.cells) → Below w.heap.size w w' → AddPost z f ms m now skew w (.returned (.tuple #[.agg #[.int .i64 z, .int .i64 (floorOf f now skew), v], .int .i64 0])) w') := Lib.hid (fun v n w' h1 h2 h3 h4 => AddPost.yes h1 h2 h3 h4)
  have HKL : Hid (∀ k, (keepM (floorOf f now skew) (ms.take k)).length ≤ k) := Lib.hid (fun k => by have := keepM_len (floorOf f now skew) (ms.take k); simp at this; omega)
  generalize floorOf f now skew = fl at *
  obtain ⟨i0, hi, hz0', hz1', hz2⟩ := info_parts info_mark
  have HI0 := Lib.hid (And.intro hi (And.intro hz0' (And.intro hz1' hz2)))
  clear hi hz0' hz1' hz2
  go_loopw [11] (fun i wr => ∃ k : Nat, k ≤ len ∧ i = .int .i64 k ∧ Hid (∃ v, AddRel W G z fl (keepM fl (ms.take k)).length (mcells (keepM fl (ms.take k))) v wr)) (fun i _ => len - (intOf i).toNat)
  case atStart => exact ⟨0, Nat.zero_le _, rfl, Lib.hid ⟨_, HST.out⟩⟩
  case round =>
    obtain ⟨k, hk, rfl, H⟩ := hrel
    obtain ⟨v, hrel⟩ := H.out
    obtain ⟨sa, sc, rfl, hsc1, hsc2⟩ := own_isz hrel.2.2
    have HREL := Lib.hid hrel
    obtain ⟨g0, g1, g2, g3, g4⟩ := hrel.cells
    have hkl := HKL.out k
    clear hrel H HST
    have fr := fun b i (hb : b < w.heap.size + 3) => HREL.out.far (b := b) (i := i) (by omega) (by omega)
    obtain ⟨r0, r1, r2, m0, m1, m2, m3, m4, s0, s1, s2, t0, t1, t2⟩ := HBX.out W HWB.out
    replace r0 := (fr _ _ (by omega)).1.trans r0
    replace r1 := (fr _ _ (by omega)).1.trans r1
    replace r2 := (fr _ _ (by omega)).1.trans r2
    replace m0 := (fr _ _ (by omega)).1.trans m0
    replace m1 := (fr _ _ (by omega)).1.trans m1
    replace m2 := (fr _ _ (by omega)).1.trans m2
    replace m3 := (fr _ _ (by omega)).1.trans m3
    replace m4 := (fr _ _ (by omega)).1.trans m4
    replace s0 := (fr _ _ (by omega)).1.trans s0
    replace s1 := (fr _ _ (by omega)).1.trans s1
    replace s2 := (fr _ _ (by omega)).1.trans s2
    replace t0 := (fr _ _ (by omega)).2.trans t0
    replace t1 := (fr _ _ (by omega)).2.trans t1
    replace t2 := (fr _ _ (by omega)).2.trans t2
    clear fr
    by_cases hlt : k < len
    · obtain ⟨b, off, x, rfl, hx, c0, c1, c2, c3, c4⟩ := (HRW.out.grown HRL.out HREL.out.1).mark hlt
      have HKT := Lib.hid (keepM_take (fl := fl) hx)
      have q1 : (0 : Int) ≤ (k : Int) := by omega
      have q2 : (k : Int) < (len : Int) := by omega
      clear hx
      by_cases ht : fl ≤ x.t
      · have HK2 : Hid (keepM fl (ms.take (k + 1)) = keepM fl (ms.take k) ++ [x]) := Lib.hid (by rw [HKT.out, if_pos ht])
        have ht' : decide (fl ≤ x.t) = true := by simpa using ht
        generalize keepM fl (ms.take k) = kept at *
        generalize hnk : kept.length = nk at *
        have HNK := Lib.hid hnk
        clear hnk
        go_wp2
        go_quiet (fail)
        go_upto_region 16 with fail
        have HREL2 := Lib.hid (HREL.out.drewN nq)
        clear HREL
        replace g2 : (wr.drewN nq).cell? ⟨G, 2, none⟩ = some (.slice sa nk sc) := g2
        replace g3 : (wr.drewN nq).frozen? ⟨G, 2, none⟩ = false := g3
        replace g4 : G < (wr.drewN nq).heap.size := g4
        replace r2 : (wr.drewN nq).cell? ⟨w.heap.size, 2, none⟩ = some (.slice (some ⟨b, off, none⟩) len cap) := r2
        replace c0 : (wr.drewN nq).cell? ⟨b, off + k * 5, none⟩ = some (.string x.n) := c0
        replace c1 : (wr.drewN nq).cell? ⟨b, off + k * 5 + 1, none⟩ = some (.string x.i) := c1
        replace c2 : (wr.drewN nq).cell? ⟨b, off + k * 5 + 2, none⟩ = some (.string x.r) := c2
        replace c3 : (wr.drewN nq).cell? ⟨b, off + k * 5 + 3, none⟩ = some (.int .i64 x.t) := c3
        replace c4 : (wr.drewN nq).cell? ⟨b, off + k * 5 + 4, none⟩ = some (.int .i64 x.k) := c4
        have hHq : w.heap.size < (wr.drewN nq).heap.size := World.block_lt_of_cell? _ _ r2
        have hbq : b < (wr.drewN nq).heap.size := World.block_lt_of_cell? _ _ c0
        clear g0 g1 r0 r1 m0 m1 m2 m3 m4 s0 s1 s2 t0 t1 t2
        generalize wr.drewN nq = wq at *
        have HA1 : Hid (AddRel W G z fl nk (mcells kept) (.slice sa nk sc) ((wq.alloc (.cells #[.string x.n, .string x.i, .string x.r, .int .i64 x.t, .int .i64 x.k] 36)).drewN 1)) := Lib.hid ((HREL2.out.alloc (.cells #[.string x.n, .string x.i, .string x.r, .int .i64 x.t, .int .i64 x.k] 36)).drewN 1)
        have HSZ : Hid (W.heap.size ≤ ((wq.alloc (.cells #[.string x.n, .string x.i, .string x.r, .int .i64 x.t, .int .i64 x.k] 36)).drewN 1).heap.size) := Lib.hid HA1.out.1.size
        have HSR : Hid (Src ((wq.alloc (.cells #[.string x.n, .string x.i, .string x.r, .int .i64 x.t, .int .i64 x.k] 36)).drewN 1) (some ⟨wq.heap.size, 0, none⟩) x.cells) := Lib.hid ((Src.cells5 wq 36 (.string x.n) (.string x.i) (.string x.r) (.int .i64 x.t) (.int .i64 x.k)).below (Below.drewN1 _ _ _))
        go_region_law (first | (refine step_append_src _ (by rfl) (.tmp 74) (.tmp 80) 22 (by rfl) W.heap.size 36 i0 (.agg #[.string ByteArray.empty, .string ByteArray.empty, .string ByteArray.empty, .int .i64 0, .int .i64 0]) 5 64 Try.underlying22 HI0.out.1 HI0.out.2.1 HI0.out.2.2.1 HI0.out.2.2.2 rfl (by decide) (.slice sa nk sc) nk (mcells kept) (by rfl) ?_ (some ⟨wq.heap.size, 0, none⟩) 1 1 x.cells (by rfl) (fun h => (Option.some_ne_none _ h).elim) (by rfl) ?_ (one_mark x) ?_ ?_ ?_ ?_; (focus (exact HA1.out.2.2)); (focus (exact HSR.out)); (focus (unfold maxLen; omega)); (focus omega); (focus (exact HSZ.out)); intro v' w1 hown hgrow hat; obtain ⟨u0, u1, u2, u3⟩ := HA1.out.at_more hGW hgrow; have hGw1 : G < w1.heap.size := (Nat.lt_of_lt_of_le (Nat.lt_of_lt_of_le hGW HSZ.out) hgrow.size); have HN := Lib.hid (HA1.out.more hGW hown hgrow); obtain ⟨va, vc, rfl, _, _⟩ := own_isz hown; clear hown hgrow hat))
        all_goals (go_wp2; go_roundw; (case rel => exact ⟨k + 1, by omega, by go_num, Lib.hid ⟨_, by rw [HK2.out, mcells_snoc, List.length_append, HNK.out]; exact HN.out⟩⟩); (case measure => simp [intOf]; omega))
      · have HK2 : Hid (keepM fl (ms.take (k + 1)) = keepM fl (ms.take k)) := Lib.hid (by rw [HKT.out, if_neg ht, List.append_nil])
        have ht' : decide (fl ≤ x.t) = false := by simpa using ht
        go_wp2
        go_quiet (fail)
        go_wp2
        go_roundw
        case rel => exact ⟨k + 1, by omega, by go_num, Lib.hid ⟨_, by rw [HK2.out]; exact HREL.out.drewN _⟩⟩
        case measure => simp [intOf]; omega
    · have HKA : Hid (keepM fl (ms.take k) = keepM fl ms) := Lib.hid (by rw [List.take_of_length_le (by have := HL.out; omega)])
      have hwr : w.heap.size + 3 < wr.heap.size := by omega
      have hw0 : w.heap.size < wr.heap.size := by omega
      have hw1 : w.heap.size + 1 < wr.heap.size := by omega
      have hw2 : w.heap.size + 2 < wr.heap.size := by omega
      have HBF : Hid (Below w.heap.size w wr) := Lib.hid (HREL.out.below (bthen HB3.out HWB.out) (by omega))
      rw [HKA.out] at HREL
      obtain ⟨nk, HNK⟩ : ∃ nk, Hid ((keepM fl (ms.take k)).length = nk) := ⟨_, Lib.hid rfl⟩
      rw [HKA.out] at HNK
      rw [HKA.out] at g2 hkl hsc1
      rw [HNK.out] at HREL g2 hkl hsc1
      have hkk : nk ≤ len := by omega
      by_cases hful : z ≤ (nk : Int)
      · have HE : Hid (addErr z f ms m now skew = 82) := Lib.hid (by rw [HA.out, HNK.out, if_pos hful])
        have hful' : ((nk : Int) == z) = true := by simp; omega
        go_wp2
        refine bodyPost_ret (v := .tuple #[.agg #[.int .i64 0, .int .i64 0, .slice none 0 0], .int .i64 82]) (by simp [results, Try.results20, go_sem, s0, s1, s2]) rfl ?_
        exact AddPost.err HE.out (by decide) ((((HBF.out).setCell (by simp; omega) _).setCell (by simp; omega) _).setCell (by simp; omega) _)
      · have HE : Hid (addErr z f ms m now skew = 0) := Lib.hid (by rw [HA.out, HNK.out, if_neg hful])
        have hful' : ((nk : Int) == z) = false := by simp; omega
        have HA1 := Lib.hid (HREL.out.alloc (.cells #[.string m.n, .string m.i, .string m.r, .int .i64 m.t, .int .i64 m.k] 36))
        have HSZ : Hid (W.heap.size ≤ (wr.alloc (.cells #[.string m.n, .string m.i, .string m.r, .int .i64 m.t, .int .i64 m.k] 36)).heap.size) := Lib.hid HA1.out.1.size
        have HSR : Hid (Src (wr.alloc (.cells #[.string m.n, .string m.i, .string m.r, .int .i64 m.t, .int .i64 m.k] 36)) (some ⟨wr.heap.size, 0, none⟩) m.cells) := Lib.hid (Src.cells5 wr 36 (.string m.n) (.string m.i) (.string m.r) (.int .i64 m.t) (.int .i64 m.k))
        go_wp2_with (at_builtin; refine wpList_append_src _ rfl (.tmp 91) (.tmp 93) 22 rfl W.heap.size 36 i0 (.agg #[.string ByteArray.empty, .string ByteArray.empty, .string ByteArray.empty, .int .i64 0, .int .i64 0]) 5 64 Try.underlying22 HI0.out.1 HI0.out.2.1 HI0.out.2.2.1 HI0.out.2.2.2 rfl (by decide) _ nk _ rfl HA1.out.2.2 (some ⟨wr.heap.size, 0, none⟩) 1 1 m.cells rfl (fun h => (Option.some_ne_none _ h).elim) rfl HSR.out (one_mark m) (by unfold maxLen; omega) (by omega) HSZ.out ?_)
        intro v' w1 hown hgrow hat
        have hGw1 : G < w1.heap.size := Nat.lt_of_lt_of_le (Nat.lt_of_lt_of_le hGW HSZ.out) hgrow.size
        obtain ⟨x0, x1, x2, x3⟩ := HA1.out.at_more hGW hgrow
        have HN := Lib.hid (HA1.out.more hGW hown hgrow)
        obtain ⟨va, vc, rfl, _, _⟩ := own_isz hown
        clear r0 r1 r2 m0 m1 m2 m3 m4 s0 s1 s2 t0 t1 t2 hown hgrow hat HA1 HSR HSZ HREL g0 g1 g2 g3 g4
        go_upto_region 20 with fail
        have fr := fun b i (hb : b < w.heap.size + 3) => HN.out.far (b := b) (i := i) (by omega) (by omega)
        obtain ⟨r0, r1, r2, m0, m1, m2, m3, m4, s0, s1, s2, t0, t1, t2⟩ := HBX.out W HWB.out
        replace r0 := (fr _ _ (by omega)).1.trans r0
        replace r1 := (fr _ _ (by omega)).1.trans r1
        replace r2 := (fr _ _ (by omega)).1.trans r2
        replace m0 := (fr _ _ (by omega)).1.trans m0
        replace m1 := (fr _ _ (by omega)).1.trans m1
        replace m2 := (fr _ _ (by omega)).1.trans m2
        replace m3 := (fr _ _ (by omega)).1.trans m3
        replace m4 := (fr _ _ (by omega)).1.trans m4
        replace s0 := (fr _ _ (by omega)).1.trans s0
        replace s1 := (fr _ _ (by omega)).1.trans s1
        replace s2 := (fr _ _ (by omega)).1.trans s2
        replace t0 := (fr _ _ (by omega)).2.trans t0
        replace t1 := (fr _ _ (by omega)).2.trans t1
        replace t2 := (fr _ _ (by omega)).2.trans t2
        obtain ⟨e0, e1, e2, e3, e4⟩ := HN.out.cells
        have HBN : Hid (Below w.heap.size w (w1.setCell ⟨G, 2, none⟩ (.slice va (nk + 1) vc))) := Lib.hid (HN.out.below (bthen HB3.out HWB.out) (by omega))
        have HON := Lib.hid (ownsRow_base HN.out.2.2 (Nat.le_trans (by omega : w.heap.size ≤ G) (Nat.le_of_lt hGW)))
        have HOB : Hid (∀ q, (Value.slice va (nk + 1) vc).ownBlock = some q → W.heap.size ≤ q) := Lib.hid (fun q hq => (HN.out.2.2.lt q hq).1)
        clear fr HN x0 x1 x2 x3
        generalize w1.setCell ⟨G, 2, none⟩ (.slice va (nk + 1) vc) = w5 at *
        go_wp2
        refine bodyPost_ret (v := .tuple #[.agg #[.int .i64 z, .int .i64 fl, .slice va (nk + 1) vc], .int .i64 0]) (by simp [results, Try.results20, go_sem, s0, s1, s2]) rfl ?_
        refine HPY.out _ nk _ HE.out HNK.out.symm ?_ (((HBN.out.setCell (by simp; omega) _).setCell (by simp; omega) _).setCell (by simp; omega) _)
        exact ownsRow_setCell_other (ownsRow_setCell_other (ownsRow_setCell_other HON.out (fun e => by have := HOB.out _ e; simp at this; omega) _) (fun e => by have := HOB.out _ e; simp at this; omega) _) (fun e => by have := HOB.out _ e; simp at this; omega) _
end Go.Proofs.Ytegcdefdkebmnaa
