/- Contract of replay.Add. -/
import Derived.Test.YtegcdefdkebmnaaAddDef
namespace Go.Proofs.Ytegcdefdkebmnaa
open Go.RowKit
attribute [local go_sem ↓] Go.wp_at_zero Go.wp_at_succ

theorem info_mark : (Try.prog.info? 36).map (fun i => (i.zero, i.size, i.bytes)) = some (some (.agg #[.string ByteArray.empty, .string ByteArray.empty, .string ByteArray.empty, .int .i64 0, .int .i64 0]), 5, 64) := by kernel_rfl

theorem addErr_tail {z f : Int} {ms : List Mk} {m : Mk} {now skew : Int} (h1 : checkErr z f ms = 0) (h2 : prinB m.n m.i m.r = true) (h3 : wiB m.k 0 199 = true) (h4 : nearB m.t now skew = true) (h5 : decide (m.t < f) = false) :
    addErr z f ms m now skew = if hasB ms m then 34 else if z ≤ ((keepM (floorOf f now skew) ms).length : Int) then 82 else 0 := by
  rw [addErr, h1, h2, h3, h4, h5]
  simp
theorem nearB_bd {a b s : Int} (h : nearB a b s = true) : 0 ≤ b ∧ b ≤ 4294967295 ∧ 0 ≤ s ∧ s ≤ 4294967295 := by
  unfold nearB at h
  simp only [Bool.and_eq_true] at h
  have h1 := timeB_true h.1.1.1.2
  have h2 := timeB_true h.1.1.2
  omega
theorem check_bd {z f : Int} {ms : List Mk} (h : checkErr z f ms = 0) : 1 ≤ z ∧ z ≤ 40 ∧ 0 ≤ f ∧ f ≤ 4294967295 := by
  unfold checkErr at h
  split at h
  · omega
  · rename_i hw
    simp [wiB] at hw
    omega
/-- the three boxes of a call of Add -/
theorem boxes (z f : Int) (a : Option Addr) (len cap : Nat) (m : Mk) (w X : World) (h : Below (((w.alloc (.cells #[.int .i64 z, .int .i64 f, .slice a len cap] 24)).alloc (.cells #[.string m.n, .string m.i, .string m.r, .int .i64 m.t, .int .i64 m.k] 36)).alloc (.cells #[.int .i64 0, .int .i64 0, .slice none 0 0] 24)).heap.size (((w.alloc (.cells #[.int .i64 z, .int .i64 f, .slice a len cap] 24)).alloc (.cells #[.string m.n, .string m.i, .string m.r, .int .i64 m.t, .int .i64 m.k] 36)).alloc (.cells #[.int .i64 0, .int .i64 0, .slice none 0 0] 24)) X) : X.cell? ⟨w.heap.size, 0, none⟩ = some (.int .i64 z) ∧ X.cell? ⟨w.heap.size, 1, none⟩ = some (.int .i64 f) ∧ X.cell? ⟨w.heap.size, 2, none⟩ = some (.slice a len cap) ∧ X.cell? ⟨w.heap.size + 1, 0, none⟩ = some (.string m.n) ∧ X.cell? ⟨w.heap.size + 1, 1, none⟩ = some (.string m.i) ∧ X.cell? ⟨w.heap.size + 1, 2, none⟩ = some (.string m.r) ∧ X.cell? ⟨w.heap.size + 1, 3, none⟩ = some (.int .i64 m.t) ∧ X.cell? ⟨w.heap.size + 1, 4, none⟩ = some (.int .i64 m.k) ∧ X.cell? ⟨w.heap.size + 2, 0, none⟩ = some (.int .i64 0) ∧ X.cell? ⟨w.heap.size + 2, 1, none⟩ = some (.int .i64 0) ∧ X.cell? ⟨w.heap.size + 2, 2, none⟩ = some (.slice none 0 0) ∧ X.frozen? ⟨w.heap.size + 2, 0, none⟩ = false ∧ X.frozen? ⟨w.heap.size + 2, 1, none⟩ = false ∧ X.frozen? ⟨w.heap.size + 2, 2, none⟩ = false := by
  have e : (((w.alloc (.cells #[.int .i64 z, .int .i64 f, .slice a len cap] 24)).alloc (.cells #[.string m.n, .string m.i, .string m.r, .int .i64 m.t, .int .i64 m.k] 36)).alloc (.cells #[.int .i64 0, .int .i64 0, .slice none 0 0] 24)).heap.size = w.heap.size + 3 := by simp
  have c : ∀ b i, b < w.heap.size + 3 → X.cell? ⟨b, i, none⟩ = (((w.alloc (.cells #[.int .i64 z, .int .i64 f, .slice a len cap] 24)).alloc (.cells #[.string m.n, .string m.i, .string m.r, .int .i64 m.t, .int .i64 m.k] 36)).alloc (.cells #[.int .i64 0, .int .i64 0, .slice none 0 0] 24)).cell? ⟨b, i, none⟩ := fun b i hb => h.cell (p := ⟨b, i, none⟩) (by rw [e]; exact hb)
  have g : ∀ b i, b < w.heap.size + 3 → X.frozen? ⟨b, i, none⟩ = (((w.alloc (.cells #[.int .i64 z, .int .i64 f, .slice a len cap] 24)).alloc (.cells #[.string m.n, .string m.i, .string m.r, .int .i64 m.t, .int .i64 m.k] 36)).alloc (.cells #[.int .i64 0, .int .i64 0, .slice none 0 0] 24)).frozen? ⟨b, i, none⟩ := fun b i hb => h.frozen (p := ⟨b, i, none⟩) (by rw [e]; exact hb)
  refine ⟨?_, ?_, ?_, ?_, ?_, ?_, ?_, ?_, ?_, ?_, ?_, ?_, ?_, ?_⟩
  all_goals (first | rw [c _ _ (by omega)] | rw [g _ _ (by omega)])
  all_goals go_simp

set_option maxRecDepth 100000 in
set_option maxHeartbeats 4000000 in
theorem add_any (z f : Int) (a : Option Addr) (len cap : Nat) (ms : List Mk) (m : Mk) (now skew : Int) (w : World) (hr : FRow w a len 5 (mcells ms)) (hok : ∀ x ∈ ms, x.ok) (hmo : m.ok) (hcap : len ≤ cap) (hcm : cap ≤ 9223372036854775807) (hll : len ≤ 1000000) :
    Calls Try.prog 19 #[.agg #[.int .i64 z, .int .i64 f, .slice a len cap], .agg #[.string m.n, .string m.i, .string m.r, .int .i64 m.t, .int .i64 m.k], .int .i64 now, .int .i64 skew] w (AddPost z f ms m now skew w) := by
  have HL : Hid (ms.length = len) := Lib.hid (by have := hr.1; rw [mcells_len] at this; omega)
  have HB3 : Hid (Below w.heap.size w (((w.alloc (.cells #[.int .i64 z, .int .i64 f, .slice a len cap] 24)).alloc (.cells #[.string m.n, .string m.i, .string m.r, .int .i64 m.t, .int .i64 m.k] 36)).alloc (.cells #[.int .i64 0, .int .i64 0, .slice none 0 0] 24))) := Lib.hid (bthen (bthen (Below.alloc1 _ _) (Below.alloc1 _ _)) (Below.alloc1 _ _))
  have HR := Lib.hid (hr.below HB3.out)
  have HOK := Lib.hid hok
  have HMO := Lib.hid hmo
  have HBX := Lib.hid (boxes z f a len cap m w)
  have HW3 : Hid ((((w.alloc (.cells #[.int .i64 z, .int .i64 f, .slice a len cap] 24)).alloc (.cells #[.string m.n, .string m.i, .string m.r, .int .i64 m.t, .int .i64 m.k] 36)).alloc (.cells #[.int .i64 0, .int .i64 0, .slice none 0 0] 24)).heap.size = w.heap.size + 3) := Lib.hid (by simp)
  clear hr hok hmo
  have HFIN : Hid (∀ er y, Below (((w.alloc (.cells #[.int .i64 z, .int .i64 f, .slice a len cap] 24)).alloc (.cells #[.string m.n, .string m.i, .string m.r, .int .i64 m.t, .int .i64 m.k] 36)).alloc (.cells #[.int .i64 0, .int .i64 0, .slice none 0 0] 24)).heap.size (((w.alloc (.cells #[.int .i64 z, .int .i64 f, .slice a len cap] 24)).alloc (.cells #[.string m.n, .string m.i, .string m.r, .int .i64 m.t, .int .i64 m.k] 36)).alloc (.cells #[.int .i64 0, .int .i64 0, .slice none 0 0] 24)) y → addErr z f ms m now skew = er → er ≠ 0 → ∀ w', w' = ((y.setCell ⟨w.heap.size + 2, 0, none⟩ (.int .i64 0)).setCell ⟨w.heap.size + 2, 1, none⟩ (.int .i64 0)).setCell ⟨w.heap.size + 2, 2, none⟩ (.slice none 0 0) → AddPost z f ms m now skew w (.returned (.tuple #[.agg #[.int .i64 0, .int .i64 0, .slice none 0 0], .int .i64 er])) w') := Lib.hid (fun er y hy he h0 w' hw => by
    subst hw
    exact AddPost.err he h0 ((((bthen HB3.out hy).setCell (by simp) _).setCell (by simp) _).setCell (by simp) _))
  go_enter Try.func19, Try.ntmps19
  go_wp2_with fail
  refine (check_any _ _ _ _ _ ms _ HR.out HOK.out hcap hcm).mono ?_
  rintro e y1 ⟨rfl, hb1⟩
  have HB1 := Lib.hid hb1
  obtain ⟨r0, r1, r2, m0, m1, m2, m3, m4, s0, s1, s2, t0, t1, t2⟩ := HBX.out y1 hb1
  clear hb1
  have hy1 : w.heap.size + 3 ≤ y1.heap.size := by have := HB1.out.size; rw [HW3.out] at this; exact this
  by_cases h1 : checkErr z f ms = 0
  case neg =>
    have HE : Hid (addErr z f ms m now skew = 108) := Lib.hid (by simp [addErr, h1])
    have h1' : (checkErr z f ms != 0) = true := by simpa using h1
    clear h1
    go_wp2
    refine bodyPost_ret (v := .tuple #[.agg #[.int .i64 0, .int .i64 0, .slice none 0 0], .int .i64 108]) (by simp [results, Try.results19, go_sem, s0, s1, s2]) rfl ?_
    exact HFIN.out 108 y1 HB1.out HE.out (by decide) _ rfl
  have h1' : (checkErr z f ms != 0) = false := by simpa using h1
  have H1 := Lib.hid h1
  clear h1
  go_wp2_with fail
  refine (valid_p_any _ _ _ _ HMO.out.1 HMO.out.2.1 HMO.out.2.2.1).mono ?_
  rintro e y2 ⟨rfl, hb2⟩
  have HB2 := Lib.hid (bthen HB1.out hb2)
  clear hb2
  clear r0 r1 r2 m0 m1 m2 m3 m4 s0 s1 s2 t0 t1 t2
  obtain ⟨r0, r1, r2, m0, m1, m2, m3, m4, s0, s1, s2, t0, t1, t2⟩ := HBX.out y2 HB2.out
  have hy2 : w.heap.size + 3 ≤ y2.heap.size := by have := HB2.out.size; rw [HW3.out] at this; exact this
  cases h2 : prinB m.n m.i m.r
  · have HE : Hid (addErr z f ms m now skew = 103) := Lib.hid (by simp [addErr, H1.out, h2])
    go_wp2
    refine bodyPost_ret (v := .tuple #[.agg #[.int .i64 0, .int .i64 0, .slice none 0 0], .int .i64 103]) (by simp [results, Try.results19, go_sem, s0, s1, s2]) rfl ?_
    exact HFIN.out 103 y2 HB2.out HE.out (by decide) _ rfl
  cases h3 : wiB m.k 0 199
  · have HE : Hid (addErr z f ms m now skew = 104) := Lib.hid (by simp [addErr, H1.out, h2, h3])
    go_wp2_with (go_at_call 40; refine (within_any _ _ _ _).mono ?_; rintro e w' ⟨rfl, rfl⟩)
    refine bodyPost_ret (v := .tuple #[.agg #[.int .i64 0, .int .i64 0, .slice none 0 0], .int .i64 104]) (by simp [results, Try.results19, go_sem, s0, s1, s2]) rfl ?_
    exact HFIN.out 104 y2 HB2.out HE.out (by decide) _ rfl
  cases h4 : nearB m.t now skew
  · have HE : Hid (addErr z f ms m now skew = 37) := Lib.hid (by simp [addErr, H1.out, h2, h3, h4])
    go_wp2_with (first | (go_at_call 40; refine (within_any _ _ _ _).mono ?_; rintro e w' ⟨rfl, rfl⟩) | (go_at_call 44; refine (near_any _ _ _ _).mono ?_; rintro e w' ⟨rfl, rfl⟩))
    refine bodyPost_ret (v := .tuple #[.agg #[.int .i64 0, .int .i64 0, .slice none 0 0], .int .i64 37]) (by simp [results, Try.results19, go_sem, s0, s1, s2]) rfl ?_
    exact HFIN.out 37 y2 HB2.out HE.out (by decide) _ rfl
  by_cases h5 : m.t < f
  · have HE : Hid (addErr z f ms m now skew = 37) := Lib.hid (by simp [addErr, H1.out, h2, h3, h5])
    have h5' : decide (m.t < f) = true := by simpa using h5
    go_wp2_with (first | (go_at_call 40; refine (within_any _ _ _ _).mono ?_; rintro e w' ⟨rfl, rfl⟩) | (go_at_call 44; refine (near_any _ _ _ _).mono ?_; rintro e w' ⟨rfl, rfl⟩))
    refine bodyPost_ret (v := .tuple #[.agg #[.int .i64 0, .int .i64 0, .slice none 0 0], .int .i64 37]) (by simp [results, Try.results19, go_sem, s0, s1, s2]) rfl ?_
    exact HFIN.out 37 y2 HB2.out HE.out (by decide) _ rfl
  have h5' : decide (m.t < f) = false := by simpa using h5
  go_wp2_with (first | (go_at_call 40; refine (within_any _ _ _ _).mono ?_; rintro e w' ⟨rfl, rfl⟩) | (go_at_call 44; refine (near_any _ _ _ _).mono ?_; rintro e w' ⟨rfl, rfl⟩))
  refine (has_any _ _ _ _ _ ms m _ (HR.out.below HB2.out) (by omega)).mono ?_
  rintro e y3 ⟨rfl, hb3⟩
  have HB3' := Lib.hid (bthen HB2.out hb3)
  clear r0 r1 r2 m0 m1 m2 m3 m4 s0 s1 s2 t0 t1 t2 hb3
  obtain ⟨r0, r1, r2, m0, m1, m2, m3, m4, s0, s1, s2, t0, t1, t2⟩ := HBX.out y3 HB3'.out
  have hy3 : w.heap.size + 3 ≤ y3.heap.size := by have := HB3'.out.size; rw [HW3.out] at this; exact this
  cases h6 : hasB ms m
  case true =>
    have HE : Hid (addErr z f ms m now skew = 34) := Lib.hid (by rw [addErr_tail H1.out h2 h3 h4 h5', h6]; rfl)
    go_wp2
    refine bodyPost_ret (v := .tuple #[.agg #[.int .i64 0, .int .i64 0, .slice none 0 0], .int .i64 34]) (by simp [results, Try.results19, go_sem, s0, s1, s2]) rfl ?_
    exact HFIN.out 34 y3 HB3'.out HE.out (by decide) _ rfl
  obtain ⟨hn0, hn1, hs0, hs1⟩ := nearB_bd h4
  obtain ⟨hz0, hz1, hf0, hf1⟩ := check_bd H1.out
  have HA : Hid (addErr z f ms m now skew = if z ≤ ((keepM (floorOf f now skew) ms).length : Int) then 82 else 0) := Lib.hid (by rw [addErr_tail H1.out h2 h3 h4 h5', h6]; rfl)
  have hq0 : w.heap.size < y3.heap.size := by omega
  have hq1 : w.heap.size + 1 < y3.heap.size := by omega
  have hq2 : w.heap.size + 2 < y3.heap.size := by omega
  clear h1' h2 h3 h4 h5 h5' h6 hy1 hy2
  go_wp2
  rw [show max f (now - skew) = floorOf f now skew from rfl]
  have HST := Lib.hid (AddRel.start y3 z (floorOf f now skew))
  have HWB : Hid (Below (((w.alloc (.cells #[.int .i64 z, .int .i64 f, .slice a len cap] 24)).alloc (.cells #[.string m.n, .string m.i, .string m.r, .int .i64 m.t, .int .i64 m.k] 36)).alloc (.cells #[.int .i64 0, .int .i64 0, .slice none 0 0] 24)).heap.size (((w.alloc (.cells #[.int .i64 z, .int .i64 f, .slice a len cap] 24)).alloc (.cells #[.string m.n, .string m.i, .string m.r, .int .i64 m.t, .int .i64 m.k] 36)).alloc (.cells #[.int .i64 0, .int .i64 0, .slice none 0 0] 24)) (y3.alloc (.cells #[.int .i64 z, .int .i64 (floorOf f now skew), .slice none 0 0] 24))) := Lib.hid (bthen HB3'.out (Below.alloc1 _ _))
  have hGW : y3.heap.size < (y3.alloc (.cells #[.int .i64 z, .int .i64 (floorOf f now skew), .slice none 0 0] 24)).heap.size := by simp
  have HRW := Lib.hid (HR.out.below HWB.out)
  have HRL : Hid (∀ x, a = some x → len ≠ 0 → some x.block ≠ some y3.heap.size) := Lib.hid (fun x hx h0 e => by
    have h1 := HR.out.lt (by omega) x hx h0
    rw [HW3.out] at h1
    injection e with e
    omega)
  clear r0 r1 r2 m0 m1 m2 m3 m4 s0 s1 s2 t0 t1 t2 H1 HB1 HB2 HB3' hn0 hn1 hs0 hs1 hf0 hf1
  generalize y3.alloc (.cells #[.int .i64 z, .int .i64 (floorOf f now skew), .slice none 0 0] 24) = W at *
  generalize y3.heap.size = G at *
  have HPY : Hid (∀ v n w', addErr z f ms m now skew = 0 → n = (keepM (floorOf f now skew) ms).length → w'.ownsRow w.heap.size 36 5 v (n + 1) (mcells (keepM (floorOf f now skew) ms) ++ m.cells) → Below w.heap.size w w' → AddPost z f ms m now skew w (.returned (.tuple #[.agg #[.int .i64 z, .int .i64 (floorOf f now skew), v], .int .i64 0])) w') := Lib.hid (fun v n w' h1 h2 h3 h4 => AddPost.yes h1 h2 h3 h4)
  have HKL : Hid (∀ k, (keepM (floorOf f now skew) (ms.take k)).length ≤ k) := Lib.hid (fun k => by have := keepM_len (floorOf f now skew) (ms.take k); simp at this; omega)
  generalize floorOf f now skew = fl at *
  obtain ⟨i0, hi, hz0', hz1', hz2⟩ := info_parts info_mark
  have HI0 := Lib.hid (And.intro hi (And.intro hz0' (And.intro hz1' hz2)))
  clear hi hz0' hz1' hz2
  go_loopw [62] (fun i wr => ∃ k : Nat, k ≤ len ∧ i = .int .i64 k ∧ Hid (∃ v, AddRel W G z fl (keepM fl (ms.take k)).length (mcells (keepM fl (ms.take k))) v wr)) (fun i _ => len - (intOf i).toNat)
  case atStart => exact ⟨0, Nat.zero_le _, rfl, Lib.hid ⟨_, HST.out⟩⟩
  case round =>
    obtain ⟨k, hk, rfl, H⟩ := hrel
    obtain ⟨v, hrel⟩ := H.out
    obtain ⟨sa, sc, rfl, hsc1, hsc2⟩ := own_isz hrel.2.2
    have HREL := Lib.hid hrel
    obtain ⟨g0, g1, g2, g3, g4⟩ := hrel.cells
    have hkl := HKL.out k
    clear hrel H HST
    by_cases hlt : k < len
    · obtain ⟨b, off, x, rfl, hx, c0, c1, c2, c3, c4⟩ := (HRW.out.grown HRL.out HREL.out.1).mark hlt
      have HKT := Lib.hid (keepM_take (fl := fl) hx)
      clear hx
      by_cases ht : fl ≤ x.t
      · have HK2 : Hid (keepM fl (ms.take (k + 1)) = keepM fl (ms.take k) ++ [x]) := Lib.hid (by rw [HKT.out, if_pos ht])
        generalize keepM fl (ms.take k) = kept at *
        generalize hnk : kept.length = nk at *
        have HNK := Lib.hid hnk
        clear hnk
        have HA1 := Lib.hid ((HREL.out.alloc (.cells #[.string x.n, .string x.i, .string x.r, .int .i64 x.t, .int .i64 x.k] 36)).alloc (.cells #[.string x.n, .string x.i, .string x.r, .int .i64 x.t, .int .i64 x.k] 36))
        have HSZ : Hid (W.heap.size ≤ ((wr.alloc (.cells #[.string x.n, .string x.i, .string x.r, .int .i64 x.t, .int .i64 x.k] 36)).alloc (.cells #[.string x.n, .string x.i, .string x.r, .int .i64 x.t, .int .i64 x.k] 36)).heap.size) := Lib.hid HA1.out.1.size
        have HSR : Hid (Src ((wr.alloc (.cells #[.string x.n, .string x.i, .string x.r, .int .i64 x.t, .int .i64 x.k] 36)).alloc (.cells #[.string x.n, .string x.i, .string x.r, .int .i64 x.t, .int .i64 x.k] 36)) (some ⟨wr.heap.size + 1, 0, none⟩) x.cells) := Lib.hid (by have := Src.cells5 (wr.alloc (.cells #[.string x.n, .string x.i, .string x.r, .int .i64 x.t, .int .i64 x.k] 36)) 36 (.string x.n) (.string x.i) (.string x.r) (.int .i64 x.t) (.int .i64 x.k); rw [World.size_alloc] at this; exact this)
        go_wp2_with (at_builtin; refine wpList_append_src _ rfl (.tmp 72) (.tmp 74) 22 rfl W.heap.size 36 i0 (.agg #[.string ByteArray.empty, .string ByteArray.empty, .string ByteArray.empty, .int .i64 0, .int .i64 0]) 5 64 Try.underlying22 HI0.out.1 HI0.out.2.1 HI0.out.2.2.1 HI0.out.2.2.2 rfl (by decide) _ nk _ rfl HA1.out.2.2 (some ⟨wr.heap.size + 1, 0, none⟩) 1 1 x.cells rfl (fun h => (Option.some_ne_none _ h).elim) rfl HSR.out (one_mark x) (by unfold maxLen; omega) (by omega) HSZ.out ?_)
        intro v' w1 hown hgrow hat
        have hGw1 : G < w1.heap.size := Nat.lt_of_lt_of_le (Nat.lt_of_lt_of_le hGW HSZ.out) hgrow.size
        obtain ⟨u0, u1, u2, u3⟩ : w1.cell? ⟨G, 2, none⟩ = some (.slice sa nk sc) ∧ w1.frozen? ⟨G, 2, none⟩ = false ∧ w1.cell? ⟨G, 0, none⟩ = some (.int .i64 z) ∧ w1.cell? ⟨G, 1, none⟩ = some (.int .i64 fl) := HA1.out.at_more hGW hgrow
        have HN := Lib.hid (HA1.out.more hGW hown hgrow)
        obtain ⟨va, vc, rfl, _, _⟩ := own_isz hown
        clear hown hgrow hat HA1 HSR HSZ HREL
        go_wp2
        go_roundw
        case rel => exact ⟨k + 1, by omega, by go_num, Lib.hid ⟨_, by rw [HK2.out, mcells_snoc, List.length_append, HNK.out]; exact HN.out⟩⟩
        case measure => simp [intOf]; omega
      · have HK2 : Hid (keepM fl (ms.take (k + 1)) = keepM fl (ms.take k)) := Lib.hid (by rw [HKT.out, if_neg ht, List.append_nil])
        have ht' : decide (fl ≤ x.t) = false := by simpa using ht
        go_wp2
        go_roundw
        case rel => exact ⟨k + 1, by omega, by go_num, Lib.hid ⟨_, by rw [HK2.out]; exact HREL.out.alloc _⟩⟩
        case measure => simp [intOf]; omega
    · have HKA : Hid (keepM fl (ms.take k) = keepM fl ms) := Lib.hid (by rw [List.take_of_length_le (by have := HL.out; omega)])
      have fr := fun b i (hb : b < w.heap.size + 3) => HREL.out.far (b := b) (i := i) (by omega) (by omega)
      obtain ⟨r0, r1, r2, m0, m1, m2, m3, m4, s0, s1, s2, t0, t1, t2⟩ := HBX.out W HWB.out
      replace r0 := (fr _ _ (by omega)).1.trans r0
      replace r1 := (fr _ _ (by omega)).1.trans r1
      replace r2 := (fr _ _ (by omega)).1.trans r2
      replace m0 := (fr _ _ (by omega)).1.trans m0
      replace m1 := (fr _ _ (by omega)).1.trans m1
      replace m2 := (fr _ _ (by omega)).1.trans m2
      replace m3 := (fr _ _ (by omega)).1.trans m3
      replace m4 := (fr _ _ (by omega)).1.trans m4
      replace s0 := (fr _ _ (by omega)).1.trans s0
      replace s1 := (fr _ _ (by omega)).1.trans s1
      replace s2 := (fr _ _ (by omega)).1.trans s2
      replace t0 := (fr _ _ (by omega)).2.trans t0
      replace t1 := (fr _ _ (by omega)).2.trans t1
      replace t2 := (fr _ _ (by omega)).2.trans t2
      clear fr
      have hwr : w.heap.size + 3 < wr.heap.size := by omega
      have hw0 : w.heap.size < wr.heap.size := by omega
      have hw1 : w.heap.size + 1 < wr.heap.size := by omega
      have hw2 : w.heap.size + 2 < wr.heap.size := by omega
      have HBF : Hid (Below w.heap.size w wr) := Lib.hid (HREL.out.below (bthen HB3.out HWB.out) (by omega))
      rw [HKA.out] at HREL
      obtain ⟨nk, HNK⟩ : ∃ nk, Hid ((keepM fl (ms.take k)).length = nk) := ⟨_, Lib.hid rfl⟩
      rw [HKA.out] at HNK
      rw [HKA.out] at g2 hkl hsc1
      rw [HNK.out] at HREL g2 hkl hsc1
      by_cases hful : z ≤ (nk : Int)
      · have HE : Hid (addErr z f ms m now skew = 82) := Lib.hid (by rw [HA.out, HNK.out, if_pos hful])
        have hful' : decide (z ≤ (nk : Int)) = true := by simpa using hful
        go_wp2
        refine bodyPost_ret (v := .tuple #[.agg #[.int .i64 0, .int .i64 0, .slice none 0 0], .int .i64 82]) (by simp [results, Try.results19, go_sem, s0, s1, s2]) rfl ?_
        exact AddPost.err HE.out (by decide) ((((HBF.out).setCell (by simp; omega) _).setCell (by simp; omega) _).setCell (by simp; omega) _)
      · have HE : Hid (addErr z f ms m now skew = 0) := Lib.hid (by rw [HA.out, HNK.out, if_neg hful])
        have hful' : decide (z ≤ (nk : Int)) = false := by simpa using hful
        have HA1 := Lib.hid (HREL.out.alloc (.cells #[.string m.n, .string m.i, .string m.r, .int .i64 m.t, .int .i64 m.k] 36))
        have HSZ : Hid (W.heap.size ≤ (wr.alloc (.cells #[.string m.n, .string m.i, .string m.r, .int .i64 m.t, .int .i64 m.k] 36)).heap.size) := Lib.hid HA1.out.1.size
        have HSR : Hid (Src (wr.alloc (.cells #[.string m.n, .string m.i, .string m.r, .int .i64 m.t, .int .i64 m.k] 36)) (some ⟨wr.heap.size, 0, none⟩) m.cells) := Lib.hid (Src.cells5 wr 36 (.string m.n) (.string m.i) (.string m.r) (.int .i64 m.t) (.int .i64 m.k))
        go_wp2_with (at_builtin; refine wpList_append_src _ rfl (.tmp 86) (.tmp 88) 22 rfl W.heap.size 36 i0 (.agg #[.string ByteArray.empty, .string ByteArray.empty, .string ByteArray.empty, .int .i64 0, .int .i64 0]) 5 64 Try.underlying22 HI0.out.1 HI0.out.2.1 HI0.out.2.2.1 HI0.out.2.2.2 rfl (by decide) _ nk _ rfl HA1.out.2.2 (some ⟨wr.heap.size, 0, none⟩) 1 1 m.cells rfl (fun h => (Option.some_ne_none _ h).elim) rfl HSR.out (one_mark m) (by unfold maxLen; omega) (by omega) HSZ.out ?_)
        intro v' w1 hown hgrow hat
        have hGw1 : G < w1.heap.size := Nat.lt_of_lt_of_le (Nat.lt_of_lt_of_le hGW HSZ.out) hgrow.size
        obtain ⟨x0, x1, x2, x3⟩ := HA1.out.at_more hGW hgrow
        have HN := Lib.hid (HA1.out.more hGW hown hgrow)
        obtain ⟨va, vc, rfl, _, _⟩ := own_isz hown
        clear r0 r1 r2 m0 m1 m2 m3 m4 s0 s1 s2 t0 t1 t2 hown hgrow hat HA1 HSR HSZ HREL g0 g1 g2 g3 g4
        go_upto_region 21 with fail
        have fr := fun b i (hb : b < w.heap.size + 3) => HN.out.far (b := b) (i := i) (by omega) (by omega)
        obtain ⟨r0, r1, r2, m0, m1, m2, m3, m4, s0, s1, s2, t0, t1, t2⟩ := HBX.out W HWB.out
        replace r0 := (fr _ _ (by omega)).1.trans r0
        replace r1 := (fr _ _ (by omega)).1.trans r1
        replace r2 := (fr _ _ (by omega)).1.trans r2
        replace m0 := (fr _ _ (by omega)).1.trans m0
        replace m1 := (fr _ _ (by omega)).1.trans m1
        replace m2 := (fr _ _ (by omega)).1.trans m2
        replace m3 := (fr _ _ (by omega)).1.trans m3
        replace m4 := (fr _ _ (by omega)).1.trans m4
        replace s0 := (fr _ _ (by omega)).1.trans s0
        replace s1 := (fr _ _ (by omega)).1.trans s1
        replace s2 := (fr _ _ (by omega)).1.trans s2
        replace t0 := (fr _ _ (by omega)).2.trans t0
        replace t1 := (fr _ _ (by omega)).2.trans t1
        replace t2 := (fr _ _ (by omega)).2.trans t2
        obtain ⟨e0, e1, e2, e3, e4⟩ := HN.out.cells
        have HBN : Hid (Below w.heap.size w (w1.setCell ⟨G, 2, none⟩ (.slice va (nk + 1) vc))) := Lib.hid (HN.out.below (bthen HB3.out HWB.out) (by omega))
        have HON := Lib.hid (ownsRow_base HN.out.2.2 (Nat.le_trans (by omega : w.heap.size ≤ G) (Nat.le_of_lt hGW)))
        have HOB : Hid (∀ q, (Value.slice va (nk + 1) vc).ownBlock = some q → W.heap.size ≤ q) := Lib.hid (fun q hq => (HN.out.2.2.lt q hq).1)
        clear fr HN x0 x1 x2 x3
        generalize w1.setCell ⟨G, 2, none⟩ (.slice va (nk + 1) vc) = w5 at *
        go_wp2
        refine bodyPost_ret (v := .tuple #[.agg #[.int .i64 z, .int .i64 fl, .slice va (nk + 1) vc], .int .i64 0]) (by simp [results, Try.results19, go_sem, s0, s1, s2]) rfl ?_
        refine HPY.out _ nk _ HE.out HNK.out.symm ?_ (((HBN.out.setCell (by simp; omega) _).setCell (by simp; omega) _).setCell (by simp; omega) _)
        exact ownsRow_setCell_other (ownsRow_setCell_other (ownsRow_setCell_other HON.out (fun e => by have := HOB.out _ e; simp at this; omega) _) (fun e => by have := HOB.out _ e; simp at this; omega) _) (fun e => by have := HOB.out _ e; simp at this; omega) _
end Go.Proofs.Ytegcdefdkebmnaa
