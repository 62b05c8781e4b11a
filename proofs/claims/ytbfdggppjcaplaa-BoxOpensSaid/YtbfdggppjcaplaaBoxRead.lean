/- Contract of bytes.Clone, of box.Read and of the functions over it. -/
import Derived.Test.YtbfdggppjcaplaaBox
namespace Go.Proofs.Ytbfdggppjcaplaa
open Go.RowKit

def OwnPost (zs : List Int) (w : World) (e : Ending) (w' : World) : Prop := ∃ v, e = .returned v ∧ Own .u8 5 w w' v zs

set_option maxRecDepth 100000 in
set_option maxHeartbeats 1000000 in
theorem clone_any (x : Addr) (len cap : Nat) (zs : List Int) (w : World) (hr : Row .u8 w (some x) len zs) (hl : len ≤ 1000000) :
    Calls Try.prog 52 #[.slice (some x) len cap] w (OwnPost zs w) := by
  have HL := Lib.hid hr.1
  have HR := Lib.hid hr
  clear hr
  obtain ⟨i0, hi, hz0, hz1, hz2⟩ := info_parts info_u8
  have HI0 := Lib.hid (And.intro hi (And.intro hz0 (And.intro hz1 hz2)))
  clear hi hz0 hz1 hz2
  have H2 : Hid (Owns w 5 (.slice (some ⟨w.heap.size, 0, none⟩) 0 0) 0 [] (w.alloc (.cells #[] 5))) := Lib.hid (own_lit w 5 .u8 [] (by simp))
  have hnil := fun (w : World) => Lib.run_eql_slice_nil (P := Try.prog) w 32 5 (some x) len cap 0 0 Try.underlying32
  go_enter Try.func52, Try.ntmps52
  go_wp2_with (at_builtin; refine wpList_append_src _ rfl _ _ 32 rfl w.heap.size 5 i0 (.int .u8 0) 1 1 Try.underlying32 HI0.out.1 HI0.out.2.1 HI0.out.2.2.1 HI0.out.2.2.2 rfl (by decide) _ 0 _ rfl H2.out.1 (some x) len cap (zs.map (Value.int .u8)) rfl (fun h => (Option.some_ne_none _ h).elim) (by simpa using HL.out) ((Src.of_row HR.out).below H2.out.2) (oneCell_ints _ _) (by unfold maxLen; omega) (by omega) H2.out.2.size ?_)
  intro v6 w6 hown6 hgrow6 hat6
  have H6 := Lib.hid (H2.out.more hown6 hgrow6)
  clear hown6 hgrow6 hat6
  go_wp2
  go_ret
  refine ⟨_, rfl, ?_, H6.out.2⟩
  have h6 := H6.out.1
  rw [HL.out]
  simpa using h6

def bAt (b : List Int) (i : Nat) : Int := b[i]?.getD 0
def boxSize (b : List Int) : Int := bAt b 10 * 256 + bAt b 11
def keyPart (b : List Int) : List Int := (b.drop 2).take 8
def readErr (b : List Int) : Int :=
  if b.length < 12 then 101 else
  if (bAt b 0 == 66) && kindB (bAt b 1) && readOk (keyPart b) && !decide (1000 < boxSize b) then (if (b.length : Int) < 12 + boxSize b then 101 else 0) else 100
def boxBody (b : List Int) : List Int := if readErr b = 0 then (b.drop 12).take (boxSize b).toNat else []
def boxKind (b : List Int) : Int := if readErr b = 0 then bAt b 1 else 0
def boxKey (b : List Int) : Int := if readErr b = 0 then readKey (keyPart b) else 0
def boxEnd (b : List Int) : Int := if readErr b = 0 then 12 + boxSize b else 0

def ReadPost (b : List Int) (w : World) (e : Ending) (w' : World) : Prop :=
  ∃ v, e = .returned (.tuple #[.agg #[.int .i64 (boxKind b), .int .u64 (boxKey b), v], .int .i64 (boxEnd b), .int .i64 (readErr b)]) ∧ Own .u8 5 w w' v (boxBody b)

theorem ReadPost.fail {b : List Int} {w w' : World} {err : Int} (h : readErr b = err) (h0 : err ≠ 0) (hb : Below w.heap.size w w') :
    ReadPost b w (.returned (.tuple #[.agg #[.int .i64 0, .int .u64 0, .slice none 0 0], .int .i64 0, .int .i64 err])) w' := by
  subst h
  refine ⟨.slice none 0 0, by simp [boxKind, boxKey, boxEnd, h0], ?_⟩
  rw [show boxBody b = [] by simp [boxBody, h0]]
  exact ⟨World.ownsRow_nil _ _ _ _, hb⟩

theorem or_i64 (x y : Int) (hx : 0 ≤ x) (hx2 : x ≤ 255) (hy : 0 ≤ y) (hy2 : y ≤ 255) : bits .or .i64 (x * 256) y = x * 256 + y := by
  have e2 : ((2 : Int) ^ 8) = 256 := by decide
  have e3 : ((2 : Int) ^ 63) = 9223372036854775808 := by decide
  exact bits_join .i64 63 (by decide) (fun n h0 h1 => by rw [IntKind.wrap_i64]; omega) 8 (x * 256) y (by omega) (by rw [e2]; omega) (by rw [e3]; omega) hy (by rw [e2]; omega) (by rw [e3]; omega)
theorem bAt_bd {b : List Int} (hb : ∀ x ∈ b, 0 ≤ x ∧ x ≤ 255) (i : Nat) : 0 ≤ bAt b i ∧ bAt b i ≤ 255 := by
  unfold bAt
  by_cases h : i < b.length
  · exact hb _ (getD_mem b i h)
  · simp [List.getElem?_eq_none (Nat.le_of_not_lt h)]

theorem ReadPost.yes {b : List Int} {w w' : World} {v : Value} {n : Int} (h : readErr b = 0) (hn : 12 + boxSize b = n) (ho : Own .u8 5 w w' v (boxBody b)) :
    ReadPost b w (.returned (.tuple #[.agg #[.int .i64 (bAt b 1), .int .u64 (readKey (keyPart b)), v], .int .i64 n, .int .i64 0])) w' := by
  subst hn
  exact ⟨v, by simp [boxKind, boxKey, boxEnd, h], ho⟩
theorem own_after {w w3 : World} {C : Obj} {nq : Nat} {v u : Value} {zs : List Int} {x y z : Value} (h : Own .u8 5 ((w.alloc C).drewN nq) w3 v zs) (hv : v = u) :
    Own .u8 5 w (((w3.setCell ⟨w.heap.size, 0, none⟩ x).setCell ⟨w.heap.size, 1, none⟩ y).setCell ⟨w.heap.size, 2, none⟩ z) u zs := by
  subst hv
  have hb : Below w.heap.size w w3 := ((Below.alloc1 w C).trans (Below.drewN1 _ nq _)).trans (h.2.mono (by simp))
  refine ⟨?_, ((hb.setCell (Nat.le_refl _) _).setCell (Nat.le_refl _) _).setCell (Nat.le_refl _) _⟩
  have hlt : w.heap.size < ((w.alloc C).drewN nq).heap.size := by simp
  exact ownsRow_base (ownsRow_setCell_below (ownsRow_setCell_below (ownsRow_setCell_below h.1 (a := ⟨w.heap.size, 0, none⟩) hlt x) (a := ⟨w.heap.size, 1, none⟩) hlt y) (a := ⟨w.heap.size, 2, none⟩) hlt z) (by simp)
theorem bcell {W w1 : World} (hb : Below W.heap.size W w1) : (∀ b o, b < W.heap.size → w1.cell? ⟨b, o, none⟩ = W.cell? ⟨b, o, none⟩) ∧ (∀ b o, b < W.heap.size → w1.frozen? ⟨b, o, none⟩ = W.frozen? ⟨b, o, none⟩) :=
  ⟨fun b o h => hb.cell (p := ⟨b, o, none⟩) h, fun b o h => hb.frozen (p := ⟨b, o, none⟩) h⟩
theorem own_is {k : IntKind} {T : TypeId} {w w' : World} {v : Value} {zs : List Int} (h : Own k T w w' v zs) : ∃ a cap, v = .slice a zs.length cap := by
  rcases h.1.2 with ⟨h1, h2⟩ | ⟨g, cap, cur, h1, _⟩
  · exact ⟨none, 0, by rw [h2]; exact h1⟩
  · exact ⟨_, cap, h1⟩

set_option maxRecDepth 100000 in
set_option maxHeartbeats 4000000 in
theorem boxRead_any (a : Option Addr) (len cap : Nat) (zs : List Int) (w : World) (hr : Row .u8 w a len zs) (hb : ∀ x ∈ zs, 0 ≤ x ∧ x ≤ 255) (hcap : len ≤ cap) (hcm : cap ≤ 9223372036854775807) :
    Calls Try.prog 36 #[.slice a len cap] w (ReadPost zs w) := by
  have HL := Lib.hid hr.1
  have HR := Lib.hid hr
  have HB := Lib.hid hb
  clear hr hb
  by_cases h12 : len < 12
  · have HE := Lib.hid (show readErr zs = 101 by simp [readErr, HL.out, h12])
    go_enter Try.func36, Try.ntmps36
    go_wp2
    exact bodyPost_ret (v := .tuple #[.agg #[.int .i64 0, .int .u64 0, .slice none 0 0], .int .i64 0, .int .i64 101]) (by simp [results, Try.results36, go_sem]) rfl (ReadPost.fail HE.out (by decide) (Below.alloc1 _ _))
  obtain ⟨b, off, rfl, hc0⟩ := HR.out.at (i := 0) (by omega)
  have hcl := fun (i : Nat) (hi : i < len) => (show w.cell? ⟨b, off + i, none⟩ = some (.int .u8 (bAt zs i)) by
    obtain ⟨b', off', e, h⟩ := HR.out.at hi
    cases e
    exact h)
  have hc1 := hcl 1 (by omega)
  have hc10 := hcl 10 (by omega)
  have hc11 := hcl 11 (by omega)
  have hblt : b < w.heap.size := World.block_lt_of_cell? _ _ hc1
  clear hcl
  have hc0' : w.cell? ⟨b, off, none⟩ = some (.int .u8 (bAt zs 0)) := hc0
  clear hc0
  have b0 := bAt_bd HB.out 0
  have b1 := bAt_bd HB.out 1
  have b10 := bAt_bd HB.out 10
  have b11 := bAt_bd HB.out 11
  have hor := or_i64 (bAt zs 10) (bAt zs 11) b10.1 b10.2 b11.1 b11.2
  have hsz : boxSize zs = bAt zs 10 * 256 + bAt zs 11 := rfl
  have HSZ := Lib.hid hsz
  rw [← hsz] at hor
  have hsb : 0 ≤ boxSize zs ∧ boxSize zs ≤ 65535 := by rw [hsz]; omega
  clear hsz
  have HKR : Hid (Row .u8 w (some ⟨b, off + 2, none⟩) 8 (keyPart zs)) := Lib.hid (by
    have := (HR.out.drop 2 (by omega)).take 8 (by omega)
    exact this)
  have HKB : Hid (∀ x ∈ keyPart zs, 0 ≤ x ∧ x ≤ 255) := Lib.hid (fun x hx => HB.out x (List.mem_of_mem_drop (List.mem_of_mem_take hx)))
  have hne : ¬ cap = 2 := by omega
  have h12b : decide (len < 12) = false := by simpa using h12
  cases hm : (bAt zs 0 == 66)
  · have HE := Lib.hid (show readErr zs = 100 by simp [readErr, HL.out, h12, hm])
    have hm2 : (bAt zs 0 != 66) = true := by simp [bne, hm]
    go_enter Try.func36, Try.ntmps36
    go_wp2_with (go_at_call 27; refine (read_any _ _ _ _ _ (HKR.out.below (Below.alloc1 _ _)) HKB.out).mono ?_; rintro e w' ⟨rfl, rfl⟩)
    go_quiet (fail)
    go_wp2_with (go_at_call 51; refine (isKind_any _ _).mono ?_; rintro e w' ⟨rfl, rfl⟩)
    exact bodyPost_ret (v := .tuple #[.agg #[.int .i64 0, .int .u64 0, .slice none 0 0], .int .i64 0, .int .i64 100]) (by simp [results, Try.results36, go_sem]) rfl (ReadPost.fail HE.out (by decide) (((((Below.alloc1 _ _).trans (Below.drewN1 _ _ _)).setCell (Nat.le_refl _) _).setCell (Nat.le_refl _) _).setCell (Nat.le_refl _) _))
  have hm2 : (bAt zs 0 != 66) = false := by simp [bne, hm]
  cases hk : kindB (bAt zs 1)
  · have HE := Lib.hid (show readErr zs = 100 by simp [readErr, HL.out, h12, hk])
    go_enter Try.func36, Try.ntmps36
    go_wp2_with (go_at_call 27; refine (read_any _ _ _ _ _ (HKR.out.below (Below.alloc1 _ _)) HKB.out).mono ?_; rintro e w' ⟨rfl, rfl⟩)
    go_quiet (fail)
    go_wp2_with (go_at_call 51; refine (isKind_any _ _).mono ?_; rintro e w' ⟨rfl, rfl⟩)
    exact bodyPost_ret (v := .tuple #[.agg #[.int .i64 0, .int .u64 0, .slice none 0 0], .int .i64 0, .int .i64 100]) (by simp [results, Try.results36, go_sem]) rfl (ReadPost.fail HE.out (by decide) (((((Below.alloc1 _ _).trans (Below.drewN1 _ _ _)).setCell (Nat.le_refl _) _).setCell (Nat.le_refl _) _).setCell (Nat.le_refl _) _))
  cases ho : readOk (keyPart zs)
  · have HE := Lib.hid (show readErr zs = 100 by simp [readErr, HL.out, h12, ho])
    go_enter Try.func36, Try.ntmps36
    go_wp2_with (go_at_call 27; refine (read_any _ _ _ _ _ (HKR.out.below (Below.alloc1 _ _)) HKB.out).mono ?_; rintro e w' ⟨rfl, rfl⟩)
    go_quiet (fail)
    go_wp2_with (go_at_call 51; refine (isKind_any _ _).mono ?_; rintro e w' ⟨rfl, rfl⟩)
    exact bodyPost_ret (v := .tuple #[.agg #[.int .i64 0, .int .u64 0, .slice none 0 0], .int .i64 0, .int .i64 100]) (by simp [results, Try.results36, go_sem]) rfl (ReadPost.fail HE.out (by decide) (((((Below.alloc1 _ _).trans (Below.drewN1 _ _ _)).setCell (Nat.le_refl _) _).setCell (Nat.le_refl _) _).setCell (Nat.le_refl _) _))
  by_cases hbig : 1000 < boxSize zs
  · have HE := Lib.hid (show readErr zs = 100 by simp [readErr, HL.out, h12, hbig])
    go_enter Try.func36, Try.ntmps36
    go_wp2_with (go_at_call 27; refine (read_any _ _ _ _ _ (HKR.out.below (Below.alloc1 _ _)) HKB.out).mono ?_; rintro e w' ⟨rfl, rfl⟩)
    go_quiet (fail)
    go_wp2_with (go_at_call 51; refine (isKind_any _ _).mono ?_; rintro e w' ⟨rfl, rfl⟩)
    exact bodyPost_ret (v := .tuple #[.agg #[.int .i64 0, .int .u64 0, .slice none 0 0], .int .i64 0, .int .i64 100]) (by simp [results, Try.results36, go_sem]) rfl (ReadPost.fail HE.out (by decide) (((((Below.alloc1 _ _).trans (Below.drewN1 _ _ _)).setCell (Nat.le_refl _) _).setCell (Nat.le_refl _) _).setCell (Nat.le_refl _) _))
  by_cases hend : (len : Int) < 12 + boxSize zs
  · have HE := Lib.hid (show readErr zs = 101 by simp [readErr, HL.out, h12, hm, hk, ho, hbig, hend])
    go_enter Try.func36, Try.ntmps36
    go_wp2_with (go_at_call 27; refine (read_any _ _ _ _ _ (HKR.out.below (Below.alloc1 _ _)) HKB.out).mono ?_; rintro e w' ⟨rfl, rfl⟩)
    go_quiet (fail)
    go_wp2_with (go_at_call 51; refine (isKind_any _ _).mono ?_; rintro e w' ⟨rfl, rfl⟩)
    exact bodyPost_ret (v := .tuple #[.agg #[.int .i64 0, .int .u64 0, .slice none 0 0], .int .i64 0, .int .i64 101]) (by simp [results, Try.results36, go_sem]) rfl (ReadPost.fail HE.out (by decide) (((((Below.alloc1 _ _).trans (Below.drewN1 _ _ _)).setCell (Nat.le_refl _) _).setCell (Nat.le_refl _) _).setCell (Nat.le_refl _) _))
  have HE := Lib.hid (show readErr zs = 0 by simp [readErr, HL.out, h12, hm, hk, ho, hbig, hend])
  obtain ⟨n, HN⟩ : ∃ n : Nat, Hid (boxSize zs = (n : Int)) := ⟨(boxSize zs).toNat, Lib.hid (by omega)⟩
  rw [HN.out] at hor hsb hbig hend
  have hn : n ≤ 1000 ∧ 12 + n ≤ len := by omega
  have HBR : Hid (Row .u8 w (some ⟨b, off + 12, none⟩) n ((zs.drop 12).take n)) := Lib.hid ((HR.out.drop 12 (by omega)).take n (by omega))
  have HBODY := Lib.hid (show boxBody zs = (zs.drop 12).take n by unfold boxBody; rw [HE.out, if_pos rfl, HN.out]; rfl)
  by_cases hn0 : n = 0
  · subst hn0
    have HBODY := Lib.hid (show boxBody zs = [] by rw [HBODY.out]; rfl)
    go_enter Try.func36, Try.ntmps36
    go_wp2_with (go_at_call 27; refine (read_any _ _ _ _ _ (HKR.out.below (Below.alloc1 _ _)) HKB.out).mono ?_; rintro e w' ⟨rfl, rfl⟩)
    go_quiet (fail)
    go_wp2_with (go_at_call 51; refine (isKind_any _ _).mono ?_; rintro e w' ⟨rfl, rfl⟩)
    refine (clone_any _ 0 _ [] _ ⟨rfl, Nat.zero_le _, .inl rfl⟩ (by omega)).mono ?_
    rintro e w3 ⟨v, rfl, hown⟩
    obtain ⟨hcA, hfA⟩ := bcell hown.2
    have hq0 := hcA w.heap.size 0 (by simp)
    have hq1 := hcA w.heap.size 1 (by simp)
    have hq2 := hcA w.heap.size 2 (by simp)
    have hg0 := hfA w.heap.size 0 (by simp)
    have hg1 := hfA w.heap.size 1 (by simp)
    have hg2 := hfA w.heap.size 2 (by simp)
    have hzz : w.heap.size < w3.heap.size := by have := hown.2.size; simp at this; omega
    simp at hq0 hq1 hq2 hg0 hg1 hg2
    obtain ⟨va, vcap, hv⟩ := own_is hown
    have HOWN := Lib.hid hown
    have HV := Lib.hid hv
    rw [hv]
    clear hcA hfA hown hv
    go_wp2
    refine bodyPost_ret (v := .tuple #[.agg #[.int .i64 (bAt zs 1), .int .u64 (readKey (keyPart zs)), .slice va 0 vcap], .int .i64 12, .int .i64 0]) (by simp [results, Try.results36, go_sem, hq0, hq1, hq2]) rfl ?_
    refine ReadPost.yes HE.out (by rw [HN.out]; rfl) ?_
    rw [HBODY.out]
    exact own_after HOWN.out HV.out
  · have hn1 : ¬ 12 + n - 12 = 0 := by omega
    have hn2 : 0 < n := by omega
    clear hn0
    generalize (zs.drop 12).take n = B at *
    go_enter Try.func36, Try.ntmps36
    go_wp2_with (go_at_call 27; refine (read_any _ _ _ _ _ (HKR.out.below (Below.alloc1 _ _)) HKB.out).mono ?_; rintro e w' ⟨rfl, rfl⟩)
    go_quiet (fail)
    go_wp2_with (go_at_call 51; refine (isKind_any _ _).mono ?_; rintro e w' ⟨rfl, rfl⟩)
    refine (clone_any _ _ _ _ _ ((HBR.out.below (Below.alloc1 _ _)).below (Below.drewN1 _ _ _)) (by omega)).mono ?_
    rintro e w3 ⟨v, rfl, hown⟩
    obtain ⟨hcA, hfA⟩ := bcell hown.2
    have hq0 := hcA w.heap.size 0 (by simp)
    have hq1 := hcA w.heap.size 1 (by simp)
    have hq2 := hcA w.heap.size 2 (by simp)
    have hg0 := hfA w.heap.size 0 (by simp)
    have hg1 := hfA w.heap.size 1 (by simp)
    have hg2 := hfA w.heap.size 2 (by simp)
    have hzz : w.heap.size < w3.heap.size := by have := hown.2.size; simp at this; omega
    simp at hq0 hq1 hq2 hg0 hg1 hg2
    obtain ⟨va, vcap, hv⟩ := own_is hown
    have HOWN := Lib.hid hown
    have HV := Lib.hid hv
    rw [hv]
    clear hcA hfA hown hv
    go_wp2
    refine bodyPost_ret (v := .tuple #[.agg #[.int .i64 (bAt zs 1), .int .u64 (readKey (keyPart zs)), .slice va B.length vcap], .int .i64 (12 + (n : Int)), .int .i64 0]) (by simp [results, Try.results36, go_sem, hq0, hq1, hq2]) rfl ?_
    refine ReadPost.yes HE.out (by rw [HN.out]) ?_
    rw [HBODY.out]
    exact own_after HOWN.out HV.out
end Go.Proofs.Ytbfdggppjcaplaa
