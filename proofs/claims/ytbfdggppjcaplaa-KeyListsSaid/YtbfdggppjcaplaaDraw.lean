/- Contract of key.Draw: it returns the first key that is not in use. -/
import Derived.Test.YtbfdggppjcaplaaKeyMk
import Derived.Test.YtbfdggppjcaplaaMaps
namespace Go.Proofs.Ytbfdggppjcaplaa
open Go.RowKit Go.Maps

def FreeAt (used : List Int) (c f s : Int) : Prop := f ≤ s ∧ s ≤ 4294967295 ∧ mkKey c s ∉ used ∧ ∀ t, f ≤ t → t < s → mkKey c t ∈ used
def FullFrom (used : List Int) (c f : Int) : Prop := ∀ t, f ≤ t → t ≤ 4294967295 → mkKey c t ∈ used
def firstOf (want : Int) : Int := if serB want then want else 1
def Drawn (used : List Int) (c want s : Int) : Prop := FreeAt used c (firstOf want) s ∨ (FullFrom used c (firstOf want) ∧ FreeAt used c 1 s)

theorem firstOf_bd (want : Int) : 1 ≤ firstOf want ∧ firstOf want ≤ 4294967295 := by
  unfold firstOf
  cases h : serB want
  · simp
  · have := serB_true h; simp; omega
theorem FreeAt.one {used : List Int} {c f s t : Int} (h : FreeAt used c f s) (g : FreeAt used c f t) : s = t := by
  obtain ⟨h1, h2, h3, h4⟩ := h
  obtain ⟨g1, g2, g3, g4⟩ := g
  rcases Int.lt_trichotomy s t with hl | rfl | hl
  · exact absurd (g4 s h1 hl) h3
  · rfl
  · exact absurd (h4 t g1 hl) g3
theorem Drawn.one {used : List Int} {c want s t : Int} (h : Drawn used c want s) (g : Drawn used c want t) : s = t := by
  rcases h with h | ⟨hf, h⟩ <;> rcases g with g | ⟨gf, g⟩
  · exact h.one g
  · exact absurd (gf s h.1 h.2.1) h.2.2.1
  · exact absurd (hf t g.1 g.2.1) g.2.2.1
  · exact h.one g
theorem Drawn.bd {used : List Int} {c want s : Int} (h : Drawn used c want s) : 1 ≤ s ∧ s ≤ 4294967295 ∧ mkKey c s ∉ used := by
  have := firstOf_bd want
  rcases h with ⟨h1, h2, h3, _⟩ | ⟨_, h1, h2, h3, _⟩
  · exact ⟨by omega, h2, h3⟩
  · exact ⟨h1, h2, h3⟩

theorem mkKey_inj {c s t : Int} (hc : classB c = true) (hs : serB s = true) (ht : serB t = true) (h : mkKey c s = mkKey c t) : s = t := by
  rw [mkKey_yes hc hs, mkKey_yes hc ht] at h; omega
/-- pigeons: n different elements need n places -/
theorem pigeons (f : Nat → Int) : ∀ (n : Nat) (l : List Int), (∀ i j, i < n → j < n → f i = f j → i = j) → (∀ i, i < n → f i ∈ l) → n ≤ l.length
  | 0, _, _, _ => Nat.zero_le _
  | n + 1, l, hinj, hmem => by
    have hn := hmem n (by omega)
    have h := pigeons f n (l.erase (f n)) (fun i j hi hj => hinj i j (by omega) (by omega)) (fun i hi => by
      rw [List.mem_erase_of_ne]
      · exact hmem i (by omega)
      · intro e; have := hinj i n (by omega) (by omega) e; omega)
    rw [List.length_erase_of_mem hn] at h
    have := List.length_pos_of_mem hn
    omega
theorem not_full {used : List Int} {c : Int} (hc : classB c = true) (hl : used.length < 4294967295) : ¬ FullFrom used c 1 := by
  intro h
  have := pigeons (fun i => mkKey c ((i : Int) + 1)) 4294967295 used (fun i j hi hj e => by
    have := mkKey_inj hc (serB_mk (by omega) (by omega)) (serB_mk (by omega) (by omega)) e
    omega) (fun i hi => h _ (by omega) (by omega))
  omega

def DrawPost (used : List Int) (c want : Int) (w : World) (e : Ending) (w' : World) : Prop :=
  ∃ s, Drawn used c want s ∧ e = .returned (.tuple #[.int .u64 (mkKey c s), .bool true]) ∧ Below w.heap.size w w'

set_option maxHeartbeats 400000 in
theorem draw_no (c want : Int) (a : Option Addr) (len cap : Nat) (w : World) (hc : classB c = false) :
    Calls Try.prog 22 #[.slice a len cap, .int .i64 c, .int .i64 want] w fun e w' => e = .returned (.tuple #[.int .u64 0, .bool false]) ∧ w = w' := by
  go_enter Try.func22, Try.ntmps22
  go_wp2_with (go_at_call 47; refine (isClass_any _ _).mono ?_; rintro e w' ⟨rfl, rfl⟩)
  go_ret2
  exact ⟨rfl, rfl⟩

def lits (l : List Int) : List Lit := l.map (Lit.int .u64)
theorem mem_lits {x : Int} {l : List Int} : (Lit.int .u64 x ∈ lits l) ↔ x ∈ l := by simp [lits]

def Inv1 (w : World) (a : Option Addr) (len : Nat) (zs : List Int) (k : Nat) (wr : World) : Prop :=
  wr.ownsMap Try.prog 24 (plainElem Try.prog 4) w.heap.size k (keySet (lits (zs.take k))) ∧ Row .u64 wr a len zs ∧ Below w.heap.size w wr

theorem draw_zero (w : World) : (zeroValue 4).run Try.prog w = .ok (.bool false) w := by kernel_rfl


def Inv2 (w : World) (zs : List Int) (len : Nat) (F : Int) (B : Nat) (wr : World) : Prop :=
  wr.ownsMap Try.prog 24 (plainElem Try.prog 4) w.heap.size len (keySet (lits zs)) ∧ (∀ j, j < 2 → wr.cell? ⟨B, j, none⟩ = some (.int .i64 (if j = 0 then F else 1))) ∧ Below w.heap.size w wr
theorem Inv2.of {w : World} {a : Option Addr} {len : Nat} {zs : List Int} {wr : World} (h : Inv1 w a len zs len wr) (F G : Int) (hF : F = G) : Inv2 w zs len G wr.heap.size (wr.alloc (.cells #[.int .i64 F, .int .i64 1] 3)) := by
  subst hF
  refine ⟨?_, ?_, h.2.2.alloc h.2.2.size _⟩
  · have := h.1
    rw [List.take_of_length_le (by rw [h.2.1.1]; exact Nat.le_refl _)] at this
    exact this.alloc _
  · intro j hj
    rcases (by omega : j = 0 ∨ j = 1) with rfl | rfl <;> simp

def Upto (zs : List Int) (c F s : Int) : Prop := ∀ t, F ≤ t → t < s → mkKey c t ∈ zs

set_option maxHeartbeats 2000000 in
theorem draw_yes (c want : Int) (a : Option Addr) (len cap : Nat) (zs : List Int) (w : World) (hr : Row .u64 w a len zs) (hwf : ∀ n ∈ zs, (Lit.int .u64 n).wf = true)
    (hlen : len < 4294967295) (hc : classB c = true) :
    Calls Try.prog 22 #[.slice a len cap, .int .i64 c, .int .i64 want] w (DrawPost zs c want w) := by
  have HR := Lib.hid hr
  have HW := Lib.hid hwf
  have HNF := Lib.hid (not_full (used := zs) hc (by rw [hr.1]; exact hlen))
  clear hr hwf
  have hmm := fun (n : Int) (w : World) => run_makeMap_hint (P := Try.prog) Try.underlying69 .i64 n w
  have H1 : Hid (Inv1 w a len zs 0 (w.alloc (.map #[] 0))) := Lib.hid ⟨World.ownsMap_made _ _ _ _, HR.out.below (Below.alloc1 _ _), Below.alloc1 _ _⟩
  cases hs : serB want
  all_goals
    have HF : Hid ((serB want = true → want = firstOf want) ∧ (serB want = false → 1 = firstOf want)) := Lib.hid ⟨fun h => by simp [firstOf, h], fun h => by simp [firstOf, h]⟩
    have HSB := Lib.hid hs
    go_enter Try.func22, Try.ntmps22
    go_wp2_with (first | (go_at_call 47; refine (isClass_any _ _).mono ?_; rintro e w' ⟨rfl, rfl⟩) | (go_at_call 48; refine (isSerial_any _ _).mono ?_; rintro e w' ⟨rfl, rfl⟩))
    clear hmm
    go_loopw [26] (fun i wr => ∃ k : Nat, k ≤ len ∧ i = .int .i64 k ∧ Hid (Inv1 w a len zs k wr)) (fun i _ => len - (intOf i).toNat)
    case atStart => exact ⟨0, Nat.zero_le _, rfl, H1⟩
    case round =>
      clear H1
      obtain ⟨k, hk, rfl, HI⟩ := hrel
      by_cases hlt : k < len
      · obtain ⟨b, off, rfl, hcell⟩ := HI.out.2.1.at hlt
        have hmem := getD_mem zs k (by rw [HR.out.1]; exact hlt)
        have hsn := Lib.hid (take_snoc zs k (by rw [HR.out.1]; exact hlt))
        have hwk := HW.out _ hmem
        have HKE := Lib.hid (keyOf_int_mk Try.underlying24 hwk)
        clear hwk hmem
        generalize zs[k]?.getD 0 = x at *
        go_wp2_with (at_mapUpdate; refine wpList_mapUpdate_own _ rfl _ _ _ 69 rfl 24 4 (int_keyed Try.underlying24) Try.underlying69 _ w.heap.size k _ rfl HI.out.1 (by unfold maxLen; omega) _ _ _ rfl rfl HKE.out _ [] (plainElem_bool Try.underlying4 true) ?_; intro w1 hown1 hgrow1)
        have HI2 : Hid (Inv1 w (some ⟨b, off, none⟩) len zs (k + 1) w1) := Lib.hid (by
          refine ⟨?_, HI.out.2.1.grown HR.out.lt hgrow1 (fun q hq => by cases hq; exact Nat.le_refl _), HI.out.2.2.grown hgrow1 HI.out.2.2.size (fun q hq => by cases hq; exact Nat.le_refl _)⟩
          rw [hsn.out, lits, List.map_append]
          show w1.ownsMap _ _ _ _ _ (keySet (_ ++ [Lit.int .u64 x]))
          rw [keySet_snoc]
          exact hown1)
        clear hown1 hgrow1
        go_wp2
        go_roundw
        case rel => exact ⟨k + 1, by omega, by go_num, HI2⟩
        case measure => simp [intOf]; omega
      · obtain rfl : k = len := by omega
        have H2 := Lib.hid (Inv2.of HI.out _ _ (by first | exact HF.out.1 HSB.out | exact HF.out.2 HSB.out))
        clear HI
        go_wp2
        generalize wr.heap.size = B at *
        go_loopw [36] (fun i wr => ∃ j : Nat, j ≤ 2 ∧ i = .int .i64 j ∧ Hid (Inv2 w zs k (firstOf want) B wr ∧ (1 ≤ j → FullFrom zs c (firstOf want)) ∧ (2 ≤ j → FullFrom zs c 1))) (fun i _ => 2 - (intOf i).toNat)
        case atStart => exact ⟨0, by omega, rfl, Lib.hid ⟨H2.out, fun h => by omega, fun h => by omega⟩⟩
        case round =>
          clear H2
          obtain ⟨j, hj, rfl, HJ⟩ := hrel
          obtain ⟨wo, rfl⟩ : ∃ wo : World, wo = wr := ⟨_, rfl⟩
          by_cases hjl : j < 2
          · obtain ⟨F, HFF, hcf⟩ : ∃ F, Hid (F = if j = 0 then firstOf want else 1) ∧ wo.cell? ⟨B, j, none⟩ = some (.int .i64 F) := ⟨_, Lib.hid rfl, HJ.out.1.2.1 j hjl⟩
            have hFb : 1 ≤ F ∧ F ≤ 4294967295 := by rw [HFF.out]; have := firstOf_bd want; split <;> omega
            go_wp2
            go_loopw [13] (fun x wr => ∃ s : Int, F ≤ s ∧ s ≤ 4294967296 ∧ x = .int .i64 s ∧ Hid (Upto zs c F s ∧ Inv2 w zs k (firstOf want) B wr)) (fun x _ => (4294967296 - intOf x).toNat)
            case atStart => exact ⟨F, by omega, by omega, rfl, Lib.hid ⟨fun t h1 h2 => by omega, HJ.out.1⟩⟩
            case round =>
              obtain ⟨s, hs1, hs2, rfl, HS⟩ := hrel
              by_cases hsm : s ≤ 4294967295
              · have hmb := mkKey_bd c s
                have HKE := Lib.hid (keyOf_int_mk (P := Try.prog) (k := 24) (q := .u64) Try.underlying24 (a := mkKey c s) (WalkArith.wf_u64 (by omega)))
                go_wp2_with (first | (go_at_call 14; refine (make_any _ _ _).mono ?_; rintro e w' ⟨rfl, rfl⟩) | (at_lookup; refine wpList_lookup_own_bool _ rfl _ _ 69 rfl 24 4 (int_keyed Try.underlying24) Try.underlying69 Try.underlying4 (draw_zero _) w.heap.size k _ rfl HS.out.2.1 _ _ rfl HKE.out trivial ?_; intro cc hcc; have HCC := Lib.hid (hcc.trans mem_lits); clear hcc; cases cc))
                · go_ret2
                  refine ⟨s, ?_, rfl, HS.out.2.2.2⟩
                  have hnot : mkKey c s ∉ zs := fun h => by have := HCC.out.2 h; cases this
                  by_cases h0 : j = 0
                  · left
                    have : F = firstOf want := by rw [HFF.out, if_pos h0]
                    exact ⟨by omega, hsm, hnot, fun t h1 h2 => HS.out.1 t (by omega) h2⟩
                  · right
                    have : F = 1 := by rw [HFF.out, if_neg h0]
                    exact ⟨HJ.out.2.1 (by omega), by omega, hsm, hnot, fun t h1 h2 => HS.out.1 t (by omega) h2⟩
                · go_roundw
                  case rel =>
                    have hin : mkKey c s ∈ zs := HCC.out.1 (by simp)
                    have HU : Hid (Upto zs c F (s + 1) ∧ Inv2 w zs k (firstOf want) B wr) := Lib.hid ⟨fun t h1 h2 => if e : t = s then e ▸ hin else HS.out.1 t h1 (by omega), HS.out.2⟩
                    exact ⟨_, _, _, ⟨s + 1, by omega, by omega, rfl, HU⟩, rfl, rfl, rfl⟩
                  case measure => simp [intOf]; omega
              · go_wp2
                go_roundw
                case rel => exact ⟨j + 1, by omega, by go_num, Lib.hid ⟨HS.out.2, fun _ => by
                  by_cases h0 : j = 0
                  · have : F = firstOf want := by rw [HFF.out, if_pos h0]
                    exact fun t h1 h2 => HS.out.1 t (by omega) (by omega)
                  · exact HJ.out.2.1 (by omega), fun h => by
                  have : F = 1 := by rw [HFF.out, if_neg (by omega)]
                  exact fun t h1 h2 => HS.out.1 t (by omega) (by omega)⟩⟩
                case measure => simp [intOf]; omega
          · exact absurd (HJ.out.2.2 (by omega)) HNF.out
end Go.Proofs.Ytbfdggppjcaplaa
