/- The walk of KeyDraws. -/
import Derived.Test.YtbfdggppjcaplaaAwake3
import Derived.Test.YtbfdggppjcaplaaListRef
namespace Go.Proofs.Ytbfdggppjcaplaa
open Go.RowKit Go.ChangeShapes
namespace KeyDraws
set_option linter.unusedVariables false

theorem three_at (w : World) (T : TypeId) (x y z : Int) (j : Nat) (hj : j < 3) : (w.alloc (.cells #[.int .i64 x, .int .i64 y, .int .i64 z] T)).cell? ⟨w.heap.size, j, none⟩ = some (.int .i64 (if j = 0 then x else if j = 1 then y else z)) := by
  rcases (by omega : j = 0 ∨ j = 1 ∨ j = 2) with rfl | rfl | rfl <;> simp
theorem wf_of_bd {l : List Int} (h : ∀ x ∈ l, 0 ≤ x ∧ x ≤ 18446744073709551615) : ∀ n ∈ l, (Lit.int .u64 n).wf = true := fun n hn => WalkArith.wf_u64 (by have := h n hn; omega)

def Res (used : List Int) (c want r : Int) (b : Bool) : Prop := (classB c = false ∧ r = 0 ∧ b = false) ∨ (classB c = true ∧ b = true ∧ ∃ s, Drawn used c want s ∧ r = mkKey c s)
theorem Res.one {used : List Int} {c want r r' : Int} {b b' : Bool} (h : Res used c want r b) (g : Res used c want r' b') : r' = r ∧ b' = b := by
  rcases h with ⟨h1, h2, h3⟩ | ⟨h1, h2, s, h3, h4⟩ <;> rcases g with ⟨g1, g2, g3⟩ | ⟨g1, g2, t, g3, g4⟩
  · exact ⟨by rw [h2, g2], by rw [h3, g3]⟩
  · rw [h1] at g1; cases g1
  · rw [h1] at g1; cases g1
  · exact ⟨by rw [h4, g4, h3.one g3], by rw [h2, g2]⟩
def DPost (used : List Int) (c want : Int) (w : World) (e : Ending) (w' : World) : Prop := ∃ r b, Res used c want r b ∧ e = .returned (.tuple #[.int .u64 r, .bool b]) ∧ Below w.heap.size w w'
def DPostQ (used : List Int) (c want : Int) (w : World) (e : Ending) (w' : World) : Prop := ∃ r b, Res used c want r b ∧ e = .returned (.tuple #[.int .u64 r, .bool b]) ∧ w = w'
theorem draw_both (c want : Int) (a : Option Addr) (len cap : Nat) (zs : List Int) (w : World) (hr : Row .u64 w a len zs) (hwf : ∀ n ∈ zs, (Lit.int .u64 n).wf = true) (hlen : len < 4294967295) :
    Calls Try.prog 22 #[.slice a len cap, .int .i64 c, .int .i64 want] w (DPost zs c want w) := by
  cases hc : classB c
  · exact (draw_no c want a len cap w hc).mono fun e w' ⟨he, hw⟩ => ⟨0, false, .inl ⟨hc, rfl, rfl⟩, he, hw ▸ Below.refl _ _⟩
  · exact (draw_yes c want a len cap zs w hr hwf hlen hc).mono fun e w' ⟨s, hs, he, hb⟩ => ⟨_, true, .inr ⟨hc, rfl, s, hs, rfl⟩, he, hb⟩
theorem refDraw_both (c want : Int) (a : Option Addr) (len cap : Nat) (zs : List Int) (w : World) (hr : Row .u64 w a len zs) (hlen : len < 4294967295) :
    Calls Try.prog 23 #[.slice a len cap, .int .i64 c, .int .i64 want] w (DPostQ zs c want w) := by
  cases hc : classB c
  · exact (refDraw_no c want a len cap w hc).mono fun e w' ⟨he, hw⟩ => ⟨0, false, .inl ⟨hc, rfl, rfl⟩, he, hw⟩
  · exact (refDraw_yes c want a len cap zs w hr hlen hc).mono fun e w' ⟨hw, s, hs, he⟩ => ⟨_, true, .inr ⟨hc, rfl, s, hs, rfl⟩, he, hw⟩

set_option maxRecDepth 100000 in
set_option maxHeartbeats 4000000 in
theorem walk0 (a0 : Option Addr) (len0 cap0 : Nat) (z0 : List Int) (a1 : Int) (a2 : Int) (a3 : Option Addr) (len3 cap3 : Nat) (z3 : List Int) (a4 : Int) (x5 : Bool) (w : World) (w0 : IsRow .u64 w a0 len0 cap0 z0) (w1 : (Lit.int .i64 a1).wf = true) (w2 : (Lit.int .i64 a2).wf = true) (w3 : IsRow .u8 w a3 len3 cap3 z3) (w4 : (Lit.int .u8 a4).wf = true) :
    Calls Try.prog 4 #[.slice a0 len0 cap0, .int .i64 a1, .int .i64 a2, .slice a3 len3 cap3, .int .u8 a4, .bool x5] w fun e w' => e = .returned (.bool true) ∧ Below w.heap.size w w' := by
  have u4 := bounds_u8 w4
  have R0 := Lib.hid w0.row
  have R3 := Lib.hid w3.row
  have HW0 := Lib.hid w0.wf
  have hbz : ∀ n ∈ z3.take len3, 0 ≤ n ∧ n ≤ 255 := fun n hn => bounds_u8 (w3.wf n hn)
  have HBZ := Lib.hid hbz
  have hl0 : len0 ≤ 9223372036854775807 := by have := R0.out.2.1; unfold maxLen at this; omega
  clear w0 w1 w2 w3 w4 hbz
  generalize z0.take len0 = zr at *
  generalize z3.take len3 = zl at *
  by_cases hb0 : 60 < len0
  · have hb0' : decide (60 < len0) = true := by simpa using hb0
    go_enter Try.func4, Try.ntmps4
    go_wp2_with (go_at_call 13; refine (awake3_any _).mono ?_; rintro e wa ⟨rfl, hba⟩; have HBA := Lib.hid hba; clear hba)
    go_ret
    exact ⟨rfl, HBA.out⟩
  have hb0' : decide (60 < len0) = false := by simpa using hb0
  obtain ⟨i0, hi, hz0, hz1, hz2⟩ := info_parts info_key
  have HI0 := Lib.hid (And.intro hi (And.intro hz0 (And.intro hz1 hz2)))
  clear hi hz0 hz1 hz2
  go_enter Try.func4, Try.ntmps4
  go_wp2_with (go_at_call 13; refine (awake3_any _).mono ?_; rintro e wa ⟨rfl, hba⟩; have HBA := Lib.hid hba; clear hba)
  refine (draw_both _ _ _ _ _ zr _ (R0.out.below HBA.out) HW0.out (by omega)).mono ?_
  rintro e wb ⟨r, b, hres, rfl, hbb⟩
  have HBB := Lib.hid (bthen HBA.out hbb)
  have HRES := Lib.hid hres
  clear hbb HBA hres
  go_wp2_with fail
  refine (refDraw_both _ _ _ _ _ zr _ (R0.out.below HBB.out) (by omega)).mono ?_
  rintro e wc ⟨r', b', hres', rfl, rfl⟩
  obtain ⟨rfl, rfl⟩ := HRES.out.one hres'
  clear hres' HRES
  cases x5
  all_goals
    go_wp2_with fail
    refine (list_any _ _ _ zl _ (R3.out.below HBB.out) HBZ.out).mono ?_
    rintro e wd ⟨v, rfl, hown⟩
    have HOW := Lib.hid hown
    have hll := listOf_len (zl.take 60).length (zl.take 60) rfl
    have hl60 : (zl.take 60).length ≤ 60 := by simp; omega
    have HLB := Lib.hid (mem_listOf _ (zl.take 60) rfl)
    clear hown
    generalize listOf (zl.take 60) = L at *
    go_wp2_with fail
    refine (refMake_any _ _ _).mono ?_
    rintro e w' ⟨rfl, rfl⟩
    go_wp2_with fail
    refine (refMake_any _ _ _).mono ?_
    rintro e w' ⟨rfl, rfl⟩
    have hk1 := mkKey_bd 1 4294967295
    have hk2 := mkKey_bd 1 4294967294
    have hk3 := mkKey_bd 2 4294967295
    have hk4 := mkKey_bd 2 4294967294
    generalize mkKey 1 4294967295 = m1 at *
    generalize mkKey 1 4294967294 = m2 at *
    generalize mkKey 2 4294967295 = m3 at *
    generalize mkKey 2 4294967294 = m4 at *
    go_wp2_with (at_builtin; first | refine wpList_append_src _ rfl _ _ 31 rfl w.heap.size 24 i0 (.int .u64 0) 1 8 Try.underlying31 HI0.out.1 HI0.out.2.1 HI0.out.2.2.1 HI0.out.2.2.2 rfl (by decide) _ L.length _ rfl ((ownsRow_base HOW.out.1 HBB.out.size).alloc _) (some ⟨wd.heap.size, 0, none⟩) 2 2 ([m1, m2].map (Value.int .u64)) rfl (fun h => (Option.some_ne_none _ h).elim) rfl (Src.of_row (Row.two _ _ _ _)) (oneCell_ints _ _) (by unfold maxLen; omega) (by omega) ?_ ?_ | refine wpList_append_src _ rfl _ _ 31 rfl w.heap.size 24 i0 (.int .u64 0) 1 8 Try.underlying31 HI0.out.1 HI0.out.2.1 HI0.out.2.2.1 HI0.out.2.2.2 rfl (by decide) _ L.length _ rfl ((ownsRow_base HOW.out.1 HBB.out.size).alloc _) (some ⟨wd.heap.size, 0, none⟩) 2 2 ([m3, m4].map (Value.int .u64)) rfl (fun h => (Option.some_ne_none _ h).elim) rfl (Src.of_row (Row.two _ _ _ _)) (oneCell_ints _ _) (by unfold maxLen; omega) (by omega) ?_ ?_)
    · have h1 := HBB.out.size
      have h2 := HOW.out.2.size
      simp
      omega
    intro v' w1 hown' hgrow hat
    have hex : ∃ Lx : List Int, Lx.length = L.length + 2 ∧ w1.ownsRow w.heap.size 24 1 v' (L.length + 2) (Lx.map (Value.int .u64)) ∧ (∀ x ∈ Lx, 0 ≤ x ∧ x ≤ 18446744073709551615) := by
      first
        | exact ⟨L ++ [m1, m2], by simp, by simpa using hown', fun x hx => by
            rcases List.mem_append.1 hx with h | h
            · exact HLB.out x h
            · simp only [List.mem_cons, List.not_mem_nil, or_false] at h
              rcases h with rfl | rfl <;> assumption⟩
        | exact ⟨L ++ [m3, m4], by simp, by simpa using hown', fun x hx => by
            rcases List.mem_append.1 hx with h | h
            · exact HLB.out x h
            · simp only [List.mem_cons, List.not_mem_nil, or_false] at h
              rcases h with rfl | rfl <;> assumption⟩
    have HB1 : Hid (Below w.heap.size w w1) := Lib.hid (by
      have hb0 := bthen HBB.out HOW.out.2
      exact (hb0.alloc hb0.size _).grown hgrow (hb0.alloc hb0.size _).size (fun q hq => Nat.le_trans HBB.out.size (HOW.out.1.lt q hq).1))
    obtain ⟨Lx, hlx, hox, hbx⟩ := hex
    obtain ⟨la, lcap, hv, hc1, hc2, hrow, hform⟩ := own_slice hox (by unfold maxLen; omega)
    have HWX := Lib.hid (wf_of_bd hbx)
    have HROW := Lib.hid hrow
    rw [hv]
    clear hv hrow hform hox hbx hown' hgrow hat HOW HLB hc1 hc2 hlx
    have hn62 : L.length + 2 ≤ 62 := by omega
    clear hk1 hk2 hk3 hk4
    generalize L.length + 2 = nx at *
    go_wp2
    go_loopw [19] (fun i wr => ∃ k : Nat, k ≤ 3 ∧ i = .int .i64 k ∧ Hid (Below w.heap.size w wr ∧ Row .u64 wr la nx Lx)) (fun i _ => 3 - (intOf i).toNat)
    case atStart => exact ⟨0, by omega, rfl, Lib.hid ⟨HB1.out, HROW.out⟩⟩
    case round =>
      clear HB1 HROW
      obtain ⟨k, hk, rfl, HI⟩ := hrel
      by_cases hlt : k < 3
      · obtain ⟨y, hcell⟩ : ∃ y, ∀ T, (wr.alloc (.cells #[.int .i64 (a4 / 2), .int .i64 (4294967295 - a4 % 3), .int .i64 a2] T)).cell? ⟨wr.heap.size, k, none⟩ = some (.int .i64 y) := ⟨_, fun T => three_at wr T _ _ _ k hlt⟩
        go_wp2_with fail
        refine (draw_both _ _ _ _ _ Lx _ (HI.out.2.below (Below.alloc1 _ _)) HWX.out (by omega)).mono ?_
        rintro e we ⟨r1, b1, hres, rfl, hbe⟩
        have HBE := Lib.hid (bthen (Below.alloc1 wr (.cells #[.int .i64 (a4 / 2), .int .i64 (4294967295 - a4 % 3), .int .i64 a2] 3)) hbe)
        have HRES := Lib.hid hres
        clear hbe hres
        go_wp2_with fail
        refine (refDraw_both _ _ _ _ _ Lx _ (HI.out.2.below HBE.out) (by omega)).mono ?_
        rintro e wc ⟨r1', b1', hres', rfl, rfl⟩
        obtain ⟨rfl, rfl⟩ := HRES.out.one hres'
        clear hres' HRES hcell
        go_wp2
        go_roundw
        case rel => exact ⟨k + 1, by omega, by go_num, Lib.hid ⟨bthen HI.out.1 HBE.out, HI.out.2.below HBE.out⟩⟩
        case measure => simp [intOf]; omega
      · go_wp2
        go_ret
        exact ⟨rfl, HI.out.1⟩
end KeyDraws
end Go.Proofs.Ytbfdggppjcaplaa
