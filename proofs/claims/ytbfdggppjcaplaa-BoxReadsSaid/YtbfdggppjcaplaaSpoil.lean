/- Contract of kerbsuitedata.Spoil: some bytes, of a length at most one more. -/
import Derived.Test.YtbfdggppjcaplaaAwake4
import Derived.Test.YtbfdggppjcaplaaAddRef
import Derived.StillTailTactics
namespace Go.Proofs.Ytbfdggppjcaplaa
open Go.RowKit
set_option linter.unusedVariables false

theorem own_at {w : World} {base : Nat} {T : TypeId} {v : Value} {n : Nat} {xs : List Value} (h : w.ownsRow base T 1 v n xs) (h0 : 0 < n) : ∃ g cap, v = .slice (some ⟨g, 0, none⟩) n cap ∧ base ≤ g ∧ n ≤ cap ∧ cap ≤ maxLen ∧ ∀ i, i < n → w.cell? ⟨g, i, none⟩ = xs[i]? ∧ w.frozen? ⟨g, i, none⟩ = false := by
  rcases h.2 with ⟨_, h2⟩ | ⟨g, cap, cur, hv, hg, hh, hn, hc, hs, ht⟩
  · omega
  · refine ⟨g, cap, hv, hg, hn, hc, fun i hi => ?_⟩
    rw [← ht]
    exact ⟨by simp [World.cell?, hh, hi], by simp [World.frozen?, hh]⟩
theorem own_takes {w : World} {base : Nat} {T : TypeId} {g cap n m : Nat} {xs : List Value} (h : w.ownsRow base T 1 (.slice (some ⟨g, 0, none⟩) n cap) n xs) (hm : m ≤ n) : w.ownsRow base T 1 (.slice (some ⟨g, 0, none⟩) m cap) m (xs.take m) := by
  have hx := h.1
  rcases h.2 with ⟨h1, h2⟩ | ⟨g', cap', cur, hv, hg, hh, hn, hc, hs, ht⟩
  · cases h1
  · injection hv with e1 e2 e3
    injection e1 with e1
    injection e1 with e1
    subst e1 e3
    refine ⟨by simp; omega, .inr ⟨g, cap, cur, rfl, hg, hh, by omega, hc, hs, ?_⟩⟩
    rw [← ht, List.take_take]
    congr 1
    omega
theorem own_set {w : World} {base : Nat} {T : TypeId} {g cap n i : Nat} {xs : List Value} (h : w.ownsRow base T 1 (.slice (some ⟨g, 0, none⟩) n cap) n xs) (hi : i < n) (u : Value) : (w.setCell ⟨g, i, none⟩ u).ownsRow base T 1 (.slice (some ⟨g, 0, none⟩) n cap) n (xs.set i u) := by
  have hx := h.1
  rcases h.2 with ⟨h1, h2⟩ | ⟨g', cap', cur, hv, hg, hh, hn, hc, hs, ht⟩
  · cases h1
  · injection hv with e1 e2 e3
    injection e1 with e1
    injection e1 with e1
    subst e1 e3
    refine ⟨by simpa using hx, .inr ⟨g, cap, cur.setIfInBounds i u, rfl, hg, ?_, hn, hc, by simpa using hs, ?_⟩⟩
    · simp only [World.setCell, Array.getElem?_modify, if_pos, hh]
      rfl
    · rw [← ht]
      simp [List.take_set]
theorem Src.none_of (w : World) (a : Addr) : Src w (some a) [] := .inr ⟨a, rfl, fun j u h => by simp at h⟩
theorem own_cut {w w3 : World} {T : TypeId} {v3 : Value} {zs : List Int} {len i m : Nat} (hl : zs.length = len) (hb : ∀ x ∈ zs, 0 ≤ x ∧ x ≤ 255) (hm : i + m ≤ len) {news : List Int} (ho : w3.ownsRow w.heap.size T 1 v3 (i + m) ((zs.map (Value.int .u8)).take i ++ news.map (Value.int .u8))) (hn : ∀ x ∈ news, x ∈ zs) (hB : Below w.heap.size w w3) :
    ∃ zs', Own .u8 T w w3 v3 zs' ∧ (∀ x ∈ zs', 0 ≤ x ∧ x ≤ 255) ∧ zs'.length ≤ zs.length + 1 := by
  have h1 := ho.1
  have hlen : (zs.take i ++ news).length = i + m := by simpa using h1
  refine ⟨zs.take i ++ news, ⟨?_, hB⟩, ?_, by omega⟩
  · rw [hlen, List.map_append, List.map_take]
    exact ho
  · intro x hx
    rcases List.mem_append.1 hx with hx | hx
    · exact hb x (List.mem_of_mem_take hx)
    · exact hb x (hn x hx)
def SpoilPost (zs : List Int) (w : World) (e : Ending) (w' : World) : Prop := ∃ v zs', e = .returned v ∧ Own .u8 5 w w' v zs' ∧ (∀ x ∈ zs', 0 ≤ x ∧ x ≤ 255) ∧ zs'.length ≤ zs.length + 1

set_option maxRecDepth 100000 in
set_option maxHeartbeats 4000000 in
theorem spoil_any (a : Option Addr) (len cap : Nat) (zs : List Int) (how : Int) (w : World) (hr : Row .u8 w a len zs) (hb : ∀ x ∈ zs, 0 ≤ x ∧ x ≤ 255) (hl : len ≤ 100000) (hn : a = none → len = 0 ∧ cap = 0) (h0 : 0 ≤ how) (h1 : how ≤ 65535) :
    Calls Try.prog 35 #[.slice a len cap, .int .u16 how] w (SpoilPost zs w) := by
  have HR := Lib.hid hr
  have HB := Lib.hid hb
  have HN := Lib.hid hn
  have HL := Lib.hid hr.1
  clear hr hb hn
  obtain ⟨i0, hi, hz0, hz1, hz2⟩ := info_parts info_u8
  have HI0 := Lib.hid (And.intro hi (And.intro hz0 (And.intro hz1 hz2)))
  clear hi hz0 hz1 hz2
  have HH0 : Hid (Owns w 5 (.slice (some ⟨w.heap.size, 0, none⟩) 0 0) 0 [] (w.alloc (.cells #[] 5))) := Lib.hid ⟨own_empty w 5, Below.alloc1 w _⟩
  have HSY : Hid (Src (w.alloc (.cells #[] 5)) a (zs.map (Value.int .u8))) := Lib.hid ((Src.of_row HR.out).below (Below.alloc1 w _))
  go_enter Try.func35, Try.ntmps35
  go_wp2_with (at_builtin; refine wpList_append_src _ rfl (.tmp 7) (.tmp 8) 32 rfl w.heap.size 5 i0 (.int .u8 0) 1 1 Try.underlying32 HI0.out.1 HI0.out.2.1 HI0.out.2.2.1 HI0.out.2.2.2 rfl (by decide) _ 0 _ rfl HH0.out.1 a len cap (zs.map (Value.int .u8)) rfl HN.out (by simpa using HL.out) HSY.out (oneCell_ints _ _) (by unfold maxLen; omega) (by omega) HH0.out.2.size ?_)
  intro v w1 hown1 hgrow1 hat1
  have H1 : Hid (Owns w 5 v len (zs.map (Value.int .u8)) w1) := Lib.hid (by have := HH0.out.more hown1 hgrow1; simpa using this)
  clear hown1 hgrow1 hat1 HH0 HSY HR HN
  by_cases hz : len = 0
  · subst hz
    obtain ⟨g, vcap, rfl⟩ := own_isv' H1.out.1
    go_wp2
    go_ret
    exact ⟨_, zs, rfl, ⟨by rw [HL.out]; exact H1.out.1, H1.out.2⟩, HB.out, by omega⟩
  obtain ⟨g, vcap, rfl, hg, hvc1, hvc2, hcell⟩ := own_at H1.out.1 (by omega)
  unfold maxLen at hvc2
  have hzb : ((len : Int) == 0) = false := by simp; omega
  obtain ⟨i, hidx, hil⟩ : ∃ i : Nat, (wrap64 (IntKind.u16.wrap (how.tdiv 8))).tmod (len : Int) = (i : Int) ∧ i < len := by
    have e1 : how.tdiv 8 = how / 8 := Int.tdiv_eq_ediv_of_nonneg h0
    rw [e1, IntWalk.u16_in _ (by omega), IntWalk.wrap64_in _ (by omega), Int.tmod_eq_emod_of_nonneg (by omega)]
    have a1 := Int.emod_nonneg (how / 8) (b := (len : Int)) (by omega)
    have a2 := Int.emod_lt_of_pos (how / 8) (b := (len : Int)) (by omega)
    exact ⟨(how / 8 % len).toNat, by omega, by omega⟩
  obtain ⟨x, hx, hxb⟩ : ∃ x, w1.cell? ⟨g, i, none⟩ = some (.int .u8 x) ∧ 0 ≤ x ∧ x ≤ 255 := by
    refine ⟨zs[i]'(by have := HL.out; omega), ?_, HB.out _ (List.getElem_mem _)⟩
    rw [(hcell i hil).1]
    simp [HL.out, hil]
  have hfz := (hcell i hil).2
  clear hcell
  have hm : how % 4 = 0 ∨ how % 4 = 1 ∨ how % 4 = 2 ∨ how % 4 = 3 := by omega
  rcases hm with hm | hm | hm | hm
  · go_upto_region 7 with fail
    try simp only [hidx]
    clear hidx
    go_wp2
    go_ret
    refine ⟨_, zs.set i (bits .xor .u8 x (2 ^ (how % 7).toNat % 256)), rfl, ⟨?_, H1.out.2.setCell hg _⟩, ?_, by simp⟩
    · have := own_set H1.out.1 hil (.int .u8 (bits .xor .u8 x (2 ^ (how % 7).toNat % 256)))
      rw [List.length_set, HL.out, List.map_set]
      exact this
    · intro n hn
      rcases List.mem_or_eq_of_mem_set hn with hn | hn
      · exact HB.out n hn
      · rw [hn]; exact bounds_u8 (wf_bits _ _ _ _)
  · go_upto_region 9 with fail
    clear hidx
    obtain ⟨j, hj⟩ : ∃ j : Nat, j = i + 1 := ⟨_, rfl⟩
    have hij : (i : Int) + 1 = (j : Int) := by omega
    have hi1 : IntKind.i64.wrap ((i : Int) + 1) = (j : Int) := by rw [IntWalk.i64_in _ (by omega)]; omega
    have hwj : IntKind.i64.wrap (j : Int) = (j : Int) := IntWalk.i64_in _ (by omega)
    have hj1 : i ≤ vcap := by omega
    have hj2 : j ≤ len := by omega
    have hj3 : j ≤ vcap := by omega
    have HJ := Lib.hid hj
    clear hj
    have HT : Hid (w1.drew.ownsRow w.heap.size 5 1 (.slice (some ⟨g, 0, none⟩) i vcap) i ((zs.map (Value.int .u8)).take i)) := Lib.hid (own_takes H1.out.1 (by omega))
    have HBD : Hid (Below w.heap.size w w1.drew) := Lib.hid H1.out.2.drew
    have HSZ : Hid (w.heap.size ≤ w1.drew.heap.size) := Lib.hid HBD.out.size
    by_cases hcc : vcap = j
    · obtain rfl : len = j := by omega
      subst hcc
      have hz0 : vcap - vcap = 0 := by omega
      have HM1 : Hid (i + 0 ≤ maxLen) := Lib.hid (by unfold maxLen; omega)
      have HM2 : Hid ((i + 0) * 1 ≤ 140737488355328) := Lib.hid (by omega)
      refine wp_region_still_tail 7 (by kernel_rfl) (by kernel_rfl) ?_
      simp only [List.take_succ_cons, List.take_zero, List.drop_succ_cons, List.drop_zero]
      repeat still_step
      refine wpStill_nil ?_
      change wpList _ _ _ _ _ w1.drew
      generalize w1.drew = wd at *
      go_wp2_with (at_builtin; refine wpList_append_src _ rfl (.tmp 38) (.tmp 42) 32 rfl w.heap.size 5 i0 (.int .u8 0) 1 1 Try.underlying32 HI0.out.1 HI0.out.2.1 HI0.out.2.2.1 HI0.out.2.2.2 rfl (by decide) _ i _ rfl HT.out (some ⟨g, 0, none⟩) 0 0 [] rfl (fun h => (Option.some_ne_none _ h).elim) rfl (Src.none_of _ _) (fun u hu => (List.not_mem_nil hu).elim) HM1.out HM2.out HSZ.out ?_)
      intro v3 w3 hown3 hgrow3 hat3
      have HO3 : Hid (∃ zs', Own .u8 5 w w3 v3 zs' ∧ (∀ x ∈ zs', 0 ≤ x ∧ x ≤ 255) ∧ zs'.length ≤ zs.length + 1) := Lib.hid (own_cut (i := i) HL.out HB.out (by have := HJ.out; omega) (news := []) (m := 0) (by simpa using hown3) (fun x hx => (List.not_mem_nil hx).elim) (HBD.out.grown hgrow3 HBD.out.size (fun q hq => (HT.out.lt q hq).1)))
      clear hown3 hgrow3 hat3 HT HBD HSZ HM1 HM2
      go_wp2
      go_ret
      obtain ⟨zs', h1, h2, h3⟩ := HO3.out
      exact ⟨_, zs', rfl, h1, h2, h3⟩
    · have HSD : Hid (Src w1.drew (some ⟨g, j, none⟩) ((zs.drop j).map (Value.int .u8))) := Lib.hid (by
        obtain ⟨a', cap', ha, h2, h3, h4, _⟩ := own_slice H1.out.1 (by unfold maxLen; omega)
        injection ha with e1 e2 e3
        subst e1
        have := Src.of_row (h4.drop j (by omega))
        rw [Nat.zero_add] at this
        exact this.below (Below.drewN1 w1 1 _))
      have HLD : Hid (((zs.drop j).map (Value.int .u8)).length = (len - j) * 1) := Lib.hid (by simp [HL.out])
      have HM1 : Hid (i + (len - j) ≤ maxLen) := Lib.hid (by unfold maxLen; omega)
      have HM2 : Hid ((i + (len - j)) * 1 ≤ 140737488355328) := Lib.hid (by omega)
      refine wp_region_still_tail 7 (by kernel_rfl) (by kernel_rfl) ?_
      simp only [List.take_succ_cons, List.take_zero, List.drop_succ_cons, List.drop_zero]
      repeat still_step
      refine wpStill_nil ?_
      change wpList _ _ _ _ _ w1.drew
      generalize w1.drew = wd at *
      go_wp2_with (at_builtin; refine wpList_append_src _ rfl (.tmp 38) (.tmp 42) 32 rfl w.heap.size 5 i0 (.int .u8 0) 1 1 Try.underlying32 HI0.out.1 HI0.out.2.1 HI0.out.2.2.1 HI0.out.2.2.2 rfl (by decide) _ i _ rfl HT.out (some ⟨g, j, none⟩) (len - j) (vcap - j) ((zs.drop j).map (Value.int .u8)) rfl (fun h => (Option.some_ne_none _ h).elim) HLD.out HSD.out (oneCell_ints _ _) HM1.out HM2.out HSZ.out ?_)
      intro v3 w3 hown3 hgrow3 hat3
      have HO3 : Hid (∃ zs', Own .u8 5 w w3 v3 zs' ∧ (∀ x ∈ zs', 0 ≤ x ∧ x ≤ 255) ∧ zs'.length ≤ zs.length + 1) := Lib.hid (own_cut (i := i) HL.out HB.out (by have := HJ.out; omega) (news := zs.drop j) (m := len - j) (by rw [List.map_drop]; exact hown3) (fun x hx => List.mem_of_mem_drop hx) (HBD.out.grown hgrow3 HBD.out.size (fun q hq => (HT.out.lt q hq).1)))
      clear hown3 hgrow3 hat3 HT HBD HSZ HM1 HM2
      go_wp2
      go_ret
      obtain ⟨zs', h1, h2, h3⟩ := HO3.out
      exact ⟨_, zs', rfl, h1, h2, h3⟩
  · have H1A : Hid (Owns w 5 (.slice (some ⟨g, 0, none⟩) len vcap) len (zs.map (Value.int .u8)) (w1.alloc (.cells #[.int .u8 (how % 256)] 5))) := Lib.hid (H1.out.alloc _)
    go_wp2_with (at_builtin; refine wpList_append_src _ rfl (.tmp 46) (.tmp 49) 32 rfl w.heap.size 5 i0 (.int .u8 0) 1 1 Try.underlying32 HI0.out.1 HI0.out.2.1 HI0.out.2.2.1 HI0.out.2.2.2 rfl (by decide) _ _ _ rfl H1A.out.1 (some ⟨w1.heap.size, 0, none⟩) 1 1 [.int .u8 (how % 256)] rfl (fun h => (Option.some_ne_none _ h).elim) rfl (Src.one _ _ _) (oneCell_ints .u8 [how % 256]) (by unfold maxLen; omega) (by omega) H1A.out.2.size ?_)
    intro v3 w3 hown3 hgrow3 hat3
    have H3 : Hid (Own .u8 5 w w3 v3 (zs ++ [how % 256])) := Lib.hid ⟨by have := hown3; rw [List.length_append, HL.out]; simpa using this, (H1A.out.more hown3 hgrow3).2⟩
    clear hown3 hgrow3 hat3 hidx
    go_wp2
    go_ret
    exact ⟨_, zs ++ [how % 256], rfl, H3.out, by intro n hn; rcases List.mem_append.1 hn with hn | hn; exact HB.out n hn; rw [List.mem_singleton.1 hn]; omega, by simp⟩
  · go_wp2
    go_ret
    exact ⟨_, zs, rfl, ⟨by rw [HL.out]; exact H1.out.1, H1.out.2⟩, HB.out, by omega⟩
end Go.Proofs.Ytbfdggppjcaplaa
