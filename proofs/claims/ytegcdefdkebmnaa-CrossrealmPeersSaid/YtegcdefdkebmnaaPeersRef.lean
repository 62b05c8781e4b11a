/- Contract of the reference's Peers. -/
import Derived.Test.YtegcdefdkebmnaaPeers
import Derived.Test.YtegcdefdkebmnaaCAdd
import Derived.Sort.Walk0
namespace Go.Proofs.Ytegcdefdkebmnaa
open Go.RowKit Go.Sort

set_option linter.unnecessarySimpa false
theorem ins_len {out : List (List UInt8)} {j n : Nat} {t : List UInt8} (h : out.length = n) (hj : j ≤ n) : (out.take j ++ t :: out.drop j).length = n + 1 := by
  rw [List.length_append, List.length_take, List.length_cons, List.length_drop]; omega
theorem one_str (s : ByteArray) : ∀ u ∈ [Value.string s], u.oneCell' = true := by
  intro u hu
  rw [List.mem_singleton.1 hu]; rfl
theorem one_strs (l : List (List UInt8)) : ∀ u ∈ l.map encStr, u.oneCell' = true := by
  intro u hu
  obtain ⟨x, _, rfl⟩ := List.mem_map.1 hu
  rfl
theorem encStr_bytes (s : ByteArray) : encStr s.toList = .string s := by
  rw [encStr, ByteArray.toList_eq]
theorem pins_own {out : List (List UInt8)} {j n m : Nat} {s : ByteArray} {X W : World} {v : Value} (hn : j + m = n) (h : W.ownsRow X.heap.size 9 1 v (0 + j + 1 + m) ([] ++ (out.take j).map encStr ++ [.string s] ++ (out.drop j).map encStr)) (hb : Below X.heap.size X W) :
    ∃ va vc, Hid (v = .slice va (n + 1) vc ∧ n + 1 ≤ vc ∧ vc ≤ 9223372036854775807 ∧ W.ownsRow X.heap.size 9 1 (.slice va (n + 1) vc) (n + 1) ((out.take j ++ s.toList :: out.drop j).map encStr) ∧ Below X.heap.size X W) := by
  have e : 0 + j + 1 + m = n + 1 := by omega
  rw [e] at h
  obtain ⟨va, vc, rfl, h1, h2⟩ := own_isz h
  unfold maxLen at h2
  refine ⟨va, vc, Lib.hid ⟨rfl, h1, by omega, ?_, hb⟩⟩
  rw [List.map_append, List.map_cons, encStr_bytes]
  simpa using h
theorem SRow.at {w : World} {base : Nat} {v : Value} {n : Nat} {ts : List (List UInt8)} {a : Option Addr} {cap : Nat} (h : w.ownsRow base 9 1 v n (ts.map encStr)) (hv : v = .slice a n cap) {i : Nat} (hi : i < n) :
    ∃ g y, a = some ⟨g, 0, none⟩ ∧ ts[i]? = some y ∧ w.cell? ⟨g, i, none⟩ = some (encStr y) := by
  have hl : ts.length = n := by have := h.1; simpa using this
  rcases h.2 with ⟨h1, h2⟩ | ⟨g, c, cur, h1, _⟩
  · omega
  · rw [hv] at h1
    injection h1 with h1
    subst h1
    have hc := World.ownsRow.cellAt (hv ▸ h) i (by omega)
    refine ⟨g, ts[i]'(by omega), rfl, List.getElem?_eq_getElem (by omega), ?_⟩
    rw [hc]
    simp [List.getElem?_eq_getElem (show i < ts.length by omega)]
theorem own_src {w : World} {base : Nat} {n g cap : Nat} {ts : List (List UInt8)} (h : w.ownsRow base 9 1 (.slice (some ⟨g, 0, none⟩) n cap) n (ts.map encStr)) (j : Nat) : Src w (some ⟨g, 0, none⟩) ((ts.take j).map encStr) ∧ Src w (some ⟨g, j, none⟩) ((ts.drop j).map encStr) := by
  have hl : ts.length = n := by have := h.1; simpa using this
  constructor
  · refine .inr ⟨_, rfl, fun i u hu => ?_⟩
    have hi : i < ((ts.take j).map encStr).length := (List.getElem?_eq_some_iff.1 hu).1
    simp at hi
    rw [Addr.add_plain, Nat.zero_add, World.ownsRow.cellAt h i (by omega), ← hu]
    have h5 : i < j := by omega
    simp [h5]
  · refine .inr ⟨_, rfl, fun i u hu => ?_⟩
    have hi : i < ((ts.drop j).map encStr).length := (List.getElem?_eq_some_iff.1 hu).1
    simp at hi
    rw [Addr.add_plain, World.ownsRow.cellAt h (j + i) (by omega), ← hu]
    simp [List.getElem?_drop]

theorem own_none {w : World} {base : Nat} {T : TypeId} {n c : Nat} {xs : List Value} (h : w.ownsRow base T 1 (.slice none n c) n xs) : n = 0 ∧ c = 0 := by
  rcases h.2 with ⟨h1, h2⟩ | ⟨g, cap, cur, h1, _⟩
  · injection h1 with _ _ h3; exact ⟨h2, h3⟩
  · injection h1 with h1; cases h1
theorem own_head {w : World} {base : Nat} {T : TypeId} {a : Option Addr} {n c : Nat} {xs : List Value} (h : w.ownsRow base T 1 (.slice a n c) n xs) (ha : ¬ a = none) : ∃ g, a = some ⟨g, 0, none⟩ := by
  rcases h.2 with ⟨h1, h2⟩ | ⟨g, cap, cur, h1, _⟩
  · injection h1 with h1; exact absurd h1 ha
  · injection h1 with h1; exact ⟨g, h1⟩

set_option maxRecDepth 100000 in
set_option maxHeartbeats 16000000 in
theorem refPeers_any (a : Option Addr) (len cap : Nat) (ms : List Ck) (f : ByteArray) (w : World) (hr : FRow w a len 4 (ccells ms)) (hl : len ≤ 1000000) :
    Calls Try.prog 38 #[.slice a len cap, .string f] w (PeersPost f ms w) := by
  have HR := Lib.hid hr
  have HL := Lib.hid hr.clen
  clear hr
  obtain ⟨i0, hi, hz0, hz1, hz2⟩ := info_parts info_str
  have HI0 := Lib.hid (And.intro hi (And.intro hz0 (And.intro hz1 hz2)))
  clear hi hz0 hz1 hz2
  go_enter Try.func38, Try.ntmps38
  go_wp2
  go_loopw [5, 6] (fun v i wr => ∃ (n k : Nat) (va : Option Addr) (vc : Nat), v = .slice va n vc ∧ i = .int .i64 k ∧ k ≤ len ∧ n ≤ k ∧ n ≤ vc ∧ vc ≤ 9223372036854775807 ∧ Hid (wr.ownsRow w.heap.size 9 1 (.slice va n vc) n ((peersOf f (ms.take k)).map encStr) ∧ (peersOf f (ms.take k)).length = n ∧ Below w.heap.size w wr)) (fun _ i _ => len - (intOf i).toNat)
  case atStart => exact ⟨0, 0, none, 0, rfl, rfl, by omega, by omega, by omega, by omega, Lib.hid ⟨World.ownsRow_nil _ _ _ _, rfl, Below.refl _ _⟩⟩
  case round =>
    obtain ⟨n, k, va, vc, rfl, rfl, hk, hnk, hv1, hv2, HI⟩ := hrel
    by_cases hlt : k < len
    · have hlt' : decide ((k : Int) < (len : Int)) = true := by simp; omega
      obtain ⟨b, off, x, rfl, hx, c0, c1, c2, c3⟩ := (HR.out.below HI.out.2.2).ck hlt
      have HX := Lib.hid hx
      have q1 : (0 : Int) ≤ (k : Int) := by omega
      have q2 : (k : Int) < (len : Int) := by omega
      clear hx c2 c3
      by_cases h1 : x.fr.toList = f.toList
      · have HPY := Lib.hid (peers_yes HX.out h1)
        obtain ⟨out, HOU⟩ : ∃ out, Hid (peersOf f (ms.take k) = out) := ⟨_, rfl⟩
        rw [HOU.out] at HPY HI
        have HOL := Lib.hid HI.out.2.1
        have h1e : (x.fr.toList == f.toList) = true := by simpa using h1
        clear h1
        go_wp2
        obtain ⟨wo, rfl⟩ : ∃ wo : World, wo = wr := ⟨_, rfl⟩
        go_loopw [7] (fun i wr => ∃ j : Nat, i = .int .i64 j ∧ j ≤ n ∧ Hid ((∀ i y, i < j → out[i]? = some y → y < x.to.toList) ∧ Below wo.heap.size wo wr)) (fun i _ => n - (intOf i).toNat)
        case atStart => exact ⟨0, rfl, by omega, Lib.hid ⟨fun i y hi => by omega, Below.refl _ _⟩⟩
        case round =>
          obtain ⟨j, rfl, hj, HJ⟩ := hrel
          have x1 := (HJ.out.2.cell (World.block_lt_of_cell? _ _ c1)).trans c1
          by_cases hjn : j < n
          · have hjn' : decide ((j : Int) < (n : Int)) = true := by simp; omega
            have hje : ((j : Int) == (n : Int)) = false := by simp; omega
            obtain ⟨g, y, rfl, hy, d0⟩ := SRow.at (ownsRow_below HI.out.1 HJ.out.2) rfl hjn
            have HY := Lib.hid hy
            obtain ⟨s, hs⟩ : ∃ s : ByteArray, encStr y = .string s ∧ s.toList = y := ⟨⟨y.toArray⟩, rfl, by rw [ByteArray.toList_eq]⟩
            rw [hs.1] at d0
            have HS := Lib.hid hs.2
            clear hs hy
            have r1 : (0 : Int) ≤ (j : Int) := by omega
            have r2 : (j : Int) < (n : Int) := by omega
            by_cases hl1 : y < x.to.toList
            · have hl1' : Op.bytesLess s.toList x.to.toList = true := by rw [bytesLess_eq, HS.out]; simpa using hl1
              go_wp2
              go_quiet (fail)
              go_wp2
              go_roundw
              case rel => exact ⟨j + 1, by go_num, by omega, Lib.hid ⟨fun i z hi hz => if e : i = j then by (rw [e, HY.out] at hz; cases hz; exact hl1) else HJ.out.1 i z (by omega) hz, bthen HJ.out.2 (Below.drewN1 _ _ _)⟩⟩
              case measure => simp [intOf]; omega
            · have hl1' : Op.bytesLess s.toList x.to.toList = false := by rw [bytesLess_eq, HS.out]; simpa using hl1
              by_cases he : y = x.to.toList
              · have he' : (s.toList == x.to.toList) = true := by rw [HS.out]; simpa using he
                have HPI : Hid (peersOf f (ms.take (k + 1)) = out) := Lib.hid (by rw [HPY.out]; exact insT_in HJ.out.1 (by rw [HY.out, he]))
                clear he hl1
                go_wp2
                go_quiet (fail)
                go_wp2
                go_quiet (fail)
                go_wp2
                go_roundw
                case rel => exact ⟨n, k + 1, _, vc, rfl, by go_num, by omega, by omega, hv1, hv2, Lib.hid (by rw [HPI.out]; exact ⟨ownsRow_below (ownsRow_below HI.out.1 HJ.out.2) (Below.drewN1 _ _ _), HOL.out, bthen (bthen HI.out.2.2 HJ.out.2) (Below.drewN1 _ _ _)⟩)⟩
                case measure => simp [intOf]; omega
              · have he' : (s.toList == x.to.toList) = false := by rw [HS.out]; simpa using he
                have HPI : Hid (peersOf f (ms.take (k + 1)) = out.take j ++ x.to.toList :: out.drop j) := Lib.hid (by rw [HPY.out]; exact insT_at (by have := HOL.out; omega) HJ.out.1 (fun z hz => by rw [HY.out] at hz; cases hz; exact hl1) (fun z hz => by rw [HY.out] at hz; cases hz; exact he))
                clear he hl1
                go_wp2
                go_quiet (fail)
                go_wp2
                go_quiet (fail)
                clear x1 d0
                go_wp2_with fail
                first | (obtain ⟨X, HXW, hXX⟩ : ∃ X, Hid (Below wr.heap.size wr X) ∧ X = World.drewN (World.drewN wr _) _ := ⟨_, Lib.hid (bthen (Below.drewN1 _ _ _) (Below.drewN1 _ _ _)), rfl⟩; rw [← hXX]) | (obtain ⟨X, HXW, hXX⟩ : ∃ X, Hid (Below wr.heap.size wr X) ∧ X = World.drewN wr _ := ⟨_, Lib.hid (Below.drewN1 _ _ _), rfl⟩; rw [← hXX])
                have HXB : Hid (Below w.heap.size w X) := Lib.hid (bthen (bthen HI.out.2.2 HJ.out.2) HXW.out)
                have HOX : Hid (X.ownsRow w.heap.size 9 1 (.slice (some ⟨g, 0, none⟩) n vc) n (out.map encStr)) := Lib.hid (ownsRow_below (ownsRow_below HI.out.1 HJ.out.2) HXW.out)
                have x1 : X.cell? ⟨b, off + k * 4 + 1, none⟩ = some (.string x.to) := (((bthen HJ.out.2 HXW.out)).cell (World.block_lt_of_cell? _ _ c1)).trans c1
                have hxl : b < X.heap.size := World.block_lt_of_cell? _ _ x1
                clear hXX HXW
                have HLT : Hid ((out.take j).length = j) := Lib.hid (by have := HOL.out; simp; omega)
                have HLD : Hid ((out.drop j).length = n - j) := Lib.hid (by have := HOL.out; simp; omega)
                have HST := Lib.hid (own_src HOX.out j).1
                have HSD := Lib.hid (own_src HOX.out j).2
                have p1 : (j : Int) ≤ (vc : Int) := by omega
                have p2 : (j : Int) ≤ (n : Int) := by omega
                have p3 : j ≤ vc := by omega
                have p4 : j ≤ n := by omega
                have p5 : ¬ vc = j := by omega
                have HWa : Hid (Below X.heap.size X ((X.alloc (.cells #[] 9))).drew) := Lib.hid (Below.alloc1 X (.cells #[] 9)).drew
                have HWb : Hid (Below X.heap.size X (((X.alloc (.cells #[] 9)).alloc (.cells #[.string x.to] 9))).drew) := Lib.hid (bthen (Below.alloc1 X (.cells #[] 9)) (Below.alloc1 _ (.cells #[.string x.to] 9))).drew
                have HWc : Hid (Below X.heap.size X (((X.alloc (.cells #[.string x.to] 9)).alloc (.cells #[] 9))).drew) := Lib.hid (bthen (Below.alloc1 X (.cells #[.string x.to] 9)) (Below.alloc1 _ (.cells #[] 9))).drew
                have HOa : Hid (((X.alloc (.cells #[] 9))).drew.ownsRow X.heap.size 9 1 (.slice (some ⟨X.heap.size, 0, none⟩) 0 0) 0 []) := Lib.hid (own_e0 X 9 1)
                have HOb : Hid ((((X.alloc (.cells #[] 9)).alloc (.cells #[.string x.to] 9))).drew.ownsRow X.heap.size 9 1 (.slice (some ⟨X.heap.size, 0, none⟩) 0 0) 0 []) := Lib.hid ((own_e0 X 9 1).alloc (.cells #[.string x.to] 9))
                have HOc : Hid ((((X.alloc (.cells #[.string x.to] 9)).alloc (.cells #[] 9))).drew.ownsRow X.heap.size 9 1 (.slice (some ⟨X.heap.size + 1, 0, none⟩) 0 0) 0 []) := Lib.hid (by have := ownsRow_base (base' := X.heap.size) (own_e0 (X.alloc (.cells #[.string x.to] 9)) 9 1) (by simp); simp at this; exact this)
                have HKb : Hid (Src (((X.alloc (.cells #[] 9)).alloc (.cells #[.string x.to] 9))).drew (some ⟨X.heap.size + 1, 0, none⟩) [.string x.to]) := Lib.hid (by have := Src.one (X.alloc (.cells #[] 9)) (.string x.to) 9; simp at this; exact this)
                have HKc : Hid (Src (((X.alloc (.cells #[.string x.to] 9)).alloc (.cells #[] 9))).drew (some ⟨X.heap.size, 0, none⟩) [.string x.to]) := Lib.hid (((Src.one X (.string x.to) 9).below (Below.alloc1 _ (.cells #[] 9))).below (Below.drewN1 _ 1 _))
                have HZ : Hid (∀ q, some X.heap.size = some q → X.heap.size ≤ q) := Lib.hid (fun q hq => by cases hq; exact Nat.le_refl _)
                have HZ2 : Hid (∀ q, some (X.heap.size + 1) = some q → X.heap.size ≤ q) := Lib.hid (fun q hq => by cases hq; omega)
                have HN1 : Hid (∀ y : Addr, some (⟨X.heap.size + 1, 0, none⟩ : Addr) = some y → some y.block ≠ some X.heap.size) := Lib.hid (fun y hy => by cases hy; simp)
                have HN2 : Hid (∀ y : Addr, some (⟨X.heap.size, 0, none⟩ : Addr) = some y → some y.block ≠ some (X.heap.size + 1)) := Lib.hid (fun y hy => by cases hy; simp)
                have HCX : Hid (∀ Y, Below X.heap.size X Y → Y.cell? ⟨b, off + k * 4 + 1, none⟩ = some (.string x.to)) := Lib.hid (fun Y hY => (hY.cell (World.block_lt_of_cell? _ _ x1)).trans x1)
                go_region_law ((first | (refine step_append_src _ (by rfl) (.tmp 55) (.tmp 58) 64 (by rfl) X.heap.size 9 i0 (.string ⟨#[]⟩) 1 16 Try.underlying64 HI0.out.1 HI0.out.2.1 HI0.out.2.2.1 HI0.out.2.2.2 rfl (by decide) _ 0 [] (by rfl) ?_ (some ⟨g, 0, none⟩) j vc ((out.take j).map encStr) (by rfl) (fun h => (Option.some_ne_none _ h).elim) ?_ ?_ (one_strs _) ?_ ?_ ?_ ?_; (focus (first | exact HOa.out | exact HOb.out | exact HOc.out)); (focus (simpa using HLT.out)); (focus (first | exact HST.out.below HWa.out | exact HST.out.below HWb.out | exact HST.out.below HWc.out)); (focus (unfold maxLen; omega)); (focus (omega)); (focus (first | exact HWa.out.size | exact HWb.out.size | exact HWc.out.size)); intro v1 w1 hown1 hgrow1 hat1; first | (have HB1 : Hid (Below X.heap.size X w1) := Lib.hid (HWa.out.grown hgrow1 HWa.out.size HZ.out); have z1 := HCX.out w1 HB1.out; have HO1 := Lib.hid hown1; clear hown1 hgrow1 hat1) | (have HB1 : Hid (Below X.heap.size X w1) := Lib.hid (HWb.out.grown hgrow1 HWb.out.size HZ.out); have HK1 : Hid (Src w1 (some ⟨X.heap.size + 1, 0, none⟩) [.string x.to]) := Lib.hid (HKb.out.far HN1.out hgrow1); have HO1 := Lib.hid hown1; clear hown1 hgrow1 hat1) | (have HB1 : Hid (Below X.heap.size X w1) := Lib.hid (HWc.out.grown hgrow1 HWc.out.size HZ2.out); have HK1 : Hid (Src w1 (some ⟨X.heap.size, 0, none⟩) [.string x.to]) := Lib.hid (HKc.out.far HN2.out hgrow1); have HO1 := Lib.hid hown1; clear hown1 hgrow1 hat1)) | (refine step_append_src _ (by rfl) (.tmp 66) (.tmp 69) 64 (by rfl) X.heap.size 9 i0 (.string ⟨#[]⟩) 1 16 Try.underlying64 HI0.out.1 HI0.out.2.1 HI0.out.2.2.1 HI0.out.2.2.2 rfl (by decide) v2 (0 + j + 1) ([] ++ (out.take j).map encStr ++ [.string x.to]) (by rfl) HO2.out (some ⟨g, j, none⟩) (n - j) (vc - j) ((out.drop j).map encStr) (by rfl) (fun h => (Option.some_ne_none _ h).elim) ?_ (HSD.out.below HB2.out) (one_strs _) ?_ ?_ HB2.out.size ?_; (focus (simpa using HLD.out)); (focus (unfold maxLen; omega)); (focus (omega)); intro v3 w3 hown3 hgrow3 hat3; obtain ⟨va3, vc3, HV⟩ : ∃ va vc, Hid (v3 = .slice va (n + 1) vc ∧ n + 1 ≤ vc ∧ vc ≤ 9223372036854775807 ∧ w3.ownsRow X.heap.size 9 1 (.slice va (n + 1) vc) (n + 1) ((out.take j ++ x.to.toList :: out.drop j).map encStr) ∧ Below X.heap.size X w3) := (by have hb3 := HB2.out.grown hgrow3 HB2.out.size (fun q hq => (HO2.out.lt q hq).1); exact pins_own (j := j) (n := n) (m := (n - j)) (by omega) hown3 hb3); clear hown3 hgrow3 hat3) | (refine step_append_src _ (by rfl) (.tmp 59) (.tmp 65) 64 (by rfl) X.heap.size 9 i0 (.string ⟨#[]⟩) 1 16 Try.underlying64 HI0.out.1 HI0.out.2.1 HI0.out.2.2.1 HI0.out.2.2.2 rfl (by decide) v1 (0 + j) ([] ++ (out.take j).map encStr) (by rfl) ?_ (some ⟨_, 0, none⟩) 1 1 [.string x.to] (by rfl) (fun h => (Option.some_ne_none _ h).elim) rfl ?_ (one_str x.to) ?_ ?_ ?_ ?_; (focus (first | exact HO1.out | exact HO1.out.alloc _)); (focus (first | exact HK1.out | exact Src.one w1 _ _)); (focus (unfold maxLen; omega)); (focus (omega)); (focus (first | exact HB1.out.size | exact (HB1.out.alloc HB1.out.size _).size)); intro v2 w2 hown2 hgrow2 hat2; first | (have HB2 : Hid (Below X.heap.size X w2) := Lib.hid (HB1.out.grown hgrow2 HB1.out.size (fun q hq => (HO1.out.lt q hq).1)); have HO2 := Lib.hid hown2; clear hown2 hgrow2 hat2) | (have HB2 : Hid (Below X.heap.size X w2) := Lib.hid ((HB1.out.alloc HB1.out.size (.cells #[.string x.to] 9)).grown hgrow2 (HB1.out.alloc HB1.out.size (.cells #[.string x.to] 9)).size (fun q hq => (HO1.out.lt q hq).1)); have HO2 := Lib.hid hown2; clear hown2 hgrow2 hat2))))
                all_goals
                  obtain ⟨e3, g1, g2, h3, h4⟩ := HV.out
                  subst e3
                  have HNX : Hid (w3.ownsRow w.heap.size 9 1 (.slice va3 (n + 1) vc3) (n + 1) ((peersOf f (ms.take (k + 1))).map encStr) ∧ (peersOf f (ms.take (k + 1))).length = n + 1 ∧ Below w.heap.size w w3) := Lib.hid (by rw [HPI.out]; exact ⟨ownsRow_base h3 HXB.out.size, ins_len HOL.out (by omega), bthen HXB.out h4⟩)
                  clear HV h3 h4
                  go_wp2
                  go_roundw
                  case rel => exact ⟨n + 1, k + 1, va3, vc3, rfl, by go_num, by omega, by omega, g1, g2, HNX⟩
                  case measure => simp [intOf]; omega
          · obtain rfl : n = j := by omega
            have hjn' : decide ((n : Int) < (n : Int)) = false := by simp
            have hje : ((n : Int) == (n : Int)) = true := by simp
            have HNG : Hid (∀ z, out[n]? = some z → False) := Lib.hid (fun z hz => by rw [List.getElem?_eq_none (by have := HOL.out; omega)] at hz; cases hz)
            have HPI : Hid (peersOf f (ms.take (k + 1)) = out.take n ++ x.to.toList :: out.drop n) := Lib.hid (by rw [HPY.out]; exact insT_at (by have := HOL.out; omega) HJ.out.1 (fun z hz => (HNG.out z hz).elim) (fun z hz => (HNG.out z hz).elim))
            go_wp2
            go_quiet (fail)
            go_wp2
            go_quiet (fail)
            by_cases hvn : va = none
            · subst hvn
              clear x1
              go_wp2_with fail
              first | (obtain ⟨X, HXW, hXX⟩ : ∃ X, Hid (Below wr.heap.size wr X) ∧ X = World.drewN (World.drewN wr _) _ := ⟨_, Lib.hid (bthen (Below.drewN1 _ _ _) (Below.drewN1 _ _ _)), rfl⟩; rw [← hXX]) | (obtain ⟨X, HXW, hXX⟩ : ∃ X, Hid (Below wr.heap.size wr X) ∧ X = World.drewN wr _ := ⟨_, Lib.hid (Below.drewN1 _ _ _), rfl⟩; rw [← hXX])
              have HXB : Hid (Below w.heap.size w X) := Lib.hid (bthen (bthen HI.out.2.2 HJ.out.2) HXW.out)
              have HOX : Hid (X.ownsRow w.heap.size 9 1 (.slice none n vc) n (out.map encStr)) := Lib.hid (ownsRow_below (ownsRow_below HI.out.1 HJ.out.2) HXW.out)
              have x1 : X.cell? ⟨b, off + k * 4 + 1, none⟩ = some (.string x.to) := (((bthen HJ.out.2 HXW.out)).cell (World.block_lt_of_cell? _ _ c1)).trans c1
              have hxl : b < X.heap.size := World.block_lt_of_cell? _ _ x1
              clear hXX HXW
              have HNV : Hid (n = 0 ∧ vc = 0) := Lib.hid (own_none HOX.out)
              obtain ⟨hn0, hv0⟩ := HNV.out
              subst hn0 hv0
              have HLT : Hid ((out.take 0).length = 0) := Lib.hid (by have := HOL.out; rw [List.length_take]; omega)
              have HDN : Hid (out.drop 0 = []) := Lib.hid (List.drop_of_length_le (by have := HOL.out; omega))
              have HLD : Hid ((out.drop 0).length = 0) := Lib.hid (congrArg List.length HDN.out)
              have HST : Hid (Src X none ((out.take 0).map encStr)) := Lib.hid (.inl ⟨rfl, rfl⟩)
              have HSD : Hid (Src X none ((out.drop 0).map encStr)) := Lib.hid (.inl ⟨rfl, congrArg (List.map encStr) HDN.out⟩)
              have HWa : Hid (Below X.heap.size X ((X.alloc (.cells #[] 9))).drew) := Lib.hid (Below.alloc1 X (.cells #[] 9)).drew
              have HWb : Hid (Below X.heap.size X (((X.alloc (.cells #[] 9)).alloc (.cells #[.string x.to] 9))).drew) := Lib.hid (bthen (Below.alloc1 X (.cells #[] 9)) (Below.alloc1 _ (.cells #[.string x.to] 9))).drew
              have HWc : Hid (Below X.heap.size X (((X.alloc (.cells #[.string x.to] 9)).alloc (.cells #[] 9))).drew) := Lib.hid (bthen (Below.alloc1 X (.cells #[.string x.to] 9)) (Below.alloc1 _ (.cells #[] 9))).drew
              have HOa : Hid (((X.alloc (.cells #[] 9))).drew.ownsRow X.heap.size 9 1 (.slice (some ⟨X.heap.size, 0, none⟩) 0 0) 0 []) := Lib.hid (own_e0 X 9 1)
              have HOb : Hid ((((X.alloc (.cells #[] 9)).alloc (.cells #[.string x.to] 9))).drew.ownsRow X.heap.size 9 1 (.slice (some ⟨X.heap.size, 0, none⟩) 0 0) 0 []) := Lib.hid ((own_e0 X 9 1).alloc (.cells #[.string x.to] 9))
              have HOc : Hid ((((X.alloc (.cells #[.string x.to] 9)).alloc (.cells #[] 9))).drew.ownsRow X.heap.size 9 1 (.slice (some ⟨X.heap.size + 1, 0, none⟩) 0 0) 0 []) := Lib.hid (by have := ownsRow_base (base' := X.heap.size) (own_e0 (X.alloc (.cells #[.string x.to] 9)) 9 1) (by simp); simp at this; exact this)
              have HKb : Hid (Src (((X.alloc (.cells #[] 9)).alloc (.cells #[.string x.to] 9))).drew (some ⟨X.heap.size + 1, 0, none⟩) [.string x.to]) := Lib.hid (by have := Src.one (X.alloc (.cells #[] 9)) (.string x.to) 9; simp at this; exact this)
              have HKc : Hid (Src (((X.alloc (.cells #[.string x.to] 9)).alloc (.cells #[] 9))).drew (some ⟨X.heap.size, 0, none⟩) [.string x.to]) := Lib.hid (((Src.one X (.string x.to) 9).below (Below.alloc1 _ (.cells #[] 9))).below (Below.drewN1 _ 1 _))
              have HZ : Hid (∀ q, some X.heap.size = some q → X.heap.size ≤ q) := Lib.hid (fun q hq => by cases hq; exact Nat.le_refl _)
              have HZ2 : Hid (∀ q, some (X.heap.size + 1) = some q → X.heap.size ≤ q) := Lib.hid (fun q hq => by cases hq; omega)
              have HN1 : Hid (∀ y : Addr, some (⟨X.heap.size + 1, 0, none⟩ : Addr) = some y → some y.block ≠ some X.heap.size) := Lib.hid (fun y hy => by cases hy; simp)
              have HN2 : Hid (∀ y : Addr, some (⟨X.heap.size, 0, none⟩ : Addr) = some y → some y.block ≠ some (X.heap.size + 1)) := Lib.hid (fun y hy => by cases hy; simp)
              have HCX : Hid (∀ Y, Below X.heap.size X Y → Y.cell? ⟨b, off + k * 4 + 1, none⟩ = some (.string x.to)) := Lib.hid (fun Y hY => (hY.cell (World.block_lt_of_cell? _ _ x1)).trans x1)
              go_region_law ((first | (refine step_append_src _ (by rfl) (.tmp 55) (.tmp 58) 64 (by rfl) X.heap.size 9 i0 (.string ⟨#[]⟩) 1 16 Try.underlying64 HI0.out.1 HI0.out.2.1 HI0.out.2.2.1 HI0.out.2.2.2 rfl (by decide) _ 0 [] (by rfl) ?_ none 0 0 ((out.take 0).map encStr) (by rfl) (fun _ => ⟨rfl, rfl⟩) ?_ ?_ (one_strs _) ?_ ?_ ?_ ?_; (focus (first | exact HOa.out | exact HOb.out | exact HOc.out)); (focus (simpa using HLT.out)); (focus (first | exact HST.out.below HWa.out | exact HST.out.below HWb.out | exact HST.out.below HWc.out)); (focus (unfold maxLen; omega)); (focus (omega)); (focus (first | exact HWa.out.size | exact HWb.out.size | exact HWc.out.size)); intro v1 w1 hown1 hgrow1 hat1; first | (have HB1 : Hid (Below X.heap.size X w1) := Lib.hid (HWa.out.grown hgrow1 HWa.out.size HZ.out); have z1 := HCX.out w1 HB1.out; have HO1 := Lib.hid hown1; clear hown1 hgrow1 hat1) | (have HB1 : Hid (Below X.heap.size X w1) := Lib.hid (HWb.out.grown hgrow1 HWb.out.size HZ.out); have HK1 : Hid (Src w1 (some ⟨X.heap.size + 1, 0, none⟩) [.string x.to]) := Lib.hid (HKb.out.far HN1.out hgrow1); have HO1 := Lib.hid hown1; clear hown1 hgrow1 hat1) | (have HB1 : Hid (Below X.heap.size X w1) := Lib.hid (HWc.out.grown hgrow1 HWc.out.size HZ2.out); have HK1 : Hid (Src w1 (some ⟨X.heap.size, 0, none⟩) [.string x.to]) := Lib.hid (HKc.out.far HN2.out hgrow1); have HO1 := Lib.hid hown1; clear hown1 hgrow1 hat1)) | (refine step_append_src _ (by rfl) (.tmp 66) (.tmp 69) 64 (by rfl) X.heap.size 9 i0 (.string ⟨#[]⟩) 1 16 Try.underlying64 HI0.out.1 HI0.out.2.1 HI0.out.2.2.1 HI0.out.2.2.2 rfl (by decide) v2 (0 + 0 + 1) ([] ++ (out.take 0).map encStr ++ [.string x.to]) (by rfl) HO2.out none 0 0 ((out.drop 0).map encStr) (by rfl) (fun _ => ⟨rfl, rfl⟩) ?_ (HSD.out.below HB2.out) (one_strs _) ?_ ?_ HB2.out.size ?_; (focus (simpa using HLD.out)); (focus (unfold maxLen; omega)); (focus (omega)); intro v3 w3 hown3 hgrow3 hat3; obtain ⟨va3, vc3, HV⟩ : ∃ va vc, Hid (v3 = .slice va (0 + 1) vc ∧ 0 + 1 ≤ vc ∧ vc ≤ 9223372036854775807 ∧ w3.ownsRow X.heap.size 9 1 (.slice va (0 + 1) vc) (0 + 1) ((out.take 0 ++ x.to.toList :: out.drop 0).map encStr) ∧ Below X.heap.size X w3) := (by have hb3 := HB2.out.grown hgrow3 HB2.out.size (fun q hq => (HO2.out.lt q hq).1); exact pins_own (j := 0) (n := 0) (m := 0) (by omega) hown3 hb3); clear hown3 hgrow3 hat3) | (refine step_append_src _ (by rfl) (.tmp 59) (.tmp 65) 64 (by rfl) X.heap.size 9 i0 (.string ⟨#[]⟩) 1 16 Try.underlying64 HI0.out.1 HI0.out.2.1 HI0.out.2.2.1 HI0.out.2.2.2 rfl (by decide) v1 (0 + 0) ([] ++ (out.take 0).map encStr) (by rfl) ?_ (some ⟨_, 0, none⟩) 1 1 [.string x.to] (by rfl) (fun h => (Option.some_ne_none _ h).elim) rfl ?_ (one_str x.to) ?_ ?_ ?_ ?_; (focus (first | exact HO1.out | exact HO1.out.alloc _)); (focus (first | exact HK1.out | exact Src.one w1 _ _)); (focus (unfold maxLen; omega)); (focus (omega)); (focus (first | exact HB1.out.size | exact (HB1.out.alloc HB1.out.size _).size)); intro v2 w2 hown2 hgrow2 hat2; first | (have HB2 : Hid (Below X.heap.size X w2) := Lib.hid (HB1.out.grown hgrow2 HB1.out.size (fun q hq => (HO1.out.lt q hq).1)); have HO2 := Lib.hid hown2; clear hown2 hgrow2 hat2) | (have HB2 : Hid (Below X.heap.size X w2) := Lib.hid ((HB1.out.alloc HB1.out.size (.cells #[.string x.to] 9)).grown hgrow2 (HB1.out.alloc HB1.out.size (.cells #[.string x.to] 9)).size (fun q hq => (HO1.out.lt q hq).1)); have HO2 := Lib.hid hown2; clear hown2 hgrow2 hat2))))
              all_goals
                obtain ⟨e3, g1, g2, h3, h4⟩ := HV.out
                subst e3
                have HNX : Hid (w3.ownsRow w.heap.size 9 1 (.slice va3 (0 + 1) vc3) (0 + 1) ((peersOf f (ms.take (k + 1))).map encStr) ∧ (peersOf f (ms.take (k + 1))).length = 0 + 1 ∧ Below w.heap.size w w3) := Lib.hid (by rw [HPI.out]; exact ⟨ownsRow_base h3 HXB.out.size, ins_len HOL.out (by omega), bthen HXB.out h4⟩)
                clear HV h3 h4
                go_wp2
                go_roundw
                case rel => exact ⟨0 + 1, k + 1, va3, vc3, rfl, by go_num, by omega, by omega, g1, g2, HNX⟩
                case measure => simp [intOf]; omega
            · obtain ⟨g, rfl⟩ : ∃ g, va = some ⟨g, 0, none⟩ := own_head HI.out.1 hvn
              clear hvn
              by_cases hcj : vc = n
              · obtain rfl : n = vc := hcj.symm
                clear x1
                go_wp2_with fail
                first | (obtain ⟨X, HXW, hXX⟩ : ∃ X, Hid (Below wr.heap.size wr X) ∧ X = World.drewN (World.drewN wr _) _ := ⟨_, Lib.hid (bthen (Below.drewN1 _ _ _) (Below.drewN1 _ _ _)), rfl⟩; rw [← hXX]) | (obtain ⟨X, HXW, hXX⟩ : ∃ X, Hid (Below wr.heap.size wr X) ∧ X = World.drewN wr _ := ⟨_, Lib.hid (Below.drewN1 _ _ _), rfl⟩; rw [← hXX])
                have HXB : Hid (Below w.heap.size w X) := Lib.hid (bthen (bthen HI.out.2.2 HJ.out.2) HXW.out)
                have HOX : Hid (X.ownsRow w.heap.size 9 1 (.slice (some ⟨g, 0, none⟩) n n) n (out.map encStr)) := Lib.hid (ownsRow_below (ownsRow_below HI.out.1 HJ.out.2) HXW.out)
                have x1 : X.cell? ⟨b, off + k * 4 + 1, none⟩ = some (.string x.to) := (((bthen HJ.out.2 HXW.out)).cell (World.block_lt_of_cell? _ _ c1)).trans c1
                have hxl : b < X.heap.size := World.block_lt_of_cell? _ _ x1
                clear hXX HXW
                have HLT : Hid ((out.take n).length = n) := Lib.hid (by have := HOL.out; rw [List.length_take]; omega)
                have HDN : Hid (out.drop n = []) := Lib.hid (List.drop_of_length_le (by have := HOL.out; omega))
                have HLD : Hid ((out.drop n).length = 0) := Lib.hid (congrArg List.length HDN.out)
                have HST := Lib.hid (own_src HOX.out n).1
                have HSD : Hid (Src X (some ⟨g, 0, none⟩) ((out.drop n).map encStr)) := Lib.hid (.inr ⟨_, rfl, by rw [HDN.out]; intro j u hu; simp at hu⟩)
                have HWa : Hid (Below X.heap.size X ((X.alloc (.cells #[] 9))).drew) := Lib.hid (Below.alloc1 X (.cells #[] 9)).drew
                have HWb : Hid (Below X.heap.size X (((X.alloc (.cells #[] 9)).alloc (.cells #[.string x.to] 9))).drew) := Lib.hid (bthen (Below.alloc1 X (.cells #[] 9)) (Below.alloc1 _ (.cells #[.string x.to] 9))).drew
                have HWc : Hid (Below X.heap.size X (((X.alloc (.cells #[.string x.to] 9)).alloc (.cells #[] 9))).drew) := Lib.hid (bthen (Below.alloc1 X (.cells #[.string x.to] 9)) (Below.alloc1 _ (.cells #[] 9))).drew
                have HOa : Hid (((X.alloc (.cells #[] 9))).drew.ownsRow X.heap.size 9 1 (.slice (some ⟨X.heap.size, 0, none⟩) 0 0) 0 []) := Lib.hid (own_e0 X 9 1)
                have HOb : Hid ((((X.alloc (.cells #[] 9)).alloc (.cells #[.string x.to] 9))).drew.ownsRow X.heap.size 9 1 (.slice (some ⟨X.heap.size, 0, none⟩) 0 0) 0 []) := Lib.hid ((own_e0 X 9 1).alloc (.cells #[.string x.to] 9))
                have HOc : Hid ((((X.alloc (.cells #[.string x.to] 9)).alloc (.cells #[] 9))).drew.ownsRow X.heap.size 9 1 (.slice (some ⟨X.heap.size + 1, 0, none⟩) 0 0) 0 []) := Lib.hid (by have := ownsRow_base (base' := X.heap.size) (own_e0 (X.alloc (.cells #[.string x.to] 9)) 9 1) (by simp); simp at this; exact this)
                have HKb : Hid (Src (((X.alloc (.cells #[] 9)).alloc (.cells #[.string x.to] 9))).drew (some ⟨X.heap.size + 1, 0, none⟩) [.string x.to]) := Lib.hid (by have := Src.one (X.alloc (.cells #[] 9)) (.string x.to) 9; simp at this; exact this)
                have HKc : Hid (Src (((X.alloc (.cells #[.string x.to] 9)).alloc (.cells #[] 9))).drew (some ⟨X.heap.size, 0, none⟩) [.string x.to]) := Lib.hid (((Src.one X (.string x.to) 9).below (Below.alloc1 _ (.cells #[] 9))).below (Below.drewN1 _ 1 _))
                have HZ : Hid (∀ q, some X.heap.size = some q → X.heap.size ≤ q) := Lib.hid (fun q hq => by cases hq; exact Nat.le_refl _)
                have HZ2 : Hid (∀ q, some (X.heap.size + 1) = some q → X.heap.size ≤ q) := Lib.hid (fun q hq => by cases hq; omega)
                have HN1 : Hid (∀ y : Addr, some (⟨X.heap.size + 1, 0, none⟩ : Addr) = some y → some y.block ≠ some X.heap.size) := Lib.hid (fun y hy => by cases hy; simp)
                have HN2 : Hid (∀ y : Addr, some (⟨X.heap.size, 0, none⟩ : Addr) = some y → some y.block ≠ some (X.heap.size + 1)) := Lib.hid (fun y hy => by cases hy; simp)
                have HCX : Hid (∀ Y, Below X.heap.size X Y → Y.cell? ⟨b, off + k * 4 + 1, none⟩ = some (.string x.to)) := Lib.hid (fun Y hY => (hY.cell (World.block_lt_of_cell? _ _ x1)).trans x1)
                go_region_law ((first | (refine step_append_src _ (by rfl) (.tmp 55) (.tmp 58) 64 (by rfl) X.heap.size 9 i0 (.string ⟨#[]⟩) 1 16 Try.underlying64 HI0.out.1 HI0.out.2.1 HI0.out.2.2.1 HI0.out.2.2.2 rfl (by decide) _ 0 [] (by rfl) ?_ (some ⟨g, 0, none⟩) n n ((out.take n).map encStr) (by rfl) (fun h => (Option.some_ne_none _ h).elim) ?_ ?_ (one_strs _) ?_ ?_ ?_ ?_; (focus (first | exact HOa.out | exact HOb.out | exact HOc.out)); (focus (simpa using HLT.out)); (focus (first | exact HST.out.below HWa.out | exact HST.out.below HWb.out | exact HST.out.below HWc.out)); (focus (unfold maxLen; omega)); (focus (omega)); (focus (first | exact HWa.out.size | exact HWb.out.size | exact HWc.out.size)); intro v1 w1 hown1 hgrow1 hat1; first | (have HB1 : Hid (Below X.heap.size X w1) := Lib.hid (HWa.out.grown hgrow1 HWa.out.size HZ.out); have z1 := HCX.out w1 HB1.out; have HO1 := Lib.hid hown1; clear hown1 hgrow1 hat1) | (have HB1 : Hid (Below X.heap.size X w1) := Lib.hid (HWb.out.grown hgrow1 HWb.out.size HZ.out); have HK1 : Hid (Src w1 (some ⟨X.heap.size + 1, 0, none⟩) [.string x.to]) := Lib.hid (HKb.out.far HN1.out hgrow1); have HO1 := Lib.hid hown1; clear hown1 hgrow1 hat1) | (have HB1 : Hid (Below X.heap.size X w1) := Lib.hid (HWc.out.grown hgrow1 HWc.out.size HZ2.out); have HK1 : Hid (Src w1 (some ⟨X.heap.size, 0, none⟩) [.string x.to]) := Lib.hid (HKc.out.far HN2.out hgrow1); have HO1 := Lib.hid hown1; clear hown1 hgrow1 hat1)) | (refine step_append_src _ (by rfl) (.tmp 66) (.tmp 69) 64 (by rfl) X.heap.size 9 i0 (.string ⟨#[]⟩) 1 16 Try.underlying64 HI0.out.1 HI0.out.2.1 HI0.out.2.2.1 HI0.out.2.2.2 rfl (by decide) v2 (0 + n + 1) ([] ++ (out.take n).map encStr ++ [.string x.to]) (by rfl) HO2.out (some ⟨g, 0, none⟩) 0 0 ((out.drop n).map encStr) (by rfl) (fun h => (Option.some_ne_none _ h).elim) ?_ (HSD.out.below HB2.out) (one_strs _) ?_ ?_ HB2.out.size ?_; (focus (simpa using HLD.out)); (focus (unfold maxLen; omega)); (focus (omega)); intro v3 w3 hown3 hgrow3 hat3; obtain ⟨va3, vc3, HV⟩ : ∃ va vc, Hid (v3 = .slice va (n + 1) vc ∧ n + 1 ≤ vc ∧ vc ≤ 9223372036854775807 ∧ w3.ownsRow X.heap.size 9 1 (.slice va (n + 1) vc) (n + 1) ((out.take n ++ x.to.toList :: out.drop n).map encStr) ∧ Below X.heap.size X w3) := (by have hb3 := HB2.out.grown hgrow3 HB2.out.size (fun q hq => (HO2.out.lt q hq).1); exact pins_own (j := n) (n := n) (m := 0) (by omega) hown3 hb3); clear hown3 hgrow3 hat3) | (refine step_append_src _ (by rfl) (.tmp 59) (.tmp 65) 64 (by rfl) X.heap.size 9 i0 (.string ⟨#[]⟩) 1 16 Try.underlying64 HI0.out.1 HI0.out.2.1 HI0.out.2.2.1 HI0.out.2.2.2 rfl (by decide) v1 (0 + n) ([] ++ (out.take n).map encStr) (by rfl) ?_ (some ⟨_, 0, none⟩) 1 1 [.string x.to] (by rfl) (fun h => (Option.some_ne_none _ h).elim) rfl ?_ (one_str x.to) ?_ ?_ ?_ ?_; (focus (first | exact HO1.out | exact HO1.out.alloc _)); (focus (first | exact HK1.out | exact Src.one w1 _ _)); (focus (unfold maxLen; omega)); (focus (omega)); (focus (first | exact HB1.out.size | exact (HB1.out.alloc HB1.out.size _).size)); intro v2 w2 hown2 hgrow2 hat2; first | (have HB2 : Hid (Below X.heap.size X w2) := Lib.hid (HB1.out.grown hgrow2 HB1.out.size (fun q hq => (HO1.out.lt q hq).1)); have HO2 := Lib.hid hown2; clear hown2 hgrow2 hat2) | (have HB2 : Hid (Below X.heap.size X w2) := Lib.hid ((HB1.out.alloc HB1.out.size (.cells #[.string x.to] 9)).grown hgrow2 (HB1.out.alloc HB1.out.size (.cells #[.string x.to] 9)).size (fun q hq => (HO1.out.lt q hq).1)); have HO2 := Lib.hid hown2; clear hown2 hgrow2 hat2))))
                all_goals
                  obtain ⟨e3, g1, g2, h3, h4⟩ := HV.out
                  subst e3
                  have HNX : Hid (w3.ownsRow w.heap.size 9 1 (.slice va3 (n + 1) vc3) (n + 1) ((peersOf f (ms.take (k + 1))).map encStr) ∧ (peersOf f (ms.take (k + 1))).length = n + 1 ∧ Below w.heap.size w w3) := Lib.hid (by rw [HPI.out]; exact ⟨ownsRow_base h3 HXB.out.size, ins_len HOL.out (by omega), bthen HXB.out h4⟩)
                  clear HV h3 h4
                  go_wp2
                  go_roundw
                  case rel => exact ⟨n + 1, k + 1, va3, vc3, rfl, by go_num, by omega, by omega, g1, g2, HNX⟩
                  case measure => simp [intOf]; omega
              · clear x1
                go_wp2_with fail
                first | (obtain ⟨X, HXW, hXX⟩ : ∃ X, Hid (Below wr.heap.size wr X) ∧ X = World.drewN (World.drewN wr _) _ := ⟨_, Lib.hid (bthen (Below.drewN1 _ _ _) (Below.drewN1 _ _ _)), rfl⟩; rw [← hXX]) | (obtain ⟨X, HXW, hXX⟩ : ∃ X, Hid (Below wr.heap.size wr X) ∧ X = World.drewN wr _ := ⟨_, Lib.hid (Below.drewN1 _ _ _), rfl⟩; rw [← hXX])
                have HXB : Hid (Below w.heap.size w X) := Lib.hid (bthen (bthen HI.out.2.2 HJ.out.2) HXW.out)
                have HOX : Hid (X.ownsRow w.heap.size 9 1 (.slice (some ⟨g, 0, none⟩) n vc) n (out.map encStr)) := Lib.hid (ownsRow_below (ownsRow_below HI.out.1 HJ.out.2) HXW.out)
                have x1 : X.cell? ⟨b, off + k * 4 + 1, none⟩ = some (.string x.to) := (((bthen HJ.out.2 HXW.out)).cell (World.block_lt_of_cell? _ _ c1)).trans c1
                have hxl : b < X.heap.size := World.block_lt_of_cell? _ _ x1
                clear hXX HXW
                have p1 : (n : Int) ≤ (vc : Int) := by omega
                have p3 : n ≤ vc := by omega
                have p5 : ¬ vc = n := hcj
                have HLT : Hid ((out.take n).length = n) := Lib.hid (by have := HOL.out; rw [List.length_take]; omega)
                have HDN : Hid (out.drop n = []) := Lib.hid (List.drop_of_length_le (by have := HOL.out; omega))
                have HLD : Hid ((out.drop n).length = 0) := Lib.hid (congrArg List.length HDN.out)
                have HST := Lib.hid (own_src HOX.out n).1
                have HSD := Lib.hid (own_src HOX.out n).2
                have HWa : Hid (Below X.heap.size X ((X.alloc (.cells #[] 9))).drew) := Lib.hid (Below.alloc1 X (.cells #[] 9)).drew
                have HWb : Hid (Below X.heap.size X (((X.alloc (.cells #[] 9)).alloc (.cells #[.string x.to] 9))).drew) := Lib.hid (bthen (Below.alloc1 X (.cells #[] 9)) (Below.alloc1 _ (.cells #[.string x.to] 9))).drew
                have HWc : Hid (Below X.heap.size X (((X.alloc (.cells #[.string x.to] 9)).alloc (.cells #[] 9))).drew) := Lib.hid (bthen (Below.alloc1 X (.cells #[.string x.to] 9)) (Below.alloc1 _ (.cells #[] 9))).drew
                have HOa : Hid (((X.alloc (.cells #[] 9))).drew.ownsRow X.heap.size 9 1 (.slice (some ⟨X.heap.size, 0, none⟩) 0 0) 0 []) := Lib.hid (own_e0 X 9 1)
                have HOb : Hid ((((X.alloc (.cells #[] 9)).alloc (.cells #[.string x.to] 9))).drew.ownsRow X.heap.size 9 1 (.slice (some ⟨X.heap.size, 0, none⟩) 0 0) 0 []) := Lib.hid ((own_e0 X 9 1).alloc (.cells #[.string x.to] 9))
                have HOc : Hid ((((X.alloc (.cells #[.string x.to] 9)).alloc (.cells #[] 9))).drew.ownsRow X.heap.size 9 1 (.slice (some ⟨X.heap.size + 1, 0, none⟩) 0 0) 0 []) := Lib.hid (by have := ownsRow_base (base' := X.heap.size) (own_e0 (X.alloc (.cells #[.string x.to] 9)) 9 1) (by simp); simp at this; exact this)
                have HKb : Hid (Src (((X.alloc (.cells #[] 9)).alloc (.cells #[.string x.to] 9))).drew (some ⟨X.heap.size + 1, 0, none⟩) [.string x.to]) := Lib.hid (by have := Src.one (X.alloc (.cells #[] 9)) (.string x.to) 9; simp at this; exact this)
                have HKc : Hid (Src (((X.alloc (.cells #[.string x.to] 9)).alloc (.cells #[] 9))).drew (some ⟨X.heap.size, 0, none⟩) [.string x.to]) := Lib.hid (((Src.one X (.string x.to) 9).below (Below.alloc1 _ (.cells #[] 9))).below (Below.drewN1 _ 1 _))
                have HZ : Hid (∀ q, some X.heap.size = some q → X.heap.size ≤ q) := Lib.hid (fun q hq => by cases hq; exact Nat.le_refl _)
                have HZ2 : Hid (∀ q, some (X.heap.size + 1) = some q → X.heap.size ≤ q) := Lib.hid (fun q hq => by cases hq; omega)
                have HN1 : Hid (∀ y : Addr, some (⟨X.heap.size + 1, 0, none⟩ : Addr) = some y → some y.block ≠ some X.heap.size) := Lib.hid (fun y hy => by cases hy; simp)
                have HN2 : Hid (∀ y : Addr, some (⟨X.heap.size, 0, none⟩ : Addr) = some y → some y.block ≠ some (X.heap.size + 1)) := Lib.hid (fun y hy => by cases hy; simp)
                have HCX : Hid (∀ Y, Below X.heap.size X Y → Y.cell? ⟨b, off + k * 4 + 1, none⟩ = some (.string x.to)) := Lib.hid (fun Y hY => (hY.cell (World.block_lt_of_cell? _ _ x1)).trans x1)
                go_region_law ((first | (refine step_append_src _ (by rfl) (.tmp 55) (.tmp 58) 64 (by rfl) X.heap.size 9 i0 (.string ⟨#[]⟩) 1 16 Try.underlying64 HI0.out.1 HI0.out.2.1 HI0.out.2.2.1 HI0.out.2.2.2 rfl (by decide) _ 0 [] (by rfl) ?_ (some ⟨g, 0, none⟩) n vc ((out.take n).map encStr) (by rfl) (fun h => (Option.some_ne_none _ h).elim) ?_ ?_ (one_strs _) ?_ ?_ ?_ ?_; (focus (first | exact HOa.out | exact HOb.out | exact HOc.out)); (focus (simpa using HLT.out)); (focus (first | exact HST.out.below HWa.out | exact HST.out.below HWb.out | exact HST.out.below HWc.out)); (focus (unfold maxLen; omega)); (focus (omega)); (focus (first | exact HWa.out.size | exact HWb.out.size | exact HWc.out.size)); intro v1 w1 hown1 hgrow1 hat1; first | (have HB1 : Hid (Below X.heap.size X w1) := Lib.hid (HWa.out.grown hgrow1 HWa.out.size HZ.out); have z1 := HCX.out w1 HB1.out; have HO1 := Lib.hid hown1; clear hown1 hgrow1 hat1) | (have HB1 : Hid (Below X.heap.size X w1) := Lib.hid (HWb.out.grown hgrow1 HWb.out.size HZ.out); have HK1 : Hid (Src w1 (some ⟨X.heap.size + 1, 0, none⟩) [.string x.to]) := Lib.hid (HKb.out.far HN1.out hgrow1); have HO1 := Lib.hid hown1; clear hown1 hgrow1 hat1) | (have HB1 : Hid (Below X.heap.size X w1) := Lib.hid (HWc.out.grown hgrow1 HWc.out.size HZ2.out); have HK1 : Hid (Src w1 (some ⟨X.heap.size, 0, none⟩) [.string x.to]) := Lib.hid (HKc.out.far HN2.out hgrow1); have HO1 := Lib.hid hown1; clear hown1 hgrow1 hat1)) | (refine step_append_src _ (by rfl) (.tmp 66) (.tmp 69) 64 (by rfl) X.heap.size 9 i0 (.string ⟨#[]⟩) 1 16 Try.underlying64 HI0.out.1 HI0.out.2.1 HI0.out.2.2.1 HI0.out.2.2.2 rfl (by decide) v2 (0 + n + 1) ([] ++ (out.take n).map encStr ++ [.string x.to]) (by rfl) HO2.out (some ⟨g, n, none⟩) 0 (vc - n) ((out.drop n).map encStr) (by rfl) (fun h => (Option.some_ne_none _ h).elim) ?_ (HSD.out.below HB2.out) (one_strs _) ?_ ?_ HB2.out.size ?_; (focus (simpa using HLD.out)); (focus (unfold maxLen; omega)); (focus (omega)); intro v3 w3 hown3 hgrow3 hat3; obtain ⟨va3, vc3, HV⟩ : ∃ va vc, Hid (v3 = .slice va (n + 1) vc ∧ n + 1 ≤ vc ∧ vc ≤ 9223372036854775807 ∧ w3.ownsRow X.heap.size 9 1 (.slice va (n + 1) vc) (n + 1) ((out.take n ++ x.to.toList :: out.drop n).map encStr) ∧ Below X.heap.size X w3) := (by have hb3 := HB2.out.grown hgrow3 HB2.out.size (fun q hq => (HO2.out.lt q hq).1); exact pins_own (j := n) (n := n) (m := 0) (by omega) hown3 hb3); clear hown3 hgrow3 hat3) | (refine step_append_src _ (by rfl) (.tmp 59) (.tmp 65) 64 (by rfl) X.heap.size 9 i0 (.string ⟨#[]⟩) 1 16 Try.underlying64 HI0.out.1 HI0.out.2.1 HI0.out.2.2.1 HI0.out.2.2.2 rfl (by decide) v1 (0 + n) ([] ++ (out.take n).map encStr) (by rfl) ?_ (some ⟨_, 0, none⟩) 1 1 [.string x.to] (by rfl) (fun h => (Option.some_ne_none _ h).elim) rfl ?_ (one_str x.to) ?_ ?_ ?_ ?_; (focus (first | exact HO1.out | exact HO1.out.alloc _)); (focus (first | exact HK1.out | exact Src.one w1 _ _)); (focus (unfold maxLen; omega)); (focus (omega)); (focus (first | exact HB1.out.size | exact (HB1.out.alloc HB1.out.size _).size)); intro v2 w2 hown2 hgrow2 hat2; first | (have HB2 : Hid (Below X.heap.size X w2) := Lib.hid (HB1.out.grown hgrow2 HB1.out.size (fun q hq => (HO1.out.lt q hq).1)); have HO2 := Lib.hid hown2; clear hown2 hgrow2 hat2) | (have HB2 : Hid (Below X.heap.size X w2) := Lib.hid ((HB1.out.alloc HB1.out.size (.cells #[.string x.to] 9)).grown hgrow2 (HB1.out.alloc HB1.out.size (.cells #[.string x.to] 9)).size (fun q hq => (HO1.out.lt q hq).1)); have HO2 := Lib.hid hown2; clear hown2 hgrow2 hat2))))
                all_goals
                  obtain ⟨e3, g1, g2, h3, h4⟩ := HV.out
                  subst e3
                  have HNX : Hid (w3.ownsRow w.heap.size 9 1 (.slice va3 (n + 1) vc3) (n + 1) ((peersOf f (ms.take (k + 1))).map encStr) ∧ (peersOf f (ms.take (k + 1))).length = n + 1 ∧ Below w.heap.size w w3) := Lib.hid (by rw [HPI.out]; exact ⟨ownsRow_base h3 HXB.out.size, ins_len HOL.out (by omega), bthen HXB.out h4⟩)
                  clear HV h3 h4
                  go_wp2
                  go_roundw
                  case rel => exact ⟨n + 1, k + 1, va3, vc3, rfl, by go_num, by omega, by omega, g1, g2, HNX⟩
                  case measure => simp [intOf]; omega
      · have HPN := Lib.hid (peers_no HX.out h1)
        have h1e : (x.fr.toList == f.toList) = false := by simpa using h1
        go_wp2
        go_roundw
        case rel => exact ⟨n, k + 1, va, vc, rfl, by go_num, by omega, by omega, hv1, hv2, Lib.hid (by rw [HPN.out]; exact HI.out)⟩
        case measure => simp [intOf]; omega
    · have HFN : Hid (ms.take k = ms) := Lib.hid (List.take_of_length_le (by have := HL.out; omega))
      have HFI : Hid (PeersPost f ms w (.returned (.slice va n vc)) wr) := Lib.hid (by have h := HI.out; rw [HFN.out] at h; exact ⟨_, rfl, by rw [SRow, h.2.1]; exact h.1, h.2.2⟩)
      go_wp2
      go_ret
      exact HFI.out
end Go.Proofs.Ytegcdefdkebmnaa
