/- Contract of kerbsuitedata.GoodCross: a list without errors. -/
import Derived.Test.YtegcdefdkebmnaaCData
namespace Go.Proofs.Ytegcdefdkebmnaa
open Go.RowKit

def okTo (x : Ck) (os : List Ck) : Bool := !(x.fr.toList == x.to.toList) && !(srB x.fr x.to x.kv os)
theorem srB_snoc {f t : ByteArray} {v : Int} {l : List Ck} {k : Nat} {y : Ck} (hy : l[k]? = some y) : srB f t v (l.take (k + 1)) = (srB f t v (l.take k) || ckB f t v y) := by
  obtain ⟨hk, rfl⟩ := List.getElem?_eq_some_iff.1 hy
  rw [List.take_succ_eq_append_getElem hk, srB, List.findIdx?_append, srB]
  cases h : (l.take k).findIdx? (ckB f t v) with
  | some i => simp
  | none => cases hc : ckB f t v l[k] <;> simp [List.findIdx?_cons, hc]
theorem okTo_snoc {x : Ck} {l : List Ck} {k : Nat} {y : Ck} (hy : l[k]? = some y) : okTo x (l.take (k + 1)) = (okTo x (l.take k) && !ckB x.fr x.to x.kv y) := by
  rw [okTo, srB_snoc hy, okTo]
  cases (x.fr.toList == x.to.toList) <;> cases srB x.fr x.to x.kv (l.take k) <;> cases ckB x.fr x.to x.kv y <;> rfl
theorem okTo_zero {x : Ck} {l : List Ck} {b : Bool} (h : (x.fr.toList == x.to.toList) = b) : okTo x (l.take 0) = !b := by
  rw [okTo, h]; simp [srB]
def ValidL (os : List Ck) : Prop := (∀ m ∈ os, goodCk m ∧ (m.fr.toList == m.to.toList) = false) ∧ ∀ i x, os[i]? = some x → srB x.fr x.to x.kv (os.take i) = false
theorem ValidL.nil : ValidL [] := ⟨(fun m hm => by cases hm), (fun i x h => by simp at h)⟩
theorem ValidL.more {os : List Ck} {x : Ck} (h : ValidL os) (hx : goodCk x) (ho : okTo x os = true) : ValidL (os ++ [x]) := by
  unfold okTo at ho
  have h1 : (x.fr.toList == x.to.toList) = false := by revert ho; cases (x.fr.toList == x.to.toList) <;> simp
  have h2 : srB x.fr x.to x.kv os = false := by revert ho; cases srB x.fr x.to x.kv os <;> simp
  refine ⟨fun m hm => ?_, fun i y hy => ?_⟩
  · rcases List.mem_append.1 hm with h3 | h3
    · exact h.1 m h3
    · rw [List.mem_singleton.1 h3]; exact ⟨hx, h1⟩
  · rcases Nat.lt_trichotomy i os.length with hi | hi | hi
    · rw [List.getElem?_append_left hi] at hy
      rw [List.take_append_of_le_length (by omega)]
      exact h.2 i y hy
    · subst hi
      have : y = x := by simpa using hy.symm
      subst this
      rw [List.take_append_of_le_length (Nat.le_refl _), List.take_length]
      exact h2
    · rw [List.getElem?_eq_none (by simp; omega)] at hy; cases hy
theorem ValidL.err {os : List Ck} (h : ValidL os) (hl : os.length ≤ 20) : crErr os = 0 := by
  rw [crErr, if_neg (by omega)]
  refine firstErr_zero fun i hi => ?_
  have hx : os[i]? = some os[i] := List.getElem?_eq_getElem hi
  obtain ⟨⟨_, g1, g2, g3, g4, g5⟩, g6⟩ := h.1 _ (List.getElem_mem hi)
  rw [cerrAt_eq hx, ck_last g1 g2 g6 (by omega) (by omega) g5, h.2 i _ hx]
  rfl
def GoodPost (w : World) (e : Ending) (w' : World) : Prop :=
  ∃ (ms : List Ck) (v : Value), e = .returned v ∧ ms.length ≤ 20 ∧ crErr ms = 0 ∧ (∀ m ∈ ms, m.ok) ∧ w'.ownsRow (w.heap.size + 1) 54 4 v ms.length (ccells ms) ∧ Below w.heap.size w w'
theorem good_fin {os : List Ck} {w W1 X : World} {v : Value} {n : Nat} (h : ValidL os) (hn : os.length = n) (h20 : n ≤ 20) (ho : X.ownsRow W1.heap.size 54 4 v n (ccells os)) (h1 : Below w.heap.size w W1) (h1' : w.heap.size < W1.heap.size) (h2 : Below W1.heap.size W1 X) : GoodPost w (.returned v) X := by
  subst hn
  exact ⟨os, v, rfl, h20, h.err h20, fun m hm => (h.1 m hm).1.1, ownsRow_base ho (by omega), bthen h1 h2⟩
set_option maxRecDepth 100000 in
set_option maxHeartbeats 8000000 in
theorem goodCross_any (a : Option Addr) (len cap : Nat) (zs : List Int) (w : World) (hr : Row .u8 w a len zs) (hz : ∀ m ∈ zs, (Lit.int .u8 m).wf = true) :
    Calls Try.prog 26 #[.slice a len cap] w (GoodPost w) := by
  obtain ⟨i0, hi, hz0, hz1, hz2⟩ := info_parts info_el
  have HI0 := Lib.hid (And.intro hi (And.intro hz0 (And.intro hz1 hz2)))
  clear hi hz0 hz1 hz2
  have HCR := Lib.hid (cross_any a len cap zs w hr hz)
  clear hr hz
  go_enter Try.func26, Try.ntmps26
  go_wp2_with fail
  refine HCR.out.mono ?_
  rintro e W1 ⟨all, v, rfl, hal, hag, hao, hab, hw1⟩
  obtain ⟨aa, ac, rfl, hc1, hc2⟩ := own_isz hao
  have HAR := Lib.hid (own_frow hao)
  have HAG := Lib.hid hag
  have HAB := Lib.hid hab
  unfold maxLen at hc2
  obtain ⟨N, hN⟩ : ∃ N, all.length = N := ⟨_, rfl⟩
  rw [hN] at HAR hal hc1 ⊢
  have HN := Lib.hid hN
  have HW1 := Lib.hid hw1
  clear hag hao hab HCR hN hw1
  go_wp2
  go_loopw [4, 5] (fun v i wr => ∃ (n k : Nat) (va : Option Addr) (vc : Nat), v = .slice va n vc ∧ i = .int .i64 k ∧ k ≤ N ∧ n ≤ 20 ∧ n ≤ vc ∧ vc ≤ 9223372036854775807 ∧ Hid (∃ os, os.length = n ∧ ValidL os ∧ wr.ownsRow W1.heap.size 54 4 (.slice va n vc) n (ccells os) ∧ Below W1.heap.size W1 wr)) (fun _ i _ => N - (intOf i).toNat)
  case atStart => exact ⟨0, 0, none, 0, rfl, rfl, by omega, by omega, by omega, by omega, Lib.hid ⟨[], rfl, ValidL.nil, World.ownsRow_nil _ _ _ _, Below.refl _ _⟩⟩
  case round =>
    obtain ⟨n, k, va, vc, rfl, rfl, hk, hn, hv1, hv2, HI⟩ := hrel
    obtain ⟨os, hol, hva, how, hbe⟩ := HI.out
    have HOL := Lib.hid hol
    have HVA := Lib.hid hva
    have HOW := Lib.hid how
    have HBE := Lib.hid hbe
    clear hol hva how hbe HI
    by_cases hlt : k < N
    · have hlt' : decide ((k : Int) < (N : Int)) = true := by simp; omega
      by_cases hn20 : n < 20
      · have hn20' : decide ((n : Int) < 20) = true := by simp; omega
        obtain ⟨b, off, x, rfl, hx, c0, c1, c2, c3⟩ := (HAR.out.below HBE.out).ck hlt
        have HGX := Lib.hid (HAG.out x (List.mem_of_getElem? hx))
        have HB9 : Hid (b < W1.heap.size) := Lib.hid (HAR.out.lt (by omega) _ rfl (by omega))
        clear hx
        have q1 : (0 : Int) ≤ (k : Int) := by omega
        have q2 : (k : Int) < (N : Int) := by omega
        cases g3 : (x.fr.toList == x.to.toList)
        all_goals
          have HZR := Lib.hid (okTo_zero (l := os) g3)
          have g3n := g3
          go_wp2
          go_quiet (fail)
          go_wp2
          obtain ⟨wo, rfl⟩ : ∃ wo : World, wo = wr := ⟨_, rfl⟩
          go_loopw [6, 7] (fun o i wr => ∃ (j : Nat) (ob : Bool), o = .bool ob ∧ i = .int .i64 j ∧ j ≤ n ∧ Hid (okTo x (os.take j) = ob ∧ Below wo.heap.size wo wr)) (fun _ i _ => n - (intOf i).toNat)
          case atStart => exact ⟨0, _, rfl, rfl, by omega, Lib.hid ⟨HZR.out, Below.drewN1 _ _ _⟩⟩
          case round =>
            obtain ⟨j, ob, rfl, rfl, hj, HJ⟩ := hrel
            have HRX : Hid (∀ X, Below wo.heap.size wo X → X.cell? ⟨b, off + k * 4, none⟩ = some (.string x.fr) ∧ X.cell? ⟨b, off + k * 4 + 1, none⟩ = some (.string x.to) ∧ X.cell? ⟨b, off + k * 4 + 2, none⟩ = some (.int .i64 x.kv) ∧ X.cell? ⟨b, off + k * 4 + 3, none⟩ = some (.int .u64 x.ky)) := Lib.hid (fun X hX => ⟨(hX.cell (World.block_lt_of_cell? _ _ c0)).trans c0, (hX.cell (World.block_lt_of_cell? _ _ c1)).trans c1, (hX.cell (World.block_lt_of_cell? _ _ c2)).trans c2, (hX.cell (World.block_lt_of_cell? _ _ c3)).trans c3⟩)
            obtain ⟨x0, x1, x2, x3⟩ := HRX.out wr HJ.out.2
            by_cases hjl : j < n
            · have hjl' : decide ((j : Int) < (n : Int)) = true := by simp; omega
              obtain ⟨b2, off2, y, rfl, hy, d0, d1, d2, d3⟩ := ((own_frow HOW.out).below HJ.out.2).ck hjl
              have HYS := Lib.hid (okTo_snoc (x := x) hy)
              have r1 : (0 : Int) ≤ (j : Int) := by omega
              have r2 : (j : Int) < (n : Int) := by omega
              clear hy
              cases ob
              · go_wp2
                go_quiet (fail)
                go_wp2
                go_roundw
                case rel => exact ⟨j + 1, false, rfl, by go_num, by omega, Lib.hid ⟨by rw [HYS.out, HJ.out.1]; rfl, bthen HJ.out.2 (Below.drewN1 _ _ _)⟩⟩
                case measure => simp [intOf]; omega
              · by_cases h1 : y.fr.toList = x.fr.toList
                · by_cases h2 : y.to.toList = x.to.toList
                  · by_cases h3 : y.kv = x.kv
                    · have HC := Lib.hid (ckB_eq x.fr x.to x.kv y (decide_eq_true h1) (decide_eq_true h2) (decide_eq_true h3))
                      have h1e : (y.fr.toList == x.fr.toList) = true := by simpa using h1
                      have h2e : (y.to.toList == x.to.toList) = true := by simpa using h2
                      have h3e : (y.kv == x.kv) = true := by simpa using h3
                      have h3f : (y.kv != x.kv) = false := by simpa using h3
                      clear h1 h2 h3
                      go_wp2
                      go_quiet (fail)
                      go_wp2
                      go_roundw
                      case rel => exact ⟨j + 1, false, rfl, by go_num, by omega, Lib.hid ⟨by rw [HYS.out, HJ.out.1, HC.out]; rfl, bthen HJ.out.2 (Below.drewN1 _ _ _)⟩⟩
                      case measure => simp [intOf]; omega
                    · have HC := Lib.hid (ckB_eq x.fr x.to x.kv y (decide_eq_true h1) (decide_eq_true h2) (decide_eq_false h3))
                      have h1e : (y.fr.toList == x.fr.toList) = true := by simpa using h1
                      have h2e : (y.to.toList == x.to.toList) = true := by simpa using h2
                      have h3e : (y.kv == x.kv) = false := by simpa using h3
                      have h3f : (y.kv != x.kv) = true := by simpa using h3
                      clear h1 h2 h3
                      go_wp2
                      go_quiet (fail)
                      go_wp2
                      go_roundw
                      case rel => exact ⟨j + 1, true, rfl, by go_num, by omega, Lib.hid ⟨by rw [HYS.out, HJ.out.1, HC.out]; rfl, bthen HJ.out.2 (Below.drewN1 _ _ _)⟩⟩
                      case measure => simp [intOf]; omega
                  · have HC := Lib.hid (ckB_eq x.fr x.to x.kv y (decide_eq_true h1) (decide_eq_false h2) rfl)
                    have h1e : (y.fr.toList == x.fr.toList) = true := by simpa using h1
                    have h2e : (y.to.toList == x.to.toList) = false := by simpa using h2
                    clear h1 h2
                    go_wp2
                    go_quiet (fail)
                    go_wp2
                    go_roundw
                    case rel => exact ⟨j + 1, true, rfl, by go_num, by omega, Lib.hid ⟨by rw [HYS.out, HJ.out.1, HC.out]; rfl, bthen HJ.out.2 (Below.drewN1 _ _ _)⟩⟩
                    case measure => simp [intOf]; omega
                · have HC := Lib.hid (ckB_eq x.fr x.to x.kv y (decide_eq_false h1) rfl rfl)
                  have h1e : (y.fr.toList == x.fr.toList) = false := by simpa using h1
                  clear h1
                  go_wp2
                  go_quiet (fail)
                  go_wp2
                  go_roundw
                  case rel => exact ⟨j + 1, true, rfl, by go_num, by omega, Lib.hid ⟨by rw [HYS.out, HJ.out.1, HC.out]; rfl, bthen HJ.out.2 (Below.drewN1 _ _ _)⟩⟩
                  case measure => simp [intOf]; omega
            · have hjl' : decide ((j : Int) < (n : Int)) = false := by simp; omega
              have HTE : Hid (okTo x os = ob) := Lib.hid (by have h := HJ.out.1; rwa [List.take_of_length_le (by have := HOL.out; omega)] at h)
              have HBW : Hid (Below W1.heap.size W1 wr) := Lib.hid (HBE.out.trans (HJ.out.2.mono HBE.out.size))
              have HOW2 := Lib.hid (ownsRow_below HOW.out HJ.out.2)
              clear c0 c1 c2 c3
              cases ob
              · go_wp2
                go_roundw
                case rel => exact ⟨n, k + 1, va, vc, rfl, by go_num, by omega, by omega, hv1, hv2, Lib.hid ⟨os, HOL.out, HVA.out, HOW2.out, HBW.out⟩⟩
                case measure => simp [intOf]; omega
              · have HSR := Lib.hid (Src.cells4 wr 54 (.string x.fr) (.string x.to) (.int .i64 x.kv) (.int .u64 x.ky))
                have HBA : Hid (Below W1.heap.size W1 (wr.alloc (.cells #[.string x.fr, .string x.to, .int .i64 x.kv, .int .u64 x.ky] 54))) := Lib.hid (HBW.out.alloc HBW.out.size _)
                go_wp2_with (at_builtin; refine wpList_append_src _ rfl _ _ 49 rfl W1.heap.size 54 i0 (.agg #[.string ⟨#[]⟩, .string ⟨#[]⟩, .int .i64 0, .int .u64 0]) 4 48 Try.underlying49 HI0.out.1 HI0.out.2.1 HI0.out.2.2.1 HI0.out.2.2.2 rfl (by decide) (.slice va n vc) n (ccells os) rfl (HOW2.out.alloc _) (some ⟨wr.heap.size, 0, none⟩) 1 1 x.cells rfl (fun h => (Option.some_ne_none _ h).elim) rfl HSR.out (one_ck _) (by unfold maxLen; omega) (by omega) HBA.out.size ?_; intro v' w1 hown' hgrow hat)
                obtain ⟨va', vc', rfl, g1, g2⟩ := own_isz hown'
                unfold maxLen at g2
                have HN2 : Hid (∃ os, os.length = n + 1 ∧ ValidL os ∧ w1.ownsRow W1.heap.size 54 4 (.slice va' (n + 1) vc') (n + 1) (ccells os) ∧ Below W1.heap.size W1 w1) := Lib.hid ⟨os ++ [x], by simp [HOL.out], HVA.out.more HGX.out HTE.out, by rw [ccells_snoc]; exact hown', HBA.out.grown hgrow HBA.out.size (fun q hq => (HOW2.out.lt q hq).1)⟩
                clear hown' hgrow hat
                go_wp2
                go_roundw
                case rel => exact ⟨n + 1, k + 1, va', vc', rfl, by go_num, by omega, by omega, g1, by omega, HN2⟩
                case measure => simp [intOf]; omega
      · have hn20' : decide ((n : Int) < 20) = false := by simp; omega
        go_wp2
        go_ret
        exact good_fin HVA.out HOL.out (by omega) HOW.out HAB.out HW1.out HBE.out
    · have hlt' : decide ((k : Int) < (N : Int)) = false := by simp; omega
      go_wp2
      go_ret
      exact good_fin HVA.out HOL.out (by omega) HOW.out HAB.out HW1.out HBE.out
end Go.Proofs.Ytegcdefdkebmnaa
