/- The executor is sound, for this program. No conditions. -/
import Derived.Test.YtggnhaiohmgflaaGreatDoorKH
import Derived.Test.YtggnhaiohmgflaaGreatDoorRows
import Derived.WalkKit
import Derived.WalkLawsBesides
import Derived.Lib.AppendZerosOnto
import Derived.Lib.SliceRun
set_option linter.unusedVariables false
set_option linter.unusedSimpArgs false
namespace Go.Proofs.YtggnhaiohmgflaaGreatDoor.Sx
open Go Go.Proofs Go.RowKit Go.Lib
/-- kept out of sight -/
structure Kept (p : Prop) : Prop where
  out : p
def GrowPost (T : TypeId) (n : Nat) (w : World) (e : Ending) (w' : World) : Prop :=
  (n = 0 ∧ e = .returned (.slice none 0 0) ∧ w' = w) ∨ ∃ G C, 0 < n ∧ e = .returned (.slice (some ⟨w.heap.size, 0, none⟩) 0 G) ∧ w' = World.drew (w.alloc (.cells C T)) ∧ C.size = G
theorem zeroCells_size (C : Array Value) (n : Nat) : (Builtin.zeroCells C n).size = n * C.size := by
  simp [Builtin.zeroCells]
theorem grow_native {P : Program} {σ : Nat → Int} {f : Nat} {T : TypeId} (hcf : ∀ argv w, (callFunc f argv).run P w = .ok (.enter f argv) w)
    (hg : ∀ (n : Nat) (w : World), n ≤ 1000000 → Calls P f #[.slice none 0 0, .int .i64 n] w (GrowPost T n w)) :
    ∀ args h x h', natGrow 1 args h = .ok x h' → CallOk P σ f args h x h' := by
  intro args h x h' e ρ w argv hv gh
  unfold natGrow at e
  split at e
  · rename_i n0 es cap c
    obtain ⟨n, e1, e2⟩ := rO_eq e
    obtain rfl := natOf_eq e1
    simp only [RVs] at hv
    obtain ⟨A, l1, hA, a1, B, l2, rfl, b1, rfl⟩ := hv
    simp only [RV] at a1 b1
    obtain ⟨rfl, _⟩ := a1
    obtain ⟨rfl, _⟩ := b1
    have hargv : argv = #[.slice none 0 0, .int .i64 n] := Array.toList_inj.1 hA
    subst hargv
    right
    refine ⟨hcf _ _, ?_⟩
    rw [ifB_eq] at e2
    split at e2
    · rename_i hn
      have hn : n = 0 := beq_true hn
      subst hn
      cases e2
      refine (hg 0 w (by omega)).mono fun e w' hp => ?_
      rcases hp with ⟨_, rfl, rfl⟩ | ⟨G, C, h0, _⟩
      · exact ⟨ρ, by simp [RV], gh, Step.refl _ _ _⟩
      · omega
    · rename_i hn
      rw [ifB_eq] at e2
      split at e2
      · rename_i hle
        cases e2
        refine (hg n w (ble_true hle)).mono fun e w' hp => ?_
        rcases hp with ⟨h0, _⟩ | ⟨G, C, _, rfl, rfl, hC⟩
        · subst h0; exact absurd rfl hn
        · obtain ⟨k1, k2⟩ := new_row gh (w' := World.drew (w.alloc (.cells C T))) (cs := []) (c := C) (el := T) (fr := (0, 0)) rfl rfl rfl rfl (Nat.zero_le _) rfl rfl (fun j _ => by simp)
          refine ⟨_, ?_, k1, k2⟩
          simp only [RV]
          exact ⟨_, ⟨w.heap.size, 0, none⟩, G, upd_self _ _ _, rfl, Nat.zero_le _, (fun x hx => by cases hx), .inr ⟨rfl, by simp [hC]⟩⟩
      · cases e2
  · cases e

theorem info_el257 : (Tryz.prog.info? 5).map (fun i => (i.zero, i.size, i.bytes)) = some (some (.int .u8 0), 1, 1) := by kernel_rfl
set_option maxRecDepth 100000 in
set_option maxHeartbeats 2000000 in
theorem grow257_any (n : Nat) (w : World) (hn : n ≤ 1000000) : Calls Tryz.prog 257 #[.slice none 0 0, .int .i64 n] w (GrowPost 5 n w) := by
  by_cases h0 : n = 0
  · subst h0
    go_enter Tryz.func257, Tryz.ntmps257
    go_wp2
    go_ret
    exact .inl ⟨rfl, rfl, rfl⟩
  · obtain ⟨i0, hi, hz0, hz1, hz2⟩ := info_parts info_el257
    have hrz : ∀ ty, (Builtin.append_ #[60, 3] ty #[.slice none 0 0, .int .i64 (n : Int)]).run Tryz.prog w = .ok (.slice (some ⟨w.heap.size, 0, none⟩) n (grownCap w n 0 5)) (w.drew.alloc (.cells (([] : List Value).toArray ++ Builtin.zeroCells (.int .u8 0 : Value).cells n ++ Builtin.zeroCells (.int .u8 0 : Value).cells (grownCap w n 0 5 - n)) 5)) := fun ty => by
      have h := Lib.run_append_grow_zeros w 60 3 ty 5 i0 (.int .u8 0) .i64 .i64 Tryz.underlying60 Tryz.underlying3 hi hz0 none 0 0 [] (run_firstCells_none w.drew i0.size 0 0 0) n (by omega) (by rw [hz1]; decide) (by omega) (by omega) (by rw [hz2]; omega)
        (by rw [hz2, Nat.zero_add]; exact growslice_fits (by omega) (by omega))
      simpa using h
    have hGn : n ≤ grownCap w n 0 5 := grownCap_ge w _ _ _
    have HC : Kept (GrowPost 5 n w (.returned (.slice (some ⟨w.heap.size, 0, none⟩) 0 (grownCap w n 0 5))) (World.drew (w.alloc (.cells (([] : List Value).toArray ++ Builtin.zeroCells (.int .u8 0 : Value).cells n ++ Builtin.zeroCells (.int .u8 0 : Value).cells (grownCap w n 0 5 - n)) 5)))) := Kept.mk (.inr ⟨_, _, by omega, rfl, rfl, by
        rw [Array.size_append, Array.size_append, zeroCells_size, zeroCells_size]
        have : (.int .u8 0 : Value).cells.size = 1 := rfl
        rw [this]; simp; omega⟩)
    have hGm : grownCap w n 0 5 ≤ maxLen := grownCap_le_maxLen w n 0 5 (by unfold maxLen; omega)
    unfold maxLen at hGm
    generalize grownCap w n 0 5 = G at *
    generalize ([] : List Value).toArray ++ Builtin.zeroCells (.int .u8 0 : Value).cells n ++ Builtin.zeroCells (.int .u8 0 : Value).cells (G - n) = C at *
    clear hi hz0 hz1 hz2
    have h1 : (0 : Int) < (n : Int) := by omega
    go_enter Tryz.func257, Tryz.ntmps257
    go_wp2_with (at_builtin; refine Lib.wpList_append_run _ rfl _ _ _ _ rfl _ _ rfl rfl _ _ (hrz _) ?_)
    go_ret
    exact HC.out
theorem grow257_ok {σ : Nat → Int} : ∀ args h x h', natGrow 1 args h = .ok x h' → CallOk Tryz.prog σ 257 args h x h' :=
  grow_native (fun argv w => run_callFunc Tryz.func257 rfl (by decide) argv w) grow257_any

theorem info_el332 : (Tryz.prog.info? 35).map (fun i => (i.zero, i.size, i.bytes)) = some (some (.int .u64 0), 1, 8) := by kernel_rfl
set_option maxRecDepth 100000 in
set_option maxHeartbeats 2000000 in
theorem grow332_any (n : Nat) (w : World) (hn : n ≤ 1000000) : Calls Tryz.prog 332 #[.slice none 0 0, .int .i64 n] w (GrowPost 35 n w) := by
  by_cases h0 : n = 0
  · subst h0
    go_enter Tryz.func332, Tryz.ntmps332
    go_wp2
    go_ret
    exact .inl ⟨rfl, rfl, rfl⟩
  · obtain ⟨i0, hi, hz0, hz1, hz2⟩ := info_parts info_el332
    have hrz : ∀ ty, (Builtin.append_ #[50, 3] ty #[.slice none 0 0, .int .i64 (n : Int)]).run Tryz.prog w = .ok (.slice (some ⟨w.heap.size, 0, none⟩) n (grownCap w n 0 35)) (w.drew.alloc (.cells (([] : List Value).toArray ++ Builtin.zeroCells (.int .u64 0 : Value).cells n ++ Builtin.zeroCells (.int .u64 0 : Value).cells (grownCap w n 0 35 - n)) 35)) := fun ty => by
      have h := Lib.run_append_grow_zeros w 50 3 ty 35 i0 (.int .u64 0) .i64 .i64 Tryz.underlying50 Tryz.underlying3 hi hz0 none 0 0 [] (run_firstCells_none w.drew i0.size 0 0 0) n (by omega) (by rw [hz1]; decide) (by omega) (by omega) (by rw [hz2]; omega)
        (by rw [hz2, Nat.zero_add]; exact growslice_fits (by omega) (by omega))
      simpa using h
    have hGn : n ≤ grownCap w n 0 35 := grownCap_ge w _ _ _
    have HC : Kept (GrowPost 35 n w (.returned (.slice (some ⟨w.heap.size, 0, none⟩) 0 (grownCap w n 0 35))) (World.drew (w.alloc (.cells (([] : List Value).toArray ++ Builtin.zeroCells (.int .u64 0 : Value).cells n ++ Builtin.zeroCells (.int .u64 0 : Value).cells (grownCap w n 0 35 - n)) 35)))) := Kept.mk (.inr ⟨_, _, by omega, rfl, rfl, by
        rw [Array.size_append, Array.size_append, zeroCells_size, zeroCells_size]
        have : (.int .u64 0 : Value).cells.size = 1 := rfl
        rw [this]; simp; omega⟩)
    have hGm : grownCap w n 0 35 ≤ maxLen := grownCap_le_maxLen w n 0 35 (by unfold maxLen; omega)
    unfold maxLen at hGm
    generalize grownCap w n 0 35 = G at *
    generalize ([] : List Value).toArray ++ Builtin.zeroCells (.int .u64 0 : Value).cells n ++ Builtin.zeroCells (.int .u64 0 : Value).cells (G - n) = C at *
    clear hi hz0 hz1 hz2
    have h1 : (0 : Int) < (n : Int) := by omega
    go_enter Tryz.func332, Tryz.ntmps332
    go_wp2_with (at_builtin; refine Lib.wpList_append_run _ rfl _ _ _ _ rfl _ _ rfl rfl _ _ (hrz _) ?_)
    go_ret
    exact HC.out
theorem grow332_ok {σ : Nat → Int} : ∀ args h x h', natGrow 1 args h = .ok x h' → CallOk Tryz.prog σ 332 args h x h' :=
  grow_native (fun argv w => run_callFunc Tryz.func332 rfl (by decide) argv w) grow332_any

theorem nats_all {σ : Nat → Int} : TAll (fun f k => ∀ args h x h', k args h = .ok x h' → CallOk Tryz.prog σ f args h x h') nats 1 0 :=
  ⟨trivial, ⟨trivial, ⟨trivial, ⟨trivial, ⟨trivial, trivial, ⟨trivial, ⟨trivial, trivial, ⟨trivial, ⟨(natCmp_ok Go.Proofs.Tryz.func335 rfl (by decide) (by kernel_rfl) (by kernel_rfl)), trivial, trivial⟩, trivial⟩⟩, trivial⟩⟩, trivial⟩, trivial⟩, ⟨trivial, ⟨trivial, ⟨trivial, ⟨trivial, ⟨trivial, ⟨trivial, ⟨grow257_ok, trivial, trivial⟩, trivial⟩, trivial⟩, trivial⟩, trivial⟩, trivial⟩, trivial⟩⟩, ⟨trivial, ⟨trivial, ⟨trivial, trivial, ⟨trivial, trivial, ⟨trivial, trivial, ⟨trivial, trivial, ⟨trivial, ⟨(natIdxB_ok Go.Proofs.Tryz.func376 rfl (by decide) (by kernel_rfl) (by kernel_rfl)), trivial, trivial⟩, trivial⟩⟩⟩⟩⟩, ⟨trivial, trivial, ⟨trivial, ⟨trivial, ⟨trivial, trivial, ⟨trivial, ⟨grow332_ok, trivial, trivial⟩, trivial⟩⟩, trivial⟩, trivial⟩⟩⟩, ⟨trivial, trivial, ⟨trivial, ⟨trivial, trivial, ⟨trivial, trivial, ⟨trivial, trivial, ⟨trivial, ⟨(natIdx_ok Go.Proofs.Tryz.func374 rfl (by decide) (by kernel_rfl) (by kernel_rfl)), trivial, trivial⟩, trivial⟩⟩⟩⟩, trivial⟩⟩⟩⟩
theorem ctx_ok {σ : Nat → Int} : CtxOk Tryz.prog σ (T.get tys) C := ⟨fun f cf h => TAll.get fns_all h, fun f k h => TAll.get nats_all h⟩
/-- the executor is sound, for this program -/
theorem calls_ok {σ : Nat → Int} (n : Nat) : CallsOk Tryz.prog σ (callF C n) := callF_ok tys_all_ok mixed ctx_ok n
end Go.Proofs.YtggnhaiohmgflaaGreatDoor.Sx
