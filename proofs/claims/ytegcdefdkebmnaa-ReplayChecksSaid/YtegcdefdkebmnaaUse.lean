/- Contract of Use.mark. -/
import Derived.Test.YtegcdefdkebmnaaData
namespace Go.Proofs.Ytegcdefdkebmnaa
open Go.RowKit
attribute [local go_sem ↓] Go.wp_at_zero Go.wp_at_succ

structure Us where
  who : Int
  time : Int
  tick : Int
  now : Int
def Us.ok (u : Us) : Prop := (0 ≤ u.who ∧ u.who ≤ 255) ∧ (0 ≤ u.time ∧ u.time ≤ 255) ∧ (0 ≤ u.tick ∧ u.tick ≤ 255) ∧ (0 ≤ u.now ∧ u.now ≤ 255)
def useMark (u : Us) : Mk := ⟨userS (u.who % 4), ByteArray.empty, realmS (u.who % 4 / 3), 1000 + u.time / 2, u.tick % 3⟩
theorem useMark_ok {u : Us} (h : u.ok) : (useMark u).ok := by
  obtain ⟨h1, h2, h3, h4⟩ := h
  refine ⟨userS_size _, (by decide : ByteArray.empty.size ≤ maxLen), realmS_size _, ?_, ?_⟩
  · show -9223372036854775808 ≤ 1000 + u.time / 2 ∧ 1000 + u.time / 2 ≤ 9223372036854775807; omega
  · show -9223372036854775808 ≤ u.tick % 3 ∧ u.tick % 3 ≤ 9223372036854775807; omega

theorem set5 {w w2 : World} (h : Below w.heap.size w w2) (g : Nat) (hg : w.heap.size ≤ g) (a b c d e : Value) : Below w.heap.size w (((((w2.setCell ⟨g, 0, none⟩ a).setCell ⟨g, 1, none⟩ b).setCell ⟨g, 2, none⟩ c).setCell ⟨g, 3, none⟩ d).setCell ⟨g, 4, none⟩ e) :=
  ((((h.setCell (p := ⟨g, 0, none⟩) hg _).setCell (p := ⟨g, 1, none⟩) hg _).setCell (p := ⟨g, 2, none⟩) hg _).setCell (p := ⟨g, 3, none⟩) hg _).setCell (p := ⟨g, 4, none⟩) hg _

set_option maxRecDepth 100000 in
set_option maxHeartbeats 1000000 in
theorem mark_any (u : Us) (w : World) (hu : u.ok) :
    Calls Try.prog 15 #[.agg #[.int .u8 u.who, .int .u8 u.time, .int .u8 u.tick, .int .u8 u.now]] w fun e w' => e = .returned (.agg #[.string (useMark u).n, .string (useMark u).i, .string (useMark u).r, .int .i64 (useMark u).t, .int .i64 (useMark u).k]) ∧ Below w.heap.size w w' := by
  obtain ⟨h1, h2, h3, h4⟩ := hu
  obtain ⟨who, time, tick, now⟩ := u
  simp only at h1 h2 h3 h4
  simp only [useMark]
  have HUS : Hid (∀ X, Calls Try.prog 39 #[.int .i64 (who % 4)] X fun e w' => e = .returned (.agg #[.string (userS (who % 4)), .string ByteArray.empty, .string (realmS (who % 4 / 3))]) ∧ Below X.heap.size X w') := Lib.hid (fun X => user_any _ _ (by omega) (by omega))
  have a1 : IntKind.i64.wrap who = who := IntWalk.i64_in _ (by omega)
  have a2 : who.tmod 4 = who % 4 := Int.tmod_eq_emod_of_nonneg (by omega)
  have a3 : IntKind.i64.wrap (who % 4) = who % 4 := IntWalk.i64_in _ (by omega)
  have b1 : IntKind.i64.wrap time = time := IntWalk.i64_in _ (by omega)
  have b2 : time.tdiv 2 = time / 2 := Int.tdiv_eq_ediv_of_nonneg (by omega)
  have b3 : IntKind.i64.wrap (time / 2) = time / 2 := IntWalk.i64_in _ (by omega)
  have b4 : IntKind.i64.wrap (1000 + time / 2) = 1000 + time / 2 := IntWalk.i64_in _ (by omega)
  have c1 : IntKind.i64.wrap tick = tick := IntWalk.i64_in _ (by omega)
  have c2 : tick.tmod 3 = tick % 3 := Int.tmod_eq_emod_of_nonneg (by omega)
  have c3 : IntKind.i64.wrap (tick % 3) = tick % 3 := IntWalk.i64_in _ (by omega)
  go_enter Try.func15, Try.ntmps15
  go_wp2
  have HW : Hid (Below w.heap.size w ((w.alloc (.cells #[.int .u8 who, .int .u8 time, .int .u8 tick, .int .u8 now] 38)).alloc (.cells #[.string ⟨#[]⟩, .string ⟨#[]⟩, .string ⟨#[]⟩, .int .i64 0, .int .i64 0] 36))) := Lib.hid (bthen (Below.alloc1 _ _) (Below.alloc1 _ _))
  have HS : Hid (∀ X, Below ((w.alloc (.cells #[.int .u8 who, .int .u8 time, .int .u8 tick, .int .u8 now] 38)).alloc (.cells #[.string ⟨#[]⟩, .string ⟨#[]⟩, .string ⟨#[]⟩, .int .i64 0, .int .i64 0] 36)).heap.size ((w.alloc (.cells #[.int .u8 who, .int .u8 time, .int .u8 tick, .int .u8 now] 38)).alloc (.cells #[.string ⟨#[]⟩, .string ⟨#[]⟩, .string ⟨#[]⟩, .int .i64 0, .int .i64 0] 36)) X → (X.cell? ⟨w.heap.size, 0, none⟩ = some (.int .u8 who) ∧ X.cell? ⟨w.heap.size, 1, none⟩ = some (.int .u8 time) ∧ X.cell? ⟨w.heap.size, 2, none⟩ = some (.int .u8 tick)) ∧ X.cell? ⟨w.heap.size + 1, 0, none⟩ = some (.string ⟨#[]⟩) ∧ X.cell? ⟨w.heap.size + 1, 1, none⟩ = some (.string ⟨#[]⟩) ∧ X.cell? ⟨w.heap.size + 1, 2, none⟩ = some (.string ⟨#[]⟩) ∧ X.cell? ⟨w.heap.size + 1, 3, none⟩ = some (.int .i64 0) ∧ X.cell? ⟨w.heap.size + 1, 4, none⟩ = some (.int .i64 0) ∧ X.frozen? ⟨w.heap.size + 1, 0, none⟩ = false ∧ X.frozen? ⟨w.heap.size + 1, 1, none⟩ = false ∧ X.frozen? ⟨w.heap.size + 1, 2, none⟩ = false ∧ X.frozen? ⟨w.heap.size + 1, 3, none⟩ = false ∧ X.frozen? ⟨w.heap.size + 1, 4, none⟩ = false) := Lib.hid (fun X hX => by
    obtain ⟨p1, p2, _⟩ := cells_two (Below.refl _ _) hX
    obtain ⟨p3, _⟩ := froz_one hX
    rw [World.size_alloc] at p2 p3
    exact ⟨⟨p1 0, p1 1, p1 2⟩, p2 0, p2 1, p2 2, p2 3, p2 4, p3 0, p3 1, p3 2, p3 3, p3 4⟩)
  have HQ0 : Hid (Below ((w.alloc (.cells #[.int .u8 who, .int .u8 time, .int .u8 tick, .int .u8 now] 38)).alloc (.cells #[.string ⟨#[]⟩, .string ⟨#[]⟩, .string ⟨#[]⟩, .int .i64 0, .int .i64 0] 36)).heap.size ((w.alloc (.cells #[.int .u8 who, .int .u8 time, .int .u8 tick, .int .u8 now] 38)).alloc (.cells #[.string ⟨#[]⟩, .string ⟨#[]⟩, .string ⟨#[]⟩, .int .i64 0, .int .i64 0] 36)) ((w.alloc (.cells #[.int .u8 who, .int .u8 time, .int .u8 tick, .int .u8 now] 38)).alloc (.cells #[.string ⟨#[]⟩, .string ⟨#[]⟩, .string ⟨#[]⟩, .int .i64 0, .int .i64 0] 36)).drew) := Lib.hid (Below.refl _ _).drew
  generalize ((w.alloc (.cells #[.int .u8 who, .int .u8 time, .int .u8 tick, .int .u8 now] 38)).alloc (.cells #[.string ⟨#[]⟩, .string ⟨#[]⟩, .string ⟨#[]⟩, .int .i64 0, .int .i64 0] 36)) = W at *
  obtain ⟨x0, x1, x2⟩ := (HS.out _ (Below.refl _ _)).1
  go_region_held3 (fun X => X.cell? ⟨w.heap.size, 0, none⟩ = some (.int .u8 who) ∧ X.cell? ⟨w.heap.size, 1, none⟩ = some (.int .u8 time) ∧ X.cell? ⟨w.heap.size, 2, none⟩ = some (.int .u8 tick)) (first | go_keep) (first | (go_simp; go_at_call 39; refine (HUS.out _).mono ?_; rintro e y ⟨rfl, hb⟩; have HQ1 := Lib.hid (bthen HQ0.out hb); obtain ⟨s0, s1, s2, s3, s4, t0, t1, t2, t3, t4⟩ := (HS.out _ HQ1.out).2; obtain ⟨v0, v1, v2⟩ := (HS.out _ HQ1.out).1; clear hb))
  go_wp2
  refine bodyPost_ret (v := .agg #[.string (userS (who % 4)), .string ByteArray.empty, .string (realmS (who % 4 / 3)), .int .i64 (1000 + time / 2), .int .i64 (tick % 3)]) (by simp [results, Try.results15, go_sem, s0, s1, s2, s3, s4]) rfl ⟨rfl, ?_⟩
  exact set5 (bthen HW.out HQ1.out) _ (Nat.le_succ _) _ _ _ _ _
end Go.Proofs.Ytegcdefdkebmnaa
