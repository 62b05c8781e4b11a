/- Contracts of kerbsuitedata.Realms, Realm, User. -/
import Derived.Test.YtegcdefdkebmnaaMark
import Derived.Test.YtegcdefdkebmnaaCells
import Derived.Deep.RegionHeld3
import Derived.Deep.DrawnRows
import Derived.Deep.DeepCutAuto
namespace Go.Proofs.Ytegcdefdkebmnaa
open Go.RowKit
attribute [local go_sem ↓] Go.wp_at_zero Go.wp_at_succ

def ath : ByteArray := ⟨#[65, 84, 72]⟩
def bos : ByteArray := ⟨#[66, 79, 83]⟩
def cam : ByteArray := ⟨#[67, 65, 77]⟩
def ann : ByteArray := ⟨#[97, 110, 110]⟩
def bob : ByteArray := ⟨#[98, 111, 98]⟩
def cat : ByteArray := ⟨#[99, 97, 116]⟩
def realmS (n : Int) : ByteArray := if n % 3 = 0 then ath else if n % 3 = 1 then bos else cam
def userS (n : Int) : ByteArray := if n % 3 = 0 then ann else if n % 3 = 1 then bob else cat
theorem realmS_size (n : Int) : (realmS n).size ≤ maxLen := by unfold realmS; split; decide; split <;> decide
theorem userS_size (n : Int) : (userS n).size ≤ maxLen := by unfold userS; split; decide; split <;> decide

set_option maxHeartbeats 400000 in
theorem realms_any (w : World) :
    Calls Try.prog 55 #[] w fun e w' => e = .returned (.slice (some ⟨w.heap.size, 0, none⟩) 3 3) ∧ w.alloc (.cells #[.string ath, .string bos, .string cam] 9) = w' := by
  go_enter Try.func55, Try.ntmps55
  go_wp2
  go_ret
  exact ⟨rfl, rfl⟩
set_option maxHeartbeats 400000 in
theorem realm_any (n : Int) (w : World) (h0 : 0 ≤ n) (h1 : n ≤ 1000000) :
    Calls Try.prog 32 #[.int .i64 n] w fun e w' => e = .returned (.string (realmS n)) ∧ Below w.heap.size w w' := by
  have HB := Lib.hid (Below.alloc1 w (.cells #[.string ath, .string bos, .string cam] 9))
  have h3 : n % 3 = 0 ∨ n % 3 = 1 ∨ n % 3 = 2 := by omega
  rcases h3 with h3 | h3 | h3
  · have HF : Hid (realmS n = ath) := Lib.hid (by simp [realmS, h3])
    go_enter Try.func32, Try.ntmps32
    go_wp2_with (go_at_call 55; refine (realms_any _).mono ?_; rintro e w' ⟨rfl, rfl⟩)
    go_ret
    exact ⟨by rw [HF.out]; rfl, HB.out⟩
  · have HF : Hid (realmS n = bos) := Lib.hid (by simp [realmS, h3])
    go_enter Try.func32, Try.ntmps32
    go_wp2_with (go_at_call 55; refine (realms_any _).mono ?_; rintro e w' ⟨rfl, rfl⟩)
    go_ret
    exact ⟨by rw [HF.out]; rfl, HB.out⟩
  · have HF : Hid (realmS n = cam) := Lib.hid (by simp [realmS, h3])
    go_enter Try.func32, Try.ntmps32
    go_wp2_with (go_at_call 55; refine (realms_any _).mono ?_; rintro e w' ⟨rfl, rfl⟩)
    go_ret
    exact ⟨by rw [HF.out]; rfl, HB.out⟩

theorem res3 {w w2 : World} {a b c : Value} {T : TypeId} (h : Below (w.alloc (.cells #[a, b, c] T)).heap.size (w.alloc (.cells #[a, b, c] T)) w2) : w2.cell? ⟨w.heap.size, 0, none⟩ = some a ∧ w2.cell? ⟨w.heap.size, 1, none⟩ = some b ∧ w2.cell? ⟨w.heap.size, 2, none⟩ = some c ∧ w2.frozen? ⟨w.heap.size, 0, none⟩ = false ∧ w2.frozen? ⟨w.heap.size, 1, none⟩ = false ∧ w2.frozen? ⟨w.heap.size, 2, none⟩ = false ∧ w.heap.size < w2.heap.size := by
  obtain ⟨q, _⟩ := cells_one h
  have e : (w.alloc (.cells #[a, b, c] T)).heap.size = w.heap.size + 1 := by simp
  have g : ∀ i, w2.frozen? ⟨w.heap.size, i, none⟩ = false := fun i => by
    rw [h.frozen (p := ⟨w.heap.size, i, none⟩) (by rw [e]; show w.heap.size < _; omega)]
    simp
  exact ⟨q 0, q 1, q 2, g 0, g 1, g 2, by have := h.size; rw [e] at this; omega⟩
theorem set3 {w w2 : World} (h : Below w.heap.size w w2) (a b c : Value) : Below w.heap.size w (((w2.setCell ⟨w.heap.size, 0, none⟩ a).setCell ⟨w.heap.size, 1, none⟩ b).setCell ⟨w.heap.size, 2, none⟩ c) :=
  ((h.setCell (p := ⟨w.heap.size, 0, none⟩) (Nat.le_refl _) _).setCell (p := ⟨w.heap.size, 1, none⟩) (Nat.le_refl _) _).setCell (p := ⟨w.heap.size, 2, none⟩) (Nat.le_refl _) _
set_option maxHeartbeats 2000000 in
theorem user_any (n : Int) (w : World) (h0 : 0 ≤ n) (h1 : n ≤ 1000000) :
    Calls Try.prog 39 #[.int .i64 n] w fun e w' => e = .returned (.agg #[.string (userS n), .string ByteArray.empty, .string (realmS (n / 3))]) ∧ Below w.heap.size w w' := by
  have hd : n.tdiv 3 = n / 3 := Int.tdiv_eq_ediv_of_nonneg h0
  have hm : n.tmod 3 = n % 3 := Int.tmod_eq_emod_of_nonneg h0
  have hwm : IntKind.i64.wrap (n % 3) = n % 3 := IntWalk.i64_in _ (by omega)
  have hwd : IntKind.i64.wrap (n / 3) = n / 3 := IntWalk.i64_in _ (by omega)
  have HRE : Hid (∀ X, Calls Try.prog 32 #[.int .i64 (n / 3)] X fun e w' => e = .returned (.string (realmS (n / 3))) ∧ Below X.heap.size X w') := Lib.hid (fun X => realm_any _ _ (by omega) (by omega))
  have h3 : n % 3 = 0 ∨ n % 3 = 1 ∨ n % 3 = 2 := by omega
  rcases h3 with h3 | h3 | h3
  · have HF : Hid (userS n = ann) := Lib.hid (by simp [userS, h3])
    rw [h3] at hm hwm
    clear h3
    go_enter Try.func39, Try.ntmps39
    go_wp2
    go_region_with (go_at_call 32; refine (HRE.out _).mono ?_; rintro e w2 ⟨rfl, hb⟩; have HA : Hid (Below (w.alloc (.cells #[.string ByteArray.empty, .string ByteArray.empty, .string ByteArray.empty] 34)).heap.size (w.alloc (.cells #[.string ByteArray.empty, .string ByteArray.empty, .string ByteArray.empty] 34)) w2) := (by first | exact Lib.hid (bthen (bthen (Below.alloc1 _ _) (Below.drewN1 _ 1 _)) hb) | exact Lib.hid (bthen (Below.drewN1 _ 1 _) hb)); have HB := Lib.hid (bthen (Below.alloc1 w (.cells #[.string ByteArray.empty, .string ByteArray.empty, .string ByteArray.empty] 34)) HA.out); obtain ⟨s0, s1, s2, t0, t1, t2, hz'⟩ := res3 HA.out; obtain ⟨hc, _⟩ := bcell hb; clear hb HA)
    all_goals go_wp2
    all_goals refine bodyPost_ret (v := .agg #[.string ann, .string ByteArray.empty, .string (realmS (n / 3))]) (by simp [results, Try.results39, go_sem, s0, s1, s2, hz']; exact ⟨rfl, rfl⟩) rfl ⟨by rw [HF.out], ?_⟩
    all_goals (first | exact set3 HB.out _ _ _ | exact bthen (set3 HB.out _ _ _) (Below.alloc1 _ _))
  · have HF : Hid (userS n = bob) := Lib.hid (by simp [userS, h3])
    rw [h3] at hm hwm
    clear h3
    go_enter Try.func39, Try.ntmps39
    go_wp2
    go_region_with (go_at_call 32; refine (HRE.out _).mono ?_; rintro e w2 ⟨rfl, hb⟩; have HA : Hid (Below (w.alloc (.cells #[.string ByteArray.empty, .string ByteArray.empty, .string ByteArray.empty] 34)).heap.size (w.alloc (.cells #[.string ByteArray.empty, .string ByteArray.empty, .string ByteArray.empty] 34)) w2) := (by first | exact Lib.hid (bthen (bthen (Below.alloc1 _ _) (Below.drewN1 _ 1 _)) hb) | exact Lib.hid (bthen (Below.drewN1 _ 1 _) hb)); have HB := Lib.hid (bthen (Below.alloc1 w (.cells #[.string ByteArray.empty, .string ByteArray.empty, .string ByteArray.empty] 34)) HA.out); obtain ⟨s0, s1, s2, t0, t1, t2, hz'⟩ := res3 HA.out; obtain ⟨hc, _⟩ := bcell hb; clear hb HA)
    all_goals go_wp2
    all_goals refine bodyPost_ret (v := .agg #[.string bob, .string ByteArray.empty, .string (realmS (n / 3))]) (by simp [results, Try.results39, go_sem, s0, s1, s2, hz']; exact ⟨rfl, rfl⟩) rfl ⟨by rw [HF.out], ?_⟩
    all_goals (first | exact set3 HB.out _ _ _ | exact bthen (set3 HB.out _ _ _) (Below.alloc1 _ _))
  · have HF : Hid (userS n = cat) := Lib.hid (by simp [userS, h3])
    rw [h3] at hm hwm
    clear h3
    go_enter Try.func39, Try.ntmps39
    go_wp2
    go_region_with (go_at_call 32; refine (HRE.out _).mono ?_; rintro e w2 ⟨rfl, hb⟩; have HA : Hid (Below (w.alloc (.cells #[.string ByteArray.empty, .string ByteArray.empty, .string ByteArray.empty] 34)).heap.size (w.alloc (.cells #[.string ByteArray.empty, .string ByteArray.empty, .string ByteArray.empty] 34)) w2) := (by first | exact Lib.hid (bthen (bthen (Below.alloc1 _ _) (Below.drewN1 _ 1 _)) hb) | exact Lib.hid (bthen (Below.drewN1 _ 1 _) hb)); have HB := Lib.hid (bthen (Below.alloc1 w (.cells #[.string ByteArray.empty, .string ByteArray.empty, .string ByteArray.empty] 34)) HA.out); obtain ⟨s0, s1, s2, t0, t1, t2, hz'⟩ := res3 HA.out; obtain ⟨hc, _⟩ := bcell hb; clear hb HA)
    all_goals go_wp2
    all_goals refine bodyPost_ret (v := .agg #[.string cat, .string ByteArray.empty, .string (realmS (n / 3))]) (by simp [results, Try.results39, go_sem, s0, s1, s2, hz']; exact ⟨rfl, rfl⟩) rfl ⟨by rw [HF.out], ?_⟩
    all_goals (first | exact set3 HB.out _ _ _ | exact bthen (set3 HB.out _ _ _) (Below.alloc1 _ _))
end Go.Proofs.Ytegcdefdkebmnaa
