/- Contracts of the reference of package principal. -/
import Derived.Test.YtegcdefdkebmnaaPrin
namespace Go.Proofs.Ytegcdefdkebmnaa
open Go.RowKit

theorem contains_take {t : ByteArray} {c : UInt8} {j : Nat} (hj : j < t.size) (h : (t.data.toList.take j).contains c = false) (hne : ¬ t[j] = c) : (t.data.toList.take (j + 1)).contains c = false := by
  rw [List.take_succ_eq_append_getElem (by simpa using hj)]
  have : t.data.toList[j]'(by simpa using hj) = t[j] := rfl
  rw [this]
  simp at h ⊢
  exact ⟨h, fun e => hne e.symm⟩
theorem contains_at {t : ByteArray} {c : UInt8} {j : Nat} (hj : j < t.size) (h : t[j] = c) : t.data.toList.contains c = true := by
  simp only [List.contains_iff_mem]
  rw [← h]
  exact Array.getElem_mem_toList (xs := t.data) hj
theorem contains_done {t : ByteArray} {c : UInt8} {j : Nat} (hj : ¬ j < t.size) (h : (t.data.toList.take j).contains c = false) : t.data.toList.contains c = false := by
  rwa [List.take_of_length_le (by simp; omega)] at h

set_option maxHeartbeats 1000000 in
theorem text_any (s t : ByteArray) (w : World) (hs : s.size ≤ maxLen) (ht : t.size ≤ 100) :
    Calls Try.prog 64 #[.string s, .string t] w fun e w' => e = .returned (.bool (decide (s.size ≤ 39) && txt t.data.toList s)) ∧ ∃ n, w' = w.drewN n := by
  unfold maxLen at hs
  go_enter Try.func64, Try.ntmps64
  go_wp2
  go_loopw [5] (fun i wr => ∃ k m : Nat, k ≤ s.size ∧ i = .int .i64 k ∧ wr = w.drewN m ∧ Hid ((s.data.toList.take k).all (okC t.data.toList) = true)) (fun i _ => s.size - (intOf i).toNat)
  case atStart => exact ⟨0, 0, Nat.zero_le _, rfl, rfl, Lib.hid rfl⟩
  case round =>
    obtain ⟨k, m, hk, rfl, rfl, H⟩ := hrel
    by_cases hlt : k < s.size
    · have HS := Lib.hid (all_take (p := okC t.data.toList) hlt)
      have HF := Lib.hid (all_not (p := okC t.data.toList) hlt)
      by_cases h1 : s[k].toNat < 33
      · have HO : Hid (okC t.data.toList s[k] = false) := Lib.hid (by simp [okC]; omega)
        have h1' : decide ((s[k].toNat : Int) < 33) = true := by simp; omega
        go_wp2
        go_ret
        exact ⟨ret_bool (by unfold txt; rw [HF.out HO.out]; simp), m, rfl⟩
      have h1' : decide ((s[k].toNat : Int) < 33) = false := by simp; omega
      by_cases h2 : 126 < s[k].toNat
      · have HO : Hid (okC t.data.toList s[k] = false) := Lib.hid (by simp [okC]; omega)
        have h2' : decide (126 < (s[k].toNat : Int)) = true := by simp; omega
        go_wp2
        go_ret
        exact ⟨ret_bool (by unfold txt; rw [HF.out HO.out]; simp), m, rfl⟩
      have h2' : decide (126 < (s[k].toNat : Int)) = false := by simp; omega
      go_wp2
      go_loopw [6] (fun i wr => ∃ j m : Nat, j ≤ t.size ∧ i = .int .i64 j ∧ wr = w.drewN m ∧ Hid ((t.data.toList.take j).contains s[k] = false)) (fun i _ => t.size - (intOf i).toNat)
      case atStart => exact ⟨0, m, Nat.zero_le _, rfl, rfl, Lib.hid rfl⟩
      case round =>
        obtain ⟨j, m', hj, rfl, rfl, HJ⟩ := hrel
        by_cases hjt : j < t.size
        · have q1 : (0 : Int) ≤ (k : Int) := by omega
          have q2 : (k : Int) < (s.size : Int) := by omega
          have q3 : (0 : Int) ≤ (j : Int) := by omega
          have q4 : (j : Int) < (t.size : Int) := by omega
          by_cases he : t[j] = s[k]
          · have HC := Lib.hid (contains_at hjt he)
            have he' : ((s[k].toNat : Int) == (t[j].toNat : Int)) = true := by simp [he]
            have HO : Hid (okC t.data.toList s[k] = false) := Lib.hid (by rw [okC, HC.out]; simp)
            have HE := Lib.hid he
            clear he
            go_wp2
            go_quiet (fail)
            go_wp2
            go_ret
            exact ⟨ret_bool (by unfold txt; rw [HF.out HO.out]; simp), _, World.drewN_drewN _ _ _⟩
          · have HC := Lib.hid (contains_take hjt HJ.out he)
            have he' : ((s[k].toNat : Int) == (t[j].toNat : Int)) = false := by
              simp only [beq_eq_false_iff_ne, ne_eq, Int.natCast_inj]
              exact fun h => he (UInt8.toNat_inj.1 h).symm
            have HE := Lib.hid he
            clear he
            go_wp2
            go_quiet (fail)
            go_wp2
            go_roundw
            case rel => exact ⟨j + 1, _, by omega, by go_num, rfl, HC⟩
            case measure => simp [intOf]; omega
        · have HC := Lib.hid (contains_done hjt HJ.out)
          have HO : Hid (okC t.data.toList s[k] = true) := Lib.hid (by rw [okC, HC.out]; simp; omega)
          go_wp2
          go_roundw
          case rel => exact ⟨k + 1, _, by omega, by go_num, rfl, Lib.hid (by rw [HS.out, H.out, HO.out]; rfl)⟩
          case measure => simp [intOf]; omega
    · have HD := Lib.hid (all_done hlt H.out)
      go_wp2
      go_ret
      exact ⟨ret_bool (by unfold txt; rw [HD.out]; simp; omega), _, rfl⟩

theorem empty_size (s : ByteArray) : s.toList.isEmpty = decide (s.size = 0) := by
  rw [Bool.eq_iff_iff, List.isEmpty_iff, ByteArray.toList_eq, decide_eq_true_eq]
  constructor
  · intro h; have := congrArg List.length h; simpa using this
  · intro h; exact List.eq_nil_of_length_eq_zero (by simpa using h)
set_option maxHeartbeats 400000 in
theorem refName_any (s : ByteArray) (w : World) (hs : s.size ≤ maxLen) :
    Calls Try.prog 59 #[.string s] w fun e w' => e = .returned (.bool (nameB s)) ∧ ∃ n, w' = w.drewN n := by
  have hs' := hs
  unfold maxLen at hs'
  by_cases h0 : s.size = 0
  · have HF : Hid (nameB s = false) := Lib.hid (by unfold nameB; rw [empty_size, decide_eq_true h0]; simp)
    have h0' : decide (0 < s.size) = false := by rw [h0]; rfl
    clear h0
    go_enter Try.func59, Try.ntmps59
    go_wp2
    go_ret
    exact ⟨ret_bool HF.out.symm, 0, rfl⟩
  · have HF : Hid (nameB s = (decide (s.size ≤ 39) && txt [46, 64] s)) := Lib.hid (by unfold nameB; rw [empty_size, decide_eq_false h0]; simp)
    have h0' : 0 < s.size := Nat.pos_of_ne_zero h0
    clear h0
    go_enter Try.func59, Try.ntmps59
    go_wp2_with (go_at_call 64; refine (text_any _ _ _ hs (by decide)).mono ?_; rintro e w' ⟨rfl, m, rfl⟩)
    go_ret
    exact ⟨ret_bool HF.out.symm, m, rfl⟩
set_option maxHeartbeats 400000 in
theorem refInstance_any (s : ByteArray) (w : World) (hs : s.size ≤ maxLen) :
    Calls Try.prog 60 #[.string s] w fun e w' => e = .returned (.bool (instB s)) ∧ ∃ n, w' = w.drewN n := by
  have hs' := hs
  unfold maxLen at hs'
  go_enter Try.func60, Try.ntmps60
  go_wp2_with (go_at_call 64; refine (text_any _ _ _ hs (by decide)).mono ?_; rintro e w' ⟨rfl, m, rfl⟩)
  go_ret
  exact ⟨rfl, m, rfl⟩
set_option maxHeartbeats 400000 in
theorem refRealm_any (s : ByteArray) (w : World) (hs : s.size ≤ maxLen) :
    Calls Try.prog 52 #[.string s] w fun e w' => e = .returned (.bool (realmB s)) ∧ ∃ n, w' = w.drewN n := by
  have hs' := hs
  unfold maxLen at hs'
  by_cases h0 : s.size = 0
  · have HF : Hid (realmB s = false) := Lib.hid (by unfold realmB; rw [empty_size, decide_eq_true h0]; simp)
    have h0' : decide (0 < s.size) = false := by rw [h0]; rfl
    clear h0
    go_enter Try.func52, Try.ntmps52
    go_wp2
    go_ret
    exact ⟨ret_bool HF.out.symm, 0, rfl⟩
  · have HF : Hid (realmB s = (decide (s.size ≤ 39) && txt [64] s)) := Lib.hid (by unfold realmB; rw [empty_size, decide_eq_false h0]; rfl)
    have h0' : 0 < s.size := Nat.pos_of_ne_zero h0
    clear h0
    go_enter Try.func52, Try.ntmps52
    go_wp2_with (go_at_call 64; refine (text_any _ _ _ hs (by decide)).mono ?_; rintro e w' ⟨rfl, m, rfl⟩)
    go_ret
    exact ⟨ret_bool HF.out.symm, m, rfl⟩
set_option maxHeartbeats 1000000 in
theorem refValid_p_any (n i r : ByteArray) (w : World) (hn : n.size ≤ maxLen) (hi : i.size ≤ maxLen) (hr : r.size ≤ maxLen) :
    Calls Try.prog 43 #[.agg #[.string n, .string i, .string r]] w fun e w' => e = .returned (.bool (prinB n i r)) ∧ Below w.heap.size w w' := by
  have HB : Hid (∀ k, Below w.heap.size w ((w.alloc (.cells #[.string n, .string i, .string r] 34)).drewN k)) := Lib.hid (fun k => bthen (Below.alloc1 w (.cells #[.string n, .string i, .string r] 34)) (Below.drewN1 _ k _))
  cases h1 : nameB n
  · have HF : Hid (prinB n i r = false) := Lib.hid (by unfold prinB; rw [h1]; rfl)
    go_enter Try.func43, Try.ntmps43
    go_wp2_with (go_at_call 59; refine (refName_any _ _ hn).mono ?_; rintro e w' ⟨rfl, m1, rfl⟩)
    go_ret
    exact ⟨ret_bool HF.out.symm, HB.out _⟩
  cases h2 : instB i
  · have HF : Hid (prinB n i r = false) := Lib.hid (by unfold prinB; rw [h1, h2]; rfl)
    go_enter Try.func43, Try.ntmps43
    go_wp2_with (first | (go_at_call 59; refine (refName_any _ _ hn).mono ?_; rintro e w' ⟨rfl, m1, rfl⟩) | (go_at_call 60; refine (refInstance_any _ _ hi).mono ?_; rintro e w' ⟨rfl, m2, rfl⟩))
    go_ret
    exact ⟨ret_bool HF.out.symm, HB.out _⟩
  · have HF : Hid (prinB n i r = realmB r) := Lib.hid (by unfold prinB; rw [h1, h2]; rfl)
    go_enter Try.func43, Try.ntmps43
    go_wp2_with (first | (go_at_call 59; refine (refName_any _ _ hn).mono ?_; rintro e w' ⟨rfl, m1, rfl⟩) | (go_at_call 60; refine (refInstance_any _ _ hi).mono ?_; rintro e w' ⟨rfl, m2, rfl⟩) | (go_at_call 52; refine (refRealm_any _ _ hr).mono ?_; rintro e w' ⟨rfl, m3, rfl⟩))
    go_ret
    exact ⟨ret_bool HF.out.symm, HB.out _⟩
end Go.Proofs.Ytegcdefdkebmnaa
