/- Contracts of package principal (printable, ValidName, ValidInstance, ValidRealm, Valid). -/
import Derived.Test.YtegcdefdkebmnaaBase
import Derived.Test.YtegcdefdkebmnaaShelf
import Derived.Lib.IndexAny
import Derived.Lib.Strings
namespace Go.Proofs.Ytegcdefdkebmnaa
open Go.RowKit

def okC (bad : List UInt8) (c : UInt8) : Bool := decide (33 ≤ c.toNat ∧ c.toNat ≤ 126) && !bad.contains c
def txt (bad : List UInt8) (s : ByteArray) : Bool := s.data.toList.all (okC bad)
def nameB (s : ByteArray) : Bool := !s.toList.isEmpty && decide (s.size ≤ 39) && txt [46, 64] s
def instB (s : ByteArray) : Bool := decide (s.size ≤ 39) && txt [64] s
def realmB (s : ByteArray) : Bool := !s.toList.isEmpty && instB s
def prinB (n i r : ByteArray) : Bool := nameB n && instB i && realmB r

theorem all_take {s : ByteArray} {p : UInt8 → Bool} {k : Nat} (hk : k < s.size) : (s.data.toList.take (k + 1)).all p = ((s.data.toList.take k).all p && p s[k]) := by
  rw [List.take_succ_eq_append_getElem (by simpa using hk), List.all_append]
  simp; rfl
theorem all_not {s : ByteArray} {p : UInt8 → Bool} {k : Nat} (hk : k < s.size) (h : p s[k] = false) : s.data.toList.all p = false := by
  rw [← Bool.not_eq_true, List.all_eq_true]
  intro h2
  have := h2 s[k] (Array.getElem_mem_toList (xs := s.data) hk)
  rw [h] at this
  cases this
theorem all_done {s : ByteArray} {p : UInt8 → Bool} {k : Nat} (hk : ¬ k < s.size) (h : (s.data.toList.take k).all p = true) : s.data.toList.all p = true := by
  rwa [List.take_of_length_le (by simp; omega)] at h
theorem u8_back (c : UInt8) : ((c.toNat : Int)).toNat.toUInt8 = c := by simp

set_option maxHeartbeats 1000000 in
theorem printable_any (s t : ByteArray) (w : World) (hs : s.size ≤ maxLen) :
    Calls Try.prog 69 #[.string s, .string t] w fun e w' => e = .returned (.bool (txt t.data.toList s)) ∧ w = w' := by
  unfold maxLen at hs
  go_enter Try.func69, Try.ntmps69
  go_wp2
  go_loop [8] (fun i => ∃ k : Nat, k ≤ s.size ∧ i = .int .i64 k ∧ Hid ((s.data.toList.take k).all (okC t.data.toList) = true)) (fun i => s.size - (intOf i).toNat)
  case atStart => exact ⟨0, Nat.zero_le _, rfl, Lib.hid rfl⟩
  case round =>
    obtain ⟨k, hk, rfl, H⟩ := hrel
    by_cases hlt : k < s.size
    · have HS := Lib.hid (all_take (p := okC t.data.toList) hlt)
      have HF := Lib.hid (all_not (p := okC t.data.toList) hlt)
      by_cases h1 : s[k].toNat < 33
      · have HO : Hid (okC t.data.toList s[k] = false) := Lib.hid (by simp [okC]; omega)
        have h1' : decide ((s[k].toNat : Int) < 33) = true := by simp; omega
        go_wp2
        go_ret
        exact ⟨ret_bool (by unfold txt; rw [HF.out HO.out]), rfl⟩
      have h1' : decide ((s[k].toNat : Int) < 33) = false := by simp; omega
      by_cases h2 : 126 < s[k].toNat
      · have HO : Hid (okC t.data.toList s[k] = false) := Lib.hid (by simp [okC]; omega)
        have h2' : decide (126 < (s[k].toNat : Int)) = true := by simp; omega
        go_wp2
        go_ret
        exact ⟨ret_bool (by unfold txt; rw [HF.out HO.out]), rfl⟩
      have h2' : decide (126 < (s[k].toNat : Int)) = false := by simp; omega
      by_cases h3 : 0 ≤ Lib.indexByte t.data.toList s[k]
      · have HO : Hid (okC t.data.toList s[k] = false) := Lib.hid (by rw [okC, Lib.contains_iff_indexByte, decide_eq_true h3]; simp)
        have h3' : decide (0 ≤ Lib.indexByte t.data.toList s[k]) = true := by simpa using h3
        go_wp2_with (go_at_call 83; refine (Try.strings_IndexByte _ _ _).mono ?_; rintro e w' ⟨rfl, rfl⟩; simp only [u8_back])
        go_ret
        exact ⟨ret_bool (by unfold txt; rw [HF.out HO.out]), rfl⟩
      · have HO : Hid (okC t.data.toList s[k] = true) := Lib.hid (by simp only [okC, Lib.contains_iff_indexByte, h3]; simp; omega)
        have h3' : decide (0 ≤ Lib.indexByte t.data.toList s[k]) = false := by simpa using h3
        go_wp2_with (go_at_call 83; refine (Try.strings_IndexByte _ _ _).mono ?_; rintro e w' ⟨rfl, rfl⟩; simp only [u8_back])
        go_round
        case rel => exact ⟨k + 1, by omega, by go_num, Lib.hid (by rw [HS.out, H.out, HO.out]; rfl)⟩
        case measure => simp [intOf]; omega
    · go_wp2
      go_ret
      exact ⟨ret_bool (by unfold txt; rw [all_done hlt H.out]), rfl⟩

theorem bad2 : (⟨#[46, 64]⟩ : ByteArray).data.toList = [46, 64] := rfl
theorem bad1 : (⟨#[64]⟩ : ByteArray).data.toList = [64] := rfl

set_option maxHeartbeats 400000 in
theorem validName_any (s : ByteArray) (w : World) (hs : s.size ≤ maxLen) :
    Calls Try.prog 57 #[.string s] w fun e w' => e = .returned (.bool (nameB s)) ∧ w = w' := by
  have hs' := hs
  unfold maxLen at hs'
  cases he : s.toList.isEmpty
  · by_cases hl : s.size ≤ 39
    · have HF : Hid (nameB s = txt [46, 64] s) := Lib.hid (by unfold nameB; rw [he, decide_eq_true hl]; simp)
      have hl' : decide ((s.size : Int) ≤ 39) = true := by simp; omega
      go_enter Try.func57, Try.ntmps57
      go_wp2_with (go_at_call 69; refine (printable_any _ _ _ hs).mono ?_; rintro e w' ⟨rfl, rfl⟩)
      go_ret
      exact ⟨ret_bool HF.out.symm, rfl⟩
    · have HF : Hid (nameB s = false) := Lib.hid (by unfold nameB; rw [he, decide_eq_false hl]; simp)
      have hl' : decide ((s.size : Int) ≤ 39) = false := by simp; omega
      go_enter Try.func57, Try.ntmps57
      go_wp2
      go_ret
      exact ⟨ret_bool HF.out.symm, rfl⟩
  · have HF : Hid (nameB s = false) := Lib.hid (by unfold nameB; rw [he]; simp)
    go_enter Try.func57, Try.ntmps57
    go_wp2
    go_ret
    exact ⟨ret_bool HF.out.symm, rfl⟩
set_option maxHeartbeats 400000 in
theorem validInstance_any (s : ByteArray) (w : World) (hs : s.size ≤ maxLen) :
    Calls Try.prog 58 #[.string s] w fun e w' => e = .returned (.bool (instB s)) ∧ w = w' := by
  have hs' := hs
  unfold maxLen at hs'
  by_cases hl : s.size ≤ 39
  · have HF : Hid (instB s = txt [64] s) := Lib.hid (by unfold instB; rw [decide_eq_true hl]; simp)
    have hl' : decide ((s.size : Int) ≤ 39) = true := by simp; omega
    go_enter Try.func58, Try.ntmps58
    go_wp2_with (go_at_call 69; refine (printable_any _ _ _ hs).mono ?_; rintro e w' ⟨rfl, rfl⟩)
    go_ret
    exact ⟨ret_bool HF.out.symm, rfl⟩
  · have HF : Hid (instB s = false) := Lib.hid (by unfold instB; rw [decide_eq_false hl]; simp)
    have hl' : decide ((s.size : Int) ≤ 39) = false := by simp; omega
    go_enter Try.func58, Try.ntmps58
    go_wp2
    go_ret
    exact ⟨ret_bool HF.out.symm, rfl⟩
set_option maxHeartbeats 400000 in
theorem validRealm_any (s : ByteArray) (w : World) (hs : s.size ≤ maxLen) :
    Calls Try.prog 49 #[.string s] w fun e w' => e = .returned (.bool (realmB s)) ∧ w = w' := by
  cases he : s.toList.isEmpty
  · have HF : Hid (realmB s = instB s) := Lib.hid (by unfold realmB; rw [he]; simp)
    go_enter Try.func49, Try.ntmps49
    go_wp2_with (go_at_call 58; refine (validInstance_any _ _ hs).mono ?_; rintro e w' ⟨rfl, rfl⟩)
    go_ret
    exact ⟨ret_bool HF.out.symm, rfl⟩
  · have HF : Hid (realmB s = false) := Lib.hid (by unfold realmB; rw [he]; simp)
    go_enter Try.func49, Try.ntmps49
    go_wp2
    go_ret
    exact ⟨ret_bool HF.out.symm, rfl⟩
set_option maxHeartbeats 1000000 in
theorem valid_p_any (n i r : ByteArray) (w : World) (hn : n.size ≤ maxLen) (hi : i.size ≤ maxLen) (hr : r.size ≤ maxLen) :
    Calls Try.prog 41 #[.agg #[.string n, .string i, .string r]] w fun e w' => e = .returned (.bool (prinB n i r)) ∧ Below w.heap.size w w' := by
  have HB := Lib.hid (Below.alloc1 w (.cells #[.string n, .string i, .string r] 34))
  cases h1 : nameB n
  · have HF : Hid (prinB n i r = false) := Lib.hid (by unfold prinB; rw [h1]; rfl)
    go_enter Try.func41, Try.ntmps41
    go_wp2_with (go_at_call 57; refine (validName_any _ _ hn).mono ?_; rintro e w' ⟨rfl, rfl⟩)
    go_ret
    exact ⟨ret_bool HF.out.symm, HB.out⟩
  cases h2 : instB i
  · have HF : Hid (prinB n i r = false) := Lib.hid (by unfold prinB; rw [h1, h2]; rfl)
    go_enter Try.func41, Try.ntmps41
    go_wp2_with (first | (go_at_call 57; refine (validName_any _ _ hn).mono ?_; rintro e w' ⟨rfl, rfl⟩) | (go_at_call 58; refine (validInstance_any _ _ hi).mono ?_; rintro e w' ⟨rfl, rfl⟩))
    go_ret
    exact ⟨ret_bool HF.out.symm, HB.out⟩
  · have HF : Hid (prinB n i r = realmB r) := Lib.hid (by unfold prinB; rw [h1, h2]; rfl)
    go_enter Try.func41, Try.ntmps41
    go_wp2_with (first | (go_at_call 57; refine (validName_any _ _ hn).mono ?_; rintro e w' ⟨rfl, rfl⟩) | (go_at_call 58; refine (validInstance_any _ _ hi).mono ?_; rintro e w' ⟨rfl, rfl⟩) | (go_at_call 49; refine (validRealm_any _ _ hr).mono ?_; rintro e w' ⟨rfl, rfl⟩))
    go_ret
    exact ⟨ret_bool HF.out.symm, HB.out⟩
end Go.Proofs.Ytegcdefdkebmnaa
