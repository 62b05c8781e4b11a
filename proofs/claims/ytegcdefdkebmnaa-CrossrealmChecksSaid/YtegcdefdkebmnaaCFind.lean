/- Contracts of crossrealm.Find and of the reference's Find. -/
import Derived.Test.YtegcdefdkebmnaaCross
import Derived.Test.YtegcdefdkebmnaaQuiet
namespace Go.Proofs.Ytegcdefdkebmnaa
open Go.RowKit

def kvAt (l : List Ck) (j : Nat) : Int := match l[j]? with | some y => y.kv | none => 0
/-- the latest one among the first k -/
def fdAt (f t : ByteArray) (l : List Ck) : Nat → Option Nat
  | 0 => none
  | k + 1 => match l[k]? with
    | none => fdAt f t l k
    | some x => if x.fr.toList = f.toList ∧ x.to.toList = t.toList then (match fdAt f t l k with | none => some k | some j => if kvAt l j < x.kv then some k else some j) else fdAt f t l k
theorem fd_skip {f t : ByteArray} {l : List Ck} {k : Nat} {x : Ck} (hx : l[k]? = some x) (h : ¬ (x.fr.toList = f.toList ∧ x.to.toList = t.toList)) : fdAt f t l (k + 1) = fdAt f t l k := by
  rw [fdAt, hx]; simp only [if_neg h]
theorem fd_first {f t : ByteArray} {l : List Ck} {k : Nat} {x : Ck} (hx : l[k]? = some x) (h : x.fr.toList = f.toList ∧ x.to.toList = t.toList) (h0 : fdAt f t l k = none) : fdAt f t l (k + 1) = some k := by
  rw [fdAt, hx]; simp only [if_pos h, h0]
theorem fd_more {f t : ByteArray} {l : List Ck} {k j : Nat} {x y : Ck} (hx : l[k]? = some x) (h : x.fr.toList = f.toList ∧ x.to.toList = t.toList) (h0 : fdAt f t l k = some j) (hy : l[j]? = some y) (hlt : y.kv < x.kv) : fdAt f t l (k + 1) = some k := by
  rw [fdAt, hx]; simp only [if_pos h, h0, kvAt, hy, if_pos hlt]
theorem fd_keep {f t : ByteArray} {l : List Ck} {k j : Nat} {x y : Ck} (hx : l[k]? = some x) (h : x.fr.toList = f.toList ∧ x.to.toList = t.toList) (h0 : fdAt f t l k = some j) (hy : l[j]? = some y) (hlt : ¬ y.kv < x.kv) : fdAt f t l (k + 1) = some j := by
  rw [fdAt, hx]; simp only [if_pos h, h0, kvAt, hy, if_neg hlt]
theorem fd_lt {f t : ByteArray} {l : List Ck} : ∀ {k j : Nat}, fdAt f t l k = some j → j < k ∧ ∃ y, l[j]? = some y ∧ y.fr.toList = f.toList ∧ y.to.toList = t.toList
  | 0, j, h => by simp [fdAt] at h
  | k + 1, j, h => by
    rw [fdAt] at h
    split at h
    · have := fd_lt h; exact ⟨by omega, this.2⟩
    · rename_i x hx
      split at h
      · rename_i hm
        split at h
        · cases h; exact ⟨by omega, x, hx, hm⟩
        · rename_i i hi
          split at h
          · cases h; exact ⟨by omega, x, hx, hm⟩
          · cases h; have := fd_lt hi; exact ⟨by omega, this.2⟩
      · have := fd_lt h; exact ⟨by omega, this.2⟩
def fdI (f t : ByteArray) (l : List Ck) : Int := match fdAt f t l l.length with | some i => i | none => 0
def fdB (f t : ByteArray) (l : List Ck) : Bool := (fdAt f t l l.length).isSome
theorem fd_none {f t : ByteArray} {l : List Ck} {k : Nat} (h : fdAt f t l k = none) (hk : l.length = k) : fdI f t l = 0 ∧ fdB f t l = false := by subst hk; simp [fdI, fdB, h]
theorem fd_some {f t : ByteArray} {l : List Ck} {k j : Nat} (h : fdAt f t l k = some j) (hk : l.length = k) : fdI f t l = j ∧ fdB f t l = true := by subst hk; simp [fdI, fdB, h]

set_option maxHeartbeats 2000000 in
theorem find_any (a : Option Addr) (len cap : Nat) (ms : List Ck) (f t : ByteArray) (w : World) (hr : FRow w a len 4 (ccells ms)) (hl : len ≤ 9223372036854775807) :
    Calls Try.prog 34 #[.slice a len cap, .string f, .string t] w fun e w' => e = .returned (.tuple #[.int .i64 (fdI f t ms), .bool (fdB f t ms)]) ∧ Below w.heap.size w w' := by
  have HR := Lib.hid hr
  have HL := Lib.hid hr.clen
  clear hr
  go_enter Try.func34, Try.ntmps34
  go_wp2
  go_loopw [8, 9, 14] (fun p q i wr => ∃ k : Nat, k ≤ len ∧ i = .int .i64 k ∧ Hid (Below w.heap.size w wr) ∧ ((p = .int .i64 0 ∧ q = .bool false ∧ Hid (fdAt f t ms k = none)) ∨ ∃ j : Nat, p = .int .i64 j ∧ q = .bool true ∧ Hid (fdAt f t ms k = some j))) (fun _ _ i _ => len - (intOf i).toNat)
  case atStart => exact ⟨0, Nat.zero_le _, rfl, Lib.hid (Below.refl _ _), .inl ⟨rfl, rfl, Lib.hid rfl⟩⟩
  case round =>
    obtain ⟨k, hk, rfl, HB, H⟩ := hrel
    by_cases hlt : k < len
    · obtain ⟨b, off, x, rfl, hx, c0, c1, c2, c3⟩ := (HR.out.below HB.out).ck hlt
      have HX := Lib.hid hx
      have hz : b < wr.heap.size := World.block_lt_of_cell? _ _ c0
      have HBB : Hid (Below w.heap.size w (wr.alloc (.cells #[.string x.fr, .string x.to, .int .i64 x.kv, .int .u64 x.ky] 54))) := Lib.hid (bthen HB.out (Below.alloc1 _ _))
      clear hx
      by_cases h1 : x.fr.toList = f.toList
      · by_cases h2 : x.to.toList = t.toList
        · rcases H with ⟨rfl, rfl, H⟩ | ⟨j, rfl, rfl, H⟩
          · have HC := Lib.hid (fd_first HX.out ⟨h1, h2⟩ H.out)
            go_wp2
            go_quiet (fail)
            go_wp2
            go_roundw
            case rel => exact ⟨k + 1, by omega, by go_num, Lib.hid (bthen HBB.out (Below.drewN1 _ _ _)), .inr ⟨k, rfl, rfl, HC⟩⟩
            case measure => simp [intOf]; omega
          · obtain ⟨hj, y0, hy0, _⟩ := fd_lt H.out
            obtain ⟨b', off', y, hbo, hy, d0, d1, d2, d3⟩ := (HR.out.below HB.out).ck (k := j) (by omega)
            obtain ⟨rfl, rfl⟩ : b = b' ∧ off = off' := by simpa using hbo
            have HY := Lib.hid hy
            have q1 : (0 : Int) ≤ (j : Int) := by omega
            have q2 : (j : Int) < (len : Int) := by omega
            clear hy0 hy hbo d0 d1 d3
            by_cases h3 : y.kv < x.kv
            · have HC := Lib.hid (fd_more HX.out ⟨h1, h2⟩ H.out HY.out h3)
              go_wp2
              go_quiet (fail)
              go_wp2
              go_roundw
              case rel => exact ⟨k + 1, by omega, by go_num, Lib.hid (bthen HBB.out (Below.drewN1 _ _ _)), .inr ⟨k, rfl, rfl, HC⟩⟩
              case measure => simp [intOf]; omega
            · have HC := Lib.hid (fd_keep HX.out ⟨h1, h2⟩ H.out HY.out h3)
              go_wp2
              go_quiet (fail)
              go_wp2
              go_roundw
              case rel => exact ⟨k + 1, by omega, by go_num, Lib.hid (bthen HBB.out (Below.drewN1 _ _ _)), .inr ⟨j, rfl, rfl, HC⟩⟩
              case measure => simp [intOf]; omega
        · have HC := Lib.hid (fd_skip (f := f) (t := t) HX.out (fun h => h2 h.2))
          have h2e : (x.to.toList == t.toList) = false := by simpa using h2
          go_wp2
          go_roundw
          case rel => exact ⟨k + 1, by omega, by go_num, HBB, by rw [HC.out]; exact H⟩
          case measure => simp [intOf]; omega
      · have HC := Lib.hid (fd_skip (f := f) (t := t) HX.out (fun h => h1 h.1))
        have h1e : (x.fr.toList == f.toList) = false := by simpa using h1
        go_wp2
        go_roundw
        case rel => exact ⟨k + 1, by omega, by go_num, HBB, by rw [HC.out]; exact H⟩
        case measure => simp [intOf]; omega
    · have hke : ms.length = k := by have := HL.out; omega
      have HKE := Lib.hid hke
      clear hke
      rcases H with ⟨rfl, rfl, H⟩ | ⟨j, rfl, rfl, H⟩
      · have HC := Lib.hid (fd_none H.out HKE.out)
        go_wp2
        go_ret2
        exact ⟨ret_ib HC.out.1.symm HC.out.2.symm, HB.out⟩
      · have HC := Lib.hid (fd_some H.out HKE.out)
        go_wp2
        go_ret2
        exact ⟨ret_ib HC.out.1.symm HC.out.2.symm, HB.out⟩

set_option maxHeartbeats 2000000 in
theorem refFind_any (a : Option Addr) (len cap : Nat) (ms : List Ck) (f t : ByteArray) (w : World) (hr : FRow w a len 4 (ccells ms)) (hl : len ≤ 9223372036854775807) :
    Calls Try.prog 35 #[.slice a len cap, .string f, .string t] w fun e w' => e = .returned (.tuple #[.int .i64 (fdI f t ms), .bool (fdB f t ms)]) ∧ Below w.heap.size w w' := by
  have HR := Lib.hid hr
  have HL := Lib.hid hr.clen
  clear hr
  go_enter Try.func35, Try.ntmps35
  go_wp2
  go_loopw [8, 9] (fun p i wr => ∃ k : Nat, k ≤ len ∧ i = .int .i64 k ∧ Hid (Below w.heap.size w wr) ∧ ((p = .int .i64 (-1) ∧ Hid (fdAt f t ms k = none)) ∨ ∃ j : Nat, p = .int .i64 j ∧ Hid (fdAt f t ms k = some j))) (fun _ i _ => len - (intOf i).toNat)
  case atStart => exact ⟨0, Nat.zero_le _, rfl, Lib.hid (Below.refl _ _), .inl ⟨rfl, Lib.hid rfl⟩⟩
  case round =>
    obtain ⟨k, hk, rfl, HB, H⟩ := hrel
    by_cases hlt : k < len
    · obtain ⟨b, off, x, rfl, hx, c0, c1, c2, c3⟩ := (HR.out.below HB.out).ck hlt
      have HX := Lib.hid hx
      have q1 : (0 : Int) ≤ (k : Int) := by omega
      have q2 : (k : Int) < (len : Int) := by omega
      have c0' := BX.cell c0
      have c1' := BX.cell c1
      have c2' := BX.cell c2
      clear hx c0 c1 c2 c3
      by_cases h1 : x.fr.toList = f.toList
      · by_cases h2 : x.to.toList = t.toList
        · rcases H with ⟨rfl, H⟩ | ⟨j, rfl, H⟩
          · have HC := Lib.hid (fd_first HX.out ⟨h1, h2⟩ H.out)
            go_wp2
            refine wp_region_below (by kernel_rfl) (by kernel_rfl) ?_
            repeat (go_big_quiet_step (fail))
            refine wpQuiet_nil ?_
            rintro _ ⟨xq, rfl⟩
            go_wp2
            go_roundw
            case rel => exact ⟨k + 1, by omega, by go_num, Lib.hid (bthen HB.out xq.h), .inr ⟨k, rfl, HC⟩⟩
            case measure => simp [intOf]; omega
          · obtain ⟨hj, y0, hy0, _⟩ := fd_lt H.out
            obtain ⟨b', off', y, hbo, hy, d0, d1, d2, d3⟩ := (HR.out.below HB.out).ck (k := j) (by omega)
            obtain ⟨rfl, rfl⟩ : b = b' ∧ off = off' := by simpa using hbo
            have HY := Lib.hid hy
            have r1 : (0 : Int) ≤ (j : Int) := by omega
            have r2 : (j : Int) < (len : Int) := by omega
            have r3 : decide ((j : Int) < 0) = false := by simp
            have d2' := BX.cell d2
            clear hy0 hy hbo d0 d1 d2 d3
            by_cases h3 : y.kv < x.kv
            · have HC := Lib.hid (fd_more HX.out ⟨h1, h2⟩ H.out HY.out h3)
              go_wp2
              refine wp_region_below (by kernel_rfl) (by kernel_rfl) ?_
              repeat (go_big_quiet_step (fail))
              refine wpQuiet_nil ?_
              rintro _ ⟨xq, rfl⟩
              go_wp2
              go_roundw
              case rel => exact ⟨k + 1, by omega, by go_num, Lib.hid (bthen HB.out xq.h), .inr ⟨k, rfl, HC⟩⟩
              case measure => simp [intOf]; omega
            · have HC := Lib.hid (fd_keep HX.out ⟨h1, h2⟩ H.out HY.out h3)
              go_wp2
              refine wp_region_below (by kernel_rfl) (by kernel_rfl) ?_
              repeat (go_big_quiet_step (fail))
              refine wpQuiet_nil ?_
              rintro _ ⟨xq, rfl⟩
              go_wp2
              go_roundw
              case rel => exact ⟨k + 1, by omega, by go_num, Lib.hid (bthen HB.out xq.h), .inr ⟨j, rfl, HC⟩⟩
              case measure => simp [intOf]; omega
        · have HC := Lib.hid (fd_skip (f := f) (t := t) HX.out (fun h => h2 h.2))
          have h2e : (x.to.toList == t.toList) = false := by simpa using h2
          go_wp2
          refine wp_region_below (by kernel_rfl) (by kernel_rfl) ?_
          repeat (go_big_quiet_step (fail))
          refine wpQuiet_nil ?_
          rintro _ ⟨xq, rfl⟩
          go_wp2
          go_roundw
          case rel => exact ⟨k + 1, by omega, by go_num, Lib.hid (bthen HB.out xq.h), by rw [HC.out]; exact H⟩
          case measure => simp [intOf]; omega
      · have HC := Lib.hid (fd_skip (f := f) (t := t) HX.out (fun h => h1 h.1))
        have h1e : (x.fr.toList == f.toList) = false := by simpa using h1
        go_wp2
        refine wp_region_below (by kernel_rfl) (by kernel_rfl) ?_
        repeat (go_big_quiet_step (fail))
        refine wpQuiet_nil ?_
        rintro _ ⟨xq, rfl⟩
        go_wp2
        go_roundw
        case rel => exact ⟨k + 1, by omega, by go_num, Lib.hid (bthen HB.out xq.h), by rw [HC.out]; exact H⟩
        case measure => simp [intOf]; omega
    · have hke : ms.length = k := by have := HL.out; omega
      have HKE := Lib.hid hke
      clear hke
      rcases H with ⟨rfl, H⟩ | ⟨j, rfl, H⟩
      · have HC := Lib.hid (fd_none H.out HKE.out)
        go_wp2
        go_ret2
        exact ⟨ret_ib HC.out.1.symm HC.out.2.symm, HB.out⟩
      · have HC := Lib.hid (fd_some H.out HKE.out)
        have r3 : decide ((j : Int) < 0) = false := by simp
        go_wp2
        go_ret2
        exact ⟨ret_ib HC.out.1.symm HC.out.2.symm, HB.out⟩
end Go.Proofs.Ytegcdefdkebmnaa
