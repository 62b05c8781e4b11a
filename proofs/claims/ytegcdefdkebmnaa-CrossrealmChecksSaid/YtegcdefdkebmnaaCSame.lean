/- Contracts of kerbsuiteref14.Same (equal lists) and of kerbsuitelaw14.long. -/
import Derived.Test.YtegcdefdkebmnaaCross
import Derived.Test.YtegcdefdkebmnaaQuiet
namespace Go.Proofs.Ytegcdefdkebmnaa
open Go.RowKit

theorem neq_ck (x : Ck) (w : World) : (binOp .neq 54 (.agg #[.string x.fr, .string x.to, .int .i64 x.kv, .int .u64 x.ky]) (.agg #[.string x.fr, .string x.to, .int .i64 x.kv, .int .u64 x.ky])).run Try.prog w = .ok (.bool false) w := by
  go_simp
set_option maxHeartbeats 2000000 in
theorem csame_any (a b : Option Addr) (len cap cap2 : Nat) (ms : List Ck) (w : World) (hr : FRow w a len 4 (ccells ms)) (hr2 : FRow w b len 4 (ccells ms)) (hl : len ≤ 9223372036854775807) :
    Calls Try.prog 31 #[.slice a len cap, .slice b len cap2] w fun e w' => e = .returned (.bool true) ∧ Below w.heap.size w w' := by
  have HR := Lib.hid hr
  have HR2 := Lib.hid hr2
  clear hr hr2
  go_enter Try.func31, Try.ntmps31
  go_wp2
  go_loopw [5] (fun i wr => ∃ k : Nat, k ≤ len ∧ i = .int .i64 k ∧ Hid (Below w.heap.size w wr)) (fun i _ => len - (intOf i).toNat)
  case atStart => exact ⟨0, Nat.zero_le _, rfl, Lib.hid (Below.refl _ _)⟩
  case round =>
    obtain ⟨k, hk, rfl, HB⟩ := hrel
    by_cases hlt : k < len
    · obtain ⟨b1, off1, x, rfl, hx, c0, c1, c2, c3⟩ := (HR.out.below HB.out).ck hlt
      obtain ⟨b2, off2, y, rfl, hy, d0, d1, d2, d3⟩ := (HR2.out.below HB.out).ck hlt
      obtain rfl : y = x := by rw [hx] at hy; exact (Option.some.inj hy).symm
      have hq := fun W => neq_ck y W
      have q1 : (0 : Int) ≤ (k : Int) := by omega
      have q2 : (k : Int) < (len : Int) := by omega
      clear hx hy
      go_wp2
      go_quiet (fail)
      go_wp2
      go_roundw
      case rel => exact ⟨k + 1, by omega, by go_num, Lib.hid (bthen HB.out (Below.drewN1 _ _ _))⟩
      case measure => simp [intOf]; omega
    · go_wp2
      go_ret
      exact ⟨rfl, HB.out⟩

def CLongPost (len : Nat) (ms : List Ck) (w : World) (e : Ending) (w' : World) : Prop := ∃ r : Bool, e = .returned (.bool r) ∧ (r = false → len ≤ 40 ∧ ∀ m ∈ ms, m.fr.size ≤ 100 ∧ m.to.size ≤ 100) ∧ w = w'
theorem long_step {ms : List Ck} {k : Nat} {x : Ck} (h : ∀ m ∈ ms.take k, m.fr.size ≤ 100 ∧ m.to.size ≤ 100) (hx : ms[k]? = some x) (hm : x.fr.size ≤ 100 ∧ x.to.size ≤ 100) : ∀ m ∈ ms.take (k + 1), m.fr.size ≤ 100 ∧ m.to.size ≤ 100 := by
  obtain ⟨hk, rfl⟩ := List.getElem?_eq_some_iff.1 hx
  rw [List.take_succ_eq_append_getElem hk]
  intro m hmem
  rcases List.mem_append.1 hmem with h1 | h1
  · exact h m h1
  · rw [List.mem_singleton.1 h1]; exact hm
set_option maxHeartbeats 2000000 in
theorem clong_any (a : Option Addr) (len cap : Nat) (ms : List Ck) (w : World) (hr : FRow w a len 4 (ccells ms)) (hok : ∀ m ∈ ms, m.ok) (hl : len ≤ 9223372036854775807) :
    Calls Try.prog 24 #[.slice a len cap] w (CLongPost len ms w) := by
  have HR := Lib.hid hr
  have HL := Lib.hid hr.clen
  have HOK := Lib.hid hok
  clear hr hok
  by_cases h40 : (40 : Int) < (len : Int)
  · have h40' : decide ((40 : Int) < (len : Int)) = true := decide_eq_true h40
    go_enter Try.func24, Try.ntmps24
    go_wp2
    go_ret
    exact ⟨true, rfl, by simp, rfl⟩
  have h40' : decide ((40 : Int) < (len : Int)) = false := decide_eq_false h40
  go_enter Try.func24, Try.ntmps24
  go_wp2
  go_loopw [3] (fun i wr => ∃ k : Nat, k ≤ len ∧ i = .int .i64 k ∧ w = wr ∧ Hid (∀ m ∈ ms.take k, m.fr.size ≤ 100 ∧ m.to.size ≤ 100)) (fun i _ => len - (intOf i).toNat)
  case atStart => exact ⟨0, Nat.zero_le _, rfl, rfl, Lib.hid (by simp)⟩
  case round =>
    obtain ⟨k, hk, rfl, rfl, H⟩ := hrel
    by_cases hlt : k < len
    · obtain ⟨b, off, x, rfl, hx, c0, c1, c2, c3⟩ := HR.out.ck hlt
      have HX := Lib.hid hx
      have hxo := HOK.out x (List.mem_of_getElem? hx)
      have b0 : x.fr.size ≤ 9223372036854775807 := by have := hxo.1; unfold maxLen at this; omega
      have b1 : x.to.size ≤ 9223372036854775807 := by have := hxo.2.1; unfold maxLen at this; omega
      have q1 : (0 : Int) ≤ (k : Int) := by omega
      have q2 : (k : Int) < (len : Int) := by omega
      clear hx hxo
      by_cases h1 : (100 : Int) < (x.fr.size : Int)
      · go_wp2
        go_ret
        exact ⟨true, rfl, by simp, rfl⟩
      · by_cases h2 : (100 : Int) < (x.to.size : Int)
        · go_wp2
          go_ret
          exact ⟨true, rfl, by simp, rfl⟩
        · have HC := Lib.hid (long_step H.out HX.out ⟨by omega, by omega⟩)
          go_wp2
          go_roundw
          case rel => exact ⟨k + 1, by omega, by go_num, by trivial, HC⟩
          case measure => simp [intOf]; omega
    · have HC : Hid (len ≤ 40 ∧ ∀ m ∈ ms, m.fr.size ≤ 100 ∧ m.to.size ≤ 100) := Lib.hid ⟨by omega, by have h := H.out; rwa [List.take_of_length_le (by have := HL.out; omega)] at h⟩
      go_wp2
      go_ret
      exact ⟨false, rfl, fun _ => HC.out, rfl⟩
end Go.Proofs.Ytegcdefdkebmnaa
