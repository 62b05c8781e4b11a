/- Contracts of key.Bytes and key.Read. -/
import Derived.Test.YtbfdggppjcaplaaKeyMk
import Derived.Laws.BytesArg
namespace Go.Proofs.Ytbfdggppjcaplaa
open Go.RowKit

theorem info_u8 : (Try.prog.info? 5).map (fun i => (i.zero, i.size, i.bytes)) = some (some (.int .u8 0), 1, 1) := by kernel_rfl

def bytesOf (k : Int) : List Int := [k / 72057594037927936, k / 281474976710656 % 256, k / 1099511627776 % 256, k / 4294967296 % 256, k / 16777216 % 256, k / 65536 % 256, k / 256 % 256, k % 256]

/-- a slice that the call has made: it owns the numbers zs -/
def Own (k : IntKind) (T : TypeId) (w w' : World) (v : Value) (zs : List Int) : Prop :=
  w'.ownsRow w.heap.size T 1 v zs.length (zs.map (Value.int k)) ∧ Below w.heap.size w w'

/-- what an owned row of keys looks like as a slice -/
theorem own_slice {k : IntKind} {T : TypeId} {w : World} {base : Nat} {v : Value} {n : Nat} {zs : List Int} (h : w.ownsRow base T 1 v n (zs.map (Value.int k))) (hn : n ≤ maxLen) :
    ∃ a cap, v = .slice a n cap ∧ n ≤ cap ∧ cap ≤ maxLen ∧ Row k w a n zs ∧ ((a = none ∧ cap = 0) ∨ ∃ b off, a = some ⟨b, off, none⟩) := by
  obtain ⟨a, cap, hv, hrow⟩ := own_row h hn
  rcases h.2 with ⟨h1, h2⟩ | ⟨g, cap', cur, h1, hg, hh, hn', hc, hs, ht⟩
  · rw [hv] at h1
    injection h1 with e1 e2 e3
    exact ⟨a, cap, hv, by omega, by rw [e3]; exact Nat.zero_le _, hrow, .inl ⟨e1, e3⟩⟩
  · rw [hv] at h1
    injection h1 with e1 e2 e3
    exact ⟨a, cap, hv, by omega, by omega, hrow, .inr ⟨g, 0, e1⟩⟩

def BytesPost (k : Int) (w : World) (e : Ending) (w' : World) : Prop := ∃ v, e = .returned v ∧ Own .u8 5 w w' v (bytesOf k)

theorem own_lit (w : World) (T : TypeId) (k : IntKind) (zs : List Int) (h : zs.length ≤ 100000) : Own k T w (w.alloc (.cells (zs.map (Value.int k)).toArray T)) (.slice (some ⟨w.heap.size, 0, none⟩) zs.length zs.length) zs :=
  ⟨by
    have := World.ownsRow_lit (base := w.heap.size) (e := T) (size := 1) w (zs.map (Value.int k)).toArray zs.length (Nat.le_refl _) (by unfold maxLen; omega) (by simp)
    simpa using this, Below.alloc1 _ _⟩

set_option maxHeartbeats 2000000 in
set_option maxRecDepth 100000 in
theorem bytes_any (k : Int) (w : World) (h0 : 0 ≤ k) (h1 : k ≤ 18446744073709551615) :
    Calls Try.prog 25 #[.int .u64 k] w (BytesPost k w) := by
  have hmk : ∀ w, (Instr.makeSlice 32 (.int .i64 8) (.int .i64 8)).run Try.prog w = .ok (.slice (some ⟨w.heap.size, 0, none⟩) 8 8) (w.alloc (.cells #[.int .u8 0, .int .u8 0, .int .u8 0, .int .u8 0, .int .u8 0, .int .u8 0, .int .u8 0, .int .u8 0] 5)) := fun _ => by kernel_rfl
  go_enter Try.func25, Try.ntmps25
  go_wp2
  refine wp_loop_rounds 9 ?_
  iterate 9
    rw [rounds_succ]
    go_wp2
  go_ret
  exact ⟨_, rfl, own_lit w 5 .u8 (bytesOf k) (by simp [bytesOf])⟩

/-- the number of a text of bytes -/
def numOf (b : List Int) : Int := b.foldl (fun k x => k * 256 + x) 0
theorem numOf_snoc (b : List Int) (x : Int) : numOf (b ++ [x]) = numOf b * 256 + x := by unfold numOf; rw [List.foldl_append]; rfl
theorem numOf_bd : ∀ (n : Nat) (b : List Int), b.length = n → (∀ x ∈ b, 0 ≤ x ∧ x ≤ 255) → 0 ≤ numOf b ∧ numOf b < 256 ^ n
  | 0, b, h, _ => by rw [List.eq_nil_of_length_eq_zero h]; decide
  | n + 1, b, h, hb => by
    obtain ⟨l, x, rfl⟩ : ∃ l x, b = l ++ [x] := ⟨b.dropLast, b.getLast (by intro e; simp [e] at h), (List.dropLast_concat_getLast _).symm⟩
    have ih := numOf_bd n l (by simpa using h) (fun y hy => hb y (by simp [hy]))
    have hx := hb x (by simp)
    rw [numOf_snoc, Int.pow_succ]
    omega
theorem numOf_lt (b : List Int) (j : Nat) (hj : j ≤ 7) (h : b.length = j) (hb : ∀ x ∈ b, 0 ≤ x ∧ x ≤ 255) : 0 ≤ numOf b ∧ numOf b ≤ 72057594037927935 := by
  have := numOf_bd j b h hb
  rcases (by omega : j = 0 ∨ j = 1 ∨ j = 2 ∨ j = 3 ∨ j = 4 ∨ j = 5 ∨ j = 6 ∨ j = 7) with rfl | rfl | rfl | rfl | rfl | rfl | rfl | rfl <;> omega
theorem numOf_bytesOf (k : Int) : numOf (bytesOf k) = k := by
  unfold numOf bytesOf; simp only [List.foldl_cons, List.foldl_nil]; omega
theorem bytesOf_bd (k : Int) (h0 : 0 ≤ k) (h1 : k ≤ 18446744073709551615) : ∀ x ∈ bytesOf k, 0 ≤ x ∧ x ≤ 255 := by
  intro x hx
  simp only [bytesOf, List.mem_cons, List.not_mem_nil, or_false] at hx
  rcases hx with rfl | rfl | rfl | rfl | rfl | rfl | rfl | rfl <;> omega

/-- Read -/
def readKey (b : List Int) : Int := if b.length = 8 ∧ valB (numOf b) = true then numOf b else 0
def readOk (b : List Int) : Bool := decide (b.length = 8) && valB (numOf b)

set_option maxRecDepth 100000 in
set_option maxHeartbeats 1000000 in
theorem read_any (a : Option Addr) (len cap : Nat) (zs : List Int) (w : World) (hr : Row .u8 w a len zs) (hb : ∀ x ∈ zs, 0 ≤ x ∧ x ≤ 255) :
    Calls Try.prog 27 #[.slice a len cap] w fun e w' => e = .returned (.tuple #[.int .u64 (readKey zs), .bool (readOk zs)]) ∧ w = w' := by
  have hlen := hr.1
  have hml := hr.2.1
  unfold maxLen at hml
  by_cases h8 : len = 8
  · subst h8
    have HR := Lib.hid hr
    have HB := Lib.hid hb
    have HL := Lib.hid hlen
    clear hr hb hlen hml
    have hnb := numOf_bd 8 zs HL.out HB.out
    have hnb' : 0 ≤ numOf zs ∧ numOf zs ≤ 18446744073709551615 := by omega
    clear hnb
    go_enter Try.func27, Try.ntmps27
    go_wp2
    go_loop [4, 12] (fun n i => ∃ k : Nat, k ≤ 8 ∧ i = .int .i64 k ∧ n = .int .u64 (numOf (zs.take k))) (fun _ i => 8 - (intOf i).toNat)
    case atStart => exact ⟨0, by omega, rfl, rfl⟩
    case round =>
      obtain ⟨k, hk, rfl, rfl⟩ := hrel
      by_cases hlt : k < 8
      · obtain ⟨b, off, rfl, hcell⟩ := HR.out.at hlt
        have hx := HB.out _ (getD_mem zs k (by rw [HL.out]; exact hlt))
        have hnk := numOf_lt (zs.take k) k (by omega) (by rw [List.length_take, HL.out]; omega) (fun x hx => HB.out x (List.mem_of_mem_take hx))
        have HS := Lib.hid (show numOf (zs.take (k + 1)) = numOf (zs.take k) * 256 + zs[k]?.getD 0 by rw [take_snoc zs k (by rw [HL.out]; exact hlt), numOf_snoc])
        generalize zs[k]?.getD 0 = x at *
        generalize numOf (zs.take k) = n at *
        have hor := or_byte (n * 256) x (by omega) (by omega) (by omega) hx.1 (by omega)
        go_wp2
        go_round
        case rel => exact ⟨k + 1, by omega, by go_num, by rw [HS.out]⟩
        case measure => simp [intOf]; omega
      · have hfx := Lib.hid (show zs.take k = zs by rw [List.take_of_length_le (by rw [HL.out]; omega)])
        rw [hfx.out]
        cases hv : valB (numOf zs)
        · have H1 := Lib.hid (show readKey zs = 0 ∧ readOk zs = false by simp [readKey, readOk, hv])
          go_wp2_with (go_at_call 16; refine (valid_any _ _ hnb'.1 hnb'.2).mono ?_; rintro e w' ⟨rfl, rfl⟩)
          go_ret2
          exact ⟨ret_ib H1.out.1.symm H1.out.2.symm, rfl⟩
        · have H1 := Lib.hid (show readKey zs = numOf zs ∧ readOk zs = true by simp [readKey, readOk, hv, HL.out])
          go_wp2_with (go_at_call 16; refine (valid_any _ _ hnb'.1 hnb'.2).mono ?_; rintro e w' ⟨rfl, rfl⟩)
          go_ret2
          exact ⟨ret_ib H1.out.1.symm H1.out.2.symm, rfl⟩
  · have H1 := Lib.hid (show readKey zs = 0 ∧ readOk zs = false by simp [readKey, readOk, hlen, h8])
    have h8b : ((len : Int) == 8) = false := by simp; omega
    have h8c : ((len : Int) != 8) = true := by simp; omega
    clear hr hb hlen
    go_enter Try.func27, Try.ntmps27
    go_wp2
    go_ret2
    exact ⟨ret_ib H1.out.1.symm H1.out.2.symm, rfl⟩
end Go.Proofs.Ytbfdggppjcaplaa
