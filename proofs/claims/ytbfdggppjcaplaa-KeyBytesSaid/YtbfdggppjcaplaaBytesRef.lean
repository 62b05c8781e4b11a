/- Contracts of the reference's Bytes and Read. -/
import Derived.Test.YtbfdggppjcaplaaBytes
import Derived.Test.YtbfdggppjcaplaaKeyRef
namespace Go.Proofs.Ytbfdggppjcaplaa
open Go.RowKit


/-- one more byte behind a row that the call owns -/
theorem own_more {w wr w1 : World} {T : TypeId} {v v' : Value} {n : Nat} {xs : List Value} {x : Value} {o : Obj}
    (h : wr.ownsRow w.heap.size T 1 v n xs ∧ Below w.heap.size w wr) (hown : w1.ownsRow w.heap.size T 1 v' (n + 1) (xs ++ [x])) (hg : (wr.alloc o).grownBy w1 v.ownBlock) :
    w1.ownsRow w.heap.size T 1 v' (n + 1) (xs ++ [x]) ∧ Below w.heap.size w w1 :=
  have hb := h.2.alloc h.2.size o
  ⟨hown, hb.grown hg hb.size (fun q hq => (h.1.lt q hq).1)⟩

set_option maxRecDepth 100000 in
set_option maxHeartbeats 4000000 in
theorem refBytes_any (k : Int) (w : World) (h0 : 0 ≤ k) (h1 : k ≤ 18446744073709551615) :
    Calls Try.prog 26 #[.int .u64 k] w (BytesPost k w) := by
  obtain ⟨i0, hi, hz0, hz1, hz2⟩ := info_parts info_u8
  have HI0 := Lib.hid (And.intro hi (And.intro hz0 (And.intro hz1 hz2)))
  clear hi hz0 hz1 hz2
  obtain ⟨w0, rfl⟩ : ∃ w0, w0 = w := ⟨_, rfl⟩
  have H0 : Hid (w0.ownsRow w0.heap.size 5 1 (.slice none 0 0) 0 [] ∧ Below w0.heap.size w0 w0) := Lib.hid ⟨World.ownsRow_nil _ _ _ _, Below.refl _ _⟩
  go_enter Try.func26, Try.ntmps26
  go_wp2
  refine wp_loop_rounds 9 ?_
  rw [rounds_succ]
  go_wp2_with (at_builtin; refine wpList_append_own _ rfl _ _ 32 rfl w0.heap.size 5 i0 (.int .u8 0) 1 1 Try.underlying32 HI0.out.1 HI0.out.2.1 HI0.out.2.2.1 HI0.out.2.2.2 rfl (by decide) _ 0 _ rfl (H0.out.1.alloc _) ⟨w0.heap.size, 0, none⟩ 1 1 [.int .u8 (k / 72057594037927936)] rfl rfl (one_new _ _ _) ?c0 (by unfold maxLen; omega) (by omega) ?d0 ?_)
  case c0 => simp [Value.oneCell']
  case d0 => have := H0.out.2.size; simp <;> omega
  intro v1 w1 hown hgrow _
  have H1 := Lib.hid (own_more H0.out hown hgrow)
  clear hown hgrow H0
  go_wp2
  rw [rounds_succ]
  go_wp2_with (at_builtin; refine wpList_append_own _ rfl _ _ 32 rfl w0.heap.size 5 i0 (.int .u8 0) 1 1 Try.underlying32 HI0.out.1 HI0.out.2.1 HI0.out.2.2.1 HI0.out.2.2.2 rfl (by decide) _ 1 _ rfl (H1.out.1.alloc _) ⟨w1.heap.size, 0, none⟩ 1 1 [.int .u8 (k / 281474976710656 % 256)] rfl rfl (one_new _ _ _) ?c1 (by unfold maxLen; omega) (by omega) ?d1 ?_)
  case c1 => simp [Value.oneCell']
  case d1 => have := H1.out.2.size; simp <;> omega
  intro v2 w2 hown hgrow _
  have H2 := Lib.hid (own_more H1.out hown hgrow)
  clear hown hgrow H1
  go_wp2
  rw [rounds_succ]
  go_wp2_with (at_builtin; refine wpList_append_own _ rfl _ _ 32 rfl w0.heap.size 5 i0 (.int .u8 0) 1 1 Try.underlying32 HI0.out.1 HI0.out.2.1 HI0.out.2.2.1 HI0.out.2.2.2 rfl (by decide) _ 2 _ rfl (H2.out.1.alloc _) ⟨w2.heap.size, 0, none⟩ 1 1 [.int .u8 (k / 1099511627776 % 256)] rfl rfl (one_new _ _ _) ?c2 (by unfold maxLen; omega) (by omega) ?d2 ?_)
  case c2 => simp [Value.oneCell']
  case d2 => have := H2.out.2.size; simp <;> omega
  intro v3 w3 hown hgrow _
  have H3 := Lib.hid (own_more H2.out hown hgrow)
  clear hown hgrow H2
  go_wp2
  rw [rounds_succ]
  go_wp2_with (at_builtin; refine wpList_append_own _ rfl _ _ 32 rfl w0.heap.size 5 i0 (.int .u8 0) 1 1 Try.underlying32 HI0.out.1 HI0.out.2.1 HI0.out.2.2.1 HI0.out.2.2.2 rfl (by decide) _ 3 _ rfl (H3.out.1.alloc _) ⟨w3.heap.size, 0, none⟩ 1 1 [.int .u8 (k / 4294967296 % 256)] rfl rfl (one_new _ _ _) ?c3 (by unfold maxLen; omega) (by omega) ?d3 ?_)
  case c3 => simp [Value.oneCell']
  case d3 => have := H3.out.2.size; simp <;> omega
  intro v4 w4 hown hgrow _
  have H4 := Lib.hid (own_more H3.out hown hgrow)
  clear hown hgrow H3
  go_wp2
  rw [rounds_succ]
  go_wp2_with (at_builtin; refine wpList_append_own _ rfl _ _ 32 rfl w0.heap.size 5 i0 (.int .u8 0) 1 1 Try.underlying32 HI0.out.1 HI0.out.2.1 HI0.out.2.2.1 HI0.out.2.2.2 rfl (by decide) _ 4 _ rfl (H4.out.1.alloc _) ⟨w4.heap.size, 0, none⟩ 1 1 [.int .u8 (k / 16777216 % 256)] rfl rfl (one_new _ _ _) ?c4 (by unfold maxLen; omega) (by omega) ?d4 ?_)
  case c4 => simp [Value.oneCell']
  case d4 => have := H4.out.2.size; simp <;> omega
  intro v5 w5 hown hgrow _
  have H5 := Lib.hid (own_more H4.out hown hgrow)
  clear hown hgrow H4
  go_wp2
  rw [rounds_succ]
  go_wp2_with (at_builtin; refine wpList_append_own _ rfl _ _ 32 rfl w0.heap.size 5 i0 (.int .u8 0) 1 1 Try.underlying32 HI0.out.1 HI0.out.2.1 HI0.out.2.2.1 HI0.out.2.2.2 rfl (by decide) _ 5 _ rfl (H5.out.1.alloc _) ⟨w5.heap.size, 0, none⟩ 1 1 [.int .u8 (k / 65536 % 256)] rfl rfl (one_new _ _ _) ?c5 (by unfold maxLen; omega) (by omega) ?d5 ?_)
  case c5 => simp [Value.oneCell']
  case d5 => have := H5.out.2.size; simp <;> omega
  intro v6 w6 hown hgrow _
  have H6 := Lib.hid (own_more H5.out hown hgrow)
  clear hown hgrow H5
  go_wp2
  rw [rounds_succ]
  go_wp2_with (at_builtin; refine wpList_append_own _ rfl _ _ 32 rfl w0.heap.size 5 i0 (.int .u8 0) 1 1 Try.underlying32 HI0.out.1 HI0.out.2.1 HI0.out.2.2.1 HI0.out.2.2.2 rfl (by decide) _ 6 _ rfl (H6.out.1.alloc _) ⟨w6.heap.size, 0, none⟩ 1 1 [.int .u8 (k / 256 % 256)] rfl rfl (one_new _ _ _) ?c6 (by unfold maxLen; omega) (by omega) ?d6 ?_)
  case c6 => simp [Value.oneCell']
  case d6 => have := H6.out.2.size; simp <;> omega
  intro v7 w7 hown hgrow _
  have H7 := Lib.hid (own_more H6.out hown hgrow)
  clear hown hgrow H6
  go_wp2
  rw [rounds_succ]
  go_wp2_with (at_builtin; refine wpList_append_own _ rfl _ _ 32 rfl w0.heap.size 5 i0 (.int .u8 0) 1 1 Try.underlying32 HI0.out.1 HI0.out.2.1 HI0.out.2.2.1 HI0.out.2.2.2 rfl (by decide) _ 7 _ rfl (H7.out.1.alloc _) ⟨w7.heap.size, 0, none⟩ 1 1 [.int .u8 (k % 256)] rfl rfl (one_new _ _ _) ?c7 (by unfold maxLen; omega) (by omega) ?d7 ?_)
  case c7 => simp [Value.oneCell']
  case d7 => have := H7.out.2.size; simp <;> omega
  intro v8 w8 hown hgrow _
  have H8 := Lib.hid (own_more H7.out hown hgrow)
  clear hown hgrow H7
  go_wp2
  rw [rounds_succ]
  go_wp2
  go_ret
  exact ⟨_, rfl, H8.out⟩

set_option maxRecDepth 100000 in
set_option maxHeartbeats 1000000 in
theorem refRead_any (a : Option Addr) (len cap : Nat) (zs : List Int) (w : World) (hr : Row .u8 w a len zs) (hb : ∀ x ∈ zs, 0 ≤ x ∧ x ≤ 255) :
    Calls Try.prog 28 #[.slice a len cap] w fun e w' => e = .returned (.tuple #[.int .u64 (readKey zs), .bool (readOk zs)]) ∧ w = w' := by
  have hlen := hr.1
  have hml := hr.2.1
  unfold maxLen at hml
  by_cases h8 : len = 8
  · subst h8
    have HR := Lib.hid hr
    have HB := Lib.hid hb
    have HL := Lib.hid hlen
    clear hr hb hlen hml
    have hnb := numOf_bd 8 zs HL.out HB.out
    have hnb' : 0 ≤ numOf zs ∧ numOf zs ≤ 18446744073709551615 := by omega
    clear hnb
    go_enter Try.func28, Try.ntmps28
    go_wp2
    go_loop [4, 5] (fun n i => ∃ k : Nat, k ≤ 8 ∧ i = .int .i64 k ∧ n = .int .u64 (numOf (zs.take k))) (fun _ i => 8 - (intOf i).toNat)
    case atStart => exact ⟨0, by omega, rfl, rfl⟩
    case round =>
      obtain ⟨k, hk, rfl, rfl⟩ := hrel
      by_cases hlt : k < 8
      · obtain ⟨b, off, rfl, hcell⟩ := HR.out.at hlt
        have hx := HB.out _ (getD_mem zs k (by rw [HL.out]; exact hlt))
        have hnk := numOf_lt (zs.take k) k (by omega) (by rw [List.length_take, HL.out]; omega) (fun x hx => HB.out x (List.mem_of_mem_take hx))
        have HS := Lib.hid (show numOf (zs.take (k + 1)) = numOf (zs.take k) * 256 + zs[k]?.getD 0 by rw [take_snoc zs k (by rw [HL.out]; exact hlt), numOf_snoc])
        generalize zs[k]?.getD 0 = x at *
        generalize numOf (zs.take k) = n at *
        have hor := or_byte (n * 256) x (by omega) (by omega) (by omega) hx.1 (by omega)
        go_wp2
        go_round
        case rel => exact ⟨k + 1, by omega, by go_num, by rw [HS.out]⟩
        case measure => simp [intOf]; omega
      · have hfx := Lib.hid (show zs.take k = zs by rw [List.take_of_length_le (by rw [HL.out]; omega)])
        rw [hfx.out]
        cases hv : valB (numOf zs)
        · have H1 := Lib.hid (show readKey zs = 0 ∧ readOk zs = false by simp [readKey, readOk, hv])
          go_wp2_with (go_at_call 19; refine (refValid_any _ _ hnb'.1 hnb'.2).mono ?_; rintro e w' ⟨rfl, rfl⟩)
          go_ret2
          exact ⟨ret_ib H1.out.1.symm H1.out.2.symm, rfl⟩
        · have H1 := Lib.hid (show readKey zs = numOf zs ∧ readOk zs = true by simp [readKey, readOk, hv, HL.out])
          go_wp2_with (go_at_call 19; refine (refValid_any _ _ hnb'.1 hnb'.2).mono ?_; rintro e w' ⟨rfl, rfl⟩)
          go_ret2
          exact ⟨ret_ib H1.out.1.symm H1.out.2.symm, rfl⟩
  · have H1 := Lib.hid (show readKey zs = 0 ∧ readOk zs = false by simp [readKey, readOk, hlen, h8])
    have h8b : ((len : Int) == 8) = false := by simp; omega
    have h8c : ((len : Int) != 8) = true := by simp; omega
    clear hr hb hlen
    go_enter Try.func28, Try.ntmps28
    go_wp2
    go_ret2
    exact ⟨ret_ib H1.out.1.symm H1.out.2.symm, rfl⟩
end Go.Proofs.Ytbfdggppjcaplaa
