/- Contract of kerbsuitelaw3.list: the keys of a list of numbers, each put into its place. -/
import Derived.Test.YtbfdggppjcaplaaAddRef
import Derived.StillTailTactics
namespace Go.Proofs.Ytbfdggppjcaplaa
open Go.RowKit

theorem still_eq {P : Program} {f : FuncId} {args : Array Value} {w : World} {v : Value}
    (h : Calls P f args w fun e w' => e = .returned v ∧ w = w') : Calls P f args w fun e w'' => e = .returned v ∧ w'' = w :=
  h.mono fun _ _ ⟨he, hm⟩ => ⟨he, hm.symm⟩

def keyAt (x : Int) : Int := mkKey (1 + x % 2) (1 + x / 2)
def listOf (l : List Int) : List Int := l.foldl (fun acc x => addTo acc (keyAt x)) []
theorem listOf_snoc (l : List Int) (x : Int) : listOf (l ++ [x]) = addTo (listOf l) (keyAt x) := by unfold listOf; rw [List.foldl_append]; rfl
theorem addTo_len (l : List Int) (k : Int) : (addTo l k).length ≤ l.length + 1 := by
  unfold addTo
  split
  · omega
  · have := lowN_le l k; simp; omega
theorem listOf_len : ∀ (n : Nat) (l : List Int), l.length = n → (listOf l).length ≤ n
  | 0, l, h => by rw [List.eq_nil_of_length_eq_zero h]; simp [listOf]
  | n + 1, l, h => by
    obtain ⟨m, x, rfl⟩ : ∃ m x, l = m ++ [x] := ⟨l.dropLast, l.getLast (by intro e; simp [e] at h), (List.dropLast_concat_getLast _).symm⟩
    have ih := listOf_len n m (by simpa using h)
    rw [listOf_snoc]
    have := addTo_len (listOf m) (keyAt x)
    omega
theorem mem_addTo {l : List Int} {k x : Int} (h : x ∈ addTo l k) : x = k ∨ x ∈ l := by
  unfold addTo at h
  split at h
  · exact .inr h
  · rw [List.mem_append, List.mem_cons] at h
    rcases h with h | h | h
    · exact .inr (List.mem_of_mem_take h)
    · exact .inl h
    · exact .inr (List.mem_of_mem_drop h)
theorem mem_listOf : ∀ (n : Nat) (l : List Int), l.length = n → ∀ x ∈ listOf l, 0 ≤ x ∧ x ≤ 18446744073709551615
  | 0, l, h => by rw [List.eq_nil_of_length_eq_zero h]; simp [listOf]
  | n + 1, l, h => by
    obtain ⟨m, y, rfl⟩ : ∃ m x, l = m ++ [x] := ⟨l.dropLast, l.getLast (by intro e; simp [e] at h), (List.dropLast_concat_getLast _).symm⟩
    intro x hx
    rw [listOf_snoc] at hx
    rcases mem_addTo hx with rfl | hx
    · exact mkKey_bd _ _
    · exact mem_listOf n m (by simpa using h) x hx

def ListPost (l : List Int) (w : World) (e : Ending) (w' : World) : Prop := ∃ v, e = .returned v ∧ Own .u64 24 w w' v (listOf (l.take 60))

def LInv (w : World) (a : Option Addr) (len : Nat) (zs : List Int) (k : Nat) (v : Value) (wr : World) : Prop :=
  Own .u64 24 w wr v (listOf (zs.take k)) ∧ Row .u8 wr a len zs

set_option maxRecDepth 100000 in
set_option maxHeartbeats 2000000 in
theorem list_any (a : Option Addr) (len cap : Nat) (zs : List Int) (w : World) (hr : Row .u8 w a len zs) (hb : ∀ x ∈ zs, 0 ≤ x ∧ x ≤ 255) :
    Calls Try.prog 24 #[.slice a len cap] w (ListPost zs w) := by
  have HR := Lib.hid hr
  have HB := Lib.hid hb
  have hml := hr.2.1
  unfold maxLen at hml
  clear hr hb
  have H0 : Hid (LInv w a len zs 0 (.slice none 0 0) w) := Lib.hid ⟨⟨World.ownsRow_nil _ _ _ _, Below.refl _ _⟩, HR.out⟩
  go_enter Try.func24, Try.ntmps24
  go_wp2
  go_loopw [3, 4] (fun v i wr => ∃ k : Nat, k ≤ len ∧ k ≤ 60 ∧ i = .int .i64 k ∧ Hid (LInv w a len zs k v wr)) (fun _ i _ => len - (intOf i).toNat)
  case atStart => exact ⟨0, by omega, by omega, rfl, H0⟩
  case round =>
    clear H0
    obtain ⟨k, hk, hk60, rfl, HI⟩ := hrel
    by_cases hlt : k < len
    · by_cases h60 : k < 60
      · obtain ⟨b, off, rfl, hcell⟩ := HI.out.2.at hlt
        have hx := HB.out _ (getD_mem zs k (by rw [HR.out.1]; exact hlt))
        have HS := Lib.hid (show listOf (zs.take (k + 1)) = addTo (listOf (zs.take k)) (keyAt (zs[k]?.getD 0)) by rw [take_snoc zs k (by rw [HR.out.1]; exact hlt), listOf_snoc])
        have hln := listOf_len k (zs.take k) (by have := HR.out.1; simp; omega)
        generalize zs[k]?.getD 0 = x at *
        obtain ⟨la, lcap, hv, hc1, hc2, hrow, hform⟩ := own_slice HI.out.1.1 (by unfold maxLen; omega)
        have HV := Lib.hid hv
        have HROW := Lib.hid hrow
        have HFM := Lib.hid hform
        clear hv hrow hform
        generalize (listOf (zs.take k)).length = n at *
        rw [HV.out]
        go_wp2
        refine wp_region_still_tail 16 (by kernel_rfl) (by kernel_rfl) ?_
        simp only [List.take_succ_cons, List.take_zero, List.drop_succ_cons, List.drop_zero]
        repeat still_step
        still_call (still_eq (refMake_any _ _ _))
        refine wpStill_nil ?_
        change wpList _ _ _ _ _ wr.drew
        have HD : Hid (LInv w (some ⟨b, off, none⟩) len zs k u3 wr.drew) := Lib.hid ⟨⟨HI.out.1.1, HI.out.1.2.drew⟩, HI.out.2.below (Below.drewN1 wr 1 _)⟩
        have HROWD : Hid (Row .u64 wr.drew la n (listOf (zs.take k))) := Lib.hid (HROW.out.below (Below.drewN1 wr 1 _))
        generalize wr.drew = wd at *
        go_wp2_with fail
        refine (refAdd_any _ _ _ _ _ _ HROWD.out hc1 hc2 (by omega) HFM.out).mono ?_
        rintro e w1 ⟨v1, rfl, hown⟩
        have HI2 : Hid (LInv w (some ⟨b, off, none⟩) len zs (k + 1) v1 w1) := Lib.hid (by
          refine ⟨⟨?_, bthen HD.out.1.2 hown.2⟩, HD.out.2.below hown.2⟩
          rw [HS.out]
          exact ownsRow_base hown.1 HD.out.1.2.size)
        clear hown
        go_wp2
        go_roundw
        case rel => exact ⟨k + 1, by omega, by omega, by go_num, HI2⟩
        case measure => simp [intOf]; omega
      · have h60b : decide ((k : Int) < 60) = false := by simp; omega
        obtain rfl : k = 60 := by omega
        go_wp2
        go_ret
        exact ⟨_, rfl, HI.out.1⟩
    · have hfx := Lib.hid (show zs.take k = zs.take 60 by rw [List.take_of_length_le (by rw [HR.out.1]; omega), List.take_of_length_le (by rw [HR.out.1]; omega)])
      have hltb : decide (k < len) = false := by simpa using hlt
      go_wp2
      go_ret
      exact ⟨_, rfl, by rw [← hfx.out]; exact HI.out.1⟩
end Go.Proofs.Ytbfdggppjcaplaa
