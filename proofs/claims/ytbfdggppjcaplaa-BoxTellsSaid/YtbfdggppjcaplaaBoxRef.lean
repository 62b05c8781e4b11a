/- Contract of the reference's Make of boxes. -/
import Derived.Test.YtbfdggppjcaplaaBox
import Derived.Test.YtbfdggppjcaplaaBytesRef
namespace Go.Proofs.Ytbfdggppjcaplaa
open Go.RowKit

set_option maxRecDepth 100000 in
set_option maxHeartbeats 2000000 in
theorem refBoxMake_any (kind k : Int) (a : Option Addr) (len cap : Nat) (zs : List Int) (w : World) (hr : Row .u8 w a len zs) (h0 : 0 ≤ k) (h1 : k ≤ 18446744073709551615) (hn : a = none → len = 0 ∧ cap = 0) :
    Calls Try.prog 33 #[.int .i64 kind, .int .u64 k, .slice a len cap] w (MakePost kind k zs w) := by
  have hml := hr.2.1
  unfold maxLen at hml
  have HL := Lib.hid hr.1
  have HR := Lib.hid hr
  have HN := Lib.hid hn
  clear hr hn
  by_cases hk1 : kind < 1
  · have HE := Lib.hid (show makeErr kind k zs.length = 104 by simp [makeErr, kindB_mkF (.inl hk1)])
    have HO := Lib.hid (show makeOut kind k zs = [] by unfold makeOut; rw [HE.out]; rfl)
    go_enter Try.func33, Try.ntmps33
    go_wp2
    go_ret2
    exact ⟨_, ret_sl HE.out.symm, by rw [HO.out]; exact own_nil _ _ _⟩
  by_cases hk2 : 10 < kind
  · have HE := Lib.hid (show makeErr kind k zs.length = 104 by simp [makeErr, kindB_mkF (.inr hk2)])
    have HO := Lib.hid (show makeOut kind k zs = [] by unfold makeOut; rw [HE.out]; rfl)
    go_enter Try.func33, Try.ntmps33
    go_wp2
    go_ret2
    exact ⟨_, ret_sl HE.out.symm, by rw [HO.out]; exact own_nil _ _ _⟩
  have HK := Lib.hid (show kindB kind = true from kindB_mk (by omega) (by omega))
  cases hv : valB k
  · have HE := Lib.hid (show makeErr kind k zs.length = 10 by simp [makeErr, HK.out, hv])
    have HO := Lib.hid (show makeOut kind k zs = [] by unfold makeOut; rw [HE.out]; rfl)
    go_enter Try.func33, Try.ntmps33
    go_wp2_with (go_at_call 19; refine (refValid_any _ _ h0 h1).mono ?_; rintro e w' ⟨rfl, rfl⟩)
    go_ret2
    exact ⟨_, ret_sl HE.out.symm, by rw [HO.out]; exact own_nil _ _ _⟩
  by_cases hb : 1000 < len
  · have HE := Lib.hid (show makeErr kind k zs.length = 105 by simp [makeErr, HK.out, hv, HL.out, hb])
    have HO := Lib.hid (show makeOut kind k zs = [] by unfold makeOut; rw [HE.out]; rfl)
    go_enter Try.func33, Try.ntmps33
    go_wp2_with (go_at_call 19; refine (refValid_any _ _ h0 h1).mono ?_; rintro e w' ⟨rfl, rfl⟩)
    go_ret2
    exact ⟨_, ret_sl HE.out.symm, by rw [HO.out]; exact own_nil _ _ _⟩
  have HE := Lib.hid (show makeErr kind k zs.length = 0 by simp [makeErr, HK.out, hv, HL.out]; omega)
  have HO := Lib.hid (show makeOut kind k zs = boxOf kind k zs by unfold makeOut; rw [HE.out]; rfl)
  obtain ⟨i0, hi, hz0, hz1, hz2⟩ := info_parts info_u8
  have HI0 := Lib.hid (And.intro hi (And.intro hz0 (And.intro hz1 hz2)))
  clear hi hz0 hz1 hz2
  have H2 : Hid (Owns w 5 (.slice (some ⟨w.heap.size, 0, none⟩) 2 2) 2 [.int .u8 66, .int .u8 kind] (w.alloc (.cells #[.int .u8 66, .int .u8 kind] 5))) := Lib.hid (own_lit w 5 .u8 [66, kind] (by simp))
  go_enter Try.func33, Try.ntmps33
  go_wp2_with (go_at_call 19; refine (refValid_any _ _ h0 h1).mono ?_; rintro e w' ⟨rfl, rfl⟩)
  refine (refBytes_any _ _ h0 h1).mono ?_
  rintro e w3 ⟨v3, rfl, hown3⟩
  have H3 := Lib.hid (H2.out.below hown3.2)
  obtain ⟨a3, cap3, hv3, hc3, hm3, hrow3, hf3⟩ := own_slice hown3.1 (by simp [bytesOf, maxLen])
  have HS3 := Lib.hid (Src.of_row hrow3)
  have HF3 : Hid (a3 = none → (bytesOf k).length = 0 ∧ cap3 = 0) := Lib.hid (fun h => by
    rcases hf3 with ⟨_, h2⟩ | ⟨b, off, h2⟩
    · subst h2; exact ⟨by omega, rfl⟩
    · rw [h] at h2; cases h2)
  rw [hv3]
  clear hv3 hc3 hm3 hrow3 hf3 hown3 H2
  have hb8 : (bytesOf k).length = 8 := by simp [bytesOf]
  have HB8 := Lib.hid hb8
  rw [hb8] at HF3 ⊢
  clear hb8
  go_wp2_with (at_builtin; refine wpList_append_src _ rfl (.tmp 23) (.tmp 25) 32 rfl w.heap.size 5 i0 (.int .u8 0) 1 1 Try.underlying32 HI0.out.1 HI0.out.2.1 HI0.out.2.2.1 HI0.out.2.2.2 rfl (by decide) _ 2 _ rfl H3.out.1 a3 8 cap3 ((bytesOf k).map (Value.int .u8)) rfl HF3.out (by simpa using HB8.out) HS3.out (oneCell_ints _ _) (by unfold maxLen; omega) (by omega) H3.out.2.size ?_)
  intro v4 w4 hown4 hgrow4 hat4
  have H4 := Lib.hid (H3.out.more hown4 hgrow4)
  clear hown4 hgrow4 hat4 H3 HS3 HF3
  go_wp2_with (at_builtin; refine wpList_append_src _ rfl (.tmp 27) (.tmp 35) 32 rfl w.heap.size 5 i0 (.int .u8 0) 1 1 Try.underlying32 HI0.out.1 HI0.out.2.1 HI0.out.2.2.1 HI0.out.2.2.2 rfl (by decide) _ 10 _ rfl (H4.out.alloc _).1 (some ⟨w4.heap.size, 0, none⟩) 2 2 [.int .u8 ((len : Int) / 256), .int .u8 ((len : Int) % 256)] rfl (fun h => (Option.some_ne_none _ h).elim) rfl (Src.two _ _ _ _ _) (oneCell_ints .u8 [(len : Int) / 256, (len : Int) % 256]) (by unfold maxLen; omega) (by omega) (H4.out.alloc _).2.size ?_)
  intro v5 w5 hown5 hgrow5 hat5
  have H5 := Lib.hid ((H4.out.alloc _).more hown5 hgrow5)
  clear hown5 hgrow5 hat5 H4
  go_wp2_with (at_builtin; refine wpList_append_src _ rfl (.tmp 37) (.tmp 38) 32 rfl w.heap.size 5 i0 (.int .u8 0) 1 1 Try.underlying32 HI0.out.1 HI0.out.2.1 HI0.out.2.2.1 HI0.out.2.2.2 rfl (by decide) _ 12 _ rfl H5.out.1 a len cap (zs.map (Value.int .u8)) rfl HN.out (by simpa using HL.out) ((Src.of_row HR.out).below H5.out.2) (oneCell_ints _ _) (by unfold maxLen; omega) (by omega) H5.out.2.size ?_)
  intro v6 w6 hown6 hgrow6 hat6
  have H6 := Lib.hid (H5.out.more hown6 hgrow6)
  clear hown6 hgrow6 hat6 H5
  go_wp2
  go_ret2
  refine ⟨_, ret_sl HE.out.symm, ?_⟩
  rw [HO.out]
  refine ⟨?_, H6.out.2⟩
  have e1 : (boxOf kind k zs).length = 12 + len := by simp [boxOf, bytesOf, HL.out]; omega
  rw [e1]
  have h6 := H6.out.1
  simpa [boxOf, HL.out] using h6
end Go.Proofs.Ytbfdggppjcaplaa
