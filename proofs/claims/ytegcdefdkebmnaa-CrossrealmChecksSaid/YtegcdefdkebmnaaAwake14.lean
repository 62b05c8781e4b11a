/- Contract of kerbsuitelaw14.awake: true. -/
import Derived.Test.YtegcdefdkebmnaaCData
import Derived.Test.YtegcdefdkebmnaaCFind
import Derived.Test.YtegcdefdkebmnaaPeers
namespace Go.Proofs.Ytegcdefdkebmnaa
open Go.RowKit

def sA : ByteArray := ⟨#[65]⟩
def sB : ByteArray := ⟨#[66]⟩
def ax : Ck := ⟨sA, sB, 1, 72057594037927936 + (1 + 1)⟩
theorem ab_ne : ¬ sA.toList = sB.toList := by rw [ByteArray.toList_eq, ByteArray.toList_eq]; decide
theorem ax_ok : ax.ok := ⟨by decide, by decide, by decide, by decide⟩
theorem ax_err : crErr [ax] = 0 := by
  have h1 : realmB sA = true := by rw [realmB_eq']; decide +kernel
  have h2 : realmB sB = true := by rw [realmB_eq']; decide +kernel
  show (if 20 < [ax].length then (106 : Int) else firstErr (cerrAt [ax]) 1) = 0
  rw [if_neg (by decide)]
  refine firstErr_zero fun i hi => ?_
  obtain rfl : i = 0 := by omega
  rw [cerrAt_eq (l := [ax]) (i := 0) (x := ax) rfl, ck_last h1 h2 (beq_eq_false_iff_ne.2 ab_ne) (by decide) (by decide) (valB_long 1 (by omega) (by omega))]
  rfl
theorem ax_find : fdI sA sB [ax] = 0 ∧ fdB sA sB [ax] = true := by
  have h : fdAt sA sB [ax] 1 = some 0 := fd_first (x := ax) rfl ⟨rfl, rfl⟩ rfl
  exact fd_some h rfl
theorem ax_back : fdI sB sA [ax] = 0 ∧ fdB sB sA [ax] = false := by
  have h : fdAt sB sA [ax] 1 = none := by rw [fd_skip (x := ax) rfl (fun h => ab_ne h.1)]; rfl
  exact fd_none h rfl
theorem ax_peers : (peersOf sA [ax]).length = 1 := by
  have h := peers_yes (f := sA) (l := [ax]) (k := 0) (x := ax) rfl rfl
  have e : [ax].take (0 + 1) = [ax] := rfl
  rw [e] at h
  rw [h]; rfl
theorem ax_add : addL [] ax = [ax] := by rw [addL, List.nil_append, if_pos ax_err]
set_option maxRecDepth 100000 in
set_option maxHeartbeats 2000000 in
theorem awake14_any (w : World) : Calls Try.prog 23 #[] w fun e w' => e = .returned (.bool true) ∧ Below w.heap.size w w' := by
  go_enter Try.func23, Try.ntmps23
  go_wp2_with fail
  refine (long_key 1 _ (by omega) (by omega)).mono ?_
  rintro e w0 ⟨rfl, rfl⟩
  go_wp2_with fail
  refine (crAdd_any none 0 0 [] ax w ⟨rfl, .inl rfl⟩ (fun m hm => by cases hm) ax_ok (fun _ => rfl) (by omega)).mono ?_
  rintro e w1 ⟨v, rfl, ho, hb1⟩
  rw [ax_add] at ho
  rw [List.nil_append, ax_err]
  obtain ⟨va, vc, rfl, hv1, hv2⟩ := own_isz ho
  have HR := Lib.hid (own_frow ho)
  have HB1 := Lib.hid hb1
  clear ho hb1 hv1 hv2
  go_wp2_with fail
  refine (find_any va 1 vc [ax] sA sB w1 HR.out (by omega)).mono ?_
  rintro e w2 ⟨rfl, hb2⟩
  rw [ax_find.1, ax_find.2]
  have HR2 := Lib.hid (HR.out.below hb2)
  have HB2 := Lib.hid (bthen HB1.out hb2)
  clear hb2 HB1 HR
  go_wp2_with fail
  refine (find_any va 1 vc [ax] sB sA w2 HR2.out (by omega)).mono ?_
  rintro e w3 ⟨rfl, hb3⟩
  rw [ax_back.1, ax_back.2]
  have HR3 := Lib.hid (HR2.out.below hb3)
  have HB3 := Lib.hid (bthen HB2.out hb3)
  clear hb3 HB2 HR2
  go_wp2_with fail
  refine (peers_any va 1 vc [ax] sA w3 HR3.out (fun m hm => by rw [List.mem_singleton.1 hm]; exact ax_ok) (by omega)).mono ?_
  rintro e w4 ⟨v, rfl, hs, hb4⟩
  unfold SRow at hs
  rw [ax_peers] at hs
  obtain ⟨pa, pc, rfl, hp1, hp2⟩ := own_isz hs
  have HB4 := Lib.hid (bthen HB3.out hb4)
  clear hs hb4 hp1 hp2
  go_wp2
  go_ret
  exact ⟨rfl, HB4.out⟩
end Go.Proofs.Ytegcdefdkebmnaa
