/- Contract of crossrealm.Peers: the peers, ascending, each once. -/
import Derived.Test.YtegcdefdkebmnaaPeersLaw
import Derived.Test.YtegcdefdkebmnaaShelf2
import Derived.Sort.OwnSorted
import Derived.Maps.RangeWalk
import Derived.Maps.OwnOps
import Derived.Maps.Keyed
namespace Go.Proofs.Ytegcdefdkebmnaa
open Go.RowKit Go.Maps Go.Sort

theorem info_str : (Try.prog.info? 9).map (fun i => (i.zero, i.size, i.bytes)) = some (some (.string ⟨#[]⟩), 1, 16) := by kernel_rfl
theorem plainElem_bool_inv {H : Type} {P : Program} {e : TypeId} (he : P.underlying e = some .bool) {v : Value} {z : DataW H × List MemPlace} (h : plainElem P e v = some z) : ∃ x, v = .bool x ∧ z = (.lit (.bool x), []) := by
  unfold plainElem at h
  rw [he] at h
  cases v <;> simp at h
  exact ⟨_, rfl, h.symm⟩
theorem keyOf_bytes {s : ByteArray} (h : s.size ≤ maxLen) : keyOf Try.prog 9 (.string s) = some (.string s.toList) := by
  rw [ByteArray.toList_eq]; exact Go.WideMaps.keyOf_string_mk Try.underlying9 h
/-- a row of texts -/
def SRow (w : World) (base : Nat) (v : Value) (ts : List (List UInt8)) : Prop := w.ownsRow base 9 1 v ts.length (ts.map encStr)
def PeersPost (f : ByteArray) (ms : List Ck) (w : World) (e : Ending) (w' : World) : Prop :=
  ∃ v, e = .returned v ∧ SRow w' w.heap.size v (peersOf f ms) ∧ Below w.heap.size w w'

def In1 (w : World) (f : ByteArray) (ms : List Ck) (k : Nat) (wr : World) : Prop :=
  wr.ownsMap Try.prog 9 (plainElem Try.prog 4) w.heap.size k (tset f (ms.take k)) ∧ Below w.heap.size w wr
def In2 (w : World) (f : ByteArray) (ms : List Ck) (n r : Nat) (v : Value) (wr : World) : Prop :=
  ∃ (left : Lit → Bool) (cnt : Nat) (ss : List (List UInt8)), wr.ranges Try.prog 9 (plainElem Try.prog 4) w.heap.size r n (tset f ms) left cnt ∧ ss.length + cnt ≤ Maps.size (tset f ms) ∧
      wr.ownsRow (w.heap.size + 1) 9 1 v ss.length (ss.map encStr) ∧ Collected (tset f ms) left ss ∧ Below w.heap.size w wr

theorem own_nil0 (w : World) (base : Nat) (T : TypeId) (size : Nat) : w.ownsRow base T size (.slice none 0 0) 0 [] := ⟨by simp, .inl ⟨rfl, rfl⟩⟩

theorem peers_fin {f : ByteArray} {ms : List Ck} {w X : World} {g cp : Nat} {ss : List (List UInt8)} (h : ss.mergeSort leB = peersOf f ms) (h1 : X.ownsRow (w.heap.size + 1) 9 1 (.slice (some ⟨g, 0, none⟩) ss.length cp) ss.length ((ss.mergeSort fun x y => decide (x ≤ y)).map encStr)) (h2 : Below w.heap.size w X) :
    PeersPost f ms w (.returned (.slice (some ⟨g, 0, none⟩) ss.length cp)) X := by
  refine ⟨_, rfl, ?_, h2⟩
  have hl : (peersOf f ms).length = ss.length := by rw [← h]; simp
  rw [SRow, hl, ← h]
  exact ownsRow_base h1 (by omega)

theorem peers_fin0 {f : ByteArray} {ms : List Ck} {w X : World} (h : ([] : List (List UInt8)).mergeSort leB = peersOf f ms) (h2 : Below w.heap.size w X) : PeersPost f ms w (.returned (.slice none 0 0)) X := by
  refine ⟨_, rfl, ?_, h2⟩
  rw [← h, List.mergeSort_nil]
  exact own_nil0 _ _ _ _

set_option maxRecDepth 100000 in
set_option maxHeartbeats 4000000 in
theorem peers_any (a : Option Addr) (len cap : Nat) (ms : List Ck) (f : ByteArray) (w : World) (hr : FRow w a len 4 (ccells ms)) (hok : ∀ m ∈ ms, m.ok) (hl : len ≤ 1000000) :
    Calls Try.prog 33 #[.slice a len cap, .string f] w (PeersPost f ms w) := by
  have HR := Lib.hid hr
  have HL := Lib.hid hr.clen
  have HOK := Lib.hid hok
  clear hr hok
  obtain ⟨i0, hi, hz0, hz1, hz2⟩ := info_parts info_str
  have HI0 := Lib.hid (And.intro hi (And.intro hz0 (And.intro hz1 hz2)))
  clear hi hz0 hz1 hz2
  have hmm := @run_makeMap Try.prog
  have H1 : Hid (In1 w f ms 0 (w.alloc (.map #[] 0))) := Lib.hid ⟨by rw [tset_nil]; exact World.ownsMap_made _ _ _ _, Below.alloc1 _ _⟩
  go_enter Try.func33, Try.ntmps33
  go_wp2
  clear hmm
  go_loopw [13] (fun i wr => ∃ k : Nat, k ≤ len ∧ i = .int .i64 k ∧ Hid (In1 w f ms k wr)) (fun i _ => len - (intOf i).toNat)
  case atStart => exact ⟨0, Nat.zero_le _, rfl, H1⟩
  case round =>
    clear H1
    obtain ⟨k, hk, rfl, HI⟩ := hrel
    by_cases hlt : k < len
    · obtain ⟨b, off, x, rfl, hx, c0, c1, c2, c3⟩ := (HR.out.below HI.out.2).ck hlt
      have HX := Lib.hid hx
      have HKE := Lib.hid (keyOf_bytes (HOK.out x (List.mem_of_getElem? hx)).2.1)
      have hz : b < wr.heap.size := World.block_lt_of_cell? _ _ c0
      have HBB : Hid (Below w.heap.size w (wr.alloc (.cells #[.string x.fr, .string x.to, .int .i64 x.kv, .int .u64 x.ky] 54))) := Lib.hid (bthen HI.out.2 (Below.alloc1 _ _))
      clear hx
      by_cases h1 : x.fr.toList = f.toList
      · have HC := Lib.hid (tset_yes HX.out h1)
        go_wp2_with (at_mapUpdate; refine wpList_mapUpdate_own _ rfl _ _ _ 86 rfl 9 4 (string_keyed Try.underlying9) Try.underlying86 _ w.heap.size k _ rfl (HI.out.1.alloc _) (by unfold maxLen; omega) _ _ _ rfl rfl HKE.out _ [] (plainElem_bool Try.underlying4 true) ?_; intro w1 hown1 hgrow1)
        have HI2 : Hid (In1 w f ms (k + 1) w1) := Lib.hid ⟨by rw [HC.out]; exact hown1, HBB.out.grown hgrow1 HBB.out.size (fun q hq => by cases hq; exact Nat.le_refl _)⟩
        clear hown1 hgrow1
        go_wp2
        go_roundw
        case rel => exact ⟨k + 1, by omega, by go_num, HI2⟩
        case measure => simp [intOf]; omega
      · have HC := Lib.hid (tset_no HX.out h1)
        have h1e : (x.fr.toList == f.toList) = false := by simpa using h1
        have HI2 : Hid (In1 w f ms (k + 1) (wr.alloc (.cells #[.string x.fr, .string x.to, .int .i64 x.kv, .int .u64 x.ky] 54))) := Lib.hid ⟨by rw [HC.out]; exact (HI.out.1.alloc _).mono (by omega), HBB.out⟩
        go_wp2
        go_roundw
        case rel => exact ⟨k + 1, by omega, by go_num, HI2⟩
        case measure => simp [intOf]; omega
    · have HT : Hid (ms.take k = ms) := Lib.hid (List.take_of_length_le (by have := HL.out; omega))
      have HO : Hid (wr.ownsMap Try.prog 9 (plainElem (H := Unit) Try.prog 4) w.heap.size k (tset f ms)) := Lib.hid (by have h := HI.out.1; rw [HT.out] at h; exact h)
      have HB := Lib.hid HI.out.2
      have HSZ : Hid (Maps.size (tset f ms) ≤ len) := Lib.hid (by have := HO.out.size_le; omega)
      have hwl : w.heap.size < wr.heap.size := HO.out.lt
      clear HI
      go_wp2_with (at_range; refine wpList_range_own _ rfl _ 86 rfl 9 4 (string_keyed Try.underlying9) Try.underlying86 _ w.heap.size k _ rfl HO.out ?_; intro w0 hrg0 hg0 hs0)
      have H2 : Hid (In2 w f ms k wr.heap.size (.slice none 0 0) w0) := Lib.hid ⟨_, _, [], hrg0, by simp, own_nil0 _ _ _ _, Collected.start _, HB.out.grown hg0 HB.out.size (fun j hj => by cases hj)⟩
      clear hrg0 hg0 hs0
      go_frame
      have HWR : Hid (w.heap.size ≤ wr.heap.size) := Lib.hid (by omega)
      generalize wr.heap.size = r at *
      go_loopw [8] (fun v X => Hid (In2 w f ms k r v X)) (fun _ X => X.rangeLeft w.heap.size r)
      case atStart => exact H2
      case round =>
        obtain ⟨left, cnt, ss, hrg, hcs, hrow, hC, hnx⟩ := hrel.out
        have HRG := Lib.hid hrg
        have HCS := Lib.hid hcs
        have HROW := Lib.hid hrow
        have HC := Lib.hid hC
        have HNX := Lib.hid hnx
        clear hrg hcs hrow hC hnx hrel H2
        go_wp2_with (at_next; refine wpList_next_ranges _ rfl _ rfl 9 (string_keyed Try.underlying9) (plainElem Try.prog 4) encStr (fun v : Value => v) (fun key kl hk => by obtain ⟨x, hx, _⟩ := Maps.keyOf_str Try.underlying9 hk; exact ⟨x, hx⟩) (fun v y hv => ⟨v, rfl⟩) w.heap.size r k _ _ _ rfl HRG.out ?_ ?_)
        · intro hc0 hl0
          have HPS := Lib.hid (peers_sorted HC.out hl0)
          have HSL : Hid (ss.length ≤ len) := Lib.hid (by have := HCS.out; have := HSZ.out; omega)
          clear hc0 hl0 HC HCS HRG
          rcases HROW.out.2 with ⟨rfl, hnil⟩ | ⟨g, cp, cur, rfl, hbase, hb, h1, h2, h3, h4⟩
          · obtain rfl : ss = [] := by simpa using hnil
            go_wp2_with (go_at_call 56; refine (Try.slices_Sort_string_none _ _ _).mono ?_; rintro e w' ⟨rfl, rfl⟩)
            go_ret
            exact peers_fin0 HPS.out HNX.out
          · have HH : Hid (Holds encStr wr g 0 ss.toArray) := Lib.hid (holds_of_block hb (by simpa using h4))
            have HGL : Hid (g < wr.heap.size) := Lib.hid (Array.getElem?_eq_some_iff.1 hb).1
            have HRW : Hid (∀ n os, (grow (putRow encStr (Sort.ahead wr n) g 0 (ss.mergeSort fun x y => decide (x ≤ y)).toArray) os).ownsRow (w.heap.size + 1) 9 1 (.slice (some ⟨g, 0, none⟩) ss.length cp) ss.length ((ss.mergeSort fun x y => decide (x ≤ y)).map encStr) ∧ Below w.heap.size w (grow (putRow encStr (Sort.ahead wr n) g 0 (ss.mergeSort fun x y => decide (x ≤ y)).toArray) os)) := Lib.hid (fun n os => ⟨ownsRow_sorted (by simp) hbase hb h1 h2 h3, HNX.out.grown (grownBy_sorted _) HNX.out.size (fun j hj => by cases hj; omega)⟩)
            have hn : ss.length < 4611686018427387904 := by have := HSL.out; omega
            clear hbase hb h1 h2 h3 h4
            go_wp2_with (go_at_call 56; refine (Try.slices_Sort_string g 0 cp ss _ HH.out HGL.out hn).mono ?_; rintro e w' ⟨rfl, nn, os, rfl⟩)
            go_ret
            exact peers_fin HPS.out (HRW.out nn os).1 (HRW.out nn os).2
        · intro x c kl yd yp w2 cnt2 hkey hlk hv hat hrg2 hlt hg2 hs2 hen
          obtain ⟨x', ex, rfl, hxl⟩ := Maps.keyOf_str Try.underlying9 hkey
          obtain rfl : x = x' := encStr_inj ex
          have HROW2 := Lib.hid (HROW.out.kept hg2 (Or.inr (row_ne_iter HROW.out HRG.out).symm))
          have HB2 : Hid (Below w.heap.size w w2) := Lib.hid (HNX.out.grown hg2 HNX.out.size (fun j hj => by cases hj; exact HWR.out))
          have HBA : Hid (Below w.heap.size w (w2.alloc (.cells #[encStr x] 9))) := Lib.hid (bthen HB2.out (Below.alloc1 _ _))
          have HRG2 := Lib.hid hrg2
          have HLT := Lib.hid hlt
          have HCN := Lib.hid (HC.out.step hlk hat)
          have HS2 := Lib.hid hs2
          have hn : ss.length + 1 ≤ len := by have := HCS.out; have := HSZ.out; omega
          have HWL : Hid (w.heap.size + 1 ≤ w2.heap.size) := Lib.hid (by have := HRG2.out.owns.lt; omega)
          clear hkey hlk hv hat hrg2 hlt hg2 hs2 ex
          go_wp2_with (at_builtin; refine wpList_append_own _ rfl _ _ 64 rfl (w.heap.size + 1) 9 i0 (.string ⟨#[]⟩) 1 16 Try.underlying64 HI0.out.1 HI0.out.2.1 HI0.out.2.2.1 HI0.out.2.2.2 rfl (by decide) _ _ _ rfl (HROW2.out.alloc _) ⟨w2.heap.size, 0, none⟩ 1 1 [encStr x] rfl rfl (cell_one_new _ _ _) (by simp [Value.oneCell', encStr]) (by unfold maxLen; omega) (by omega) (by have := HWL.out; simp; omega) ?_; intro v' w3 hown' hg3 hnil3; go_frame)
          have HRG3 := Lib.hid ((HRG2.out.alloc (.cells #[encStr x] 9)).kept hg3 (row_ne_low HROW2.out (by omega)) (row_ne_iter HROW2.out HRG2.out))
          have HI3 : Hid (In2 w f ms k r v' w3) := Lib.hid (by
            refine ⟨_, cnt2, ss ++ [x], HRG3.out, by have := HCS.out; have := HLT.out; simp; omega, by simpa using hown', HCN.out, ?_⟩
            exact HBA.out.grown hg3 HBA.out.size (fun j hj => by have := (HROW2.out.lt j hj).1; omega))
          clear hown' hg3 hnil3
          go_roundw
          case rel => exact HI3
          case measure => rw [HRG3.out.left_eq, HRG.out.left_eq]; exact HLT.out
end Go.Proofs.Ytegcdefdkebmnaa
