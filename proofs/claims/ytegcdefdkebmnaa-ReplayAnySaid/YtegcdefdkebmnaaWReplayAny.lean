/- The walk of ReplayAny. -/
import Derived.Test.YtegcdefdkebmnaaAwake16
namespace Go.Proofs.Ytegcdefdkebmnaa
open Go.RowKit
namespace ReplayAny
attribute [local go_sem ↓] Go.wp_at_zero Go.wp_at_succ

/-- the three boxes of a call -/
theorem boxes (z f : Int) (a : Option Addr) (len cap : Nat) (m : Mk) (u : Us) (w X : World) (h : Below (w.heap.size + 3) (((w.alloc (.cells #[.int .i64 z, .int .i64 f, .slice a len cap] 24)).alloc (.cells #[.string m.n, .string m.i, .string m.r, .int .i64 m.t, .int .i64 m.k] 36)).alloc (.cells #[.int .u8 u.who, .int .u8 u.time, .int .u8 u.tick, .int .u8 u.now] 38)) X) : X.cell? ⟨w.heap.size, 0, none⟩ = some (.int .i64 z) ∧ X.cell? ⟨w.heap.size, 1, none⟩ = some (.int .i64 f) ∧ X.cell? ⟨w.heap.size, 2, none⟩ = some (.slice a len cap) ∧ X.cell? ⟨w.heap.size + 1, 0, none⟩ = some (.string m.n) ∧ X.cell? ⟨w.heap.size + 1, 1, none⟩ = some (.string m.i) ∧ X.cell? ⟨w.heap.size + 1, 2, none⟩ = some (.string m.r) ∧ X.cell? ⟨w.heap.size + 1, 3, none⟩ = some (.int .i64 m.t) ∧ X.cell? ⟨w.heap.size + 1, 4, none⟩ = some (.int .i64 m.k) ∧ X.cell? ⟨w.heap.size + 2, 0, none⟩ = some (.int .u8 u.who) ∧ X.cell? ⟨w.heap.size + 2, 1, none⟩ = some (.int .u8 u.time) ∧ X.cell? ⟨w.heap.size + 2, 2, none⟩ = some (.int .u8 u.tick) ∧ X.cell? ⟨w.heap.size + 2, 3, none⟩ = some (.int .u8 u.now) := by
  have c : ∀ b i, b < w.heap.size + 3 → X.cell? ⟨b, i, none⟩ = (((w.alloc (.cells #[.int .i64 z, .int .i64 f, .slice a len cap] 24)).alloc (.cells #[.string m.n, .string m.i, .string m.r, .int .i64 m.t, .int .i64 m.k] 36)).alloc (.cells #[.int .u8 u.who, .int .u8 u.time, .int .u8 u.tick, .int .u8 u.now] 38)).cell? ⟨b, i, none⟩ := fun b i hb => h.cell (p := ⟨b, i, none⟩) hb
  refine ⟨?_, ?_, ?_, ?_, ?_, ?_, ?_, ?_, ?_, ?_, ?_, ?_⟩
  all_goals rw [c _ _ (by omega)]
  all_goals go_simp
def MC (X : World) (G : Nat) (x : Mk) : Prop := X.cell? ⟨G, 0, none⟩ = some (.string x.n) ∧ X.cell? ⟨G, 1, none⟩ = some (.string x.i) ∧ X.cell? ⟨G, 2, none⟩ = some (.string x.r) ∧ X.cell? ⟨G, 3, none⟩ = some (.int .i64 x.t) ∧ X.cell? ⟨G, 4, none⟩ = some (.int .i64 x.k)

theorem MC.below {X X' : World} {G : Nat} {x : Mk} (h : MC X G x) (hb : Below X.heap.size X X') : MC X' G x := by
  have hG : G < X.heap.size := World.block_lt_of_cell? _ _ h.1
  obtain ⟨h0, h1, h2, h3, h4⟩ := h
  exact ⟨(hb.cell (p := ⟨G, 0, none⟩) hG).trans h0, (hb.cell (p := ⟨G, 1, none⟩) hG).trans h1, (hb.cell (p := ⟨G, 2, none⟩) hG).trans h2, (hb.cell (p := ⟨G, 3, none⟩) hG).trans h3, (hb.cell (p := ⟨G, 4, none⟩) hG).trans h4⟩
theorem addM_len (z f : Int) (ms : List Mk) (m : Mk) (now skew : Int) : (addM z f ms m now skew).length ≤ ms.length + 1 := by
  unfold addM
  split
  · have := keepM_len (floorOf f now skew) ms
    simp; omega
  · simp
theorem endA {W y : World} {N : Nat} (h : Below N W y) (hN : N ≤ y.heap.size) (O : Obj) (x : Mk) : ∃ G, Value.pointer (some ⟨y.heap.size + 1, 0, none⟩) = .pointer (some ⟨G, 0, none⟩) ∧ Hid (MC ((y.alloc O).alloc (.cells #[.string x.n, .string x.i, .string x.r, .int .i64 x.t, .int .i64 x.k] 36)) G x ∧ Below N W ((y.alloc O).alloc (.cells #[.string x.n, .string x.i, .string x.r, .int .i64 x.t, .int .i64 x.k] 36))) := by
  refine ⟨_, rfl, Lib.hid ⟨?_, (h.alloc hN _).alloc (by simp; omega) _⟩⟩
  have c := fun i => cell_new (y.alloc O) #[.string x.n, .string x.i, .string x.r, .int .i64 x.t, .int .i64 x.k] 36 i
  rw [World.size_alloc] at c
  exact ⟨c 0, c 1, c 2, c 3, c 4⟩
theorem endB {W y : World} {N : Nat} (h : Below N W y) (hN : N ≤ y.heap.size) (O : Obj) (x : Mk) : ∃ G, Value.pointer (some ⟨y.heap.size, 0, none⟩) = .pointer (some ⟨G, 0, none⟩) ∧ Hid (MC ((y.alloc (.cells #[.string x.n, .string x.i, .string x.r, .int .i64 x.t, .int .i64 x.k] 36)).alloc O) G x ∧ Below N W ((y.alloc (.cells #[.string x.n, .string x.i, .string x.r, .int .i64 x.t, .int .i64 x.k] 36)).alloc O)) := by
  refine ⟨_, rfl, Lib.hid ⟨?_, (h.alloc hN _).alloc (by simp; omega) _⟩⟩
  obtain ⟨c, _⟩ := cells_one (Below.alloc1 (y.alloc (.cells #[.string x.n, .string x.i, .string x.r, .int .i64 x.t, .int .i64 x.k] 36)) O)
  exact ⟨c 0, c 1, c 2, c 3, c 4⟩
theorem endC {W y : World} {N g : Nat} (h : Below N W y) (hN : N ≤ y.heap.size) (hg : N ≤ g) {a b c d e : Value} (hb : y.heap[g]? = some (.cells #[a, b, c, d, e] 36 (0, 0))) (O : Obj) (x : Mk) : ∃ G, Value.pointer (some ⟨g, 0, none⟩) = .pointer (some ⟨G, 0, none⟩) ∧ Hid (MC ((((((y.setCell ⟨g, 0, none⟩ (.string x.n)).setCell ⟨g, 1, none⟩ (.string x.i)).setCell ⟨g, 2, none⟩ (.string x.r)).setCell ⟨g, 3, none⟩ (.int .i64 x.t)).setCell ⟨g, 4, none⟩ (.int .i64 x.k)).alloc O) G x ∧ Below N W ((((((y.setCell ⟨g, 0, none⟩ (.string x.n)).setCell ⟨g, 1, none⟩ (.string x.i)).setCell ⟨g, 2, none⟩ (.string x.r)).setCell ⟨g, 3, none⟩ (.int .i64 x.t)).setCell ⟨g, 4, none⟩ (.int .i64 x.k)).alloc O)) := by
  have hh := setCell_at (i := 4) (setCell_at (i := 3) (setCell_at (i := 2) (setCell_at (i := 1) (setCell_at (i := 0) hb (.string x.n)) (.string x.i)) (.string x.r)) (.int .i64 x.t)) (.int .i64 x.k)
  have hb5 := ((((h.setCell (p := ⟨g, 0, none⟩) hg (.string x.n)).setCell (p := ⟨g, 1, none⟩) hg (.string x.i)).setCell (p := ⟨g, 2, none⟩) hg (.string x.r)).setCell (p := ⟨g, 3, none⟩) hg (.int .i64 x.t)).setCell (p := ⟨g, 4, none⟩) hg (.int .i64 x.k)
  refine ⟨_, rfl, Lib.hid ⟨?_, hb5.alloc (by simpa [World.setCell] using hN) O⟩⟩
  generalize ((((y.setCell ⟨g, 0, none⟩ (.string x.n)).setCell ⟨g, 1, none⟩ (.string x.i)).setCell ⟨g, 2, none⟩ (.string x.r)).setCell ⟨g, 3, none⟩ (.int .i64 x.t)).setCell ⟨g, 4, none⟩ (.int .i64 x.k) = Y at *
  have hl := lt_of_block hh
  refine ⟨?_, ?_, ?_, ?_, ?_⟩
  all_goals (rw [World.cell?_alloc_lt _ _ _ hl]; simp [World.cell?, hh])
set_option maxRecDepth 100000 in
set_option maxHeartbeats 8000000 in
theorem walk0 (z f : Int) (a : Option Addr) (len cap : Nat) (ms : List Mk) (m : Mk) (now skew : Int) (u : Us) (w : World) (hr : FRow w a len 5 (mcells ms)) (hok : ∀ x ∈ ms, x.ok) (hmo : m.ok) (hu : u.ok) (hcap : len ≤ cap) (hcm : cap ≤ 9223372036854775807) :
    Calls Try.prog 5 #[.agg #[.int .i64 z, .int .i64 f, .slice a len cap], .agg #[.string m.n, .string m.i, .string m.r, .int .i64 m.t, .int .i64 m.k], .int .i64 now, .int .i64 skew, .agg #[.int .u8 u.who, .int .u8 u.time, .int .u8 u.tick, .int .u8 u.now]] w fun e w' => e = .returned (.bool true) ∧ Below w.heap.size w w' := by
  have HB3 : Hid (Below w.heap.size w (((w.alloc (.cells #[.int .i64 z, .int .i64 f, .slice a len cap] 24)).alloc (.cells #[.string m.n, .string m.i, .string m.r, .int .i64 m.t, .int .i64 m.k] 36)).alloc (.cells #[.int .u8 u.who, .int .u8 u.time, .int .u8 u.tick, .int .u8 u.now] 38))) := Lib.hid (bthen (bthen (Below.alloc1 _ _) (Below.alloc1 _ _)) (Below.alloc1 _ _))
  have HW3 : Hid ((((w.alloc (.cells #[.int .i64 z, .int .i64 f, .slice a len cap] 24)).alloc (.cells #[.string m.n, .string m.i, .string m.r, .int .i64 m.t, .int .i64 m.k] 36)).alloc (.cells #[.int .u8 u.who, .int .u8 u.time, .int .u8 u.tick, .int .u8 u.now] 38)).heap.size = w.heap.size + 3) := Lib.hid (by simp)
  have HR := Lib.hid (hr.below HB3.out)
  have HL : Hid (ms.length = len) := Lib.hid (by have := hr.1; rw [mcells_len] at this; omega)
  have HOK := Lib.hid hok
  have HMO := Lib.hid hmo
  have HU := Lib.hid hu
  have HBX := Lib.hid (boxes z f a len cap m u w)
  obtain ⟨o1, o2, o3, _, _⟩ := hmo
  unfold maxLen at o1 o2 o3
  obtain ⟨v1, v2, v3, v4⟩ := hu
  clear hr hok
  go_enter Try.func5, Try.ntmps5
  go_wp2_with (go_at_call 10; refine (awake16_any _).mono ?_; rintro e y1 ⟨rfl, hb1⟩; have HB1 : Hid (Below (w.heap.size + 3) (((w.alloc (.cells #[.int .i64 z, .int .i64 f, .slice a len cap] 24)).alloc (.cells #[.string m.n, .string m.i, .string m.r, .int .i64 m.t, .int .i64 m.k] 36)).alloc (.cells #[.int .u8 u.who, .int .u8 u.time, .int .u8 u.tick, .int .u8 u.now] 38)) y1) := (by rw [← HW3.out]; exact Lib.hid hb1); obtain ⟨r0, r1, r2, m0, m1, m2, m3, m4, u0, u1, u2, u3⟩ := HBX.out y1 HB1.out; clear hb1)
  refine (long16_any _ _ _ _ _ ms _ (HR.out.below (by rw [HW3.out]; exact HB1.out)) HOK.out (by omega)).mono ?_
  rintro e y2 ⟨lb, rfl, hlb, hb2⟩
  have HB2 : Hid (Below (w.heap.size + 3) (((w.alloc (.cells #[.int .i64 z, .int .i64 f, .slice a len cap] 24)).alloc (.cells #[.string m.n, .string m.i, .string m.r, .int .i64 m.t, .int .i64 m.k] 36)).alloc (.cells #[.int .u8 u.who, .int .u8 u.time, .int .u8 u.tick, .int .u8 u.now] 38)) y2) := Lib.hid (HB1.out.trans (hb2.mono (by have := HB1.out.size; rw [HW3.out] at this; exact this)))
  have HBW2 : Hid (Below w.heap.size w y2) := Lib.hid (HB3.out.trans (HB2.out.mono (by omega)))
  clear r0 r1 r2 m0 m1 m2 m3 m4 u0 u1 u2 u3 hb2 HB1
  obtain ⟨r0, r1, r2, m0, m1, m2, m3, m4, u0, u1, u2, u3⟩ := HBX.out y2 HB2.out
  cases lb
  case true =>
    clear hlb
    go_wp2
    go_ret
    exact ⟨rfl, HBW2.out⟩
  have hl50 := hlb rfl
  clear hlb
  by_cases p1 : 100 < m.n.size
  · have p1' : decide (100 < m.n.size) = true := by simpa using p1
    go_wp2
    go_ret
    exact ⟨rfl, HBW2.out⟩
  have p1' : decide (100 < m.n.size) = false := by simpa using p1
  by_cases p2 : 100 < m.i.size
  · have p2' : decide (100 < m.i.size) = true := by simpa using p2
    go_wp2
    go_ret
    exact ⟨rfl, HBW2.out⟩
  have p2' : decide (100 < m.i.size) = false := by simpa using p2
  by_cases p3 : 100 < m.r.size
  · have p3' : decide (100 < m.r.size) = true := by simpa using p3
    go_wp2
    go_ret
    exact ⟨rfl, HBW2.out⟩
  have p3' : decide (100 < m.r.size) = false := by simpa using p3
  go_wp2
  clear r0 r1 r2 m0 m1 m2 m3 m4 u0 u1 u2 u3 p1 p2 p3
  have HMK : Hid (∀ X, Calls Try.prog 15 #[.agg #[.int .u8 u.who, .int .u8 u.time, .int .u8 u.tick, .int .u8 u.now]] X fun e w' => e = .returned (.agg #[.string (useMark u).n, .string (useMark u).i, .string (useMark u).r, .int .i64 (useMark u).t, .int .i64 (useMark u).k]) ∧ Below X.heap.size X w') := Lib.hid (fun X => mark_any u X HU.out)
  go_loopw [11] (fun i wr => ∃ k : Nat, k ≤ 2 ∧ i = .int .i64 k ∧ Hid (Below (w.heap.size + 3) (((w.alloc (.cells #[.int .i64 z, .int .i64 f, .slice a len cap] 24)).alloc (.cells #[.string m.n, .string m.i, .string m.r, .int .i64 m.t, .int .i64 m.k] 36)).alloc (.cells #[.int .u8 u.who, .int .u8 u.time, .int .u8 u.tick, .int .u8 u.now] 38)) wr)) (fun i _ => 2 - (intOf i).toNat)
  case atStart => exact ⟨0, by omega, rfl, HB2⟩
  case round =>
    obtain ⟨k, hk, rfl, HI⟩ := hrel
    clear HB2 HBW2
    have hsz : w.heap.size + 3 ≤ wr.heap.size := by have := HI.out.size; rw [HW3.out] at this; exact this
    obtain ⟨r0, r1, r2, m0, m1, m2, m3, m4, u0, u1, u2, u3⟩ := HBX.out wr HI.out
    have w0 : w.heap.size < wr.heap.size := by omega
    have w1 : w.heap.size + 1 < wr.heap.size := by omega
    have w2 : w.heap.size + 2 < wr.heap.size := by omega
    have h3 : k = 0 ∨ k = 1 ∨ k = 2 := by omega
    rcases h3 with rfl | rfl | rfl
    · go_upto_region 8 with fail
      go_cut [12] (fun v X => ∃ G12, v = .pointer (some ⟨G12, 0, none⟩) ∧ Hid (MC X G12 m ∧ Below (w.heap.size + 3) (((w.alloc (.cells #[.int .i64 z, .int .i64 f, .slice a len cap] 24)).alloc (.cells #[.string m.n, .string m.i, .string m.r, .int .i64 m.t, .int .i64 m.k] 36)).alloc (.cells #[.int .u8 u.who, .int .u8 u.time, .int .u8 u.tick, .int .u8 u.now] 38)) X))
      case first =>
        go_region_with (go_at_call 15; refine (HMK.out _).mono ?_; rintro e y1 ⟨rfl, hb1⟩; have HY1 : Hid (Below (w.heap.size + 3) (((w.alloc (.cells #[.int .i64 z, .int .i64 f, .slice a len cap] 24)).alloc (.cells #[.string m.n, .string m.i, .string m.r, .int .i64 m.t, .int .i64 m.k] 36)).alloc (.cells #[.int .u8 u.who, .int .u8 u.time, .int .u8 u.tick, .int .u8 u.now] 38)) y1) := (by first | exact Lib.hid (HI.out.trans ((bthen (Below.drewN1 _ 1 _) hb1).mono hsz)) | exact Lib.hid (HI.out.trans ((bthen (bthen (Below.alloc1 _ _) (Below.drewN1 _ 1 _)) hb1).mono hsz))); obtain ⟨r0, r1, r2, m0, m1, m2, m3, m4, u0, u1, u2, u3⟩ := HBX.out y1 HY1.out; have hszy : w.heap.size + 3 ≤ y1.heap.size := (by have := HY1.out.size; rw [HW3.out] at this; exact this); have w0' : w.heap.size < y1.heap.size := (by omega); have w1' : w.heap.size + 1 < y1.heap.size := (by omega); have w2' : w.heap.size + 2 < y1.heap.size := (by omega); obtain ⟨hc1, hf1⟩ := bcell hb1; have hz1 := hb1.size; (try simp at hz1); (try have hq1 : wr.heap.size < y1.heap.size := (by omega)); (try have HBK := Lib.hid ((hb1.block wr.heap.size (by simp)).trans (heap_alloc_new wr _))); clear hb1)
        all_goals (go_wp2_with fail; go_meet; first | exact endA HY1.out hszy _ m | exact endB HY1.out hszy _ m | exact endC HY1.out hszy hsz HBK.out _ m)
      case rest =>
        obtain ⟨G12, rfl, HC⟩ := hcut
        clear r0 r1 r2 m0 m1 m2 m3 m4 u0 u1 u2 u3 w0 w1 w2 hsz
        have hc12 : G12 < wc.heap.size := World.block_lt_of_cell? _ _ HC.out.1.1
        have hszc : w.heap.size + 3 ≤ wc.heap.size := by have := HC.out.2.size; rw [HW3.out] at this; exact this
        have w0 : w.heap.size < wc.heap.size := by omega
        have w1 : w.heap.size + 1 < wc.heap.size := by omega
        have w2 : w.heap.size + 2 < wc.heap.size := by omega
        obtain ⟨r0, r1, r2, m0, m1, m2, m3, m4, u0, u1, u2, u3⟩ := HBX.out wc HC.out.2
        obtain ⟨x0, x1, x2, x3, x4⟩ := HC.out.1
        go_wp2_with fail
        clear r0 r1 r2 m0 m1 m2 m3 m4 u0 u1 u2 u3 x0 x1 x2 x3 x4
        have HV1 : Hid (Below (w.heap.size + 3) (((w.alloc (.cells #[.int .i64 z, .int .i64 f, .slice a len cap] 24)).alloc (.cells #[.string m.n, .string m.i, .string m.r, .int .i64 m.t, .int .i64 m.k] 36)).alloc (.cells #[.int .u8 u.who, .int .u8 u.time, .int .u8 u.tick, .int .u8 u.now] 38)) (wc.alloc (.cells #[.int .i64 now, .int .i64 (1000 + u.now / 2)] 3))) := Lib.hid (HC.out.2.alloc hszc _)
        have HM1 : Hid (MC (wc.alloc (.cells #[.int .i64 now, .int .i64 (1000 + u.now / 2)] 3)) G12 m) := Lib.hid (HC.out.1.below (Below.alloc1 _ _))
        generalize wc.alloc (.cells #[.int .i64 now, .int .i64 (1000 + u.now / 2)] 3) = V1 at *
        have HR1 : Hid (FRow V1 a len 5 (mcells ms)) := Lib.hid (HR.out.below (by rw [HW3.out]; exact HV1.out))
        refine (add_any z f a len cap ms m now skew V1 HR1.out HOK.out HMO.out hcap hcm (by omega)).mono ?_
        rintro e y2 ⟨va, rfl, hown2, hb2⟩
        have HNL : Hid ((addM z f ms m now skew).length ≤ 1000) := Lib.hid (by have := addM_len z f ms m now skew; have := HL.out; omega)
        obtain ⟨a2, cap2, hv2, hr2, _⟩ := CachePost.row hown2
        have HF2 := Lib.hid hr2
        have HB2' := Lib.hid hb2
        rw [hv2]
        clear hv2 hr2 hown2 hb2
        generalize hzA : addZ z f ms m now skew = zA at *
        generalize hfA : addF z f ms m now skew = fA at *
        generalize hmA : addM z f ms m now skew = mA at *
        generalize heA : addErr z f ms m now skew = eA at *
        have HEQ := Lib.hid (And.intro hzA (And.intro hfA (And.intro hmA heA)))
        clear hzA hfA hmA heA
        obtain ⟨nA, HNA⟩ : ∃ n, Hid (mA.length = n) := ⟨_, Lib.hid rfl⟩
        rw [HNA.out] at HNL HF2 ⊢
        have HV2 : Hid (Below V1.heap.size V1 (y2.alloc (.cells #[.int .i64 zA, .int .i64 fA, .slice a2 nA cap2] 24))) := Lib.hid (bthen HB2'.out (Below.alloc1 _ _))
        have hsz1 : w.heap.size + 3 ≤ V1.heap.size := by have := HV1.out.size; rw [HW3.out] at this; exact this
        have HV2' : Hid (Below (w.heap.size + 3) (((w.alloc (.cells #[.int .i64 z, .int .i64 f, .slice a len cap] 24)).alloc (.cells #[.string m.n, .string m.i, .string m.r, .int .i64 m.t, .int .i64 m.k] 36)).alloc (.cells #[.int .u8 u.who, .int .u8 u.time, .int .u8 u.tick, .int .u8 u.now] 38)) (y2.alloc (.cells #[.int .i64 zA, .int .i64 fA, .slice a2 nA cap2] 24))) := Lib.hid (HV1.out.trans (HV2.out.mono hsz1))
        obtain ⟨r0, r1, r2, m0, m1, m2, m3, m4, u0, u1, u2, u3⟩ := HBX.out _ HV2'.out
        obtain ⟨x0, x1, x2, x3, x4⟩ := HM1.out.below HV2.out
        go_wp2_with fail
        have HR2 : Hid (FRow (y2.alloc (.cells #[.int .i64 zA, .int .i64 fA, .slice a2 nA cap2] 24)) a len 5 (mcells ms)) := Lib.hid (HR.out.below (by rw [HW3.out]; exact HV2'.out))
        refine (refAdd16_any z f a len cap ms m now skew _ HR2.out HOK.out HMO.out hcap hcm (by omega)).mono ?_
        rintro e y3 ⟨vb, rfl, hown3, hb3⟩
        rw [HEQ.out.2.2.1] at hown3
        rw [HEQ.out.1, HEQ.out.2.1, HEQ.out.2.2.2]
        obtain ⟨a3, cap3, hv3, hr3, _⟩ := CachePost.row hown3
        have HF3 := Lib.hid hr3
        have HB3' := Lib.hid hb3
        rw [hv3]
        clear hv3 hr3 hown3 hb3 r0 r1 r2 m0 m1 m2 m3 m4 u0 u1 u2 u3 x0 x1 x2 x3 x4
        rw [HNA.out] at HF3 ⊢
        go_upto_region 12 with fail
        have HV3 : Hid (Below V1.heap.size V1 (y3.alloc (.cells #[.int .i64 zA, .int .i64 fA, .slice a3 nA cap3] 24))) := Lib.hid (bthen (bthen HV2.out HB3'.out) (Below.alloc1 _ _))
        have HS : Hid (∀ X, Below (y3.alloc (.cells #[.int .i64 zA, .int .i64 fA, .slice a3 nA cap3] 24)).heap.size (y3.alloc (.cells #[.int .i64 zA, .int .i64 fA, .slice a3 nA cap3] 24)) X → X.cell? ⟨y2.heap.size, 0, none⟩ = some (.int .i64 zA) ∧ X.cell? ⟨y2.heap.size, 1, none⟩ = some (.int .i64 fA) ∧ X.cell? ⟨y2.heap.size, 2, none⟩ = some (.slice a2 nA cap2) ∧ X.cell? ⟨y3.heap.size, 0, none⟩ = some (.int .i64 zA) ∧ X.cell? ⟨y3.heap.size, 1, none⟩ = some (.int .i64 fA) ∧ X.cell? ⟨y3.heap.size, 2, none⟩ = some (.slice a3 nA cap3) ∧ X.cell? ⟨w.heap.size, 0, none⟩ = some (.int .i64 z) ∧ X.cell? ⟨w.heap.size, 1, none⟩ = some (.int .i64 f) ∧ X.cell? ⟨w.heap.size, 2, none⟩ = some (.slice a len cap) ∧ X.cell? ⟨G12, 0, none⟩ = some (.string m.n) ∧ X.cell? ⟨G12, 1, none⟩ = some (.string m.i) ∧ X.cell? ⟨G12, 2, none⟩ = some (.string m.r) ∧ X.cell? ⟨G12, 3, none⟩ = some (.int .i64 m.t) ∧ X.cell? ⟨G12, 4, none⟩ = some (.int .i64 m.k)) := Lib.hid (fun X hX => by
          obtain ⟨p1, p2, _⟩ := cells_two HB3'.out hX
          obtain ⟨r0, r1, r2, m0, m1, m2, m3, m4, u0, u1, u2, u3⟩ := HBX.out X (HV1.out.trans ((bthen HV3.out hX).mono hsz1))
          obtain ⟨x0, x1, x2, x3, x4⟩ := HM1.out.below (bthen HV3.out hX)
          exact ⟨p1 0, p1 1, p1 2, p2 0, p2 1, p2 2, r0, r1, r2, x0, x1, x2, x3, x4⟩)
        have HSA : Hid (∀ X, Below (y3.alloc (.cells #[.int .i64 zA, .int .i64 fA, .slice a3 nA cap3] 24)).heap.size (y3.alloc (.cells #[.int .i64 zA, .int .i64 fA, .slice a3 nA cap3] 24)) X → Calls Try.prog 18 #[.agg #[.int .i64 zA, .int .i64 fA, .slice a2 nA cap2], .agg #[.int .i64 zA, .int .i64 fA, .slice a3 nA cap3]] X fun e w' => e = .returned (.bool true) ∧ Below X.heap.size X w') := Lib.hid (fun X hX => same_any zA fA a2 cap2 a3 cap3 nA mA X (((HF2.out.below (Below.alloc1 _ _)).below HB3'.out).below (bthen (Below.alloc1 _ _) hX)) (HF3.out.below (bthen (Below.alloc1 _ _) hX)) (by have := HNL.out; omega))
        have HHA : Hid (∀ X, Below (y3.alloc (.cells #[.int .i64 zA, .int .i64 fA, .slice a3 nA cap3] 24)).heap.size (y3.alloc (.cells #[.int .i64 zA, .int .i64 fA, .slice a3 nA cap3] 24)) X → Calls Try.prog 21 #[.agg #[.int .i64 z, .int .i64 f, .slice a len cap], .agg #[.string m.n, .string m.i, .string m.r, .int .i64 m.t, .int .i64 m.k]] X fun e w' => e = .returned (.bool (hasB ms m)) ∧ Below X.heap.size X w') := Lib.hid (fun X hX => has_any z f a len cap ms m X (HR.out.below (by rw [HW3.out]; exact HV1.out.trans ((bthen HV3.out hX).mono hsz1))) (by omega))
        have HHB : Hid (∀ X, Below (y3.alloc (.cells #[.int .i64 zA, .int .i64 fA, .slice a3 nA cap3] 24)).heap.size (y3.alloc (.cells #[.int .i64 zA, .int .i64 fA, .slice a3 nA cap3] 24)) X → Calls Try.prog 22 #[.agg #[.int .i64 z, .int .i64 f, .slice a len cap], .agg #[.string m.n, .string m.i, .string m.r, .int .i64 m.t, .int .i64 m.k]] X fun e w' => e = .returned (.bool (hasB ms m)) ∧ Below X.heap.size X w') := Lib.hid (fun X hX => refHas_any z f a len cap ms m X (HR.out.below (by rw [HW3.out]; exact HV1.out.trans ((bthen HV3.out hX).mono hsz1))) (by omega))
        have HQ0 : Hid (Below (y3.alloc (.cells #[.int .i64 zA, .int .i64 fA, .slice a3 nA cap3] 24)).heap.size (y3.alloc (.cells #[.int .i64 zA, .int .i64 fA, .slice a3 nA cap3] 24)) (y3.alloc (.cells #[.int .i64 zA, .int .i64 fA, .slice a3 nA cap3] 24)).drew) := Lib.hid (Below.refl _ _).drew
        generalize hasB ms m = hb at *
        generalize y3.alloc (.cells #[.int .i64 zA, .int .i64 fA, .slice a3 nA cap3] 24) = V3 at *
        go_region_held3 (fun X => X.cell? ⟨y2.heap.size, 0, none⟩ = some (.int .i64 zA) ∧ X.cell? ⟨y2.heap.size, 1, none⟩ = some (.int .i64 fA) ∧ X.cell? ⟨y2.heap.size, 2, none⟩ = some (.slice a2 nA cap2) ∧ X.cell? ⟨y3.heap.size, 0, none⟩ = some (.int .i64 zA) ∧ X.cell? ⟨y3.heap.size, 1, none⟩ = some (.int .i64 fA) ∧ X.cell? ⟨y3.heap.size, 2, none⟩ = some (.slice a3 nA cap3) ∧ X.cell? ⟨w.heap.size, 0, none⟩ = some (.int .i64 z) ∧ X.cell? ⟨w.heap.size, 1, none⟩ = some (.int .i64 f) ∧ X.cell? ⟨w.heap.size, 2, none⟩ = some (.slice a len cap) ∧ X.cell? ⟨G12, 0, none⟩ = some (.string m.n) ∧ X.cell? ⟨G12, 1, none⟩ = some (.string m.i) ∧ X.cell? ⟨G12, 2, none⟩ = some (.string m.r) ∧ X.cell? ⟨G12, 3, none⟩ = some (.int .i64 m.t) ∧ X.cell? ⟨G12, 4, none⟩ = some (.int .i64 m.k)) (first | exact HS.out _ HQ3.out | exact HS.out _ HQ2.out | exact HS.out _ HQ1.out | exact HS.out _ HQ0.out) (first | (go_simp; go_at_call 18; refine (HSA.out _ ?_).mono ?_; (focus (first | exact HQ2.out | exact HQ1.out | exact HQ0.out)); rintro e y4 ⟨rfl, hb4⟩; first | (have HQ3 := Lib.hid (bthen HQ2.out hb4); clear hb4) | (have HQ2 := Lib.hid (bthen HQ1.out hb4); clear hb4) | (have HQ1 := Lib.hid (bthen HQ0.out hb4); clear hb4)) | (go_simp; go_at_call 21; refine (HHA.out _ ?_).mono ?_; (focus (first | exact HQ2.out | exact HQ1.out | exact HQ0.out)); rintro e y4 ⟨rfl, hb4⟩; first | (have HQ3 := Lib.hid (bthen HQ2.out hb4); clear hb4) | (have HQ2 := Lib.hid (bthen HQ1.out hb4); clear hb4) | (have HQ1 := Lib.hid (bthen HQ0.out hb4); clear hb4)) | (go_simp; go_at_call 22; refine (HHB.out _ ?_).mono ?_; (focus (first | exact HQ2.out | exact HQ1.out | exact HQ0.out)); rintro e y4 ⟨rfl, hb4⟩; first | (have HQ3 := Lib.hid (bthen HQ2.out hb4); clear hb4) | (have HQ2 := Lib.hid (bthen HQ1.out hb4); clear hb4) | (have HQ1 := Lib.hid (bthen HQ0.out hb4); clear hb4)))
        go_wp2
        go_roundw
        case rel => exact ⟨1, by omega, rfl, Lib.hid (HV1.out.trans ((bthen HV3.out HQ3.out).mono hsz1))⟩
        case measure => simp [intOf]
    · go_upto_region 8 with fail
      go_cut [12] (fun v X => ∃ G12, v = .pointer (some ⟨G12, 0, none⟩) ∧ Hid (MC X G12 (useMark u) ∧ Below (w.heap.size + 3) (((w.alloc (.cells #[.int .i64 z, .int .i64 f, .slice a len cap] 24)).alloc (.cells #[.string m.n, .string m.i, .string m.r, .int .i64 m.t, .int .i64 m.k] 36)).alloc (.cells #[.int .u8 u.who, .int .u8 u.time, .int .u8 u.tick, .int .u8 u.now] 38)) X))
      case first =>
        go_region_with (go_at_call 15; refine (HMK.out _).mono ?_; rintro e y1 ⟨rfl, hb1⟩; have HY1 : Hid (Below (w.heap.size + 3) (((w.alloc (.cells #[.int .i64 z, .int .i64 f, .slice a len cap] 24)).alloc (.cells #[.string m.n, .string m.i, .string m.r, .int .i64 m.t, .int .i64 m.k] 36)).alloc (.cells #[.int .u8 u.who, .int .u8 u.time, .int .u8 u.tick, .int .u8 u.now] 38)) y1) := (by first | exact Lib.hid (HI.out.trans ((bthen (Below.drewN1 _ 1 _) hb1).mono hsz)) | exact Lib.hid (HI.out.trans ((bthen (bthen (Below.alloc1 _ _) (Below.drewN1 _ 1 _)) hb1).mono hsz))); obtain ⟨r0, r1, r2, m0, m1, m2, m3, m4, u0, u1, u2, u3⟩ := HBX.out y1 HY1.out; have hszy : w.heap.size + 3 ≤ y1.heap.size := (by have := HY1.out.size; rw [HW3.out] at this; exact this); have w0' : w.heap.size < y1.heap.size := (by omega); have w1' : w.heap.size + 1 < y1.heap.size := (by omega); have w2' : w.heap.size + 2 < y1.heap.size := (by omega); obtain ⟨hc1, hf1⟩ := bcell hb1; have hz1 := hb1.size; (try simp at hz1); (try have hq1 : wr.heap.size < y1.heap.size := (by omega)); (try have HBK := Lib.hid ((hb1.block wr.heap.size (by simp)).trans (heap_alloc_new wr _))); clear hb1)
        all_goals (go_wp2_with fail; go_meet; first | exact endA HY1.out hszy _ (useMark u) | exact endB HY1.out hszy _ (useMark u) | exact endC HY1.out hszy hsz HBK.out _ (useMark u))
      case rest =>
        obtain ⟨G12, rfl, HC⟩ := hcut
        clear r0 r1 r2 m0 m1 m2 m3 m4 u0 u1 u2 u3 w0 w1 w2 hsz
        have hc12 : G12 < wc.heap.size := World.block_lt_of_cell? _ _ HC.out.1.1
        have hszc : w.heap.size + 3 ≤ wc.heap.size := by have := HC.out.2.size; rw [HW3.out] at this; exact this
        have w0 : w.heap.size < wc.heap.size := by omega
        have w1 : w.heap.size + 1 < wc.heap.size := by omega
        have w2 : w.heap.size + 2 < wc.heap.size := by omega
        obtain ⟨r0, r1, r2, m0, m1, m2, m3, m4, u0, u1, u2, u3⟩ := HBX.out wc HC.out.2
        obtain ⟨x0, x1, x2, x3, x4⟩ := HC.out.1
        go_wp2_with fail
        clear r0 r1 r2 m0 m1 m2 m3 m4 u0 u1 u2 u3 x0 x1 x2 x3 x4
        have HV1 : Hid (Below (w.heap.size + 3) (((w.alloc (.cells #[.int .i64 z, .int .i64 f, .slice a len cap] 24)).alloc (.cells #[.string m.n, .string m.i, .string m.r, .int .i64 m.t, .int .i64 m.k] 36)).alloc (.cells #[.int .u8 u.who, .int .u8 u.time, .int .u8 u.tick, .int .u8 u.now] 38)) (wc.alloc (.cells #[.int .i64 now, .int .i64 (1000 + u.now / 2)] 3))) := Lib.hid (HC.out.2.alloc hszc _)
        have HM1 : Hid (MC (wc.alloc (.cells #[.int .i64 now, .int .i64 (1000 + u.now / 2)] 3)) G12 (useMark u)) := Lib.hid (HC.out.1.below (Below.alloc1 _ _))
        generalize wc.alloc (.cells #[.int .i64 now, .int .i64 (1000 + u.now / 2)] 3) = V1 at *
        have HR1 : Hid (FRow V1 a len 5 (mcells ms)) := Lib.hid (HR.out.below (by rw [HW3.out]; exact HV1.out))
        refine (add_any z f a len cap ms (useMark u) (1000 + u.now / 2) skew V1 HR1.out HOK.out (useMark_ok HU.out) hcap hcm (by omega)).mono ?_
        rintro e y2 ⟨va, rfl, hown2, hb2⟩
        have HNL : Hid ((addM z f ms (useMark u) (1000 + u.now / 2) skew).length ≤ 1000) := Lib.hid (by have := addM_len z f ms (useMark u) (1000 + u.now / 2) skew; have := HL.out; omega)
        obtain ⟨a2, cap2, hv2, hr2, _⟩ := CachePost.row hown2
        have HF2 := Lib.hid hr2
        have HB2' := Lib.hid hb2
        rw [hv2]
        clear hv2 hr2 hown2 hb2
        generalize hzA : addZ z f ms (useMark u) (1000 + u.now / 2) skew = zA at *
        generalize hfA : addF z f ms (useMark u) (1000 + u.now / 2) skew = fA at *
        generalize hmA : addM z f ms (useMark u) (1000 + u.now / 2) skew = mA at *
        generalize heA : addErr z f ms (useMark u) (1000 + u.now / 2) skew = eA at *
        have HEQ := Lib.hid (And.intro hzA (And.intro hfA (And.intro hmA heA)))
        clear hzA hfA hmA heA
        obtain ⟨nA, HNA⟩ : ∃ n, Hid (mA.length = n) := ⟨_, Lib.hid rfl⟩
        rw [HNA.out] at HNL HF2 ⊢
        have HV2 : Hid (Below V1.heap.size V1 (y2.alloc (.cells #[.int .i64 zA, .int .i64 fA, .slice a2 nA cap2] 24))) := Lib.hid (bthen HB2'.out (Below.alloc1 _ _))
        have hsz1 : w.heap.size + 3 ≤ V1.heap.size := by have := HV1.out.size; rw [HW3.out] at this; exact this
        have HV2' : Hid (Below (w.heap.size + 3) (((w.alloc (.cells #[.int .i64 z, .int .i64 f, .slice a len cap] 24)).alloc (.cells #[.string m.n, .string m.i, .string m.r, .int .i64 m.t, .int .i64 m.k] 36)).alloc (.cells #[.int .u8 u.who, .int .u8 u.time, .int .u8 u.tick, .int .u8 u.now] 38)) (y2.alloc (.cells #[.int .i64 zA, .int .i64 fA, .slice a2 nA cap2] 24))) := Lib.hid (HV1.out.trans (HV2.out.mono hsz1))
        obtain ⟨r0, r1, r2, m0, m1, m2, m3, m4, u0, u1, u2, u3⟩ := HBX.out _ HV2'.out
        obtain ⟨x0, x1, x2, x3, x4⟩ := HM1.out.below HV2.out
        go_wp2_with fail
        have HR2 : Hid (FRow (y2.alloc (.cells #[.int .i64 zA, .int .i64 fA, .slice a2 nA cap2] 24)) a len 5 (mcells ms)) := Lib.hid (HR.out.below (by rw [HW3.out]; exact HV2'.out))
        refine (refAdd16_any z f a len cap ms (useMark u) (1000 + u.now / 2) skew _ HR2.out HOK.out (useMark_ok HU.out) hcap hcm (by omega)).mono ?_
        rintro e y3 ⟨vb, rfl, hown3, hb3⟩
        rw [HEQ.out.2.2.1] at hown3
        rw [HEQ.out.1, HEQ.out.2.1, HEQ.out.2.2.2]
        obtain ⟨a3, cap3, hv3, hr3, _⟩ := CachePost.row hown3
        have HF3 := Lib.hid hr3
        have HB3' := Lib.hid hb3
        rw [hv3]
        clear hv3 hr3 hown3 hb3 r0 r1 r2 m0 m1 m2 m3 m4 u0 u1 u2 u3 x0 x1 x2 x3 x4
        rw [HNA.out] at HF3 ⊢
        go_upto_region 12 with fail
        have HV3 : Hid (Below V1.heap.size V1 (y3.alloc (.cells #[.int .i64 zA, .int .i64 fA, .slice a3 nA cap3] 24))) := Lib.hid (bthen (bthen HV2.out HB3'.out) (Below.alloc1 _ _))
        have HS : Hid (∀ X, Below (y3.alloc (.cells #[.int .i64 zA, .int .i64 fA, .slice a3 nA cap3] 24)).heap.size (y3.alloc (.cells #[.int .i64 zA, .int .i64 fA, .slice a3 nA cap3] 24)) X → X.cell? ⟨y2.heap.size, 0, none⟩ = some (.int .i64 zA) ∧ X.cell? ⟨y2.heap.size, 1, none⟩ = some (.int .i64 fA) ∧ X.cell? ⟨y2.heap.size, 2, none⟩ = some (.slice a2 nA cap2) ∧ X.cell? ⟨y3.heap.size, 0, none⟩ = some (.int .i64 zA) ∧ X.cell? ⟨y3.heap.size, 1, none⟩ = some (.int .i64 fA) ∧ X.cell? ⟨y3.heap.size, 2, none⟩ = some (.slice a3 nA cap3) ∧ X.cell? ⟨w.heap.size, 0, none⟩ = some (.int .i64 z) ∧ X.cell? ⟨w.heap.size, 1, none⟩ = some (.int .i64 f) ∧ X.cell? ⟨w.heap.size, 2, none⟩ = some (.slice a len cap) ∧ X.cell? ⟨G12, 0, none⟩ = some (.string (useMark u).n) ∧ X.cell? ⟨G12, 1, none⟩ = some (.string (useMark u).i) ∧ X.cell? ⟨G12, 2, none⟩ = some (.string (useMark u).r) ∧ X.cell? ⟨G12, 3, none⟩ = some (.int .i64 (useMark u).t) ∧ X.cell? ⟨G12, 4, none⟩ = some (.int .i64 (useMark u).k)) := Lib.hid (fun X hX => by
          obtain ⟨p1, p2, _⟩ := cells_two HB3'.out hX
          obtain ⟨r0, r1, r2, m0, m1, m2, m3, m4, u0, u1, u2, u3⟩ := HBX.out X (HV1.out.trans ((bthen HV3.out hX).mono hsz1))
          obtain ⟨x0, x1, x2, x3, x4⟩ := HM1.out.below (bthen HV3.out hX)
          exact ⟨p1 0, p1 1, p1 2, p2 0, p2 1, p2 2, r0, r1, r2, x0, x1, x2, x3, x4⟩)
        have HSA : Hid (∀ X, Below (y3.alloc (.cells #[.int .i64 zA, .int .i64 fA, .slice a3 nA cap3] 24)).heap.size (y3.alloc (.cells #[.int .i64 zA, .int .i64 fA, .slice a3 nA cap3] 24)) X → Calls Try.prog 18 #[.agg #[.int .i64 zA, .int .i64 fA, .slice a2 nA cap2], .agg #[.int .i64 zA, .int .i64 fA, .slice a3 nA cap3]] X fun e w' => e = .returned (.bool true) ∧ Below X.heap.size X w') := Lib.hid (fun X hX => same_any zA fA a2 cap2 a3 cap3 nA mA X (((HF2.out.below (Below.alloc1 _ _)).below HB3'.out).below (bthen (Below.alloc1 _ _) hX)) (HF3.out.below (bthen (Below.alloc1 _ _) hX)) (by have := HNL.out; omega))
        have HHA : Hid (∀ X, Below (y3.alloc (.cells #[.int .i64 zA, .int .i64 fA, .slice a3 nA cap3] 24)).heap.size (y3.alloc (.cells #[.int .i64 zA, .int .i64 fA, .slice a3 nA cap3] 24)) X → Calls Try.prog 21 #[.agg #[.int .i64 z, .int .i64 f, .slice a len cap], .agg #[.string (useMark u).n, .string (useMark u).i, .string (useMark u).r, .int .i64 (useMark u).t, .int .i64 (useMark u).k]] X fun e w' => e = .returned (.bool (hasB ms (useMark u))) ∧ Below X.heap.size X w') := Lib.hid (fun X hX => has_any z f a len cap ms (useMark u) X (HR.out.below (by rw [HW3.out]; exact HV1.out.trans ((bthen HV3.out hX).mono hsz1))) (by omega))
        have HHB : Hid (∀ X, Below (y3.alloc (.cells #[.int .i64 zA, .int .i64 fA, .slice a3 nA cap3] 24)).heap.size (y3.alloc (.cells #[.int .i64 zA, .int .i64 fA, .slice a3 nA cap3] 24)) X → Calls Try.prog 22 #[.agg #[.int .i64 z, .int .i64 f, .slice a len cap], .agg #[.string (useMark u).n, .string (useMark u).i, .string (useMark u).r, .int .i64 (useMark u).t, .int .i64 (useMark u).k]] X fun e w' => e = .returned (.bool (hasB ms (useMark u))) ∧ Below X.heap.size X w') := Lib.hid (fun X hX => refHas_any z f a len cap ms (useMark u) X (HR.out.below (by rw [HW3.out]; exact HV1.out.trans ((bthen HV3.out hX).mono hsz1))) (by omega))
        have HQ0 : Hid (Below (y3.alloc (.cells #[.int .i64 zA, .int .i64 fA, .slice a3 nA cap3] 24)).heap.size (y3.alloc (.cells #[.int .i64 zA, .int .i64 fA, .slice a3 nA cap3] 24)) (y3.alloc (.cells #[.int .i64 zA, .int .i64 fA, .slice a3 nA cap3] 24)).drew) := Lib.hid (Below.refl _ _).drew
        generalize hasB ms (useMark u) = hb at *
        generalize y3.alloc (.cells #[.int .i64 zA, .int .i64 fA, .slice a3 nA cap3] 24) = V3 at *
        go_region_held3 (fun X => X.cell? ⟨y2.heap.size, 0, none⟩ = some (.int .i64 zA) ∧ X.cell? ⟨y2.heap.size, 1, none⟩ = some (.int .i64 fA) ∧ X.cell? ⟨y2.heap.size, 2, none⟩ = some (.slice a2 nA cap2) ∧ X.cell? ⟨y3.heap.size, 0, none⟩ = some (.int .i64 zA) ∧ X.cell? ⟨y3.heap.size, 1, none⟩ = some (.int .i64 fA) ∧ X.cell? ⟨y3.heap.size, 2, none⟩ = some (.slice a3 nA cap3) ∧ X.cell? ⟨w.heap.size, 0, none⟩ = some (.int .i64 z) ∧ X.cell? ⟨w.heap.size, 1, none⟩ = some (.int .i64 f) ∧ X.cell? ⟨w.heap.size, 2, none⟩ = some (.slice a len cap) ∧ X.cell? ⟨G12, 0, none⟩ = some (.string (useMark u).n) ∧ X.cell? ⟨G12, 1, none⟩ = some (.string (useMark u).i) ∧ X.cell? ⟨G12, 2, none⟩ = some (.string (useMark u).r) ∧ X.cell? ⟨G12, 3, none⟩ = some (.int .i64 (useMark u).t) ∧ X.cell? ⟨G12, 4, none⟩ = some (.int .i64 (useMark u).k)) (first | exact HS.out _ HQ3.out | exact HS.out _ HQ2.out | exact HS.out _ HQ1.out | exact HS.out _ HQ0.out) (first | (go_simp; go_at_call 18; refine (HSA.out _ ?_).mono ?_; (focus (first | exact HQ2.out | exact HQ1.out | exact HQ0.out)); rintro e y4 ⟨rfl, hb4⟩; first | (have HQ3 := Lib.hid (bthen HQ2.out hb4); clear hb4) | (have HQ2 := Lib.hid (bthen HQ1.out hb4); clear hb4) | (have HQ1 := Lib.hid (bthen HQ0.out hb4); clear hb4)) | (go_simp; go_at_call 21; refine (HHA.out _ ?_).mono ?_; (focus (first | exact HQ2.out | exact HQ1.out | exact HQ0.out)); rintro e y4 ⟨rfl, hb4⟩; first | (have HQ3 := Lib.hid (bthen HQ2.out hb4); clear hb4) | (have HQ2 := Lib.hid (bthen HQ1.out hb4); clear hb4) | (have HQ1 := Lib.hid (bthen HQ0.out hb4); clear hb4)) | (go_simp; go_at_call 22; refine (HHB.out _ ?_).mono ?_; (focus (first | exact HQ2.out | exact HQ1.out | exact HQ0.out)); rintro e y4 ⟨rfl, hb4⟩; first | (have HQ3 := Lib.hid (bthen HQ2.out hb4); clear hb4) | (have HQ2 := Lib.hid (bthen HQ1.out hb4); clear hb4) | (have HQ1 := Lib.hid (bthen HQ0.out hb4); clear hb4)))
        go_wp2
        go_roundw
        case rel => exact ⟨2, by omega, rfl, Lib.hid (HV1.out.trans ((bthen HV3.out HQ3.out).mono hsz1))⟩
        case measure => simp [intOf]
    · go_wp2
      go_ret
      exact ⟨rfl, HB3.out.trans (HI.out.mono (by omega))⟩
end ReplayAny
end Go.Proofs.Ytegcdefdkebmnaa
