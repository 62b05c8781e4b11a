/- Contract of kerbsuitelaw16.filled: a valid cache. -/
import Derived.Test.YtegcdefdkebmnaaOnce
import Derived.Test.YtegcdefdkebmnaaQuiet
namespace Go.Proofs.Ytegcdefdkebmnaa
open Go.RowKit
attribute [local go_sem ↓] Go.wp_at_zero Go.wp_at_succ

def FillPost (w : World) (e : Ending) (w' : World) : Prop :=
  ∃ (z f : Int) (ms : List Mk) (a : Option Addr) (cap : Nat) (n : Int), e = .returned (.tuple #[.agg #[.int .i64 z, .int .i64 f, .slice a ms.length cap], .int .i64 n]) ∧ checkErr z f ms = 0 ∧ (∀ x ∈ ms, x.ok) ∧ FRow w' a ms.length 5 (mcells ms) ∧ ms.length ≤ cap ∧ cap ≤ 9223372036854775807 ∧ (a = none → cap = 0) ∧ Below w.heap.size w w'
theorem own_nil {w : World} {base : Nat} {T : TypeId} {size : Nat} {v : Value} {a : Option Addr} {n cap : Nat} {xs : List Value} (h : w.ownsRow base T size v n xs) (hv : v = .slice a n cap) : a = none → cap = 0 := by
  intro e
  subst e
  rcases h.2 with ⟨h3, _⟩ | ⟨g, c, cur, h3, _⟩
  · rw [hv] at h3; injection h3
  · rw [hv] at h3; injection h3 with h3; cases h3
/-- the state of filled's loop -/
def Fi (W : World) (G : Nat) (X : World) : Prop :=
  ∃ z f ms a cp, RS W G z f ms a cp X ∧ checkErr z f ms = 0 ∧ (∀ x ∈ ms, x.ok) ∧ (∀ x, a = some x → W.heap.size ≤ x.block) ∧ (a = none → cp = 0)
theorem Fi.below {W X X' : World} {G : Nat} (h : Fi W G X) (hb : Below X.heap.size X X') : Fi W G X' := by
  obtain ⟨z, f, ms, a, cp, h1, h2⟩ := h
  exact ⟨z, f, ms, a, cp, h1.below hb, h2⟩
theorem fill_end {w X : World} {G : Nat} {z f : Int} {ms : List Mk} {a : Option Addr} {cp n : Nat} {m : Int} (h : RS (w.alloc (.cells #[.int .i64 0, .int .i64 0, .slice none 0 0] 24)) G z f ms a cp X) (hn : ms.length = n) (hc : checkErr z f ms = 0) (hok : ∀ x ∈ ms, x.ok) (ha : ∀ x, a = some x → (w.alloc (.cells #[.int .i64 0, .int .i64 0, .slice none 0 0] 24)).heap.size ≤ x.block) (hnl : a = none → cp = 0) :
    FillPost w (.returned (.tuple #[.agg #[.int .i64 z, .int .i64 f, .slice a n cp], .int .i64 m])) (((X.setCell ⟨w.heap.size, 0, none⟩ (.int .i64 z)).setCell ⟨w.heap.size, 1, none⟩ (.int .i64 f)).setCell ⟨w.heap.size, 2, none⟩ (.slice a n cp)) := by
  subst hn
  have hs : (w.alloc (.cells #[.int .i64 0, .int .i64 0, .slice none 0 0] 24)).heap.size = w.heap.size + 1 := by simp
  have hne : ∀ x, a = some x → ms.length ≠ 0 → x.block ≠ w.heap.size := fun x hx _ => by have := ha x hx; omega
  refine ⟨z, f, ms, a, cp, m, rfl, hc, hok, ((h.2.1.setCell hne _).setCell hne _).setCell hne _, h.2.2.1, h.2.2.2.1, hnl, set3 (bthen (Below.alloc1 _ _) h.2.2.2.2.1) _ _ _⟩

set_option maxRecDepth 100000 in
set_option maxHeartbeats 8000000 in
theorem filled_any (size skew : Int) (al : Option Addr) (len cap : Nat) (us : List Us) (w : World) (h0 : 0 ≤ size ∧ size ≤ 255) (h1 : 0 ≤ skew ∧ skew ≤ 255) (hr : FRow w al len 4 (ucells us)) (hok : ∀ u ∈ us, u.ok) (hll : len ≤ 9223372036854775807) :
    Calls Try.prog 12 #[.int .u8 size, .int .u8 skew, .slice al len cap] w (FillPost w) := by
  have HW0 := Lib.hid (Below.alloc1 w (.cells #[.int .i64 0, .int .i64 0, .slice none 0 0] 24))
  have HR := Lib.hid (hr.below HW0.out)
  have HOK := Lib.hid hok
  have HZC : Hid (∀ X, Below (w.alloc (.cells #[.int .i64 0, .int .i64 0, .slice none 0 0] 24)).heap.size (w.alloc (.cells #[.int .i64 0, .int .i64 0, .slice none 0 0] 24)) X → (X.cell? ⟨w.heap.size, 0, none⟩ = some (.int .i64 0) ∧ X.cell? ⟨w.heap.size, 1, none⟩ = some (.int .i64 0) ∧ X.cell? ⟨w.heap.size, 2, none⟩ = some (.slice none 0 0)) ∧ (∀ i, X.frozen? ⟨w.heap.size, i, none⟩ = false) ∧ w.heap.size < X.heap.size) := Lib.hid (fun X hX => by
    obtain ⟨c, _⟩ := cells_one hX
    exact ⟨⟨c 0, c 1, c 2⟩, froz_one hX⟩)
  clear hr hok
  go_enter Try.func12, Try.ntmps12
  go_wp2_with fail
  refine (new_any _ _).mono ?_
  rintro e y2 ⟨rfl, hb2⟩
  have HZ : Hid (newZ (1 + size % 40) = 1 + size % 40 ∧ newErr (1 + size % 40) = 0) := Lib.hid ⟨by rw [newZ, wiB_mk (by omega) (by omega)]; rfl, by rw [newErr, wiB_mk (by omega) (by omega)]; rfl⟩
  rw [HZ.out.1, HZ.out.2]
  have HST : Hid (Fi (w.alloc (.cells #[.int .i64 0, .int .i64 0, .slice none 0 0] 24)) y2.heap.size (y2.alloc (.cells #[.int .i64 (1 + size % 40), .int .i64 0, .slice none 0 0] 24))) := Lib.hid ⟨_, _, [], _, _, RS.new hb2 (1 + size % 40) 0 (ms := []) (FRow.none _) (Nat.le_refl _) (Nat.zero_le _), check_iff.2 ⟨by omega, by omega, by simp; omega, (fun x hx => by cases hx), List.nodup_nil⟩, (fun x hx => by cases hx), (fun x hx => by cases hx), (fun _ => rfl)⟩
  clear hb2
  go_wp2
  clear HZ
  generalize y2.alloc (.cells #[.int .i64 (1 + size % 40), .int .i64 0, .slice none 0 0] 24) = V0 at *
  generalize y2.heap.size = G at *
  generalize hW0 : w.alloc (.cells #[.int .i64 0, .int .i64 0, .slice none 0 0] 24) = W0 at *
  have HWE := Lib.hid hW0
  clear hW0
  go_loopw [10, 11] (fun n i wr => ∃ k m : Nat, k ≤ len ∧ m ≤ k ∧ i = .int .i64 k ∧ n = .int .i64 m ∧ Hid (Fi W0 G wr)) (fun _ i _ => len - (intOf i).toNat)
  case atStart => exact ⟨0, 0, Nat.zero_le _, Nat.le_refl _, rfl, rfl, HST⟩
  case round =>
    obtain ⟨k, m, hk, hmk, rfl, rfl, HI⟩ := hrel
    clear HST
    obtain ⟨z, f, ms, a, cp, hrs, hck, hmo, hab, hnl⟩ := HI.out
    have HNL := Lib.hid hnl
    clear hnl
    have HRS := Lib.hid hrs
    have HCK := Lib.hid hck
    have HMO := Lib.hid hmo
    have HAB := Lib.hid hab
    clear hrs hck hmo hab
    obtain ⟨nm, hnm⟩ : ∃ nm, ms.length = nm := ⟨_, rfl⟩
    have HNM := Lib.hid hnm
    clear hnm
    by_cases hlt : k < len
    · obtain ⟨b, off, u, rfl, hu, c0, c1, c2, c3⟩ := (HR.out.below HRS.out.2.2.2.2.1).use hlt
      have HUO := Lib.hid (HOK.out u (List.mem_of_getElem? hu))
      obtain ⟨v1, v2, v3, v4⟩ := HUO.out
      clear hu
      have HSF : Hid (∀ X, Below wr.heap.size wr X → X.cell? ⟨G, 0, none⟩ = some (.int .i64 z) ∧ X.cell? ⟨G, 1, none⟩ = some (.int .i64 f) ∧ X.cell? ⟨G, 2, none⟩ = some (.slice a nm cp) ∧ X.cell? ⟨b, off + k * 4, none⟩ = some (.int .u8 u.who) ∧ X.cell? ⟨b, off + k * 4 + 1, none⟩ = some (.int .u8 u.time) ∧ X.cell? ⟨b, off + k * 4 + 2, none⟩ = some (.int .u8 u.tick) ∧ X.cell? ⟨b, off + k * 4 + 3, none⟩ = some (.int .u8 u.now)) := Lib.hid (fun X hX => by
        obtain ⟨g0, g1, g2, _⟩ := (HRS.out.below hX).cells
        rw [HNM.out] at g2
        have hbq : b < wr.heap.size := World.block_lt_of_cell? _ _ c0
        exact ⟨g0, g1, g2, (hX.cell (p := ⟨b, off + k * 4, none⟩) hbq).trans c0, (hX.cell (p := ⟨b, off + k * 4 + 1, none⟩) hbq).trans c1, (hX.cell (p := ⟨b, off + k * 4 + 2, none⟩) hbq).trans c2, (hX.cell (p := ⟨b, off + k * 4 + 3, none⟩) hbq).trans c3⟩)
      have HMA : Hid (∀ X, Calls Try.prog 15 #[.agg #[.int .u8 u.who, .int .u8 u.time, .int .u8 u.tick, .int .u8 u.now]] X fun e w' => e = .returned (.agg #[.string (useMark u).n, .string (useMark u).i, .string (useMark u).r, .int .i64 (useMark u).t, .int .i64 (useMark u).k]) ∧ Below X.heap.size X w') := Lib.hid (fun X => mark_any u X HUO.out)
      have HADD : Hid (∀ X, Below wr.heap.size wr X → Calls Try.prog 19 #[.agg #[.int .i64 z, .int .i64 f, .slice a nm cp], .agg #[.string (useMark u).n, .string (useMark u).i, .string (useMark u).r, .int .i64 (useMark u).t, .int .i64 (useMark u).k], .int .i64 (1000 + u.now / 2), .int .i64 (skew % 40)] X (AddPost z f ms (useMark u) (1000 + u.now / 2) (skew % 40) X)) := Lib.hid (fun X hX => by
        have h := HRS.out.below hX
        have := add_any z f a ms.length cp ms (useMark u) (1000 + u.now / 2) (skew % 40) X h.2.1 HMO.out (useMark_ok HUO.out) h.2.2.1 h.2.2.2.1 (by have := check_len HCK.out; have := (check_bd HCK.out).2.1; omega)
        rw [HNM.out] at this
        exact this)
      obtain ⟨g0, g1, g2, _⟩ := HSF.out wr (Below.refl _ _)
      have a1 : IntKind.i64.wrap u.now = u.now := IntWalk.i64_in _ (by omega)
      have aq2 : u.now.tdiv 2 = u.now / 2 := Int.tdiv_eq_ediv_of_nonneg (by omega)
      have a3 : IntKind.i64.wrap (u.now / 2) = u.now / 2 := IntWalk.i64_in _ (by omega)
      have a4 : IntKind.i64.wrap (1000 + u.now / 2) = 1000 + u.now / 2 := IntWalk.i64_in _ (by omega)
      have b1 : IntKind.i64.wrap skew = skew := IntWalk.i64_in _ (by omega)
      have b2 : skew.tmod 40 = skew % 40 := Int.tmod_eq_emod_of_nonneg (by omega)
      have b3 : IntKind.i64.wrap (skew % 40) = skew % 40 := IntWalk.i64_in _ (by omega)
      have q1 : (0 : Int) ≤ (k : Int) := by omega
      have q2 : (k : Int) < (len : Int) := by omega
      have n0 := World.new_ne wr _ g0
      have n2 := World.new_ne wr _ c0
      have l0 := World.block_lt_of_cell? wr _ g0
      have l2 := World.block_lt_of_cell? wr _ c0
      go_upto_region 6 with fail
      go_cut [12, 13] (fun v e X => e = .int .i64 (addErr z f ms (useMark u) (1000 + u.now / 2) (skew % 40)) ∧ ∃ G12 a2 cap2, v = .pointer (some ⟨G12, 0, none⟩) ∧ Hid (RS W0 G12 (addZ z f ms (useMark u) (1000 + u.now / 2) (skew % 40)) (addF z f ms (useMark u) (1000 + u.now / 2) (skew % 40)) (addM z f ms (useMark u) (1000 + u.now / 2) (skew % 40)) a2 cap2 X ∧ Below wr.heap.size wr X ∧ wr.heap.size ≤ G12 ∧ (∀ x, a2 = some x → wr.heap.size ≤ x.block) ∧ (a2 = none → cap2 = 0)))
      case first =>
        go_region_held3 (fun X => X.cell? ⟨G, 0, none⟩ = some (.int .i64 z) ∧ X.cell? ⟨G, 1, none⟩ = some (.int .i64 f) ∧ X.cell? ⟨G, 2, none⟩ = some (.slice a nm cp) ∧ X.cell? ⟨b, off + k * 4, none⟩ = some (.int .u8 u.who) ∧ X.cell? ⟨b, off + k * 4 + 1, none⟩ = some (.int .u8 u.time) ∧ X.cell? ⟨b, off + k * 4 + 2, none⟩ = some (.int .u8 u.tick) ∧ X.cell? ⟨b, off + k * 4 + 3, none⟩ = some (.int .u8 u.now)) (first | go_keep) (first
          | (go_simp; go_at_call 15; refine (HMA.out _).mono ?_; rintro e y3 ⟨rfl, hb3⟩; have HY3 : Hid (Below wr.heap.size wr y3) := (by first | exact Lib.hid (bthen (Below.drewN1 _ 1 _) hb3) | exact Lib.hid (bthen (bthen (Below.alloc1 _ _) (Below.drewN1 _ 1 _)) hb3)); obtain ⟨g0, g1, g2, c0, c1, c2, c3⟩ := HSF.out y3 HY3.out; obtain ⟨hc3, hf3⟩ := bcell hb3; have hz3 := hb3.size; (try simp at hz3); (try have hq3 : wr.heap.size < y3.heap.size := (by omega)); (try have HBK := Lib.hid ((hb3.block wr.heap.size (by simp)).trans (heap_alloc_new wr _))); have m0 := World.new_ne y3 _ g0; have m2 := World.new_ne y3 _ c0; have l0' := World.block_lt_of_cell? y3 _ g0; have l2' := World.block_lt_of_cell? y3 _ c0; clear hb3)
          | (go_simp; go_at_call 19; refine (HADD.out _ ?_).mono ?_; (focus (first | exact HY3.out | exact bthen HY3.out (Below.alloc1 _ _))); rintro e y4 ⟨va, rfl, hown4, hb4⟩; have HY4 : Hid (Below wr.heap.size wr y4) := (by first | exact Lib.hid (bthen HY3.out hb4) | exact Lib.hid (bthen (bthen HY3.out (Below.alloc1 _ _)) hb4)); obtain ⟨aa, ca, hva, hra, hka1, hka2, hbla⟩ := CachePost.row hown4; rw [hva]; have HFA := Lib.hid (And.intro hra (And.intro hka1 (And.intro hka2 (And.intro hbla (own_nil hown4 hva))))); obtain ⟨g0, g1, g2, c0, c1, c2, c3⟩ := HSF.out y4 HY4.out; obtain ⟨hc4, hf4⟩ := bcell hb4; have hz4 := hb4.size; (try simp at hz4); have hq4 : wr.heap.size ≤ y3.heap.size := HY3.out.size; (try have hq5 : y3.heap.size < y4.heap.size := (by omega)); (try have HBL := Lib.hid ((hb4.block y3.heap.size (by simp)).trans (heap_alloc_new y3 _))); (try have HBK4 := Lib.hid ((hb4.block wr.heap.size (by omega)).trans HBK.out)); have l0'' := World.block_lt_of_cell? y4 _ g0; have l2'' := World.block_lt_of_cell? y4 _ c0; clear hva hown4 hb4 hra hka1 hka2 hbla))
        all_goals (go_wp2_with fail; go_meet; first
          | exact ⟨rfl, _, aa, ca, rfl, Lib.hid ⟨RS.new (bthen HRS.out.2.2.2.2.1 HY4.out) _ _ HFA.out.1 HFA.out.2.1 HFA.out.2.2.1, bthen HY4.out (Below.alloc1 _ _), HY4.out.size, fun x hx => (by have := HFA.out.2.2.2.1 x hx; (try simp at this); omega), HFA.out.2.2.2.2⟩⟩
          | exact ⟨rfl, _, aa, ca, rfl, Lib.hid ⟨RS.store (z := 0) (f := 0) (ms := []) (a := none) (cap := 0) ⟨HBK4.out, FRow.none _, Nat.le_refl _, Nat.zero_le _, bthen HRS.out.2.2.2.2.1 HY4.out, HRS.out.2.2.2.2.1.size, fun x hx => by cases hx⟩ HFA.out.1 HFA.out.2.1 HFA.out.2.2.1 (fun x hx _ e => by have := HFA.out.2.2.2.1 x hx; (try simp at this); omega), set3g HY4.out (Nat.le_refl _) _ _ _, Nat.le_refl _, fun x hx => (by have := HFA.out.2.2.2.1 x hx; (try simp at this); omega), HFA.out.2.2.2.2⟩⟩
          | exact ⟨rfl, _, aa, ca, rfl, Lib.hid ⟨RS.store (z := 0) (f := 0) (ms := []) (a := none) (cap := 0) ⟨HBL.out, FRow.none _, Nat.le_refl _, Nat.zero_le _, bthen HRS.out.2.2.2.2.1 HY4.out, Nat.le_trans HRS.out.2.2.2.2.1.size hq4, fun x hx => by cases hx⟩ HFA.out.1 HFA.out.2.1 HFA.out.2.2.1 (fun x hx _ e => by have := HFA.out.2.2.2.1 x hx; (try simp at this); omega), set3g HY4.out hq4 _ _ _, hq4, fun x hx => (by have := HFA.out.2.2.2.1 x hx; (try simp at this); omega), HFA.out.2.2.2.2⟩⟩)
      case rest =>
        obtain ⟨rfl, G12, a2, cap2, rfl, HC⟩ := hcut
        clear g0 g1 g2 c0 c1 c2 c3 a1 aq2 a3 a4 b1 b2 b3 n0 n2 l0 l2 HADD HSF HMA
        have HRC := Lib.hid (HRS.out.below HC.out.2.1)
        by_cases he : addErr z f ms (useMark u) (1000 + u.now / 2) (skew % 40) = 0
        case neg =>
          have he' : (addErr z f ms (useMark u) (1000 + u.now / 2) (skew % 40) == 0) = false := by simpa using he
          clear he
          go_wp2
          go_roundw
          case rel => exact ⟨k + 1, m, by omega, by omega, by go_num, rfl, Lib.hid ⟨z, f, ms, a, cp, HRC.out, HCK.out, HMO.out, HAB.out, HNL.out⟩⟩
          case measure => simp [intOf]; omega
        have he' : (addErr z f ms (useMark u) (1000 + u.now / 2) (skew % 40) == 0) = true := by simpa using he
        have HAL := Lib.hid (add_all (A := []) he (fun x hx => by cases hx) HMO.out (useMark_ok HUO.out))
        clear he
        generalize addZ z f ms (useMark u) (1000 + u.now / 2) (skew % 40) = zN at *
        generalize addF z f ms (useMark u) (1000 + u.now / 2) (skew % 40) = fN at *
        generalize addM z f ms (useMark u) (1000 + u.now / 2) (skew % 40) = mN at *
        generalize addErr z f ms (useMark u) (1000 + u.now / 2) (skew % 40) = eN at *
        obtain ⟨nN, hnN⟩ : ∃ n, mN.length = n := ⟨_, rfl⟩
        have HNN := Lib.hid hnN
        clear hnN
        obtain ⟨e0, e1, e2, _⟩ := HC.out.1.cells
        rw [HNN.out] at e2
        obtain ⟨g0, g1, g2, k0, k1, k2, hGy⟩ := HRC.out.cells
        have HN := Lib.hid (HRC.out.store (z' := zN) (f' := fN) HC.out.1.2.1 HC.out.1.2.2.1 HC.out.1.2.2.2.1 (fun x hx _ e => by have := HC.out.2.2.2.1 x hx; have := HRS.out.cells.2.2.2.2.2.2; omega))
        rw [HNN.out] at HN
        go_wp2
        go_roundw
        case rel => exact ⟨k + 1, m + 1, by omega, by omega, by go_num, by go_num, Lib.hid ⟨zN, fN, mN, a2, cap2, HN.out, HAL.out.2.2.1, HAL.out.2.2.2.2.2.1, fun x hx => Nat.le_trans HRS.out.2.2.2.2.1.size (HC.out.2.2.2.1 x hx), HC.out.2.2.2.2⟩⟩
        case measure => simp [intOf]; omega
    · obtain ⟨g0, g1, g2, k0, k1, k2, hGy⟩ := HRS.out.cells
      rw [HNM.out] at g2
      obtain ⟨⟨z0, z1, z2⟩, zf, zl⟩ := HZC.out wr HRS.out.2.2.2.2.1
      have z3 := zf 0
      have z4 := zf 1
      have z5 := zf 2
      clear zf
      go_wp2
      refine bodyPost_ret (v := .tuple #[.agg #[.int .i64 z, .int .i64 f, .slice a nm cp], .int .i64 m]) (by simp [results, Try.results12, go_sem, z0, z1, z2]) rfl ?_
      have hE := HWE.out
      subst hE
      exact fill_end HRS.out HNM.out HCK.out HMO.out HAB.out HNL.out
end Go.Proofs.Ytegcdefdkebmnaa
