/- TopPasswords returns true from any world. No conditions. -/
import Derived.Test.YtggnhaiohmgflaaGreatDoorKA
import Derived.Test.YtggnhaiohmgflaaGreatDoorKP0
import Derived.Test.YtggnhaiohmgflaaGreatDoorKP1
import Derived.Test.YtggnhaiohmgflaaGreatDoorKP2
import Derived.Test.YtggnhaiohmgflaaGreatDoorKP3
import Derived.Below
set_option linter.unusedVariables false
set_option linter.unusedSimpArgs false
namespace Go.Proofs.YtggnhaiohmgflaaGreatDoor.Sx
open Go Go.Proofs Go.RowKit
variable {σ : Nat → Int}
theorem awake_ok (h : H) : CallOk Tryz.prog σ 4 [] h (.b true) h := by
  obtain ⟨h1, e⟩ := okTrue_eq awake_ev
  exact CallOk.closed (n := 12) (by omega) (calls_ok 60 4 [] h0 _ _ e) h
theorem ctx2_ok : CtxOk Tryz.prog σ (T.get tys) C2 := by
  refine ⟨fun f cf h => TAll.get fns_all h, fun f k hk => ?_⟩
  have hk : (match Nat.beq f 4 with | true => some awakeN | false => T.get nats f) = some k := hk
  split at hk
  · rename_i hb
    obtain rfl := beq_true hb
    cases hk
    intro args h x h' e
    unfold awakeN at e
    split at e
    · cases e; exact awake_ok h
    · cases e
  · exact TAll.get nats_all hk
theorem calls2_ok (n : Nat) : CallsOk Tryz.prog σ (callF C2 n) := callF_ok tys_all_ok mixed ctx2_ok n
/-- from a run to a call -/
theorem call_of_run {args : List V} {argv : Array Value} (hr : okTrue (callF C2 60 3 args h0) = true) (hv : RVs σ (fun _ => none) args argv.toList) (w : World) :
    Calls Tryz.prog 3 argv w fun e w' => e = .returned (.bool true) ∧ Below w.heap.size w w' := by
  obtain ⟨h1, e⟩ := okTrue_eq hr
  obtain ⟨Rr, r1, r2⟩ := (calls2_ok (σ := σ) 60 3 args h0 _ _ e).alone (n := 12) (by omega) hv w
  have key : ∀ v w', Rr v w' → v = .bool true ∧ Below w.heap.size w w' := by
    intro v w' hr
    obtain ⟨⟨ρ', g1⟩, g2, g3, g4, g5, g6⟩ := r1 v w' hr
    simp only [RV] at g1
    exact ⟨g1, g5, g4, g6, g3, g2⟩
  rcases r2 with ⟨v, w', c1, _⟩ | ⟨_, c2⟩
  · have : (callFunc 3 argv).run Tryz.prog w = .ok (.enter 3 argv) w := run_callFunc Tryz.func3 rfl (by decide) argv w
    rw [this] at c1; cases c1
  · refine c2.mono fun e w' he => ?_
    cases e with
    | returned v =>
      obtain ⟨rfl, hb⟩ := key v w' he
      exact ⟨rfl, hb⟩
    | panicked c => exact he.elim
    | outgrown => exact he.elim
/-- the inputs -/
def sg (c0 c1 c2 c3 c4 o x5 x6 x7 x8 n m : Int) : Nat → Int
  | 0 => c0 | 1 => c1 | 2 => c2 | 3 => c3 | 4 => c4 | 5 => x5 | 6 => x6 | 7 => x7 | 8 => x8 | 9 => o
  | 10 => o % 2 | 11 => o / 2 % 2 | 12 => o / 4 % 2 | 13 => o / 8 % 2 | 14 => o / 16 % 2 | 15 => o / 32 % 2 | 16 => o / 64
  | 20 => n / 4 | 21 => m | _ => 0
def u8 (n : Int) : Prop := 0 ≤ n ∧ n ≤ 255
theorem inp_val (i : Nat) (lo hi : Int) : (inp i lo hi).val σ = σ i := by
  simp [inp, E.val, sumT, At.val]
theorem inp_rv {ρ : Rho} {i : Nat} {lo hi n : Int} (e : σ i = n) (h1 : lo ≤ n) (h2 : n ≤ hi) (hu : u8 n) : RV σ ρ (.i .u8 (inp i lo hi)) (.int .u8 n) := by
  simp only [RV]
  rw [inp_val, e]
  refine ⟨rfl, ?_, ?_⟩
  · intro t ht
    simp at ht
    subst ht
    exact ⟨by rw [e]; exact h1, by rw [e]; exact h2⟩
  · unfold inK
    simp [IntKind.min, IntKind.max, IntKind.bits, IntKind.signed]
    exact hu
section
variable {c0 c1 c2 c3 c4 o x5 x6 x7 x8 n m : Int}
theorem args_rv (h0 : u8 c0) (h1 : u8 c1) (h2 : u8 c2) (h3 : u8 c3) (h4 : u8 c4) (h5 : u8 x5) (h6 : u8 x6) (h7 : u8 x7) (h8 : u8 x8) (hn : u8 n) (hm : u8 m) (who : Nat) (hw : n % 4 = who) {eo : E} {lo hi : Int} (hlo : lo ≤ x7) (hhi : x7 ≤ hi) (ka : Bool)
    (he : RV (sg c0 c1 c2 c3 c4 o x5 x6 x7 x8 n m) (fun _ => none) (.i .u8 eo) (.int .u8 o)) :
    RVs (sg c0 c1 c2 c3 c4 o x5 x6 x7 x8 n m) (fun _ => none) (argsP who eo lo hi ka) [.agg #[.int .u8 c0, .int .u8 c1, .int .u8 c2, .int .u8 c3, .int .u8 c4, .int .u8 o, .int .u8 x5, .int .u8 x6, .int .u8 x7, .int .u8 x8], .int .u8 n, .int .u8 m, .bool ka] := by
  refine ⟨_, _, rfl, ?_, _, _, rfl, ?_, _, _, rfl, ?_, _, _, rfl, by simp only [RV], rfl⟩
  · simp only [setup, RV]
    refine ⟨_, rfl, ?_, rfl⟩
    exact ⟨_, _, rfl, inp_rv rfl h0.1 h0.2 h0, _, _, rfl, inp_rv rfl h1.1 h1.2 h1, _, _, rfl, inp_rv rfl h2.1 h2.2 h2, _, _, rfl, inp_rv rfl h3.1 h3.2 h3, _, _, rfl, inp_rv rfl h4.1 h4.2 h4, _, _, rfl, he,
      _, _, rfl, inp_rv rfl h5.1 h5.2 h5, _, _, rfl, inp_rv rfl h6.1 h6.2 h6, _, _, rfl, inp_rv rfl hlo hhi h7, _, _, rfl, inp_rv rfl h8.1 h8.2 h8, rfl⟩
  · unfold u8 at hn
    simp only [RV]
    have hv : (E.lin (who : Int) [(4, ⟨20, 0, 63, 0, 0, 0⟩)]).val (sg c0 c1 c2 c3 c4 o x5 x6 x7 x8 n m) = n := by
      simp [E.val, sumT, At.val, sg]; omega
    rw [hv]
    refine ⟨rfl, ?_, ?_⟩
    · intro t ht
      simp at ht
      subst ht
      exact ⟨show 0 ≤ n / 4 by omega, show n / 4 ≤ 63 by omega⟩
    · unfold inK
      simp [IntKind.min, IntKind.max, IntKind.bits, IntKind.signed]; omega
  · exact inp_rv rfl hm.1 hm.2 hm
end
section
variable {c0 c1 c2 c3 c4 o x5 x6 x7 x8 n m : Int}
theorem orders0 (ho : u8 o) (br bc : Int) (hr : o / 1 % 2 = br) (hc : o / 4 % 2 = bc) : RV (sg c0 c1 c2 c3 c4 o x5 x6 x7 x8 n m) (fun _ => none) (.i .u8 (orders (0 / 2) (2 + 0) br bc)) (.int .u8 o) := by
  unfold u8 at ho
  have hl : orders (0 / 2) (2 + 0) br bc = .lin (br * 1 + bc * 4) [(2, ⟨11, 0, 1, 0, 0, 0⟩), (8, ⟨13, 0, 1, 0, 0, 0⟩), (16, ⟨14, 0, 1, 0, 0, 0⟩), (32, ⟨15, 0, 1, 0, 0, 0⟩), (64, ⟨16, 0, 3, 0, 0, 0⟩)] := rfl
  rw [hl]
  simp only [RV]
  have hv : (E.lin (br * 1 + bc * 4) [(2, ⟨11, 0, 1, 0, 0, 0⟩), (8, ⟨13, 0, 1, 0, 0, 0⟩), (16, ⟨14, 0, 1, 0, 0, 0⟩), (32, ⟨15, 0, 1, 0, 0, 0⟩), (64, ⟨16, 0, 3, 0, 0, 0⟩)]).val (sg c0 c1 c2 c3 c4 o x5 x6 x7 x8 n m) = o := by
    simp [E.val, sumT, At.val, sg]; omega
  rw [hv]
  refine ⟨rfl, ?_, ?_⟩
  · intro t ht
    simp at ht
    rcases ht with rfl | rfl | rfl | rfl | rfl <;> (simp [At.ok, sg]; omega)
  · unfold inK
    simp [IntKind.min, IntKind.max, IntKind.bits, IntKind.signed]; omega
theorem orders1 (ho : u8 o) (br bc : Int) (hr : o / 1 % 2 = br) (hc : o / 8 % 2 = bc) : RV (sg c0 c1 c2 c3 c4 o x5 x6 x7 x8 n m) (fun _ => none) (.i .u8 (orders (1 / 2) (2 + 1) br bc)) (.int .u8 o) := by
  unfold u8 at ho
  have hl : orders (1 / 2) (2 + 1) br bc = .lin (br * 1 + bc * 8) [(2, ⟨11, 0, 1, 0, 0, 0⟩), (4, ⟨12, 0, 1, 0, 0, 0⟩), (16, ⟨14, 0, 1, 0, 0, 0⟩), (32, ⟨15, 0, 1, 0, 0, 0⟩), (64, ⟨16, 0, 3, 0, 0, 0⟩)] := rfl
  rw [hl]
  simp only [RV]
  have hv : (E.lin (br * 1 + bc * 8) [(2, ⟨11, 0, 1, 0, 0, 0⟩), (4, ⟨12, 0, 1, 0, 0, 0⟩), (16, ⟨14, 0, 1, 0, 0, 0⟩), (32, ⟨15, 0, 1, 0, 0, 0⟩), (64, ⟨16, 0, 3, 0, 0, 0⟩)]).val (sg c0 c1 c2 c3 c4 o x5 x6 x7 x8 n m) = o := by
    simp [E.val, sumT, At.val, sg]; omega
  rw [hv]
  refine ⟨rfl, ?_, ?_⟩
  · intro t ht
    simp at ht
    rcases ht with rfl | rfl | rfl | rfl | rfl <;> (simp [At.ok, sg]; omega)
  · unfold inK
    simp [IntKind.min, IntKind.max, IntKind.bits, IntKind.signed]; omega
theorem orders2 (ho : u8 o) (br bc : Int) (hr : o / 2 % 2 = br) (hc : o / 16 % 2 = bc) : RV (sg c0 c1 c2 c3 c4 o x5 x6 x7 x8 n m) (fun _ => none) (.i .u8 (orders (2 / 2) (2 + 2) br bc)) (.int .u8 o) := by
  unfold u8 at ho
  have hl : orders (2 / 2) (2 + 2) br bc = .lin (br * 2 + bc * 16) [(1, ⟨10, 0, 1, 0, 0, 0⟩), (4, ⟨12, 0, 1, 0, 0, 0⟩), (8, ⟨13, 0, 1, 0, 0, 0⟩), (32, ⟨15, 0, 1, 0, 0, 0⟩), (64, ⟨16, 0, 3, 0, 0, 0⟩)] := rfl
  rw [hl]
  simp only [RV]
  have hv : (E.lin (br * 2 + bc * 16) [(1, ⟨10, 0, 1, 0, 0, 0⟩), (4, ⟨12, 0, 1, 0, 0, 0⟩), (8, ⟨13, 0, 1, 0, 0, 0⟩), (32, ⟨15, 0, 1, 0, 0, 0⟩), (64, ⟨16, 0, 3, 0, 0, 0⟩)]).val (sg c0 c1 c2 c3 c4 o x5 x6 x7 x8 n m) = o := by
    simp [E.val, sumT, At.val, sg]; omega
  rw [hv]
  refine ⟨rfl, ?_, ?_⟩
  · intro t ht
    simp at ht
    rcases ht with rfl | rfl | rfl | rfl | rfl <;> (simp [At.ok, sg]; omega)
  · unfold inK
    simp [IntKind.min, IntKind.max, IntKind.bits, IntKind.signed]; omega
theorem orders3 (ho : u8 o) (br bc : Int) (hr : o / 2 % 2 = br) (hc : o / 32 % 2 = bc) : RV (sg c0 c1 c2 c3 c4 o x5 x6 x7 x8 n m) (fun _ => none) (.i .u8 (orders (3 / 2) (2 + 3) br bc)) (.int .u8 o) := by
  unfold u8 at ho
  have hl : orders (3 / 2) (2 + 3) br bc = .lin (br * 2 + bc * 32) [(1, ⟨10, 0, 1, 0, 0, 0⟩), (4, ⟨12, 0, 1, 0, 0, 0⟩), (8, ⟨13, 0, 1, 0, 0, 0⟩), (16, ⟨14, 0, 1, 0, 0, 0⟩), (64, ⟨16, 0, 3, 0, 0, 0⟩)] := rfl
  rw [hl]
  simp only [RV]
  have hv : (E.lin (br * 2 + bc * 32) [(1, ⟨10, 0, 1, 0, 0, 0⟩), (4, ⟨12, 0, 1, 0, 0, 0⟩), (8, ⟨13, 0, 1, 0, 0, 0⟩), (16, ⟨14, 0, 1, 0, 0, 0⟩), (64, ⟨16, 0, 3, 0, 0, 0⟩)]).val (sg c0 c1 c2 c3 c4 o x5 x6 x7 x8 n m) = o := by
    simp [E.val, sumT, At.val, sg]; omega
  rw [hv]
  refine ⟨rfl, ?_, ?_⟩
  · intro t ht
    simp at ht
    rcases ht with rfl | rfl | rfl | rfl | rfl <;> (simp [At.ok, sg]; omega)
  · unfold inK
    simp [IntKind.min, IntKind.max, IntKind.bits, IntKind.signed]; omega
end
/-- TopPasswords returns true, whatever the input; what was there stands -/
theorem topPasswords_any {c0 c1 c2 c3 c4 o x5 x6 x7 x8 n m : Int} (h0 : u8 c0) (h1 : u8 c1) (h2 : u8 c2) (h3 : u8 c3) (h4 : u8 c4) (ho : u8 o) (h5 : u8 x5) (h6 : u8 x6) (h7 : u8 x7) (h8 : u8 x8) (hn : u8 n) (hm : u8 m) (ka : Bool) (w : World) :
    Calls Tryz.prog 3 #[.agg #[.int .u8 c0, .int .u8 c1, .int .u8 c2, .int .u8 c3, .int .u8 c4, .int .u8 o, .int .u8 x5, .int .u8 x6, .int .u8 x7, .int .u8 x8], .int .u8 n, .int .u8 m, .bool ka] w
      fun e w' => e = .returned (.bool true) ∧ Below w.heap.size w w' := by
  have run := fun (who : Nat) (hw : n % 4 = who) (eo : E) (lo hi : Int) (hlo : lo ≤ x7) (hhi : x7 ≤ hi) (ka : Bool) (he : RV (sg c0 c1 c2 c3 c4 o x5 x6 x7 x8 n m) (fun _ => none) (.i .u8 eo) (.int .u8 o)) (hr : okTrue (callF C2 60 3 (argsP who eo lo hi ka) Sx.h0) = true) =>
    call_of_run (σ := sg c0 c1 c2 c3 c4 o x5 x6 x7 x8 n m) (argv := #[.agg #[.int .u8 c0, .int .u8 c1, .int .u8 c2, .int .u8 c3, .int .u8 c4, .int .u8 o, .int .u8 x5, .int .u8 x6, .int .u8 x7, .int .u8 x8], .int .u8 n, .int .u8 m, .bool ka]) hr (args_rv h0 h1 h2 h3 h4 h5 h6 h7 h8 hn hm who hw hlo hhi ka he) w
  have hw4 : n % 4 = 0 ∨ n % 4 = 1 ∨ n % 4 = 2 ∨ n % 4 = 3 := by omega
  cases ka with
  | true =>
    have he : RV (sg c0 c1 c2 c3 c4 o x5 x6 x7 x8 n m) (fun _ => none) (.i .u8 (inp 9 0 255)) (.int .u8 o) := inp_rv rfl ho.1 ho.2 ho
    rcases hw4 with hw | hw | hw | hw
    · exact run 0 (by omega) _ 0 255 h7.1 h7.2 true he k0
    · exact run 1 (by omega) _ 0 255 h7.1 h7.2 true he k1
    · exact run 2 (by omega) _ 0 255 h7.1 h7.2 true he k2
    · exact run 3 (by omega) _ 0 255 h7.1 h7.2 true he k3
  | false =>
    have hl : (0 ≤ x7 ∧ x7 ≤ 79) ∨ (80 ≤ x7 ∧ x7 ≤ 235) ∨ (236 ≤ x7 ∧ x7 ≤ 255) := by unfold u8 at h7; omega
    rcases hw4 with hw | hw | hw | hw
    · have hr : o / 1 % 2 = 0 ∨ o / 1 % 2 = 1 := by omega
      have hc : o / 4 % 2 = 0 ∨ o / 4 % 2 = 1 := by omega
      rcases hr with hr | hr <;> rcases hc with hc | hc <;> rcases hl with ⟨hl, hh⟩ | ⟨hl, hh⟩ | ⟨hl, hh⟩
      · exact run 0 (by omega) _ 0 79 hl hh false (orders0 ho 0 0 hr hc) p0000
      · exact run 0 (by omega) _ 80 235 hl hh false (orders0 ho 0 0 hr hc) p0001
      · exact run 0 (by omega) _ 236 255 hl hh false (orders0 ho 0 0 hr hc) p0002
      · exact run 0 (by omega) _ 0 79 hl hh false (orders0 ho 0 1 hr hc) p0010
      · exact run 0 (by omega) _ 80 235 hl hh false (orders0 ho 0 1 hr hc) p0011
      · exact run 0 (by omega) _ 236 255 hl hh false (orders0 ho 0 1 hr hc) p0012
      · exact run 0 (by omega) _ 0 79 hl hh false (orders0 ho 1 0 hr hc) p0100
      · exact run 0 (by omega) _ 80 235 hl hh false (orders0 ho 1 0 hr hc) p0101
      · exact run 0 (by omega) _ 236 255 hl hh false (orders0 ho 1 0 hr hc) p0102
      · exact run 0 (by omega) _ 0 79 hl hh false (orders0 ho 1 1 hr hc) p0110
      · exact run 0 (by omega) _ 80 235 hl hh false (orders0 ho 1 1 hr hc) p0111
      · exact run 0 (by omega) _ 236 255 hl hh false (orders0 ho 1 1 hr hc) p0112
    · have hr : o / 1 % 2 = 0 ∨ o / 1 % 2 = 1 := by omega
      have hc : o / 8 % 2 = 0 ∨ o / 8 % 2 = 1 := by omega
      rcases hr with hr | hr <;> rcases hc with hc | hc <;> rcases hl with ⟨hl, hh⟩ | ⟨hl, hh⟩ | ⟨hl, hh⟩
      · exact run 1 (by omega) _ 0 79 hl hh false (orders1 ho 0 0 hr hc) p1000
      · exact run 1 (by omega) _ 80 235 hl hh false (orders1 ho 0 0 hr hc) p1001
      · exact run 1 (by omega) _ 236 255 hl hh false (orders1 ho 0 0 hr hc) p1002
      · exact run 1 (by omega) _ 0 79 hl hh false (orders1 ho 0 1 hr hc) p1010
      · exact run 1 (by omega) _ 80 235 hl hh false (orders1 ho 0 1 hr hc) p1011
      · exact run 1 (by omega) _ 236 255 hl hh false (orders1 ho 0 1 hr hc) p1012
      · exact run 1 (by omega) _ 0 79 hl hh false (orders1 ho 1 0 hr hc) p1100
      · exact run 1 (by omega) _ 80 235 hl hh false (orders1 ho 1 0 hr hc) p1101
      · exact run 1 (by omega) _ 236 255 hl hh false (orders1 ho 1 0 hr hc) p1102
      · exact run 1 (by omega) _ 0 79 hl hh false (orders1 ho 1 1 hr hc) p1110
      · exact run 1 (by omega) _ 80 235 hl hh false (orders1 ho 1 1 hr hc) p1111
      · exact run 1 (by omega) _ 236 255 hl hh false (orders1 ho 1 1 hr hc) p1112
    · have hr : o / 2 % 2 = 0 ∨ o / 2 % 2 = 1 := by omega
      have hc : o / 16 % 2 = 0 ∨ o / 16 % 2 = 1 := by omega
      rcases hr with hr | hr <;> rcases hc with hc | hc <;> rcases hl with ⟨hl, hh⟩ | ⟨hl, hh⟩ | ⟨hl, hh⟩
      · exact run 2 (by omega) _ 0 79 hl hh false (orders2 ho 0 0 hr hc) p2000
      · exact run 2 (by omega) _ 80 235 hl hh false (orders2 ho 0 0 hr hc) p2001
      · exact run 2 (by omega) _ 236 255 hl hh false (orders2 ho 0 0 hr hc) p2002
      · exact run 2 (by omega) _ 0 79 hl hh false (orders2 ho 0 1 hr hc) p2010
      · exact run 2 (by omega) _ 80 235 hl hh false (orders2 ho 0 1 hr hc) p2011
      · exact run 2 (by omega) _ 236 255 hl hh false (orders2 ho 0 1 hr hc) p2012
      · exact run 2 (by omega) _ 0 79 hl hh false (orders2 ho 1 0 hr hc) p2100
      · exact run 2 (by omega) _ 80 235 hl hh false (orders2 ho 1 0 hr hc) p2101
      · exact run 2 (by omega) _ 236 255 hl hh false (orders2 ho 1 0 hr hc) p2102
      · exact run 2 (by omega) _ 0 79 hl hh false (orders2 ho 1 1 hr hc) p2110
      · exact run 2 (by omega) _ 80 235 hl hh false (orders2 ho 1 1 hr hc) p2111
      · exact run 2 (by omega) _ 236 255 hl hh false (orders2 ho 1 1 hr hc) p2112
    · have hr : o / 2 % 2 = 0 ∨ o / 2 % 2 = 1 := by omega
      have hc : o / 32 % 2 = 0 ∨ o / 32 % 2 = 1 := by omega
      rcases hr with hr | hr <;> rcases hc with hc | hc <;> rcases hl with ⟨hl, hh⟩ | ⟨hl, hh⟩ | ⟨hl, hh⟩
      · exact run 3 (by omega) _ 0 79 hl hh false (orders3 ho 0 0 hr hc) p3000
      · exact run 3 (by omega) _ 80 235 hl hh false (orders3 ho 0 0 hr hc) p3001
      · exact run 3 (by omega) _ 236 255 hl hh false (orders3 ho 0 0 hr hc) p3002
      · exact run 3 (by omega) _ 0 79 hl hh false (orders3 ho 0 1 hr hc) p3010
      · exact run 3 (by omega) _ 80 235 hl hh false (orders3 ho 0 1 hr hc) p3011
      · exact run 3 (by omega) _ 236 255 hl hh false (orders3 ho 0 1 hr hc) p3012
      · exact run 3 (by omega) _ 0 79 hl hh false (orders3 ho 1 0 hr hc) p3100
      · exact run 3 (by omega) _ 80 235 hl hh false (orders3 ho 1 0 hr hc) p3101
      · exact run 3 (by omega) _ 236 255 hl hh false (orders3 ho 1 0 hr hc) p3102
      · exact run 3 (by omega) _ 0 79 hl hh false (orders3 ho 1 1 hr hc) p3110
      · exact run 3 (by omega) _ 80 235 hl hh false (orders3 ho 1 1 hr hc) p3111
      · exact run 3 (by omega) _ 236 255 hl hh false (orders3 ho 1 1 hr hc) p3112
end Go.Proofs.YtggnhaiohmgflaaGreatDoor.Sx
