/- Code; what operations hang on. No conditions. -/
import Derived.Test.YtggnhaiohmgflaaGreatDoorSxQ
set_option linter.unusedVariables false
set_option linter.unusedSimpArgs false
namespace Go.Proofs.YtggnhaiohmgflaaGreatDoor.Sx
open Go
variable {σ : Nat → Int} {ρ ρ' : Rho} {h h' : H} {w w' : World} {P : Program}
variable {ty : Nat → Option TI} {nt : Nat} {t t' : Env} {a : Act} {x : V} {call : Nat → CallF}

theorem undef_get {tmps : Array Value} {d : Nat} {v : Value} (e : tmps.getD d undef = v) (hv : v ≠ undef) : tmps[d]? = some v := by
  rw [Array.getD_eq_getD_getElem?] at e
  cases hq : tmps[d]? with
  | none => rw [hq] at e; exact absurd e.symm hv
  | some u => rw [hq] at e; cases e; rfl
theorem guard_spec {ops : Array Oper} {o : Oper} {b : Bool} (g : RT σ ρ nt t a) (hf : guardFine ops.toList o.guard = true) (e : guardOk (compGuard ops.toList o.guard) t = some b) : Region.wanted o (yielded ops a.tmps) = b := by
  unfold Region.wanted
  cases hg : o.guard with
  | none => rw [hg] at e; cases e; rfl
  | some q =>
    obtain ⟨j, want⟩ := q
    rw [hg] at e hf
    simp only [guardFine] at hf
    split at hf
    · rename_i o' ho'
      split at hf
      · rename_i d hd
        have hlt := blt_lt hf
        have hc : compGuard ops.toList (some (j, want)) = some (p3 d, want) := by simp only [compGuard, ho', hd]
        rw [hc] at e
        have e : (match boolV (Env.get (p3 d) t) with | some v => some (guard3 want v) | none => none) = some b := e
        have hr := g.rel d hlt
        have hy : yielded ops a.tmps j = match a.tmps[d]? with | some (.bool b) => some b | _ => none := by
          simp only [yielded]
          rw [← Array.getElem?_toList, ho']
          simp only [Option.bind_some, hd]
          rfl
        show (yielded ops a.tmps j == some want) = b
        rw [hy]
        generalize Env.get (p3 d) t = V0 at e hr
        cases V0 with
        | b x =>
          simp only [RV] at hr
          rw [undef_get hr (by simp [undef])]
          have e : some (guard3 want (some x)) = some b := e
          cases e
          cases x <;> cases want <;> rfl
        | t cs =>
          simp only [RV] at hr
          obtain ⟨vs, hr, _⟩ := hr
          have e : some (guard3 want none) = some b := e
          cases e
          have : (match a.tmps[d]? with | some (.bool b) => some b | _ => none) = none := by
            rw [Array.getD_eq_getD_getElem?] at hr
            cases hq : a.tmps[d]? with
            | none => rfl
            | some u => rw [hq] at hr; cases hr; rfl
          rw [this]; rfl
        | _ => cases e
      · cases hf
    · cases hf
theorem opsV_cons_ok {o : COp} {l : List COp} (e : opsV call (o :: l) t h = .ok t' h') :
    ∃ b, guardOk o.guard t = some b ∧ ((b = false ∧ opsV call l (putV o.dst undV t) h = .ok t' h') ∨ (b = true ∧ ∃ v h1, opV call o.op t h = .ok v h1 ∧ opsV call l (putV o.dst v t) h1 = .ok t' h')) := by
  obtain ⟨dst, guard, op⟩ := o
  have e : oneOp call (opsV call l) t h dst guard op = .ok t' h' := e
  unfold oneOp at e
  cases hg : guardOk guard t with
  | none => rw [hg] at e; cases e
  | some b =>
    rw [hg] at e
    refine ⟨b, rfl, ?_⟩
    cases b with
    | false => exact .inl ⟨rfl, e⟩
    | true =>
      have e : afterOp (opsV call l) dst t (opV call op t h) = .ok t' h' := e
      cases hv : opV call op t h with
      | ok v h1 => rw [hv] at e; exact .inr ⟨rfl, v, h1, rfl, e⟩
      | err s => rw [hv] at e; cases e
theorem compOper_fine {ops : List Oper} {o : Oper} {b : Bool} (e1 : guardOk (compOper ty nt ops o).guard t = some b) (e2 : b = false ∨ ∃ v h1, opV call (compOper ty nt ops o).op t h = .ok v h1) :
    compOper ty nt ops o = ⟨o.dst.map p3, compGuard ops o.guard, compOp ty o.op⟩ ∧ dstFine nt o.dst = true ∧ guardFine ops o.guard = true := by
  by_cases hb : (dstFine nt o.dst && guardFine ops o.guard) = true
  · have hb' := hb
    rw [Bool.and_eq_true] at hb'
    refine ⟨?_, hb'.1, hb'.2⟩
    unfold compOper
    rw [hb]
  · have hb : (dstFine nt o.dst && guardFine ops o.guard) = false := by simpa using hb
    have : compOper ty nt ops o = ⟨none, none, .bad "place"⟩ := by
      unfold compOper
      rw [hb]
    rw [this] at e1 e2
    cases e1
    rcases e2 with e2 | ⟨v, h1, e2⟩
    · cases e2
    · cases e2
/-- a region in the order of its text -/
theorem wp_regs (hty : TyAll P ty) (hcall : CallsOk P σ call) {ops : Array Oper} {Q : Exit → Act → World → Prop} : ∀ (rest : List Oper) (k : Nat) {ρ : Rho} {t : Env} {h : H} {a : Act} {w : World}, ops.toList.drop k = rest →
    opsV call (rest.map (compOper ty nt ops.toList)) t h = .ok t' h' → RT σ ρ nt t a → RH σ ρ h w → (∀ a' w' ρ', RT σ ρ' nt t' a' → RH σ ρ' h' w' → Step ρ h w ρ' h' w' → Q .normal a' w') →
    wpOps P ops Q (List.range' k rest.length) a w
  | [], k, ρ, t, h, a, w, hk, e, g, gh, hQ => by
    cases e
    exact hQ _ _ _ g gh (Step.refl _ _ _)
  | o :: rest, k, ρ, t, h, a, w, hk, e, g, gh, hQ => by
    have hko : ops[k]? = some o := by
      rw [← Array.getElem?_toList]
      have := congrArg (·[0]?) hk
      simpa using this
    have hk' : ops.toList.drop (k + 1) = rest := by
      rw [← List.drop_drop, hk]; rfl
    obtain ⟨b, e1, e2⟩ := opsV_cons_ok (show opsV call (compOper ty nt ops.toList o :: rest.map (compOper ty nt ops.toList)) t h = .ok t' h' from e)
    rw [List.length_cons, List.range'_succ]
    simp only [wpOps, hko]
    obtain ⟨f1, f2, f3⟩ := compOper_fine (call := call) (h := h) e1 (by
      rcases e2 with ⟨rfl, _⟩ | ⟨_, v, h1, e2, _⟩
      · exact .inl rfl
      · exact .inr ⟨v, h1, e2⟩)
    rw [f1] at e1 e2
    have hw := guard_spec (ops := ops) (o := o) g f3 e1
    rw [hw]
    rcases e2 with ⟨rfl, e2⟩ | ⟨rfl, v, h1, e2, e3⟩
    · rw [if_neg (by simp)]
      exact wp_regs hty hcall rest (k + 1) hk' e2 (put_spec g f2 undV_spec) gh hQ
    · rw [if_pos rfl]
      refine .inl ((runs_op hty hcall g gh e2).wp fun v' w' ha => ?_)
      obtain ⟨ρ', r1, r2, r3⟩ := ha
      exact wp_regs hty hcall rest (k + 1) hk' e3 (put_spec (g.mono (r3.extends gh)) f2 r1) r2 fun a2 w2 ρ2 q1 q2 q3 => hQ _ _ _ q1 q2 (r3.trans q3)

/-- how code ends -/
def CRel (σ : Nat → Int) (ρ : Rho) (h : H) (w : World) (nt : Nat) : CR → Exit → Act → World → Prop
  | .nrm t' h', .normal, a', w' => ∃ ρ', RT σ ρ' nt t' a' ∧ RH σ ρ' h' w' ∧ Step ρ h w ρ' h' w'
  | .ext i t' h', .exit j, a', w' => j = i ∧ ∃ ρ', RT σ ρ' nt t' a' ∧ RH σ ρ' h' w' ∧ Step ρ h w ρ' h' w'
  | .ret t' h', .ret, a', w' => ∃ ρ', RT σ ρ' nt t' a' ∧ RH σ ρ' h' w' ∧ Step ρ h w ρ' h' w'
  | _, _, _, _ => False
theorem CRel.after {r : CR} {e : Exit} {a' : Act} {w' : World} {ρ1 : Rho} {h1 : H} {w1 : World} (s : Step ρ h w ρ1 h1 w1) (c : CRel σ ρ1 h1 w1 nt r e a' w') : CRel σ ρ h w nt r e a' w' := by
  cases r with
  | nrm t' h' =>
    cases e with
    | normal => obtain ⟨ρ', c1, c2, c3⟩ := c; exact ⟨ρ', c1, c2, s.trans c3⟩
    | _ => exact c.elim
  | ext i t' h' =>
    cases e with
    | exit j => obtain ⟨c0, ρ', c1, c2, c3⟩ := c; exact ⟨c0, ρ', c1, c2, s.trans c3⟩
    | _ => exact c.elim
  | ret t' h' =>
    cases e with
    | ret => obtain ⟨ρ', c1, c2, c3⟩ := c; exact ⟨ρ', c1, c2, s.trans c3⟩
    | _ => exact c.elim
  | err s => exact c.elim
/-- the loop, from its round's begin on -/
def loopWp (P : Program) (c : Code) (Q : Exit → Act → World → Prop) (a : Act) (w : World) : Prop :=
  ∀ (b : Frame) (k : List Item) (cs : List Frame), ∃ e a' w', Q e a' w' ∧ Arrives P (lone (b.at a (.code c :: .inLoop c :: k)) cs w) b k cs e a' w'
theorem loopWp.wp {c : Code} {Q : Exit → Act → World → Prop} (l : loopWp P c Q a w) : (Code.loop c).wp P Q a w := by
  intro b k cs
  obtain ⟨e, a', w', hq, harr⟩ := l b k cs
  exact ⟨e, a', w', hq, .of_steps (.one step_loop) harr⟩
theorem loopWp.round {c : Code} {Q : Exit → Act → World → Prop} (l : c.wp P (Exit.then (loopWp P c Q) Q) a w) : loopWp P c Q a w := by
  intro b k cs
  obtain ⟨e, a₁, w₁, hq, harr⟩ := l b (.inLoop c :: k) cs
  cases e with
  | normal =>
    obtain ⟨e₂, a₂, w₂, hq₂, harr₂⟩ := hq b k cs
    exact ⟨e₂, a₂, w₂, hq₂, .of_steps (Steps.trans harr (.one step_inLoop)) harr₂⟩
  | exit id => exact ⟨_, a₁, w₁, hq, .pass (x := .inLoop c) rfl (fun _ _ => .inl (by simp)) harr⟩
  | goto l => exact ⟨_, a₁, w₁, hq, .pass (x := .inLoop c) rfl (fun _ _ => .inl (by simp)) harr⟩
  | ret => exact ⟨_, a₁, w₁, hq, .pass (x := .inLoop c) rfl (fun _ _ => .inl (by simp)) harr⟩
  | panic ch => exact ⟨_, a₁, w₁, hq, .pass (x := .inLoop c) rfl (fun _ _ => .inl (by simp)) harr⟩
  | outgrown => exact ⟨_, a₁, w₁, hq, .pass (x := .inLoop c) rfl (fun _ _ => .inl (by simp)) harr⟩
theorem loopWp.mono {c : Code} {Q Q' : Exit → Act → World → Prop} (l : loopWp P c Q a w) (hq : ∀ e a w, Q e a w → Q' e a w) : loopWp P c Q' a w := by
  intro b k cs
  obtain ⟨e, a', w', h1, h2⟩ := l b k cs
  exact ⟨e, a', w', hq _ _ _ h1, h2⟩
theorem kDreg_ext (ops : List DOp) (t : Env) (h : H) : ∀ i t' h', kDreg call ops t h ≠ .ext i t' h' := by
  intro i t' h' e
  unfold kDreg at e
  split at e
  · rename_i s _; cases s; cases e
  · cases e
theorem kDreg_ret (ops : List DOp) (t : Env) (h : H) : ∀ t' h', kDreg call ops t h ≠ .ret t' h' := by
  intro t' h' e
  unfold kDreg at e
  split at e
  · rename_i s _; cases s; cases e
  · cases e
/-- regions that draw their order -/
def DregOk (P : Program) (σ : Nat → Int) (call : Nat → CallF) (ty : Nat → Option TI) (nt : Nat) : Prop :=
  ∀ (id : Nat) (ops : Array Oper) (t : Env) (h : H) (t' : Env) (h' : H) (ρ : Rho) (a : Act) (w : World), codeFine ty nt (.region id ops true) = true → codeV call 1 (comp ty nt (.region id ops true)) t h = .nrm t' h' → RT σ ρ nt t a → RH σ ρ h w →
    (Code.region id ops true).wp P (CRel σ ρ h w nt (.nrm t' h')) a w
def notErr : CR → Prop
  | .err _ => False
  | _ => True
theorem codeV_succ (n : Nat) (c : CC) : codeV call (n + 1) c = CC.rec (motive := fun _ => CodeF) CR.nrm (fun a b _ _ => kSeq (codeV call n) a b) (fun c a b _ _ => kCond (codeV call n) c a b) (fun id c _ => kBlock (codeV call n) id c) (fun c _ => kLoop (codeV call n) c) CR.ext CR.ret (kReg call) (kDreg call) kBad c := rfl
theorem code_spec (hty : TyAll P ty) (hcall : CallsOk P σ call) (hd : DregOk P σ call ty nt) : ∀ n,
    (∀ (c : Code) (t : Env) (h : H) (ρ : Rho) (a : Act) (w : World), codeFine ty nt c = true → notErr (codeV call n (comp ty nt c) t h) → RT σ ρ nt t a → RH σ ρ h w → c.wp P (CRel σ ρ h w nt (codeV call n (comp ty nt c) t h)) a w) ∧
    (∀ (c : Code) (t : Env) (h : H) (ρ : Rho) (a : Act) (w : World), codeFine ty nt c = true → notErr (codeV call n (.loop (comp ty nt c)) t h) → RT σ ρ nt t a → RH σ ρ h w → loopWp P c (CRel σ ρ h w nt (codeV call n (.loop (comp ty nt c)) t h)) a w) := by
  intro n
  induction n with
  | zero => exact ⟨fun c t h ρ a w _ hne => hne.elim, fun c t h ρ a w _ hne => hne.elim⟩
  | succ n ih =>
    obtain ⟨ih1, ih2⟩ := ih
    have hloop : ∀ (c : Code) (t : Env) (h : H) (ρ : Rho) (a : Act) (w : World), codeFine ty nt c = true → notErr (codeV call (n + 1) (.loop (comp ty nt c)) t h) → RT σ ρ nt t a → RH σ ρ h w → loopWp P c (CRel σ ρ h w nt (codeV call (n + 1) (.loop (comp ty nt c)) t h)) a w := by
      intro c t h ρ a w hf hne g gh
      have he : codeV call (n + 1) (.loop (comp ty nt c)) t h = CR.rec (motive := fun _ => CR) (codeV call n (.loop (comp ty nt c))) .ext .ret .err (codeV call n (comp ty nt c) t h) := rfl
      rw [he] at hne ⊢
      have h1 := ih1 c t h ρ a w hf
      generalize codeV call n (comp ty nt c) t h = r at *
      refine loopWp.round ?_
      cases r with
      | nrm t1 h1' =>
        refine wp_mono (h1 trivial g gh) fun e a1 w1 hc => ?_
        cases e with
        | normal =>
          obtain ⟨ρ1, c1, c2, c3⟩ := hc
          exact (ih2 c t1 h1' ρ1 a1 w1 hf hne c1 c2).mono fun e a w q => CRel.after c3 q
        | _ => exact hc.elim
      | ext i t1 h1' =>
        refine wp_mono (h1 trivial g gh) fun e a1 w1 hc => ?_
        cases e with
        | exit j => exact hc
        | _ => exact hc.elim
      | ret t1 h1' =>
        refine wp_mono (h1 trivial g gh) fun e a1 w1 hc => ?_
        cases e with
        | ret => exact hc
        | _ => exact hc.elim
      | err s => exact hne.elim
    refine ⟨fun c t h ρ a w hf hne g gh => ?_, hloop⟩
    cases c with
    | skip => exact wp_skip ⟨ρ, g, gh, Step.refl _ _ _⟩
    | seq x y =>
      have he : codeV call (n + 1) (comp ty nt (.seq x y)) t h = CR.rec (motive := fun _ => CR) (codeV call n (comp ty nt y)) .ext .ret .err (codeV call n (comp ty nt x) t h) := rfl
      rw [he] at hne ⊢
      have hf : (codeFine ty nt x && codeFine ty nt y) = true := hf
      rw [Bool.and_eq_true] at hf
      have h1 := ih1 x t h ρ a w hf.1
      generalize codeV call n (comp ty nt x) t h = r at *
      refine wp_seq ?_
      cases r with
      | nrm t1 h1' =>
        refine wp_mono (h1 trivial g gh) fun e a1 w1 hc => ?_
        cases e with
        | normal =>
          obtain ⟨ρ1, c1, c2, c3⟩ := hc
          exact wp_mono (ih1 y t1 h1' ρ1 a1 w1 hf.2 hne c1 c2) fun e a w q => CRel.after c3 q
        | _ => exact hc.elim
      | ext i t1 h1' =>
        refine wp_mono (h1 trivial g gh) fun e a1 w1 hc => ?_
        cases e with
        | exit j => exact hc
        | _ => exact hc.elim
      | ret t1 h1' =>
        refine wp_mono (h1 trivial g gh) fun e a1 w1 hc => ?_
        cases e with
        | ret => exact hc
        | _ => exact hc.elim
      | err s => exact hne.elim
    | cond c x y =>
      have he : codeV call (n + 1) (comp ty nt (.cond c x y)) t h = onBool (.err "cond") (fun r => codeV call n (Bool.rec (motive := fun _ => CC) (comp ty nt y) (comp ty nt x) r) t h) (ev (opdOf c) t) := rfl
      rw [he] at hne ⊢
      have hf : (codeFine ty nt x && codeFine ty nt y) = true := hf
      rw [Bool.and_eq_true] at hf
      have hc := ev_spec g c
      cases hv : ev (opdOf c) t with
      | b r =>
        rw [hv] at hc hne
        simp only [RV] at hc
        refine wp_cond hc ?_
        cases r with
        | true => exact ih1 x t h ρ a w hf.1 hne g gh
        | false => exact ih1 y t h ρ a w hf.2 hne g gh
      | _ => rw [hv] at hne; exact hne.elim
    | block id c =>
      have he : codeV call (n + 1) (comp ty nt (.block id c)) t h = CR.rec (motive := fun _ => CR) .nrm (fun j t h => Bool.rec (.ext j t h) (.nrm t h) (Nat.beq j id)) .ret .err (codeV call n (comp ty nt c) t h) := rfl
      rw [he] at hne ⊢
      have h1 := ih1 c t h ρ a w hf
      generalize codeV call n (comp ty nt c) t h = r at *
      refine wp_block ?_
      cases r with
      | nrm t1 h1' =>
        refine wp_mono (h1 trivial g gh) fun e a1 w1 hc => ?_
        cases e with
        | normal => exact hc
        | _ => exact hc.elim
      | ext i t1 h1' =>
        refine wp_mono (h1 trivial g gh) fun e a1 w1 hc => ?_
        cases e with
        | exit j =>
          obtain ⟨rfl, hc⟩ := hc
          simp only [Exit.inBlock]
          cases hb : Nat.beq j id with
          | true =>
            have := beq_true hb
            rw [if_pos this]
            exact hc
          | false =>
            have : ¬ j = id := fun c => by subst c; rw [Nat.beq_refl] at hb; cases hb
            rw [if_neg this]
            exact ⟨rfl, hc⟩
        | _ => exact hc.elim
      | ret t1 h1' =>
        refine wp_mono (h1 trivial g gh) fun e a1 w1 hc => ?_
        cases e with
        | ret => exact hc
        | _ => exact hc.elim
      | err s => exact hne.elim
    | loop c => exact (hloop c t h ρ a w hf hne g gh).wp
    | exit id => exact wp_exit ⟨rfl, ρ, g, gh, Step.refl _ _ _⟩
    | ret => exact wp_ret ⟨ρ, g, gh, Step.refl _ _ _⟩
    | region id ops draw =>
      cases draw with
      | true =>
        have he : ∀ m, codeV call (m + 1) (comp ty nt (.region id ops true)) t h = codeV call 1 (comp ty nt (.region id ops true)) t h := by
          intro m
          generalize hcc : comp ty nt (.region id ops true) = cc
          simp only [comp] at hcc
          subst hcc
          rfl
        rw [he n] at hne ⊢
        cases hr : codeV call 1 (comp ty nt (.region id ops true)) t h with
        | nrm t' h' => exact hd id ops t h t' h' ρ a w hf hr g gh
        | err s => rw [hr] at hne; exact hne.elim
        | ext i t' h' =>
          exfalso
          have : ∀ i t' h', kDreg call (dops ty nt ops.toList ops.toList []) t h ≠ .ext i t' h' := kDreg_ext _ _ _
          exact this _ _ _ hr
        | ret t' h' =>
          exfalso
          have : ∀ t' h', kDreg call (dops ty nt ops.toList ops.toList []) t h ≠ .ret t' h' := kDreg_ret _ _ _
          exact this _ _ hr
      | false =>
        have he : codeV call (n + 1) (comp ty nt (.region id ops false)) t h = RR.rec (motive := fun _ => CR) .nrm .err (opsV call (ops.toList.map (compOper ty nt ops.toList)) t h) := rfl
        rw [he] at hne ⊢
        cases hr : opsV call (ops.toList.map (compOper ty nt ops.toList)) t h with
        | err s => rw [hr] at hne; exact hne.elim
        | ok t' h' =>
          refine wp_region ?_
          have := wp_regs (P := P) hty hcall (ops := ops) (Q := CRel σ ρ h w nt (.nrm t' h')) ops.toList 0 rfl hr g gh fun a' w' ρ' q1 q2 q3 => ⟨ρ', q1, q2, q3⟩
          rw [List.range_eq_range']
          simpa using this
    | _ => exact hne.elim
end Go.Proofs.YtggnhaiohmgflaaGreatDoor.Sx
namespace Go.Proofs.YtggnhaiohmgflaaGreatDoor.Sx
open Go
variable {σ : Nat → Int} {ρ ρ' : Rho} {h h' : H} {w w' : World} {P : Program}
variable {ty : Nat → Option TI} {nt : Nat} {t t' : Env} {a : Act} {x : V} {call : Nat → CallF}

theorem evs_same {xs : List Opd} (hx : ∀ x ∈ xs, ev x t' = ev x t) : evs xs t' = evs xs t := by
  induction xs with
  | nil => rfl
  | cons x xs ih => rw [evs_cons, evs_cons, hx x List.mem_cons_self, ih fun y hy => hx y (List.mem_cons_of_mem _ hy)]
theorem evParts_same {ps : List (Nat × Nat × Opd)} (hx : ∀ x ∈ ps.map (·.2.2), ev x t' = ev x t) : evParts ps t' = evParts ps t := by
  induction ps with
  | nil => rfl
  | cons p ps ih => rw [evParts_cons, evParts_cons, hx p.2.2 (by simp), ih fun y hy => hx y (by simp at hy ⊢; exact .inr hy)]
theorem bndO_same {x : Option Opd} (hx : ∀ y ∈ x.toList, ev y t' = ev y t) (m d : Nat) : bndO x t' m d = bndO x t m d := by
  cases x with
  | none => rfl
  | some y => show bound (ev y t') m = bound (ev y t) m; rw [hx y (by simp)]
/-- an operation knows its operands alone -/
theorem opV_same (op : CO) (hx : ∀ x ∈ coOpds op, ev x t' = ev x t) (h : H) : opV call op t' h = opV call op t h := by
  cases op with
  | mv x => show oMv x t' h = oMv x t h; simp only [oMv, hx x (by simp [coOpds])]
  | pick c y z => show oPick c y z t' h = oPick c y z t h; simp only [oPick, hx c (by simp [coOpds]), hx y (by simp [coOpds]), hx z (by simp [coOpds])]
  | alloc z => rfl
  | box x => show oBox x t' h = oBox x t h; simp only [oBox, hx x (by simp [coOpds])]
  | build z ps => show oBuild z ps t' h = oBuild z ps t h; simp only [oBuild, evParts_same hx]
  | bslice l s z ps => show oBSlice l s z ps t' h = oBSlice l s z ps t h; simp only [oBSlice, evParts_same hx]
  | ld1 x => show oLd1 x t' h = oLd1 x t h; simp only [oLd1, hx x (by simp [coOpds])]
  | ldn n x => show oLdn n x t' h = oLdn n x t h; simp only [oLdn, hx x (by simp [coOpds])]
  | st n y z => show oSt n y z t' h = oSt n y z t h; simp only [oSt, hx y (by simp [coOpds]), hx z (by simp [coOpds])]
  | nilc x => show oNilc x t' h = oNilc x t h; simp only [oNilc, hx x (by simp [coOpds])]
  | bin o y z => show oBin o y z t' h = oBin o y z t h; simp only [oBin, hx y (by simp [coOpds]), hx z (by simp [coOpds])]
  | eqt f n y z => show oEqt f n y z t' h = oEqt f n y z t h; simp only [oEqt, hx y (by simp [coOpds]), hx z (by simp [coOpds])]
  | eqg f n y z => show oEqg f n y z t' h = oEqg f n y z t h; simp only [oEqg, hx y (by simp [coOpds]), hx z (by simp [coOpds])]
  | un o x => show oUn o x t' h = oUn o x t h; simp only [oUn, hx x (by simp [coOpds])]
  | cvi k x => show oCvi k x t' h = oCvi k x t h; simp only [oCvi, hx x (by simp [coOpds])]
  | cvs x => show oCvs x t' h = oCvs x t h; simp only [oCvs, hx x (by simp [coOpds])]
  | s2b x => show oS2b x t' h = oS2b x t h; simp only [oS2b, hx x (by simp [coOpds])]
  | b2s x => show oB2s x t' h = oB2s x t h; simp only [oB2s, hx x (by simp [coOpds])]
  | mkf f p q =>
    have h1 : evs p t' = evs p t := evs_same fun y hy => hx y (List.mem_append.2 (.inl hy))
    have h2 : evs q t' = evs q t := evs_same fun y hy => hx y (List.mem_append.2 (.inr hy))
    show oMkf f p q t' h = oMkf f p q t h
    simp only [oMkf, h1, h2]
  | mkm r =>
    cases r with
    | none => rfl
    | some x => show oMkm (some x) t' h = oMkm (some x) t h; simp only [oMkm, hx x (by simp [coOpds])]
  | mks s z l c => show oMks s z l c t' h = oMks s z l c t h; simp only [oMks, hx l (by simp [coOpds]), hx c (by simp [coOpds])]
  | sub s x lo hi mx =>
    have h1 := fun m d => bndO_same (x := lo) (t := t) (t' := t') (fun y hy => hx y (by simp only [coOpds, List.mem_cons, List.mem_append]; exact .inr (.inl (.inl hy)))) m d
    have h2 := fun m d => bndO_same (x := hi) (t := t) (t' := t') (fun y hy => hx y (by simp only [coOpds, List.mem_cons, List.mem_append]; exact .inr (.inl (.inr hy)))) m d
    have h3 := fun m d => bndO_same (x := mx) (t := t) (t' := t') (fun y hy => hx y (by simp only [coOpds, List.mem_cons, List.mem_append]; exact .inr (.inr hy))) m d
    show oSub s x lo hi mx t' h = oSub s x lo hi mx t h
    simp only [oSub, hx x (by simp [coOpds]), h1, h2, h3]
  | subarr n s x lo hi =>
    have h1 := fun m d => bndO_same (x := lo) (t := t) (t' := t') (fun y hy => hx y (by simp only [coOpds, List.mem_cons, List.mem_append]; exact .inr (.inl hy))) m d
    have h2 := fun m d => bndO_same (x := hi) (t := t) (t' := t') (fun y hy => hx y (by simp only [coOpds, List.mem_cons, List.mem_append]; exact .inr (.inr hy))) m d
    show oSubarr n s x lo hi t' h = oSubarr n s x lo hi t h
    simp only [oSubarr, hx x (by simp [coOpds]), h1, h2]
  | fa o x => show oFa o x t' h = oFa o x t h; simp only [oFa, hx x (by simp [coOpds])]
  | ixs s y z => show oIxs s y z t' h = oIxs s y z t h; simp only [oIxs, hx y (by simp [coOpds]), hx z (by simp [coOpds])]
  | ixa n s y z => show oIxa n s y z t' h = oIxa n s y z t h; simp only [oIxa, hx y (by simp [coOpds]), hx z (by simp [coOpds])]
  | ixstr y z => show oIxstr y z t' h = oIxstr y z t h; simp only [oIxstr, hx y (by simp [coOpds]), hx z (by simp [coOpds])]
  | look s z o m k => show oLook s z o m k t' h = oLook s z o m k t h; simp only [oLook, hx m (by simp [coOpds]), hx k (by simp [coOpds])]
  | mupd s m k x => show oMupd s m k x t' h = oMupd s m k x t h; simp only [oMupd, hx m (by simp [coOpds]), hx k (by simp [coOpds]), hx x (by simp [coOpds])]
  | ext x n => show oExt x n t' h = oExt x n t h; simp only [oExt, hx x (by simp [coOpds])]
  | len x => show oLen x t' h = oLen x t h; simp only [oLen, hx x (by simp [coOpds])]
  | lens x => show oLens x t' h = oLens x t h; simp only [oLens, hx x (by simp [coOpds])]
  | lenm x => show oLenm x t' h = oLenm x t h; simp only [oLenm, hx x (by simp [coOpds])]
  | lenc n => rfl
  | app s y z => show oApp s y z t' h = oApp s y z t h; simp only [oApp, hx y (by simp [coOpds]), hx z (by simp [coOpds])]
  | min xs =>
    have h1 : evs xs t' = evs xs t := evs_same hx
    show oMin minN xs t' h = oMin minN xs t h
    simp only [oMin, h1]
  | max xs =>
    have h1 : evs xs t' = evs xs t := evs_same hx
    show oMin maxN xs t' h = oMin maxN xs t h
    simp only [oMin, h1]
  | call f xs =>
    have h1 : evs xs t' = evs xs t := evs_same hx
    show call f (evs xs t') h = call f (evs xs t) h
    rw [h1]
  | callv f xs =>
    have h1 : evs xs t' = evs xs t := evs_same fun y hy => hx y (List.mem_cons_of_mem _ hy)
    show callv2 call (ev f t') (evs xs t') h = callv2 call (ev f t) (evs xs t) h
    rw [h1, hx f List.mem_cons_self]
  | bad s => rfl

/-- the object that an operation reads -/
noncomputable def readName : CO → Env → Option Nat
  | .ld1 a, t => onPtr none (fun r _ => some r) (ev a t)
  | .ldn _ a, t => onPtr none (fun r _ => some r) (ev a t)
  | .subarr _ _ a _ _, t => onPtr none (fun r _ => some r) (ev a t)
  | .b2s a, t => match ev a t with | .sl (some (r, _)) _ _ _ => some r | _ => none
  | .lenm a, t => match ev a t with | .m (some r) => some r | _ => none
  | .look _ _ _ a _, t => match ev a t with | .m (some r) => some r | _ => none
  | _, _ => none
theorem row_same {r : Nat} {h2 : H} (e : h2.ob r = h.ob r) : h2.row r = h.row r := by unfold H.row; rw [e]
theorem map_same {r : Nat} {h2 : H} (e : h2.ob r = h.ob r) : h2.map r = h.map r := by unfold H.map; rw [e]
theorem loadN_same {r : Nat} {h2 : H} (e : h2.ob r = h.ob r) (off n : Nat) : loadN r off n h2 = loadN r off n h := by unfold loadN; rw [row_same e]
theorem load1_same {r : Nat} {h2 : H} (e : h2.ob r = h.ob r) (off : Nat) : load1 r off h2 = load1 r off h := by unfold load1; rw [row_same e]
theorem sub_ok {a : Option (Nat × Nat)} {lo hi sz : Nat} {cap : Option Nat} (e : subSl a lo hi sz cap h = .ok x h') (h2 : H) : h' = h ∧ subSl a lo hi sz cap h2 = .ok x h2 := by
  cases a with
  | none => cases e; exact ⟨rfl, rfl⟩
  | some q => cases e; exact ⟨rfl, rfl⟩
/-- what reads, or knows its operands alone, leaves the memory, and hangs on the object that it reads -/
theorem still_op (op : CO) {h2 : H} (hk : kindO op = .pure ∨ kindO op = .read) (e : opV call op t h = .ok x h') (hr : ∀ r, readName op t = some r → h2.ob r = h.ob r) : h' = h ∧ opV call op t h2 = .ok x h2 := by
  cases op with
  | mv y => cases e; exact ⟨rfl, rfl⟩
  | pick c y z =>
    obtain ⟨b, h1, h3⟩ := onBool_eq (show onBool (OpR.err "pick") (fun r => OpR.ok (ifB r (ev y t) (ev z t)) h) (ev c t) = .ok x h' from e) ok_ne
    cases h3
    refine ⟨rfl, ?_⟩
    show onBool (OpR.err "pick") (fun r => OpR.ok (ifB r (ev y t) (ev z t)) h2) (ev c t) = _
    rw [h1]; rfl
  | build z ps =>
    obtain ⟨cs, h1, h3⟩ := rO_eq (show rO (fillV (evParts ps t) z) (fun cs => .ok (.g cs) h) = .ok x h' from e)
    cases h3
    refine ⟨rfl, ?_⟩
    show rO (fillV (evParts ps t) z) (fun cs => .ok (.g cs) h2) = _
    rw [h1]; rfl
  | ld1 y =>
    obtain ⟨r, off, h1, h3⟩ := onPtr_eq (show onPtr (.err "ld1") (fun r off => rO (load1 r off h) (okV h)) (ev y t) = .ok x h' from e) ok_ne
    obtain ⟨v, h4, h5⟩ := rO_eq h3
    cases h5
    have := hr r (by simp only [readName, h1]; rfl)
    refine ⟨rfl, ?_⟩
    show onPtr (.err "ld1") (fun r off => rO (load1 r off h2) (okV h2)) (ev y t) = _
    rw [h1]
    show rO (load1 r off h2) (okV h2) = _
    rw [load1_same this, h4]; rfl
  | ldn n y =>
    obtain ⟨r, off, h1, h3⟩ := onPtr_eq (show onPtr (.err "ldn") (fun r off => rO (loadN r off n h) (okG h)) (ev y t) = .ok x h' from e) ok_ne
    obtain ⟨v, h4, h5⟩ := rO_eq h3
    cases h5
    have := hr r (by simp only [readName, h1]; rfl)
    refine ⟨rfl, ?_⟩
    show onPtr (.err "ldn") (fun r off => rO (loadN r off n h2) (okG h2)) (ev y t) = _
    rw [h1]
    show rO (loadN r off n h2) (okG h2) = _
    rw [loadN_same this, h4]; rfl
  | nilc y =>
    have e : nilc2 (ev y t) h = .ok x h' := e
    show h' = h ∧ nilc2 (ev y t) h2 = _
    unfold nilc2 at e ⊢
    split at e
    · rename_i q hq; cases e; exact ⟨rfl, rfl⟩
    · rename_i k u v hq; cases e; exact ⟨rfl, rfl⟩
    · cases e
  | bin o y z =>
    obtain ⟨v, h1, h3⟩ := rO_eq (show rO (bin2 o (ev z t) (ev y t)) (okV h) = .ok x h' from e)
    cases h3
    refine ⟨rfl, ?_⟩
    show rO (bin2 o (ev z t) (ev y t)) (okV h2) = _
    rw [h1]; rfl
  | eqt f n y z =>
    obtain ⟨v, h1, h3⟩ := rO_eq (show rO (eqOf f (ev y t) (ev z t)) (fun r => .ok (.b (r != n)) h) = .ok x h' from e)
    cases h3
    refine ⟨rfl, ?_⟩
    show rO (eqOf f (ev y t) (ev z t)) (fun r => .ok (.b (r != n)) h2) = _
    rw [h1]; rfl
  | eqg ks n y z =>
    obtain ⟨cs, h1, e1⟩ := onAgg_eq (show onAgg (.err "eq struct") (fun a => onAgg (.err "eq struct") (fun c => rO (eqLK ks a c) fun r => .ok (.b (r != n)) h) (ev z t)) (ev y t) = .ok x h' from e) ok_ne
    obtain ⟨es, h3, e2⟩ := onAgg_eq e1 ok_ne
    obtain ⟨r, e3, e4⟩ := rO_eq e2
    cases e4
    refine ⟨rfl, ?_⟩
    show onAgg (.err "eq struct") (fun a => onAgg (.err "eq struct") (fun c => rO (eqLK ks a c) fun r => .ok (.b (r != n)) h2) (ev z t)) (ev y t) = _
    rw [h1, h3]
    show rO (eqLK ks cs es) (fun r => .ok (.b (r != n)) h2) = _
    rw [e3]; rfl
  | un o y =>
    obtain ⟨v, h1, h3⟩ := rO_eq (show rO (un2 o (ev y t)) (okV h) = .ok x h' from e)
    cases h3
    refine ⟨rfl, ?_⟩
    show rO (un2 o (ev y t)) (okV h2) = _
    rw [h1]; rfl
  | cvi k y =>
    obtain ⟨k', b, h1, h3⟩ := onInt_eq (show onInt (.err "cvi") (fun _ e => cvi3 k h e) (ev y t) = .ok x h' from e) ok_ne
    have : h' = h ∧ cvi3 k h2 b = .ok x h2 := by
      cases b with
      | lit n => cases h3; exact ⟨rfl, rfl⟩
      | lin c ts =>
        obtain ⟨v, h4, h5⟩ := rO_eq (show rO (cviS k (.lin c ts)) (okV h) = .ok x h' from h3)
        cases h5
        refine ⟨rfl, ?_⟩
        show rO (cviS k (.lin c ts)) (okV h2) = _
        rw [h4]; rfl
    refine ⟨this.1, ?_⟩
    show onInt (.err "cvi") (fun _ e => cvi3 k h2 e) (ev y t) = _
    rw [h1]; exact this.2
  | cvs y =>
    have e : oCvs y t h = .ok x h' := e
    show h' = h ∧ oCvs y t h2 = _
    unfold oCvs at e ⊢
    split at e
    · rename_i l hl; cases e; exact ⟨rfl, rfl⟩
    · cases e
  | b2s y =>
    have e : oB2s y t h = .ok x h' := e
    show h' = h ∧ oB2s y t h2 = _
    unfold oB2s at e ⊢
    split at e
    · rename_i n s c hl; cases e; exact ⟨rfl, rfl⟩
    · rename_i r off n s c hl
      obtain ⟨cs, h1, h3⟩ := rO_eq e
      obtain ⟨l, h4, h5⟩ := rO_eq h3
      cases h5
      have := hr r (by simp only [readName, hl])
      refine ⟨rfl, ?_⟩
      simp only [loadN_same this, h1]
      show rO (bytesV cs) (fun l => .ok (.s l) h2) = _
      rw [h4]; rfl
    · cases e
  | mkf f p q => cases e; exact ⟨rfl, rfl⟩
  | sub s y lo hi mx =>
    have e : oSub s y lo hi mx t h = .ok x h' := e
    show h' = h ∧ oSub s y lo hi mx t h2 = _
    unfold oSub at e ⊢
    split at e
    · rename_i q len es cap hl
      rw [ifB_eq] at e ⊢
      split at e
      · cases e
      · rename_i hb
        rw [if_neg hb]
        obtain ⟨m, h1, e⟩ := rO_eq e
        obtain ⟨m2, h3, e⟩ := rO_eq e
        obtain ⟨m3, h4, e⟩ := rO_eq e
        rw [h1]
        show h' = h ∧ rO (bndO hi t m len) _ = _
        rw [h3]
        show h' = h ∧ rO (bndO lo t m2 0) _ = _
        rw [h4]
        exact sub_ok e h2
    · cases e
  | subarr n s y lo hi =>
    have e : oSubarr n s y lo hi t h = .ok x h' := e
    show h' = h ∧ oSubarr n s y lo hi t h2 = _
    unfold oSubarr at e ⊢
    split at e
    · rename_i r off hl
      have hrr := hr r (by simp only [readName, hl]; rfl)
      obtain ⟨y0, h1, e⟩ := rO_eq e
      rw [row_same hrr, h1]
      show h' = h ∧ ifB _ _ _ = _
      rw [ifB_eq] at e ⊢
      split at e
      · cases e
      · rename_i hb
        rw [if_neg hb]
        obtain ⟨m2, h3, e⟩ := rO_eq e
        obtain ⟨m3, h4, e⟩ := rO_eq e
        rw [h3]
        show h' = h ∧ rO (bndO lo t m2 0) _ = _
        rw [h4]
        exact sub_ok e h2
    · cases e
  | fa o y =>
    obtain ⟨r, off, h1, h3⟩ := onPtr_eq (show onPtr (.err "fa") (fa2 o h) (ev y t) = .ok x h' from e) ok_ne
    cases h3
    refine ⟨rfl, ?_⟩
    show onPtr (.err "fa") (fa2 o h2) (ev y t) = _
    rw [h1]; rfl
  | ixs s y z =>
    obtain ⟨q, len, es, cap, h1, h3⟩ := onSl_eq (show onSl (.err "ixs") (fun a len _ _ => onPtr2 (.err "ixs nil") (fun r off => onN (.err "ixs number") (ix3 len s r off h) (ev z t)) a) (ev y t) = .ok x h' from e) ok_ne
    obtain ⟨r, off, rfl, h4⟩ := onPtr2_eq h3 ok_ne
    obtain ⟨k, i, h5, h6⟩ := onN_eq h4 ok_ne
    obtain ⟨h7, rfl, rfl⟩ := ix3_ok h6
    refine ⟨rfl, ?_⟩
    show onSl (.err "ixs") (fun a len _ _ => onPtr2 (.err "ixs nil") (fun r off => onN (.err "ixs number") (ix3 len s r off h2) (ev z t)) a) (ev y t) = _
    rw [h1, h5]
    show ix3 len s r off h2 i = _
    unfold ix3
    rw [show Nat.ble (Nat.succ i) len = true from Nat.ble_eq_true_of_le h7]; rfl
  | ixa n s y z =>
    obtain ⟨r, off, h1, h3⟩ := onPtr_eq (show onPtr (.err "ixa") (fun r off => onN (.err "ixa number") (ix3 n s r off h) (ev z t)) (ev y t) = .ok x h' from e) ok_ne
    obtain ⟨k, i, h5, h6⟩ := onN_eq h3 ok_ne
    obtain ⟨h7, rfl, rfl⟩ := ix3_ok h6
    refine ⟨rfl, ?_⟩
    show onPtr (.err "ixa") (fun r off => onN (.err "ixa number") (ix3 n s r off h2) (ev z t)) (ev y t) = _
    rw [h1, h5]
    show ix3 n s r off h2 i = _
    unfold ix3
    rw [show Nat.ble (Nat.succ i) n = true from Nat.ble_eq_true_of_le h7]; rfl
  | ixstr y z =>
    obtain ⟨l, h1, h3⟩ := onStr_eq (show onStr (.err "ixstr") (fun l => onN (.err "ixstr number") (ixstr3 l h) (ev z t)) (ev y t) = .ok x h' from e) ok_ne
    obtain ⟨k, i, h5, h6⟩ := onN_eq h3 ok_ne
    obtain ⟨v, h7, h8⟩ := rO_eq (show rO (ofO "index" (nth l i)) (fun e => .ok (.i .u8 e) h) = .ok x h' from h6)
    cases h8
    refine ⟨rfl, ?_⟩
    show onStr (.err "ixstr") (fun l => onN (.err "ixstr number") (ixstr3 l h2) (ev z t)) (ev y t) = _
    rw [h1, h5]
    show rO (ofO "index" (nth l i)) (fun e => .ok (.i .u8 e) h2) = _
    rw [h7]; rfl
  | look s z o m k =>
    obtain ⟨es, e1, e2⟩ := rO_eq (show rO (mapOf (ev m t) h) (fun es => rO (findK s (ev k t) es) fun r => look2 z o r h) = .ok x h' from e)
    obtain ⟨r, e3, e4⟩ := rO_eq e2
    cases e4
    have hm : mapOf (ev m t) h2 = mapOf (ev m t) h := by
      unfold mapOf
      split
      · rfl
      · rename_i q hq
        exact map_same (hr q (by simp only [readName, hq]))
      · rfl
    refine ⟨rfl, ?_⟩
    show rO (mapOf (ev m t) h2) (fun es => rO (findK s (ev k t) es) fun r => look2 z o r h2) = _
    rw [hm, e1]
    show rO (findK s (ev k t) es) (fun r => look2 z o r h2) = _
    rw [e3]; rfl
  | ext y n =>
    obtain ⟨vs, h1, h3⟩ := onTup_eq (show onTup (.err "ext") (fun vs => rO (ofO "ext" (nth vs n)) (okV h)) (ev y t) = .ok x h' from e) ok_ne
    obtain ⟨v, h4, h5⟩ := rO_eq h3
    cases h5
    refine ⟨rfl, ?_⟩
    show onTup (.err "ext") (fun vs => rO (ofO "ext" (nth vs n)) (okV h2)) (ev y t) = _
    rw [h1]
    show rO (ofO "ext" (nth vs n)) (okV h2) = _
    rw [h4]; rfl
  | len y =>
    obtain ⟨q, n, es, cap, h1, h3⟩ := onSl_eq (show onSl (.err "len") (fun _ n _ _ => okN h n) (ev y t) = .ok x h' from e) ok_ne
    obtain ⟨rfl, rfl, h5⟩ := okN_ok h3
    refine ⟨rfl, ?_⟩
    show onSl (.err "len") (fun _ n _ _ => okN h2 n) (ev y t) = _
    rw [h1]
    show okN h2 n = _
    unfold okN
    rw [show Nat.ble n 1000000 = true from Nat.ble_eq_true_of_le h5]; rfl
  | lens y =>
    obtain ⟨l, h1, h3⟩ := onStr_eq (show onStr (.err "len") (fun l => okN h l.length) (ev y t) = .ok x h' from e) ok_ne
    obtain ⟨rfl, rfl, h5⟩ := okN_ok h3
    refine ⟨rfl, ?_⟩
    show onStr (.err "len") (fun l => okN h2 l.length) (ev y t) = _
    rw [h1]
    show okN h2 l.length = _
    unfold okN
    rw [show Nat.ble l.length 1000000 = true from Nat.ble_eq_true_of_le h5]; rfl
  | lenm y =>
    have e : oLenm y t h = .ok x h' := e
    show h' = h ∧ oLenm y t h2 = _
    unfold oLenm at e ⊢
    split at e
    · rename_i r hv
      cases r with
      | none => cases e; exact ⟨rfl, rfl⟩
      | some r =>
        obtain ⟨es, h1, h3⟩ := rO_eq (show rO (h.map r) (fun es => okN h es.length) = .ok x h' from e)
        obtain ⟨rfl, rfl, h5⟩ := okN_ok h3
        refine ⟨rfl, ?_⟩
        show rO (h2.map r) (fun es => okN h2 es.length) = _
        rw [map_same (hr r (by simp only [readName, hv])), h1]
        show okN h2 es.length = _
        unfold okN
        rw [show Nat.ble es.length 1000000 = true from Nat.ble_eq_true_of_le h5]; rfl
    · cases e
  | lenc n => cases e; exact ⟨rfl, rfl⟩
  | min xs =>
    have e : oMin minN xs t h = .ok x h' := e
    show h' = h ∧ oMin minN xs t h2 = _
    unfold oMin at e ⊢
    split at e
    · rename_i y ys hy
      obtain ⟨v, h1, h3⟩ := rO_eq (show rO (fold2 minN ys y) (fun v => .ok v h) = .ok x h' from e)
      cases h3
      refine ⟨rfl, ?_⟩
      show rO (fold2 minN ys y) (fun v => .ok v h2) = _
      rw [h1]; rfl
    · cases e
  | max xs =>
    have e : oMin maxN xs t h = .ok x h' := e
    show h' = h ∧ oMin maxN xs t h2 = _
    unfold oMin at e ⊢
    split at e
    · rename_i y ys hy
      obtain ⟨v, h1, h3⟩ := rO_eq (show rO (fold2 maxN ys y) (fun v => .ok v h) = .ok x h' from e)
      cases h3
      refine ⟨rfl, ?_⟩
      show rO (fold2 maxN ys y) (fun v => .ok v h2) = _
      rw [h1]; rfl
    · cases e
  | _ => rcases hk with hk | hk <;> cases hk
end Go.Proofs.YtggnhaiohmgflaaGreatDoor.Sx
namespace Go.Proofs.YtggnhaiohmgflaaGreatDoor.Sx
open Go
variable {σ : Nat → Int} {ρ ρ' : Rho} {h h' : H} {w w' : World} {P : Program}
variable {ty : Nat → Option TI} {nt : Nat} {t t' : Env} {a : Act} {x : V} {call : Nat → CallF}

def isMake (c : CO) : Bool := match kindO c with | .make => true | _ => false
def isRead (c : CO) : Bool := match kindO c with | .read => true | _ => false
theorem withTy_prop {p : CO → Prop} {t : Nat} {k : TI → CO} (hb : p (.bad "type")) (hk : ∀ ti, ty t = some ti → p (k ti)) : p (withTy ty t k) := by
  unfold withTy
  split
  · rename_i ti hti; exact hk ti hti
  · exact hb
theorem withZero_prop {p : CO → Prop} {ti : TI} {k : List V → CO} (hb : p (.bad "zero")) (hk : ∀ z, p (k z)) : p (withZero ti k) := by
  unfold withZero
  split
  · rename_i z _; exact hk z
  · exact hb
theorem makes_op {o : Oper} (hty : TyAll P ty) (g : RT σ ρ nt t a) (hk : kindO (compOp ty o.op) = .make) (e : opV call (compOp ty o.op) t h = .ok x h') : Makes P σ ρ h w (execOp a.eval o) x h' := by
  have nomake : ∀ {c : CO}, kindO c = .make → isMake c = false → False := by
    intro c h1 h2
    unfold isMake at h2
    rw [h1] at h2
    cases h2
  cases hop : o.op with
  | alloc t1 => rw [hop] at e; exact makes_alloc hop hty.ok e
  | box t1 y => rw [hop] at e; exact makes_box hop g e
  | buildSlice t1 n ps => rw [hop] at e; exact makes_buildSlice hop hty.ok g e
  | makeMap t1 r => rw [hop] at e; exact makes_makeMap hop hty.ok g e
  | makeSlice t1 l c => rw [hop] at e; exact makes_makeSlice hop hty.ok g e
  | convert s d y =>
    rw [hop] at e hk
    refine makes_convert hop hty.ok g ?_ e
    have : (∃ z, compConv ty s d y = .s2b z) ∨ isMake (compConv ty s d y) = false := by
      unfold compConv
      refine withTy_prop (p := fun c => (∃ z, c = .s2b z) ∨ isMake c = false) (.inr rfl) fun ts _ => withTy_prop (p := fun c => (∃ z, c = .s2b z) ∨ isMake c = false) (.inr rfl) fun td _ => ?_
      split
      · exact .inr rfl
      · exact .inr rfl
      · refine withTy_prop (p := fun c => (∃ z, c = .s2b z) ∨ isMake c = false) (.inr rfl) fun te _ => ?_
        split
        · exact .inl ⟨_, rfl⟩
        · exact .inr rfl
      · refine withTy_prop (p := fun c => (∃ z, c = .s2b z) ∨ isMake c = false) (.inr rfl) fun te _ => ?_
        split
        · exact .inr rfl
        · exact .inr rfl
      · exact .inr rfl
    rcases this with h1 | h1
    · exact h1
    · exact (nomake (show kindO (compConv ty s d y) = .make from hk) h1).elim
  | build t1 ps =>
    rw [hop] at hk
    refine (nomake hk ?_).elim
    show isMake (compBuild ty t1 ps) = false
    unfold compBuild
    refine withTy_prop (p := fun c => isMake c = false) rfl fun ti _ => ?_
    split
    · exact withZero_prop (p := fun c => isMake c = false) rfl fun z => rfl
    · exact withZero_prop (p := fun c => isMake c = false) rfl fun z => rfl
    · rfl
  | load t1 y =>
    rw [hop] at hk
    refine (nomake hk ?_).elim
    show isMake (compLoad ty t1 y) = false
    unfold compLoad
    refine withTy_prop (p := fun c => isMake c = false) rfl fun ti _ => ?_
    split <;> rfl
  | store t1 y z =>
    rw [hop] at hk
    exact (nomake hk (withTy_prop (p := fun c => isMake c = false) rfl fun ti _ => rfl)).elim
  | binOp op t1 y z q =>
    rw [hop] at hk
    refine (nomake hk ?_).elim
    show isMake (compBin ty op t1 y z) = false
    have hE : ∀ op neg, isMake (compEq ty op neg t1 y z) = false := by
      intro op neg
      unfold compEq
      refine withTy_prop (p := fun c => isMake c = false) rfl fun ti _ => ?_
      split <;> (try rfl)
      · split <;> rfl
      · split <;> rfl
    unfold compBin
    split
    · exact hE _ _
    · exact hE _ _
    · rfl
  | slice t1 y lo hi mx =>
    rw [hop] at hk
    refine (nomake hk ?_).elim
    show isMake (compSlice ty t1 y lo hi mx) = false
    unfold compSlice
    refine withTy_prop (p := fun c => isMake c = false) rfl fun ti _ => ?_
    split
    · split <;> rfl
    · split <;> rfl
    · rfl
  | fieldAddr s y f =>
    rw [hop] at hk
    refine (nomake hk ?_).elim
    show isMake (compFieldAddr ty s y f) = false
    unfold compFieldAddr
    split
    · refine withTy_prop (p := fun c => isMake c = false) rfl fun ti _ => ?_
      split <;> rfl
    · rfl
  | indexAddr t1 y i =>
    rw [hop] at hk
    refine (nomake hk ?_).elim
    show isMake (compIndexAddr ty t1 y i) = false
    unfold compIndexAddr
    refine withTy_prop (p := fun c => isMake c = false) rfl fun ti _ => ?_
    split <;> rfl
  | index t1 y i =>
    rw [hop] at hk
    refine (nomake hk ?_).elim
    show isMake (compIndex ty t1 y i) = false
    unfold compIndex
    refine withTy_prop (p := fun c => isMake c = false) rfl fun ti _ => ?_
    split <;> rfl
  | lookup t1 y k ok =>
    rw [hop] at hk
    refine (nomake hk ?_).elim
    show isMake (compLookup ty t1 y k ok) = false
    unfold compLookup
    refine withTy_prop (p := fun c => isMake c = false) rfl fun ti _ => ?_
    split
    · refine withTy_prop (p := fun c => isMake c = false) rfl fun te _ => ?_
      split <;> rfl
    · rfl
  | mapUpdate t1 m k y =>
    rw [hop] at hk
    refine (nomake hk ?_).elim
    show isMake (compMupd ty t1 m k y) = false
    unfold compMupd
    refine withTy_prop (p := fun c => isMake c = false) rfl fun ti _ => ?_
    split
    · split <;> rfl
    · rfl
  | insert t1 m k y =>
    rw [hop] at hk
    refine (nomake hk ?_).elim
    show isMake (compMupd ty t1 m k y) = false
    unfold compMupd
    refine withTy_prop (p := fun c => isMake c = false) rfl fun ti _ => ?_
    split
    · split <;> rfl
    · rfl
  | call c =>
    rw [hop] at hk
    refine (nomake hk ?_).elim
    show isMake (compCall ty c) = false
    unfold compCall
    split
    · unfold compBuiltin
      split
      · refine withTy_prop (p := fun c => isMake c = false) rfl fun ti _ => ?_
        split <;> (try rfl)
        refine withTy_prop (p := fun c => isMake c = false) rfl fun te _ => ?_
        split <;> rfl
      · refine withTy_prop (p := fun c => isMake c = false) rfl fun ti _ => ?_
        split
        · exact withTy_prop (p := fun c => isMake c = false) rfl fun te _ => rfl
        · rfl
      · rfl
      · rfl
      · rfl
    · rfl
    · rfl
    · rfl
  | _ => rw [hop] at hk; cases hk

/-- what is read has a place -/
theorem read_known {o : Oper} (g : RT σ ρ nt t a) {r : Nat} (hr : readName (compOp ty o.op) t = some r) : ∃ L, ρ r = some L := by
  have ptr : ∀ {y : Operand}, onPtr none (fun r _ => some r) (ev (opdOf y) t) = some r → ∃ L, ρ r = some L := by
    intro y e
    obtain ⟨q, off, h1, h2⟩ := onPtr_eq e (by simp)
    cases h2
    have hp := ev_spec g y
    rw [h1] at hp
    simp only [RV] at hp
    obtain ⟨L, hL, _⟩ := hp
    exact ⟨L, hL⟩
  have mp : ∀ {y : Operand}, (match ev (opdOf y) t with | .m (some r) => some r | _ => none) = some r → ∃ L, ρ r = some L := by
    intro y e
    split at e
    · rename_i q h1
      cases e
      have hp := ev_spec g y
      rw [h1] at hp
      simp only [RV] at hp
      obtain ⟨L, hL, _⟩ := hp
      exact ⟨L, hL⟩
    · cases e
  have slp : ∀ {y : Operand}, (match ev (opdOf y) t with | .sl (some (r, _)) _ _ _ => some r | _ => none) = some r → ∃ L, ρ r = some L := by
    intro y e
    split at e
    · rename_i q _ _ _ _ h1
      cases e
      have hp := ev_spec g y
      rw [h1] at hp
      simp only [RV] at hp
      obtain ⟨L, _, _, hL, _⟩ := hp
      exact ⟨L, hL⟩
    · cases e
  let p : CO → Prop := fun c => readName c t = some r → ∃ L, ρ r = some L
  have bad : ∀ {c : CO}, (∀ t, readName c t = none) → p c := fun h1 h2 => by rw [h1] at h2; cases h2
  suffices p (compOp ty o.op) from this hr
  cases hop : o.op with
  | load t1 y =>
    show p (compLoad ty t1 y)
    unfold compLoad
    refine withTy_prop (p := p) (bad fun _ => rfl) fun ti _ => ?_
    split
    · exact fun e => ptr e
    · exact fun e => ptr e
  | convert s d y =>
    show p (compConv ty s d y)
    unfold compConv
    refine withTy_prop (p := p) (bad fun _ => rfl) fun ts _ => withTy_prop (p := p) (bad fun _ => rfl) fun td _ => ?_
    split
    · exact bad fun _ => rfl
    · exact bad fun _ => rfl
    · refine withTy_prop (p := p) (bad fun _ => rfl) fun te _ => ?_
      split
      · exact bad fun _ => rfl
      · exact bad fun _ => rfl
    · refine withTy_prop (p := p) (bad fun _ => rfl) fun te _ => ?_
      split
      · exact fun e => slp e
      · exact bad fun _ => rfl
    · exact bad fun _ => rfl
  | slice t1 y lo hi mx =>
    show p (compSlice ty t1 y lo hi mx)
    unfold compSlice
    refine withTy_prop (p := p) (bad fun _ => rfl) fun ti _ => ?_
    split
    · split
      · exact bad fun _ => rfl
      · exact bad fun _ => rfl
    · split
      · exact fun e => ptr e
      · exact bad fun _ => rfl
    · exact bad fun _ => rfl
  | lookup t1 y k ok =>
    show p (compLookup ty t1 y k ok)
    unfold compLookup
    refine withTy_prop (p := p) (bad fun _ => rfl) fun ti _ => ?_
    split
    · refine withTy_prop (p := p) (bad fun _ => rfl) fun te _ => ?_
      split
      · exact fun e => mp e
      · exact bad fun _ => rfl
    · exact bad fun _ => rfl
  | call c =>
    show p (compCall ty c)
    unfold compCall
    split
    · rename_i b hb
      generalize hT : c.argTypes.toList = ts
      generalize hA : opdsOf c.args = as
      unfold compBuiltin
      split
      · refine withTy_prop (p := p) (bad fun _ => rfl) fun ti _ => ?_
        rename_i x0 _
        obtain ⟨y, _, rfl⟩ := args_one hA
        split
        · exact bad fun _ => rfl
        · refine withTy_prop (p := p) (bad fun _ => rfl) fun te _ => ?_
          split
          · exact bad fun _ => rfl
          · exact bad fun _ => rfl
        · exact bad fun _ => rfl
        · exact bad fun _ => rfl
        · exact fun e => mp e
        · exact bad fun _ => rfl
      · refine withTy_prop (p := p) (bad fun _ => rfl) fun ti _ => ?_
        split
        · exact withTy_prop (p := p) (bad fun _ => rfl) fun te _ => bad fun _ => rfl
        · exact bad fun _ => rfl
      · exact bad fun _ => rfl
      · exact bad fun _ => rfl
      · exact bad fun _ => rfl
    · exact bad fun _ => rfl
    · exact bad fun _ => rfl
    · exact bad fun _ => rfl
  | build t1 ps =>
    show p (compBuild ty t1 ps)
    unfold compBuild
    refine withTy_prop (p := p) (bad fun _ => rfl) fun ti _ => ?_
    split
    · exact withZero_prop (p := p) (bad fun _ => rfl) fun z => bad fun _ => rfl
    · exact withZero_prop (p := p) (bad fun _ => rfl) fun z => bad fun _ => rfl
    · exact bad fun _ => rfl
  | buildSlice t1 n ps =>
    show p (compBSlice ty t1 n ps)
    unfold compBSlice
    refine withTy_prop (p := p) (bad fun _ => rfl) fun ti _ => ?_
    split
    · refine withTy_prop (p := p) (bad fun _ => rfl) fun te _ => withZero_prop (p := p) (bad fun _ => rfl) fun z => ?_
      split
      · exact bad fun _ => rfl
      · exact bad fun _ => rfl
    · exact bad fun _ => rfl
  | store t1 y z => exact withTy_prop (p := p) (bad fun _ => rfl) fun ti _ => bad fun _ => rfl
  | alloc t1 => exact withTy_prop (p := p) (bad fun _ => rfl) fun ti _ => withZero_prop (p := p) (bad fun _ => rfl) fun z => bad fun _ => rfl
  | makeMap t1 q =>
    refine withTy_prop (p := p) (bad fun _ => rfl) fun ti _ => ?_
    split
    · exact bad fun _ => rfl
    · exact bad fun _ => rfl
  | makeSlice t1 l c =>
    show p (compMakeSlice ty t1 l c)
    unfold compMakeSlice
    refine withTy_prop (p := p) (bad fun _ => rfl) fun ti _ => ?_
    split
    · exact withTy_prop (p := p) (bad fun _ => rfl) fun te _ => withZero_prop (p := p) (bad fun _ => rfl) fun z => bad fun _ => rfl
    · exact bad fun _ => rfl
  | binOp op t1 y z q =>
    have hE : ∀ op neg, p (compEq ty op neg t1 y z) := by
      intro op neg
      unfold compEq
      refine withTy_prop (p := p) (bad fun _ => rfl) fun ti _ => ?_
      split <;> (try exact bad fun _ => rfl)
      · split <;> exact bad fun _ => rfl
      · split <;> exact bad fun _ => rfl
    show p (compBin ty op t1 y z)
    unfold compBin
    split
    · exact hE _ _
    · exact hE _ _
    · exact bad fun _ => rfl
  | fieldAddr s y f =>
    show p (compFieldAddr ty s y f)
    unfold compFieldAddr
    split
    · refine withTy_prop (p := p) (bad fun _ => rfl) fun ti _ => ?_
      split <;> exact bad fun _ => rfl
    · exact bad fun _ => rfl
  | indexAddr t1 y i =>
    show p (compIndexAddr ty t1 y i)
    unfold compIndexAddr
    refine withTy_prop (p := p) (bad fun _ => rfl) fun ti _ => ?_
    split <;> exact bad fun _ => rfl
  | index t1 y i =>
    show p (compIndex ty t1 y i)
    unfold compIndex
    refine withTy_prop (p := p) (bad fun _ => rfl) fun ti _ => ?_
    split <;> exact bad fun _ => rfl
  | mapUpdate t1 m k y =>
    show p (compMupd ty t1 m k y)
    unfold compMupd
    refine withTy_prop (p := p) (bad fun _ => rfl) fun ti _ => ?_
    split
    · split <;> exact bad fun _ => rfl
    · exact bad fun _ => rfl
  | insert t1 m k y =>
    show p (compMupd ty t1 m k y)
    unfold compMupd
    refine withTy_prop (p := p) (bad fun _ => rfl) fun ti _ => ?_
    split
    · split <;> exact bad fun _ => rfl
    · exact bad fun _ => rfl
  | _ => exact bad fun _ => rfl

/-- what the first tells is told by the second, too -/
theorem beqC_spec {x y : V} {v : Value} (e : beqC x y = true) (hy : RV σ ρ y v) : RV σ ρ x v := by
  unfold beqC at e
  split at e
  · simp only [RV]; exact oneV_spec hy e
  · rename_i a b; simp only [beq_iff_eq] at e; subst e; exact hy
  · rename_i k a k' c
    simp only [Bool.and_eq_true, decide_eq_true_eq] at e
    obtain ⟨e1, rfl⟩ := e
    obtain rfl := kindN_inj e1
    exact hy
  · simp only [decide_eq_true_eq] at e; subst e; exact hy
  · simp only [decide_eq_true_eq] at e; subst e; exact hy
  · rename_i a n s c a' n' s' c'
    simp only [Bool.and_eq_true, decide_eq_true_eq] at e
    obtain ⟨⟨⟨rfl, e1⟩, e2⟩, rfl⟩ := e
    obtain rfl := beq_true e1
    obtain rfl := beq_true e2
    exact hy
  · simp only [decide_eq_true_eq] at e; subst e; exact hy
  · exact hy
  · exact hy
  · cases e
theorem beqL_cons (a : V) (x : List V) (y : List V) : beqL (a :: x) y = match y with | [] => false | b :: y => Bool.rec false (beqL x y) (beqC a b) := rfl
theorem beqL_spec : ∀ {x y : List V} {l : List Value}, beqL x y = true → RVs σ ρ y l → RVs σ ρ x l
  | [], y, l, e, hy => by
    have e : isNil y = true := e
    cases y with
    | nil => exact hy
    | cons b y => cases e
  | a :: x, [], l, e, hy => by cases e
  | a :: x, b :: y, l, e, hy => by
    rw [beqL_cons] at e
    simp only [RVs] at hy
    obtain ⟨v, vs, rfl, h1, h2⟩ := hy
    cases hb : beqC a b with
    | false => simp only [hb] at e; cases e
    | true =>
      simp only [hb] at e
      exact ⟨v, vs, rfl, beqC_spec hb h1, beqL_spec e h2⟩
theorem beqC_one {x y : V} (e : beqC x y = true) (ho : oneV y = true) : oneV x = true := by
  unfold beqC at e
  split at e <;> first | rfl | cases e
theorem beqL_one : ∀ {x y : List V}, beqL x y = true → y.all oneV = true → x.all oneV = true
  | [], _, _, _ => rfl
  | a :: x, [], e, _ => by cases e
  | a :: x, b :: y, e, hy => by
    rw [beqL_cons] at e
    simp only [List.all_cons, Bool.and_eq_true] at hy ⊢
    cases hb : beqC a b with
    | false => simp only [hb] at e; cases e
    | true => simp only [hb] at e; exact ⟨beqC_one hb hy.1, beqL_one e hy.2⟩
theorem beqV_spec {x y : V} {v : Value} (e : beqV x y = true) (hy : RV σ ρ y v) : RV σ ρ x v := by
  unfold beqV at e
  split at e
  · simp only [RV] at hy ⊢
    obtain ⟨vs, rfl, h1, h2⟩ := hy
    exact ⟨vs, rfl, beqL_spec e h1, beqL_one e h2⟩
  · simp only [RV] at hy ⊢
    obtain ⟨vs, rfl, h1⟩ := hy
    exact ⟨vs, rfl, beqL_spec e h1⟩
  · exact beqC_spec e hy
end Go.Proofs.YtggnhaiohmgflaaGreatDoor.Sx
