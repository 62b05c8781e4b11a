/- Functions: the executor is sound. No conditions. -/
import Derived.Test.YtggnhaiohmgflaaGreatDoorSxX
import Derived.Lib.Bytealg
import Derived.DataElems
set_option linter.unusedVariables false
set_option linter.unusedSimpArgs false
namespace Go.Proofs.YtggnhaiohmgflaaGreatDoor.Sx
open Go
variable {call : Nat → CallF} {σ : Nat → Int} {ρ ρ' : Rho} {h h' : H} {w w' : World} {P : Program} {ty : Nat → Option TI} {nt : Nat} {t : Env} {a : Act}

theorem argsT_nil (l : List V) (t : Env) : argsT [] l t = t := rfl
theorem argsT_cons (p : P3) (ps : List P3) (v : V) (l : List V) (t : Env) : argsT (p :: ps) (v :: l) t = argsT ps l (Env.set p v t) := rfl
theorem args_get : ∀ (args : List V) (k x : Nat) (t : Env), k + args.length ≤ 512 → x < 512 →
    Env.get (p3 x) (argsT ((List.range' k args.length).map p3) args t) = if k ≤ x ∧ x < k + args.length then args.getD (x - k) undV else Env.get (p3 x) t
  | [], k, x, t, _, _ => by
    rw [if_neg (by simp)]; rfl
  | v :: args, k, x, t, hk, hx => by
    simp only [List.length_cons] at hk ⊢
    rw [List.range'_succ, List.map_cons, argsT_cons, args_get args (k + 1) x _ (by omega) hx]
    by_cases h1 : k + 1 ≤ x ∧ x < k + 1 + args.length
    · rw [if_pos h1, if_pos (by omega), show x - k = (x - (k + 1)) + 1 by omega]; rfl
    · rw [if_neg h1, Env.get_set]
      by_cases h2 : x = k
      · subst h2
        rw [if_pos rfl, if_pos (by omega)]; simp
      · rw [if_neg (fun c => h2 (p3_inj hx (by omega) c)), if_neg (by omega)]
theorem RT.start {args : List V} {argv : Array Value} (hv : RVs σ ρ args argv.toList) (hn : args.length ≤ nt) (h5 : nt ≤ 512) :
    RT σ ρ nt (argsT ((List.range' 0 args.length).map p3) args env0) { tmps := argv ++ Array.replicate (nt - argv.size) undef, defers := [] } := by
  have hl : args.length = argv.size := by have := hv.length; simpa using this
  refine ⟨by simp; omega, h5, rfl, fun x hx => ?_⟩
  rw [args_get args 0 x env0 (by omega) hx]
  simp only [Nat.zero_le, true_and, Nat.zero_add, Nat.sub_zero]
  by_cases hlt : x < args.length
  · rw [if_pos hlt]
    obtain ⟨v, h1, h2⟩ := hv.nth (i := x) (x := args[x]) (List.getElem?_eq_getElem hlt)
    have e1 : args.getD x undV = args[x] := by simp [hlt]
    have e2 : (argv ++ Array.replicate (nt - argv.size) undef).getD x undef = v := by
      rw [Array.getD_eq_getD_getElem?, Array.getElem?_append_left (by omega), ← Array.getElem?_toList, h1]; rfl
    rw [e1, e2]; exact h2
  · rw [if_neg hlt, env0_get]
    have e2 : (argv ++ Array.replicate (nt - argv.size) undef).getD x undef = undef := by
      rw [Array.getD_eq_getD_getElem?, Array.getElem?_append_right (by omega)]
      cases hq : (Array.replicate (nt - argv.size) undef)[x - argv.size]? with
      | none => rfl
      | some u =>
        rw [Array.getElem?_replicate] at hq
        split at hq
        · cases hq; rfl
        · cases hq
    rw [e2]; exact undV_spec

/-! results -/
def resOne (tmps : Array Value) (r : ResultVar) : Sem Value :=
  match r with
  | .tmp t => pure (tmps.getD t undef)
  | .cell a t => do loadVar t (← asAddr (tmps.getD a undef))
theorem res1_spec (hty : TyOk P ty) (g : RT σ ρ nt t a) (gh : RH σ ρ h w) {r : ResultVar} {x : V} (e : res1 t h (compRes ty r) = .ok x) : ∃ v, (resOne a.tmps r).run P w = .ok v w ∧ RV σ ρ x v := by
  cases r with
  | tmp q =>
    have e : res1 t h (match Nat.blt q 512 with | true => .v (p3 q) | false => .bad) = .ok x := e
    split at e
    · rename_i hb
      cases e
      exact ⟨_, by simp [resOne], g.rel q (blt_lt hb)⟩
    · cases e
  | cell q t1 =>
    have e : res1 t h (match Nat.blt q 512, ty t1 with | true, some ti => (match isAggD ti.desc with | true => .celln ti.size (p3 q) | false => .cell1 (p3 q)) | _, _ => .bad) = .ok x := e
    split at e
    · rename_i ti hb hti
      obtain ⟨i, z, t1', t2, t3, _⟩ := hty _ _ hti
      have hp := g.rel q (blt_lt hb)
      split at e
      · rename_i ha
        unfold res1 at e
        simp only at e
        split at e
        · rename_i r off hv
          obtain ⟨cs, h3, h4⟩ := R.bd_eq e
          cases h4
          obtain ⟨row, h5, h6, h6'⟩ := loadN_ok h3
          rw [hv] at hp
          simp only [RV] at hp
          obtain ⟨L, h7, h8⟩ := hp
          obtain ⟨M, h9, h10⟩ := gh.row _ _ h5
          rw [h7] at h9; cases h9
          have hone : cs.all oneV = true := by
            have := h10.one
            rw [h6]
            simp only [List.all_eq_true] at this ⊢
            exact fun y hy => this y (List.mem_of_mem_drop (List.mem_of_mem_take hy))
          by_cases hn : ti.size = 0
          · refine ⟨.agg #[], by simp [resOne, h8, asAddr, loadVar, run_isAggD t2, ha, run_size t1', t3, hn, loadCells, loadCellsFrom], ?_⟩
            simp only [RV]
            exact ⟨#[], rfl, by rw [h6, hn]; simp [RVs], hone⟩
          · obtain ⟨vs, k1, k2, k3, _⟩ := h10.stretch (off := off) (n := ti.size) (by omega)
            have hl := run_loadCells_list (P := P) (w := w) ⟨L.b, L.o + off, none⟩ vs (fun j v hv => by rw [add_none]; exact k3 j v hv)
            rw [k1] at hl
            refine ⟨.agg vs.toArray, by simp [resOne, h8, asAddr, loadVar, run_isAggD t2, ha, run_size t1', t3, hl], ?_⟩
            simp only [RV]
            exact ⟨vs.toArray, rfl, by rw [h6]; simpa using k2, hone⟩
        · cases e
      · rename_i ha
        unfold res1 at e
        simp only at e
        split at e
        · rename_i r off hv
          obtain ⟨row, h5, h6⟩ := load1_ok e
          rw [hv] at hp
          simp only [RV] at hp
          obtain ⟨L, h7, h8⟩ := hp
          obtain ⟨M, h9, h10⟩ := gh.row _ _ h5
          rw [h7] at h9; cases h9
          obtain ⟨u, h11, h12⟩ := h10.cell h6
          exact ⟨u, by simp [resOne, h8, asAddr, loadVar, run_isAggD t2, ha, h11], h12⟩
        · cases e
    · cases e
theorem resV_cons (r : CRes) (l : List CRes) : resV t h (r :: l) = (res1 t h r).bd fun v => (resV t h l).bd fun vs => .ok (v :: vs) := rfl
theorem resV_spec (hty : TyOk P ty) (g : RT σ ρ nt t a) (gh : RH σ ρ h w) : ∀ {l : List ResultVar} {vs : List V}, resV t h (l.map (compRes ty)) = .ok vs → ∃ us, (l.mapM (resOne a.tmps)).run P w = .ok us w ∧ RVs σ ρ vs us
  | [], vs, e => by
    cases e
    exact ⟨[], by simp, rfl⟩
  | r :: l, vs, e => by
    rw [List.map_cons, resV_cons] at e
    obtain ⟨x, e1, e2⟩ := R.bd_eq e
    obtain ⟨xs, e3, e4⟩ := R.bd_eq e2
    cases e4
    obtain ⟨v, h1, h2⟩ := res1_spec hty g gh e1
    obtain ⟨us, h3, h4⟩ := resV_spec hty g gh e3
    exact ⟨v :: us, by simp [List.mapM_cons, h1, h3], ⟨v, us, rfl, h2, h4⟩⟩
theorem results_eq (fn : Func) (tmps : Array Value) : results fn tmps = (do let vs ← fn.results.mapM (resOne tmps); pure (if h : vs.size = 1 then vs[0] else .tuple vs)) := by
  unfold results
  congr 1
theorem finish_spec {fn : Func} {x : V} (hty : TyOk P ty) (g : RT σ ρ nt t a) (gh : RH σ ρ h w) (e : finish (fn.results.toList.map (compRes ty)) t h = .ok x h') : h' = h ∧ ∃ v, (results fn a.tmps).run P w = .ok v w ∧ RV σ ρ x v := by
  obtain ⟨vs, e1, e2⟩ := rO_eq e
  cases e2
  refine ⟨rfl, ?_⟩
  obtain ⟨us, h1, h2⟩ := resV_spec hty g gh e1
  have hm : (fn.results.mapM (resOne a.tmps)).run P w = .ok us.toArray w := by
    rw [Array.mapM_eq_mapM_toList]
    simp [h1]
  rw [results_eq]
  refine ⟨if h : us.toArray.size = 1 then us.toArray[0] else .tuple us.toArray, by simp [hm], ?_⟩
  have hl := h2.length
  unfold tup
  split
  · rename_i v
    simp only [RVs] at h2
    obtain ⟨y, ys, rfl, h3, rfl⟩ := h2
    simpa using h3
  · rename_i hne
    rw [dif_neg]
    · simp only [RV]; exact ⟨_, rfl, h2⟩
    · intro c
      simp at c
      rw [c] at hl
      obtain ⟨v, rfl⟩ := List.length_eq_one_iff.1 hl
      exact hne v rfl

/-- what the context says of the program -/
structure CtxOk (P : Program) (σ : Nat → Int) (ty : Nat → Option TI) (C : Ctx) : Prop where
  fn : ∀ f cf, C.fn f = some cf → ∃ fn, P.funcs[f]? = some fn ∧ cf = compFn ty fn ∧ fn.name ≠ "runtime.NumGoroutine" ∧ ∀ c, fn.body = some c → codeFine ty fn.ntmps c = true
  nat : ∀ f k, C.nat f = some k → ∀ args h x h', k args h = .ok x h' → CallOk P σ f args h x h'
theorem run_callFunc {f : Nat} {fn : Func} {c : Code} (hf : P.funcs[f]? = some fn) (hb : fn.body = some c) (hn : fn.name ≠ "runtime.NumGoroutine") (argv : Array Value) (w : World) : (callFunc f argv).run P w = .ok (.enter f argv) w := by
  simp [callFunc, hf, hb, hn]
theorem pars_eq (m n : Nat) : (List.range m).map p3 ++ (List.range n).map (fun i => p3 (m + i)) = (List.range' 0 (m + n)).map p3 := by
  rw [List.range_eq_range', List.range_eq_range']
  have h1 : List.range' 0 (m + n) = List.range' 0 m ++ List.range' m n := by
    have := (List.range'_append (s := 0) (m := m) (n := n) (step := 1)).symm
    simpa using this
  have h2 : List.range' m n = (List.range' 0 n).map (fun i => m + i) := by
    rw [List.map_add_range']; simp
  rw [h1, List.map_append, h2, List.map_map]
  rfl
theorem body_ok {f : Nat} {fn : Func} {args : List V} {x : V} (hty : TyAll P ty) (hmix : P.follows .mixedOrders = true) (hcall : CallsOk P σ call) (hf : P.funcs[f]? = some fn) (hn : fn.name ≠ "runtime.NumGoroutine") (hfine : ∀ c, fn.body = some c → codeFine ty fn.ntmps c = true)
    {cc : CC} (hb : (compFn ty fn).body = some cc) (e : bodyV call (compFn ty fn) cc args h = .ok x h') : CallOk P σ f args h x h' := by
  intro ρ w argv hv gh
  right
  -- the body
  obtain ⟨c, hc, rfl, h5⟩ : ∃ c, fn.body = some c ∧ cc = comp ty fn.ntmps c ∧ fn.ntmps ≤ 512 := by
    have hb : (match Nat.ble fn.ntmps 512 with | true => fn.body.map (comp ty fn.ntmps) | false => none) = some cc := hb
    split at hb
    · rename_i hle
      cases hbo : fn.body with
      | none => rw [hbo] at hb; cases hb
      | some c => rw [hbo] at hb; cases hb; exact ⟨c, rfl, rfl, ble_true hle⟩
    · cases hb
  refine ⟨run_callFunc hf hc hn argv w, ?_⟩
  unfold bodyV at e
  rw [ifB_eq] at e
  split at e
  · cases e
  · rename_i hlen
    have hlen : (Nat.beq args.length (compFn ty fn).pars.length && Nat.ble args.length (compFn ty fn).nt) = true := by simpa using hlen
    rw [Bool.and_eq_true] at hlen
    have hl1 : args.length = (compFn ty fn).pars.length := beq_true hlen.1
    have hl2 : args.length ≤ fn.ntmps := ble_true hlen.2
    have hp : (compFn ty fn).pars = (List.range' 0 args.length).map p3 := by
      have h1 : (compFn ty fn).pars = (List.range' 0 (fn.params.size + fn.nfree)).map p3 := pars_eq _ _
      rw [h1] at hl1 ⊢
      rw [hl1]; simp
    rw [hp] at e
    have hrt := RT.start (σ := σ) (ρ := ρ) (nt := fn.ntmps) hv hl2 h5
    have hcode := (code_spec (P := P) hty hcall (dreg_ok hty hcall hmix) 100000).1 c (argsT ((List.range' 0 args.length).map p3) args env0) h ρ { tmps := argv ++ Array.replicate (fn.ntmps - argv.size) undef, defers := [] } w (hfine c hc)
    refine calls_of_wp hf hc ?_
    have fin : ∀ (t' : Env) (h1 : H) (ex : Exit) (a' : Act) (w' : World), finish (compFn ty fn).res t' h1 = .ok x h' → (∃ ρ', RT σ ρ' fn.ntmps t' a' ∧ RH σ ρ' h1 w' ∧ Step ρ h w ρ' h1 w') →
        a'.defers = [] ∧ ∃ v, (results fn a'.tmps).run P w' = .ok v w' ∧ AfterE σ ρ h w x h' (.returned v) w' := by
      rintro t' h1 ex a' w' e ⟨ρ', r1, r2, r3⟩
      obtain ⟨rfl, v, h3, h4⟩ := finish_spec (fn := fn) hty.ok r1 r2 e
      exact ⟨r1.defers, v, h3, ρ', h4, r2, r3⟩
    generalize codeV call 100000 (comp ty fn.ntmps c) (argsT ((List.range' 0 args.length).map p3) args env0) h = r at e hcode
    cases r with
    | nrm t' h1 =>
      refine wp_mono (hcode trivial hrt gh) fun ex a' w' hcr => ?_
      cases ex with
      | normal => exact fin t' h1 .normal a' w' e hcr
      | _ => exact hcr.elim
    | ret t' h1 =>
      refine wp_mono (hcode trivial hrt gh) fun ex a' w' hcr => ?_
      cases ex with
      | ret => exact fin t' h1 .ret a' w' e hcr
      | _ => exact hcr.elim
    | ext i t' h1 => cases e
    | err s => cases e
theorem callF_succ (C : Ctx) (n f : Nat) : callF C (n + 1) f = match C.nat f with
    | some k => k
    | none => match C.fn f with
      | none => fun _ _ => .err "no function"
      | some fn => match fn.body with
        | none => fun _ _ => .err "extern"
        | some c => bodyV (callF C n) fn c := rfl
/-- the executor is sound -/
theorem callF_ok {C : Ctx} (hty : TyAll P ty) (hmix : P.follows .mixedOrders = true) (hC : CtxOk P σ ty C) : ∀ n, CallsOk P σ (callF C n) := by
  intro n
  induction n with
  | zero => intro f args h x h' e; cases e
  | succ n ih =>
    intro f args h x h' e
    rw [callF_succ] at e
    split at e
    · rename_i k hk
      exact hC.nat f k hk args h x h' e
    · split at e
      · cases e
      · rename_i cf hcf
        obtain ⟨fn, h1, rfl, h3, h4⟩ := hC.fn f cf hcf
        split at e
        · cases e
        · rename_i c hc
          exact body_ok hty hmix ih h1 h3 h4 hc e
end Go.Proofs.YtggnhaiohmgflaaGreatDoor.Sx
namespace Go.Proofs.YtggnhaiohmgflaaGreatDoor.Sx
open Go
variable {σ : Nat → Int} {ρ ρ' : Rho} {h h' : H} {w w' : World} {P : Program}

theorem run_extern {f : Nat} {fn : Func} {e : Array Value → Sem Value} {argv : Array Value} {v : Value} (hf : P.funcs[f]? = some fn) (hb : fn.body = none) (hn : fn.name ≠ "runtime.NumGoroutine") (h1 : Extern.findNext fn = none) (h2 : Extern.find fn = some e)
    (hr : ∀ w, (e argv).run P w = .ok v w) (w : World) : (callFunc f argv).run P w = .ok (.value v) w := by
  simp [callFunc, hf, hb, hn, h1, h2, hr]
theorem idxE_nil (c : E) (n : Nat) : idxE c [] n = .ok (.i .i64 (.lit (-1))) := rfl
theorem idxE_cons (c e : E) (l : List E) (n : Nat) : idxE c (e :: l) n = (eqN e c).bd fun r => Bool.rec (idxE c l (n + 1)) (ifB (Nat.ble n 1000000) (.ok (intV n)) (.err "index size")) r := rfl
theorem byte_eq {b c : UInt8} : (b == c) = ((b.toNat : Int) == (c.toNat : Int)) := by
  by_cases e : b = c
  · subst e; simp
  · have h1 : (b == c) = false := by simpa using e
    have h2 : ((b.toNat : Int) == (c.toNat : Int)) = false := by
      rw [beq_eq_false_iff_ne]
      intro h
      exact e (UInt8.toNat_inj.1 (by exact_mod_cast h))
    rw [h1, h2]
theorem neg1_in : inK .i64 ((E.lit (-1)).val σ) := by
  rw [E.val_lit]; unfold inK; decide
theorem idxE_spec {c : E} {cb : UInt8} (hc : c.ok σ) (hcv : c.val σ = (cb.toNat : Int)) : ∀ {l : List E} {bs : List UInt8} {n : Nat} {v : V}, idxE c l n = .ok v → bs.map (fun b => (b.toNat : Int)) = l.map (E.val σ) → (∀ e ∈ l, e.ok σ) →
    RV σ ρ v (.int .i64 (if Lib.indexByte bs cb = -1 then -1 else Lib.indexByte bs cb + n))
  | [], bs, n, v, e, hb, _ => by
    rw [idxE_nil] at e
    cases e
    have : bs = [] := by simpa using hb
    subst this
    simp only [Lib.indexByte, if_true, RV]
    exact ⟨rfl, trivial, neg1_in⟩
  | x :: l, bs, n, v, e, hb, ho => by
    cases bs with
    | nil => simp at hb
    | cons b bs =>
      simp only [List.map_cons, List.cons.injEq] at hb
      rw [idxE_cons] at e
      obtain ⟨r, e1, e2⟩ := R.bd_eq e
      have hx := eqN_spec e1 (ho x List.mem_cons_self) hc
      rw [← hb.1, hcv, ← byte_eq] at hx
      have hq : Lib.indexByte (b :: bs) cb = if (b == cb) = true then 0 else if (Lib.indexByte bs cb == -1) = true then -1 else Lib.indexByte bs cb + 1 := rfl
      cases r with
      | true =>
        have e2 : ifB (Nat.ble n 1000000) (R.ok (intV n)) (R.err "index size") = .ok v := e2
        rw [ifB_eq] at e2
        split at e2
        · rename_i hn
          cases e2
          rw [if_pos hx] at hq
          rw [hq, if_neg (by decide)]
          have := RV_intV (σ := σ) (ρ := ρ) (ble_true hn)
          rw [Int.zero_add]
          exact this
        · cases e2
      | false =>
        have e2 : idxE c l (n + 1) = .ok v := e2
        have IH := idxE_spec hc hcv e2 hb.2 fun e he => ho e (List.mem_cons_of_mem _ he)
        rw [if_neg (by rw [hx]; simp)] at hq
        have hge := Lib.indexByte_ge bs cb
        by_cases h1 : Lib.indexByte bs cb = -1
        · rw [if_pos h1] at IH
          rw [if_pos (by simpa using h1)] at hq
          rw [hq, if_pos rfl]
          exact IH
        · rw [if_neg h1] at IH
          rw [if_neg (by simpa using h1)] at hq
          rw [hq, if_neg (by omega)]
          rw [show Lib.indexByte bs cb + 1 + (n : Int) = Lib.indexByte bs cb + ((n + 1 : Nat) : Int) by omega]
          exact IH
theorem natIdx_ok {f : Nat} {fn : Func} (hf : P.funcs[f]? = some fn) (hb : fn.body = none) (hn : fn.name ≠ "runtime.NumGoroutine") (h1 : Extern.findNext fn = none) (h2 : Extern.find fn = some Extern.BytealgIndexByte.indexByte) :
    ∀ args h x h', natIdx args h = .ok x h' → CallOk P σ f args h x h' := by
  intro args h x h' e ρ w argv hv gh
  unfold natIdx at e
  split at e
  · rename_i l c
    obtain ⟨v, e1, e2⟩ := rO_eq e
    cases e2
    simp only [RVs] at hv
    obtain ⟨A, l1, hA, a1, B, l2, rfl, b1, rfl⟩ := hv
    simp only [RV] at a1 b1
    obtain ⟨s, rfl, hs1, hs2⟩ := a1
    obtain ⟨rfl, c1, c2⟩ := b1
    have hargv : argv = #[.string s, .int .u8 (c.val σ)] := Array.toList_inj.1 hA
    subst hargv
    unfold inK at c2
    simp [IntKind.min, IntKind.max, IntKind.bits, IntKind.signed] at c2
    have hcv : c.val σ = ((c.val σ).toNat.toUInt8.toNat : Int) := by
      have : (c.val σ).toNat < 256 := by omega
      simp [Nat.toUInt8]; omega
    have hr := idxE_spec (ρ := ρ) c1 hcv e1 hs1 hs2
    left
    refine ⟨_, w, run_extern hf hb hn h1 h2 (fun w => Lib.run_indexByteString s (c.val σ) w) w, ρ, ?_, gh, Step.refl _ _ _⟩
    have : (if Lib.indexByte s.data.toList (c.val σ).toNat.toUInt8 = -1 then (-1 : Int) else Lib.indexByte s.data.toList (c.val σ).toNat.toUInt8 + ((0 : Nat) : Int)) = Lib.indexByte s.data.toList (c.val σ).toNat.toUInt8 := by
      split <;> omega
    rw [this] at hr
    exact hr
  · cases e
theorem run_loadBytes : ∀ (bs : List UInt8) (a : Addr) (acc : ByteArray) (w : World), (∀ j b, bs[j]? = some b → w.cell? (a.add j) = some (.int .u8 (b.toNat : Int))) → (Extern.Bytes.loadBytes a bs.length acc).run P w = .ok ⟨acc.data ++ bs.toArray⟩ w
  | [], a, acc, w, _ => by simp [Extern.Bytes.loadBytes]
  | b :: bs, a, acc, w, h => by
    have h0 := h 0 b rfl
    have ha : a.add 0 = a := by simp [Addr.add]
    rw [ha] at h0
    have IH := run_loadBytes bs (a.add 1) (acc.push b) w fun j c hc => by
      have := h (j + 1) c hc
      rw [show a.add (j + 1) = (a.add 1).add j by rw [Addr.add_add, Nat.add_comm]] at this
      exact this
    have hb : ((b.toNat : Int)).toNat.toUInt8 = b := by simp
    simp only [List.length_cons, Extern.Bytes.loadBytes]
    simp only [Sem.run_bind, run_load, h0, Result.andThen, hb, IH]
    congr 2
    show acc.data.push b ++ bs.toArray = acc.data ++ (b :: bs).toArray
    apply Array.toList_inj.1
    simp
theorem run_indexByte_slice {bs : List UInt8} {a : Addr} {n cap : Nat} (c : Int) (w : World) (hn : bs.length = n) (h : ∀ j b, bs[j]? = some b → w.cell? (a.add j) = some (.int .u8 (b.toNat : Int))) :
    (Extern.BytealgIndexByte.indexByte #[.slice (some a) n cap, .int .u8 c]).run P w = .ok (.int .i64 (Lib.indexByte bs c.toNat.toUInt8)) w := by
  subst hn
  have h1 := Lib.run_indexByteString (P := P) ⟨bs.toArray⟩ c w
  have h2 := run_loadBytes (P := P) bs a .empty w h
  have e0 : (⟨ByteArray.empty.data ++ bs.toArray⟩ : ByteArray) = ⟨bs.toArray⟩ := by
    have h0 : ByteArray.empty.data = #[] := rfl
    rw [h0, Array.empty_append]
  rw [e0] at h2
  change Sem.run P (do
    let b ← Extern.Bytes.bytesOf (.string ⟨bs.toArray⟩)
    let c' ← Extern.Bytes.asByte (.int .u8 c)
    match (List.range b.size).find? fun i => b[i]! == c' with
    | some i => pure (goInt i)
    | none => pure (goInt (-1))) w = _ at h1
  change Sem.run P (do
    let b ← Extern.Bytes.loadBytes a bs.length .empty
    let c' ← Extern.Bytes.asByte (.int .u8 c)
    match (List.range b.size).find? fun i => b[i]! == c' with
    | some i => pure (goInt i)
    | none => pure (goInt (-1))) w = _
  rw [Sem.run_bind, h2]
  exact h1
theorem run_indexByte_nil (c : Int) (n cap : Nat) (w : World) : (Extern.BytealgIndexByte.indexByte #[.slice none n cap, .int .u8 c]).run P w = .ok (.int .i64 (-1)) w := by
  have h1 := Lib.run_indexByteString (P := P) .empty c w
  exact h1
theorem natIdxB_ok {f : Nat} {fn : Func} (hf : P.funcs[f]? = some fn) (hb : fn.body = none) (hn : fn.name ≠ "runtime.NumGoroutine") (h1 : Extern.findNext fn = none) (h2 : Extern.find fn = some Extern.BytealgIndexByte.indexByte) :
    ∀ args h x h', natIdxB args h = .ok x h' → CallOk P σ f args h x h' := by
  intro args h x h' e ρ w argv hv gh
  have run : ∀ {v : Value}, (Extern.BytealgIndexByte.indexByte argv).run P w = .ok v w → (callFunc f argv).run P w = .ok (.value v) w := by
    intro v hr
    rw [run_callFunc_extern hf (by simpa using hn) (by simp [hb]) h1 h2, hr]
    rfl
  unfold natIdxB at e
  split at e
  · rename_i n es cap c
    cases e
    simp only [RVs] at hv
    obtain ⟨A, l1, hA, a1, B, l2, rfl, b1, rfl⟩ := hv
    simp only [RV] at a1 b1
    obtain ⟨rfl, _⟩ := a1
    obtain ⟨rfl, c1, c2⟩ := b1
    have hargv : argv = #[.slice none 0 0, .int .u8 (c.val σ)] := Array.toList_inj.1 hA
    subst hargv
    left
    exact ⟨_, w, run (run_indexByte_nil _ _ _ w), ρ, by simp only [RV]; exact ⟨rfl, trivial, neg1_in⟩, gh, Step.refl _ _ _⟩
  · rename_i r off n es cap c
    obtain ⟨cs, e1, e2⟩ := rO_eq e
    obtain ⟨l, e3, e4⟩ := rO_eq e2
    obtain ⟨v, e5, e6⟩ := rO_eq e4
    cases e6
    simp only [RVs] at hv
    obtain ⟨A, l1, hA, a1, B, l2, rfl, b1, rfl⟩ := hv
    simp only [RV] at a1 b1
    obtain ⟨L, ad, cc, hL, rfl, hlc, hcap, hor⟩ := a1
    obtain ⟨rfl, c1, c2⟩ := b1
    have hargv : argv = #[.slice (some ad) n cc, .int .u8 (c.val σ)] := Array.toList_inj.1 hA
    subst hargv
    unfold inK at c2
    simp [IntKind.min, IntKind.max, IntKind.bits, IntKind.signed] at c2
    have hcv : c.val σ = ((c.val σ).toNat.toUInt8.toNat : Int) := by
      have : (c.val σ).toNat < 256 := by omega
      simp [Nat.toUInt8]; omega
    obtain ⟨row, h3, h4, h5⟩ := loadN_ok e1
    obtain ⟨M, hM, hr⟩ := gh.row _ _ h3
    rw [hL] at hM; cases hM
    obtain ⟨bs, hbn, hcell, hbs, hok⟩ : ∃ bs : List UInt8, bs.length = n ∧ (∀ j b, bs[j]? = some b → w.cell? (ad.add j) = some (.int .u8 (b.toNat : Int))) ∧ bs.map (fun b => (b.toNat : Int)) = l.map (E.val σ) ∧ ∀ e ∈ l, e.ok σ := by
      by_cases hn0 : n = 0
      · subst hn0
        have : cs = [] := by rw [h4]; simp
        subst this
        cases e3
        exact ⟨[], rfl, fun j b hb => by simp at hb, rfl, by simp⟩
      · obtain ⟨had, _⟩ := hor.resolve_left (by omega)
        obtain ⟨vs, k1, k2, k3, _⟩ := hr.stretch (off := off) (n := n) (by omega)
        rw [← h4] at k2
        obtain ⟨bs, b1, b2, b3⟩ := bytes_spec e3 k2
        refine ⟨bs, by rw [← k1, b1]; simp, fun j b hb => ?_, b2, b3⟩
        rw [had, add_none]
        exact k3 j _ (by rw [b1]; simp [hb])
    have hres := idxE_spec (ρ := ρ) c1 hcv e5 hbs hok
    left
    refine ⟨_, w, run (run_indexByte_slice (c.val σ) w hbn hcell), ρ, ?_, gh, Step.refl _ _ _⟩
    have : (if Lib.indexByte bs (c.val σ).toNat.toUInt8 = -1 then (-1 : Int) else Lib.indexByte bs (c.val σ).toNat.toUInt8 + ((0 : Nat) : Int)) = Lib.indexByte bs (c.val σ).toNat.toUInt8 := by
      split <;> omega
    rw [this] at hres
    exact hres
  · cases e
theorem compare_eq : ∀ x y : List UInt8, Lib.compareBytes x y = if (x == y) = true then 0 else if Op.bytesLess x y = true then -1 else 1
  | [], [] => rfl
  | [], _ :: _ => rfl
  | _ :: _, [] => rfl
  | a :: x, b :: y => by
    have IH := compare_eq x y
    unfold Lib.compareBytes Op.bytesLess
    by_cases hab : a = b
    · subst hab
      have hlt : ¬ a < a := UInt8.lt_irrefl a
      simp only [hlt, if_false, decide_false, Bool.false_or, beq_self_eq_true, Bool.true_and]
      rw [IH]
      have : ((a :: x) == (a :: y)) = (x == y) := by simp
      rw [this]
    · have hne : (a == b) = false := by simpa using hab
      have hne2 : ((a :: x) == (b :: y)) = false := by
        rw [beq_eq_false_iff_ne]; intro c; exact hab (List.cons.inj c).1
      rw [hne2, hne]
      simp only [Bool.false_eq_true, if_false, Bool.false_and, Bool.or_false, decide_eq_true_eq]
      by_cases hlt : a < b
      · simp [hlt]
      · have : b < a := UInt8.lt_of_le_of_ne (UInt8.not_lt.1 hlt) (Ne.symm hab)
        simp [hlt, this]
theorem natCmp_ok {f : Nat} {fn : Func} (hf : P.funcs[f]? = some fn) (hb : fn.body = none) (hn : fn.name ≠ "runtime.NumGoroutine") (h1 : Extern.findNext fn = none) (h2 : Extern.find fn = some Extern.BytealgCompare.compare) :
    ∀ args h x h', natCmp args h = .ok x h' → CallOk P σ f args h x h' := by
  intro args h x h' e ρ w argv hv gh
  unfold natCmp at e
  split at e
  · rename_i a c
    obtain ⟨r, e1, e2⟩ := rO_eq e
    simp only [RVs] at hv
    obtain ⟨A, l1, hA, a1, B, l2, rfl, b1, rfl⟩ := hv
    simp only [RV] at a1 b1
    obtain ⟨s, rfl, hs⟩ := a1
    obtain ⟨u, rfl, hu⟩ := b1
    have hargv : argv = #[.string s, .string u] := Array.toList_inj.1 hA
    subst hargv
    have heq := RB_eq e1 hs hu
    rw [ByteArray.toList_eq, ByteArray.toList_eq] at heq
    left
    have fin : RV σ ρ x (.int .i64 (Lib.compareBytes s.data.toList u.data.toList)) ∧ h' = h := by
      rw [compare_eq, heq]
      rw [ifB_eq] at e2
      split at e2
      · rename_i hr
        cases e2
        rw [if_pos hr]
        exact ⟨RV_intV (n := 0) (by omega), rfl⟩
      · rename_i hr
        rw [if_neg hr]
        obtain ⟨q, e3, e4⟩ := rO_eq e2
        cases e4
        have hlt := RB_lt e3 hs hu
        rw [ByteArray.toList_eq, ByteArray.toList_eq] at hlt
        rw [hlt]
        refine ⟨?_, rfl⟩
        cases q with
        | true => rw [ifB_true, if_pos rfl]; simp only [RV]; exact ⟨rfl, trivial, neg1_in⟩
        | false => rw [ifB_false, if_neg (by simp)]; exact RV_intV (n := 1) (by omega)
    obtain ⟨f1, rfl⟩ := fin
    exact ⟨_, w, run_extern hf hb hn h1 h2 (fun w => Lib.run_compareString s u w) w, ρ, f1, gh, Step.refl _ _ _⟩
  · cases e

/-- memory below stands -/
theorem RH.below (g : RH σ ρ h w) (hb : ∀ b, b < w.heap.size → w'.heap[b]? = w.heap[b]?) : RH σ ρ h w' := by
  refine ⟨fun i r hi => ?_, fun i es hi => ?_, g.sep, g.grp, g.gnext, g.next, g.dom, g.pos⟩
  · obtain ⟨L, h1, h2⟩ := g.row i r hi
    obtain ⟨c, el, fr, h3⟩ := h2.blk
    exact ⟨L, h1, h2.fits, h2.one, c, el, fr, by rw [hb _ (Live.lt g ⟨i, _, L, hi, h1, rfl⟩)]; exact h3⟩
  · obtain ⟨L, h1, h2⟩ := g.map i es hi
    exact ⟨L, h1, by rw [hb _ (Live.lt g ⟨i, _, L, hi, h1, rfl⟩)]; exact h2⟩
/-- a call with no memory told, from any world -/
theorem CallOk.alone {f : Nat} {args : List V} {n : Nat} {x : V} {h1 : H} (hn : 0 < n) (hc : CallOk P σ f args (.mk .nil n .nil) x h1) {argv : Array Value} (hv : RVs σ (fun _ => none) args argv.toList) (w : World) :
    ∃ Rr : Value → World → Prop, (∀ v w', Rr v w' → (∃ ρ', RV σ ρ' x v) ∧ (∀ b, b < w.heap.size → w'.heap[b]? = w.heap[b]?) ∧ w.heap.size ≤ w'.heap.size ∧ w'.tape = w.tape ∧ w'.os = w.os ∧ w'.output = w.output) ∧
      ((∃ v w', (callFunc f argv).run P w = .ok (.value v) w' ∧ Rr v w') ∨ ((callFunc f argv).run P w = .ok (.enter f argv) w ∧ Calls P f argv w (fun | .returned v, w' => Rr v w' | _, _ => False))) := by
  have gh : RH σ (fun _ => none) (.mk .nil n .nil) w := by
    have hob : ∀ i, (H.mk .nil n .nil).ob i = none := fun i => rfl
    refine ⟨fun i r hi => ?_, fun i es hi => ?_, fun i j x y L M _ hi => ?_, fun i r hi => ?_, fun i r hi => ?_, fun i _ => rfl, fun i _ => rfl, hn⟩ <;> (rw [hob] at hi; cases hi)
  refine ⟨fun v w' => After σ (fun _ => none) (.mk .nil n .nil) w x h1 v w', fun v w' ha => ?_, ?_⟩
  · obtain ⟨ρ', r1, r2, r3⟩ := ha
    refine ⟨⟨ρ', r1⟩, fun b hb => r3.fr b hb ?_, r3.size, r3.tape, r3.os, r3.out⟩
    rintro ⟨i, o, L, k1, _⟩
    cases k1
  · rcases hc (fun _ => none) w argv hv gh with ⟨v, w', c1, c2⟩ | ⟨c1, c2⟩
    · exact .inl ⟨v, w', c1, c2⟩
    · exact .inr ⟨c1, c2.mono fun e w' he => by cases e <;> exact he⟩
/-- a call that needs no memory says the same in any -/
theorem CallOk.closed {f : Nat} {n : Nat} {b : Bool} {h1 : H} (hn : 0 < n) (hc : CallOk P σ f [] (.mk .nil n .nil) (.b b) h1) (h : H) : CallOk P σ f [] h (.b b) h := by
  intro ρ w argv hv gh
  obtain ⟨Rr, r1, r2⟩ := hc.alone hn (argv := argv) (by simp only [RVs] at hv ⊢; exact hv) w
  have key : ∀ v w', Rr v w' → After σ ρ h w (.b b) h v w' := by
    intro v w' hr
    obtain ⟨⟨ρ', g1⟩, g2, g3, g4, g5, g6⟩ := r1 v w' hr
    refine ⟨ρ, by simp only [RV] at g1 ⊢; exact g1, gh.below g2, ⟨fun _ _ => rfl, Nat.le_refl _, fun b hb _ => g2 b hb, fun b hb => .inr hb, g3, fun _ _ e => e, g4, g5, g6⟩⟩
  rcases r2 with ⟨v, w', c1, c2⟩ | ⟨c1, c2⟩
  · exact .inl ⟨v, w', c1, key v w' c2⟩
  · refine .inr ⟨c1, c2.mono fun e w' he => ?_⟩
    cases e with
    | returned v => exact key v w' he
    | panicked c => exact he.elim
    | outgrown => exact he.elim
end Go.Proofs.YtggnhaiohmgflaaGreatDoor.Sx
namespace Go.Proofs.YtggnhaiohmgflaaGreatDoor.Sx
open Go
/-- all that lies in a tree; a, b: its places are a * j + b -/
def TAll {α : Type} (p : Nat → α → Prop) : T α → Nat → Nat → Prop
  | .nil, _, _ => True
  | .node l v r, a, b => (match v with | some x => p b x | none => True) ∧ TAll p l (2 * a) (a + b) ∧ TAll p r (2 * a) (2 * a + b)
theorem TAll.at {α : Type} {p : Nat → α → Prop} : ∀ {t : T α} {a b j : Nat} {x : α}, TAll p t a b → T.get t j = some x → p (a * j + b) x
  | .nil, _, _, _, _, _, h => by rw [T.get_nil] at h; cases h
  | .node l v r, a, b, 0, x, g, h => by
    rw [T.get_zero] at h
    subst h
    simpa using g.1
  | .node l v r, a, b, m + 1, x, g, h => by
    rw [T.get_succ] at h
    split at h
    · rename_i he
      have := TAll.at g.2.1 h
      rw [show a * (m + 1) + b = 2 * a * (m / 2) + (a + b) by
        have : m = 2 * (m / 2) := by omega
        have h2 : a * m = 2 * a * (m / 2) := by rw [Nat.mul_comm 2 a, Nat.mul_assoc, ← this]
        rw [Nat.mul_succ, h2]; omega]
      exact this
    · rename_i he
      have := TAll.at g.2.2 h
      rw [show a * (m + 1) + b = 2 * a * (m / 2) + (2 * a + b) by
        have : m = 2 * (m / 2) + 1 := by omega
        have h2 : a * m = 2 * a * (m / 2) + a := by
          have h3 : a * m = a * (2 * (m / 2) + 1) := by rw [← this]
          rw [h3, Nat.mul_succ, Nat.mul_comm 2 a, Nat.mul_assoc]
        rw [Nat.mul_succ, h2]; omega]
      exact this
theorem TAll.get {α : Type} {p : Nat → α → Prop} {t : T α} {j : Nat} {x : α} (g : TAll p t 1 0) (h : T.get t j = some x) : p j x := by
  have := TAll.at g h
  simpa using this
def TAllB {α : Type} (p : Nat → α → Bool) : T α → Nat → Nat → Bool
  | .nil, _, _ => true
  | .node l v r, a, b => (match v with | some x => p b x | none => true) && (TAllB p l (2 * a) (a + b) && TAllB p r (2 * a) (2 * a + b))
theorem TAllB.all {α : Type} {p : Nat → α → Bool} : ∀ {t : T α} {a b : Nat}, TAllB p t a b = true → TAll (fun k x => p k x = true) t a b
  | .nil, _, _, _ => trivial
  | .node l v r, a, b, h => by
    unfold TAllB at h
    rw [Bool.and_eq_true, Bool.and_eq_true] at h
    refine ⟨?_, TAllB.all h.2.1, TAllB.all h.2.2⟩
    cases v with
    | none => trivial
    | some x => exact h.1
theorem TAllB.get {α : Type} {p : Nat → α → Bool} {t : T α} {j : Nat} {x : α} (g : TAllB p t 1 0 = true) (h : T.get t j = some x) : p j x = true := TAll.get (TAllB.all g) h
/-- a type's data are fine -/
def tokB (i : TypeInfo) (d : TypeDesc) : Bool :=
  Nat.ble i.bytes 65536 && match i.zero with
    | some z => Nat.beq z.cells.size i.size && (match isAggD d with | true => (match z with | .agg _ => true | _ => false) | false => z.oneCell')
    | none => false
theorem TOk.of {P : Program} {k : Nat} {i : TypeInfo} {d : TypeDesc} (h1 : P.info? k = some i) (h2 : P.underlying k = some d) (hb : tokB i d = true) :
    TOk P k { desc := d, size := i.size, zero := match i.zero with | some z => cellsV (ofVal z) | none => none } := by
  unfold tokB at hb
  rw [Bool.and_eq_true] at hb
  obtain ⟨b1, b2⟩ := hb
  cases hz : i.zero with
  | none => rw [hz] at b2; cases b2
  | some z =>
    rw [hz] at b2
    simp only [Bool.and_eq_true] at b2
    refine ⟨i, z, h1, h2, rfl, ble_true b1, hz, beq_true b2.1, fun ha => ?_, fun ha => ?_, fun cs hcs => hcs⟩
    · have ha : isAggD d = true := ha
      have b3 := b2.2
      rw [ha] at b3
      simp only at b3
      split at b3
      · exact ⟨_, rfl⟩
      · cases b3
    · have ha : isAggD d = false := ha
      have b3 := b2.2
      rw [ha] at b3
      exact b3
section
variable (ty : Nat → Option TI)
/-- the types that a type names are told -/
def closedB (ti : TI) : Bool :=
  match ti.desc with
  | .slice e => (ty e).isSome
  | .array n e => (ty e).isSome && Nat.ble n 1000000
  | .struct fs => fs.toList.all fun f => (ty f.type).isSome
  | _ => true
end
theorem closed_of {t : T TI} (h : TAllB (fun _ ti => closedB (T.get t) ti) t 1 0 = true) : Closed (T.get t) ∧ ∀ n e t1 td, T.get t t1 = some td → td.desc = .array n e → n ≤ 1000000 := by
  refine ⟨⟨fun k ti e hk hd => ?_, fun k ti n e hk hd => ?_, fun k ti fs hk hd f hf => ?_⟩, fun n e k ti hk hd => ?_⟩
  · have := TAllB.get h hk
    unfold closedB at this
    rw [hd] at this
    exact this
  · have := TAllB.get h hk
    unfold closedB at this
    rw [hd] at this
    simp only [Bool.and_eq_true] at this
    exact this.1
  · have := TAllB.get h hk
    unfold closedB at this
    rw [hd] at this
    exact List.all_eq_true.1 this f hf
  · have := TAllB.get h hk
    unfold closedB at this
    rw [hd] at this
    simp only [Bool.and_eq_true] at this
    exact ble_true this.2
end Go.Proofs.YtggnhaiohmgflaaGreatDoor.Sx
