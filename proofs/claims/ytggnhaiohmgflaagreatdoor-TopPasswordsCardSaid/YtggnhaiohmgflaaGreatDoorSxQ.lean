/- Operations: numbers that are not known, texts, equality, maps, calls; every operation. No conditions. -/
import Derived.Test.YtggnhaiohmgflaaGreatDoorSxP
import Derived.Laws.StructEq
set_option linter.unusedVariables false
set_option linter.unusedSimpArgs false
namespace Go.Proofs.YtggnhaiohmgflaaGreatDoor.Sx
open Go
variable {σ : Nat → Int} {ρ ρ' : Rho} {h h' : H} {w w' : World} {P : Program}
theorem quoE_spec {d : Nat} {x y : E} (hd : 0 < d) (h : quoE d x = some y) (hx : x.ok σ) : y.val σ = x.val σ / (d : Int) ∧ y.ok σ := by
  have hdi : (0 : Int) < d := by omega
  unfold quoE at h
  split at h
  · rename_i he
    cases h
    exact ⟨(ediv_bounds hdi (E.le_val hx) (E.val_le hx) he).symm, trivial⟩
  · exact divE_spec hdi h hx
theorem maskE_spec {n : Nat} {x y : E} (h : maskE n x = some y) (hx : x.ok σ) : (∃ j, n + 1 = 2 ^ j) ∧ y.val σ = x.val σ % ((n + 1 : Nat) : Int) ∧ y.ok σ := by
  unfold maskE at h
  split at h
  · rename_i he
    exact ⟨⟨_, he.symm⟩, modE_spec (Nat.succ_pos n) h hx⟩
  · cases h
theorem orE_spec {x y z : E} (h : orE x y = some z) (hx : x.ok σ) (hy : y.ok σ) : 0 ≤ x.val σ ∧ 0 ≤ y.val σ ∧ z.val σ = x.val σ + y.val σ ∧ z.ok σ ∧ ∃ s q : Nat, x.val σ = ((2 ^ s * q : Nat) : Int) ∧ y.val σ < ((2 ^ s : Nat) : Int) := by
  unfold orE at h
  simp only at h
  split at h
  · rename_i hc
    cases h
    obtain ⟨h1, h2, h3, h4⟩ := hc
    have hx0 : 0 ≤ x.val σ := Int.le_trans h2 (E.le_val hx)
    have hy0 : 0 ≤ y.val σ := Int.le_trans h1 (E.le_val hy)
    refine ⟨hx0, hy0, addE_val x y, addE_ok hx hy, Nat.log2 y.max.toNat + 1, (x.val σ / (2 : Int) ^ (Nat.log2 y.max.toNat + 1)).toNat, ?_, ?_⟩
    · generalize Nat.log2 y.max.toNat + 1 = s at *
      have hr := rest_split (σ := σ) ((2 : Int) ^ s) x
      have hz : (restE ((2 : Int) ^ s) x).val σ = 0 := by
        simp only [restE, h3, h4, mkE, E.val]
      rw [hz, Int.add_zero] at hr
      have hp := pow_pos' s
      have hd : x.val σ / (2 : Int) ^ s = x.cst / (2 : Int) ^ s + sumT σ (divT ((2 : Int) ^ s) x.tms) := by
        rw [hr, Int.mul_ediv_cancel_left _ (Int.ne_of_gt hp)]
      have hq : 0 ≤ x.val σ / (2 : Int) ^ s := Int.ediv_nonneg hx0 (Int.le_of_lt hp)
      rw [Int.natCast_mul, Int.toNat_of_nonneg hq, hd]
      rw [hr]
      simp
    · have h5 := E.val_le hy
      have h6 : y.max.toNat < 2 ^ (Nat.log2 y.max.toNat + 1) := Nat.lt_log2_self
      omega
  · cases h
theorem fit_wrap {k : IntKind} {x : Option E} {v : V} {n : Int} (e : fitE k x = .ok v) (hx : ∀ y, x = some y → y.val σ = n ∧ y.ok σ) : RV σ ρ v (.int k (k.wrap n)) := by
  obtain ⟨h1, h2⟩ := fitE_spec (ρ := ρ) e hx
  rw [wrap_id h2]; exact h1
theorem symLit_ok {f : Nat → E → Option E} {k : IntKind} {x y : E} {v : V} (e : symLit f k x y = .ok v) : ∃ n, y = .lit ((n + 1 : Nat) : Int) ∧ 0 ≤ x.min ∧ fitE k (f (n + 1) x) = .ok v := by
  unfold symLit at e
  split at e
  · rename_i n
    split at e
    · rename_i hm
      exact ⟨n, rfl, of_decide_eq_true hm, e⟩
    · cases e
  · cases e
theorem symShift_ok {f : Nat → E → Option E} {k : IntKind} {x y : E} {v : V} (e : symShift f k x y = .ok v) : ∃ n : Nat, y = .lit (n : Int) ∧ n ≤ k.bits ∧ fitE k (f n x) = .ok v := by
  unfold symShift at e
  split at e
  · rename_i n
    split at e
    · rename_i hm
      exact ⟨n, rfl, ble_true hm, e⟩
    · cases e
  · cases e
theorem decB_spec {neg : Bool} {b : Option Bool} {v : V} {r : Bool} (e : decB neg b = .ok v) (hb : ∀ c, b = some c → (c != neg) = r) : RV σ ρ v (.bool r) := by
  unfold decB at e
  split at e
  · rename_i c
    cases e
    have := hb c rfl
    simp only [RV]; rw [this]
  · cases e
    simp [RV, Value.oneCell']
theorem nat_of_nonneg {n : Int} (h : 0 ≤ n) : ∃ m : Nat, n = (m : Int) := ⟨n.toNat, by omega⟩
theorem symI_spec {op : BinOp} {k k' : IntKind} {x y : E} {v : V} (t : TypeId) (hv : symI op k x y = .ok v) (hx : x.ok σ) (hy : y.ok σ) (ha : inK k (x.val σ)) (hb : inK k' (y.val σ)) (hk : shiftO op = true ∨ k = k') :
    ∃ r, (∀ w, (binOp op t (.int k (x.val σ)) (.int k' (y.val σ))).run P w = .ok r w) ∧ RV σ ρ v r := by
  cases op with
  | add =>
    obtain rfl := hk.resolve_left (by decide)
    exact ⟨.int k (k.wrap (x.val σ + y.val σ)), fun w => by simp [binOp, Op.intArith], fit_wrap (show fitE k (some (addE x y)) = .ok v from hv) (fun z hz => by cases hz; exact ⟨addE_val x y, addE_ok hx hy⟩)⟩
  | sub =>
    obtain rfl := hk.resolve_left (by decide)
    exact ⟨.int k (k.wrap (x.val σ - y.val σ)), fun w => by simp [binOp, Op.intArith], fit_wrap (show fitE k (some (subE x y)) = .ok v from hv) (fun z hz => by cases hz; exact ⟨subE_val x y, subE_ok hx hy⟩)⟩
  | mul =>
    obtain rfl := hk.resolve_left (by decide)
    refine ⟨.int k (k.wrap (x.val σ * y.val σ)), fun w => by simp [binOp, Op.intArith], ?_⟩
    have hv' : symMul k x y = .ok v := hv
    unfold symMul at hv'
    split at hv'
    · rename_i q y
      exact fit_wrap hv' (fun z hz => by cases hz; exact ⟨by rw [scaleE_val]; rfl, scaleE_ok hy⟩)
    · rename_i x q _
      exact fit_wrap hv' (fun z hz => by cases hz; exact ⟨by rw [scaleE_val, Int.mul_comm]; rfl, scaleE_ok hx⟩)
    · cases hv'
  | quo =>
    obtain rfl := hk.resolve_left (by decide)
    obtain ⟨n, rfl, h1, h2⟩ := symLit_ok (f := quoE) hv
    have hx0 : 0 ≤ x.val σ := Int.le_trans h1 (E.le_val hx)
    have hz : ¬ ((E.lit ((n + 1 : Nat) : Int)).val σ = 0) := by show ¬ (((n + 1 : Nat) : Int) = 0); omega
    refine ⟨.int k (k.wrap ((x.val σ).tdiv ((E.lit ((n + 1 : Nat) : Int)).val σ))), fun w => by
      simp only [binOp, Op.intDiv, if_neg hz]
      rw [if_neg (by simp)]; rfl, ?_⟩
    rw [Int.tdiv_eq_ediv_of_nonneg hx0]
    exact fit_wrap h2 (fun z hz => quoE_spec (Nat.succ_pos n) hz hx)
  | rem =>
    obtain rfl := hk.resolve_left (by decide)
    obtain ⟨n, rfl, h1, h2⟩ := symLit_ok (f := modE) hv
    have hx0 : 0 ≤ x.val σ := Int.le_trans h1 (E.le_val hx)
    have hz : ¬ ((E.lit ((n + 1 : Nat) : Int)).val σ = 0) := by show ¬ (((n + 1 : Nat) : Int) = 0); omega
    refine ⟨.int k ((x.val σ).tmod ((E.lit ((n + 1 : Nat) : Int)).val σ)), fun w => by
      simp only [binOp, Op.intDiv, if_neg hz]
      rw [if_neg (by simp)]; rfl, ?_⟩
    rw [Int.tmod_eq_emod_of_nonneg hx0]
    exact (fitE_spec h2 (fun z hz => modE_spec (Nat.succ_pos n) hz hx)).1
  | and =>
    obtain rfl := hk.resolve_left (by decide)
    obtain ⟨n, rfl, h1, h2⟩ := symLit_ok (f := maskE) hv
    have hx0 : 0 ≤ x.val σ := Int.le_trans h1 (E.le_val hx)
    obtain ⟨m, hm⟩ := nat_of_nonneg hx0
    obtain ⟨z, f1, _, _⟩ := fitE_ok h2
    have hb' : inK k ((n + 1 : Nat) : Int) := hb
    rw [hm] at ha
    refine ⟨.int k (k.wrap ((BitVec.ofInt k.bits (x.val σ) &&& BitVec.ofInt k.bits ((E.lit ((n + 1 : Nat) : Int)).val σ)).toNat : Int)), fun w => by simp [binOp, Op.intBits], ?_⟩
    refine fit_wrap h2 (fun z hz => ?_)
    obtain ⟨⟨j, hj⟩, m1, m2⟩ := maskE_spec hz hx
    refine ⟨?_, m2⟩
    rw [m1, hm, BitVec.toNat_and, ofInt_nat ha, show (E.lit ((n + 1 : Nat) : Int)).val σ = ((n + 1 : Nat) : Int) from rfl, ofInt_nat hb']
    have hn : n + 1 = 2 ^ j - 1 := by omega
    rw [hj, hn, Nat.and_two_pow_sub_one_eq_mod]
    simp
  | or =>
    obtain rfl := hk.resolve_left (by decide)
    refine ⟨.int k (k.wrap ((BitVec.ofInt k.bits (x.val σ) ||| BitVec.ofInt k.bits (y.val σ)).toNat : Int)), fun w => by simp [binOp, Op.intBits], ?_⟩
    refine fit_wrap hv (fun z hz => ?_)
    obtain ⟨o1, o2, o3, o4, s, q, o5, o6⟩ := orE_spec hz hx hy
    obtain ⟨m, hm⟩ := nat_of_nonneg o2
    refine ⟨?_, o4⟩
    rw [o3]
    rw [o5] at ha
    rw [hm] at hb o6
    rw [o5, hm, BitVec.toNat_or, ofInt_nat ha, ofInt_nat hb]
    have hml : m < 2 ^ s := by exact_mod_cast o6
    rw [← Nat.two_pow_add_eq_or_of_lt hml]
    simp
  | xor => cases hv
  | andNot => cases hv
  | shl =>
    obtain ⟨n, rfl, h1, h2⟩ := symShift_ok (f := fun n x => some (scaleE ((2 : Int) ^ n) x)) hv
    refine ⟨.int k (k.wrap (x.val σ * 2 ^ (min ((E.lit (n : Int)).val σ).toNat k.bits))), fun w => ?_, ?_⟩
    · have hz : ¬ ((E.lit (n : Int)).val σ < 0) := by show ¬ ((n : Int) < 0); omega
      show (Op.shift .shl k (x.val σ) k' ((E.lit (n : Int)).val σ)).run P w = _
      unfold Op.shift
      rw [if_neg hz]; rfl
    · have hn : min ((E.lit (n : Int)).val σ).toNat k.bits = n := Nat.min_eq_left h1
      rw [hn]
      exact fit_wrap h2 (fun z hz => by cases hz; exact ⟨by rw [scaleE_val, Int.mul_comm], scaleE_ok hx⟩)
  | shr =>
    obtain ⟨n, rfl, h1, h2⟩ := symShift_ok (f := shrE) hv
    refine ⟨.int k ((x.val σ).fdiv (2 ^ (min ((E.lit (n : Int)).val σ).toNat k.bits))), fun w => ?_, ?_⟩
    · have hz : ¬ ((E.lit (n : Int)).val σ < 0) := by show ¬ ((n : Int) < 0); omega
      show (Op.shift .shr k (x.val σ) k' ((E.lit (n : Int)).val σ)).run P w = _
      unfold Op.shift
      rw [if_neg hz]; rfl
    · have hn : min ((E.lit (n : Int)).val σ).toNat k.bits = n := Nat.min_eq_left h1
      rw [hn, Int.fdiv_eq_ediv_of_nonneg _ (Int.le_of_lt (pow_pos' n))]
      exact (fitE_spec h2 (fun z hz => shrE_spec hz hx)).1
  | eql =>
    obtain rfl := hk.resolve_left (by decide)
    refine ⟨.bool (x.val σ == y.val σ), fun w => by simp [binOp, Op.intCmp], decB_spec hv (fun c hc => ?_)⟩
    have e := eqE_spec hc hx hy
    subst e
    simp
  | neq =>
    obtain rfl := hk.resolve_left (by decide)
    refine ⟨.bool (x.val σ != y.val σ), fun w => by simp [binOp, Op.intCmp], decB_spec hv (fun c hc => ?_)⟩
    have e := eqE_spec hc hx hy
    subst e
    simp [bne]
  | lss =>
    obtain rfl := hk.resolve_left (by decide)
    refine ⟨.bool (decide (x.val σ < y.val σ)), fun w => by simp [binOp, Op.intCmp], decB_spec hv (fun c hc => ?_)⟩
    have e := ltE_spec hc hx hy
    subst e
    simp
  | geq =>
    obtain rfl := hk.resolve_left (by decide)
    refine ⟨.bool (decide (x.val σ ≥ y.val σ)), fun w => by simp [binOp, Op.intCmp], decB_spec hv (fun c hc => ?_)⟩
    have e := ltE_spec hc hx hy
    subst e
    rw [Bool.eq_iff_iff]; simp
  | gtr =>
    obtain rfl := hk.resolve_left (by decide)
    refine ⟨.bool (decide (x.val σ > y.val σ)), fun w => by simp [binOp, Op.intCmp], decB_spec hv (fun c hc => ?_)⟩
    have e := ltE_spec hc hy hx
    subst e
    simp
  | leq =>
    obtain rfl := hk.resolve_left (by decide)
    refine ⟨.bool (decide (x.val σ ≤ y.val σ)), fun w => by simp [binOp, Op.intCmp], decB_spec hv (fun c hc => ?_)⟩
    have e := ltE_spec hc hy hx
    subst e
    rw [Bool.eq_iff_iff]; simp
end Go.Proofs.YtggnhaiohmgflaaGreatDoor.Sx
namespace Go.Proofs.YtggnhaiohmgflaaGreatDoor.Sx
open Go
variable {σ : Nat → Int} {ρ ρ' : Rho} {h h' : H} {w w' : World} {P : Program}
theorem eqN_spec {x y : E} {b : Bool} (e : eqN x y = .ok b) (hx : x.ok σ) (hy : y.ok σ) : (x.val σ == y.val σ) = b := by
  have sym : eqNS x y = .ok b → (x.val σ == y.val σ) = b := fun e => by
    unfold eqNS at e
    split at e
    · rename_i c hc; cases e; exact eqE_spec hc hx hy
    · cases e
  cases x with
  | lit n => cases y with
    | lit m => cases e; rfl
    | lin c ts => exact sym e
  | lin c ts => exact sym e
theorem eqS_nil (y : List E) : eqS [] y = .ok (isNil y) := rfl
theorem eqS_cons (a : E) (x : List E) (b : E) (y : List E) : eqS (a :: x) (b :: y) = (eqN a b).bd fun r => Bool.rec (.ok false) (eqS x y) r := rfl
theorem eqS_cons_nil (a : E) (x : List E) : eqS (a :: x) [] = .ok false := rfl
theorem nat_int_inj {bs cs : List UInt8} (e : bs.map (fun c => (c.toNat : Int)) = cs.map (fun c => (c.toNat : Int))) : bs = cs := by
  refine (List.map_inj_right (fun a b h => ?_)).1 e
  have : a.toNat = b.toNat := by omega
  exact UInt8.toNat_inj.1 this
theorem eqS_spec : ∀ {x y : List E} {b : Bool}, eqS x y = .ok b → (∀ e ∈ x, e.ok σ) → (∀ e ∈ y, e.ok σ) → (x.map (E.val σ) == y.map (E.val σ)) = b
  | [], y, b, e, _, _ => by
    rw [eqS_nil] at e
    cases e
    cases y <;> rfl
  | a :: x, [], b, e, _, _ => by
    rw [eqS_cons_nil] at e
    cases e; rfl
  | a :: x, c :: y, b, e, hx, hy => by
    rw [eqS_cons] at e
    obtain ⟨r, e1, e2⟩ := R.bd_eq e
    have h1 := eqN_spec e1 (hx a List.mem_cons_self) (hy c List.mem_cons_self)
    cases r with
    | false =>
      cases e2
      show ((a.val σ :: x.map (E.val σ)) == (c.val σ :: y.map (E.val σ))) = false
      rw [List.cons_beq_cons, h1]; rfl
    | true =>
      have ih := eqS_spec (show eqS x y = .ok b from e2) (fun e he => hx e (List.mem_cons_of_mem _ he)) (fun e he => hy e (List.mem_cons_of_mem _ he))
      show ((a.val σ :: x.map (E.val σ)) == (c.val σ :: y.map (E.val σ))) = b
      rw [List.cons_beq_cons, h1, ih]; rfl
theorem RB_eq {x y : List E} {s u : ByteArray} {b : Bool} (e : eqS x y = .ok b) (hx : RB σ x s) (hy : RB σ y u) : (s.toList == u.toList) = b := by
  have h := eqS_spec e hx.2 hy.2
  rw [← hx.1, ← hy.1] at h
  rw [ByteArray.toList_eq, ByteArray.toList_eq, ← h, Bool.eq_iff_iff, beq_iff_eq, beq_iff_eq]
  exact ⟨fun c => by rw [c], nat_int_inj⟩
theorem litOf_ok {e : E} {n : Int} (h : litOf e = .ok n) : e = .lit n := by
  unfold litOf at h
  split at h
  · cases h; rfl
  · cases h
theorem ltS_spec : ∀ {x y : List E} {bs cs : List UInt8} {b : Bool}, ltS x y = .ok b → bs.map (fun c => (c.toNat : Int)) = x.map (E.val σ) → cs.map (fun c => (c.toNat : Int)) = y.map (E.val σ) → Op.bytesLess bs cs = b
  | [], y, bs, cs, b, e, hx, hy => by
    have hb : bs = [] := by simpa using hx
    subst hb
    cases y with
    | nil =>
      have hc : cs = [] := by simpa using hy
      subst hc
      cases e
      rfl
    | cons c y =>
      cases cs with
      | nil => simp at hy
      | cons c' cs => cases e; rfl
  | a :: x, [], bs, cs, b, e, hx, hy => by
    have hc : cs = [] := by simpa using hy
    subst hc
    cases e
    cases bs <;> rfl
  | a :: x, c :: y, bs, cs, b, e, hx, hy => by
    cases bs with
    | nil => simp at hx
    | cons p bs =>
      cases cs with
      | nil => simp at hy
      | cons q cs =>
        obtain ⟨n, e1, e2⟩ := R.bd_eq (show (litOf a).bd (fun a => (litOf c).bd fun b => ifB (decide (a < b)) (.ok true) (ifB (a == b) (ltS x y) (.ok false))) = .ok b from e)
        obtain ⟨m, e3, e4⟩ := R.bd_eq e2
        obtain rfl := litOf_ok e1
        obtain rfl := litOf_ok e3
        simp only [List.map_cons, List.cons.injEq] at hx hy
        have hn : (p.toNat : Int) = n := hx.1
        have hm : (q.toNat : Int) = m := hy.1
        unfold Op.bytesLess
        rw [ifB_eq] at e4
        by_cases c1 : n < m
        · rw [if_pos (by simpa using c1)] at e4
          cases e4
          have : p < q := by rw [UInt8.lt_iff_toNat_lt]; omega
          simp [this]
        · rw [if_neg (by simpa using c1), ifB_eq] at e4
          have h1 : ¬ p < q := by rw [UInt8.lt_iff_toNat_lt]; omega
          by_cases c2 : n = m
          · rw [if_pos (by simpa using c2)] at e4
            have h2 : p = q := UInt8.toNat_inj.1 (by omega)
            have ih := ltS_spec e4 hx.2 hy.2
            subst h2
            simp [h1, ih]
          · rw [if_neg (by simpa using c2)] at e4
            cases e4
            have h2 : ¬ p = q := fun c => by subst c; omega
            simp [h1, h2]
theorem RB_lt {x y : List E} {s u : ByteArray} {b : Bool} (e : ltS x y = .ok b) (hx : RB σ x s) (hy : RB σ y u) : Op.bytesLess s.toList u.toList = b := by
  rw [ByteArray.toList_eq, ByteArray.toList_eq]
  exact ltS_spec e hx.1 hy.1
theorem RB_append {x y : List E} {s u : ByteArray} (hx : RB σ x s) (hy : RB σ y u) : RB σ (x ++ y) (s ++ u) := by
  refine ⟨?_, fun e he => ?_⟩
  · rw [List.map_append, ← hx.1, ← hy.1, ← List.map_append, ByteArray.data_append, Array.toList_append]
  · rcases List.mem_append.1 he with h | h
    · exact hx.2 e h
    · exact hy.2 e h
theorem binS_spec {op : BinOp} {x y : List E} {s u : ByteArray} {v : V} (t : TypeId) (hv : binS op x y = .ok v) (hx : RB σ x s) (hy : RB σ y u) :
    ∃ r, (∀ w, (binOp op t (.string s) (.string u)).run P w = .ok r w) ∧ RV σ ρ v r := by
  unfold binS at hv
  split at hv
  · rw [ifB_eq] at hv
    split at hv
    · rename_i hb
      have hb := ble_true hb
      cases hv
      have h1 := RB.length hx
      have h2 := RB.length hy
      have hb' : x.length + y.length ≤ 1000000 := hb
      refine ⟨.string (s ++ u), fun w => ?_, ?_⟩
      · rw [binOp_string_add]
        exact run_string_add_sum _ _ _ (by omega)
      · simp only [RV]; exact ⟨_, rfl, RB_append hx hy⟩
    · cases hv
  · obtain ⟨b, h1, h2⟩ := R.bd_eq hv
    cases h2
    exact ⟨.bool (s.toList == u.toList), fun w => by rw [binOp_string_eql]; rfl, by simp only [RV]; rw [RB_eq h1 hx hy]⟩
  · obtain ⟨b, h1, h2⟩ := R.bd_eq hv
    cases h2
    exact ⟨.bool (!(s.toList == u.toList)), fun w => by rw [binOp_string_neq]; rfl, by simp only [RV]; rw [RB_eq h1 hx hy]⟩
  · obtain ⟨b, h1, h2⟩ := R.bd_eq hv
    cases h2
    exact ⟨.bool (Op.bytesLess s.toList u.toList), fun w => by rw [binOp_string_lss]; rfl, by simp only [RV]; rw [RB_lt h1 hx hy]⟩
  · obtain ⟨b, h1, h2⟩ := R.bd_eq hv
    cases h2
    exact ⟨.bool (!(Op.bytesLess s.toList u.toList)), fun w => by rw [binOp_string_geq]; rfl, by simp only [RV]; rw [RB_lt h1 hx hy]⟩
  · cases hv
end Go.Proofs.YtggnhaiohmgflaaGreatDoor.Sx
namespace Go.Proofs.YtggnhaiohmgflaaGreatDoor.Sx
open Go
variable {σ : Nat → Int} {ρ ρ' : Rho} {h h' : H} {w w' : World} {P : Program}
theorem bin2_spec {op : BinOp} {x y v : V} {a b : Value} (t : TypeId) (hv : bin2 op y x = .ok v) (hx : RV σ ρ x a) (hy : RV σ ρ y b) :
    ((∃ k k' m n, a = .int k m ∧ b = .int k' n) ∨ (∃ s u, a = .string s ∧ b = .string u)) ∧ ∃ r, (∀ w, (binOp op t a b).run P w = .ok r w) ∧ RV σ ρ v r := by
  cases x with
  | i k x =>
    obtain ⟨k', y, rfl, h1⟩ := onInt_eq (show onInt (.err "bin int") (fun k' y => ifB (shiftO op || Nat.beq (kindN k) (kindN k')) (onLit (symI op k x y) (fun a => onLit (symI op k x y) (binI op k a) y) x) (.err "bin kinds")) y = .ok v from hv) (by intro c; cases c)
    rw [ifB_eq] at h1
    split at h1
    · rename_i hk
      have hk : shiftO op = true ∨ k = k' := by
        simp only [Bool.or_eq_true] at hk
        exact hk.imp id kindN_inj
      simp only [RV] at hx hy
      obtain ⟨rfl, x1, x2⟩ := hx
      obtain ⟨rfl, y1, y2⟩ := hy
      refine ⟨.inl ⟨_, _, _, _, rfl, rfl⟩, ?_⟩
      cases x with
      | lit m => cases y with
        | lit n => exact binI_spec t (show binI op k m n = .ok v from h1) x2 y2 hk
        | lin c ts => exact symI_spec t (show symI op k (.lit m) (.lin c ts) = .ok v from h1) x1 y1 x2 y2 hk
      | lin c ts => exact symI_spec t (show symI op k (.lin c ts) y = .ok v from h1) x1 y1 x2 y2 hk
    · cases h1
  | s x =>
    obtain ⟨y, rfl, h1⟩ := onStr_eq (show onStr (.err "bin string") (binS op x) y = .ok v from hv) (by intro c; cases c)
    simp only [RV] at hx hy
    obtain ⟨s, rfl, x1⟩ := hx
    obtain ⟨u, rfl, y1⟩ := hy
    exact ⟨.inr ⟨_, _, rfl, rfl⟩, binS_spec t h1 x1 y1⟩
  | _ => cases hv
section ops
variable {ty : Nat → Option TI} {nt : Nat} {t : Env} {a : Act} {x : V} {call : Nat → CallF}
theorem does_bin {o : Oper} {op : BinOp} {t1 : Nat} {y z : Operand} {lz : Operand → Bool} (ho : ∃ q, o.op = .binOp op t1 y z q) (g : RT σ ρ nt t a) (gh : RH σ ρ h w)
    (e : opV call (.bin op (opdOf y) (opdOf z)) t h = .ok x h') : Does P σ ρ h w (execOp a.eval o) x h' := by
  obtain ⟨q, ho⟩ := ho
  obtain ⟨v, e1, e2⟩ := rO_eq (show rO (bin2 op (ev (opdOf z) t) (ev (opdOf y) t)) (okV h) = .ok x h' from e)
  cases e2
  obtain ⟨hc, r, h1, h2⟩ := bin2_spec (P := P) t1 e1 (ev_spec g y) (ev_spec g z)
  refine Does.still gh (v := r) ?_ h2
  have hg : (eqGuard op t1 y z (a.eval y) (a.eval z)).run P w = .ok () w := by
    rcases hc with ⟨k, k', m, n, c1, c2⟩ | ⟨s, u, c1, c2⟩
    · rw [c1, c2]; exact eqGuard_int ..
    · rw [c1, c2]; cases op <;> simp [eqGuard]
  simp [execOp, ho, hg, h1]
theorem eqOf_pair {f : Nat} {x y : V} {r : Bool} {A B : Value} {td : TypeDesc} (t1 : TypeId) (ht : P.underlying t1 = some td) (hf : f < 6) (hfd : match f with | 0 => td = .bool | 1 => ∃ e, td = .pointer e | 2 => ∃ e, td = .slice e | 3 => ∃ k e, td = .map k e | 4 => ∃ p q r, td = .func p q r | _ => ∃ ms, td = .interface ms)
    (e : eqOf f x y = .ok r) (hx : RV σ ρ x A) (hy : RV σ ρ y B) (w : World) : (Op.equal t1 A B).run P w = .ok r w := by
  have rp : ∀ {q : Option (Nat × Nat)} {v : Value}, RV σ ρ (.p q) v → ∃ b, v = .pointer b ∧ b.isNone = isNone q := fun {q v} h => by
    cases q with
    | none => simp only [RV] at h; exact ⟨none, h, rfl⟩
    | some q => simp only [RV] at h; obtain ⟨L, _, h⟩ := h; exact ⟨_, h, rfl⟩
  have rs : ∀ {q : Option (Nat × Nat)} {n es : Nat} {c : Option Nat} {v : Value}, RV σ ρ (.sl q n es c) v → ∃ b l m, v = .slice b l m ∧ b.isNone = isNone q := fun {q n es c v} h => by
    cases q with
    | none => simp only [RV] at h; exact ⟨none, 0, 0, h.1, rfl⟩
    | some q => simp only [RV] at h; obtain ⟨L, A, c, _, h, _⟩ := h; exact ⟨_, _, _, h, rfl⟩
  have rm : ∀ {q : Option Nat} {v : Value}, RV σ ρ (.m q) v → ∃ b, v = .map b ∧ b.isNone = isNone q := fun {q v} h => by
    cases q with
    | none => simp only [RV] at h; exact ⟨none, h, rfl⟩
    | some q => simp only [RV] at h; obtain ⟨L, _, h⟩ := h; exact ⟨_, h, rfl⟩
  have rf : ∀ {fn : Fn} {l1 l2 : List V} {z : Value}, RV σ ρ (.f fn l1 l2) z → ∃ p q, z = .func fn p q := fun {fn _ _ z} h => by
    simp only [RV] at h; obtain ⟨p, q, h, _⟩ := h; exact ⟨p, q, h⟩
  have ri : ∀ {tt : Nat} {y : V} {z : Value}, RV σ ρ (.ifc tt y) z → ∃ p, z = .iface tt p := fun {tt _ z} h => by
    simp only [RV] at h; obtain ⟨p, h, _⟩ := h; exact ⟨p, h⟩
  have eqrun : ∀ {X : Sem Bool} {r : Bool}, X.run P w = .ok r w → X.run P w = .ok r w := fun h => h
  show (Op.equalIn (9999 + 1) t1 A B).run P w = _
  generalize 9999 = d
  match f, hf, hfd, e with
  | 0, _, hd, e =>
    subst hd
    have e' : eqB x y = .ok r := e
    unfold eqB at e'
    split at e'
    · cases e'
      simp only [RV] at hx hy
      subst hx hy
      simp [Op.equalIn, run_underlying ht]
    · cases e'
  | 1, _, ⟨el, hd⟩, e =>
    subst hd
    have e' : eqP x y = .ok r := e
    unfold eqP at e'
    split at e'
    · cases e'
      obtain ⟨b, rfl, hb⟩ := rp hy
      simp only [RV] at hx
      subst hx
      simp [Op.equalIn, run_underlying ht, hb]
    · cases e'
      obtain ⟨b, rfl, hb⟩ := rp hx
      simp only [RV] at hy
      subst hy
      cases b with
      | none => cases hb
      | some b => simp [Op.equalIn, run_underlying ht]
    · cases e'
  | 2, _, ⟨el, hd⟩, e =>
    subst hd
    have e' : eqSl x y = .ok r := e
    unfold eqSl at e'
    split at e'
    · cases e'
      obtain ⟨b, l, m, rfl, hb⟩ := rs hy
      obtain ⟨b', l', m', rfl, hb'⟩ := rs hx
      cases b' with
      | some b => cases hb'
      | none => simp [Op.equalIn, run_underlying ht, hb]
    · cases e'
      obtain ⟨b, l, m, rfl, hb⟩ := rs hy
      obtain ⟨b', l', m', rfl, hb'⟩ := rs hx
      cases b' with
      | none => cases hb'
      | some b' => cases b with
        | some b => cases hb
        | none => simp [Op.equalIn, run_underlying ht]
    · cases e'
  | 3, _, ⟨kt, el, hd⟩, e =>
    subst hd
    have e' : eqM x y = .ok r := e
    unfold eqM at e'
    split at e'
    · cases e'
      obtain ⟨b, rfl, hb⟩ := rm hy
      simp only [RV] at hx
      subst hx
      simp [Op.equalIn, run_underlying ht, hb]
    · cases e'
      obtain ⟨b, rfl, hb⟩ := rm hx
      simp only [RV] at hy
      subst hy
      cases b with
      | none => cases hb
      | some b => simp [Op.equalIn, run_underlying ht]
    · cases e'
  | 4, _, ⟨p, q, vr, hd⟩, e =>
    subst hd
    have e' : eqF x y = .ok r := e
    unfold eqF at e'
    split at e'
    · cases e'
      simp only [RV] at hx hy
      subst hx hy
      simp [Op.equalIn, run_underlying ht]
    · cases e'
      obtain ⟨p, q, rfl⟩ := rf hy
      simp only [RV] at hx
      subst hx
      simp [Op.equalIn, run_underlying ht]
    · cases e'
      obtain ⟨p, q, rfl⟩ := rf hx
      simp only [RV] at hy
      subst hy
      simp [Op.equalIn, run_underlying ht]
    · cases e'
  | 5, _, ⟨ms, hd⟩, e =>
    subst hd
    have e' : eqI x y = .ok r := e
    unfold eqI at e'
    split at e'
    · cases e'
      simp only [RV] at hx hy
      subst hx hy
      simp [Op.equalIn, run_underlying ht]
    · cases e'
      obtain ⟨p, rfl⟩ := ri hy
      simp only [RV] at hx
      subst hx
      simp [Op.equalIn, run_underlying ht]
    · cases e'
      obtain ⟨p, rfl⟩ := ri hx
      simp only [RV] at hy
      subst hy
      simp [Op.equalIn, run_underlying ht]
    · cases e'
end ops
end Go.Proofs.YtggnhaiohmgflaaGreatDoor.Sx
namespace Go.Proofs.YtggnhaiohmgflaaGreatDoor.Sx
open Go
variable {σ : Nat → Int} {ρ ρ' : Rho} {h h' : H} {w w' : World} {P : Program}
section ops
variable {ty : Nat → Option TI} {nt : Nat} {t : Env} {a : Act} {x : V} {call : Nat → CallF}
theorem eqOf_guard {f : Nat} {x y : V} {r : Bool} {A B : Value} (hf : f < 6) (e : eqOf f x y = .ok r) (hx : RV σ ρ x A) (hy : RV σ ρ y B) :
    (A = .nilIface → f = 5) ∧ (∀ vs, A ≠ .agg vs) ∧ (∀ k n k' n', A = .int k n → B = .int k' n' → False) ∧ (∀ s u, A = .string s → B = .string u → False) ∧ (∀ k n, A ≠ .int k n) ∧ (∀ s, A ≠ .string s) ∧ (∀ k n, A ≠ .float k n) ∧ (∀ k n m, A ≠ .complex k n m) := by
  match f, hf, e with
  | 0, _, e =>
    have e' : eqB x y = .ok r := e
    unfold eqB at e'
    split at e'
    · simp only [RV] at hx; subst hx; simp
    · cases e'
  | 1, _, e =>
    have e' : eqP x y = .ok r := e
    unfold eqP at e'
    split at e'
    · simp only [RV] at hx; subst hx; simp
    · simp only [RV] at hx; obtain ⟨L, _, hx⟩ := hx; subst hx; simp
    · cases e'
  | 2, _, e =>
    have e' : eqSl x y = .ok r := e
    unfold eqSl at e'
    split at e'
    · simp only [RV] at hx; obtain ⟨hx, _⟩ := hx; subst hx; simp
    · simp only [RV] at hx; obtain ⟨L, A, c, _, hx, _⟩ := hx; subst hx; simp
    · cases e'
  | 3, _, e =>
    have e' : eqM x y = .ok r := e
    unfold eqM at e'
    split at e'
    · simp only [RV] at hx; subst hx; simp
    · simp only [RV] at hx; obtain ⟨L, _, hx⟩ := hx; subst hx; simp
    · cases e'
  | 4, _, e =>
    have e' : eqF x y = .ok r := e
    unfold eqF at e'
    split at e'
    · simp only [RV] at hx; subst hx; simp
    · simp only [RV] at hx; subst hx; simp
    · simp only [RV] at hx; obtain ⟨p, q, hx, _⟩ := hx; subst hx; simp
    · cases e'
  | 5, _, e =>
    have e' : eqI x y = .ok r := e
    unfold eqI at e'
    split at e'
    · simp only [RV] at hx; subst hx; simp
    · simp only [RV] at hx; subst hx; simp
    · simp only [RV] at hx; obtain ⟨p, hx, _⟩ := hx; subst hx; simp
    · cases e'
theorem isConst_eq {y : Operand} (e : isConst y = true) : ∃ v, y = .const v := by
  cases y <;> first | exact ⟨_, rfl⟩ | cases e
theorem eqGuard_plain (op : BinOp) (t1 : TypeId) (y z : Operand) {A B : Value} (h1 : ∀ vs, A ≠ .agg vs) (h2 : A = .nilIface → (isConst y || isConst z) = true) (w : World) : (eqGuard op t1 y z A B).run P w = .ok () w := by
  unfold eqGuard
  generalize (!(op matches .eql | .neq)) = c
  cases c with
  | true => rfl
  | false =>
    rw [if_neg (by simp)]
    cases A with
    | agg vs => exact absurd rfl (h1 vs)
    | nilIface =>
      cases B with
      | nilIface =>
        have h5 := h2 rfl
        clear h2 h1
        cases y <;> cases z <;> first | rfl | cases h5
      | _ => rfl
    | _ => rfl
theorem does_eqt {o : Oper} {t1 : Nat} {y z : Operand} {f : Nat} {neg : Bool} {td : TypeDesc} (ho : ∃ q, o.op = .binOp (if neg then .neq else .eql) t1 y z q) (g : RT σ ρ nt t a) (gh : RH σ ρ h w)
    (ht : P.underlying t1 = some td) (hf : f < 6) (hfd : match f with | 0 => td = .bool | 1 => ∃ e, td = .pointer e | 2 => ∃ e, td = .slice e | 3 => ∃ k e, td = .map k e | 4 => ∃ p q r, td = .func p q r | _ => ∃ ms, td = .interface ms)
    (hc : f = 5 → (isConst y || isConst z) = true)
    (e : opV call (.eqt f neg (opdOf y) (opdOf z)) t h = .ok x h') : Does P σ ρ h w (execOp a.eval o) x h' := by
  obtain ⟨q, ho⟩ := ho
  obtain ⟨r, e1, e2⟩ := rO_eq (show rO (eqOf f (ev (opdOf y) t) (ev (opdOf z) t)) (fun r => .ok (.b (r != neg)) h) = .ok x h' from e)
  cases e2
  have hx := ev_spec g y
  have hy := ev_spec g z
  have heq := eqOf_pair (P := P) t1 ht hf hfd e1 hx hy w
  obtain ⟨g1, g2, _, _, g5, g6, g7, g8⟩ := eqOf_guard hf e1 hx hy
  have hg := fun op => eqGuard_plain (P := P) op t1 y z (B := a.eval z) g2 (fun c => hc (g1 c)) w
  have hb : (binOp (if neg then .neq else .eql) t1 (a.eval y) (a.eval z)).run P w = .ok (.bool (r != neg)) w := by
    generalize a.eval y = A at *
    generalize a.eval z = B at *
    cases neg with
    | false =>
      have : binOp .eql t1 A B = (do pure (.bool (← Op.equal t1 A B))) := by
        cases A <;> first | rfl | exact absurd rfl (g5 _ _) | exact absurd rfl (g6 _) | exact absurd rfl (g7 _ _) | exact absurd rfl (g8 _ _ _)
      rw [if_neg (by simp), this]
      simp [heq]
    | true =>
      have : binOp .neq t1 A B = (do pure (.bool (!(← Op.equal t1 A B)))) := by
        cases A <;> first | rfl | exact absurd rfl (g5 _ _) | exact absurd rfl (g6 _) | exact absurd rfl (g7 _ _) | exact absurd rfl (g8 _ _ _)
      rw [if_pos rfl, this]
      simp [heq]
  refine Does.still gh (v := .bool (r != neg)) ?_ (by simp only [RV])
  simp only [execOp, ho]
  simp [hg, hb]
end ops
end Go.Proofs.YtggnhaiohmgflaaGreatDoor.Sx
namespace Go.Proofs.YtggnhaiohmgflaaGreatDoor.Sx
open Go
variable {σ : Nat → Int} {ρ ρ' : Rho} {h h' : H} {w w' : World} {P : Program}
theorem eqKey_spec {str : Bool} {x y : V} {A B : Value} {r : Bool} {td : TypeDesc} (hd : if str then td = .string else ∃ k, td = .int k) (e : eqKey str x y = .ok r) (hx : RV σ ρ x A) (hy : RV σ ρ y B) : Instr.sameNow td A B = some r := by
  cases str with
  | false =>
    obtain ⟨kd, rfl⟩ := hd
    obtain ⟨k, a, rfl, h1⟩ := onInt_eq (show onInt (.err "key") (fun k a => onInt (.err "key") (fun k' c => ifB (Nat.beq (kindN k) (kindN k')) (eqN a c) (.err "key kind")) y) x = .ok r from e) (by intro c; cases c)
    obtain ⟨k', c, rfl, h2⟩ := onInt_eq h1 (by intro c; cases c)
    rw [ifB_eq] at h2
    split at h2
    · rename_i hk
      obtain rfl := kindN_inj hk
      simp only [RV] at hx hy
      obtain ⟨rfl, x1, _⟩ := hx
      obtain ⟨rfl, y1, _⟩ := hy
      simp [Instr.sameNow, eqN_spec h2 x1 y1]
    · cases h2
  | true =>
    have hd : td = .string := hd
    subst hd
    obtain ⟨a, rfl, h1⟩ := onStr_eq (show onStr (.err "key") (fun a => onStr (.err "key") (eqS a) y) x = .ok r from e) (by intro c; cases c)
    obtain ⟨c, rfl, h2⟩ := onStr_eq h1 (by intro c; cases c)
    simp only [RV] at hx hy
    obtain ⟨s, rfl, x1⟩ := hx
    obtain ⟨u, rfl, y1⟩ := hy
    have := RB_eq h2 x1 y1
    show some (s == u) = some r
    rw [beq_toListBytes, this]
theorem findK_cons (str : Bool) (k : V) (e : V × V) (es : List (V × V)) : findK str k (e :: es) = (eqKey str k e.1).bd fun r => Bool.rec (findK str k es) (.ok (some e.2)) r := rfl
theorem findK_spec {str : Bool} {td : TypeDesc} (hd : if str then td = .string else ∃ k, td = .int k) {k : V} {K : Value} (hk : RV σ ρ k K) : ∀ {es : List (V × V)} {ms : List MapEntry} {r : Option V} (i : Nat), findK str k es = .ok r → RM σ ρ es ms →
    (r = none ∧ Instr.findNow td K ms i = some none) ∨ ∃ x v j, r = some x ∧ Instr.findNow td K ms i = some (some (j, v)) ∧ RV σ ρ x v
  | [], ms, r, i, e, hm => by
    simp only [RM] at hm
    subst hm
    cases e
    exact .inl ⟨rfl, rfl⟩
  | e0 :: es, ms, r, i, e, hm => by
    simp only [RM] at hm
    obtain ⟨m, ms, rfl, m1, m2, m3⟩ := hm
    rw [findK_cons] at e
    obtain ⟨b, e1, e2⟩ := R.bd_eq e
    have hs := eqKey_spec hd e1 hk m1
    unfold Instr.findNow
    rw [hs]
    cases b with
    | true => cases e2; exact .inr ⟨_, _, _, rfl, rfl, m2⟩
    | false => exact findK_spec hd hk (i + 1) (show findK str k es = .ok r from e2) m3
end Go.Proofs.YtggnhaiohmgflaaGreatDoor.Sx
namespace Go.Proofs.YtggnhaiohmgflaaGreatDoor.Sx
open Go
variable {σ : Nat → Int} {ρ ρ' : Rho} {h h' : H} {w w' : World} {P : Program}
theorem zeroOf_spec {t1 : Nat} {ti : TI} {z : V} (hk : TOk P t1 ti) (hz : zeroOf ti = some z) : ∃ i zv, P.info? t1 = some i ∧ i.zero = some zv ∧ RV σ ρ z zv := by
  obtain ⟨i, zv, a1, a2, a3, a4, a5, a6, a7, a8, a9⟩ := hk
  refine ⟨i, zv, a1, a5, ?_⟩
  unfold zeroOf at hz
  cases hzz : ti.zero with
  | none => rw [hzz] at hz; cases hz
  | some cs =>
    rw [hzz] at hz
    have h9 := a9 cs hzz
    have hr := ofVal_spec (σ := σ) (ρ := ρ) zv
    cases ha : isAggD ti.desc with
    | true =>
      rw [ha] at hz
      cases hz
      obtain ⟨vs, rfl⟩ := a7 ha
      have hq : ofVal (.agg vs) = .g (vs.toList.map cellOf) ∨ ofVal (.agg vs) = .any := by
        unfold ofVal
        simp only
        split
        · exact .inl rfl
        · exact .inr rfl
      rcases hq with hq | hq
      · rw [hq] at h9 hr
        cases h9
        exact hr
      · rw [hq] at h9; cases h9
    | false =>
      have ho := a8 ha
      rw [ha] at hz
      generalize ofVal zv = q at h9 hr
      cases q with
      | g l => simp only [RV] at hr; obtain ⟨vs, rfl, _⟩ := hr; cases ho
      | t l => cases h9
      | any => cases h9
      | _ => cases h9; cases hz; exact hr
theorem mapOf_spec (g : RH σ ρ h w) {x : V} {v : Value} {es : List (V × V)} (hv : RV σ ρ x v) (e : mapOf x h = .ok es) :
    (v = .map none ∧ es = []) ∨ ∃ r L ms clk, x = .m (some r) ∧ ρ r = some L ∧ h.ob r = some (.map es) ∧ v = .map (some L.b) ∧ w.heap[L.b]? = some (.map ms clk) ∧ RM σ ρ es ms.toList := by
  unfold mapOf at e
  split at e
  · cases e
    simp only [RV] at hv
    exact .inl ⟨hv, rfl⟩
  · rename_i r
    have ho := H.map_ok e
    obtain ⟨M, h1, ms, clk, h2, h3⟩ := g.map _ _ ho
    simp only [RV] at hv
    obtain ⟨L, h4, h5⟩ := hv
    rw [h1] at h4; cases h4
    exact .inr ⟨r, M, ms, clk, rfl, h1, ho, h5, h2, h3⟩
  · cases e
def KeyD (str : Bool) (td : TypeDesc) : Prop := if str then td = .string else ∃ k, td = .int k
theorem run_checkKey {str : Bool} {kt : Nat} {td : TypeDesc} (ht : P.underlying kt = some td) (hd : KeyD str td) (b : Bool) (K : Value) (w : World) : (Instr.checkKey b 10000 kt K).run P w = .ok () w := by
  show (Instr.checkKey b (9999 + 1) kt K).run P w = _
  generalize 9999 = n
  cases str with
  | true => have hd : td = .string := hd; subst hd; cases K <;> simp [Instr.checkKey, run_underlying ht]
  | false => obtain ⟨k, rfl⟩ := hd; cases K <;> simp [Instr.checkKey, run_underlying ht]
theorem run_findKey {kt : Nat} {td : TypeDesc} {K : Value} {ms : List MapEntry} {r : Option (Nat × Value)} (ht : P.underlying kt = some td) (hf : Instr.findNow td K ms 0 = some r) (w : World) : (Instr.findKey kt K ms).run P w = .ok r w := by
  simp [Instr.findKey, run_underlying ht, hf]
theorem keyOf_spec {ty : Nat → Option TI} {kt : Nat} {str : Bool} (hk : keyOf ty kt = some str) : ∃ tk, ty kt = some tk ∧ KeyD str tk.desc := by
  unfold keyOf at hk
  split at hk
  · rename_i ti hti
    refine ⟨ti, hti, ?_⟩
    split at hk
    · rename_i k hd; cases hk; exact ⟨k, hd⟩
    · rename_i hd; cases hk; exact hd
    · cases hk
  · cases hk
section ops
variable {ty : Nat → Option TI} {nt : Nat} {t : Env} {a : Act} {x : V} {call : Nat → CallF}
theorem does_lookup {o : Oper} {t1 : Nat} {y k : Operand} {ok : Bool} (ho : o.op = .lookup t1 y k ok) (hty : TyOk P ty) (g : RT σ ρ nt t a) (gh : RH σ ρ h w)
    (e : opV call (compLookup ty t1 y k ok) t h = .ok x h') : Does P σ ρ h w (execOp a.eval o) x h' := by
  unfold compLookup at e
  obtain ⟨td, ht, e⟩ := withTy_eq e
  obtain ⟨i0, z00, _, t2, _⟩ := hty _ _ ht
  split at e
  · rename_i kt el hd
    rw [hd] at t2
    obtain ⟨te, hte, e⟩ := withTy_eq e
    split at e
    · rename_i z str hz hk
      obtain ⟨tk, hkt, hd'⟩ := keyOf_spec hk
      obtain ⟨i1, z1, _, t3, _⟩ := hty _ _ hkt
      obtain ⟨i2, zv, u1, u2, hzv⟩ := zeroOf_spec (σ := σ) (ρ := ρ) (hty _ _ hte) hz
      obtain ⟨es, e1, e2⟩ := rO_eq (show rO (mapOf (ev (opdOf y) t) h) (fun es => rO (findK str (ev (opdOf k) t) es) fun r => look2 z ok r h) = .ok x h' from e)
      obtain ⟨r, e3, e4⟩ := rO_eq e2
      have hy := ev_spec g y
      have hkv := ev_spec g k
      have fin : ∀ ms : List MapEntry, RM σ ρ es ms → (∀ u, Instr.findNow tk.desc (a.eval k) ms 0 = some u →
          (Instr.lookup t1 (a.eval y) (a.eval k) ok).run P w = .ok (if ok then .tuple #[(match u with | some (_, v) => v | none => zv), .bool u.isSome] else (match u with | some (_, v) => v | none => zv)) w) → Does P σ ρ h w (execOp a.eval o) x h' := by
        intro ms hm hrun
        have put : ∀ (V0 : V) (b : Bool) (A : Value), RV σ ρ V0 A → RV σ ρ (ifB ok (.t [V0, .b b]) V0) (if ok then .tuple #[A, .bool b] else A) := by
          intro V0 b A hA
          cases ok with
          | true => rw [ifB_true, if_pos rfl]; simp only [RV]; exact ⟨_, rfl, ⟨_, _, rfl, hA, ⟨_, _, rfl, by simp only [RV], rfl⟩⟩⟩
          | false => rw [ifB_false, if_neg (by simp)]; exact hA
        rcases findK_spec hd' hkv 0 e3 hm with ⟨rfl, hf⟩ | ⟨x0, v0, j, rfl, hf, hv0⟩
        · cases e4
          refine Does.still gh ?_ (put z false zv hzv)
          have := hrun _ hf
          simp only [execOp, ho]
          simp [this]
        · cases e4
          refine Does.still gh ?_ (put x0 true v0 hv0)
          have := hrun _ hf
          simp only [execOp, ho]
          simp [this]
      rcases mapOf_spec gh hy e1 with ⟨m1, rfl⟩ | ⟨r1, L, ms, clk, m1, m2, m3, m4, m5, m6⟩
      · refine fin [] rfl (fun u hu => ?_)
        have hc := fun b => run_checkKey t3 hd' b (a.eval k) w
        have hfk := run_findKey t3 hu w
        rw [m1]
        simp [Instr.lookup, run_underlying t2, hc, hfk]
        cases u with
        | none => cases ok <;> simp [run_zero u1 u2]
        | some q => cases ok <;> simp
      · refine fin ms.toList m6 (fun u hu => ?_)
        have hc := fun b => run_checkKey t3 hd' b (a.eval k) w
        have hfk := run_findKey t3 hu w
        rw [m4]
        simp [Instr.lookup, run_underlying t2, run_getObj_map w _ _ _ m5, hc, hfk]
        cases u with
        | none => cases ok <;> simp [run_zero u1 u2]
        | some q => cases ok <;> simp
    · cases e
  · cases e
end ops

/-! a map is laid anew -/
theorem run_setMap {r : Nat} {es : Array MapEntry} {clock : Nat} (o : Obj) (hb : w.heap[r]? = some (.map es clock)) : (setObj r o).run P w = .ok () { w with heap := w.heap.setIfInBounds r o } := by
  show (Sem.setObj r o (Sem.pure ())).run P w = _
  simp [Sem.run, hb]
theorem RH.setMap (g : RH σ ρ h w) {r : Nat} {L : Loc} {es es2 : List (V × V)} {ms : Array MapEntry} {clk : Nat} {ms2 : Array MapEntry} {clk2 : Nat} (ho : h.ob r = some (.map es)) (hL : ρ r = some L)
    (hb : w.heap[L.b]? = some (.map ms clk)) (hm : RM σ ρ es2 ms2.toList) (hw : w'.heap = w.heap.setIfInBounds L.b (.map ms2 clk2)) (e1 : w'.tape = w.tape) (e2 : w'.os = w.os) (e3 : w'.output = w.output) :
    RH σ ρ (h.setOb (some (.map es2)) r) w' ∧ Step ρ h w ρ (h.setOb (some (.map es2)) r) w' := by
  have hlt : L.b < w.heap.size := (Array.getElem?_eq_some_iff.1 hb).1
  have ne : ∀ {b : Nat}, b ≠ L.b → w'.heap[b]? = w.heap[b]? := fun {b} hne => by
    rw [hw, Array.getElem?_setIfInBounds_ne (Ne.symm hne)]
  have self : w'.heap[L.b]? = some (.map ms2 clk2) := by rw [hw]; simp [hlt]
  have apart : ∀ {j : Nat} {y : Ob} {M : Loc}, j ≠ r → h.ob j = some y → ρ j = some M → M.b ≠ L.b := by
    intro j y M hjr hj hM hMb
    obtain ⟨_, _, _, c, _⟩ := g.sep j r _ _ M L hjr hj ho hM hL hMb
    cases c
  constructor
  · refine ⟨fun i s hi => ?_, fun i s hi => ?_, fun i j x y K M hij hi hj hK hM hKM => ?_, fun i s hi hg => ?_, fun i s hi => ?_, fun i hi => ?_, fun i hi => ?_, ?_⟩
    · rw [H.ob_set] at hi
      split at hi
      · cases hi
      · rename_i hir
        obtain ⟨M, h1, h2⟩ := g.row i s hi
        obtain ⟨c, el, fr, h3, h4⟩ := h2.blk
        exact ⟨M, h1, h2.fits, h2.one, c, el, fr, by rw [ne (apart hir hi h1)]; exact h3, h4⟩
    · rw [H.ob_set] at hi
      split at hi
      · rename_i e
        cases hi
        exact ⟨L, by rw [e]; exact hL, ms2, clk2, self, hm⟩
      · rename_i hir
        obtain ⟨M, h1, ms', clk', h2, h3⟩ := g.map i s hi
        exact ⟨M, h1, ms', clk', by rw [ne (apart hir hi h1)]; exact h2, h3⟩
    · rw [H.ob_set] at hi hj
      split at hi
      · rename_i e
        split at hj
        · rename_i e'; omega
        · rename_i e'
          rw [e, hL] at hK; cases hK
          exact absurd hKM.symm (apart e' hj hM)
      · rename_i e
        split at hj
        · rename_i e'
          rw [e', hL] at hM; cases hM
          exact absurd hKM (apart e hi hK)
        · exact g.sep i j x y K M hij hi hj hK hM hKM
    · rw [H.grps_set]
      rw [H.ob_set] at hi
      split at hi
      · cases hi
      · exact g.grp i s hi hg
    · rw [H.next_set]
      rw [H.ob_set] at hi
      split at hi
      · cases hi
      · exact g.gnext i s hi
    · rw [H.next_set] at hi
      rw [H.ob_set]
      split
      · rename_i e
        have h0 := g.next r (by omega); rw [h0] at ho; cases ho
      · exact g.next i hi
    · rw [H.next_set] at hi; exact g.dom i hi
    · rw [H.next_set]; exact g.pos
  · have hlive : Live ρ h L.b := ⟨r, _, L, ho, hL, rfl⟩
    refine ⟨fun _ _ => rfl, by rw [H.next_set]; exact Nat.le_refl _, fun b _ hd => ne fun c => hd (c ▸ hlive), fun b hb' => ?_, by rw [hw]; simp, fun n _ e => by rw [H.ob_set, if_neg (fun c => by rw [c, ho] at e; cases e)]; exact e, e1, e2, e3⟩
    right
    obtain ⟨j, o, K, k1, k2, k3⟩ := hb'
    rw [H.ob_set] at k1
    split at k1
    · rename_i e
      rw [e, hL] at k2; cases k2
      rw [← k3]; exact hlive
    · exact ⟨j, o, K, k1, k2, k3⟩
theorem setK_cons (str : Bool) (k v : V) (e : V × V) (es : List (V × V)) : setK str k v (e :: es) = (eqKey str k e.1).bd fun r => Bool.rec ((setK str k v es).bd fun l => .ok (e :: l)) (.ok ((k, v) :: es)) r := rfl
theorem setK_nil (str : Bool) (k v : V) : setK str k v [] = .ok [(k, v)] := rfl
theorem setK_spec {str : Bool} {td : TypeDesc} (hd : KeyD str td) {k v : V} {K U : Value} (hk : RV σ ρ k K) (hv : RV σ ρ v U) : ∀ {es es2 : List (V × V)} {ms : List MapEntry} (i : Nat), setK str k v es = .ok es2 → RM σ ρ es ms →
    (Instr.findNow td K ms i = some none ∧ ∀ b, RM σ ρ es2 (ms ++ [{ key := K, val := U, born := b }])) ∨
    ∃ j m, ms[j]? = some m ∧ Instr.findNow td K ms i = some (some (i + j, m.val)) ∧ Instr.sameNow td K m.key = some true ∧ RM σ ρ es2 (ms.modify j fun e => { e with key := K, val := U })
  | [], es2, ms, i, e, hm => by
    simp only [RM] at hm
    subst hm
    rw [setK_nil] at e
    cases e
    exact .inl ⟨rfl, fun b => ⟨_, _, rfl, hk, hv, rfl⟩⟩
  | e0 :: es, es2, ms, i, e, hm => by
    simp only [RM] at hm
    obtain ⟨m, ms, rfl, m1, m2, m3⟩ := hm
    rw [setK_cons] at e
    obtain ⟨b, e1, e2⟩ := R.bd_eq e
    have hs := eqKey_spec hd e1 hk m1
    cases b with
    | true =>
      cases e2
      refine .inr ⟨0, m, rfl, ?_, hs, ⟨_, _, rfl, hk, hv, m3⟩⟩
      unfold Instr.findNow
      rw [hs]; rfl
    | false =>
      obtain ⟨l, e3, e4⟩ := R.bd_eq (show ((setK str k v es).bd fun l => R.ok (e0 :: l)) = .ok es2 from e2)
      cases e4
      rcases setK_spec hd hk hv (i + 1) e3 m3 with ⟨h1, h2⟩ | ⟨j, m', h1, h2, h3, h4⟩
      · refine .inl ⟨?_, fun b => ⟨m, _, rfl, m1, m2, h2 b⟩⟩
        unfold Instr.findNow
        rw [hs]; exact h1
      · refine .inr ⟨j + 1, m', by simpa using h1, ?_, h3, ?_⟩
        · unfold Instr.findNow
          rw [hs]
          rw [show i + (j + 1) = i + 1 + j by omega]; exact h2
        · rw [List.modify_succ_cons]
          exact ⟨m, _, rfl, m1, m2, h4⟩
theorem sameBits_of {str : Bool} {td : TypeDesc} (hd : KeyD str td) {K A : Value} (hs : Instr.sameNow td K A = some true) : Instr.sameBits 10000 A K = true := by
  cases str with
  | true =>
    have hd : td = .string := hd
    subst hd
    cases K <;> cases A <;> simp [Instr.sameNow] at hs
    rename_i s u
    simp only [Instr.sameBits]
    rw [beq_toListBytes] at hs ⊢
    simp only [beq_iff_eq] at hs ⊢
    exact hs.symm
  | false =>
    obtain ⟨k, rfl⟩ := hd
    cases K <;> cases A <;> simp [Instr.sameNow] at hs
    obtain ⟨rfl, rfl⟩ := hs
    simp [Instr.sameBits]
section ops
variable {ty : Nat → Option TI} {nt : Nat} {t : Env} {a : Act} {x : V} {call : Nat → CallF}
theorem does_mapUpdate {o : Oper} {t1 : Nat} {y k z : Operand} (ho : o.op = .mapUpdate t1 y k z ∨ o.op = .insert t1 y k z) (hty : TyOk P ty) (g : RT σ ρ nt t a) (gh : RH σ ρ h w)
    (e : opV call (compMupd ty t1 y k z) t h = .ok x h') : Does P σ ρ h w (execOp a.eval o) x h' := by
  unfold compMupd at e
  obtain ⟨td, ht, e⟩ := withTy_eq e
  obtain ⟨i0, z00, _, t2, _⟩ := hty _ _ ht
  split at e
  · rename_i kt el hd
    rw [hd] at t2
    split at e
    · rename_i str hk
      obtain ⟨tk, hkt, hd'⟩ := keyOf_spec hk
      obtain ⟨i1, z1, _, t3, _⟩ := hty _ _ hkt
      have e' : oMupd str (opdOf y) (opdOf k) (opdOf z) t h = .ok x h' := e
      unfold oMupd at e'
      split at e'
      · rename_i r hr
        obtain ⟨es, e1, e2⟩ := rO_eq e'
        obtain ⟨es2, e3, e4⟩ := rO_eq e2
        cases e4
        have hy := ev_spec g y
        have hkv := ev_spec g k
        have hzv := ev_spec g z
        rw [hr] at hy
        simp only [RV] at hy
        obtain ⟨L, hL, hy⟩ := hy
        have hob := H.map_ok e1
        obtain ⟨M, hM, ms, clk, m5, m6⟩ := gh.map _ _ hob
        rw [hL] at hM; cases hM
        have hc := fun b => run_checkKey t3 hd' b (a.eval k) w
        have hx : execOp a.eval o = (do (Instr.mapUpdate t1 (a.eval y) (a.eval k) (a.eval z)); pure .skip) := by
          rcases ho with ho | ho <;> simp only [execOp, ho]
        rcases setK_spec hd' hkv hzv 0 e3 m6 with ⟨s1, s2⟩ | ⟨j, m, s1, s2, s3, s4⟩
        · have hfk := run_findKey t3 s1 w
          obtain ⟨q1, q2⟩ := gh.setMap (w' := { w with heap := w.heap.setIfInBounds L.b (.map (ms.push { key := a.eval k, val := a.eval z, born := clk }) (clk + 1)) }) (ms2 := ms.push { key := a.eval k, val := a.eval z, born := clk }) (clk2 := clk + 1)
            hob hL m5 (by simpa using s2 clk) rfl rfl rfl rfl
          refine ⟨undef, _, ρ, .inr ⟨?_, rfl⟩, undV_spec, q1, q2⟩
          rw [hx, hy]
          simp [Instr.mapUpdate, run_underlying t2, run_getObj_map w _ _ _ m5, hc, hfk, run_setMap _ m5]
        · have hfk := run_findKey t3 s2 w
          have hj : ms[j]? = some m := by rw [← Array.getElem?_toList]; exact s1
          obtain ⟨q1, q2⟩ := gh.setMap (w' := { w with heap := w.heap.setIfInBounds L.b (.map (ms.modify j fun e => { e with key := a.eval k, val := a.eval z }) clk) }) (ms2 := ms.modify j fun e => { e with key := a.eval k, val := a.eval z }) (clk2 := clk)
            hob hL m5 (by simpa using s4) rfl rfl rfl rfl
          refine ⟨undef, _, ρ, .inr ⟨?_, rfl⟩, undV_spec, q1, q2⟩
          rw [hx, hy]
          simp [Instr.mapUpdate, run_underlying t2, run_getObj_map w _ _ _ m5, hc, hfk, hj, Instr.keyThatStays, sameBits_of hd' s3, run_setMap _ m5]
      · cases e'
    · cases e
  · cases e
end ops
end Go.Proofs.YtggnhaiohmgflaaGreatDoor.Sx
namespace Go.Proofs.YtggnhaiohmgflaaGreatDoor.Sx
open Go
variable {σ : Nat → Int} {ρ ρ' : Rho} {h h' : H} {w w' : World} {P : Program}
theorem eqLK_nil (x y : List V) : eqLK [] x y = match x, y with | [], [] => .ok true | _, _ => .err "eq cells" := rfl
theorem eqLK_cons (k : Nat) (ks : List Nat) (x y : List V) : eqLK (k :: ks) x y = match x, y with | a :: x, b :: y => (eqCK k a b).bd fun r => Bool.rec (.ok false) (eqLK ks x y) r | _, _ => .err "eq cells" := rfl
theorem eqLK_nil_ok {x y : List V} {r : Bool} (e : eqLK [] x y = .ok r) : x = [] ∧ y = [] ∧ r = true := by
  rw [eqLK_nil] at e
  split at e
  · cases e; exact ⟨rfl, rfl, rfl⟩
  · cases e
theorem eqLK_cons_ok {k : Nat} {ks : List Nat} {x y : List V} {r : Bool} (e : eqLK (k :: ks) x y = .ok r) :
    ∃ a xs b ys, x = a :: xs ∧ y = b :: ys ∧ ((eqCK k a b = .ok true ∧ eqLK ks xs ys = .ok r) ∨ (eqCK k a b = .ok false ∧ r = false)) := by
  rw [eqLK_cons] at e
  split at e
  · rename_i a xs b ys
    obtain ⟨r0, e1, e2⟩ := R.bd_eq e
    refine ⟨a, xs, b, ys, rfl, rfl, ?_⟩
    cases r0 with
    | true => exact .inl ⟨e1, e2⟩
    | false => cases e2; exact .inr ⟨e1, rfl⟩
  · cases e
theorem eqLK_append : ∀ (k1 k2 : List Nat) {cs es : List V} {r : Bool}, eqLK (k1 ++ k2) cs es = .ok r →
    (eqLK k1 (cs.take k1.length) (es.take k1.length) = .ok true ∧ eqLK k2 (cs.drop k1.length) (es.drop k1.length) = .ok r) ∨ (eqLK k1 (cs.take k1.length) (es.take k1.length) = .ok false ∧ r = false)
  | [], k2, cs, es, r, e => .inl ⟨rfl, e⟩
  | k :: k1, k2, cs, es, r, e => by
    obtain ⟨a, xs, b, ys, rfl, rfl, h1⟩ := eqLK_cons_ok (show eqLK (k :: (k1 ++ k2)) cs es = .ok r from e)
    simp only [List.length_cons, List.take_succ_cons, List.drop_succ_cons]
    rw [eqLK_cons]
    rcases h1 with ⟨h1, h2⟩ | ⟨h1, rfl⟩
    · simp only [h1, R.bd_ok]
      exact eqLK_append k1 k2 h2
    · simp only [h1, R.bd_ok]
      exact .inr (by constructor <;> trivial)
def valOf (d : TypeDesc) (xs : List Value) : Value := if isAggD d then .agg xs.toArray else xs.headD undef
/-- structs with plain parts are none that the model stands in for -/
def StOk (P : Program) (ty : Nat → Option TI) : Prop := ∀ t ti d ks, ty t = some ti → plainT ty d t = some ks → P.stoodInHeld t = false
theorem eqCK_spec {k : Nat} {x y : V} {A B : Value} {r : Bool} (e : eqCK k x y = .ok r) (hx : RV σ ρ x A) (hy : RV σ ρ y B) :
    (k = 0 ∧ ∃ a b, A = .bool a ∧ B = .bool b ∧ (a == b) = r) ∨ (k = 1 ∧ ∃ kk a b, A = .int kk a ∧ B = .int kk b ∧ (a == b) = r) ∨ (k = 2 ∧ ∃ a b, A = .string a ∧ B = .string b ∧ (a.toList == b.toList) = r) := by
  unfold eqCK at e
  split at e
  · cases e
    simp only [RV] at hx hy
    subst hx hy
    exact .inl ⟨rfl, _, _, rfl, rfl, rfl⟩
  · rename_i k1 a k2 c
    rw [ifB_eq] at e
    split at e
    · rename_i hk
      obtain rfl := kindN_inj hk
      simp only [RV] at hx hy
      obtain ⟨rfl, x1, _⟩ := hx
      obtain ⟨rfl, y1, _⟩ := hy
      exact .inr (.inl ⟨rfl, _, _, _, rfl, rfl, eqN_spec e x1 y1⟩)
    · cases e
  · simp only [RV] at hx hy
    obtain ⟨s, rfl, x1⟩ := hx
    obtain ⟨u, rfl, y1⟩ := hy
    exact .inr (.inr ⟨rfl, _, _, rfl, rfl, RB_eq e x1 y1⟩)
  · cases e
section
variable {ty : Nat → Option TI}
theorem plainF_cons {f : Nat → Option (List Nat)} {x : Field} {fs : List Field} {n : Nat} {l : List Nat} (e : plainF f (x :: fs) n = some l) :
    x.name ≠ "_" ∧ x.offset = n ∧ ∃ ks l', f x.type = some ks ∧ plainF f fs (n + ks.length) = some l' ∧ l = ks ++ l' := by
  unfold plainF at e
  split at e
  · rename_i hb
    simp only [Bool.and_eq_true, decide_eq_true_eq] at hb
    split at e
    · rename_i ks hks
      split at e
      · rename_i l' hl'
        cases e
        exact ⟨hb.1, beq_true hb.2, ks, l', hks, hl', rfl⟩
      · cases e
    · cases e
  · cases e
theorem plainT_some {d t : Nat} {ks : List Nat} (e : plainT ty d t = some ks) : ∃ ti, ty t = some ti ∧ (isAggD ti.desc = true → ks.length = ti.size) := by
  cases d with
  | zero => cases e
  | succ d =>
    unfold plainT at e
    split at e
    · cases e
    · rename_i ti hti
      refine ⟨ti, hti, fun ha => ?_⟩
      split at e
      · rename_i hd; rw [hd] at ha; cases ha
      · rename_i hd; rw [hd] at ha; cases ha
      · rename_i hd; rw [hd] at ha; cases ha
      · split at e
        · split at e
          · rename_i hb; cases e; exact beq_true hb
          · cases e
        · cases e
      · cases e
theorem eqPlain (hty : TyOk P ty) (hst : StOk P ty) (w : World) : ∀ (d t : Nat) (ks : List Nat) (ti : TI), ty t = some ti → plainT ty d t = some ks → ∀ (m : Nat) (cs es : List V) (xs ys : List Value) (r : Bool),
    RVs σ ρ cs xs → RVs σ ρ es ys → eqLK ks cs es = .ok r → (Op.equalIn (d + m) t (valOf ti.desc xs) (valOf ti.desc ys)).run P w = .ok r w := by
  intro d
  induction d with
  | zero => intro t ks ti _ hp; cases hp
  | succ d ih =>
    intro t ks ti ht hp m cs es xs ys r hx hy e
    obtain ⟨i0, z0, t1, t2, _⟩ := hty _ _ ht
    have hst' := hst t ti (d + 1) ks ht hp
    rw [show d + 1 + m = (d + m) + 1 by omega]
    unfold plainT at hp
    rw [ht] at hp
    have scal : ∀ {k : Nat}, ks = [k] → ∃ a b A B r0, RV σ ρ a A ∧ RV σ ρ b B ∧ xs.headD undef = A ∧ ys.headD undef = B ∧ eqCK k a b = .ok r0 ∧ r0 = r := by
      intro k hk
      subst hk
      obtain ⟨a, as, b, bs, rfl, rfl, h1⟩ := eqLK_cons_ok e
      simp only [RVs] at hx hy
      obtain ⟨A, As, rfl, hA, _⟩ := hx
      obtain ⟨B, Bs, rfl, hB, _⟩ := hy
      rcases h1 with ⟨h1, h2⟩ | ⟨h1, rfl⟩
      · obtain ⟨_, _, rfl⟩ := eqLK_nil_ok h2
        exact ⟨a, b, A, B, true, hA, hB, rfl, rfl, h1, rfl⟩
      · exact ⟨a, b, A, B, false, hA, hB, rfl, rfl, h1, rfl⟩
    split at hp
    · cases hp
    · rename_i ti' hti'
      cases hti'
      split at hp
      · rename_i hd
        cases hp
        obtain ⟨a, b, A, B, r0, hA, hB, q1, q2, q3, rfl⟩ := scal rfl
        rw [hd] at t2 ⊢
        rcases eqCK_spec q3 hA hB with ⟨_, a', b', rfl, rfl, rfl⟩ | ⟨h0, _⟩ | ⟨h0, _⟩
        · simp only [valOf, isAggD, Bool.false_eq_true, if_false, q1, q2]
          exact run_equalIn_bool' w _ t _ _ t2
        · cases h0
        · cases h0
      · rename_i kk hd
        cases hp
        obtain ⟨a, b, A, B, r0, hA, hB, q1, q2, q3, rfl⟩ := scal rfl
        rw [hd] at t2 ⊢
        rcases eqCK_spec q3 hA hB with ⟨h0, _⟩ | ⟨_, k', a', b', rfl, rfl, rfl⟩ | ⟨h0, _⟩
        · cases h0
        · simp only [valOf, isAggD, Bool.false_eq_true, if_false, q1, q2]
          exact run_equalIn_int w _ t _ _ _ _ t2
        · cases h0
      · rename_i hd
        cases hp
        obtain ⟨a, b, A, B, r0, hA, hB, q1, q2, q3, rfl⟩ := scal rfl
        rw [hd] at t2 ⊢
        rcases eqCK_spec q3 hA hB with ⟨h0, _⟩ | ⟨h0, _⟩ | ⟨_, a', b', rfl, rfl, rfl⟩
        · cases h0
        · cases h0
        · simp only [valOf, isAggD, Bool.false_eq_true, if_false, q1, q2]
          exact run_equalIn_string w _ t _ _ t2
      · rename_i fs hd
        split at hp
        · rename_i l hl
          split at hp
          · cases hp
            rw [hd] at t2 ⊢
            have hfo : P.fieldsOf t = fs := by simp [Program.fieldsOf, t2]
            simp only [valOf, isAggD, if_true]
            rw [run_equalIn_agg w (d + m) t xs.toArray ys.toArray (by rw [hfo]; exact t2) hst', hfo]
            have key : ∀ (fs : List Field) (k : Nat) (l : List Nat) (r : Bool), plainF (plainT ty d) fs k = some l → eqLK l (cs.drop k) (es.drop k) = .ok r → (Op.eqFields (d + m) xs.toArray ys.toArray fs).run P w = .ok r w := by
              intro fs
              induction fs with
              | nil =>
                intro k l r hl e
                cases hl
                obtain ⟨_, _, rfl⟩ := eqLK_nil_ok e
                simp [Op.eqFields]
              | cons f fs ihf =>
                intro k l r hl e
                obtain ⟨hn, hof, ks, l', h1, h2, rfl⟩ := plainF_cons hl
                obtain ⟨tf, htf, hsz⟩ := plainT_some h1
                obtain ⟨i1, z1, u1, u2, u3, _⟩ := hty _ _ htf
                have hpart : ∀ (vs : List V) (us : List Value), RVs σ ρ vs us → (∀ q, eqLK ks ((vs.drop k).take ks.length) q = .ok true ∨ eqLK ks ((vs.drop k).take ks.length) q = .ok false ∨
                    eqLK ks q ((vs.drop k).take ks.length) = .ok true ∨ eqLK ks q ((vs.drop k).take ks.length) = .ok false → (part f.type us.toArray f.offset).run P w = .ok (valOf tf.desc ((us.drop k).take ks.length)) w) := by
                  intro vs us hvu q hq
                  cases ha : isAggD tf.desc with
                  | true => simp [part, run_isAggD u2, ha, run_size u1, u3, valOf, hof, hsz ha]
                  | false =>
                    have hone : ∃ k0, ks = [k0] := by
                      cases d with
                      | zero => cases h1
                      | succ d' =>
                        unfold plainT at h1
                        rw [htf] at h1
                        simp only at h1
                        split at h1
                        · cases h1; exact ⟨_, rfl⟩
                        · cases h1; exact ⟨_, rfl⟩
                        · cases h1; exact ⟨_, rfl⟩
                        · rename_i hd'; rw [hd'] at ha; cases ha
                        · cases h1
                    obtain ⟨k0, rfl⟩ := hone
                    have hlt : k < us.length := by
                      have hne : (vs.drop k).take 1 ≠ [] := by
                        intro c
                        simp only [List.length_singleton] at hq
                        rw [c] at hq
                        rcases hq with hq | hq | hq | hq
                        · obtain ⟨_, _, _, _, h0, _⟩ := eqLK_cons_ok hq; cases h0
                        · obtain ⟨_, _, _, _, h0, _⟩ := eqLK_cons_ok hq; cases h0
                        · obtain ⟨_, _, _, _, _, h0, _⟩ := eqLK_cons_ok hq; cases h0
                        · obtain ⟨_, _, _, _, _, h0, _⟩ := eqLK_cons_ok hq; cases h0
                      rw [← hvu.length]
                      refine Nat.lt_of_not_le fun c => hne ?_
                      rw [List.drop_eq_nil_of_le c]; rfl
                    have hget : us[k]? = some us[k] := List.getElem?_eq_getElem hlt
                    have hh2 : (List.take 1 (List.drop k us)).head?.getD undef = us[k] := by rw [List.drop_eq_getElem_cons hlt]; rfl
                    simp [part, run_isAggD u2, ha, valOf, hof, hlt, hh2]
                have hih := fun (r : Bool) (e : eqLK ks ((cs.drop k).take ks.length) ((es.drop k).take ks.length) = .ok r) => ih f.type ks tf htf h1 m _ _ _ _ r ((hx.drop k).take ks.length) ((hy.drop k).take ks.length) e
                rcases eqLK_append ks l' e with ⟨g1, g2⟩ | ⟨g1, rfl⟩
                · have p1 := hpart cs xs hx _ (.inl g1)
                  have p2 := hpart es ys hy _ (.inr (.inr (.inl g1)))
                  have p3 := hih true g1
                  have p4 := ihf (k + ks.length) l' r h2 (by simpa [List.drop_drop, Nat.add_comm] using g2)
                  simp [Op.eqFields, hn, p1, p2, p3, p4]
                · have p1 := hpart cs xs hx _ (.inr (.inl g1))
                  have p2 := hpart es ys hy _ (.inr (.inr (.inr g1)))
                  have p3 := hih false g1
                  simp [Op.eqFields, hn, p1, p2, p3]
            exact key fs.toList 0 _ r hl e
          · cases hp
        · cases hp
      · cases hp
theorem onAgg_eq {α : Type} {e : α} {k : List V → α} {v : V} {r : α} (hh : onAgg e k v = r) (hne : r ≠ e) : ∃ cs, v = .g cs ∧ k cs = r := by
  cases v <;> first | exact ⟨_, rfl, hh⟩ | exact absurd hh.symm hne
/-- what == at structs with plain parts asks of the program -/
def GuOk (P : Program) (ty : Nat → Option TI) : Prop := ∀ t ti ks, ty t = some ti → plainT ty 8 t = some ks → P.eqGuardType P.depth t = false
variable {nt : Nat} {t : Env} {a : Act} {x : V} {call : Nat → CallF}
theorem does_eqg {o : Oper} {t1 : Nat} {y z : Operand} {neg : Bool} {ks : List Nat} {td : TI} (ho : ∃ q, o.op = .binOp (if neg then .neq else .eql) t1 y z q) (g : RT σ ρ nt t a) (gh : RH σ ρ h w)
    (hty : TyOk P ty) (hst : StOk P ty) (hgu : GuOk P ty) (ht : ty t1 = some td) (hks : plainT ty 8 t1 = some ks) (hag : isAggD td.desc = true)
    (e : opV call (.eqg ks neg (opdOf y) (opdOf z)) t h = .ok x h') : Does P σ ρ h w (execOp a.eval o) x h' := by
  obtain ⟨q, ho⟩ := ho
  obtain ⟨cs, h1, e1⟩ := onAgg_eq (show onAgg (.err "eq struct") (fun a => onAgg (.err "eq struct") (fun c => rO (eqLK ks a c) fun r => .ok (.b (r != neg)) h) (ev (opdOf z) t)) (ev (opdOf y) t) = .ok x h' from e) ok_ne
  obtain ⟨es, h2, e2⟩ := onAgg_eq e1 ok_ne
  obtain ⟨r, e3, e4⟩ := rO_eq e2
  cases e4
  have hx := ev_spec g y
  have hy := ev_spec g z
  rw [h1] at hx
  rw [h2] at hy
  simp only [RV] at hx hy
  obtain ⟨xs, hxs, hx, _⟩ := hx
  obtain ⟨ys, hys, hy, _⟩ := hy
  have heq := eqPlain (P := P) hty hst w 8 t1 ks td ht hks 9992 _ _ _ _ _ hx hy e3
  simp only [valOf, hag, if_true, Array.toArray_toList] at heq
  have hg := fun op => run_eqGuard_agg (P := P) w op t1 y z xs ys (hgu _ _ _ ht hks)
  refine Does.still gh (v := .bool (r != neg)) ?_ (by simp only [RV])
  simp only [execOp, ho, hxs, hys]
  cases neg with
  | false => simp [hg, run_eql_struct, heq]
  | true => simp [hg, run_neq_struct, heq]
/-- all operations with two operands -/
theorem does_binOp {o : Oper} {op : BinOp} {t1 q : Nat} {y z : Operand} (ho : o.op = .binOp op t1 y z q) (hty : TyOk P ty) (hst : StOk P ty) (hgu : GuOk P ty) (g : RT σ ρ nt t a) (gh : RH σ ρ h w)
    (e : opV call (compBin ty op t1 y z) t h = .ok x h') : Does P σ ρ h w (execOp a.eval o) x h' := by
  have hE : ∀ neg : Bool, op = (if neg then .neq else .eql) → opV call (compEq ty op neg t1 y z) t h = .ok x h' → Does P σ ρ h w (execOp a.eval o) x h' := by
    intro neg hop e
    have ho' : ∃ q, o.op = .binOp (if neg then .neq else .eql) t1 y z q := ⟨q, by rw [ho, hop]⟩
    unfold compEq at e
    obtain ⟨td, ht, e⟩ := withTy_eq e
    obtain ⟨i0, z0, _, t2, _⟩ := hty _ _ ht
    split at e
    · exact does_bin (lz := fun _ => false) ⟨q, ho⟩ g gh e
    · exact does_bin (lz := fun _ => false) ⟨q, ho⟩ g gh e
    · rename_i hd; exact does_eqt ho' g gh t2 (by omega) hd (by simp) e
    · rename_i el hd; exact does_eqt (f := 1) ho' g gh t2 (by omega) ⟨el, hd⟩ (by simp) e
    · rename_i el hd; exact does_eqt (f := 2) ho' g gh t2 (by omega) ⟨el, hd⟩ (by simp) e
    · rename_i kt el hd; exact does_eqt (f := 3) ho' g gh t2 (by omega) ⟨kt, el, hd⟩ (by simp) e
    · rename_i p q r hd; exact does_eqt (f := 4) ho' g gh t2 (by omega) ⟨p, q, r, hd⟩ (by simp) e
    · rename_i ms hd
      split at e
      · rename_i hc; exact does_eqt (f := 5) ho' g gh t2 (by omega) ⟨ms, hd⟩ (fun _ => hc) e
      · cases e
    · rename_i fs hd
      split at e
      · rename_i ks hks; exact does_eqg ho' g gh hty hst hgu ht hks (by rw [hd]; rfl) e
      · cases e
    · cases e
  unfold compBin at e
  split at e
  · exact hE false rfl e
  · exact hE true rfl e
  · exact does_bin (lz := fun _ => false) ⟨q, ho⟩ g gh e
end
end Go.Proofs.YtggnhaiohmgflaaGreatDoor.Sx
namespace Go.Proofs.YtggnhaiohmgflaaGreatDoor.Sx
open Go
variable {σ : Nat → Int} {ρ ρ' : Rho} {h h' : H} {w w' : World} {P : Program}
theorem ltN_spec {x y : E} {b : Bool} (e : ltN x y = .ok b) (hx : x.ok σ) (hy : y.ok σ) : decide (x.val σ < y.val σ) = b := by
  have sym : (match ltE x y with | some b => R.ok b | none => .err "lt") = .ok b → decide (x.val σ < y.val σ) = b := by
    intro e
    split at e
    · rename_i b' hb; cases e; exact ltE_spec hb hx hy
    · cases e
  cases x with
  | lin c ts => exact sym e
  | lit n =>
    cases y with
    | lin c ts => exact sym e
    | lit m => cases e; rfl
theorem fold2_cons (f : E → E → R E) (y : V) (xs : List V) (x : V) : fold2 f (y :: xs) x = onInt (.err "min") (fun k a => onInt (.err "min") (fun k' b => ifB (Nat.beq (kindN k) (kindN k')) ((f a b).bd fun c => fold2 f xs (.i k c)) (.err "min kinds")) y) x := rfl
theorem fold2_nil (f : E → E → R E) (x : V) : fold2 f [] x = .ok x := rfl
theorem fold_spec {f : E → E → R E} {F : Value → Value → Sem Value} (hf : ∀ (k : IntKind) (a b c : E) (w : World), f a b = .ok c → a.ok σ → b.ok σ → (F (.int k (a.val σ)) (.int k (b.val σ))).run P w = .ok (.int k (c.val σ)) w ∧ (c = a ∨ c = b)) :
    ∀ (xs : List V) (vs : List Value) (x r : V) (v : Value), fold2 f xs x = .ok r → RVs σ ρ xs vs → RV σ ρ x v → ∃ u, (vs.foldlM F v).run P w = .ok u w ∧ RV σ ρ r u
  | [], vs, x, r, v, e, hv, hx => by
    simp only [RVs] at hv
    subst hv
    rw [fold2_nil] at e
    cases e
    exact ⟨v, by simp, hx⟩
  | y :: xs, vs, x, r, v, e, hv, hx => by
    simp only [RVs] at hv
    obtain ⟨u, us, rfl, h1, h2⟩ := hv
    rw [fold2_cons] at e
    obtain ⟨k, a, rfl, e1⟩ := onInt_eq e (by intro c; cases c)
    obtain ⟨k', b, rfl, e2⟩ := onInt_eq e1 (by intro c; cases c)
    rw [ifB_eq] at e2
    split at e2
    · rename_i hk
      obtain rfl := kindN_inj hk
      obtain ⟨c, e3, e4⟩ := R.bd_eq e2
      simp only [RV] at hx h1
      obtain ⟨rfl, x1, x2⟩ := hx
      obtain ⟨rfl, y1, y2⟩ := h1
      obtain ⟨g1, g2⟩ := hf k a b c w e3 x1 y1
      obtain ⟨u, g3, g4⟩ := fold_spec hf xs us (.i k c) r (.int k (c.val σ)) e4 h2 (by
        simp only [RV]
        rcases g2 with rfl | rfl
        · exact ⟨by trivial, x1, x2⟩
        · exact ⟨by trivial, y1, y2⟩)
      exact ⟨u, by simp [List.foldlM_cons, g1, g3], g4⟩
    · cases e2
theorem min_step (k : IntKind) (a b c : E) (w : World) (e : minN a b = .ok c) (ha : a.ok σ) (hb : b.ok σ) : (Builtin.min2 (.int k (a.val σ)) (.int k (b.val σ))).run P w = .ok (.int k (c.val σ)) w ∧ (c = a ∨ c = b) := by
  obtain ⟨r, e1, e2⟩ := R.bd_eq e
  have hl := ltN_spec e1 hb ha
  cases e2
  cases r with
  | true => simp only [decide_eq_true_eq] at hl; simp [Builtin.min2, ifB_true, hl]
  | false => simp only [decide_eq_false_iff_not] at hl; simp [Builtin.min2, ifB_false, hl]
theorem max_step (k : IntKind) (a b c : E) (w : World) (e : maxN a b = .ok c) (ha : a.ok σ) (hb : b.ok σ) : (Builtin.max2 (.int k (a.val σ)) (.int k (b.val σ))).run P w = .ok (.int k (c.val σ)) w ∧ (c = a ∨ c = b) := by
  obtain ⟨r, e1, e2⟩ := R.bd_eq e
  have hl := ltN_spec e1 ha hb
  cases e2
  cases r with
  | true => simp only [decide_eq_true_eq] at hl; simp [Builtin.max2, ifB_true, hl]
  | false => simp only [decide_eq_false_iff_not] at hl; simp [Builtin.max2, ifB_false, hl]
section ops
variable {ty : Nat → Option TI} {nt : Nat} {t : Env} {a : Act} {x : V} {call : Nat → CallF}
theorem does_min {o : Oper} {c : Call} {b : Builtin} (ho : o.op = .call c) (hb : c.callee = .builtin b) (hm : b = .min ∨ b = .max) (g : RT σ ρ nt t a) (gh : RH σ ρ h w)
    (e : opV call (compBuiltin ty b c.argTypes.toList (opdsOf c.args)) t h = .ok x h') : Does P σ ρ h w (execOp a.eval o) x h' := by
  have args : ∀ {f : E → E → R E} {F : Value → Value → Sem Value}, (∀ (k : IntKind) (a b c : E) (w : World), f a b = .ok c → a.ok σ → b.ok σ → (F (.int k (a.val σ)) (.int k (b.val σ))).run P w = .ok (.int k (c.val σ)) w ∧ (c = a ∨ c = b)) →
      oMin f (opdsOf c.args) t h = .ok x h' → h' = h ∧ ∃ A l u, (c.args.map a.eval).toList = A :: l ∧ (l.foldlM F A).run P w = .ok u w ∧ RV σ ρ x u := by
    intro f F hf e
    have hv := evs_spec g c.args
    unfold oMin at e
    split at e
    · rename_i y ys hy
      obtain ⟨r, e1, e2⟩ := rO_eq (show rO (fold2 f ys y) (fun v => .ok v h) = .ok x h' from e)
      cases e2
      rw [hy] at hv
      simp only [RVs] at hv
      obtain ⟨A, l, hA, h1, h2⟩ := hv
      obtain ⟨u, h3, h4⟩ := fold_spec (w := w) hf ys l y _ A e1 h2 h1
      exact ⟨rfl, A, l, u, hA, h3, h4⟩
    · cases e
  rcases hm with rfl | rfl
  · obtain ⟨rfl, A, l, u, h1, h2, h3⟩ := args (F := Builtin.min2) min_step e
    refine Does.still gh (v := u) ?_ h3
    rw [run_builtin ho hb]
    have h1' : List.map a.eval c.args.toList = A :: l := by simpa using h1
    simp [builtin, Builtin.min_, h1', h2]
  · obtain ⟨rfl, A, l, u, h1, h2, h3⟩ := args (F := Builtin.max2) max_step e
    refine Does.still gh (v := u) ?_ h3
    rw [run_builtin ho hb]
    have h1' : List.map a.eval c.args.toList = A :: l := by simpa using h1
    simp [builtin, Builtin.max_, h1', h2]

/-- what a call leaves -/
def After (σ : Nat → Int) (ρ : Rho) (h : H) (w : World) (x : V) (h' : H) (v : Value) (w' : World) : Prop := ∃ ρ', RV σ ρ' x v ∧ RH σ ρ' h' w' ∧ Step ρ h w ρ' h' w'
def AfterE (σ : Nat → Int) (ρ : Rho) (h : H) (w : World) (x : V) (h' : H) : Ending → World → Prop
  | .returned v, w' => After σ ρ h w x h' v w'
  | _, _ => False
/-- a call of the function f, from any world that is told by h -/
def CallOk (P : Program) (σ : Nat → Int) (f : Nat) (args : List V) (h : H) (x : V) (h' : H) : Prop :=
  ∀ (ρ : Rho) (w : World) (argv : Array Value), RVs σ ρ args argv.toList → RH σ ρ h w →
    (∃ v w', (callFunc f argv).run P w = .ok (.value v) w' ∧ After σ ρ h w x h' v w') ∨
    ((callFunc f argv).run P w = .ok (.enter f argv) w ∧ Calls P f argv w (AfterE σ ρ h w x h'))
def CallsOk (P : Program) (σ : Nat → Int) (call : Nat → CallF) : Prop := ∀ f args h x h', call f args h = .ok x h' → CallOk P σ f args h x h'
/-- what an operation does: its value is put, or it calls -/
def Runs (P : Program) (σ : Nat → Int) (ρ : Rho) (h : H) (w : World) (s : Sem Next) (x : V) (h' : H) : Prop :=
  Does P σ ρ h w s x h' ∨ ∃ f argv, s.run P w = .ok (.enter f argv) w ∧ Calls P f argv w (AfterE σ ρ h w x h')
theorem Runs.wp {o : Oper} {K : Act → World → Prop} {Q : Exit → Act → World → Prop} (r : Runs P σ ρ h w (execOp a.eval o) x h') (hK : ∀ v w', After σ ρ h w x h' v w' → K (a.put o.dst v) w') : o.wp P a w K Q := by
  rcases r with ⟨v, w', ρ', h1, h2, h3, h4⟩ | ⟨f, argv, h1, h2⟩
  · rcases h1 with h1 | ⟨h1, rfl⟩
    · simp only [Oper.wp, h1, Oper.upon]
      exact hK _ _ ⟨ρ', h2, h3, h4⟩
    · simp only [Oper.wp, h1, Oper.upon]
      exact hK _ _ ⟨ρ', h2, h3, h4⟩
  · simp only [Oper.wp, h1, Oper.upon]
    refine Calls.mono h2 fun e w' he => ?_
    cases e with
    | returned v => exact hK _ _ he
    | panicked c => exact he.elim
    | outgrown => exact he.elim
theorem CallOk.runs {f : Nat} {args : List V} {argv : Array Value} {s : Sem Next} (hc : CallOk P σ f args h x h') (hv : RVs σ ρ args argv.toList) (gh : RH σ ρ h w) (hs : s.run P w = (callFunc f argv).run P w) : Runs P σ ρ h w s x h' := by
  rcases hc ρ w argv hv gh with ⟨v, w', h1, ρ', h2, h3, h4⟩ | ⟨h1, h2⟩
  · exact .inl ⟨v, w', ρ', .inl (hs.trans h1), h2, h3, h4⟩
  · exact .inr ⟨f, argv, hs.trans h1, h2⟩
/-- what the program's types keep -/
structure TyAll (P : Program) (ty : Nat → Option TI) : Prop where
  ok : TyOk P ty
  cl : Closed ty
  st : StOk P ty
  gu : GuOk P ty
  lim : ∀ n e t1 td, ty t1 = some td → td.desc = .array n e → n ≤ 1000000
theorem runs_call {o : Oper} {c : Call} (ho : o.op = .call c) (hty : TyAll P ty) (hcall : CallsOk P σ call) (g : RT σ ρ nt t a) (gh : RH σ ρ h w)
    (e : opV call (compCall ty c) t h = .ok x h') : Runs P σ ρ h w (execOp a.eval o) x h' := by
  unfold compCall at e
  split at e
  · rename_i b hb
    cases b with
    | len => exact .inl (does_len ho hb hty.ok hty.cl g gh e hty.lim)
    | append => exact .inl (does_append ho hb hty.ok g gh e)
    | min => exact .inl (does_min (ty := ty) ho hb (.inl rfl) g gh e)
    | max => exact .inl (does_min (ty := ty) ho hb (.inr rfl) g gh e)
    | _ =>
      exfalso
      simp only [compBuiltin] at e
      cases e
  · rename_i f hf
    have hc := hcall f _ h x h' (show call f (evs (opdsOf c.args) t) h = .ok x h' from e)
    refine hc.runs (evs_spec g c.args) gh ?_
    simp only [execOp, ho, resolve, hf]
    simp [Act.eval, Deferred.ofValue, invoke]
  · rename_i f hne hf
    have e' : callv2 call (ev (opdOf f) t) (evs (opdsOf c.args) t) h = .ok x h' := e
    have hp := ev_spec g f
    unfold callv2 at e'
    split at e'
    · rename_i k first captured hv
      rw [hv] at hp
      simp only [RV] at hp
      obtain ⟨fi, ca, hp, p1, p2⟩ := hp
      have hc := hcall k _ h x h' e'
      refine hc.runs (argv := fi ++ (c.args.map a.eval) ++ ca) (by
        simp only [Array.toList_append, List.append_assoc]
        exact p1.append ((evs_spec g c.args).append p2)) gh ?_
      simp only [execOp, ho, resolve, hf, hp]
      simp [Deferred.ofValue, invoke, Array.append_assoc]
    · cases e'
  · cases e
/-- every operation -/
theorem runs_op {o : Oper} (hty : TyAll P ty) (hcall : CallsOk P σ call) (g : RT σ ρ nt t a) (gh : RH σ ρ h w) (e : opV call (compOp ty o.op) t h = .ok x h') : Runs P σ ρ h w (execOp a.eval o) x h' := by
  cases hop : o.op with
  | move y => rw [hop] at e; exact .inl (does_move (.inl hop) g gh e)
  | assign y => rw [hop] at e; exact .inl (does_move (.inr hop) g gh e)
  | pick c y z => rw [hop] at e; exact .inl (does_pick hop g gh e)
  | alloc t1 => rw [hop] at e; exact .inl ((makes_alloc hop hty.ok e).does gh)
  | box t1 y => rw [hop] at e; exact .inl ((makes_box hop g e).does gh)
  | build t1 ps => rw [hop] at e; exact .inl (does_build hop hty.ok hty.cl g gh e)
  | buildSlice t1 n ps => rw [hop] at e; exact .inl ((makes_buildSlice hop hty.ok g e).does gh)
  | load t1 y => rw [hop] at e; exact .inl (does_load hop hty.ok g gh e)
  | store t1 y z => rw [hop] at e; exact .inl (does_store hop hty.ok g gh e)
  | nilCheck y => rw [hop] at e; exact .inl (does_nilc hop g gh e)
  | binOp op t1 y z q => rw [hop] at e; exact .inl (does_binOp hop hty.ok hty.st hty.gu g gh e)
  | unOp op t1 y => rw [hop] at e; exact .inl (does_unOp hop g gh e)
  | convert s d y => rw [hop] at e; exact .inl (does_convert hop hty.ok g gh e)
  | makeFunc fn p q => rw [hop] at e; exact .inl (does_makeFunc hop g gh e)
  | makeMap t1 r => rw [hop] at e; exact .inl ((makes_makeMap hop hty.ok g e).does gh)
  | makeSlice t1 l c => rw [hop] at e; exact .inl ((makes_makeSlice hop hty.ok g e).does gh)
  | slice t1 y lo hi mx => rw [hop] at e; exact .inl (does_slice hop hty.ok hty.cl g gh e)
  | fieldAddr s y f => rw [hop] at e; exact .inl (does_fieldAddr hop hty.ok g gh e)
  | indexAddr t1 y i => rw [hop] at e; exact .inl (does_indexAddr hop hty.ok hty.cl.sz g gh e)
  | index t1 y i => rw [hop] at e; exact .inl (does_index hop hty.ok g gh e)
  | lookup t1 y k ok => rw [hop] at e; exact .inl (does_lookup hop hty.ok g gh e)
  | mapUpdate t1 m k y => rw [hop] at e; exact .inl (does_mapUpdate (.inl hop) hty.ok g gh e)
  | insert t1 m k y => rw [hop] at e; exact .inl (does_mapUpdate (.inr hop) hty.ok g gh e)
  | extract y n => rw [hop] at e; exact .inl (does_extract hop g gh e)
  | call c => rw [hop] at e; exact runs_call hop hty hcall g gh e
  | _ => rw [hop] at e; cases e
end ops
end Go.Proofs.YtggnhaiohmgflaaGreatDoor.Sx
