/- Numbers that are told: sums of parts of inputs whose bounds are known. No conditions. -/
import Derived.Calls
set_option linter.unusedVariables false
set_option linter.unusedSimpArgs false
namespace Go.Proofs.YtggnhaiohmgflaaGreatDoor.Sx
open Go

/-- ((c + input i) / 2^k) % m (m = 0: no rest is taken); lo, hi: the input's bounds -/
structure At where
  i : Nat
  lo : Int
  hi : Int
  c : Int
  k : Nat
  m : Nat
  deriving DecidableEq

inductive E where
  | lit (n : Int)
  | lin (c : Int) (ts : List (Int × At))
  deriving Inhabited, DecidableEq

def At.val (σ : Nat → Int) (a : At) : Int := ((a.c + σ a.i) / (2 : Int) ^ a.k) % (a.m : Int)
def At.ok (σ : Nat → Int) (a : At) : Prop := a.lo ≤ σ a.i ∧ σ a.i ≤ a.hi
def sumT (σ : Nat → Int) : List (Int × At) → Int
  | [] => 0
  | t :: ts => t.1 * t.2.val σ + sumT σ ts
def E.val (σ : Nat → Int) : E → Int
  | .lit n => n
  | .lin c ts => c + sumT σ ts
def E.ok (σ : Nat → Int) : E → Prop
  | .lit _ => True
  | .lin _ ts => ∀ t ∈ ts, t.2.ok σ

def At.min (a : At) : Int := if a.m = 0 then (a.c + a.lo) / (2 : Int) ^ a.k else 0
def At.max (a : At) : Int := if a.m = 0 then (a.c + a.hi) / (2 : Int) ^ a.k else (a.m : Int) - 1

/-- bounds of a sum -/
def minT : List (Int × At) → Int
  | [] => 0
  | t :: ts => (if 0 ≤ t.1 then t.1 * t.2.min else t.1 * t.2.max) + minT ts
def maxT : List (Int × At) → Int
  | [] => 0
  | t :: ts => (if 0 ≤ t.1 then t.1 * t.2.max else t.1 * t.2.min) + maxT ts
def E.min : E → Int
  | .lit n => n
  | .lin c ts => c + minT ts
def E.max : E → Int
  | .lit n => n
  | .lin c ts => c + maxT ts

def E.cst : E → Int
  | .lit n => n
  | .lin c _ => c
def E.tms : E → List (Int × At)
  | .lit _ => []
  | .lin _ ts => ts
def mkE (c : Int) (ts : List (Int × At)) : E := match ts with | [] => .lit c | ts => .lin c ts

/-- two terms that make one: q·high + q'·low, or the same part twice -/
def joinT (x y : Int × At) : Option (Int × (Int × At)) :=
  if x.2 = y.2 then some (0, (x.1 + y.1, x.2))
  else if x.2.i = y.2.i ∧ x.2.lo = y.2.lo ∧ x.2.hi = y.2.hi ∧ x.2.c = y.2.c ∧ x.2.m = 0 ∧ y.2.k ≤ x.2.k ∧ (y.2.m : Int) = (2 : Int) ^ (x.2.k - y.2.k) ∧ x.1 = y.1 * (2 : Int) ^ (x.2.k - y.2.k) then
    if y.2.k = 0 then some (y.1 * y.2.c, (y.1, { y.2 with c := 0, m := 0 })) else some (0, (y.1, { y.2 with m := 0 }))
  else none
def join2 (x y : Int × At) : Option (Int × (Int × At)) := (joinT x y).orElse fun _ => joinT y x
def insT (x : Int × At) : List (Int × At) → Int × List (Int × At)
  | [] => if x.1 = 0 then (0, []) else (0, [x])
  | y :: ts => match join2 x y with
    | some (c, z) => let r := insT z ts; (c + r.1, r.2)
    | none => let r := insT x ts; (r.1, y :: r.2)
def insAll : List (Int × At) → List (Int × At) → Int × List (Int × At)
  | [], ts => (0, ts)
  | x :: xs, ts => let r := insT x ts; let q := insAll xs r.2; (r.1 + q.1, q.2)
def addE (x y : E) : E := let r := insAll x.tms y.tms; mkE (x.cst + y.cst + r.1) r.2
def scaleE (q : Int) (x : E) : E := if q = 0 then .lit 0 else mkE (q * x.cst) (x.tms.map fun t => (q * t.1, t.2))
def subE (x y : E) : E := addE x (scaleE (-1) y)

/-- the terms that d divides, divided; and the others -/
def divT (d : Int) (ts : List (Int × At)) : List (Int × At) := (ts.filter fun t => t.1 % d == 0).map fun t => (t.1 / d, t.2)
def modT (d : Int) (ts : List (Int × At)) : List (Int × At) := ts.filter fun t => t.1 % d != 0
def restE (d : Int) (x : E) : E := mkE (x.cst % d) (modT d x.tms)
def inside (x : E) (lo hi : Int) : Bool := decide (lo ≤ x.min) && decide (x.max ≤ hi)

/-- x / d where the rest is seen (d > 0) -/
def divE (d : Int) (x : E) : Option E := if inside (restE d x) 0 (d - 1) then some (mkE (x.cst / d) (divT d x.tms)) else none
/-- x % d where it is seen (d > 0) -/
def remE (d : Int) (x : E) : Option E := if inside (restE d x) 0 (d - 1) then some (restE d x) else none

/-- c + input i, or (c + input i) / 2^k -/
def baseOf (x : E) : Option At :=
  match x with
  | .lin c [(q, a)] => if q = 1 ∧ a.m = 0 ∧ (c = 0 ∨ a.k = 0) then some { a with c := a.c + c } else none
  | _ => none
def shrE (s : Nat) (x : E) : Option E :=
  if x.min / (2 : Int) ^ s = x.max / (2 : Int) ^ s then some (.lit (x.min / (2 : Int) ^ s)) else
  (divE ((2 : Int) ^ s) x).orElse fun _ => (baseOf x).map fun a => .lin 0 [(1, { a with k := a.k + s })]
def modE (m : Nat) (x : E) : Option E :=
  if x.min / (m : Int) = x.max / (m : Int) then some (addE (.lit (-(x.min / (m : Int) * m))) x) else
  (remE m x).orElse fun _ => (baseOf x).map fun a => .lin 0 [(1, { a with m := m })]

/-- is x < y, x = y? (none: it isn't seen) -/
def ltE (x y : E) : Option Bool :=
  let d := subE x y
  if d.max < 0 then some true else if 0 ≤ d.min then some false else none
def eqE (x y : E) : Option Bool :=
  let d := subE x y
  if d.min = 0 ∧ d.max = 0 then some true else if d.max < 0 ∨ 0 < d.min then some false else none

/-- x | y where x's low bits are 0 and y has no others -/
def orE (x y : E) : Option E :=
  let s := Nat.log2 y.max.toNat + 1
  if 0 ≤ y.min ∧ 0 ≤ x.min ∧ (modT ((2 : Int) ^ s) x.tms = [] ∧ x.cst % (2 : Int) ^ s = 0) then some (addE x y) else none
end Go.Proofs.YtggnhaiohmgflaaGreatDoor.Sx
namespace Go.Proofs.YtggnhaiohmgflaaGreatDoor.Sx
open Go
variable {σ : Nat → Int}

theorem E.val_lit (n : Int) : (E.lit n).val σ = n := rfl
theorem E.val_lin (c : Int) (ts : List (Int × At)) : (E.lin c ts).val σ = c + sumT σ ts := rfl
theorem pow_pos' (k : Nat) : (0 : Int) < (2 : Int) ^ k := Int.pow_pos (by decide)

theorem val_min {a : At} (h : a.ok σ) : a.min ≤ a.val σ := by
  unfold At.min At.val
  by_cases hm : a.m = 0
  · simp only [hm, if_true]
    rw [show ((0 : Nat) : Int) = 0 from rfl, Int.emod_zero]
    exact Int.ediv_le_ediv (pow_pos' _) (by have := h.1; omega)
  · simp only [hm, if_false]
    exact Int.emod_nonneg _ (by omega)
theorem val_max {a : At} (h : a.ok σ) : a.val σ ≤ a.max := by
  unfold At.max At.val
  by_cases hm : a.m = 0
  · simp only [hm, if_true]
    rw [show ((0 : Nat) : Int) = 0 from rfl, Int.emod_zero]
    exact Int.ediv_le_ediv (pow_pos' _) (by have := h.2; omega)
  · simp only [hm, if_false]
    have := Int.emod_lt_of_pos ((a.c + σ a.i) / (2 : Int) ^ a.k) (show (0 : Int) < a.m by omega)
    omega
theorem sum_min : ∀ {ts : List (Int × At)}, (∀ t ∈ ts, t.2.ok σ) → minT ts ≤ sumT σ ts
  | [], _ => Int.le_refl _
  | t :: ts, h => by
    have h1 := sum_min (fun u hu => h u (List.mem_cons_of_mem _ hu))
    have h2 := val_min (h t List.mem_cons_self)
    have h3 := val_max (h t List.mem_cons_self)
    simp only [minT, sumT]
    split
    · have := Int.mul_le_mul_of_nonneg_left h2 ‹_›; omega
    · have := Int.mul_le_mul_of_nonpos_left (a := t.1) (by omega) h3; omega
theorem sum_max : ∀ {ts : List (Int × At)}, (∀ t ∈ ts, t.2.ok σ) → sumT σ ts ≤ maxT ts
  | [], _ => Int.le_refl _
  | t :: ts, h => by
    have h1 := sum_max (fun u hu => h u (List.mem_cons_of_mem _ hu))
    have h2 := val_min (h t List.mem_cons_self)
    have h3 := val_max (h t List.mem_cons_self)
    simp only [maxT, sumT]
    split
    · have := Int.mul_le_mul_of_nonneg_left h3 ‹_›; omega
    · have := Int.mul_le_mul_of_nonpos_left (a := t.1) (by omega) h2; omega
theorem E.le_val {x : E} (h : x.ok σ) : x.min ≤ x.val σ := by
  cases x with
  | lit n => exact Int.le_refl _
  | lin c ts => have := sum_min h; simp only [E.min, E.val]; omega
theorem E.val_le {x : E} (h : x.ok σ) : x.val σ ≤ x.max := by
  cases x with
  | lit n => exact Int.le_refl _
  | lin c ts => have := sum_max h; simp only [E.max, E.val]; omega
theorem E.val_eq (x : E) : x.val σ = x.cst + sumT σ x.tms := by cases x <;> simp [E.val, E.cst, E.tms, sumT]
theorem E.ok_tms {x : E} (h : x.ok σ) : ∀ t ∈ x.tms, t.2.ok σ := by cases x with | lit n => simp [E.tms] | lin c ts => exact h
theorem mkE_val (c : Int) (ts : List (Int × At)) : (mkE c ts).val σ = c + sumT σ ts := by cases ts <;> simp [mkE, E.val, sumT]
theorem mkE_ok {c : Int} {ts : List (Int × At)} (h : ∀ t ∈ ts, t.2.ok σ) : (mkE c ts).ok σ := by
  cases ts with
  | nil => exact trivial
  | cons t ts => exact h

theorem joinT_val {x y z : Int × At} {c : Int} (h : joinT x y = some (c, z)) : x.1 * x.2.val σ + y.1 * y.2.val σ = c + z.1 * z.2.val σ := by
  unfold joinT at h
  split at h
  · rename_i he
    simp only [Option.some.injEq, Prod.mk.injEq] at h
    obtain ⟨rfl, rfl⟩ := h
    rw [he]; simp only []; rw [Int.add_mul]; omega
  · split at h
    · rename_i _ hc
      obtain ⟨h1, h2, h3, h4, h5, h6, h7, h8⟩ := hc
      obtain ⟨q, ⟨i, lo, hi, cc, k, m⟩⟩ := x
      obtain ⟨q', ⟨i', lo', hi', c', k', m'⟩⟩ := y
      simp only at h1 h2 h3 h4 h5 h6 h7 h8 h
      subst h1 h2 h3 h4 h5
      have e1 : (cc + σ i) / (2 : Int) ^ k = (cc + σ i) / (2 : Int) ^ k' / (2 : Int) ^ (k - k') := by
        rw [Int.ediv_ediv_of_nonneg (Int.le_of_lt (pow_pos' _)), ← Int.pow_add, show k' + (k - k') = k by omega]
      have e2 : q * ((cc + σ i) / (2 : Int) ^ k) + q' * (((cc + σ i) / (2 : Int) ^ k') % (m' : Int)) = q' * ((cc + σ i) / (2 : Int) ^ k') := by
        rw [e1, h7, h8, Int.mul_assoc, ← Int.mul_add, Int.mul_ediv_add_emod]
      split at h
      · rename_i hk
        simp only [Option.some.injEq, Prod.mk.injEq] at h
        obtain ⟨rfl, rfl⟩ := h
        subst hk
        simp only [At.val, show ((0 : Nat) : Int) = 0 from rfl, Int.emod_zero, Int.pow_zero, Int.ediv_one, Int.zero_add] at e2 ⊢
        rw [e2, Int.mul_add]
      · simp only [Option.some.injEq, Prod.mk.injEq] at h
        obtain ⟨rfl, rfl⟩ := h
        simp only [At.val, show ((0 : Nat) : Int) = 0 from rfl, Int.emod_zero, Int.zero_add] at e2 ⊢
        exact e2
    · cases h
theorem joinT_ok {x y z : Int × At} {c : Int} (h : joinT x y = some (c, z)) (hx : x.2.ok σ) (hy : y.2.ok σ) : z.2.ok σ := by
  unfold joinT at h
  split at h
  · simp only [Option.some.injEq, Prod.mk.injEq] at h
    obtain ⟨rfl, rfl⟩ := h
    exact hx
  · split at h
    · split at h <;> (simp only [Option.some.injEq, Prod.mk.injEq] at h; obtain ⟨rfl, rfl⟩ := h; exact hy)
    · cases h
theorem join2_val {x y z : Int × At} {c : Int} (h : join2 x y = some (c, z)) : x.1 * x.2.val σ + y.1 * y.2.val σ = c + z.1 * z.2.val σ := by
  unfold join2 at h
  cases h1 : joinT x y with
  | some r => rw [h1] at h; simp only [Option.orElse_some, Option.some.injEq] at h; subst h; exact joinT_val h1
  | none => rw [h1] at h; simp only [Option.orElse_none] at h; rw [Int.add_comm]; exact joinT_val h
theorem join2_ok {x y z : Int × At} {c : Int} (h : join2 x y = some (c, z)) (hx : x.2.ok σ) (hy : y.2.ok σ) : z.2.ok σ := by
  unfold join2 at h
  cases h1 : joinT x y with
  | some r => rw [h1] at h; simp only [Option.orElse_some, Option.some.injEq] at h; subst h; exact joinT_ok h1 hx hy
  | none => rw [h1] at h; simp only [Option.orElse_none] at h; exact joinT_ok h hy hx
theorem insT_val : ∀ (ts : List (Int × At)) (x : Int × At), (insT x ts).1 + sumT σ (insT x ts).2 = x.1 * x.2.val σ + sumT σ ts
  | [], x => by
    unfold insT
    split
    · rename_i h; simp [sumT, h]
    · simp [sumT]
  | y :: ts, x => by
    unfold insT
    cases hj : join2 x y with
    | some r =>
      obtain ⟨c, z⟩ := r
      have h1 := insT_val ts z
      have h2 := join2_val (σ := σ) hj
      simp only [sumT] at *
      omega
    | none =>
      have h1 := insT_val ts x
      simp only [sumT] at *
      omega
theorem insT_ok : ∀ (ts : List (Int × At)) (x : Int × At), x.2.ok σ → (∀ t ∈ ts, t.2.ok σ) → ∀ t ∈ (insT x ts).2, t.2.ok σ
  | [], x, hx, _ => by
    unfold insT
    split
    · simp
    · intro t ht; simp at ht; subst ht; exact hx
  | y :: ts, x, hx, h => by
    unfold insT
    cases hj : join2 x y with
    | some r =>
      obtain ⟨c, z⟩ := r
      exact insT_ok ts z (join2_ok hj hx (h y List.mem_cons_self)) (fun t ht => h t (List.mem_cons_of_mem _ ht))
    | none =>
      intro t ht
      rcases List.mem_cons.1 ht with rfl | ht
      · exact h _ List.mem_cons_self
      · exact insT_ok ts x hx (fun t ht => h t (List.mem_cons_of_mem _ ht)) t ht
theorem insAll_val : ∀ (xs ts : List (Int × At)), (insAll xs ts).1 + sumT σ (insAll xs ts).2 = sumT σ xs + sumT σ ts
  | [], ts => by simp [insAll, sumT]
  | x :: xs, ts => by
    have h1 := insT_val (σ := σ) ts x
    have h2 := insAll_val xs (insT x ts).2
    simp only [insAll, sumT]
    omega
theorem insAll_ok : ∀ (xs ts : List (Int × At)), (∀ t ∈ xs, t.2.ok σ) → (∀ t ∈ ts, t.2.ok σ) → ∀ t ∈ (insAll xs ts).2, t.2.ok σ
  | [], ts, _, h => h
  | x :: xs, ts, hx, h => insAll_ok xs _ (fun t ht => hx t (List.mem_cons_of_mem _ ht)) (insT_ok ts x (hx x List.mem_cons_self) h)
theorem addE_val (x y : E) : (addE x y).val σ = x.val σ + y.val σ := by
  have := insAll_val (σ := σ) x.tms y.tms
  rw [E.val_eq x, E.val_eq y]
  simp only [addE, mkE_val]
  omega
theorem addE_ok {x y : E} (hx : x.ok σ) (hy : y.ok σ) : (addE x y).ok σ := mkE_ok (insAll_ok _ _ (E.ok_tms hx) (E.ok_tms hy))
theorem scale_sum (q : Int) : ∀ ts : List (Int × At), sumT σ (ts.map fun t => (q * t.1, t.2)) = q * sumT σ ts
  | [] => by simp [sumT]
  | t :: ts => by simp only [List.map_cons, sumT, scale_sum q ts, Int.mul_add, Int.mul_assoc]
theorem scaleE_val (q : Int) (x : E) : (scaleE q x).val σ = q * x.val σ := by
  unfold scaleE
  split
  · rename_i h; simp [h, E.val]
  · rw [mkE_val, scale_sum, E.val_eq x, Int.mul_add]
theorem scaleE_ok {q : Int} {x : E} (hx : x.ok σ) : (scaleE q x).ok σ := by
  unfold scaleE
  split
  · exact trivial
  · refine mkE_ok fun t ht => ?_
    obtain ⟨u, hu, rfl⟩ := List.mem_map.1 ht
    exact E.ok_tms hx u hu
theorem subE_val (x y : E) : (subE x y).val σ = x.val σ - y.val σ := by simp only [subE, addE_val, scaleE_val]; omega
theorem subE_ok {x y : E} (hx : x.ok σ) (hy : y.ok σ) : (subE x y).ok σ := addE_ok hx (scaleE_ok hy)

theorem divmodT (d : Int) : ∀ ts : List (Int × At), sumT σ ts = d * sumT σ (divT d ts) + sumT σ (modT d ts)
  | [] => by simp [divT, modT, sumT]
  | t :: ts => by
    have ih := divmodT d ts
    by_cases h : t.1 % d = 0
    · have e : d * (t.1 / d) = t.1 := by have := Int.mul_ediv_add_emod t.1 d; omega
      simp only [divT, modT] at ih ⊢
      simp only [List.filter_cons, h, beq_self_eq_true, if_true, bne_self_eq_false, List.map_cons, sumT, Bool.false_eq_true, if_false]
      rw [ih, Int.mul_add, ← Int.mul_assoc, e]; omega
    · simp only [divT, modT] at ih ⊢
      have hb : (t.1 % d == 0) = false := by simpa using h
      have hn : (t.1 % d != 0) = true := by simpa using h
      simp only [List.filter_cons, hb, hn, if_true, Bool.false_eq_true, if_false, sumT]
      rw [ih]; omega
theorem modT_ok {d : Int} {ts : List (Int × At)} (h : ∀ t ∈ ts, t.2.ok σ) : ∀ t ∈ modT d ts, t.2.ok σ := fun t ht => h t ((List.mem_filter.1 ht).1)
theorem divT_ok {d : Int} {ts : List (Int × At)} (h : ∀ t ∈ ts, t.2.ok σ) : ∀ t ∈ divT d ts, t.2.ok σ := by
  intro t ht
  obtain ⟨u, hu, rfl⟩ := List.mem_map.1 ht
  exact h u ((List.mem_filter.1 hu).1)
theorem inside_spec {x : E} {lo hi : Int} (h : inside x lo hi = true) (hx : x.ok σ) : lo ≤ x.val σ ∧ x.val σ ≤ hi := by
  simp only [inside, Bool.and_eq_true, decide_eq_true_eq] at h
  have := E.le_val hx
  have := E.val_le hx
  omega
theorem rest_split (d : Int) (x : E) : x.val σ = d * (x.cst / d + sumT σ (divT d x.tms)) + (restE d x).val σ := by
  rw [E.val_eq x, divmodT d x.tms, restE, mkE_val, Int.mul_add]
  have := Int.mul_ediv_add_emod x.cst d
  omega
theorem restE_ok {d : Int} {x : E} (hx : x.ok σ) : (restE d x).ok σ := mkE_ok (modT_ok (E.ok_tms hx))
theorem divE_spec {d : Int} {x y : E} (hd : 0 < d) (h : divE d x = some y) (hx : x.ok σ) : y.val σ = x.val σ / d ∧ y.ok σ := by
  unfold divE at h
  split at h
  · rename_i hi
    cases h
    have hr := inside_spec hi (restE_ok hx)
    refine ⟨?_, mkE_ok (divT_ok (E.ok_tms hx))⟩
    rw [mkE_val, rest_split d x, Int.add_comm (d * _), Int.add_mul_ediv_left _ _ (by omega), Int.ediv_eq_zero_of_lt hr.1 (by omega)]
    omega
  · cases h
theorem remE_spec {d : Int} {x y : E} (hd : 0 < d) (h : remE d x = some y) (hx : x.ok σ) : y.val σ = x.val σ % d ∧ y.ok σ := by
  unfold remE at h
  split at h
  · rename_i hi
    cases h
    have hr := inside_spec hi (restE_ok hx)
    refine ⟨?_, restE_ok hx⟩
    rw [rest_split d x, Int.add_comm, Int.add_mul_emod_self_left, Int.emod_eq_of_lt hr.1 (by omega)]
  · cases h
theorem baseOf_spec {x : E} {a : At} (h : baseOf x = some a) (hx : x.ok σ) : x.val σ = (a.c + σ a.i) / (2 : Int) ^ a.k ∧ a.ok σ := by
  unfold baseOf at h
  split at h
  · rename_i c q b
    split at h
    · rename_i hc
      obtain ⟨h1, h2, h3⟩ := hc
      cases h
      have hok := hx (q, b) (by simp)
      refine ⟨?_, hok⟩
      simp only [E.val, sumT, At.val, h1, h2, show ((0 : Nat) : Int) = 0 from rfl, Int.emod_zero]
      rcases h3 with rfl | hk
      · simp
      · simp [hk]; omega
    · cases h
  · cases h
theorem ediv_bounds {n lo hi d : Int} (hd : 0 < d) (h1 : lo ≤ n) (h2 : n ≤ hi) (h : lo / d = hi / d) : n / d = lo / d := by
  have := Int.ediv_le_ediv hd h1
  have := Int.ediv_le_ediv hd h2
  omega
theorem shrE_spec {s : Nat} {x y : E} (h : shrE s x = some y) (hx : x.ok σ) : y.val σ = x.val σ / (2 : Int) ^ s ∧ y.ok σ := by
  unfold shrE at h
  split at h
  · rename_i he
    cases h
    exact ⟨(ediv_bounds (pow_pos' s) (E.le_val hx) (E.val_le hx) he).symm, trivial⟩
  · cases hd : divE ((2 : Int) ^ s) x with
    | some z => rw [hd] at h; cases h; exact divE_spec (pow_pos' s) hd hx
    | none =>
      rw [hd] at h
      simp only [Option.orElse_none] at h
      cases hb : baseOf x with
      | none => rw [hb] at h; cases h
      | some a =>
        rw [hb] at h; cases h
        obtain ⟨h1, h2⟩ := baseOf_spec hb hx
        refine ⟨?_, ?_⟩
        · have hm : a.m = 0 := by
            unfold baseOf at hb
            split at hb
            · split at hb
              · rename_i hc; cases hb; exact hc.2.1
              · cases hb
            · cases hb
          simp only [E.val_lin, sumT, At.val, hm, show ((0 : Nat) : Int) = 0 from rfl, Int.emod_zero]
          rw [h1, Int.ediv_ediv_of_nonneg (Int.le_of_lt (pow_pos' _)), ← Int.pow_add]
          omega
        · intro t ht
          simp at ht; subst ht; exact h2
theorem modE_spec {m : Nat} {x y : E} (hm : 0 < m) (h : modE m x = some y) (hx : x.ok σ) : y.val σ = x.val σ % (m : Int) ∧ y.ok σ := by
  have hmi : (0 : Int) < m := by omega
  unfold modE at h
  split at h
  · rename_i he
    cases h
    have hq := ediv_bounds hmi (E.le_val hx) (E.val_le hx) he
    refine ⟨?_, addE_ok trivial hx⟩
    rw [addE_val, E.val_lit]
    have h1 := Int.mul_ediv_add_emod (x.val σ) m
    have h2 := Int.mul_comm (x.min / (m : Int)) m
    rw [hq] at h1
    omega
  · cases hd : remE (m : Int) x with
    | some z => rw [hd] at h; cases h; exact remE_spec hmi hd hx
    | none =>
      rw [hd] at h
      simp only [Option.orElse_none] at h
      cases hb : baseOf x with
      | none => rw [hb] at h; cases h
      | some a =>
        rw [hb] at h; cases h
        obtain ⟨h1, h2⟩ := baseOf_spec hb hx
        refine ⟨?_, ?_⟩
        · simp only [E.val_lin, sumT, At.val]
          rw [h1]; omega
        · intro t ht
          simp at ht; subst ht; exact h2
theorem ltE_spec {x y : E} {b : Bool} (h : ltE x y = some b) (hx : x.ok σ) (hy : y.ok σ) : decide (x.val σ < y.val σ) = b := by
  have h1 := E.le_val (subE_ok hx hy)
  have h2 := E.val_le (subE_ok hx hy)
  rw [subE_val] at h1 h2
  simp only [ltE] at h
  split at h
  · cases h; simp; omega
  · split at h
    · cases h; simp; omega
    · cases h
theorem eqE_spec {x y : E} {b : Bool} (h : eqE x y = some b) (hx : x.ok σ) (hy : y.ok σ) : (x.val σ == y.val σ) = b := by
  have h1 := E.le_val (subE_ok hx hy)
  have h2 := E.val_le (subE_ok hx hy)
  rw [subE_val] at h1 h2
  simp only [eqE] at h
  split at h
  · cases h; simp; omega
  · split at h
    · cases h; simp; omega
    · cases h
end Go.Proofs.YtggnhaiohmgflaaGreatDoor.Sx
