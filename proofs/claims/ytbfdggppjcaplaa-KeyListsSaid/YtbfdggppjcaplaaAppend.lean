/- append onto a row that the call owns, from whatever source (nil, empty, or cells that are known). -/
import Derived.Test.YtbfdggppjcaplaaBase
import Derived.Deep.AppendLies
import Derived.Laws.OwnMore
import Derived.Deep.RegionLaw
import Derived.Deep.DeepCutAuto
namespace Go.Proofs.Ytbfdggppjcaplaa
open Go.RowKit

/-- what is appended: nothing, out of nil; or the cells 'news' from an address on -/
def Src (w : World) (a : Option Addr) (news : List Value) : Prop := (a = none ∧ news = []) ∨ ∃ x, a = some x ∧ ∀ j u, news[j]? = some u → w.cell? (x.add j) = some u

theorem Addr.add_plain (b off j : Nat) : (⟨b, off, none⟩ : Addr).add j = ⟨b, off + j, none⟩ := by
  unfold Addr.add; split <;> simp_all

theorem Src.of_row {k : IntKind} {w : World} {a : Option Addr} {len : Nat} {zs : List Int} (h : Row k w a len zs) : Src w a (zs.map (Value.int k)) := by
  by_cases h0 : len = 0
  · have : zs = [] := List.eq_nil_of_length_eq_zero (by rw [h.1]; exact h0)
    subst this
    cases a with
    | none => exact .inl ⟨rfl, rfl⟩
    | some x => exact .inr ⟨x, rfl, fun j u hu => by simp at hu⟩
  · rcases h.2.2 with h3 | ⟨b, off, rfl, hc⟩
    · exact absurd h3 h0
    · refine .inr ⟨_, rfl, fun j u hu => ?_⟩
      have hj : j < zs.length := by
        rcases Nat.lt_or_ge j zs.length with h | h
        · exact h
        · rw [List.getElem?_eq_none (by simpa using h)] at hu; cases hu
      rw [Addr.add_plain, hc j (by rw [← h.1]; exact hj)]
      simpa [hj] using hu
theorem Src.below {w w' : World} {a : Option Addr} {news : List Value} (h : Src w a news) (hb : Below w.heap.size w w') : Src w' a news := by
  rcases h with h | ⟨x, rfl, hc⟩
  · exact .inl h
  · refine .inr ⟨x, rfl, fun j u hu => ?_⟩
    have := hc j u hu
    rw [hb.cell (World.block_lt_of_cell? _ _ this)]
    exact this
theorem Src.grown {w w' : World} {a : Option Addr} {news : List Value} {row : Option Nat} {B : Nat} (h : Src w a news) (hlt : ∀ x, a = some x → news ≠ [] → x.block < B) (hg : w.grownBy w' row) (hr : ∀ k, row = some k → B ≤ k) : Src w' a news := by
  rcases h with h | ⟨x, rfl, hc⟩
  · exact .inl h
  · refine .inr ⟨x, rfl, fun j u hu => hg.cell (hc j u hu) (fun e => ?_)⟩
    have h5 := hr _ e.symm
    have h6 := hlt x rfl (by intro e; subst e; simp at hu)
    have : (x.add j).block = x.block := by unfold Addr.add; split <;> rfl
    omega
theorem Src.far {w w' : World} {a : Option Addr} {news : List Value} {row : Option Nat} (h : Src w a news) (hne : ∀ x, a = some x → some x.block ≠ row) (hg : w.grownBy w' row) : Src w' a news := by
  rcases h with h | ⟨x, rfl, hc⟩
  · exact .inl h
  · refine .inr ⟨x, rfl, fun j u hu => hg.cell (hc j u hu) ?_⟩
    have : (x.add j).block = x.block := by unfold Addr.add; split <;> rfl
    rw [this]
    exact hne x rfl
theorem Src.one (w : World) (v : Value) (T : TypeId) : Src (w.alloc (.cells #[v] T)) (some ⟨w.heap.size, 0, none⟩) [v] := .inr ⟨_, rfl, cell_one_new w v T⟩

section
variable {P : Program} (w : World)

theorem run_append_src (t ty : TypeId) (base : Nat) (e : TypeId) (i : TypeInfo) (z : Value) (size bytes : Nat) (ht : P.underlying t = some (.slice e)) (hi : P.info? e = some i) (hz : i.zero = some z)
    (hsize : i.size = size) (hby : i.bytes = bytes) (hzs : z.cells.size = size) (hsz : 0 < size)
    (v : Value) (n : Nat) (xs : List Value) (hown : w.ownsRow base e size v n xs)
    (a : Option Addr) (m c : Nat) (news : List Value) (hc : a = none → m = 0 ∧ c = 0) (hl : news.length = m * size) (hsrc : Src w a news) (h1 : ∀ u ∈ news, u.oneCell' = true)
    (h63 : n + m ≤ maxLen) (hbytes : (n + m) * bytes ≤ 140737488355328) (hbase : base ≤ w.heap.size) :
    ∃ v' w', (Builtin.append_ #[t, t] ty #[v, .slice a m c]).run P w = .ok v' w' ∧ w'.ownsRow base e size v' (n + m) (xs ++ news) ∧ w.grownBy w' v.ownBlock ∧ (v'.ownBlock = v.ownBlock ∨ v'.ownBlock = some w.heap.size) := by
  rcases hsrc with ⟨rfl, rfl⟩ | ⟨x, rfl, hcell⟩
  · obtain ⟨rfl, rfl⟩ := hc rfl
    refine ⟨v, w, run_append_owned_none (P := P) (w := w) base t ty e i size ht hi v n xs hown, by simpa using hown, ⟨rfl, rfl, rfl, Nat.le_refl _, fun _ _ _ => rfl⟩, .inl rfl⟩
  · obtain ⟨v', w', hr, h2, h3, _, h5⟩ := run_append_own_at (P := P) w base t ty e i z size bytes ht hi hz hsize hby hzs hsz v n xs hown x m c news hl hcell h1 h63 hbytes hbase
    exact ⟨v', w', hr, h2, h3, h5⟩

theorem wp_append_src {o : Oper} {a : Act} {K : Act → World → Prop} {Q : Exit → Act → World → Prop} (s x : Operand) (t : TypeId)
    (ho : o.op = .call { callee := .builtin .append, args := #[s, x], argTypes := #[t, t] })
    (base : Nat) (e : TypeId) (i : TypeInfo) (z : Value) (size bytes : Nat) (ht : P.underlying t = some (.slice e)) (hi : P.info? e = some i) (hz : i.zero = some z)
    (hsize : i.size = size) (hby : i.bytes = bytes) (hzs : z.cells.size = size) (hsz : 0 < size)
    (v : Value) (n : Nat) (xs : List Value) (hs : a.eval s = v) (hown : w.ownsRow base e size v n xs)
    (ad : Option Addr) (m c : Nat) (news : List Value) (hx : a.eval x = .slice ad m c) (hc : ad = none → m = 0 ∧ c = 0) (hl : news.length = m * size) (hsrc : Src w ad news) (h1 : ∀ u ∈ news, u.oneCell' = true)
    (h63 : n + m ≤ maxLen) (hbytes : (n + m) * bytes ≤ 140737488355328) (hbase : base ≤ w.heap.size)
    (h : ∀ v' w', w'.ownsRow base e size v' (n + m) (xs ++ news) → w.grownBy w' v.ownBlock → (v'.ownBlock = v.ownBlock ∨ v'.ownBlock = some w.heap.size) → K (a.put o.dst v') w') : o.wp P a w K Q := by
  obtain ⟨v', w', hr, h2, h3, h4⟩ := run_append_src (P := P) w t o.type base e i z size bytes ht hi hz hsize hby hzs hsz v n xs hown ad m c news hc hl hsrc h1 h63 hbytes hbase
  unfold Oper.wp execOp
  simp only [ho, resolve, invoke, builtin, Sem.run_bind, Sem.run_pure, Result.andThen_ok, List.map_toArray, List.map_cons, List.map_nil, hs, hx, hr]
  exact h v' w' h2 h3 h4

theorem wpList_append_src {ops : Array Oper} {rest : List Oper} {o : Oper} {a : Act} {Q : Exit → Act → World → Prop} (hgd : o.guard = none) (s x : Operand) (t : TypeId)
    (ho : o.op = .call { callee := .builtin .append, args := #[s, x], argTypes := #[t, t] })
    (base : Nat) (e : TypeId) (i : TypeInfo) (z : Value) (size bytes : Nat) (ht : P.underlying t = some (.slice e)) (hi : P.info? e = some i) (hz : i.zero = some z)
    (hsize : i.size = size) (hby : i.bytes = bytes) (hzs : z.cells.size = size) (hsz : 0 < size)
    (v : Value) (n : Nat) (xs : List Value) (hs : a.eval s = v) (hown : w.ownsRow base e size v n xs)
    (ad : Option Addr) (m c : Nat) (news : List Value) (hx : a.eval x = .slice ad m c) (hc : ad = none → m = 0 ∧ c = 0) (hl : news.length = m * size) (hsrc : Src w ad news) (h1 : ∀ u ∈ news, u.oneCell' = true)
    (h63 : n + m ≤ maxLen) (hbytes : (n + m) * bytes ≤ 140737488355328) (hbase : base ≤ w.heap.size)
    (h : ∀ v' w', w'.ownsRow base e size v' (n + m) (xs ++ news) → w.grownBy w' v.ownBlock → (v'.ownBlock = v.ownBlock ∨ v'.ownBlock = some w.heap.size) → wpList P ops Q rest (a.put o.dst v') w') : wpList P ops Q (o :: rest) a w :=
  wpList_plain hgd fun _ hK => wp_append_src w s x t ho base e i z size bytes ht hi hz hsize hby hzs hsz v n xs hs hown ad m c news hx hc hl hsrc h1 h63 hbytes hbase fun v' w' h2 h3 h4 => hK _ _ (h v' w' h2 h3 h4)

theorem step_append_src {ops : Array Oper} {o : Oper} {a : Act} {K : Act → World → Prop} {Q : Exit → Act → World → Prop} {E : Prop} (hgd : o.guard = none) (s x : Operand) (t : TypeId)
    (ho : o.op = .call { callee := .builtin .append, args := #[s, x], argTypes := #[t, t] })
    (base : Nat) (e : TypeId) (i : TypeInfo) (z : Value) (size bytes : Nat) (ht : P.underlying t = some (.slice e)) (hi : P.info? e = some i) (hz : i.zero = some z)
    (hsize : i.size = size) (hby : i.bytes = bytes) (hzs : z.cells.size = size) (hsz : 0 < size)
    (v : Value) (n : Nat) (xs : List Value) (hs : a.eval s = v) (hown : w.ownsRow base e size v n xs)
    (ad : Option Addr) (m c : Nat) (news : List Value) (hx : a.eval x = .slice ad m c) (hc : ad = none → m = 0 ∧ c = 0) (hl : news.length = m * size) (hsrc : Src w ad news) (h1 : ∀ u ∈ news, u.oneCell' = true)
    (h63 : n + m ≤ maxLen) (hbytes : (n + m) * bytes ≤ 140737488355328) (hbase : base ≤ w.heap.size)
    (h : ∀ v' w', w'.ownsRow base e size v' (n + m) (xs ++ news) → w.grownBy w' v.ownBlock → (v'.ownBlock = v.ownBlock ∨ v'.ownBlock = some w.heap.size) → K (a.put o.dst v') w') :
    if Region.wanted o (yielded ops a.tmps) = true then Oper.wp P o a w K Q else E := by
  have hw : Region.wanted o (yielded ops a.tmps) = true := by simp [Region.wanted, hgd]
  rw [if_pos hw]
  exact wp_append_src w s x t ho base e i z size bytes ht hi hz hsize hby hzs hsz v n xs hs hown ad m c news hx hc hl hsrc h1 h63 hbytes hbase h
end

theorem oneCell_ints (k : IntKind) (zs : List Int) : ∀ u ∈ zs.map (Value.int k), u.oneCell' = true := by
  intro u hu
  obtain ⟨x, _, rfl⟩ := List.mem_map.1 hu
  rfl

end Go.Proofs.Ytbfdggppjcaplaa
