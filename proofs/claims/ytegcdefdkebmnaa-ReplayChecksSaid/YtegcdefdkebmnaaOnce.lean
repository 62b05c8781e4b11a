/- The state of ReplayOnce's loop: what an append and a store leave of it. -/
import Derived.Test.YtegcdefdkebmnaaRep
namespace Go.Proofs.Ytegcdefdkebmnaa
open Go.RowKit

theorem own_lt {w : World} {base : Nat} {e : TypeId} {size : Nat} {v : Value} {n : Nat} {xs : List Value} {q : Nat} (h : w.ownsRow base e size v n xs) (hq : v.ownBlock = some q) : q < w.heap.size ∧ base ≤ q := by
  rcases h.2 with ⟨rfl, _⟩ | ⟨g, cap, cur, rfl, hg, hh, _⟩
  · cases hq
  · cases hq
    exact ⟨lt_of_block hh, hg⟩
theorem RS.grown {w0 X X' : World} {G : Nat} {z f : Int} {ms : List Mk} {a : Option Addr} {cap : Nat} {row : Option Nat} (h : RS w0 G z f ms a cap X) (hg : X.grownBy X' row) (hr : ∀ q, row = some q → w0.heap.size ≤ q ∧ q ≠ G ∧ ∀ x, a = some x → ms.length ≠ 0 → x.block ≠ q) : RS w0 G z f ms a cap X' := by
  obtain ⟨h1, h2, h3, h4, h5, h6, h7⟩ := h
  exact ⟨(hg.block G (lt_of_block h1) (fun e => (hr G e.symm).2.1 rfl)).trans h1, h2.grown (fun x hx h0 e => (hr x.block e.symm).2.2 x hx h0 rfl) hg, h3, h4, h5.grown hg h5.size (fun q hq => (hr q hq).1), h6, h7⟩
theorem MV.grown {X X' : World} {G : Nat} {x : Mk} {row : Option Nat} (h : MV X G x) (hg : X.grownBy X' row) (hr : some G ≠ row) : MV X' G x :=
  ⟨hg.cell h.1 hr, hg.cell h.2.1 hr, hg.cell h.2.2.1 hr, hg.cell h.2.2.2.1 hr, hg.cell h.2.2.2.2 hr⟩

/-- the state of the loop: the cache (z, f, ms) in block G, and the row v of the marks that were added -/
def St (w : World) (G : Nat) (z f : Int) (ms : List Mk) (a : Option Addr) (cp : Nat) (v : Value) (A : List Mk) (X : World) : Prop :=
  RS w G z f ms a cp X ∧ checkErr z f ms = 0 ∧ (∀ x ∈ ms, x.ok) ∧ Seen f ms A ∧ X.ownsRow w.heap.size 36 5 v A.length (mcells A) ∧
    (∀ q, v.ownBlock = some q → q ≠ G ∧ ∀ x, a = some x → ms.length ≠ 0 → x.block ≠ q)
theorem St.below {w X X' : World} {G : Nat} {z f : Int} {ms : List Mk} {a : Option Addr} {cp : Nat} {v : Value} {A : List Mk} (h : St w G z f ms a cp v A X) (hb : Below X.heap.size X X') : St w G z f ms a cp v A X' :=
  ⟨h.1.below hb, h.2.1, h.2.2.1, h.2.2.2.1, ownsRow_below h.2.2.2.2.1 hb, h.2.2.2.2.2⟩
/-- the next cache (z2, f2, m2) in block N, which lies with its marks from B on; the mark m in block M -/
def Nx (w : World) (B G N M : Nat) (z f : Int) (ms : List Mk) (a : Option Addr) (cp : Nat) (z2 f2 : Int) (m2 : List Mk) (a2 : Option Addr) (cp2 : Nat) (m : Mk) (v : Value) (X : World) : Prop :=
  RS w G z f ms a cp X ∧ RS w N z2 f2 m2 a2 cp2 X ∧ MV X M m ∧ G < B ∧ B ≤ N ∧ (∀ x, a2 = some x → B ≤ x.block) ∧
    (∀ q, v.ownBlock = some q → q ≠ G ∧ q ≠ N ∧ ∀ x, a2 = some x → m2.length ≠ 0 → x.block ≠ q)
theorem St.nx {w X X1 : World} {B G N M : Nat} {z f : Int} {ms : List Mk} {a : Option Addr} {cp : Nat} {v v' : Value} {A : List Mk} {z2 f2 : Int} {m2 : List Mk} {a2 : Option Addr} {cp2 : Nat} {m : Mk} {o : Obj}
    (h : St w G z f ms a cp v A X) (h2 : RS w N z2 f2 m2 a2 cp2 X) (hm : MV X M m) (hG : G < B) (hN : B ≤ N) (ha : ∀ x, a2 = some x → B ≤ x.block) (hv : ∀ q, v.ownBlock = some q → q < B ∧ q ≠ M)
    (hg : (X.alloc o).grownBy X1 v.ownBlock) (hat : v'.ownBlock = v.ownBlock ∨ v'.ownBlock = some (X.heap.size + 1)) : Nx w B G N M z f ms a cp z2 f2 m2 a2 cp2 m v' X1 := by
  have hg' : X.grownBy X1 v.ownBlock := (World.grownBy_alloc X o v.ownBlock).trans hg
  have hs : (X.alloc o).heap.size = X.heap.size + 1 := by simp
  refine ⟨h.1.grown hg' (fun q hq => ⟨(own_lt h.2.2.2.2.1 hq).2, (h.2.2.2.2.2 q hq).1, (h.2.2.2.2.2 q hq).2⟩), h2.grown hg' (fun q hq => ⟨(own_lt h.2.2.2.2.1 hq).2, ?_, ?_⟩), hm.grown hg' (fun e => (hv M e.symm).2 rfl), hG, hN, ha, fun q hq => ?_⟩
  · have := (hv q hq).1; omega
  · intro x hx _; have := (hv q hq).1; have := ha x hx; omega
  · rcases hat with e | e
    · rw [e] at hq
      refine ⟨(h.2.2.2.2.2 q hq).1, ?_, ?_⟩
      · have := (hv q hq).1; omega
      · intro x hx _; have := (hv q hq).1; have := ha x hx; omega
    · rw [e] at hq
      injection hq with hq
      have h1 := h.1.cells.2.2.2.2.2.2
      have h3 := h2.cells.2.2.2.2.2.2
      refine ⟨by omega, by omega, fun x hx h0 => ?_⟩
      have := h2.2.1.lt (by omega) x hx h0
      omega
theorem Nx.below {w X X1 : World} {B G N M : Nat} {z f : Int} {ms : List Mk} {a : Option Addr} {cp : Nat} {v : Value} {z2 f2 : Int} {m2 : List Mk} {a2 : Option Addr} {cp2 : Nat} {m : Mk} (h : Nx w B G N M z f ms a cp z2 f2 m2 a2 cp2 m v X) (hb : Below X.heap.size X X1) : Nx w B G N M z f ms a cp z2 f2 m2 a2 cp2 m v X1 :=
  ⟨h.1.below hb, h.2.1.below hb, h.2.2.1.below hb, h.2.2.2⟩
theorem Nx.st {w X : World} {B G N M : Nat} {z f : Int} {ms : List Mk} {a : Option Addr} {cp : Nat} {v : Value} {z2 f2 : Int} {m2 : List Mk} {a2 : Option Addr} {cp2 : Nat} {m : Mk} {A : List Mk} (h : Nx w B G N M z f ms a cp z2 f2 m2 a2 cp2 m v X)
    (hc : checkErr z2 f2 m2 = 0) (hok : ∀ x ∈ m2, x.ok) (hs : Seen f2 m2 A) (ho : X.ownsRow w.heap.size 36 5 v A.length (mcells A)) :
    St w G z2 f2 m2 a2 cp2 v A (((X.setCell ⟨G, 0, none⟩ (.int .i64 z2)).setCell ⟨G, 1, none⟩ (.int .i64 f2)).setCell ⟨G, 2, none⟩ (.slice a2 m2.length cp2)) := by
  obtain ⟨h1, h2, h3, h4, h5, h6, h7⟩ := h
  have hg0 : X.grownBy X (some G) := ⟨rfl, rfl, rfl, Nat.le_refl _, fun _ _ _ => rfl⟩
  have hg := grown_set (grown_set (grown_set hg0 0 (.int .i64 z2)) 1 (.int .i64 f2)) 2 (.slice a2 m2.length cp2)
  refine ⟨h1.store h2.2.1 h2.2.2.1 h2.2.2.2.1 (fun x hx _ => ?_), hc, hok, hs, ho.kept hg ?_, fun q hq => ⟨(h7 q hq).1, (h7 q hq).2.2⟩⟩
  · have := h6 x hx; omega
  · cases hv : v.ownBlock with
    | none => exact .inl rfl
    | some q => exact .inr (fun e => by injection e with e; exact (h7 q hv).1 e)
/-- all that Add's answer is good for -/
theorem add_all {z f : Int} {ms A : List Mk} {m : Mk} {now skew : Int} (h : addErr z f ms m now skew = 0) (hs : Seen f ms A) (hok : ∀ x ∈ ms, x.ok) (hm : m.ok) :
    f ≤ addF z f ms m now skew ∧ ((addM z f ms m now skew).length : Int) ≤ addZ z f ms m now skew ∧ checkErr (addZ z f ms m now skew) (addF z f ms m now skew) (addM z f ms m now skew) = 0 ∧ hasB (addM z f ms m now skew) m = true ∧
      Seen (addF z f ms m now skew) (addM z f ms m now skew) (A ++ [m]) ∧ (∀ x ∈ addM z f ms m now skew, x.ok) ∧ (addM z f ms m now skew).length ≤ 40 := by
  have hk := addM_ok (z := z) (f := f) (now := now) (skew := skew) hok hm
  have hc := add_check h
  have hb := check_iff.1 hc
  have hf := (add_floor h).1
  have hn := seen_add h hs
  have e1 : addZ z f ms m now skew = z := by rw [addZ, if_pos h]
  have e2 : addF z f ms m now skew = floorOf f now skew := by rw [addF, if_pos h]
  have e3 : addM z f ms m now skew = keepM (floorOf f now skew) ms ++ [m] := by rw [addM, if_pos h]
  rw [e3] at hk
  rw [e1, e2, e3]
  refine ⟨hf, hb.2.2.1, hc, ?_, hn, hk, ?_⟩
  · rw [hasB, List.contains_iff_mem]; simp
  · have := hb.1; have := hb.2.2.1; omega
end Go.Proofs.Ytegcdefdkebmnaa
