/- Contracts of box. -/
import Derived.Test.YtbfdggppjcaplaaBoxRead
namespace Go.Proofs.Ytbfdggppjcaplaa
open Go.RowKit

def openOk (b : List Int) (kind k : Int) : Bool := (readErr b == 0) && (boxEnd b == (b.length : Int)) && (boxKind b == kind) && (boxKey b == k)
def openOut (b : List Int) (kind k : Int) : List Int := if openOk b kind k then boxBody b else []
def isBox (b : List Int) : Bool := (readErr b == 0) && (boxEnd b == (b.length : Int))
def OpenPost (b : List Int) (kind k : Int) (w : World) (e : Ending) (w' : World) : Prop :=
  ∃ v, e = .returned (.tuple #[v, .bool (openOk b kind k)]) ∧ Own .u8 5 w w' v (openOut b kind k)
theorem ret_vb {v : Value} {a b : Bool} (h : a = b) : Ending.returned (.tuple #[v, .bool a]) = .returned (.tuple #[v, .bool b]) := by rw [h]

set_option maxRecDepth 100000 in
set_option maxHeartbeats 2000000 in
theorem boxOpen_any (kind k : Int) (a : Option Addr) (len cap : Nat) (zs : List Int) (w : World) (hr : Row .u8 w a len zs) (hb : ∀ x ∈ zs, 0 ≤ x ∧ x ≤ 255) (hcap : len ≤ cap) (hcm : cap ≤ 9223372036854775807) :
    Calls Try.prog 40 #[.slice a len cap, .int .i64 kind, .int .u64 k] w (OpenPost zs kind k w) := by
  have HL := Lib.hid hr.1
  have HR := Lib.hid hr
  have HB := Lib.hid hb
  clear hr hb
  obtain ⟨er, HER⟩ : ∃ x, Hid (readErr zs = x) := ⟨_, rfl⟩
  by_cases h0 : er = 0
  case neg =>
    have HO := Lib.hid (show openOk zs kind k = false ∧ openOut zs kind k = [] by
      have h1 : openOk zs kind k = false := by simp [openOk, HER.out, h0]
      exact ⟨h1, by simp [openOut, h1]⟩)
    have c1 : (er != 0) = true := by simpa using h0
    have c2 : (er == 0) = false := by simpa using h0
    clear h0
    go_enter Try.func40, Try.ntmps40
    go_wp2_with fail
    refine (boxRead_any _ _ _ zs _ HR.out HB.out hcap hcm).mono ?_
    rintro e w1 ⟨v, rfl, hown⟩
    obtain ⟨va, vcap, hv⟩ := own_is hown
    have HOWN := Lib.hid hown
    have HV := Lib.hid hv
    rw [hv]
    clear hown hv
    rw [HER.out]
    go_wp2
    go_ret2
    exact ⟨_, ret_vb HO.out.1.symm, by rw [HO.out.2]; exact ⟨World.ownsRow_nil _ _ _ _, HOWN.out.2.alloc HOWN.out.2.size _⟩⟩
  subst h0
  obtain ⟨en, HEN⟩ : ∃ x, Hid (boxEnd zs = x) := ⟨_, rfl⟩
  obtain ⟨ki, HKI⟩ : ∃ x, Hid (boxKind zs = x) := ⟨_, rfl⟩
  obtain ⟨ke, HKE⟩ : ∃ x, Hid (boxKey zs = x) := ⟨_, rfl⟩
  by_cases h1 : en = (len : Int)
  case neg =>
    have HO := Lib.hid (show openOk zs kind k = false ∧ openOut zs kind k = [] by
      have h2 : openOk zs kind k = false := by simp [openOk, HEN.out, HL.out, h1]
      exact ⟨h2, by simp [openOut, h2]⟩)
    have c1 : (en != (len : Int)) = true := by simpa using h1
    have c2 : (en == (len : Int)) = false := by simpa using h1
    clear h1
    go_enter Try.func40, Try.ntmps40
    go_wp2_with fail
    refine (boxRead_any _ _ _ zs _ HR.out HB.out hcap hcm).mono ?_
    rintro e w1 ⟨v, rfl, hown⟩
    obtain ⟨va, vcap, hv⟩ := own_is hown
    have HOWN := Lib.hid hown
    have HV := Lib.hid hv
    rw [hv]
    clear hown hv
    rw [HER.out, HEN.out]
    go_wp2
    go_ret2
    exact ⟨_, ret_vb HO.out.1.symm, by rw [HO.out.2]; exact ⟨World.ownsRow_nil _ _ _ _, HOWN.out.2.alloc HOWN.out.2.size _⟩⟩
  have d1 : (en != (len : Int)) = false := by simpa using h1
  have d1' : (en == (len : Int)) = true := by simpa using h1
  have H1 := Lib.hid h1
  clear h1
  by_cases h2 : ki = kind
  case neg =>
    have HO := Lib.hid (show openOk zs kind k = false ∧ openOut zs kind k = [] by
      have h3 : openOk zs kind k = false := by simp [openOk, HKI.out, h2]
      exact ⟨h3, by simp [openOut, h3]⟩)
    have c1 : (ki != kind) = true := by simpa using h2
    have c2 : (ki == kind) = false := by simpa using h2
    clear h2
    go_enter Try.func40, Try.ntmps40
    go_wp2_with fail
    refine (boxRead_any _ _ _ zs _ HR.out HB.out hcap hcm).mono ?_
    rintro e w1 ⟨v, rfl, hown⟩
    obtain ⟨va, vcap, hv⟩ := own_is hown
    have HOWN := Lib.hid hown
    have HV := Lib.hid hv
    rw [hv]
    clear hown hv
    rw [HER.out, HEN.out, HKI.out]
    go_wp2
    go_ret2
    exact ⟨_, ret_vb HO.out.1.symm, by rw [HO.out.2]; exact ⟨World.ownsRow_nil _ _ _ _, HOWN.out.2.alloc HOWN.out.2.size _⟩⟩
  have d2 : (ki != kind) = false := by simpa using h2
  have d2' : (ki == kind) = true := by simpa using h2
  have H2 := Lib.hid h2
  clear h2
  by_cases h3 : ke = k
  case neg =>
    have HO := Lib.hid (show openOk zs kind k = false ∧ openOut zs kind k = [] by
      have h4 : openOk zs kind k = false := by simp [openOk, HKE.out, h3]
      exact ⟨h4, by simp [openOut, h4]⟩)
    have c1 : (ke != k) = true := by simpa using h3
    have c2 : (ke == k) = false := by simpa using h3
    clear h3
    go_enter Try.func40, Try.ntmps40
    go_wp2_with fail
    refine (boxRead_any _ _ _ zs _ HR.out HB.out hcap hcm).mono ?_
    rintro e w1 ⟨v, rfl, hown⟩
    obtain ⟨va, vcap, hv⟩ := own_is hown
    have HOWN := Lib.hid hown
    have HV := Lib.hid hv
    rw [hv]
    clear hown hv
    rw [HER.out, HEN.out, HKI.out, HKE.out]
    go_wp2
    go_ret2
    exact ⟨_, ret_vb HO.out.1.symm, by rw [HO.out.2]; exact ⟨World.ownsRow_nil _ _ _ _, HOWN.out.2.alloc HOWN.out.2.size _⟩⟩
  case pos =>
    have HO := Lib.hid (show openOk zs kind k = true ∧ openOut zs kind k = boxBody zs by
      have h4 : openOk zs kind k = true := by simp [openOk, HER.out, HEN.out, HKI.out, HKE.out, HL.out, H1.out, H2.out, h3]
      exact ⟨h4, by simp [openOut, h4]⟩)
    have c1 : (ke != k) = false := by simpa using h3
    have c2 : (ke == k) = true := by simpa using h3
    clear h3
    go_enter Try.func40, Try.ntmps40
    go_wp2_with fail
    refine (boxRead_any _ _ _ zs _ HR.out HB.out hcap hcm).mono ?_
    rintro e w1 ⟨v, rfl, hown⟩
    obtain ⟨va, vcap, hv⟩ := own_is hown
    have HOWN := Lib.hid hown
    have HV := Lib.hid hv
    rw [hv]
    clear hown hv
    rw [HER.out, HEN.out, HKI.out, HKE.out]
    go_wp2
    go_ret2
    refine ⟨_, ret_vb HO.out.1.symm, ?_⟩
    rw [HO.out.2]
    have h := HOWN.out
    rw [HV.out] at h
    exact ⟨h.1.alloc _, h.2.alloc h.2.size _⟩

set_option maxRecDepth 100000 in
set_option maxHeartbeats 2000000 in
theorem boxIs_any (a : Option Addr) (len cap : Nat) (zs : List Int) (w : World) (hr : Row .u8 w a len zs) (hb : ∀ x ∈ zs, 0 ≤ x ∧ x ≤ 255) (hcap : len ≤ cap) (hcm : cap ≤ 9223372036854775807) :
    Calls Try.prog 38 #[.slice a len cap] w fun e w' => e = .returned (.bool (isBox zs)) ∧ Below w.heap.size w w' := by
  have HL := Lib.hid hr.1
  have HR := Lib.hid hr
  have HB := Lib.hid hb
  clear hr hb
  obtain ⟨er, HER⟩ : ∃ x, Hid (readErr zs = x) := ⟨_, rfl⟩
  obtain ⟨en, HEN⟩ : ∃ x, Hid (boxEnd zs = x) := ⟨_, rfl⟩
  cases h0 : (er == 0)
  case' false => have HO := Lib.hid (show isBox zs = false by simp [isBox, HER.out, h0])
  case' true => have HO := Lib.hid (show isBox zs = (en == (len : Int)) by simp [isBox, HER.out, HEN.out, HL.out, h0])
  all_goals
    go_enter Try.func38, Try.ntmps38
    go_wp2_with fail
    refine (boxRead_any _ _ _ zs _ HR.out HB.out hcap hcm).mono ?_
    rintro e w1 ⟨v, rfl, hown⟩
    obtain ⟨va, vcap, hv⟩ := own_is hown
    have HOWN := Lib.hid hown
    rw [hv, HER.out, HEN.out]
    clear hown hv
    go_wp2
    go_ret
    exact ⟨ret_bool HO.out.symm, HOWN.out.2.alloc HOWN.out.2.size _⟩
end Go.Proofs.Ytbfdggppjcaplaa
