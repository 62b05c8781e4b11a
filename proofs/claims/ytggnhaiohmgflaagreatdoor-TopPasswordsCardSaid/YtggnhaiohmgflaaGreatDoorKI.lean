/- The arguments of TopPasswords, told. No conditions. -/
import Derived.Test.YtggnhaiohmgflaaGreatDoorKW
set_option linter.unusedVariables false
set_option linter.unusedSimpArgs false
namespace Go.Proofs.YtggnhaiohmgflaaGreatDoor.Sx
open Go
noncomputable def okTrue : OpR → Bool := OpR.rec (motive := fun _ => Bool) (fun v _ => onBool false (fun b => b) v) (fun _ => false)
theorem okTrue_eq {r : OpR} (h : okTrue r = true) : ∃ h1, r = .ok (.b true) h1 := by
  cases r with
  | err s => cases h
  | ok v h1 =>
    have h : onBool false (fun b => b) v = true := h
    cases v with
    | b x => cases x with
      | true => exact ⟨h1, rfl⟩
      | false => cases h
    | _ => cases h
/-- awake is known to be true -/
noncomputable def awakeN : CallF := fun args h => match args with | [] => .ok (.b true) h | _ => .err "awake"
noncomputable def C2 : Ctx := { nat := fun f => match Nat.beq f 4 with | true => some awakeN | false => T.get nats f, fn := T.get fns }
def inp (i : Nat) (lo hi : Int) : E := .lin 0 [(1, ⟨i, lo, hi, 0, 0, 0⟩)]
/-- the byte orders: bits r and c are told -/
def orders (r c : Nat) (br bc : Int) : E :=
  .lin (br * (2 : Int) ^ r + bc * (2 : Int) ^ c) (((List.range 6).filter (fun j => j != r && j != c)).map (fun j => ((2 : Int) ^ j, (⟨10 + j, 0, 1, 0, 0, 0⟩ : At))) ++ [(64, ⟨16, 0, 3, 0, 0, 0⟩)])
def setup (o : E) (lo hi : Int) : V :=
  .g ((List.range 5).map (fun i => V.i .u8 (inp i 0 255)) ++ [.i .u8 o, .i .u8 (inp 5 0 255), .i .u8 (inp 6 0 255), .i .u8 (inp 7 lo hi), .i .u8 (inp 8 0 255)])
def argsP (who : Nat) (o : E) (lo hi : Int) (ka : Bool) : List V :=
  [setup o lo hi, .i .u8 (.lin who [(4, ⟨20, 0, 63, 0, 0, 0⟩)]), .i .u8 (inp 21 0 255), .b ka]
/-- a run with the bits r, c of the orders told -/
noncomputable def runP (who : Nat) (br bc lo hi : Int) : Bool := okTrue (callF C2 60 3 (argsP who (orders (who / 2) (2 + who) br bc) lo hi false) h0)
/-- a run by way of the kaserver -/
noncomputable def runK (who : Nat) : Bool := okTrue (callF C2 60 3 (argsP who (inp 9 0 255) 0 255 true) h0)
end Go.Proofs.YtggnhaiohmgflaaGreatDoor.Sx
