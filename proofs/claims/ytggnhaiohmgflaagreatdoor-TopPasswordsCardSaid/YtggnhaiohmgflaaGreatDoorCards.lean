/-
  DERIVED. GIVEN WITH THE SEED: THE CARDS: each row of YtggnhaiohmgflaaGreatDoorRows.lean that lists a variable, with what it lists TIED to the program's text (the seventh form; the later family's looks); each row that meets fmt, with fmt's text TOLD by the authors' own Lean function (tested against real Go, not proved from fmt's source: count such statements apart). THE CARD IS WHAT COUNTS. Prove the row's statement (the work); the ties are given (YtggnhaiohmgflaaGreatDoorTie.lean); close each card by the builder's one call (the guide's Derived/Test/ToyasCard.lean, 'card_holds'). Laid BY PROGRAM, IN A SANDBOX (cutbox-door.mjs). By AI agents, Wed Nov 11 2026. No macro, syntax, notation, axiom, sorry.
-/
import Derived.Test.YtggnhaiohmgflaaGreatDoorRows
import GoSem.ClaimSeven
namespace Go.Proofs.YtggnhaiohmgflaaGreatDoor
namespace Rows

/-- THE TIED CARD OF 'kerbsuitetop.TopPasswords'. -/
def topPasswordsCard : Claim7 := { stood := { row := topPasswordsRow, standIns := [], harness := (true, "a60f045b7456b4a30e04403f8cfe633fe61b6787fceae5509940bf983e3cd01d"), looks := false }, kinds := [], alts := [], laidByText := true, laidKinds := [.data], laidTests := true, laidLooks := .later }
def TopPasswordsCardSaid : Prop := Claim7.holds Tryz.pinned (.plain (OpenSpec.ofChange topPasswordsSpec)) topPasswordsCard

/-- THE SECOND FORM's CARD OF 'kerbsuitetop.TopPasswords'. -/
def topPasswordsUptoCard : Claim7 := { stood := { row := topPasswordsUptoRow, standIns := [], harness := (true, "a60f045b7456b4a30e04403f8cfe633fe61b6787fceae5509940bf983e3cd01d"), looks := false }, kinds := [], alts := [], laidByText := true, laidKinds := [.data], laidTests := true, laidLooks := .later }
def TopPasswordsUptoCardSaid : Prop := Claim7.holds Tryz.pinned (.plain (OpenSpec.upto topPasswordsSpec)) topPasswordsUptoCard
end Rows
end Go.Proofs.YtggnhaiohmgflaaGreatDoor
