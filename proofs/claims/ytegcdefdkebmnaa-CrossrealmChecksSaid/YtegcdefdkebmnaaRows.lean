/-
  No cell of these rows narrows 'for every input' (looked for: loops, veiled, ifaces, maps, wideKeys, modest, calm, conditions, laid).
  DERIVED. THE GIVEN ROWS OF THIS SEAT. 7 by the template 'for every input the law returns true; each argument reads behind the call as it read before'; 0 by the template 'total and deterministic' (their statements: YtegcdefdkebmnaaTotals.lean).
  GIVEN WITH THE SEED: the statements are not yours to turn. If you find one false, say at which input.
  Laid BY PROGRAM, IN A SANDBOX (cutbox-rows.mjs): the forced cells as the released guide's own fill.sh prints them over the translation 3cd9f4d443cb122e… (all of the seat's roots in one cut). By AI agents, Wed Nov 11 2026. No macro, syntax, notation, axiom, sorry.
-/
import Derived.Test.YtegcdefdkebmnaaChecked
import GoSem.Claim
import GoSem.ClaimJoined
import GoSem.ClaimMapViews
import Derived.JoinedTies
import Derived.KernelRfl
namespace Go.Proofs.Ytegcdefdkebmnaa
/- THE CELL 'sum', in the pinned program and in every row, IS THE sha256 OF THE DUMP (.gsa) THAT YtegcdefdkebmnaaProg.lean LOADS. Nothing in Lean hashes anything: it is a label: what it is worth is what the hold of that sum in a sandbox is worth. -/
noncomputable def Try.pinned : Pinned := { name := "ytegcdefdkebmnaa", sum := "3cd9f4d443cb122e5252c6a746fbcfc0022119b2191ce0b92c7cec5742448478", checked := Try.checked }
namespace Rows
def none {H : Type} : Left H := { results := [], args := [] }

/-- 'kerbsuitelaw16.ReplayChecks': WHATEVER THE INPUT: true; the input reads as it did. -/
def replayChecksSpec : ChangeSpec := { name := "replayChecks", fn := fun _ => fun
  | [d1, d2, d3, d4, d5, d6, d7] => { results := [.lit (.bool true)], args := [d1, d2, d3, d4, d5, d6, d7] }
  | _ => none }
def replayChecksRow : OpenClaim := { program := "ytegcdefdkebmnaa", sum := "3cd9f4d443cb122e5252c6a746fbcfc0022119b2191ce0b92c7cec5742448478", func := "kerbsuite/kerbsuitelaw16.ReplayChecks", spec := "replayChecks", inPlace := ["internal/bytealg.IndexByteString"], apart := false }
def ReplayChecksSaid : Prop := replayChecksRow.holds Try.pinned (OpenSpec.ofChange replayChecksSpec)

/-- ITS FALSE NEIGHBOUR: 'it returns false'. Refute it at one input. -/
def replayChecksWrong : ChangeSpec := { name := "replayChecks", fn := fun _ => fun
  | [d1, d2, d3, d4, d5, d6, d7] => { results := [.lit (.bool false)], args := [d1, d2, d3, d4, d5, d6, d7] }
  | _ => none }
def ReplayChecksWrongFalsely : Prop := replayChecksRow.holds Try.pinned (OpenSpec.ofChange replayChecksWrong)

/-- 'kerbsuitelaw16.ReplayAdds': WHATEVER THE INPUT: true; the input reads as it did. -/
def replayAddsSpec : ChangeSpec := { name := "replayAdds", fn := fun _ => fun
  | [d1, d2, d3, d4, d5, d6] => { results := [.lit (.bool true)], args := [d1, d2, d3, d4, d5, d6] }
  | _ => none }
def replayAddsRow : OpenClaim := { program := "ytegcdefdkebmnaa", sum := "3cd9f4d443cb122e5252c6a746fbcfc0022119b2191ce0b92c7cec5742448478", func := "kerbsuite/kerbsuitelaw16.ReplayAdds", spec := "replayAdds", inPlace := ["internal/bytealg.IndexByteString"], apart := false }
def ReplayAddsSaid : Prop := replayAddsRow.holds Try.pinned (OpenSpec.ofChange replayAddsSpec)

/-- ITS FALSE NEIGHBOUR: 'it returns false'. Refute it at one input. -/
def replayAddsWrong : ChangeSpec := { name := "replayAdds", fn := fun _ => fun
  | [d1, d2, d3, d4, d5, d6] => { results := [.lit (.bool false)], args := [d1, d2, d3, d4, d5, d6] }
  | _ => none }
def ReplayAddsWrongFalsely : Prop := replayAddsRow.holds Try.pinned (OpenSpec.ofChange replayAddsWrong)

/-- 'kerbsuitelaw16.ReplayAny': WHATEVER THE INPUT: true; the input reads as it did. -/
def replayAnySpec : ChangeSpec := { name := "replayAny", fn := fun _ => fun
  | [d1, d2, d3, d4, d5] => { results := [.lit (.bool true)], args := [d1, d2, d3, d4, d5] }
  | _ => none }
def replayAnyRow : OpenClaim := { program := "ytegcdefdkebmnaa", sum := "3cd9f4d443cb122e5252c6a746fbcfc0022119b2191ce0b92c7cec5742448478", func := "kerbsuite/kerbsuitelaw16.ReplayAny", spec := "replayAny", inPlace := ["internal/bytealg.IndexByteString"], apart := false }
def ReplayAnySaid : Prop := replayAnyRow.holds Try.pinned (OpenSpec.ofChange replayAnySpec)

/-- ITS FALSE NEIGHBOUR: 'it returns false'. Refute it at one input. -/
def replayAnyWrong : ChangeSpec := { name := "replayAny", fn := fun _ => fun
  | [d1, d2, d3, d4, d5] => { results := [.lit (.bool false)], args := [d1, d2, d3, d4, d5] }
  | _ => none }
def ReplayAnyWrongFalsely : Prop := replayAnyRow.holds Try.pinned (OpenSpec.ofChange replayAnyWrong)

/-- 'kerbsuitelaw16.ReplayOnce': WHATEVER THE INPUT: true; the input reads as it did. -/
def replayOnceSpec : ChangeSpec := { name := "replayOnce", fn := fun _ => fun
  | [d1, d2, d3] => { results := [.lit (.bool true)], args := [d1, d2, d3] }
  | _ => none }
def replayOnceRow : OpenClaim := { program := "ytegcdefdkebmnaa", sum := "3cd9f4d443cb122e5252c6a746fbcfc0022119b2191ce0b92c7cec5742448478", func := "kerbsuite/kerbsuitelaw16.ReplayOnce", spec := "replayOnce", inPlace := ["internal/bytealg.IndexByteString"], apart := false }
def ReplayOnceSaid : Prop := replayOnceRow.holds Try.pinned (OpenSpec.ofChange replayOnceSpec)

/-- ITS FALSE NEIGHBOUR: 'it returns false'. Refute it at one input. -/
def replayOnceWrong : ChangeSpec := { name := "replayOnce", fn := fun _ => fun
  | [d1, d2, d3] => { results := [.lit (.bool false)], args := [d1, d2, d3] }
  | _ => none }
def ReplayOnceWrongFalsely : Prop := replayOnceRow.holds Try.pinned (OpenSpec.ofChange replayOnceWrong)

/-- 'kerbsuitelaw14.CrossrealmChecks': WHATEVER THE INPUT: true; the input reads as it did. -/
def crossrealmChecksSpec : ChangeSpec := { name := "crossrealmChecks", fn := fun _ => fun
  | [d1, d2, d3, d4, d5, d6, d7, d8] => { results := [.lit (.bool true)], args := [d1, d2, d3, d4, d5, d6, d7, d8] }
  | _ => none }
def crossrealmChecksRow : OpenClaim := { program := "ytegcdefdkebmnaa", sum := "3cd9f4d443cb122e5252c6a746fbcfc0022119b2191ce0b92c7cec5742448478", func := "kerbsuite/kerbsuitelaw14.CrossrealmChecks", spec := "crossrealmChecks", inPlace := ["internal/bytealg.IndexByteString"], recurses := true, apart := false }
def CrossrealmChecksSaid : Prop := crossrealmChecksRow.holds Try.pinned (OpenSpec.ofChange crossrealmChecksSpec)

/-- ITS FALSE NEIGHBOUR: 'it returns false'. Refute it at one input. -/
def crossrealmChecksWrong : ChangeSpec := { name := "crossrealmChecks", fn := fun _ => fun
  | [d1, d2, d3, d4, d5, d6, d7, d8] => { results := [.lit (.bool false)], args := [d1, d2, d3, d4, d5, d6, d7, d8] }
  | _ => none }
def CrossrealmChecksWrongFalsely : Prop := crossrealmChecksRow.holds Try.pinned (OpenSpec.ofChange crossrealmChecksWrong)

/-- 'kerbsuitelaw14.CrossrealmPeers': WHATEVER THE INPUT: true; the input reads as it did. -/
def crossrealmPeersSpec : ChangeSpec := { name := "crossrealmPeers", fn := fun _ => fun
  | [d1, d2, d3] => { results := [.lit (.bool true)], args := [d1, d2, d3] }
  | _ => none }
def crossrealmPeersRow : OpenClaim := { program := "ytegcdefdkebmnaa", sum := "3cd9f4d443cb122e5252c6a746fbcfc0022119b2191ce0b92c7cec5742448478", func := "kerbsuite/kerbsuitelaw14.CrossrealmPeers", spec := "crossrealmPeers", inPlace := ["internal/bytealg.IndexByteString"], recurses := true, apart := false }
def CrossrealmPeersSaid : Prop := crossrealmPeersRow.holds Try.pinned (OpenSpec.ofChange crossrealmPeersSpec)

/-- ITS FALSE NEIGHBOUR: 'it returns false'. Refute it at one input. -/
def crossrealmPeersWrong : ChangeSpec := { name := "crossrealmPeers", fn := fun _ => fun
  | [d1, d2, d3] => { results := [.lit (.bool false)], args := [d1, d2, d3] }
  | _ => none }
def CrossrealmPeersWrongFalsely : Prop := crossrealmPeersRow.holds Try.pinned (OpenSpec.ofChange crossrealmPeersWrong)

/-- 'kerbsuitelaw14.CrossrealmFinds': WHATEVER THE INPUT: true; the input reads as it did. -/
def crossrealmFindsSpec : ChangeSpec := { name := "crossrealmFinds", fn := fun _ => fun
  | [d1, d2, d3, d4, d5, d6, d7, d8] => { results := [.lit (.bool true)], args := [d1, d2, d3, d4, d5, d6, d7, d8] }
  | _ => none }
def crossrealmFindsRow : OpenClaim := { program := "ytegcdefdkebmnaa", sum := "3cd9f4d443cb122e5252c6a746fbcfc0022119b2191ce0b92c7cec5742448478", func := "kerbsuite/kerbsuitelaw14.CrossrealmFinds", spec := "crossrealmFinds", inPlace := ["internal/bytealg.IndexByteString"], recurses := true, apart := false }
def CrossrealmFindsSaid : Prop := crossrealmFindsRow.holds Try.pinned (OpenSpec.ofChange crossrealmFindsSpec)

/-- ITS FALSE NEIGHBOUR: 'it returns false'. Refute it at one input. -/
def crossrealmFindsWrong : ChangeSpec := { name := "crossrealmFinds", fn := fun _ => fun
  | [d1, d2, d3, d4, d5, d6, d7, d8] => { results := [.lit (.bool false)], args := [d1, d2, d3, d4, d5, d6, d7, d8] }
  | _ => none }
def CrossrealmFindsWrongFalsely : Prop := crossrealmFindsRow.holds Try.pinned (OpenSpec.ofChange crossrealmFindsWrong)

/- THE SECOND FORM. 'bulk': how many values and letters a reading holds, each counted each time it is reached (what is shared counts as often as it is met; a slice's spare places count too). A statement '..UptoSaid' is the law's where the arguments, and the package variables that the reading takes, are together of bulk at most 1048576: NARROWER than '..Said'. Prove '..Said' where nothing that the law and all that it calls make is longer than what came in: it says more and counts as full. Else prove '..UptoSaid'. A law counts once. -/
mutual
def uptoBulk {H : Type} : DataW H → Nat
  | .lit (.string bytes) => bytes.length + 1
  | .lit _ => 1
  | .nil => 1
  | .ptr d => uptoBulk d + 1
  | .slice elems spare => uptoBulkAll elems + uptoBulkAll spare + 1
  | .agg parts => uptoBulkAll parts + 1
  | .iface _ d => uptoBulk d + 1
  | .map entries => uptoBulkEntries entries + 1
  | .held _ => 1
def uptoBulkAll {H : Type} : List (DataW H) → Nat
  | [] => 0
  | d :: r => uptoBulk d + uptoBulkAll r
def uptoBulkEntries {H : Type} : List (Lit × DataW H) → Nat
  | [] => 0
  | x :: r => uptoBulkEntry x + uptoBulkEntries r
def uptoBulkEntry {H : Type} : Lit × DataW H → Nat
  | (.string bytes, d) => bytes.length + uptoBulk d + 1
  | (_, d) => uptoBulk d + 1
 end
def uptoSmall : (H : Type) → List (DataW H) → Bool := fun _ ds => decide (uptoBulkAll ds ≤ 1048576)
def OpenSpec.upto (s : _root_.Go.ChangeSpec) : _root_.Go.OpenSpec := { _root_.Go.OpenSpec.ofChange s with cond := some uptoSmall }

/-- 'kerbsuitelaw16.ReplayChecks', WHERE WHAT IT READS IS OF BULK AT MOST 1048576: true; the input reads as it did. -/
def replayChecksUptoRow : OpenClaim := { program := "ytegcdefdkebmnaa", sum := "3cd9f4d443cb122e5252c6a746fbcfc0022119b2191ce0b92c7cec5742448478", func := "kerbsuite/kerbsuitelaw16.ReplayChecks", spec := "replayChecks", inPlace := ["internal/bytealg.IndexByteString"], apart := false, narrowed := true }
def ReplayChecksUptoSaid : Prop := replayChecksUptoRow.holds Try.pinned (OpenSpec.upto replayChecksSpec)

/-- 'kerbsuitelaw16.ReplayAdds', WHERE WHAT IT READS IS OF BULK AT MOST 1048576: true; the input reads as it did. -/
def replayAddsUptoRow : OpenClaim := { program := "ytegcdefdkebmnaa", sum := "3cd9f4d443cb122e5252c6a746fbcfc0022119b2191ce0b92c7cec5742448478", func := "kerbsuite/kerbsuitelaw16.ReplayAdds", spec := "replayAdds", inPlace := ["internal/bytealg.IndexByteString"], apart := false, narrowed := true }
def ReplayAddsUptoSaid : Prop := replayAddsUptoRow.holds Try.pinned (OpenSpec.upto replayAddsSpec)

/-- 'kerbsuitelaw16.ReplayAny', WHERE WHAT IT READS IS OF BULK AT MOST 1048576: true; the input reads as it did. -/
def replayAnyUptoRow : OpenClaim := { program := "ytegcdefdkebmnaa", sum := "3cd9f4d443cb122e5252c6a746fbcfc0022119b2191ce0b92c7cec5742448478", func := "kerbsuite/kerbsuitelaw16.ReplayAny", spec := "replayAny", inPlace := ["internal/bytealg.IndexByteString"], apart := false, narrowed := true }
def ReplayAnyUptoSaid : Prop := replayAnyUptoRow.holds Try.pinned (OpenSpec.upto replayAnySpec)

/-- 'kerbsuitelaw16.ReplayOnce', WHERE WHAT IT READS IS OF BULK AT MOST 1048576: true; the input reads as it did. -/
def replayOnceUptoRow : OpenClaim := { program := "ytegcdefdkebmnaa", sum := "3cd9f4d443cb122e5252c6a746fbcfc0022119b2191ce0b92c7cec5742448478", func := "kerbsuite/kerbsuitelaw16.ReplayOnce", spec := "replayOnce", inPlace := ["internal/bytealg.IndexByteString"], apart := false, narrowed := true }
def ReplayOnceUptoSaid : Prop := replayOnceUptoRow.holds Try.pinned (OpenSpec.upto replayOnceSpec)

/-- 'kerbsuitelaw14.CrossrealmChecks', WHERE WHAT IT READS IS OF BULK AT MOST 1048576: true; the input reads as it did. -/
def crossrealmChecksUptoRow : OpenClaim := { program := "ytegcdefdkebmnaa", sum := "3cd9f4d443cb122e5252c6a746fbcfc0022119b2191ce0b92c7cec5742448478", func := "kerbsuite/kerbsuitelaw14.CrossrealmChecks", spec := "crossrealmChecks", inPlace := ["internal/bytealg.IndexByteString"], recurses := true, apart := false, narrowed := true }
def CrossrealmChecksUptoSaid : Prop := crossrealmChecksUptoRow.holds Try.pinned (OpenSpec.upto crossrealmChecksSpec)

/-- 'kerbsuitelaw14.CrossrealmPeers', WHERE WHAT IT READS IS OF BULK AT MOST 1048576: true; the input reads as it did. -/
def crossrealmPeersUptoRow : OpenClaim := { program := "ytegcdefdkebmnaa", sum := "3cd9f4d443cb122e5252c6a746fbcfc0022119b2191ce0b92c7cec5742448478", func := "kerbsuite/kerbsuitelaw14.CrossrealmPeers", spec := "crossrealmPeers", inPlace := ["internal/bytealg.IndexByteString"], recurses := true, apart := false, narrowed := true }
def CrossrealmPeersUptoSaid : Prop := crossrealmPeersUptoRow.holds Try.pinned (OpenSpec.upto crossrealmPeersSpec)

/-- 'kerbsuitelaw14.CrossrealmFinds', WHERE WHAT IT READS IS OF BULK AT MOST 1048576: true; the input reads as it did. -/
def crossrealmFindsUptoRow : OpenClaim := { program := "ytegcdefdkebmnaa", sum := "3cd9f4d443cb122e5252c6a746fbcfc0022119b2191ce0b92c7cec5742448478", func := "kerbsuite/kerbsuitelaw14.CrossrealmFinds", spec := "crossrealmFinds", inPlace := ["internal/bytealg.IndexByteString"], recurses := true, apart := false, narrowed := true }
def CrossrealmFindsUptoSaid : Prop := crossrealmFindsUptoRow.holds Try.pinned (OpenSpec.upto crossrealmFindsSpec)

end Rows
end Go.Proofs.Ytegcdefdkebmnaa
