/- TopPasswords answers true for every input, and each argument reads afterwards as it read before; the listed variable is tied to the text of the program. No conditions. -/
import Derived.Test.YtggnhaiohmgflaaGreatDoorKY
import Derived.Test.YtggnhaiohmgflaaGreatDoorKX
import Derived.Test.YtggnhaiohmgflaaGreatDoorTie
import Derived.Test.YtggnhaiohmgflaaGreatDoorCards
import Derived.SevenTiedAt
set_option linter.unusedVariables false
set_option linter.unusedSimpArgs false
namespace Go.Proofs.YtggnhaiohmgflaaGreatDoor.topPasswords
theorem named : Tryz.prog.funcNamed Rows.topPasswordsRow.func = some 3 := by kernel_rfl
theorem inst : Tryz.f3.isInstance Tryz.prog Rows.topPasswordsRow.origin Rows.topPasswordsRow.targs := of_decide_eq_true (by kernel_rfl)
theorem wrap : Tryz.f3.isWrapper Tryz.prog Rows.topPasswordsRow.wrapper Rows.topPasswordsRow.mainSum := by
  unfold Func.isWrapper; first | (rw [if_pos (by decide +kernel)]; kernel_rfl) | (rw [if_neg (by decide +kernel)]; exact ⟨rfl, rfl⟩)
theorem over : Rows.TopPasswordsSaid :=
  OpenClaim.holds_of_wide (p := Tryz.pinned) 3 Tryz.f3 rfl rfl rfl rfl rfl rfl rfl ⟨rfl, rfl, rfl, rfl, rfl⟩ rfl rfl rfl rfl rfl named Tryz.func3 closed inst wrap
    (fun os started H enc _ => lifted os started H enc)
theorem byText : Rows.topPasswordsRow.wfByText (OpenSpec.ofChange Rows.topPasswordsSpec) = true := by kernel_rfl
theorem mainIs : Tryz.prog.mainIs = some (true, "a60f045b7456b4a30e04403f8cfe633fe61b6787fceae5509940bf983e3cd01d".toList) := by kernel_rfl
theorem looksN : false = Tryz.prog.looks [] := by kernel_rfl
theorem wantsN : ([24, 5, 5, 4].all fun u => !Tryz.prog.wantsStandIn u) = true := by kernel_rfl
theorem goesN : false = Rows.topPasswordsRow.goesBy Tryz.prog := by kernel_rfl

/-- THE STATEMENT -/
theorem proved : Rows.TopPasswordsCardSaid :=
  Claim7.holds_tied_plain_at .later [] [.data] true (true, "a60f045b7456b4a30e04403f8cfe633fe61b6787fceae5509940bf983e3cd01d") false
    over (fun _ h => by cases h) byText (fun _ h => by cases h) topPasswords_row_tie rfl ⟨rfl, rfl⟩ mainIs rfl
    (fun f fn hf hfn => by
      obtain rfl : f = 3 := Option.some.inj (named.symm.trans hf) |>.symm
      obtain rfl : fn = Tryz.f3 := (Option.some.inj (Tryz.func3.symm.trans hfn)).symm
      exact ⟨looksN, fun j t ht => by
        rw [Tryz.params3] at ht
        have hm : t ∈ [24, 5, 5, 4] := by simpa using Array.mem_of_getElem? ht
        exact (show Tryz.prog.wantsStandIn t = false by simpa using List.all_eq_true.1 wantsN t hm)⟩)
    goesN
#print axioms proved
end Go.Proofs.YtggnhaiohmgflaaGreatDoor.topPasswords
