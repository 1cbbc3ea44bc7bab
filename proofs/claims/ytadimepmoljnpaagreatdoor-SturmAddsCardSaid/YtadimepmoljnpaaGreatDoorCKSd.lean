/-
  SturmAdds returns true at every input: the counts of roots on both sides of a place add up, by the theorem of Sturm over the rational numbers.
-/
import Derived.Test.YtadimepmoljnpaaGreatDoorTie
import Derived.Test.YtadimepmoljnpaaGreatDoorCards
import Derived.Test.YtadimepmoljnpaaGreatDoorCLSd
import Derived.SevenTiedAt
namespace Go.Proofs.YtadimepmoljnpaaGreatDoor.sturmAdds
set_option linter.unusedVariables false
set_option linter.unusedSimpArgs false
open Go.ChangeShapes Go.WideShapes Go.ChangeAt Go.RowKit Go.Proofs.YtadimepmoljnpaaGreatDoor.GB
theorem card_over : Rows.SturmAddsCardSaid :=
  Claim7.holds_tied_plain_at .later [] [.data, .data, .data, .sentinel, .sentinel] true (true, "c4c67dc55bda1bd5daf08a814b081f1ca79da6dcee452743d0b4e50a28747a9b") true
    over (fun _ h => by cases h) (by kernel_rfl) (fun _ h => by cases h) sturmAdds_row_tie rfl ⟨rfl, rfl⟩ (by kernel_rfl) rfl
    (fun f fn hf hfn => by
      obtain rfl : f = 6 := Option.some.inj ((show Tryz.prog.funcNamed "garboard/garboardlaw09.SturmAdds" = some 6 by kernel_rfl).symm.trans hf) |>.symm
      obtain rfl : fn = Tryz.f6 := (Option.some.inj (Tryz.func6.symm.trans hfn)).symm
      exact ⟨by kernel_rfl, fun j t ht => by
        rw [Tryz.params6] at ht
        rcases j with _ | _ | _ | j
        · have e : t = 23 := by simpa using ht.symm
          subst e; exact wants_p
        · have e : t = 26 := by simpa using ht.symm
          subst e; exact wants_i
        · have e : t = 24 := by simpa using ht.symm
          subst e; exact wants_s
        · simp at ht
        ⟩)
    (by kernel_rfl)
end Go.Proofs.YtadimepmoljnpaaGreatDoor.sturmAdds
namespace Go.Proofs.YtadimepmoljnpaaGreatDoor
set_option linter.unusedVariables false
set_option linter.unusedSimpArgs false
/-- The card, under a short name, for the claim. -/
theorem sturmAdds_card_holds : Rows.SturmAddsCardSaid := sturmAdds.card_over
#print axioms sturmAdds_card_holds
end Go.Proofs.YtadimepmoljnpaaGreatDoor
