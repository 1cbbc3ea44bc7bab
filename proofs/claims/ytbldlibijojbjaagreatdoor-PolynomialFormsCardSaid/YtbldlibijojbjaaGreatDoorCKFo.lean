/-
  The law PolynomialForms returns true for every list of texts.
-/
import Derived.Test.YtbldlibijojbjaaGreatDoorTie
import Derived.Test.YtbldlibijojbjaaGreatDoorCards
import Derived.Test.YtbldlibijojbjaaGreatDoorCLFo
import Derived.SevenTiedAt
namespace Go.Proofs.YtbldlibijojbjaaGreatDoor.polynomialForms
set_option linter.unusedVariables false
set_option linter.unusedSimpArgs false
open Go.ChangeShapes Go.WideShapes Go.ChangeAt Go.RowKit Go.Proofs.YtbldlibijojbjaaGreatDoor.GB
theorem card_over : Rows.PolynomialFormsCardSaid :=
  Claim7.holds_tied_plain_at .later [] [.data, .data, .data, .sentinel, .sentinel] true (true, "162c9ec28e0c3b3e9ae1d7826622436b93979eaf0d461abb6270c553b90224ab") true
    over (fun _ h => by cases h) (by kernel_rfl) (fun _ h => by cases h) polynomialForms_row_tie rfl ⟨rfl, rfl⟩ (by kernel_rfl) rfl
    (fun f fn hf hfn => by
      obtain rfl : f = 3 := Option.some.inj ((show Tryz.prog.funcNamed "garboard/garboardlaw08.PolynomialForms" = some 3 by kernel_rfl).symm.trans hf) |>.symm
      obtain rfl : fn = Tryz.f3 := (Option.some.inj (Tryz.func3.symm.trans hfn)).symm
      exact ⟨by kernel_rfl, fun j t ht => by
        rw [Tryz.params3] at ht
        rcases j with _ | j
        · have e : t = 22 := by simpa using ht.symm
          subst e; exact wants_l
        · simp at ht
        ⟩)
    (by kernel_rfl)
end Go.Proofs.YtbldlibijojbjaaGreatDoor.polynomialForms
namespace Go.Proofs.YtbldlibijojbjaaGreatDoor
set_option linter.unusedVariables false
set_option linter.unusedSimpArgs false
/-- The card, under a short name, for the claim. -/
theorem polynomialForms_card_holds : Rows.PolynomialFormsCardSaid := polynomialForms.card_over
#print axioms polynomialForms_card_holds
end Go.Proofs.YtbldlibijojbjaaGreatDoor
