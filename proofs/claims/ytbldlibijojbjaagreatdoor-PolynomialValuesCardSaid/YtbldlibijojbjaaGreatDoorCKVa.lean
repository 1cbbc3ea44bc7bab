/-
  For all lists of texts p and r and all texts x and a the law PolynomialValues of chapter 08 returns true, and the lists and texts read afterwards as before: the card of the row. Conditions: the listed package-level variables hold what the row says, and the card ties them to the text of the program.
-/
import Derived.Test.YtbldlibijojbjaaGreatDoorTie
import Derived.Test.YtbldlibijojbjaaGreatDoorCards
import Derived.Test.YtbldlibijojbjaaGreatDoorCLVa
import Derived.SevenTiedAt
namespace Go.Proofs.YtbldlibijojbjaaGreatDoor.polynomialValues
set_option linter.unusedVariables false
set_option linter.unusedSimpArgs false
open Go.ChangeShapes Go.WideShapes Go.ChangeAt Go.RowKit Go.Proofs.YtbldlibijojbjaaGreatDoor.GB
theorem card_over : Rows.PolynomialValuesCardSaid :=
  Claim7.holds_tied_plain_at .later [] [.data, .data, .data, .sentinel, .sentinel] true (true, "162c9ec28e0c3b3e9ae1d7826622436b93979eaf0d461abb6270c553b90224ab") true
    over (fun _ h => by cases h) (by kernel_rfl) (fun _ h => by cases h) polynomialValues_row_tie rfl ⟨rfl, rfl⟩ (by kernel_rfl) rfl
    (fun f fn hf hfn => by
      obtain rfl : f = 7 := Option.some.inj ((show Tryz.prog.funcNamed "garboard/garboardlaw08.PolynomialValues" = some 7 by kernel_rfl).symm.trans hf) |>.symm
      obtain rfl : fn = Tryz.f7 := (Option.some.inj (Tryz.func7.symm.trans hfn)).symm
      exact ⟨by kernel_rfl, fun j t ht => by
        rw [Tryz.params7] at ht
        rcases j with _ | _ | _ | _ | j
        · have e : t = 25 := by simpa using ht.symm
          subst e; exact wants_p
        · have e : t = 25 := by simpa using ht.symm
          subst e; exact wants_p
        · have e : t = 30 := by simpa using ht.symm
          subst e; exact wants_s
        · have e : t = 30 := by simpa using ht.symm
          subst e; exact wants_s
        · simp at ht
        ⟩)
    (by kernel_rfl)
end Go.Proofs.YtbldlibijojbjaaGreatDoor.polynomialValues
namespace Go.Proofs.YtbldlibijojbjaaGreatDoor
set_option linter.unusedVariables false
set_option linter.unusedSimpArgs false
/-- The card, under a short name, for the claim. -/
theorem polynomialValues_card_holds : Rows.PolynomialValuesCardSaid := polynomialValues.card_over
#print axioms polynomialValues_card_holds
end Go.Proofs.YtbldlibijojbjaaGreatDoor
