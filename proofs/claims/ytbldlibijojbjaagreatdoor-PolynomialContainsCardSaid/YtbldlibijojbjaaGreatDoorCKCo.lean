/-
  For every list of texts p, all pairs of texts in and more, and every text x the law PolynomialContains of chapter 08 returns true, and what came in reads afterwards as before: the card of the row. Conditions: the listed package-level variables hold what the row says, and the card ties them to the text of the program.
-/
import Derived.Test.YtbldlibijojbjaaGreatDoorTie
import Derived.Test.YtbldlibijojbjaaGreatDoorCards
import Derived.Test.YtbldlibijojbjaaGreatDoorCLCo
import Derived.SevenTiedAt
namespace Go.Proofs.YtbldlibijojbjaaGreatDoor.polynomialContains
set_option linter.unusedVariables false
set_option linter.unusedSimpArgs false
open Go.ChangeShapes Go.WideShapes Go.ChangeAt Go.RowKit Go.Proofs.YtbldlibijojbjaaGreatDoor.GB
theorem card_over : Rows.PolynomialContainsCardSaid :=
  Claim7.holds_tied_plain_at .later [] [.data, .data, .data, .sentinel, .sentinel] true (true, "162c9ec28e0c3b3e9ae1d7826622436b93979eaf0d461abb6270c553b90224ab") true
    over (fun _ h => by cases h) (by kernel_rfl) (fun _ h => by cases h) polynomialContains_row_tie rfl ⟨rfl, rfl⟩ (by kernel_rfl) rfl
    (fun f fn hf hfn => by
      obtain rfl : f = 10 := Option.some.inj ((show Tryz.prog.funcNamed "garboard/garboardlaw08.PolynomialContains" = some 10 by kernel_rfl).symm.trans hf) |>.symm
      obtain rfl : fn = Tryz.f10 := (Option.some.inj (Tryz.func10.symm.trans hfn)).symm
      exact ⟨by kernel_rfl, fun j t ht => by
        rw [Tryz.params10] at ht
        rcases j with _ | _ | _ | _ | j
        · have e : t = 25 := by simpa using ht.symm
          subst e; exact wants_p
        · have e : t = 44 := by simpa using ht.symm
          subst e; exact wants_i
        · have e : t = 44 := by simpa using ht.symm
          subst e; exact wants_i
        · have e : t = 30 := by simpa using ht.symm
          subst e; exact wants_s
        · simp at ht
        ⟩)
    (by kernel_rfl)
end Go.Proofs.YtbldlibijojbjaaGreatDoor.polynomialContains
namespace Go.Proofs.YtbldlibijojbjaaGreatDoor
set_option linter.unusedVariables false
set_option linter.unusedSimpArgs false
/-- The card, under a short name, for the claim. -/
theorem polynomialContains_card_holds : Rows.PolynomialContainsCardSaid := polynomialContains.card_over
#print axioms polynomialContains_card_holds
end Go.Proofs.YtbldlibijojbjaaGreatDoor
