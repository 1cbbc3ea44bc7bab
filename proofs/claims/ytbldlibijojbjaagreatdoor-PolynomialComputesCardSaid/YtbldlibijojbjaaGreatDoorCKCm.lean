/-
  PolynomialComputes: Add, Sub, Mul, DivMod and GCD of the program and of the reference return the same.
-/
import Derived.Test.YtbldlibijojbjaaGreatDoorTie
import Derived.Test.YtbldlibijojbjaaGreatDoorCards
import Derived.Test.YtbldlibijojbjaaGreatDoorCLCm
import Derived.SevenTiedAt
namespace Go.Proofs.YtbldlibijojbjaaGreatDoor.polynomialComputes
set_option linter.unusedVariables false
set_option linter.unusedSimpArgs false
open Go.ChangeShapes Go.WideShapes Go.ChangeAt Go.RowKit Go.Proofs.YtbldlibijojbjaaGreatDoor.GB
theorem card_over : Rows.PolynomialComputesCardSaid :=
  Claim7.holds_tied_plain_at .later [] [.data, .data, .data, .sentinel, .sentinel] true (true, "162c9ec28e0c3b3e9ae1d7826622436b93979eaf0d461abb6270c553b90224ab") true
    over (fun _ h => by cases h) (by kernel_rfl) (fun _ h => by cases h) polynomialComputes_row_tie rfl ⟨rfl, rfl⟩ (by kernel_rfl) rfl
    (fun f fn hf hfn => by
      obtain rfl : f = 4 := Option.some.inj ((show Tryz.prog.funcNamed "garboard/garboardlaw08.PolynomialComputes" = some 4 by kernel_rfl).symm.trans hf) |>.symm
      obtain rfl : fn = Tryz.f4 := (Option.some.inj (Tryz.func4.symm.trans hfn)).symm
      exact ⟨by kernel_rfl, fun j t ht => by
        rw [Tryz.params4] at ht
        rcases j with _ | _ | j
        · have e : t = 25 := by simpa using ht.symm
          subst e; exact wants_p
        · have e : t = 25 := by simpa using ht.symm
          subst e; exact wants_p
        · simp at ht
        ⟩)
    (by kernel_rfl)
end Go.Proofs.YtbldlibijojbjaaGreatDoor.polynomialComputes
namespace Go.Proofs.YtbldlibijojbjaaGreatDoor
set_option linter.unusedVariables false
set_option linter.unusedSimpArgs false
/-- The card, under a short name, for the claim. -/
theorem polynomialComputes_card_holds : Rows.PolynomialComputesCardSaid := polynomialComputes.card_over
#print axioms polynomialComputes_card_holds
end Go.Proofs.YtbldlibijojbjaaGreatDoor
