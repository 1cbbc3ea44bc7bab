/-
  DERIVED. GIVEN WITH THE SEED: THE CARDS: each row of YtbldlibijojbjaaGreatDoorRows.lean that lists a variable, with what it lists TIED to the program's text (the seventh form; the later family's looks); each row that meets fmt, with fmt's text TOLD by the authors' own Lean function (tested against real Go, not proved from fmt's source: count such statements apart). THE CARD IS WHAT COUNTS. Prove the row's statement (the work); the ties are given (YtbldlibijojbjaaGreatDoorTie.lean); close each card by the builder's one call (the guide's Derived/Test/ToyasCard.lean, 'card_holds'). Laid BY PROGRAM, IN A SANDBOX (cutbox-door.mjs). By AI agents, Wed Nov 11 2026. No macro, syntax, notation, axiom, sorry.
-/
import Derived.Test.YtbldlibijojbjaaGreatDoorRows
import GoSem.ClaimSeven
namespace Go.Proofs.YtbldlibijojbjaaGreatDoor
namespace Rows

/-- THE TIED CARD OF 'garboardlaw08.PolynomialForms'. -/
def polynomialFormsCard : Claim7 := { stood := { row := polynomialFormsRow, standIns := [], harness := (true, "162c9ec28e0c3b3e9ae1d7826622436b93979eaf0d461abb6270c553b90224ab"), looks := true }, kinds := [], alts := [], laidByText := true, laidKinds := [.data, .data, .data, .sentinel, .sentinel], laidTests := true, laidLooks := .later }
def PolynomialFormsCardSaid : Prop := Claim7.holds Tryz.pinned (.plain (OpenSpec.ofChange polynomialFormsSpec)) polynomialFormsCard

/-- THE TIED CARD OF 'garboardlaw08.PolynomialComputes'. -/
def polynomialComputesCard : Claim7 := { stood := { row := polynomialComputesRow, standIns := [], harness := (true, "162c9ec28e0c3b3e9ae1d7826622436b93979eaf0d461abb6270c553b90224ab"), looks := true }, kinds := [], alts := [], laidByText := true, laidKinds := [.data, .data, .data, .sentinel, .sentinel], laidTests := true, laidLooks := .later }
def PolynomialComputesCardSaid : Prop := Claim7.holds Tryz.pinned (.plain (OpenSpec.ofChange polynomialComputesSpec)) polynomialComputesCard

/-- THE TIED CARD OF 'garboardlaw08.PolynomialCalculus'. -/
def polynomialCalculusCard : Claim7 := { stood := { row := polynomialCalculusRow, standIns := [], harness := (true, "162c9ec28e0c3b3e9ae1d7826622436b93979eaf0d461abb6270c553b90224ab"), looks := true }, kinds := [], alts := [], laidByText := true, laidKinds := [.data, .data, .data, .sentinel, .sentinel], laidTests := true, laidLooks := .later }
def PolynomialCalculusCardSaid : Prop := Claim7.holds Tryz.pinned (.plain (OpenSpec.ofChange polynomialCalculusSpec)) polynomialCalculusCard

/-- THE TIED CARD OF 'garboardlaw08.PolynomialEncloses'. -/
def polynomialEnclosesCard : Claim7 := { stood := { row := polynomialEnclosesRow, standIns := [], harness := (true, "162c9ec28e0c3b3e9ae1d7826622436b93979eaf0d461abb6270c553b90224ab"), looks := true }, kinds := [], alts := [], laidByText := true, laidKinds := [.data, .data, .data, .sentinel, .sentinel], laidTests := true, laidLooks := .later }
def PolynomialEnclosesCardSaid : Prop := Claim7.holds Tryz.pinned (.plain (OpenSpec.ofChange polynomialEnclosesSpec)) polynomialEnclosesCard

/-- THE TIED CARD OF 'garboardlaw08.PolynomialValues'. -/
def polynomialValuesCard : Claim7 := { stood := { row := polynomialValuesRow, standIns := [], harness := (true, "162c9ec28e0c3b3e9ae1d7826622436b93979eaf0d461abb6270c553b90224ab"), looks := true }, kinds := [], alts := [], laidByText := true, laidKinds := [.data, .data, .data, .sentinel, .sentinel], laidTests := true, laidLooks := .later }
def PolynomialValuesCardSaid : Prop := Claim7.holds Tryz.pinned (.plain (OpenSpec.ofChange polynomialValuesSpec)) polynomialValuesCard

/-- THE TIED CARD OF 'garboardlaw08.PolynomialDivides'. -/
def polynomialDividesCard : Claim7 := { stood := { row := polynomialDividesRow, standIns := [], harness := (true, "162c9ec28e0c3b3e9ae1d7826622436b93979eaf0d461abb6270c553b90224ab"), looks := true }, kinds := [], alts := [], laidByText := true, laidKinds := [.data, .data, .data, .sentinel, .sentinel], laidTests := true, laidLooks := .later }
def PolynomialDividesCardSaid : Prop := Claim7.holds Tryz.pinned (.plain (OpenSpec.ofChange polynomialDividesSpec)) polynomialDividesCard

/-- THE TIED CARD OF 'garboardlaw08.PolynomialRules'. -/
def polynomialRulesCard : Claim7 := { stood := { row := polynomialRulesRow, standIns := [], harness := (true, "162c9ec28e0c3b3e9ae1d7826622436b93979eaf0d461abb6270c553b90224ab"), looks := true }, kinds := [], alts := [], laidByText := true, laidKinds := [.data, .data, .data, .sentinel, .sentinel], laidTests := true, laidLooks := .later }
def PolynomialRulesCardSaid : Prop := Claim7.holds Tryz.pinned (.plain (OpenSpec.ofChange polynomialRulesSpec)) polynomialRulesCard

/-- THE TIED CARD OF 'garboardlaw08.PolynomialContains'. -/
def polynomialContainsCard : Claim7 := { stood := { row := polynomialContainsRow, standIns := [], harness := (true, "162c9ec28e0c3b3e9ae1d7826622436b93979eaf0d461abb6270c553b90224ab"), looks := true }, kinds := [], alts := [], laidByText := true, laidKinds := [.data, .data, .data, .sentinel, .sentinel], laidTests := true, laidLooks := .later }
def PolynomialContainsCardSaid : Prop := Claim7.holds Tryz.pinned (.plain (OpenSpec.ofChange polynomialContainsSpec)) polynomialContainsCard

/-- THE SECOND FORM's CARD OF 'garboardlaw08.PolynomialForms'. -/
def polynomialFormsUptoCard : Claim7 := { stood := { row := polynomialFormsUptoRow, standIns := [], harness := (true, "162c9ec28e0c3b3e9ae1d7826622436b93979eaf0d461abb6270c553b90224ab"), looks := true }, kinds := [], alts := [], laidByText := true, laidKinds := [.data, .data, .data, .sentinel, .sentinel], laidTests := true, laidLooks := .later }
def PolynomialFormsUptoCardSaid : Prop := Claim7.holds Tryz.pinned (.plain (OpenSpec.upto polynomialFormsSpec)) polynomialFormsUptoCard

/-- THE SECOND FORM's CARD OF 'garboardlaw08.PolynomialComputes'. -/
def polynomialComputesUptoCard : Claim7 := { stood := { row := polynomialComputesUptoRow, standIns := [], harness := (true, "162c9ec28e0c3b3e9ae1d7826622436b93979eaf0d461abb6270c553b90224ab"), looks := true }, kinds := [], alts := [], laidByText := true, laidKinds := [.data, .data, .data, .sentinel, .sentinel], laidTests := true, laidLooks := .later }
def PolynomialComputesUptoCardSaid : Prop := Claim7.holds Tryz.pinned (.plain (OpenSpec.upto polynomialComputesSpec)) polynomialComputesUptoCard

/-- THE SECOND FORM's CARD OF 'garboardlaw08.PolynomialCalculus'. -/
def polynomialCalculusUptoCard : Claim7 := { stood := { row := polynomialCalculusUptoRow, standIns := [], harness := (true, "162c9ec28e0c3b3e9ae1d7826622436b93979eaf0d461abb6270c553b90224ab"), looks := true }, kinds := [], alts := [], laidByText := true, laidKinds := [.data, .data, .data, .sentinel, .sentinel], laidTests := true, laidLooks := .later }
def PolynomialCalculusUptoCardSaid : Prop := Claim7.holds Tryz.pinned (.plain (OpenSpec.upto polynomialCalculusSpec)) polynomialCalculusUptoCard

/-- THE SECOND FORM's CARD OF 'garboardlaw08.PolynomialEncloses'. -/
def polynomialEnclosesUptoCard : Claim7 := { stood := { row := polynomialEnclosesUptoRow, standIns := [], harness := (true, "162c9ec28e0c3b3e9ae1d7826622436b93979eaf0d461abb6270c553b90224ab"), looks := true }, kinds := [], alts := [], laidByText := true, laidKinds := [.data, .data, .data, .sentinel, .sentinel], laidTests := true, laidLooks := .later }
def PolynomialEnclosesUptoCardSaid : Prop := Claim7.holds Tryz.pinned (.plain (OpenSpec.upto polynomialEnclosesSpec)) polynomialEnclosesUptoCard

/-- THE SECOND FORM's CARD OF 'garboardlaw08.PolynomialValues'. -/
def polynomialValuesUptoCard : Claim7 := { stood := { row := polynomialValuesUptoRow, standIns := [], harness := (true, "162c9ec28e0c3b3e9ae1d7826622436b93979eaf0d461abb6270c553b90224ab"), looks := true }, kinds := [], alts := [], laidByText := true, laidKinds := [.data, .data, .data, .sentinel, .sentinel], laidTests := true, laidLooks := .later }
def PolynomialValuesUptoCardSaid : Prop := Claim7.holds Tryz.pinned (.plain (OpenSpec.upto polynomialValuesSpec)) polynomialValuesUptoCard

/-- THE SECOND FORM's CARD OF 'garboardlaw08.PolynomialDivides'. -/
def polynomialDividesUptoCard : Claim7 := { stood := { row := polynomialDividesUptoRow, standIns := [], harness := (true, "162c9ec28e0c3b3e9ae1d7826622436b93979eaf0d461abb6270c553b90224ab"), looks := true }, kinds := [], alts := [], laidByText := true, laidKinds := [.data, .data, .data, .sentinel, .sentinel], laidTests := true, laidLooks := .later }
def PolynomialDividesUptoCardSaid : Prop := Claim7.holds Tryz.pinned (.plain (OpenSpec.upto polynomialDividesSpec)) polynomialDividesUptoCard

/-- THE SECOND FORM's CARD OF 'garboardlaw08.PolynomialRules'. -/
def polynomialRulesUptoCard : Claim7 := { stood := { row := polynomialRulesUptoRow, standIns := [], harness := (true, "162c9ec28e0c3b3e9ae1d7826622436b93979eaf0d461abb6270c553b90224ab"), looks := true }, kinds := [], alts := [], laidByText := true, laidKinds := [.data, .data, .data, .sentinel, .sentinel], laidTests := true, laidLooks := .later }
def PolynomialRulesUptoCardSaid : Prop := Claim7.holds Tryz.pinned (.plain (OpenSpec.upto polynomialRulesSpec)) polynomialRulesUptoCard

/-- THE SECOND FORM's CARD OF 'garboardlaw08.PolynomialContains'. -/
def polynomialContainsUptoCard : Claim7 := { stood := { row := polynomialContainsUptoRow, standIns := [], harness := (true, "162c9ec28e0c3b3e9ae1d7826622436b93979eaf0d461abb6270c553b90224ab"), looks := true }, kinds := [], alts := [], laidByText := true, laidKinds := [.data, .data, .data, .sentinel, .sentinel], laidTests := true, laidLooks := .later }
def PolynomialContainsUptoCardSaid : Prop := Claim7.holds Tryz.pinned (.plain (OpenSpec.upto polynomialContainsSpec)) polynomialContainsUptoCard
end Rows
end Go.Proofs.YtbldlibijojbjaaGreatDoor
