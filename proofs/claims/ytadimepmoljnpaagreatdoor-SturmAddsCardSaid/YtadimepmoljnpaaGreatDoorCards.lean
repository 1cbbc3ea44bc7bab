/-
  DERIVED. GIVEN WITH THE SEED: THE CARDS: each row of YtadimepmoljnpaaGreatDoorRows.lean that lists a variable, with what it lists TIED to the program's text (the seventh form; the later family's looks); each row that meets fmt, with fmt's text TOLD by the authors' own Lean function (tested against real Go, not proved from fmt's source: count such statements apart). THE CARD IS WHAT COUNTS. Prove the row's statement (the work); the ties are given (YtadimepmoljnpaaGreatDoorTie.lean); close each card by the builder's one call (the guide's Derived/Test/ToyasCard.lean, 'card_holds'). Laid BY PROGRAM, IN A SANDBOX (cutbox-door.mjs). By AI agents, Wed Nov 11 2026. No macro, syntax, notation, axiom, sorry.
-/
import Derived.Test.YtadimepmoljnpaaGreatDoorRows
import GoSem.ClaimSeven
namespace Go.Proofs.YtadimepmoljnpaaGreatDoor
namespace Rows

/-- THE TIED CARD OF 'garboardlaw09.SturmCounts'. -/
def sturmCountsCard : Claim7 := { stood := { row := sturmCountsRow, standIns := [], harness := (true, "c4c67dc55bda1bd5daf08a814b081f1ca79da6dcee452743d0b4e50a28747a9b"), looks := true }, kinds := [], alts := [], laidByText := true, laidKinds := [.data, .data, .data, .sentinel, .sentinel], laidTests := true, laidLooks := .later }
def SturmCountsCardSaid : Prop := Claim7.holds Tryz.pinned (.plain (OpenSpec.ofChange sturmCountsSpec)) sturmCountsCard

/-- THE TIED CARD OF 'garboardlaw09.SturmIsolates'. -/
def sturmIsolatesCard : Claim7 := { stood := { row := sturmIsolatesRow, standIns := [], harness := (true, "c4c67dc55bda1bd5daf08a814b081f1ca79da6dcee452743d0b4e50a28747a9b"), looks := true }, kinds := [], alts := [], laidByText := true, laidKinds := [.data, .data, .data, .sentinel, .sentinel], laidTests := true, laidLooks := .later }
def SturmIsolatesCardSaid : Prop := Claim7.holds Tryz.pinned (.plain (OpenSpec.ofChange sturmIsolatesSpec)) sturmIsolatesCard

/-- THE TIED CARD OF 'garboardlaw09.SturmBounds'. -/
def sturmBoundsCard : Claim7 := { stood := { row := sturmBoundsRow, standIns := [], harness := (true, "c4c67dc55bda1bd5daf08a814b081f1ca79da6dcee452743d0b4e50a28747a9b"), looks := true }, kinds := [], alts := [], laidByText := true, laidKinds := [.data, .data, .data, .sentinel, .sentinel], laidTests := true, laidLooks := .later }
def SturmBoundsCardSaid : Prop := Claim7.holds Tryz.pinned (.plain (OpenSpec.ofChange sturmBoundsSpec)) sturmBoundsCard

/-- THE TIED CARD OF 'garboardlaw09.SturmAdds'. -/
def sturmAddsCard : Claim7 := { stood := { row := sturmAddsRow, standIns := [], harness := (true, "c4c67dc55bda1bd5daf08a814b081f1ca79da6dcee452743d0b4e50a28747a9b"), looks := true }, kinds := [], alts := [], laidByText := true, laidKinds := [.data, .data, .data, .sentinel, .sentinel], laidTests := true, laidLooks := .later }
def SturmAddsCardSaid : Prop := Claim7.holds Tryz.pinned (.plain (OpenSpec.ofChange sturmAddsSpec)) sturmAddsCard

/-- THE TIED CARD OF 'garboardlaw09.SturmFactors'. -/
def sturmFactorsCard : Claim7 := { stood := { row := sturmFactorsRow, standIns := [], harness := (true, "c4c67dc55bda1bd5daf08a814b081f1ca79da6dcee452743d0b4e50a28747a9b"), looks := true }, kinds := [], alts := [], laidByText := true, laidKinds := [.data, .data, .data, .sentinel, .sentinel], laidTests := true, laidLooks := .later }
def SturmFactorsCardSaid : Prop := Claim7.holds Tryz.pinned (.plain (OpenSpec.ofChange sturmFactorsSpec)) sturmFactorsCard

/-- THE TIED CARD OF 'garboardlaw09.SturmContains'. -/
def sturmContainsCard : Claim7 := { stood := { row := sturmContainsRow, standIns := [], harness := (true, "c4c67dc55bda1bd5daf08a814b081f1ca79da6dcee452743d0b4e50a28747a9b"), looks := true }, kinds := [], alts := [], laidByText := true, laidKinds := [.data, .data, .data, .sentinel, .sentinel], laidTests := true, laidLooks := .later }
def SturmContainsCardSaid : Prop := Claim7.holds Tryz.pinned (.plain (OpenSpec.ofChange sturmContainsSpec)) sturmContainsCard

/-- THE TIED CARD OF 'garboardlaw09.SturmSeparates'. -/
def sturmSeparatesCard : Claim7 := { stood := { row := sturmSeparatesRow, standIns := [], harness := (true, "c4c67dc55bda1bd5daf08a814b081f1ca79da6dcee452743d0b4e50a28747a9b"), looks := true }, kinds := [], alts := [], laidByText := true, laidKinds := [.data, .data, .data, .sentinel, .sentinel], laidTests := true, laidLooks := .later }
def SturmSeparatesCardSaid : Prop := Claim7.holds Tryz.pinned (.plain (OpenSpec.ofChange sturmSeparatesSpec)) sturmSeparatesCard

/-- THE SECOND FORM's CARD OF 'garboardlaw09.SturmCounts'. -/
def sturmCountsUptoCard : Claim7 := { stood := { row := sturmCountsUptoRow, standIns := [], harness := (true, "c4c67dc55bda1bd5daf08a814b081f1ca79da6dcee452743d0b4e50a28747a9b"), looks := true }, kinds := [], alts := [], laidByText := true, laidKinds := [.data, .data, .data, .sentinel, .sentinel], laidTests := true, laidLooks := .later }
def SturmCountsUptoCardSaid : Prop := Claim7.holds Tryz.pinned (.plain (OpenSpec.upto sturmCountsSpec)) sturmCountsUptoCard

/-- THE SECOND FORM's CARD OF 'garboardlaw09.SturmIsolates'. -/
def sturmIsolatesUptoCard : Claim7 := { stood := { row := sturmIsolatesUptoRow, standIns := [], harness := (true, "c4c67dc55bda1bd5daf08a814b081f1ca79da6dcee452743d0b4e50a28747a9b"), looks := true }, kinds := [], alts := [], laidByText := true, laidKinds := [.data, .data, .data, .sentinel, .sentinel], laidTests := true, laidLooks := .later }
def SturmIsolatesUptoCardSaid : Prop := Claim7.holds Tryz.pinned (.plain (OpenSpec.upto sturmIsolatesSpec)) sturmIsolatesUptoCard

/-- THE SECOND FORM's CARD OF 'garboardlaw09.SturmBounds'. -/
def sturmBoundsUptoCard : Claim7 := { stood := { row := sturmBoundsUptoRow, standIns := [], harness := (true, "c4c67dc55bda1bd5daf08a814b081f1ca79da6dcee452743d0b4e50a28747a9b"), looks := true }, kinds := [], alts := [], laidByText := true, laidKinds := [.data, .data, .data, .sentinel, .sentinel], laidTests := true, laidLooks := .later }
def SturmBoundsUptoCardSaid : Prop := Claim7.holds Tryz.pinned (.plain (OpenSpec.upto sturmBoundsSpec)) sturmBoundsUptoCard

/-- THE SECOND FORM's CARD OF 'garboardlaw09.SturmAdds'. -/
def sturmAddsUptoCard : Claim7 := { stood := { row := sturmAddsUptoRow, standIns := [], harness := (true, "c4c67dc55bda1bd5daf08a814b081f1ca79da6dcee452743d0b4e50a28747a9b"), looks := true }, kinds := [], alts := [], laidByText := true, laidKinds := [.data, .data, .data, .sentinel, .sentinel], laidTests := true, laidLooks := .later }
def SturmAddsUptoCardSaid : Prop := Claim7.holds Tryz.pinned (.plain (OpenSpec.upto sturmAddsSpec)) sturmAddsUptoCard

/-- THE SECOND FORM's CARD OF 'garboardlaw09.SturmFactors'. -/
def sturmFactorsUptoCard : Claim7 := { stood := { row := sturmFactorsUptoRow, standIns := [], harness := (true, "c4c67dc55bda1bd5daf08a814b081f1ca79da6dcee452743d0b4e50a28747a9b"), looks := true }, kinds := [], alts := [], laidByText := true, laidKinds := [.data, .data, .data, .sentinel, .sentinel], laidTests := true, laidLooks := .later }
def SturmFactorsUptoCardSaid : Prop := Claim7.holds Tryz.pinned (.plain (OpenSpec.upto sturmFactorsSpec)) sturmFactorsUptoCard

/-- THE SECOND FORM's CARD OF 'garboardlaw09.SturmContains'. -/
def sturmContainsUptoCard : Claim7 := { stood := { row := sturmContainsUptoRow, standIns := [], harness := (true, "c4c67dc55bda1bd5daf08a814b081f1ca79da6dcee452743d0b4e50a28747a9b"), looks := true }, kinds := [], alts := [], laidByText := true, laidKinds := [.data, .data, .data, .sentinel, .sentinel], laidTests := true, laidLooks := .later }
def SturmContainsUptoCardSaid : Prop := Claim7.holds Tryz.pinned (.plain (OpenSpec.upto sturmContainsSpec)) sturmContainsUptoCard

/-- THE SECOND FORM's CARD OF 'garboardlaw09.SturmSeparates'. -/
def sturmSeparatesUptoCard : Claim7 := { stood := { row := sturmSeparatesUptoRow, standIns := [], harness := (true, "c4c67dc55bda1bd5daf08a814b081f1ca79da6dcee452743d0b4e50a28747a9b"), looks := true }, kinds := [], alts := [], laidByText := true, laidKinds := [.data, .data, .data, .sentinel, .sentinel], laidTests := true, laidLooks := .later }
def SturmSeparatesUptoCardSaid : Prop := Claim7.holds Tryz.pinned (.plain (OpenSpec.upto sturmSeparatesSpec)) sturmSeparatesUptoCard
end Rows
end Go.Proofs.YtadimepmoljnpaaGreatDoor
