import Derived.Test.YtadimepmoljnpaaGreatDoorRows
import Derived.Test.YtadimepmoljnpaaGreatDoorMNum
import Derived.WalkKit
import Derived.ProofKit
import Derived.OpenShut
import Derived.ShutString
import Derived.ChangeOld
import Derived.Below
import Derived.SizedLaws
import Derived.Lib.LaidTab
import Derived.Deep.Strs
import Derived.LaidMore
import Derived.Handed
import Derived.MakeChecks
import Derived.Stop.LaidErr
import Derived.Stop.Joined
import Derived.SevenTiedAt
namespace Go.Proofs.YtadimepmoljnpaaGreatDoor.GB
set_option linter.unusedVariables false
set_option linter.unusedSimpArgs false
open Go.ChangeShapes Go.WideShapes Go.ChangeAt Go.RowKit Go.Deep
theorem own : ownKnob Tryz.prog.godebug = none := by kernel_rfl
theorem laidOut : laidOutB Tryz.prog = true := by kernel_rfl
abbrev laid5 : List (String × DataW Unit) := Rows.sturmAddsRow.laid
/-- So many steps has the start of the program. -/
abbrev doorSteps : Nat := 4000
theorem door_shaped (os : Os) (args : Array Value) : ((World.doorLaid Tryz.prog doorSteps os).forCall (fun _ _ => 0) ⟨#[], args, []⟩).Shaped Tryz.prog := World.shaped_of_RefB (by kernel_rfl) (by kernel_rfl)
theorem door_os (os : Os) : (World.doorLaid Tryz.prog doorSteps os).os = os := by kernel_rfl
theorem door_met (os : Os) (args : Array Value) : laidMetH Tryz.prog laid5 ((World.doorLaid Tryz.prog doorSteps os).forCall (fun _ _ => 0) ⟨#[], args, []⟩).memory :=
  laidMetH_of_parts3 (fuel := 8) (laidMet_of_run' 8 (by kernel_rfl) (by kernel_rfl)) (by kernel_rfl) (by kernel_rfl)
theorem open_gen {H : Type} {enc : TypeId × Value → H} {W : World} {t e : TypeId} {v : Value} {x : DataW H × List MemPlace} {spare : Nat → Bool} {held : Bool} (ht : Tryz.prog.underlying t = some (.slice e)) (he : Tryz.prog.underlying e = some .string) (hc : Tryz.prog.cellsOf e = 1)
    (h : ∃ fuel, DataW.trod enc Tryz.prog W 0 spare held fuel t v.cells.toList = some x) (hv : v.cells.toList = [v]) : ∃ l, SlS W v l := by
  obtain ⟨fuel, h⟩ := h
  rcases open_strs ht he hc h with ⟨h0, -⟩ | ⟨a, len, cap, m, Sx, hcs, -, h1, h2, hm, -, hx⟩
  · rw [hv] at h0
    obtain rfl : v = .slice none 0 0 := by simpa using h0
    exact ⟨[], SlS.nil W⟩
  · rw [hv] at hcs
    obtain rfl : v = .slice (some a) len cap := by simpa using hcs
    have hlm : len ≤ m := by rw [hm]; split <;> omega
    refine ⟨(List.range len).map Sx, some a, cap, by simp, by simpa using h1, Nat.le_trans h2 (by decide), ?_⟩
    intro j hj
    have hj' : j < len := by simpa using hj
    have h0 := (hx 0 (by omega)).1
    have hc2 := (hx j (by omega)).1
    have hs : a.spot = none := by
      have h0' : W.cell? a = some (.string (Sx 0)) := h0
      unfold World.cell? at h0'
      split at h0'
      · split at h0'
        · cases h0'
        · rename_i hns; cases e : a.spot with
          | none => rfl
          | some y => rw [e] at hns; exact absurd rfl hns
      · cases h0'
    obtain ⟨b, off, sp⟩ := a
    simp only at hs
    subst hs
    refine ⟨b, off, rfl, World.block_lt_of_cell? _ _ h0, ?_⟩
    have ea : (⟨b, off, none⟩ : Addr).add j = ⟨b, off + j, none⟩ := by
      unfold Addr.add
      by_cases h : j = 0
      · subst h; simp
      · rw [if_neg h]
    rw [ea] at hc2
    rw [hc2]; simp
theorem open_textsp {H : Type} {enc : TypeId × Value → H} {W : World} {a : Option Addr} {n c : Nat} {x : DataW H × List MemPlace} {spare : Nat → Bool} {held : Bool} (h : ∃ fuel, DataW.trod enc Tryz.prog W 0 spare held fuel 23 (Value.slice a n c).cells.toList = some x) : ∃ l, SlS W (.slice a n c) l :=
  open_gen Tryz.underlying23 Tryz.underlying24 (by kernel_rfl) h rfl
theorem wants_p : Tryz.prog.wantsStandIn 23 = false := by kernel_rfl
theorem wants_s : Tryz.prog.wantsStandIn 24 = false := by kernel_rfl
theorem pow_laid : (Rows.laid_internal_strconv_uint64pow10 : DataW Unit) = Lib.tabData .u64 Lib.pow10Tab := by kernel_rfl
theorem wd_of_laid {W : World} (h : laidMetH Tryz.prog laid5 W) : Wd W := by
  rw [MakeChecks.laidMetH_plain _ _ _ (by kernel_rfl)] at h
  have h2 := laidMet.tail (laidMet.tail h)
  have h3 : laidMet Tryz.prog (("internal/strconv.uint64pow10", Lib.tabData .u64 Lib.pow10Tab) :: [("strconv.ErrRange", Rows.laid_strconv_ErrRange), ("strconv.ErrSyntax", Rows.laid_strconv_ErrSyntax)]) W := by
    rw [← pow_laid]; exact h2
  exact Lib.tabBelow_of_tabIs (Lib.tabIs_of_head (g := 1) (t := 275) (e := 206) (n := 20) (by kernel_rfl) (by kernel_rfl) (by kernel_rfl) (by kernel_rfl) (by kernel_rfl) (by kernel_rfl) h3)
end Go.Proofs.YtadimepmoljnpaaGreatDoor.GB
