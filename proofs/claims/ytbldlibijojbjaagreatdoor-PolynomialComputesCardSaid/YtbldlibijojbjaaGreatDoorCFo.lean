import Derived.Test.YtbldlibijojbjaaGreatDoorCYj
import Derived.Test.YtbldlibijojbjaaGreatDoorMAw
namespace Go.Proofs.YtbldlibijojbjaaGreatDoor.GB
set_option linter.unusedVariables false
set_option linter.unusedSimpArgs false
open Go.RowKit Go.Shelf
attribute [local go_sem ↓] Go.wp_at_zero Go.wp_at_succ
theorem same_e (v1 v2 : Value) (l : List ByteArray) (w : World) (h1 : SlS w v1 l) (h2 : SlS w v2 l) : Calls Tryz.prog 18 #[v1, v2] w fun e w' => e = .returned (.bool true) ∧ Ext w w' := by
  have h := Same_v v1 v2 l l w h1 h2
  rwa [decide_eq_true rfl] at h
end Go.Proofs.YtbldlibijojbjaaGreatDoor.GB
