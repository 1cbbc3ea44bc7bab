import Derived.Test.YtadimepmoljnpaaGreatDoorCOb
namespace Go.Proofs.YtadimepmoljnpaaGreatDoor.GB
set_option linter.unusedVariables false
set_option linter.unusedSimpArgs false
open Go.RowKit Go.Shelf
attribute [local go_sem ↓] Go.wp_at_zero Go.wp_at_succ
end Go.Proofs.YtadimepmoljnpaaGreatDoor.GB
