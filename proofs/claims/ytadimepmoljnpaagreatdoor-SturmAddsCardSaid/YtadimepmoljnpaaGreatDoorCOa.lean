import Derived.Test.YtadimepmoljnpaaGreatDoorCJt
namespace Go.Proofs.YtadimepmoljnpaaGreatDoor.GB
set_option linter.unusedVariables false
set_option linter.unusedSimpArgs false
open Go
theorem gok_n : ∀ (f lp n lr m N : Nat), gok f lp n lr m N = true → n ≤ N := by
  intro f lp n lr m N h
  cases f with
  | zero => exact of_decide_eq_true h
  | succ f =>
    unfold gok at h
    split at h
    · exact of_decide_eq_true h
    · split at h
      · rw [Bool.and_eq_true] at h; exact of_decide_eq_true h.1
      · rename_i h1 h2
        rw [Bool.and_eq_true] at h
        have := of_decide_eq_true h.1
        unfold remB at this; rw [if_neg h2] at this; unfold cdB at this
        omega
end Go.Proofs.YtadimepmoljnpaaGreatDoor.GB
