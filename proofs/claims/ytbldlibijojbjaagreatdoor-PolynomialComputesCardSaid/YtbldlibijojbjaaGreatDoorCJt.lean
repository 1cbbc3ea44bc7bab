import Derived.Test.YtbldlibijojbjaaGreatDoorCJr
import Derived.Test.YtbldlibijojbjaaGreatDoorCJh
import Derived.Test.YtbldlibijojbjaaGreatDoorMHm
namespace Go.Proofs.YtbldlibijojbjaaGreatDoor.GB
set_option linter.unusedVariables false
set_option linter.unusedSimpArgs false
open Go.RowKit Go.Shelf
attribute [local go_sem ↓] Go.wp_at_zero Go.wp_at_succ
theorem OwnQ.uno {w0 : World} {base : Nat} {t : V3} {q : Rat} (hb : base ≤ w0.heap.size) (h : QV w0 (.agg #[t.1, t.2.1, t.2.2]) q) : OwnQ (w0.alloc (.cells #[t.1, t.2.1, t.2.2] 86)) base (.slice (some ⟨w0.heap.size, 0, none⟩) 1 1) [t] [q] := by
  refine ⟨⟨rfl, .inr ⟨w0.heap.size, 1, #[t.1, t.2.1, t.2.2], rfl, hb, World.alloc_heap_new w0 _, Nat.le_refl _, by simp [maxLen], rfl, rfl⟩⟩, rfl, fun j hj => ?_⟩
  have : j = 0 := by simp at hj; omega
  subst this
  exact h.ext ((Ext.rfl' w0).al _)
theorem PB.addx {p r : Pl} {n m : Nat} (h : PB p n) (k : PB r m) : PB (padd p r) (n + m + 1) := PB.of_cf fun i => by rw [cf_padd]; exact (h.cf i).add (k.cf i)
theorem PB.scx {p : Pl} {n m : Nat} {a : Rat} (h : PB p n) (ha : Bd a m) : PB (psc a p) (m + n) := PB.of_cf fun i => by rw [cf_psc]; exact ha.mul (h.cf i)
theorem pb12 {p : Pl} (hs : ∀ s ∈ p.map rb, s.size ≤ 12) : PB p 48 := fun q hq => bd_size q 12 (hs _ (List.mem_map.2 ⟨q, hq, rfl⟩))
end Go.Proofs.YtbldlibijojbjaaGreatDoor.GB
