import Derived.Test.YtbldlibijojbjaaGreatDoorMYy
import Derived.Test.YtbldlibijojbjaaGreatDoorMAw
import Derived.Test.YtbldlibijojbjaaGreatDoorMYe
import Derived.Test.YtbldlibijojbjaaGreatDoorMZl
namespace Go.Proofs.YtbldlibijojbjaaGreatDoor.GB
set_option linter.unusedVariables false
set_option linter.unusedSimpArgs false
open Go.RowKit Go.Shelf
attribute [local go_sem ↓] Go.wp_at_zero Go.wp_at_succ
theorem boxes2g (w : World) (A B : Array Value) (T U : TypeId) : Bx ((w.alloc (.cells A T)).alloc (.cells B U)) w.heap.size A T ∧ Bx ((w.alloc (.cells A T)).alloc (.cells B U)) (w.heap.size + 1) B U ∧ Ext w ((w.alloc (.cells A T)).alloc (.cells B U)) := by
  refine ⟨(Bx.new w A T).al _, ?_, ((Ext.rfl' w).al _).al _⟩
  have := Bx.new (w.alloc (.cells A T)) B U
  rwa [World.size_alloc] at this
/-- Reading at any world. -/
theorem q3From_20 (s : ByteArray) (w : World) (hs : s.size ≤ 40) : Calls Tryz.prog 71 #[.string s] w (QF s.data.toList w) := by
  have f : Fit (10 ^ 40) := Fit.of (k := 200) (by unfold KK; omega) (by decide)
  exact q3From_any s w (10 ^ 40) (by omega) (OverC.all _ w (Nat.le_trans f.len (by decide))) (Nat.le_trans f.len (by decide)) (Nat.pow_le_pow_right (by omega) hs)
theorem drop_cf {p : Pl} {k : Nat} (h : k < p.length) : p.drop k = cf p k :: p.drop (k + 1) := by
  rw [List.drop_eq_getElem_cons h, cf_lt h]
theorem PB.drop {p : Pl} {n : Nat} (h : PB p n) (k : Nat) : PB (p.drop k) n := fun q hq => h q (List.mem_of_mem_drop hq)
theorem pev_step (x c : Rat) (p : Pl) : pev (c :: p) x = pev p x * x + c := by show c + x * pev p x = _; grind
theorem bx_set3 {w : World} {b : Nat} {x0 x1 x2 : Value} {T : TypeId} (h : Bx w b #[x0, x1, x2] T) (u0 u1 u2 : Value) : Bx (((w.setCell ⟨b, 0, none⟩ u0).setCell ⟨b, 1, none⟩ u1).setCell ⟨b, 2, none⟩ u2) b #[u0, u1, u2] T := (((h.put 0 u0).put 1 u1).put 2 u2)
end Go.Proofs.YtbldlibijojbjaaGreatDoor.GB
