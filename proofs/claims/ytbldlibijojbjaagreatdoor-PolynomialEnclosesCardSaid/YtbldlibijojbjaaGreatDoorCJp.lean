import Derived.Test.YtbldlibijojbjaaGreatDoorMHm
import Derived.Test.YtbldlibijojbjaaGreatDoorCJa
namespace Go.Proofs.YtbldlibijojbjaaGreatDoor.GB
set_option linter.unusedVariables false
set_option linter.unusedSimpArgs false
open Go
/-! What the reference computes on intervals is what the program computes. -/
def jjoin (a b : Rat × Rat) : Rat × Rat := (mnR a.1 b.1, mxR a.2 b.2)
def jscale (a : Rat × Rat) (x : Rat) : Rat × Rat := jjoin (a.1 * x, a.1 * x) (a.2 * x, a.2 * x)
def jtimes (a b : Rat × Rat) : Rat × Rat := jjoin (jscale a b.1) (jscale a b.2)
def jplus (a b : Rat × Rat) : Rat × Rat := (a.1 + b.1, a.2 + b.2)
theorem mn4 (p q r s : Rat) : (endsR [p, q, r, s]).1 = mnR (mnR p r) (mnR q s) := by
  simp only [endsR, List.foldl, endR, mnR]
  grind
theorem mx4 (p q r s : Rat) : (endsR [p, q, r, s]).2 = mxR (mxR p r) (mxR q s) := by
  simp only [endsR, List.foldl, endR, mxR]
  grind
theorem imulR_j (a b : Rat × Rat) : imulR a b = jtimes a b := Prod.ext (mn4 _ _ _ _) (mx4 _ _ _ _)
theorem iaddR_j (a : Rat × Rat) (c : Rat) (h : a.1 ≤ a.2) : iaddR a (c, c) = jplus a (c, c) := by
  have h2 : a.1 + c ≤ a.2 + c := by grind
  refine Prod.ext ((mn4 _ _ _ _).trans ?_) ((mx4 _ _ _ _).trans ?_)
  · show mnR (mnR (a.1 + c) (a.2 + c)) (mnR (a.1 + c) (a.2 + c)) = a.1 + c
    simp only [mnR]; grind
  · show mxR (mxR (a.1 + c) (a.2 + c)) (mxR (a.1 + c) (a.2 + c)) = a.2 + c
    simp only [mxR]; grind
theorem penc_step (I : Rat × Rat) (c : Rat) (p : Pl) : penc I (c :: p) = jplus (jtimes (penc I p) I) (c, c) := by
  show iaddR (imulR (penc I p) I) (c, c) = _
  rw [iaddR_j (imulR (penc I p) I) c (endsR_le _ _), imulR_j]
/-! Polynomials. -/
end Go.Proofs.YtbldlibijojbjaaGreatDoor.GB
