import Derived.Test.YtadimepmoljnpaaGreatDoorCUn
namespace Go.Proofs.YtadimepmoljnpaaGreatDoor.GB
set_option linter.unusedVariables false
set_option linter.unusedSimpArgs false
open Go.RowKit Go.Shelf
attribute [local go_sem ↓] Go.wp_at_zero Go.wp_at_succ
theorem cell_drew2 (w : World) (p : Addr) : w.drew.cell? p = w.cell? p := rfl
/-- One more value for the least and the greatest one. -/
def exStep (st : (Rat × Rat) × (Rat × Rat)) (x : Rat × Rat) : (Rat × Rat) × (Rat × Rat) :=
  ((if x.1 < st.1.1 then x.1 else st.1.1, if x.2 < st.1.2 then x.2 else st.1.2), (if st.2.1 < x.1 then x.1 else st.2.1, if st.2.2 < x.2 then x.2 else st.2.2))
def exF (x : Rat × Rat) (l : List (Rat × Rat)) : (Rat × Rat) × (Rat × Rat) := l.foldl exStep (x, x)
def RetII (c : Int) (x y u v : ByteArray) (w : World) (e : Ending) (w' : World) : Prop := e = .returned (.tuple #[.agg #[.string x, .string y], .agg #[.string u, .string v], .int .i64 c]) ∧ Ext w w'
theorem boxes4e (w : World) (a b : ByteArray) : Bx (((((w).alloc (.cells #[.string a, .string b] 26)).alloc (.cells #[.string ⟨#[]⟩, .string ⟨#[]⟩] 26)).alloc (.cells #[.string ⟨#[]⟩, .string ⟨#[]⟩] 26)).alloc (.cells #[.string ⟨#[]⟩, .string ⟨#[]⟩] 26)) w.heap.size #[.string a, .string b] 26 ∧ Bx (((((w).alloc (.cells #[.string a, .string b] 26)).alloc (.cells #[.string ⟨#[]⟩, .string ⟨#[]⟩] 26)).alloc (.cells #[.string ⟨#[]⟩, .string ⟨#[]⟩] 26)).alloc (.cells #[.string ⟨#[]⟩, .string ⟨#[]⟩] 26)) (w.heap.size + 1) #[.string ⟨#[]⟩, .string ⟨#[]⟩] 26 ∧ Bx (((((w).alloc (.cells #[.string a, .string b] 26)).alloc (.cells #[.string ⟨#[]⟩, .string ⟨#[]⟩] 26)).alloc (.cells #[.string ⟨#[]⟩, .string ⟨#[]⟩] 26)).alloc (.cells #[.string ⟨#[]⟩, .string ⟨#[]⟩] 26)) (w.heap.size + 1 + 1) #[.string ⟨#[]⟩, .string ⟨#[]⟩] 26 ∧ Bx (((((w).alloc (.cells #[.string a, .string b] 26)).alloc (.cells #[.string ⟨#[]⟩, .string ⟨#[]⟩] 26)).alloc (.cells #[.string ⟨#[]⟩, .string ⟨#[]⟩] 26)).alloc (.cells #[.string ⟨#[]⟩, .string ⟨#[]⟩] 26)) (w.heap.size + 1 + 1 + 1) #[.string ⟨#[]⟩, .string ⟨#[]⟩] 26 ∧ Ext w (((((w).alloc (.cells #[.string a, .string b] 26)).alloc (.cells #[.string ⟨#[]⟩, .string ⟨#[]⟩] 26)).alloc (.cells #[.string ⟨#[]⟩, .string ⟨#[]⟩] 26)).alloc (.cells #[.string ⟨#[]⟩, .string ⟨#[]⟩] 26)) := by
  have b0 := ((((Bx.new (w) #[.string a, .string b] 26).al (.cells #[.string ⟨#[]⟩, .string ⟨#[]⟩] 26)).al (.cells #[.string ⟨#[]⟩, .string ⟨#[]⟩] 26)).al (.cells #[.string ⟨#[]⟩, .string ⟨#[]⟩] 26))
  have b1 := (((Bx.new ((w).alloc (.cells #[.string a, .string b] 26)) #[.string ⟨#[]⟩, .string ⟨#[]⟩] 26).al (.cells #[.string ⟨#[]⟩, .string ⟨#[]⟩] 26)).al (.cells #[.string ⟨#[]⟩, .string ⟨#[]⟩] 26))
  have b2 := ((Bx.new (((w).alloc (.cells #[.string a, .string b] 26)).alloc (.cells #[.string ⟨#[]⟩, .string ⟨#[]⟩] 26)) #[.string ⟨#[]⟩, .string ⟨#[]⟩] 26).al (.cells #[.string ⟨#[]⟩, .string ⟨#[]⟩] 26))
  have b3 := (Bx.new ((((w).alloc (.cells #[.string a, .string b] 26)).alloc (.cells #[.string ⟨#[]⟩, .string ⟨#[]⟩] 26)).alloc (.cells #[.string ⟨#[]⟩, .string ⟨#[]⟩] 26)) #[.string ⟨#[]⟩, .string ⟨#[]⟩] 26)
  simp only [World.size_alloc] at b1 b2 b3
  exact ⟨b0, b1, b2, b3, (((((Ext.rfl' w).al (.cells #[.string a, .string b] 26)).al (.cells #[.string ⟨#[]⟩, .string ⟨#[]⟩] 26)).al (.cells #[.string ⟨#[]⟩, .string ⟨#[]⟩] 26)).al (.cells #[.string ⟨#[]⟩, .string ⟨#[]⟩] 26))⟩
/-- Both results are written. -/
theorem setII {w1 : World} {g h : Nat} {x0 x1 y0 y1 : Value} (h1 : Bx w1 g #[x0, x1] 26) (h2 : Bx w1 h #[y0, y1] 26) (hgh : g ≠ h) (a b c d : Value) :
    ((((w1.setCell ⟨g, 0, none⟩ a).setCell ⟨g, 1, none⟩ b).setCell ⟨h, 0, none⟩ c).setCell ⟨h, 1, none⟩ d).cell? ⟨g, 0, none⟩ = some a ∧ ((((w1.setCell ⟨g, 0, none⟩ a).setCell ⟨g, 1, none⟩ b).setCell ⟨h, 0, none⟩ c).setCell ⟨h, 1, none⟩ d).cell? ⟨g, 1, none⟩ = some b ∧
    ((((w1.setCell ⟨g, 0, none⟩ a).setCell ⟨g, 1, none⟩ b).setCell ⟨h, 0, none⟩ c).setCell ⟨h, 1, none⟩ d).cell? ⟨h, 0, none⟩ = some c ∧ ((((w1.setCell ⟨g, 0, none⟩ a).setCell ⟨g, 1, none⟩ b).setCell ⟨h, 0, none⟩ c).setCell ⟨h, 1, none⟩ d).cell? ⟨h, 1, none⟩ = some d := by
  have k1 := ((((h1.put 0 a).put 1 b).set (p := ⟨h, 0, none⟩) hgh c).set (p := ⟨h, 1, none⟩) hgh d)
  have k2 := ((((h2.set (p := ⟨g, 0, none⟩) (Ne.symm hgh) a).set (p := ⟨g, 1, none⟩) (Ne.symm hgh) b).put 0 c).put 1 d)
  exact ⟨k1.c 0, k1.c 1, k2.c 0, k2.c 1⟩
theorem ext_setII {w w1 : World} {g h : Nat} (hE : Ext w w1) (hg : w.heap.size ≤ g) (hh : w.heap.size ≤ h) (a b c d : Value) : Ext w ((((w1.setCell ⟨g, 0, none⟩ a).setCell ⟨g, 1, none⟩ b).setCell ⟨h, 0, none⟩ c).setCell ⟨h, 1, none⟩ d) := ext_set2 (ext_set2 hE hg a b) hh c d
end Go.Proofs.YtadimepmoljnpaaGreatDoor.GB
