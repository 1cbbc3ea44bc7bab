import Derived.Test.YtbldlibijojbjaaGreatDoorMHm
namespace Go.Proofs.YtbldlibijojbjaaGreatDoor.GB
set_option linter.unusedVariables false
set_option linter.unusedSimpArgs false
open Go.RowKit Go.Shelf
attribute [local go_sem ↓] Go.wp_at_zero Go.wp_at_succ
theorem one_poly (w : World) (v1 : Value) (l : List ByteArray) (T : TypeId) (h1 : SlS w v1 l) : RdV (w.alloc (.cells #[v1] T)) (some ⟨w.heap.size, 0, none⟩) [(v1, l)] := by
  intro j hj
  have hE := (Ext.rfl' w).al (.cells #[v1] T)
  refine ⟨w.heap.size, 0, rfl, by simp, ?_, ?_⟩
  · rw [Lib.cell_of_heap (World.alloc_heap_new w _)]
    rcases j with _ | j
    · rfl
    · simp at hj
  · rcases j with _ | j
    · exact h1.ext hE
    · simp at hj
theorem few1 (x : ByteArray) (w : World) (v1 : Value) (l : List ByteArray) (T : TypeId) (h1 : SlS w v1 l) :
    Calls Tryz.prog 19 #[.string x, .slice (some ⟨w.heap.size, 0, none⟩) 1 1] (w.alloc (.cells #[v1] T)) fun e w' => e = .returned (.bool (decide (x.size ≤ 20) && fewB l)) ∧ Ext (w.alloc (.cells #[v1] T)) w' := by
  have h := few_any x (some ⟨w.heap.size, 0, none⟩) 1 [(v1, l)] _ (show 1 ≤ 1000 by decide) (one_poly w v1 l T h1)
  have e : [(v1, l)].all (fun x => fewB x.2) = fewB l := by simp
  rw [e] at h
  exact h
theorem Enclose_no (v : Value) (l : List ByteArray) (s t : ByteArray) (w : World) (hW : Wd w) (h : SlS w v l) (hs : SB l) (h1 : s.size ≤ 10000) (h2 : t.size ≤ 10000) (hb : (polB l && ivB s t) = false) :
    Calls Tryz.prog 39 #[v, .agg #[.string s, .string t]] w (RetIv 1 w) := by
  have hv := pValid_any v l w hW h hs
  cases hl : polB l
  · rw [hl] at hv; exact enclose_n1 v s t w hv
  · rw [hl] at hv hb
    have hi := iva_any s t w hW h1 h2
    rw [show ivB s t = false by simpa using hb] at hi
    exact enclose_n2 v s t w hv hi
theorem Enclose_yes (v : Value) (p : Pl) (I1 I2 : Rat) (w : World) (hW : Wd w) (h : PO w v p 48) (h1 : Bd I1 240) (h2 : Bd I2 240) (hle : I1 ≤ I2) :
    Calls Tryz.prog 39 #[v, .agg #[.string (rb I1), .string (rb I2)]] w fun e w' => e = .returned (.tuple #[.agg #[.string (rb (penc (I1, I2) p).1), .string (rb (penc (I1, I2) p).2)], .int .i64 0]) ∧ Ext w w' :=
  Enclose_p v p 48 w hW h I1 I2 240 h1 h2 hle (by have := kk32; omega)
end Go.Proofs.YtbldlibijojbjaaGreatDoor.GB
