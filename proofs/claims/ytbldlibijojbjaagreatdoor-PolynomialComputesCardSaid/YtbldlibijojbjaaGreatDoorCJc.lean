import Derived.Test.YtbldlibijojbjaaGreatDoorCYj
import Derived.Test.YtbldlibijojbjaaGreatDoorMYy
import Derived.Deep.AppendLies
namespace Go.Proofs.YtbldlibijojbjaaGreatDoor.GB
set_option linter.unusedVariables false
set_option linter.unusedSimpArgs false
open Go.RowKit Go.Shelf
attribute [local go_sem ↓] Go.wp_at_zero Go.wp_at_succ
attribute [local go_sem ↓] Go.wp_at_zero Go.wp_at_succ
def RetPQ (p : Pl) (w : World) (e : Ending) (w' : World) : Prop := ∃ v, e = .returned v ∧ PQ w' v p ∧ Ext w w'
theorem OwnQ.hext {w w' : World} {base : Nat} {v : Value} {l : List V3} {p : Pl} (h : Hid (OwnQ w base v l p)) (hE : Ext w w') : Hid (OwnQ w' base v l p) := h.out.ext hE
theorem OwnQ.nil (w : World) (b : Nat) : OwnQ w b (.slice none 0 0) [] [] := ⟨⟨rfl, .inl ⟨rfl, rfl⟩⟩, rfl, fun j h => by simp at h⟩
set_option maxHeartbeats 8000000 in
set_option maxRecDepth 200000 in
theorem q8at_v (A : Option Addr) (ln c k : Nat) (p : Pl) (w : World) (HLN : Hid (p.length = ln)) (h : PQ w (.slice A ln c) p) (hl : ln ≤ 1000) (hk : k ≤ 1000000) :
    Calls Tryz.prog 94 #[.slice A ln c, .int .i64 k] w (RetQ3 (cf p k) w) := by
  have HE := Lib.hid ((Ext.rfl' w).al (.cells #[.bool false, .slice none 0 0, .slice none 0 0] 86))
  have HX := Lib.hid (Bx.new w #[.bool false, .slice none 0 0, .slice none 0 0] 86)
  by_cases hlt : k < ln
  · obtain ⟨-, -, -, h3⟩ := h.rd
    obtain ⟨bb, off, x, y, z, rfl, hbb, c0, c1, c2, hq⟩ := h3 k (by rw [HLN.out]; exact hlt)
    obtain ⟨s1, A1, la, ca, B1, lb, cb, hv, -, -, -⟩ := hq.ex
    simp only [Value.agg.injEq, Array.mk.injEq, List.cons.injEq, and_true] at hv
    obtain ⟨rfl, rfl, rfl⟩ := hv
    have HQ := Lib.hid hq
    have HEE := Lib.hid ((Ext.rfl' w).al (.cells #[.bool false, .slice none 0 0, .slice none 0 0] 86))
    replace c0 := HE.out.cell c0
    replace c1 := HE.out.cell c1
    replace c2 := HE.out.cell c2
    have a0 : off + 3 * k + 1 = off + (3 * k + 1) := by omega
    have a1 : off + 3 * k + 2 = off + (3 * k + 2) := by omega
    have a2 : off + k * 3 = off + 3 * k := by omega
    have hlz : (k : Int) < (ln : Int) := by omega
    clear h h3 hq
    go_enter Tryz.func94, Tryz.ntmps94
    go_wp2_with fail
    have d0' : (w.alloc (.cells #[.bool s1, .slice A1 la ca, .slice B1 lb cb] 86)).cell? ⟨w.heap.size, 0, none⟩ = some (.bool s1) := (Bx.new w #[.bool s1, .slice A1 la ca, .slice B1 lb cb] 86).c 0
    have d1' : (w.alloc (.cells #[.bool s1, .slice A1 la ca, .slice B1 lb cb] 86)).cell? ⟨w.heap.size, 1, none⟩ = some (.slice A1 la ca) := (Bx.new w #[.bool s1, .slice A1 la ca, .slice B1 lb cb] 86).c 1
    have d2' : (w.alloc (.cells #[.bool s1, .slice A1 la ca, .slice B1 lb cb] 86)).cell? ⟨w.heap.size, 2, none⟩ = some (.slice B1 lb cb) := (Bx.new w #[.bool s1, .slice A1 la ca, .slice B1 lb cb] 86).c 2
    refine bodyPost_ret (v := .agg #[.bool s1, .slice A1 la ca, .slice B1 lb cb]) ?_ rfl ⟨_, rfl, HQ.out.ext ((Ext.rfl' w).al _), (Ext.rfl' w).al _⟩
    simp [results, Tryz.f94, go_sem, d0', d1', d2']
  · have hz : cf p k = 0 := cf_ge (by rw [HLN.out]; omega)
    rw [hz]
    have hlz : ¬ (k : Int) < (ln : Int) := by omega
    have HI : Hid (∀ W, Calls Tryz.prog 97 #[.int .i64 0] W (RetQ3 0 W)) := fun W => q3Int_any 0 W (by omega) (by omega)
    clear h hz
    go_enter Tryz.func94, Tryz.ntmps94
    go_wp2_with fail
    generalize w.alloc (.cells #[.bool false, .slice none 0 0, .slice none 0 0] 86) = W0 at *
    refine (HI.out _).mono ?_
    rintro e w1 ⟨v, rfl, hv, hE⟩
    obtain ⟨s1, Z1, l1, c1, Y1, m1, d1, rfl, -, -, -⟩ := hv.ex
    replace HX := Bx.hext HX hE
    replace HE := Lib.hid (HE.out.tr hE)
    have HV := Lib.hid hv
    clear hE hv
    have y0 : w1.cell? ⟨w.heap.size, 0, none⟩ = some (.bool false) := HX.out.c 0; have y1 : w1.cell? ⟨w.heap.size, 1, none⟩ = some (.slice none 0 0) := HX.out.c 1; have y2 : w1.cell? ⟨w.heap.size, 2, none⟩ = some (.slice none 0 0) := HX.out.c 2; have f0 := HX.out.f 0; have f1 := HX.out.f 1; have f2 := HX.out.f 2
    go_wp2_with fail
    obtain ⟨d0', d1', d2'⟩ := set3 HX.out (.bool s1) (.slice Z1 l1 c1) (.slice Y1 m1 d1)
    have HZ := QV.off HV.out HX.out nou3 (size3 (.bool s1) (.slice Z1 l1 c1) (.slice Y1 m1 d1)) (keep3 (g := w.heap.size) (.bool s1) (.slice Z1 l1 c1) (.slice Y1 m1 d1))
    refine bodyPost_ret (v := .agg #[.bool s1, .slice Z1 l1 c1, .slice Y1 m1 d1]) ?_ rfl ⟨_, rfl, HZ, ext_set3 (b := w.heap.size) HE.out (Nat.le_refl _) _ _ _⟩
    simp [results, Tryz.f94, go_sem, d0', d1', d2']
end Go.Proofs.YtbldlibijojbjaaGreatDoor.GB
