import Derived.Test.YtadimepmoljnpaaGreatDoorCIn
import Derived.Deep.RegionHeld3
import Derived.Deep.RegionWith
import Derived.Deep.DrawnRows
import Derived.Laws.EntriesVeiled
namespace Go.Proofs.YtadimepmoljnpaaGreatDoor.GB
set_option linter.unusedVariables false
set_option linter.unusedSimpArgs false
open Go.RowKit Go.Shelf
attribute [local go_sem ↓] Go.wp_at_zero Go.wp_at_succ

def hows : Array Value := #[.func (.func 160) #[] #[], .func (.func 161) #[] #[], .func (.func 161) #[] #[], .func (.func 160) #[] #[]]
theorem Ext.bx {w w' : World} (hE : Ext w w') {b : Nat} {cs : Array Value} {T : TypeId} (h : Hid (Bx w b cs T)) : Bx w' b cs T := Bx.ext h.out hE
theorem Bx.drH {w : World} {b : Nat} {cs : Array Value} {T : TypeId} (h : Hid (Bx w b cs T)) : Hid (Bx w.drew b cs T) := h
theorem Ext.cellD {w w' : World} (hE : Ext w.drew w') {p : Addr} {v : Value} (h : w.cell? p = some v) : w'.cell? p = some v := Ext.cell hE (show w.drew.cell? p = some v from h)
theorem Ext.dr' {w w' : World} (hE : Hid (Ext w w')) : Ext w w'.drew := hE.out.dr
theorem boxes4 (w : World) (A B C D : Array Value) (T U : TypeId) : Bx ((((w.alloc (.cells A T)).alloc (.cells B T)).alloc (.cells C T)).alloc (.cells D U)) w.heap.size A T ∧ Bx ((((w.alloc (.cells A T)).alloc (.cells B T)).alloc (.cells C T)).alloc (.cells D U)) (w.heap.size + 1) B T ∧ Bx ((((w.alloc (.cells A T)).alloc (.cells B T)).alloc (.cells C T)).alloc (.cells D U)) (w.heap.size + 1 + 1) C T
    ∧ Bx ((((w.alloc (.cells A T)).alloc (.cells B T)).alloc (.cells C T)).alloc (.cells D U)) (w.heap.size + 1 + 1 + 1) D U ∧ Ext w ((((w.alloc (.cells A T)).alloc (.cells B T)).alloc (.cells C T)).alloc (.cells D U)) := by
  obtain ⟨h1, h2, h3, h4⟩ := boxes3 w A B C T
  refine ⟨h1.al _, h2.al _, h3.al _, ?_, h4.al _⟩
  have := Bx.new (((w.alloc (.cells A T)).alloc (.cells B T)).alloc (.cells C T)) D U
  rw [World.size_alloc, World.size_alloc, World.size_alloc] at this
  exact this
set_option maxHeartbeats 2000000 in
set_option maxRecDepth 100000 in
theorem plus_tt (s t : ByteArray) (z : Int) (w : World) (hop : ∀ W, Ext w W → Calls Tryz.prog 160 #[.agg #[.bool true, .string s], .agg #[.bool true, .string t]] W fun e w' => e = .returned (IV z) ∧ Ext W w') :
    Calls Tryz.prog 121 #[.agg #[.bool true, .string s], .agg #[.bool true, .string t]] w fun e w' => e = .returned (IV z) ∧ Ext w w' := by
  go_enter Tryz.func121, Tryz.ntmps121
  go_wp2_with fail
  obtain ⟨X1, X2, X3, X4, E0⟩ := boxes4 w #[.bool true, .string s] #[.bool true, .string t] #[.bool false, .string ⟨#[]⟩] hows 162 195
  unfold hows at *
  generalize ((((w.alloc (.cells #[.bool true, .string s] 162)).alloc (.cells #[.bool true, .string t] 162)).alloc (.cells #[.bool false, .string ⟨#[]⟩] 162)).alloc (.cells #[.func (.func 160) #[] #[], .func (.func 161) #[] #[], .func (.func 161) #[] #[], .func (.func 160) #[] #[]] 195)) = W0 at *
  have a0 := X1.c0
  have a1 := X1.c1
  have b0 := X2.c0
  have b1 := X2.c1
  have k0 : W0.cell? ⟨w.heap.size + 1 + 1 + 1, 0, none⟩ = some (.func (.func 160) #[] #[]) := X4.c 0
  have k1 : W0.cell? ⟨w.heap.size + 1 + 1 + 1, 1, none⟩ = some (.func (.func 161) #[] #[]) := X4.c 1
  have k2 : W0.cell? ⟨w.heap.size + 1 + 1 + 1, 2, none⟩ = some (.func (.func 161) #[] #[]) := X4.c 2
  have k3 : W0.cell? ⟨w.heap.size + 1 + 1 + 1, 3, none⟩ = some (.func (.func 160) #[] #[]) := X4.c 3
  have HX3 := Lib.hid X3
  have HE0 := Lib.hid E0
  clear X1 X2 X3 X4 E0
  go_region_held3 (fun w' => w'.cell? ⟨w.heap.size, 0, none⟩ = some (.bool true) ∧ w'.cell? ⟨w.heap.size, 1, none⟩ = some (.string s) ∧ w'.cell? ⟨w.heap.size + 1, 0, none⟩ = some (.bool true) ∧ w'.cell? ⟨w.heap.size + 1, 1, none⟩ = some (.string t) ∧ w'.cell? ⟨w.heap.size + 1 + 1 + 1, 3, none⟩ = some (.func (.func 160) #[] #[])) (((try dsimp only); (repeat' apply And.intro) <;> (first | assumption | ((go_keep); done) | (rw [World.cell?_setCell_other _ _ _ _ (by simp), World.cell?_setCell_other _ _ _ _ (by simp)]; assumption))))
    (first
      | (go_at_call 162; refine (bit_any _ _).mono ?_; rintro e w' ⟨rfl, rfl⟩)
      | (go_at_call 160; (with_reducible refine (hop _ (Ext.dr' HE0)).mono ?_); rintro e w' ⟨rfl, hE⟩; have Y3 := Ext.bx hE (Bx.drH HX3); have c0 := Y3.c0; have c1 := Y3.c1; have f0 := Y3.f 0; have f1 := Y3.f 1; have q0 := Ext.cellD hE a0; have q1 := Ext.cellD hE a1; have q2 := Ext.cellD hE b0; have q3 := Ext.cellD hE b1; have q4 := Ext.cellD hE k3))
  clear a0 a1 b0 b1 k0 k1 k2 k3 q0 q1 q2 q3 q4
  go_wp2_with fail
  obtain ⟨d0, d1⟩ := set2 Y3 (.bool (decide (z < 0))) (dtx z.natAbs)
  refine bodyPost_ret (v := IV z) ?_ rfl ⟨rfl, ext_set2 (b := w.heap.size + 1 + 1) ((Ext.dr' HE0).tr hE) (by omega) _ _⟩
  simp [results, Tryz.f121, go_sem, d0, d1]
set_option maxHeartbeats 2000000 in
set_option maxRecDepth 100000 in
theorem plus_tf (s t : ByteArray) (z : Int) (w : World) (hop : ∀ W, Ext w W → Calls Tryz.prog 161 #[.agg #[.bool true, .string s], .agg #[.bool false, .string t]] W fun e w' => e = .returned (IV z) ∧ Ext W w') :
    Calls Tryz.prog 121 #[.agg #[.bool true, .string s], .agg #[.bool false, .string t]] w fun e w' => e = .returned (IV z) ∧ Ext w w' := by
  go_enter Tryz.func121, Tryz.ntmps121
  go_wp2_with fail
  obtain ⟨X1, X2, X3, X4, E0⟩ := boxes4 w #[.bool true, .string s] #[.bool false, .string t] #[.bool false, .string ⟨#[]⟩] hows 162 195
  unfold hows at *
  generalize ((((w.alloc (.cells #[.bool true, .string s] 162)).alloc (.cells #[.bool false, .string t] 162)).alloc (.cells #[.bool false, .string ⟨#[]⟩] 162)).alloc (.cells #[.func (.func 160) #[] #[], .func (.func 161) #[] #[], .func (.func 161) #[] #[], .func (.func 160) #[] #[]] 195)) = W0 at *
  have a0 := X1.c0
  have a1 := X1.c1
  have b0 := X2.c0
  have b1 := X2.c1
  have k0 : W0.cell? ⟨w.heap.size + 1 + 1 + 1, 0, none⟩ = some (.func (.func 160) #[] #[]) := X4.c 0
  have k1 : W0.cell? ⟨w.heap.size + 1 + 1 + 1, 1, none⟩ = some (.func (.func 161) #[] #[]) := X4.c 1
  have k2 : W0.cell? ⟨w.heap.size + 1 + 1 + 1, 2, none⟩ = some (.func (.func 161) #[] #[]) := X4.c 2
  have k3 : W0.cell? ⟨w.heap.size + 1 + 1 + 1, 3, none⟩ = some (.func (.func 160) #[] #[]) := X4.c 3
  have HX3 := Lib.hid X3
  have HE0 := Lib.hid E0
  clear X1 X2 X3 X4 E0
  go_region_held3 (fun w' => w'.cell? ⟨w.heap.size, 0, none⟩ = some (.bool true) ∧ w'.cell? ⟨w.heap.size, 1, none⟩ = some (.string s) ∧ w'.cell? ⟨w.heap.size + 1, 0, none⟩ = some (.bool false) ∧ w'.cell? ⟨w.heap.size + 1, 1, none⟩ = some (.string t) ∧ w'.cell? ⟨w.heap.size + 1 + 1 + 1, 2, none⟩ = some (.func (.func 161) #[] #[])) (((try dsimp only); (repeat' apply And.intro) <;> (first | assumption | ((go_keep); done) | (rw [World.cell?_setCell_other _ _ _ _ (by simp), World.cell?_setCell_other _ _ _ _ (by simp)]; assumption))))
    (first
      | (go_at_call 162; refine (bit_any _ _).mono ?_; rintro e w' ⟨rfl, rfl⟩)
      | (go_at_call 161; (with_reducible refine (hop _ (Ext.dr' HE0)).mono ?_); rintro e w' ⟨rfl, hE⟩; have Y3 := Ext.bx hE (Bx.drH HX3); have c0 := Y3.c0; have c1 := Y3.c1; have f0 := Y3.f 0; have f1 := Y3.f 1; have q0 := Ext.cellD hE a0; have q1 := Ext.cellD hE a1; have q2 := Ext.cellD hE b0; have q3 := Ext.cellD hE b1; have q4 := Ext.cellD hE k2))
  clear a0 a1 b0 b1 k0 k1 k2 k3 q0 q1 q2 q3 q4
  go_wp2_with fail
  obtain ⟨d0, d1⟩ := set2 Y3 (.bool (decide (z < 0))) (dtx z.natAbs)
  refine bodyPost_ret (v := IV z) ?_ rfl ⟨rfl, ext_set2 (b := w.heap.size + 1 + 1) ((Ext.dr' HE0).tr hE) (by omega) _ _⟩
  simp [results, Tryz.f121, go_sem, d0, d1]
set_option maxHeartbeats 2000000 in
set_option maxRecDepth 100000 in
theorem plus_ft (s t : ByteArray) (z : Int) (w : World) (hop : ∀ W, Ext w W → Calls Tryz.prog 161 #[.agg #[.bool false, .string s], .agg #[.bool true, .string t]] W fun e w' => e = .returned (IV z) ∧ Ext W w') :
    Calls Tryz.prog 121 #[.agg #[.bool false, .string s], .agg #[.bool true, .string t]] w fun e w' => e = .returned (IV z) ∧ Ext w w' := by
  go_enter Tryz.func121, Tryz.ntmps121
  go_wp2_with fail
  obtain ⟨X1, X2, X3, X4, E0⟩ := boxes4 w #[.bool false, .string s] #[.bool true, .string t] #[.bool false, .string ⟨#[]⟩] hows 162 195
  unfold hows at *
  generalize ((((w.alloc (.cells #[.bool false, .string s] 162)).alloc (.cells #[.bool true, .string t] 162)).alloc (.cells #[.bool false, .string ⟨#[]⟩] 162)).alloc (.cells #[.func (.func 160) #[] #[], .func (.func 161) #[] #[], .func (.func 161) #[] #[], .func (.func 160) #[] #[]] 195)) = W0 at *
  have a0 := X1.c0
  have a1 := X1.c1
  have b0 := X2.c0
  have b1 := X2.c1
  have k0 : W0.cell? ⟨w.heap.size + 1 + 1 + 1, 0, none⟩ = some (.func (.func 160) #[] #[]) := X4.c 0
  have k1 : W0.cell? ⟨w.heap.size + 1 + 1 + 1, 1, none⟩ = some (.func (.func 161) #[] #[]) := X4.c 1
  have k2 : W0.cell? ⟨w.heap.size + 1 + 1 + 1, 2, none⟩ = some (.func (.func 161) #[] #[]) := X4.c 2
  have k3 : W0.cell? ⟨w.heap.size + 1 + 1 + 1, 3, none⟩ = some (.func (.func 160) #[] #[]) := X4.c 3
  have HX3 := Lib.hid X3
  have HE0 := Lib.hid E0
  clear X1 X2 X3 X4 E0
  go_region_held3 (fun w' => w'.cell? ⟨w.heap.size, 0, none⟩ = some (.bool false) ∧ w'.cell? ⟨w.heap.size, 1, none⟩ = some (.string s) ∧ w'.cell? ⟨w.heap.size + 1, 0, none⟩ = some (.bool true) ∧ w'.cell? ⟨w.heap.size + 1, 1, none⟩ = some (.string t) ∧ w'.cell? ⟨w.heap.size + 1 + 1 + 1, 1, none⟩ = some (.func (.func 161) #[] #[])) (((try dsimp only); (repeat' apply And.intro) <;> (first | assumption | ((go_keep); done) | (rw [World.cell?_setCell_other _ _ _ _ (by simp), World.cell?_setCell_other _ _ _ _ (by simp)]; assumption))))
    (first
      | (go_at_call 162; refine (bit_any _ _).mono ?_; rintro e w' ⟨rfl, rfl⟩)
      | (go_at_call 161; (with_reducible refine (hop _ (Ext.dr' HE0)).mono ?_); rintro e w' ⟨rfl, hE⟩; have Y3 := Ext.bx hE (Bx.drH HX3); have c0 := Y3.c0; have c1 := Y3.c1; have f0 := Y3.f 0; have f1 := Y3.f 1; have q0 := Ext.cellD hE a0; have q1 := Ext.cellD hE a1; have q2 := Ext.cellD hE b0; have q3 := Ext.cellD hE b1; have q4 := Ext.cellD hE k1))
  clear a0 a1 b0 b1 k0 k1 k2 k3 q0 q1 q2 q3 q4
  go_wp2_with fail
  obtain ⟨d0, d1⟩ := set2 Y3 (.bool (decide (z < 0))) (dtx z.natAbs)
  refine bodyPost_ret (v := IV z) ?_ rfl ⟨rfl, ext_set2 (b := w.heap.size + 1 + 1) ((Ext.dr' HE0).tr hE) (by omega) _ _⟩
  simp [results, Tryz.f121, go_sem, d0, d1]
set_option maxHeartbeats 2000000 in
set_option maxRecDepth 100000 in
theorem plus_ff (s t : ByteArray) (z : Int) (w : World) (hop : ∀ W, Ext w W → Calls Tryz.prog 160 #[.agg #[.bool false, .string s], .agg #[.bool false, .string t]] W fun e w' => e = .returned (IV z) ∧ Ext W w') :
    Calls Tryz.prog 121 #[.agg #[.bool false, .string s], .agg #[.bool false, .string t]] w fun e w' => e = .returned (IV z) ∧ Ext w w' := by
  go_enter Tryz.func121, Tryz.ntmps121
  go_wp2_with fail
  obtain ⟨X1, X2, X3, X4, E0⟩ := boxes4 w #[.bool false, .string s] #[.bool false, .string t] #[.bool false, .string ⟨#[]⟩] hows 162 195
  unfold hows at *
  generalize ((((w.alloc (.cells #[.bool false, .string s] 162)).alloc (.cells #[.bool false, .string t] 162)).alloc (.cells #[.bool false, .string ⟨#[]⟩] 162)).alloc (.cells #[.func (.func 160) #[] #[], .func (.func 161) #[] #[], .func (.func 161) #[] #[], .func (.func 160) #[] #[]] 195)) = W0 at *
  have a0 := X1.c0
  have a1 := X1.c1
  have b0 := X2.c0
  have b1 := X2.c1
  have k0 : W0.cell? ⟨w.heap.size + 1 + 1 + 1, 0, none⟩ = some (.func (.func 160) #[] #[]) := X4.c 0
  have k1 : W0.cell? ⟨w.heap.size + 1 + 1 + 1, 1, none⟩ = some (.func (.func 161) #[] #[]) := X4.c 1
  have k2 : W0.cell? ⟨w.heap.size + 1 + 1 + 1, 2, none⟩ = some (.func (.func 161) #[] #[]) := X4.c 2
  have k3 : W0.cell? ⟨w.heap.size + 1 + 1 + 1, 3, none⟩ = some (.func (.func 160) #[] #[]) := X4.c 3
  have HX3 := Lib.hid X3
  have HE0 := Lib.hid E0
  clear X1 X2 X3 X4 E0
  go_region_held3 (fun w' => w'.cell? ⟨w.heap.size, 0, none⟩ = some (.bool false) ∧ w'.cell? ⟨w.heap.size, 1, none⟩ = some (.string s) ∧ w'.cell? ⟨w.heap.size + 1, 0, none⟩ = some (.bool false) ∧ w'.cell? ⟨w.heap.size + 1, 1, none⟩ = some (.string t) ∧ w'.cell? ⟨w.heap.size + 1 + 1 + 1, 0, none⟩ = some (.func (.func 160) #[] #[])) (((try dsimp only); (repeat' apply And.intro) <;> (first | assumption | ((go_keep); done) | (rw [World.cell?_setCell_other _ _ _ _ (by simp), World.cell?_setCell_other _ _ _ _ (by simp)]; assumption))))
    (first
      | (go_at_call 162; refine (bit_any _ _).mono ?_; rintro e w' ⟨rfl, rfl⟩)
      | (go_at_call 160; (with_reducible refine (hop _ (Ext.dr' HE0)).mono ?_); rintro e w' ⟨rfl, hE⟩; have Y3 := Ext.bx hE (Bx.drH HX3); have c0 := Y3.c0; have c1 := Y3.c1; have f0 := Y3.f 0; have f1 := Y3.f 1; have q0 := Ext.cellD hE a0; have q1 := Ext.cellD hE a1; have q2 := Ext.cellD hE b0; have q3 := Ext.cellD hE b1; have q4 := Ext.cellD hE k0))
  clear a0 a1 b0 b1 k0 k1 k2 k3 q0 q1 q2 q3 q4
  go_wp2_with fail
  obtain ⟨d0, d1⟩ := set2 Y3 (.bool (decide (z < 0))) (dtx z.natAbs)
  refine bodyPost_ret (v := IV z) ?_ rfl ⟨rfl, ext_set2 (b := w.heap.size + 1 + 1) ((Ext.dr' HE0).tr hE) (by omega) _ _⟩
  simp [results, Tryz.f121, go_sem, d0, d1]

theorem plus_i (a b : Int) (w : World) (hW : Wd w) (ha : Fit a.natAbs) (hb : Fit b.natAbs) (hr : Fit (a.natAbs + b.natAbs)) : Calls Tryz.prog 121 #[IV a, IV b] w fun e w' => e = .returned (IV (a + b)) ∧ Ext w w' := by
  have hsum : decide (a < 0) = decide (b < 0) → ∀ W, Ext w W → Calls Tryz.prog 160 #[IV a, IV b] W fun e w' => e = .returned (IV (a + b)) ∧ Ext W w' := fun h W hE => sum_i a b W (hW.ext hE) ha hb hr h
  have hdif : decide (a < 0) ≠ decide (b < 0) → ∀ W, Ext w W → Calls Tryz.prog 161 #[IV a, IV b] W fun e w' => e = .returned (IV (a + b)) ∧ Ext W w' := fun h W hE => dif_i a b W (hW.ext hE) ha hb h
  generalize a + b = z at hsum hdif ⊢
  unfold IV at hsum hdif ⊢
  generalize decide (a < 0) = x at hsum hdif ⊢
  generalize decide (b < 0) = y at hsum hdif ⊢
  cases x <;> cases y
  · exact plus_ff _ _ z w (hsum rfl)
  · exact plus_ft _ _ z w (hdif (by decide))
  · exact plus_tf _ _ z w (hdif (by decide))
  · exact plus_tt _ _ z w (hsum rfl)
end Go.Proofs.YtadimepmoljnpaaGreatDoor.GB
