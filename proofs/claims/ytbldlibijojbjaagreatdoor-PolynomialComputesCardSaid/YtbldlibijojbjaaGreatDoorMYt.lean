import Derived.Test.YtbldlibijojbjaaGreatDoorMYe
import Derived.Test.YtbldlibijojbjaaGreatDoorMZl
namespace Go.Proofs.YtbldlibijojbjaaGreatDoor.GB
set_option linter.unusedVariables false
set_option linter.unusedSimpArgs false
open Go.RowKit Go.Shelf
attribute [local go_sem ↓] Go.wp_at_zero Go.wp_at_succ
theorem SlN.sl3 {w : World} {v : Value} {n : Nat} (h : SlN w v n) : ∃ A l c, v = .slice A l c := by
  obtain ⟨A, c, e⟩ := SlN.slc h; exact ⟨A, _, c, e⟩
theorem sgm (x y : Int) : ((if decide (x < 0) != decide (y < 0) then -((x.natAbs * y.natAbs : Nat) : Int) else ((x.natAbs * y.natAbs : Nat) : Int))) = x * y := by
  have h := sign_mul x y
  rw [← h]
  cases decide (x < 0) <;> cases decide (y < 0) <;> rfl
set_option maxHeartbeats 4000000 in
set_option maxRecDepth 100000 in
theorem z2Times_true_true (A B : Option Addr) (la ca lb cb : Nat) (a b : Nat) (w : World) (h1 : SlN w (.slice A la ca) a) (h2 : SlN w (.slice B lb cb) b) (hla : (wds a).length ≤ 1099511627776) (hlb : (wds b).length ≤ 1099511627776) :
    Calls Tryz.prog 142 #[.agg #[.bool true, .slice A la ca], .agg #[.bool true, .slice B lb cb]] w fun e w' => ∃ v, e = .returned v ∧ ZV w' v (if false then -((a * b : Nat) : Int) else ((a * b : Nat) : Int)) ∧ Ext w w' := by
  have HT : Hid (∀ W, Ext w W → Calls Tryz.prog 136 #[.slice A la ca, .slice B lb cb] W fun e w' => ∃ v, e = .returned v ∧ SlN w' v (a * b) ∧ Ext W w') := fun W hE => zTimes_v _ _ a b W (SlN.ext h1 hE) (SlN.ext h2 hE) hla hlb
  clear h1 h2 hla hlb
  go_enter Tryz.func142, Tryz.ntmps142
  go_wp2_with fail
  obtain ⟨X1, X2, X3, E0⟩ := boxes3 w #[.bool true, .slice A la ca] #[.bool true, .slice B lb cb] #[.bool false, .slice none 0 0] 84
  have a0 := X1.c0
  have a1 := X1.c1
  have b0 := X2.c0
  have b1 := X2.c1
  have HX3 := Lib.hid X3
  have HE0 := Lib.hid E0
  clear X1 X2 X3 E0
  generalize ((w.alloc (.cells #[.bool true, .slice A la ca] 84)).alloc (.cells #[.bool true, .slice B lb cb] 84)).alloc (.cells #[.bool false, .slice none 0 0] 84) = W0 at *
  go_region_held3 (fun w' => w'.cell? ⟨w.heap.size, 0, none⟩ = some (.bool true) ∧ w'.cell? ⟨w.heap.size, 1, none⟩ = some (.slice A la ca) ∧ w'.cell? ⟨w.heap.size + 1, 0, none⟩ = some (.bool true) ∧ w'.cell? ⟨w.heap.size + 1, 1, none⟩ = some (.slice B lb cb)) (((try dsimp only); (repeat' apply And.intro) <;> (first | assumption | (rw [World.cell?_setCell_other _ _ _ _ (by intro h; injection h with h; omega), World.cell?_setCell_other _ _ _ _ (by intro h; injection h with h; omega)]; assumption) | ((go_keep); done))))
    (first
      | (go_at_call 136; (with_reducible refine (HT.out _ (Ext.dr' HE0)).mono ?_); rintro e w1 ⟨v, rfl, hv, hE1⟩; obtain ⟨Av, lv, cv, rfl⟩ := SlN.sl3 hv; have HV1 := Lib.hid hv; have HX1 := Lib.hid ((show Bx W0.drew _ _ _ from HX3.out).ext hE1); have HE1 := Lib.hid ((Ext.dr' HE0).tr hE1); have q0 := Ext.cellD hE1 a0; have q1 := Ext.cellD hE1 a1; have q2 := Ext.cellD hE1 b0; have q3 := Ext.cellD hE1 b1; clear hE1 hv)
      | (go_at_call 135; (with_reducible refine (z2Make_any false _ _ _ HV1.out).mono ?_); rintro e w2 ⟨v2, rfl, hv2, hE2⟩; obtain ⟨bz, Az, lz, cz, rfl, hbz, hsz⟩ := hv2.ex; have HV2 := Lib.hid hv2; have HX2 := Lib.hid (HX1.out.ext hE2); have HE2 := Lib.hid (HE1.out.tr hE2); have r0 := Ext.cellH hE2 q0; have r1 := Ext.cellH hE2 q1; have r2 := Ext.cellH hE2 q2; have r3 := Ext.cellH hE2 q3; have c0 := HX2.out.c0; have c1 := HX2.out.c1; have f0 := HX2.out.f 0; have f1 := HX2.out.f 1; clear hE2 hv2 hbz hsz))
  all_goals
    go_wp2_with fail
    obtain ⟨d0, d1⟩ := set2 HX2.out (.bool bz) (.slice Az lz cz)
    have HZ := HV2.out.off HX2.out nou2 (size2 (.bool bz) (.slice Az lz cz)) (keep2 (g := w.heap.size + 1 + 1) (.bool bz) (.slice Az lz cz))
    refine bodyPost_ret (v := .agg #[.bool bz, .slice Az lz cz]) ?_ rfl ⟨_, rfl, HZ, ext_set2 (b := w.heap.size + 1 + 1) HE2.out (by omega) _ _⟩
    simp [results, Tryz.f142, go_sem, d0, d1]
set_option maxHeartbeats 4000000 in
set_option maxRecDepth 100000 in
theorem z2Plus_true_true (A B : Option Addr) (la ca lb cb : Nat) (a b : Nat) (w : World) (h1 : SlN w (.slice A la ca) a) (h2 : SlN w (.slice B lb cb) b) (hla : (wds a).length ≤ 1099511627776) (hlb : (wds b).length ≤ 1099511627776) :
    Calls Tryz.prog 134 #[.agg #[.bool true, .slice A la ca], .agg #[.bool true, .slice B lb cb]] w fun e w' => ∃ v, e = .returned v ∧ ZV w' v (if true then -((a + b : Nat) : Int) else ((a + b : Nat) : Int)) ∧ Ext w w' := by
  have HT : Hid (∀ W, Ext w W → Calls Tryz.prog 155 #[.slice A la ca, .slice B lb cb] W fun e w' => ∃ v, e = .returned v ∧ SlN w' v (a + b) ∧ Ext W w') := fun W hE => zPlus_v _ _ a b W (SlN.ext h1 hE) (SlN.ext h2 hE) hla hlb
  clear h1 h2 hla hlb
  go_enter Tryz.func134, Tryz.ntmps134
  go_wp2_with fail
  obtain ⟨X1, X2, X3, E0⟩ := boxes3 w #[.bool true, .slice A la ca] #[.bool true, .slice B lb cb] #[.bool false, .slice none 0 0] 84
  have a0 := X1.c0
  have a1 := X1.c1
  have b0 := X2.c0
  have b1 := X2.c1
  have HX3 := Lib.hid X3
  have HE0 := Lib.hid E0
  clear X1 X2 X3 E0
  generalize ((w.alloc (.cells #[.bool true, .slice A la ca] 84)).alloc (.cells #[.bool true, .slice B lb cb] 84)).alloc (.cells #[.bool false, .slice none 0 0] 84) = W0 at *
  go_region_held3 (fun w' => w'.cell? ⟨w.heap.size, 0, none⟩ = some (.bool true) ∧ w'.cell? ⟨w.heap.size, 1, none⟩ = some (.slice A la ca) ∧ w'.cell? ⟨w.heap.size + 1, 0, none⟩ = some (.bool true) ∧ w'.cell? ⟨w.heap.size + 1, 1, none⟩ = some (.slice B lb cb)) (((try dsimp only); (repeat' apply And.intro) <;> (first | assumption | (rw [World.cell?_setCell_other _ _ _ _ (by intro h; injection h with h; omega), World.cell?_setCell_other _ _ _ _ (by intro h; injection h with h; omega)]; assumption) | ((go_keep); done))))
    (first
      | (go_at_call 155; (with_reducible refine (HT.out _ (Ext.dr' HE0)).mono ?_); rintro e w1 ⟨v, rfl, hv, hE1⟩; obtain ⟨Av, lv, cv, rfl⟩ := SlN.sl3 hv; have HV1 := Lib.hid hv; have HX1 := Lib.hid ((show Bx W0.drew _ _ _ from HX3.out).ext hE1); have HE1 := Lib.hid ((Ext.dr' HE0).tr hE1); have q0 := Ext.cellD hE1 a0; have q1 := Ext.cellD hE1 a1; have q2 := Ext.cellD hE1 b0; have q3 := Ext.cellD hE1 b1; clear hE1 hv)
      | (go_at_call 135; (with_reducible refine (z2Make_any true _ _ _ HV1.out).mono ?_); rintro e w2 ⟨v2, rfl, hv2, hE2⟩; obtain ⟨bz, Az, lz, cz, rfl, hbz, hsz⟩ := hv2.ex; have HV2 := Lib.hid hv2; have HX2 := Lib.hid (HX1.out.ext hE2); have HE2 := Lib.hid (HE1.out.tr hE2); have r0 := Ext.cellH hE2 q0; have r1 := Ext.cellH hE2 q1; have r2 := Ext.cellH hE2 q2; have r3 := Ext.cellH hE2 q3; have c0 := HX2.out.c0; have c1 := HX2.out.c1; have f0 := HX2.out.f 0; have f1 := HX2.out.f 1; clear hE2 hv2 hbz hsz))
  all_goals
    go_wp2_with fail
    obtain ⟨d0, d1⟩ := set2 HX2.out (.bool bz) (.slice Az lz cz)
    have HZ := HV2.out.off HX2.out nou2 (size2 (.bool bz) (.slice Az lz cz)) (keep2 (g := w.heap.size + 1 + 1) (.bool bz) (.slice Az lz cz))
    refine bodyPost_ret (v := .agg #[.bool bz, .slice Az lz cz]) ?_ rfl ⟨_, rfl, HZ, ext_set2 (b := w.heap.size + 1 + 1) HE2.out (by omega) _ _⟩
    simp [results, Tryz.f134, go_sem, d0, d1]
set_option maxHeartbeats 4000000 in
set_option maxRecDepth 100000 in
theorem z2Times_true_false (A B : Option Addr) (la ca lb cb : Nat) (a b : Nat) (w : World) (h1 : SlN w (.slice A la ca) a) (h2 : SlN w (.slice B lb cb) b) (hla : (wds a).length ≤ 1099511627776) (hlb : (wds b).length ≤ 1099511627776) :
    Calls Tryz.prog 142 #[.agg #[.bool true, .slice A la ca], .agg #[.bool false, .slice B lb cb]] w fun e w' => ∃ v, e = .returned v ∧ ZV w' v (if true then -((a * b : Nat) : Int) else ((a * b : Nat) : Int)) ∧ Ext w w' := by
  have HT : Hid (∀ W, Ext w W → Calls Tryz.prog 136 #[.slice A la ca, .slice B lb cb] W fun e w' => ∃ v, e = .returned v ∧ SlN w' v (a * b) ∧ Ext W w') := fun W hE => zTimes_v _ _ a b W (SlN.ext h1 hE) (SlN.ext h2 hE) hla hlb
  clear h1 h2 hla hlb
  go_enter Tryz.func142, Tryz.ntmps142
  go_wp2_with fail
  obtain ⟨X1, X2, X3, E0⟩ := boxes3 w #[.bool true, .slice A la ca] #[.bool false, .slice B lb cb] #[.bool false, .slice none 0 0] 84
  have a0 := X1.c0
  have a1 := X1.c1
  have b0 := X2.c0
  have b1 := X2.c1
  have HX3 := Lib.hid X3
  have HE0 := Lib.hid E0
  clear X1 X2 X3 E0
  generalize ((w.alloc (.cells #[.bool true, .slice A la ca] 84)).alloc (.cells #[.bool false, .slice B lb cb] 84)).alloc (.cells #[.bool false, .slice none 0 0] 84) = W0 at *
  go_region_held3 (fun w' => w'.cell? ⟨w.heap.size, 0, none⟩ = some (.bool true) ∧ w'.cell? ⟨w.heap.size, 1, none⟩ = some (.slice A la ca) ∧ w'.cell? ⟨w.heap.size + 1, 0, none⟩ = some (.bool false) ∧ w'.cell? ⟨w.heap.size + 1, 1, none⟩ = some (.slice B lb cb)) (((try dsimp only); (repeat' apply And.intro) <;> (first | assumption | (rw [World.cell?_setCell_other _ _ _ _ (by intro h; injection h with h; omega), World.cell?_setCell_other _ _ _ _ (by intro h; injection h with h; omega)]; assumption) | ((go_keep); done))))
    (first
      | (go_at_call 136; (with_reducible refine (HT.out _ (Ext.dr' HE0)).mono ?_); rintro e w1 ⟨v, rfl, hv, hE1⟩; obtain ⟨Av, lv, cv, rfl⟩ := SlN.sl3 hv; have HV1 := Lib.hid hv; have HX1 := Lib.hid ((show Bx W0.drew _ _ _ from HX3.out).ext hE1); have HE1 := Lib.hid ((Ext.dr' HE0).tr hE1); have q0 := Ext.cellD hE1 a0; have q1 := Ext.cellD hE1 a1; have q2 := Ext.cellD hE1 b0; have q3 := Ext.cellD hE1 b1; clear hE1 hv)
      | (go_at_call 135; (with_reducible refine (z2Make_any true _ _ _ HV1.out).mono ?_); rintro e w2 ⟨v2, rfl, hv2, hE2⟩; obtain ⟨bz, Az, lz, cz, rfl, hbz, hsz⟩ := hv2.ex; have HV2 := Lib.hid hv2; have HX2 := Lib.hid (HX1.out.ext hE2); have HE2 := Lib.hid (HE1.out.tr hE2); have r0 := Ext.cellH hE2 q0; have r1 := Ext.cellH hE2 q1; have r2 := Ext.cellH hE2 q2; have r3 := Ext.cellH hE2 q3; have c0 := HX2.out.c0; have c1 := HX2.out.c1; have f0 := HX2.out.f 0; have f1 := HX2.out.f 1; clear hE2 hv2 hbz hsz))
  all_goals
    go_wp2_with fail
    obtain ⟨d0, d1⟩ := set2 HX2.out (.bool bz) (.slice Az lz cz)
    have HZ := HV2.out.off HX2.out nou2 (size2 (.bool bz) (.slice Az lz cz)) (keep2 (g := w.heap.size + 1 + 1) (.bool bz) (.slice Az lz cz))
    refine bodyPost_ret (v := .agg #[.bool bz, .slice Az lz cz]) ?_ rfl ⟨_, rfl, HZ, ext_set2 (b := w.heap.size + 1 + 1) HE2.out (by omega) _ _⟩
    simp [results, Tryz.f142, go_sem, d0, d1]
set_option maxHeartbeats 4000000 in
set_option maxRecDepth 100000 in
theorem z2Plus_true_false_1 (A B : Option Addr) (la ca lb cb : Nat) (a b : Nat) (w : World) (h1 : SlN w (.slice A la ca) a) (h2 : SlN w (.slice B lb cb) b) (hla : (wds a).length ≤ 1099511627776) (hlb : (wds b).length ≤ 1099511627776) (hle : b ≤ a) :
    Calls Tryz.prog 134 #[.agg #[.bool true, .slice A la ca], .agg #[.bool false, .slice B lb cb]] w fun e w' => ∃ v, e = .returned v ∧ ZV w' v (if true then -((a - b : Nat) : Int) else ((a - b : Nat) : Int)) ∧ Ext w w' := by
  have HCm : Hid (∀ W, Ext w W → Calls Tryz.prog 110 #[.slice A la ca, .slice B lb cb] W fun e w' => e = .returned (.int .i64 (cmpZ a b)) ∧ Ext W w') := fun W hE => zCmp_v _ _ a b W (SlN.ext h1 hE) (SlN.ext h2 hE) hla hlb
  have hc : (0 : Int) ≤ cmpZ a b := by
    rcases Nat.lt_or_ge b a with h | h
    · rw [cmpZ_gt h]; decide
    · rw [show a = b by omega, cmpZ_eq]; decide
  generalize cmpZ a b = cz at *
  have HT : Hid (∀ W, Ext w W → Calls Tryz.prog 156 #[.slice A la ca, .slice B lb cb] W fun e w' => ∃ v, e = .returned v ∧ SlN w' v (a - b) ∧ Ext W w') := fun W hE => zMinus_v _ _ a b W (SlN.ext h1 hE) (SlN.ext h2 hE) hla hle
  clear h1 h2 hla hlb
  go_enter Tryz.func134, Tryz.ntmps134
  go_wp2_with fail
  obtain ⟨X1, X2, X3, E0⟩ := boxes3 w #[.bool true, .slice A la ca] #[.bool false, .slice B lb cb] #[.bool false, .slice none 0 0] 84
  have a0 := X1.c0
  have a1 := X1.c1
  have b0 := X2.c0
  have b1 := X2.c1
  have HX3 := Lib.hid X3
  have HE0 := Lib.hid E0
  clear X1 X2 X3 E0
  generalize ((w.alloc (.cells #[.bool true, .slice A la ca] 84)).alloc (.cells #[.bool false, .slice B lb cb] 84)).alloc (.cells #[.bool false, .slice none 0 0] 84) = W0 at *
  refine (HCm.out _ HE0.out).mono ?_
  rintro e W1 ⟨rfl, hE⟩
  replace HX3 := Lib.hid (HX3.out.ext hE)
  replace HE0 := Lib.hid (HE0.out.tr hE)
  replace a0 := hE.cell a0
  replace a1 := hE.cell a1
  replace b0 := hE.cell b0
  replace b1 := hE.cell b1
  clear hE
  go_wp2_with fail
  go_region_held3 (fun w' => w'.cell? ⟨w.heap.size, 0, none⟩ = some (.bool true) ∧ w'.cell? ⟨w.heap.size, 1, none⟩ = some (.slice A la ca) ∧ w'.cell? ⟨w.heap.size + 1, 0, none⟩ = some (.bool false) ∧ w'.cell? ⟨w.heap.size + 1, 1, none⟩ = some (.slice B lb cb)) (((try dsimp only); (repeat' apply And.intro) <;> (first | assumption | (rw [World.cell?_setCell_other _ _ _ _ (by intro h; injection h with h; omega), World.cell?_setCell_other _ _ _ _ (by intro h; injection h with h; omega)]; assumption) | ((go_keep); done))))
    (first
      | (go_at_call 156; (with_reducible refine (HT.out _ (Ext.dr' HE0)).mono ?_); rintro e w1 ⟨v, rfl, hv, hE1⟩; obtain ⟨Av, lv, cv, rfl⟩ := SlN.sl3 hv; have HV1 := Lib.hid hv; have HX1 := Lib.hid ((show Bx W1.drew _ _ _ from HX3.out).ext hE1); have HE1 := Lib.hid ((Ext.dr' HE0).tr hE1); have q0 := Ext.cellD hE1 a0; have q1 := Ext.cellD hE1 a1; have q2 := Ext.cellD hE1 b0; have q3 := Ext.cellD hE1 b1; clear hE1 hv)
      | (go_at_call 135; (with_reducible refine (z2Make_any true _ _ _ HV1.out).mono ?_); rintro e w2 ⟨v2, rfl, hv2, hE2⟩; obtain ⟨bz, Az, lz, cz, rfl, hbz, hsz⟩ := hv2.ex; have HV2 := Lib.hid hv2; have HX2 := Lib.hid (HX1.out.ext hE2); have HE2 := Lib.hid (HE1.out.tr hE2); have r0 := Ext.cellH hE2 q0; have r1 := Ext.cellH hE2 q1; have r2 := Ext.cellH hE2 q2; have r3 := Ext.cellH hE2 q3; have c0 := HX2.out.c0; have c1 := HX2.out.c1; have f0 := HX2.out.f 0; have f1 := HX2.out.f 1; clear hE2 hv2 hbz hsz))
  all_goals
    go_wp2_with fail
    obtain ⟨d0, d1⟩ := set2 HX2.out (.bool bz) (.slice Az lz cz)
    have HZ := HV2.out.off HX2.out nou2 (size2 (.bool bz) (.slice Az lz cz)) (keep2 (g := w.heap.size + 1 + 1) (.bool bz) (.slice Az lz cz))
    refine bodyPost_ret (v := .agg #[.bool bz, .slice Az lz cz]) ?_ rfl ⟨_, rfl, HZ, ext_set2 (b := w.heap.size + 1 + 1) HE2.out (by omega) _ _⟩
    simp [results, Tryz.f134, go_sem, d0, d1]
set_option maxHeartbeats 4000000 in
set_option maxRecDepth 100000 in
theorem z2Plus_true_false_0 (A B : Option Addr) (la ca lb cb : Nat) (a b : Nat) (w : World) (h1 : SlN w (.slice A la ca) a) (h2 : SlN w (.slice B lb cb) b) (hla : (wds a).length ≤ 1099511627776) (hlb : (wds b).length ≤ 1099511627776) (hle : a < b) :
    Calls Tryz.prog 134 #[.agg #[.bool true, .slice A la ca], .agg #[.bool false, .slice B lb cb]] w fun e w' => ∃ v, e = .returned v ∧ ZV w' v (if false then -((b - a : Nat) : Int) else ((b - a : Nat) : Int)) ∧ Ext w w' := by
  have HCm : Hid (∀ W, Ext w W → Calls Tryz.prog 110 #[.slice A la ca, .slice B lb cb] W fun e w' => e = .returned (.int .i64 (cmpZ a b)) ∧ Ext W w') := fun W hE => zCmp_v _ _ a b W (SlN.ext h1 hE) (SlN.ext h2 hE) hla hlb
  have hc : ¬ (0 : Int) ≤ cmpZ a b := by
    rw [cmpZ_lt hle]; decide
  generalize cmpZ a b = cz at *
  have HT : Hid (∀ W, Ext w W → Calls Tryz.prog 156 #[.slice B lb cb, .slice A la ca] W fun e w' => ∃ v, e = .returned v ∧ SlN w' v (b - a) ∧ Ext W w') := fun W hE => zMinus_v _ _ b a W (SlN.ext h2 hE) (SlN.ext h1 hE) hlb (Nat.le_of_lt hle)
  clear h1 h2 hla hlb
  go_enter Tryz.func134, Tryz.ntmps134
  go_wp2_with fail
  obtain ⟨X1, X2, X3, E0⟩ := boxes3 w #[.bool true, .slice A la ca] #[.bool false, .slice B lb cb] #[.bool false, .slice none 0 0] 84
  have a0 := X1.c0
  have a1 := X1.c1
  have b0 := X2.c0
  have b1 := X2.c1
  have HX3 := Lib.hid X3
  have HE0 := Lib.hid E0
  clear X1 X2 X3 E0
  generalize ((w.alloc (.cells #[.bool true, .slice A la ca] 84)).alloc (.cells #[.bool false, .slice B lb cb] 84)).alloc (.cells #[.bool false, .slice none 0 0] 84) = W0 at *
  refine (HCm.out _ HE0.out).mono ?_
  rintro e W1 ⟨rfl, hE⟩
  replace HX3 := Lib.hid (HX3.out.ext hE)
  replace HE0 := Lib.hid (HE0.out.tr hE)
  replace a0 := hE.cell a0
  replace a1 := hE.cell a1
  replace b0 := hE.cell b0
  replace b1 := hE.cell b1
  clear hE
  go_wp2_with fail
  go_region_held3 (fun w' => w'.cell? ⟨w.heap.size, 0, none⟩ = some (.bool true) ∧ w'.cell? ⟨w.heap.size, 1, none⟩ = some (.slice A la ca) ∧ w'.cell? ⟨w.heap.size + 1, 0, none⟩ = some (.bool false) ∧ w'.cell? ⟨w.heap.size + 1, 1, none⟩ = some (.slice B lb cb)) (((try dsimp only); (repeat' apply And.intro) <;> (first | assumption | (rw [World.cell?_setCell_other _ _ _ _ (by intro h; injection h with h; omega), World.cell?_setCell_other _ _ _ _ (by intro h; injection h with h; omega)]; assumption) | ((go_keep); done))))
    (first
      | (go_at_call 156; (with_reducible refine (HT.out _ (Ext.dr' HE0)).mono ?_); rintro e w1 ⟨v, rfl, hv, hE1⟩; obtain ⟨Av, lv, cv, rfl⟩ := SlN.sl3 hv; have HV1 := Lib.hid hv; have HX1 := Lib.hid ((show Bx W1.drew _ _ _ from HX3.out).ext hE1); have HE1 := Lib.hid ((Ext.dr' HE0).tr hE1); have q0 := Ext.cellD hE1 a0; have q1 := Ext.cellD hE1 a1; have q2 := Ext.cellD hE1 b0; have q3 := Ext.cellD hE1 b1; clear hE1 hv)
      | (go_at_call 135; (with_reducible refine (z2Make_any false _ _ _ HV1.out).mono ?_); rintro e w2 ⟨v2, rfl, hv2, hE2⟩; obtain ⟨bz, Az, lz, cz, rfl, hbz, hsz⟩ := hv2.ex; have HV2 := Lib.hid hv2; have HX2 := Lib.hid (HX1.out.ext hE2); have HE2 := Lib.hid (HE1.out.tr hE2); have r0 := Ext.cellH hE2 q0; have r1 := Ext.cellH hE2 q1; have r2 := Ext.cellH hE2 q2; have r3 := Ext.cellH hE2 q3; have c0 := HX2.out.c0; have c1 := HX2.out.c1; have f0 := HX2.out.f 0; have f1 := HX2.out.f 1; clear hE2 hv2 hbz hsz))
  all_goals
    go_wp2_with fail
    obtain ⟨d0, d1⟩ := set2 HX2.out (.bool bz) (.slice Az lz cz)
    have HZ := HV2.out.off HX2.out nou2 (size2 (.bool bz) (.slice Az lz cz)) (keep2 (g := w.heap.size + 1 + 1) (.bool bz) (.slice Az lz cz))
    refine bodyPost_ret (v := .agg #[.bool bz, .slice Az lz cz]) ?_ rfl ⟨_, rfl, HZ, ext_set2 (b := w.heap.size + 1 + 1) HE2.out (by omega) _ _⟩
    simp [results, Tryz.f134, go_sem, d0, d1]
set_option maxHeartbeats 4000000 in
set_option maxRecDepth 100000 in
theorem z2Times_false_true (A B : Option Addr) (la ca lb cb : Nat) (a b : Nat) (w : World) (h1 : SlN w (.slice A la ca) a) (h2 : SlN w (.slice B lb cb) b) (hla : (wds a).length ≤ 1099511627776) (hlb : (wds b).length ≤ 1099511627776) :
    Calls Tryz.prog 142 #[.agg #[.bool false, .slice A la ca], .agg #[.bool true, .slice B lb cb]] w fun e w' => ∃ v, e = .returned v ∧ ZV w' v (if true then -((a * b : Nat) : Int) else ((a * b : Nat) : Int)) ∧ Ext w w' := by
  have HT : Hid (∀ W, Ext w W → Calls Tryz.prog 136 #[.slice A la ca, .slice B lb cb] W fun e w' => ∃ v, e = .returned v ∧ SlN w' v (a * b) ∧ Ext W w') := fun W hE => zTimes_v _ _ a b W (SlN.ext h1 hE) (SlN.ext h2 hE) hla hlb
  clear h1 h2 hla hlb
  go_enter Tryz.func142, Tryz.ntmps142
  go_wp2_with fail
  obtain ⟨X1, X2, X3, E0⟩ := boxes3 w #[.bool false, .slice A la ca] #[.bool true, .slice B lb cb] #[.bool false, .slice none 0 0] 84
  have a0 := X1.c0
  have a1 := X1.c1
  have b0 := X2.c0
  have b1 := X2.c1
  have HX3 := Lib.hid X3
  have HE0 := Lib.hid E0
  clear X1 X2 X3 E0
  generalize ((w.alloc (.cells #[.bool false, .slice A la ca] 84)).alloc (.cells #[.bool true, .slice B lb cb] 84)).alloc (.cells #[.bool false, .slice none 0 0] 84) = W0 at *
  go_region_held3 (fun w' => w'.cell? ⟨w.heap.size, 0, none⟩ = some (.bool false) ∧ w'.cell? ⟨w.heap.size, 1, none⟩ = some (.slice A la ca) ∧ w'.cell? ⟨w.heap.size + 1, 0, none⟩ = some (.bool true) ∧ w'.cell? ⟨w.heap.size + 1, 1, none⟩ = some (.slice B lb cb)) (((try dsimp only); (repeat' apply And.intro) <;> (first | assumption | (rw [World.cell?_setCell_other _ _ _ _ (by intro h; injection h with h; omega), World.cell?_setCell_other _ _ _ _ (by intro h; injection h with h; omega)]; assumption) | ((go_keep); done))))
    (first
      | (go_at_call 136; (with_reducible refine (HT.out _ (Ext.dr' HE0)).mono ?_); rintro e w1 ⟨v, rfl, hv, hE1⟩; obtain ⟨Av, lv, cv, rfl⟩ := SlN.sl3 hv; have HV1 := Lib.hid hv; have HX1 := Lib.hid ((show Bx W0.drew _ _ _ from HX3.out).ext hE1); have HE1 := Lib.hid ((Ext.dr' HE0).tr hE1); have q0 := Ext.cellD hE1 a0; have q1 := Ext.cellD hE1 a1; have q2 := Ext.cellD hE1 b0; have q3 := Ext.cellD hE1 b1; clear hE1 hv)
      | (go_at_call 135; (with_reducible refine (z2Make_any true _ _ _ HV1.out).mono ?_); rintro e w2 ⟨v2, rfl, hv2, hE2⟩; obtain ⟨bz, Az, lz, cz, rfl, hbz, hsz⟩ := hv2.ex; have HV2 := Lib.hid hv2; have HX2 := Lib.hid (HX1.out.ext hE2); have HE2 := Lib.hid (HE1.out.tr hE2); have r0 := Ext.cellH hE2 q0; have r1 := Ext.cellH hE2 q1; have r2 := Ext.cellH hE2 q2; have r3 := Ext.cellH hE2 q3; have c0 := HX2.out.c0; have c1 := HX2.out.c1; have f0 := HX2.out.f 0; have f1 := HX2.out.f 1; clear hE2 hv2 hbz hsz))
  all_goals
    go_wp2_with fail
    obtain ⟨d0, d1⟩ := set2 HX2.out (.bool bz) (.slice Az lz cz)
    have HZ := HV2.out.off HX2.out nou2 (size2 (.bool bz) (.slice Az lz cz)) (keep2 (g := w.heap.size + 1 + 1) (.bool bz) (.slice Az lz cz))
    refine bodyPost_ret (v := .agg #[.bool bz, .slice Az lz cz]) ?_ rfl ⟨_, rfl, HZ, ext_set2 (b := w.heap.size + 1 + 1) HE2.out (by omega) _ _⟩
    simp [results, Tryz.f142, go_sem, d0, d1]
set_option maxHeartbeats 4000000 in
set_option maxRecDepth 100000 in
theorem z2Plus_false_true_1 (A B : Option Addr) (la ca lb cb : Nat) (a b : Nat) (w : World) (h1 : SlN w (.slice A la ca) a) (h2 : SlN w (.slice B lb cb) b) (hla : (wds a).length ≤ 1099511627776) (hlb : (wds b).length ≤ 1099511627776) (hle : b ≤ a) :
    Calls Tryz.prog 134 #[.agg #[.bool false, .slice A la ca], .agg #[.bool true, .slice B lb cb]] w fun e w' => ∃ v, e = .returned v ∧ ZV w' v (if false then -((a - b : Nat) : Int) else ((a - b : Nat) : Int)) ∧ Ext w w' := by
  have HCm : Hid (∀ W, Ext w W → Calls Tryz.prog 110 #[.slice A la ca, .slice B lb cb] W fun e w' => e = .returned (.int .i64 (cmpZ a b)) ∧ Ext W w') := fun W hE => zCmp_v _ _ a b W (SlN.ext h1 hE) (SlN.ext h2 hE) hla hlb
  have hc : (0 : Int) ≤ cmpZ a b := by
    rcases Nat.lt_or_ge b a with h | h
    · rw [cmpZ_gt h]; decide
    · rw [show a = b by omega, cmpZ_eq]; decide
  generalize cmpZ a b = cz at *
  have HT : Hid (∀ W, Ext w W → Calls Tryz.prog 156 #[.slice A la ca, .slice B lb cb] W fun e w' => ∃ v, e = .returned v ∧ SlN w' v (a - b) ∧ Ext W w') := fun W hE => zMinus_v _ _ a b W (SlN.ext h1 hE) (SlN.ext h2 hE) hla hle
  clear h1 h2 hla hlb
  go_enter Tryz.func134, Tryz.ntmps134
  go_wp2_with fail
  obtain ⟨X1, X2, X3, E0⟩ := boxes3 w #[.bool false, .slice A la ca] #[.bool true, .slice B lb cb] #[.bool false, .slice none 0 0] 84
  have a0 := X1.c0
  have a1 := X1.c1
  have b0 := X2.c0
  have b1 := X2.c1
  have HX3 := Lib.hid X3
  have HE0 := Lib.hid E0
  clear X1 X2 X3 E0
  generalize ((w.alloc (.cells #[.bool false, .slice A la ca] 84)).alloc (.cells #[.bool true, .slice B lb cb] 84)).alloc (.cells #[.bool false, .slice none 0 0] 84) = W0 at *
  refine (HCm.out _ HE0.out).mono ?_
  rintro e W1 ⟨rfl, hE⟩
  replace HX3 := Lib.hid (HX3.out.ext hE)
  replace HE0 := Lib.hid (HE0.out.tr hE)
  replace a0 := hE.cell a0
  replace a1 := hE.cell a1
  replace b0 := hE.cell b0
  replace b1 := hE.cell b1
  clear hE
  go_wp2_with fail
  go_region_held3 (fun w' => w'.cell? ⟨w.heap.size, 0, none⟩ = some (.bool false) ∧ w'.cell? ⟨w.heap.size, 1, none⟩ = some (.slice A la ca) ∧ w'.cell? ⟨w.heap.size + 1, 0, none⟩ = some (.bool true) ∧ w'.cell? ⟨w.heap.size + 1, 1, none⟩ = some (.slice B lb cb)) (((try dsimp only); (repeat' apply And.intro) <;> (first | assumption | (rw [World.cell?_setCell_other _ _ _ _ (by intro h; injection h with h; omega), World.cell?_setCell_other _ _ _ _ (by intro h; injection h with h; omega)]; assumption) | ((go_keep); done))))
    (first
      | (go_at_call 156; (with_reducible refine (HT.out _ (Ext.dr' HE0)).mono ?_); rintro e w1 ⟨v, rfl, hv, hE1⟩; obtain ⟨Av, lv, cv, rfl⟩ := SlN.sl3 hv; have HV1 := Lib.hid hv; have HX1 := Lib.hid ((show Bx W1.drew _ _ _ from HX3.out).ext hE1); have HE1 := Lib.hid ((Ext.dr' HE0).tr hE1); have q0 := Ext.cellD hE1 a0; have q1 := Ext.cellD hE1 a1; have q2 := Ext.cellD hE1 b0; have q3 := Ext.cellD hE1 b1; clear hE1 hv)
      | (go_at_call 135; (with_reducible refine (z2Make_any false _ _ _ HV1.out).mono ?_); rintro e w2 ⟨v2, rfl, hv2, hE2⟩; obtain ⟨bz, Az, lz, cz, rfl, hbz, hsz⟩ := hv2.ex; have HV2 := Lib.hid hv2; have HX2 := Lib.hid (HX1.out.ext hE2); have HE2 := Lib.hid (HE1.out.tr hE2); have r0 := Ext.cellH hE2 q0; have r1 := Ext.cellH hE2 q1; have r2 := Ext.cellH hE2 q2; have r3 := Ext.cellH hE2 q3; have c0 := HX2.out.c0; have c1 := HX2.out.c1; have f0 := HX2.out.f 0; have f1 := HX2.out.f 1; clear hE2 hv2 hbz hsz))
  all_goals
    go_wp2_with fail
    obtain ⟨d0, d1⟩ := set2 HX2.out (.bool bz) (.slice Az lz cz)
    have HZ := HV2.out.off HX2.out nou2 (size2 (.bool bz) (.slice Az lz cz)) (keep2 (g := w.heap.size + 1 + 1) (.bool bz) (.slice Az lz cz))
    refine bodyPost_ret (v := .agg #[.bool bz, .slice Az lz cz]) ?_ rfl ⟨_, rfl, HZ, ext_set2 (b := w.heap.size + 1 + 1) HE2.out (by omega) _ _⟩
    simp [results, Tryz.f134, go_sem, d0, d1]
set_option maxHeartbeats 4000000 in
set_option maxRecDepth 100000 in
theorem z2Plus_false_true_0 (A B : Option Addr) (la ca lb cb : Nat) (a b : Nat) (w : World) (h1 : SlN w (.slice A la ca) a) (h2 : SlN w (.slice B lb cb) b) (hla : (wds a).length ≤ 1099511627776) (hlb : (wds b).length ≤ 1099511627776) (hle : a < b) :
    Calls Tryz.prog 134 #[.agg #[.bool false, .slice A la ca], .agg #[.bool true, .slice B lb cb]] w fun e w' => ∃ v, e = .returned v ∧ ZV w' v (if true then -((b - a : Nat) : Int) else ((b - a : Nat) : Int)) ∧ Ext w w' := by
  have HCm : Hid (∀ W, Ext w W → Calls Tryz.prog 110 #[.slice A la ca, .slice B lb cb] W fun e w' => e = .returned (.int .i64 (cmpZ a b)) ∧ Ext W w') := fun W hE => zCmp_v _ _ a b W (SlN.ext h1 hE) (SlN.ext h2 hE) hla hlb
  have hc : ¬ (0 : Int) ≤ cmpZ a b := by
    rw [cmpZ_lt hle]; decide
  generalize cmpZ a b = cz at *
  have HT : Hid (∀ W, Ext w W → Calls Tryz.prog 156 #[.slice B lb cb, .slice A la ca] W fun e w' => ∃ v, e = .returned v ∧ SlN w' v (b - a) ∧ Ext W w') := fun W hE => zMinus_v _ _ b a W (SlN.ext h2 hE) (SlN.ext h1 hE) hlb (Nat.le_of_lt hle)
  clear h1 h2 hla hlb
  go_enter Tryz.func134, Tryz.ntmps134
  go_wp2_with fail
  obtain ⟨X1, X2, X3, E0⟩ := boxes3 w #[.bool false, .slice A la ca] #[.bool true, .slice B lb cb] #[.bool false, .slice none 0 0] 84
  have a0 := X1.c0
  have a1 := X1.c1
  have b0 := X2.c0
  have b1 := X2.c1
  have HX3 := Lib.hid X3
  have HE0 := Lib.hid E0
  clear X1 X2 X3 E0
  generalize ((w.alloc (.cells #[.bool false, .slice A la ca] 84)).alloc (.cells #[.bool true, .slice B lb cb] 84)).alloc (.cells #[.bool false, .slice none 0 0] 84) = W0 at *
  refine (HCm.out _ HE0.out).mono ?_
  rintro e W1 ⟨rfl, hE⟩
  replace HX3 := Lib.hid (HX3.out.ext hE)
  replace HE0 := Lib.hid (HE0.out.tr hE)
  replace a0 := hE.cell a0
  replace a1 := hE.cell a1
  replace b0 := hE.cell b0
  replace b1 := hE.cell b1
  clear hE
  go_wp2_with fail
  go_region_held3 (fun w' => w'.cell? ⟨w.heap.size, 0, none⟩ = some (.bool false) ∧ w'.cell? ⟨w.heap.size, 1, none⟩ = some (.slice A la ca) ∧ w'.cell? ⟨w.heap.size + 1, 0, none⟩ = some (.bool true) ∧ w'.cell? ⟨w.heap.size + 1, 1, none⟩ = some (.slice B lb cb)) (((try dsimp only); (repeat' apply And.intro) <;> (first | assumption | (rw [World.cell?_setCell_other _ _ _ _ (by intro h; injection h with h; omega), World.cell?_setCell_other _ _ _ _ (by intro h; injection h with h; omega)]; assumption) | ((go_keep); done))))
    (first
      | (go_at_call 156; (with_reducible refine (HT.out _ (Ext.dr' HE0)).mono ?_); rintro e w1 ⟨v, rfl, hv, hE1⟩; obtain ⟨Av, lv, cv, rfl⟩ := SlN.sl3 hv; have HV1 := Lib.hid hv; have HX1 := Lib.hid ((show Bx W1.drew _ _ _ from HX3.out).ext hE1); have HE1 := Lib.hid ((Ext.dr' HE0).tr hE1); have q0 := Ext.cellD hE1 a0; have q1 := Ext.cellD hE1 a1; have q2 := Ext.cellD hE1 b0; have q3 := Ext.cellD hE1 b1; clear hE1 hv)
      | (go_at_call 135; (with_reducible refine (z2Make_any true _ _ _ HV1.out).mono ?_); rintro e w2 ⟨v2, rfl, hv2, hE2⟩; obtain ⟨bz, Az, lz, cz, rfl, hbz, hsz⟩ := hv2.ex; have HV2 := Lib.hid hv2; have HX2 := Lib.hid (HX1.out.ext hE2); have HE2 := Lib.hid (HE1.out.tr hE2); have r0 := Ext.cellH hE2 q0; have r1 := Ext.cellH hE2 q1; have r2 := Ext.cellH hE2 q2; have r3 := Ext.cellH hE2 q3; have c0 := HX2.out.c0; have c1 := HX2.out.c1; have f0 := HX2.out.f 0; have f1 := HX2.out.f 1; clear hE2 hv2 hbz hsz))
  all_goals
    go_wp2_with fail
    obtain ⟨d0, d1⟩ := set2 HX2.out (.bool bz) (.slice Az lz cz)
    have HZ := HV2.out.off HX2.out nou2 (size2 (.bool bz) (.slice Az lz cz)) (keep2 (g := w.heap.size + 1 + 1) (.bool bz) (.slice Az lz cz))
    refine bodyPost_ret (v := .agg #[.bool bz, .slice Az lz cz]) ?_ rfl ⟨_, rfl, HZ, ext_set2 (b := w.heap.size + 1 + 1) HE2.out (by omega) _ _⟩
    simp [results, Tryz.f134, go_sem, d0, d1]
set_option maxHeartbeats 4000000 in
set_option maxRecDepth 100000 in
theorem z2Times_false_false (A B : Option Addr) (la ca lb cb : Nat) (a b : Nat) (w : World) (h1 : SlN w (.slice A la ca) a) (h2 : SlN w (.slice B lb cb) b) (hla : (wds a).length ≤ 1099511627776) (hlb : (wds b).length ≤ 1099511627776) :
    Calls Tryz.prog 142 #[.agg #[.bool false, .slice A la ca], .agg #[.bool false, .slice B lb cb]] w fun e w' => ∃ v, e = .returned v ∧ ZV w' v (if false then -((a * b : Nat) : Int) else ((a * b : Nat) : Int)) ∧ Ext w w' := by
  have HT : Hid (∀ W, Ext w W → Calls Tryz.prog 136 #[.slice A la ca, .slice B lb cb] W fun e w' => ∃ v, e = .returned v ∧ SlN w' v (a * b) ∧ Ext W w') := fun W hE => zTimes_v _ _ a b W (SlN.ext h1 hE) (SlN.ext h2 hE) hla hlb
  clear h1 h2 hla hlb
  go_enter Tryz.func142, Tryz.ntmps142
  go_wp2_with fail
  obtain ⟨X1, X2, X3, E0⟩ := boxes3 w #[.bool false, .slice A la ca] #[.bool false, .slice B lb cb] #[.bool false, .slice none 0 0] 84
  have a0 := X1.c0
  have a1 := X1.c1
  have b0 := X2.c0
  have b1 := X2.c1
  have HX3 := Lib.hid X3
  have HE0 := Lib.hid E0
  clear X1 X2 X3 E0
  generalize ((w.alloc (.cells #[.bool false, .slice A la ca] 84)).alloc (.cells #[.bool false, .slice B lb cb] 84)).alloc (.cells #[.bool false, .slice none 0 0] 84) = W0 at *
  go_region_held3 (fun w' => w'.cell? ⟨w.heap.size, 0, none⟩ = some (.bool false) ∧ w'.cell? ⟨w.heap.size, 1, none⟩ = some (.slice A la ca) ∧ w'.cell? ⟨w.heap.size + 1, 0, none⟩ = some (.bool false) ∧ w'.cell? ⟨w.heap.size + 1, 1, none⟩ = some (.slice B lb cb)) (((try dsimp only); (repeat' apply And.intro) <;> (first | assumption | (rw [World.cell?_setCell_other _ _ _ _ (by intro h; injection h with h; omega), World.cell?_setCell_other _ _ _ _ (by intro h; injection h with h; omega)]; assumption) | ((go_keep); done))))
    (first
      | (go_at_call 136; (with_reducible refine (HT.out _ (Ext.dr' HE0)).mono ?_); rintro e w1 ⟨v, rfl, hv, hE1⟩; obtain ⟨Av, lv, cv, rfl⟩ := SlN.sl3 hv; have HV1 := Lib.hid hv; have HX1 := Lib.hid ((show Bx W0.drew _ _ _ from HX3.out).ext hE1); have HE1 := Lib.hid ((Ext.dr' HE0).tr hE1); have q0 := Ext.cellD hE1 a0; have q1 := Ext.cellD hE1 a1; have q2 := Ext.cellD hE1 b0; have q3 := Ext.cellD hE1 b1; clear hE1 hv)
      | (go_at_call 135; (with_reducible refine (z2Make_any false _ _ _ HV1.out).mono ?_); rintro e w2 ⟨v2, rfl, hv2, hE2⟩; obtain ⟨bz, Az, lz, cz, rfl, hbz, hsz⟩ := hv2.ex; have HV2 := Lib.hid hv2; have HX2 := Lib.hid (HX1.out.ext hE2); have HE2 := Lib.hid (HE1.out.tr hE2); have r0 := Ext.cellH hE2 q0; have r1 := Ext.cellH hE2 q1; have r2 := Ext.cellH hE2 q2; have r3 := Ext.cellH hE2 q3; have c0 := HX2.out.c0; have c1 := HX2.out.c1; have f0 := HX2.out.f 0; have f1 := HX2.out.f 1; clear hE2 hv2 hbz hsz))
  all_goals
    go_wp2_with fail
    obtain ⟨d0, d1⟩ := set2 HX2.out (.bool bz) (.slice Az lz cz)
    have HZ := HV2.out.off HX2.out nou2 (size2 (.bool bz) (.slice Az lz cz)) (keep2 (g := w.heap.size + 1 + 1) (.bool bz) (.slice Az lz cz))
    refine bodyPost_ret (v := .agg #[.bool bz, .slice Az lz cz]) ?_ rfl ⟨_, rfl, HZ, ext_set2 (b := w.heap.size + 1 + 1) HE2.out (by omega) _ _⟩
    simp [results, Tryz.f142, go_sem, d0, d1]
set_option maxHeartbeats 4000000 in
set_option maxRecDepth 100000 in
theorem z2Plus_false_false (A B : Option Addr) (la ca lb cb : Nat) (a b : Nat) (w : World) (h1 : SlN w (.slice A la ca) a) (h2 : SlN w (.slice B lb cb) b) (hla : (wds a).length ≤ 1099511627776) (hlb : (wds b).length ≤ 1099511627776) :
    Calls Tryz.prog 134 #[.agg #[.bool false, .slice A la ca], .agg #[.bool false, .slice B lb cb]] w fun e w' => ∃ v, e = .returned v ∧ ZV w' v (if false then -((a + b : Nat) : Int) else ((a + b : Nat) : Int)) ∧ Ext w w' := by
  have HT : Hid (∀ W, Ext w W → Calls Tryz.prog 155 #[.slice A la ca, .slice B lb cb] W fun e w' => ∃ v, e = .returned v ∧ SlN w' v (a + b) ∧ Ext W w') := fun W hE => zPlus_v _ _ a b W (SlN.ext h1 hE) (SlN.ext h2 hE) hla hlb
  clear h1 h2 hla hlb
  go_enter Tryz.func134, Tryz.ntmps134
  go_wp2_with fail
  obtain ⟨X1, X2, X3, E0⟩ := boxes3 w #[.bool false, .slice A la ca] #[.bool false, .slice B lb cb] #[.bool false, .slice none 0 0] 84
  have a0 := X1.c0
  have a1 := X1.c1
  have b0 := X2.c0
  have b1 := X2.c1
  have HX3 := Lib.hid X3
  have HE0 := Lib.hid E0
  clear X1 X2 X3 E0
  generalize ((w.alloc (.cells #[.bool false, .slice A la ca] 84)).alloc (.cells #[.bool false, .slice B lb cb] 84)).alloc (.cells #[.bool false, .slice none 0 0] 84) = W0 at *
  go_region_held3 (fun w' => w'.cell? ⟨w.heap.size, 0, none⟩ = some (.bool false) ∧ w'.cell? ⟨w.heap.size, 1, none⟩ = some (.slice A la ca) ∧ w'.cell? ⟨w.heap.size + 1, 0, none⟩ = some (.bool false) ∧ w'.cell? ⟨w.heap.size + 1, 1, none⟩ = some (.slice B lb cb)) (((try dsimp only); (repeat' apply And.intro) <;> (first | assumption | (rw [World.cell?_setCell_other _ _ _ _ (by intro h; injection h with h; omega), World.cell?_setCell_other _ _ _ _ (by intro h; injection h with h; omega)]; assumption) | ((go_keep); done))))
    (first
      | (go_at_call 155; (with_reducible refine (HT.out _ (Ext.dr' HE0)).mono ?_); rintro e w1 ⟨v, rfl, hv, hE1⟩; obtain ⟨Av, lv, cv, rfl⟩ := SlN.sl3 hv; have HV1 := Lib.hid hv; have HX1 := Lib.hid ((show Bx W0.drew _ _ _ from HX3.out).ext hE1); have HE1 := Lib.hid ((Ext.dr' HE0).tr hE1); have q0 := Ext.cellD hE1 a0; have q1 := Ext.cellD hE1 a1; have q2 := Ext.cellD hE1 b0; have q3 := Ext.cellD hE1 b1; clear hE1 hv)
      | (go_at_call 135; (with_reducible refine (z2Make_any false _ _ _ HV1.out).mono ?_); rintro e w2 ⟨v2, rfl, hv2, hE2⟩; obtain ⟨bz, Az, lz, cz, rfl, hbz, hsz⟩ := hv2.ex; have HV2 := Lib.hid hv2; have HX2 := Lib.hid (HX1.out.ext hE2); have HE2 := Lib.hid (HE1.out.tr hE2); have r0 := Ext.cellH hE2 q0; have r1 := Ext.cellH hE2 q1; have r2 := Ext.cellH hE2 q2; have r3 := Ext.cellH hE2 q3; have c0 := HX2.out.c0; have c1 := HX2.out.c1; have f0 := HX2.out.f 0; have f1 := HX2.out.f 1; clear hE2 hv2 hbz hsz))
  all_goals
    go_wp2_with fail
    obtain ⟨d0, d1⟩ := set2 HX2.out (.bool bz) (.slice Az lz cz)
    have HZ := HV2.out.off HX2.out nou2 (size2 (.bool bz) (.slice Az lz cz)) (keep2 (g := w.heap.size + 1 + 1) (.bool bz) (.slice Az lz cz))
    refine bodyPost_ret (v := .agg #[.bool bz, .slice Az lz cz]) ?_ rfl ⟨_, rfl, HZ, ext_set2 (b := w.heap.size + 1 + 1) HE2.out (by omega) _ _⟩
    simp [results, Tryz.f134, go_sem, d0, d1]
end Go.Proofs.YtbldlibijojbjaaGreatDoor.GB

namespace Go.Proofs.YtbldlibijojbjaaGreatDoor.GB
set_option linter.unusedVariables false
set_option linter.unusedSimpArgs false
open Go.RowKit Go.Shelf
attribute [local go_sem ↓] Go.wp_at_zero Go.wp_at_succ
/-- So many words are few. -/
abbrev FewW (n : Nat) : Prop := (wds n).length ≤ 1099511627776
theorem ZV.exq {w : World} {v : Value} {z : Int} (h : ZV w v z) (b : Bool) (hb : decide (z < 0) = b) : ∃ A la ca, v = .agg #[.bool b, .slice A la ca] ∧ SlN w (.slice A la ca) z.natAbs := by
  obtain ⟨b', A, la, ca, rfl, rfl, h1⟩ := h.ex
  exact ⟨A, la, ca, by rw [hb], h1⟩
def RetZ (z : Int) (w : World) (e : Ending) (w' : World) : Prop := ∃ v, e = .returned v ∧ ZV w' v z ∧ Ext w w'
theorem z2Times_v (v1 v2 : Value) (x y : Int) (w : World) (h1 : ZV w v1 x) (h2 : ZV w v2 y) (hx : FewW x.natAbs) (hy : FewW y.natAbs) :
    Calls Tryz.prog 142 #[v1, v2] w (RetZ (x * y) w) := by
  have hs := sgm x y
  cases hx0 : decide (x < 0) <;> cases hy0 : decide (y < 0)
  all_goals
    obtain ⟨A, la, ca, rfl, a1⟩ := h1.exq _ hx0
    obtain ⟨B, lb, cb, rfl, a2⟩ := h2.exq _ hy0
    rw [hx0, hy0] at hs
  · exact (z2Times_false_false A B la ca lb cb _ _ w a1 a2 hx hy).mono fun e w' ⟨v, h, hz, hE⟩ => ⟨v, h, by rw [← hs]; exact hz, hE⟩
  · exact (z2Times_false_true A B la ca lb cb _ _ w a1 a2 hx hy).mono fun e w' ⟨v, h, hz, hE⟩ => ⟨v, h, by rw [← hs]; exact hz, hE⟩
  · exact (z2Times_true_false A B la ca lb cb _ _ w a1 a2 hx hy).mono fun e w' ⟨v, h, hz, hE⟩ => ⟨v, h, by rw [← hs]; exact hz, hE⟩
  · exact (z2Times_true_true A B la ca lb cb _ _ w a1 a2 hx hy).mono fun e w' ⟨v, h, hz, hE⟩ => ⟨v, h, by rw [← hs]; exact hz, hE⟩
theorem z2Plus_v (v1 v2 : Value) (x y : Int) (w : World) (h1 : ZV w v1 x) (h2 : ZV w v2 y) (hx : FewW x.natAbs) (hy : FewW y.natAbs) :
    Calls Tryz.prog 134 #[v1, v2] w (RetZ (x + y) w) := by
  cases hx0 : decide (x < 0) <;> cases hy0 : decide (y < 0)
  all_goals
    obtain ⟨A, la, ca, rfl, a1⟩ := h1.exq _ hx0
    obtain ⟨B, lb, cb, rfl, a2⟩ := h2.exq _ hy0
    first | have hx1 := of_decide_eq_true hx0 | have hx1 := of_decide_eq_false hx0
    first | have hy1 := of_decide_eq_true hy0 | have hy1 := of_decide_eq_false hy0
  · exact (z2Plus_false_false A B la ca lb cb _ _ w a1 a2 hx hy).mono fun e w' ⟨v, h, hz, hE⟩ => ⟨v, h, by rw [if_neg (by decide)] at hz; rw [show x + y = ((x.natAbs + y.natAbs : Nat) : Int) by omega]; exact hz, hE⟩
  · rcases Nat.lt_or_ge x.natAbs y.natAbs with hle | hle
    · exact (z2Plus_false_true_0 A B la ca lb cb _ _ w a1 a2 hx hy hle).mono fun e w' ⟨v, h, hz, hE⟩ => ⟨v, h, by rw [if_pos rfl] at hz; rw [show x + y = -((y.natAbs - x.natAbs : Nat) : Int) by omega]; exact hz, hE⟩
    · exact (z2Plus_false_true_1 A B la ca lb cb _ _ w a1 a2 hx hy hle).mono fun e w' ⟨v, h, hz, hE⟩ => ⟨v, h, by rw [if_neg (by decide)] at hz; rw [show x + y = ((x.natAbs - y.natAbs : Nat) : Int) by omega]; exact hz, hE⟩
  · rcases Nat.lt_or_ge x.natAbs y.natAbs with hle | hle
    · exact (z2Plus_true_false_0 A B la ca lb cb _ _ w a1 a2 hx hy hle).mono fun e w' ⟨v, h, hz, hE⟩ => ⟨v, h, by rw [if_neg (by decide)] at hz; rw [show x + y = ((y.natAbs - x.natAbs : Nat) : Int) by omega]; exact hz, hE⟩
    · exact (z2Plus_true_false_1 A B la ca lb cb _ _ w a1 a2 hx hy hle).mono fun e w' ⟨v, h, hz, hE⟩ => ⟨v, h, by rw [if_pos rfl] at hz; rw [show x + y = -((x.natAbs - y.natAbs : Nat) : Int) by omega]; exact hz, hE⟩
  · exact (z2Plus_true_true A B la ca lb cb _ _ w a1 a2 hx hy).mono fun e w' ⟨v, h, hz, hE⟩ => ⟨v, h, by rw [if_pos rfl] at hz; rw [show x + y = -((x.natAbs + y.natAbs : Nat) : Int) by omega]; exact hz, hE⟩
set_option maxHeartbeats 4000000 in
set_option maxRecDepth 100000 in
theorem z2Opp_true (A : Option Addr) (la ca a : Nat) (w : World) (h1 : SlN w (.slice A la ca) a) :
    Calls Tryz.prog 192 #[.agg #[.bool true, .slice A la ca]] w (RetZ (if false then -((a : Nat) : Int) else ((a : Nat) : Int)) w) := by
  have H1 := Lib.hid h1
  clear h1
  go_enter Tryz.func192, Tryz.ntmps192
  go_wp2_with fail
  obtain ⟨X1, X2, E0⟩ := boxes2 w #[.bool true, .slice A la ca] #[.bool false, .slice none 0 0] 84
  refine (z2Make_any false _ a _ (SlN.ext H1.out E0)).mono ?_
  rintro e w2 ⟨v2, rfl, hv2, hE2⟩
  obtain ⟨bz, Az, lz, cz, rfl, hbz, hsz⟩ := hv2.ex
  have Y2 := X2.ext hE2
  have HV2 := Lib.hid hv2
  have HY2 := Lib.hid Y2
  have HE2 := Lib.hid (E0.tr hE2)
  have c0 := Y2.c0
  have c1 := Y2.c1
  have f0 := Y2.f 0
  have f1 := Y2.f 1
  clear X1 X2 E0 hE2 hv2 hbz hsz Y2
  go_wp2_with fail
  obtain ⟨d0, d1⟩ := set2 HY2.out (.bool bz) (.slice Az lz cz)
  have HZ := HV2.out.off HY2.out nou2 (size2 (.bool bz) (.slice Az lz cz)) (keep2 (g := w.heap.size + 1) (.bool bz) (.slice Az lz cz))
  refine bodyPost_ret (v := .agg #[.bool bz, .slice Az lz cz]) ?_ rfl ⟨_, rfl, HZ, ext_set2 (b := w.heap.size + 1) HE2.out (by omega) _ _⟩
  simp [results, Tryz.f192, go_sem, d0, d1]
set_option maxHeartbeats 4000000 in
set_option maxRecDepth 100000 in
theorem z2Opp_false (A : Option Addr) (la ca a : Nat) (w : World) (h1 : SlN w (.slice A la ca) a) :
    Calls Tryz.prog 192 #[.agg #[.bool false, .slice A la ca]] w (RetZ (if true then -((a : Nat) : Int) else ((a : Nat) : Int)) w) := by
  have H1 := Lib.hid h1
  clear h1
  go_enter Tryz.func192, Tryz.ntmps192
  go_wp2_with fail
  obtain ⟨X1, X2, E0⟩ := boxes2 w #[.bool false, .slice A la ca] #[.bool false, .slice none 0 0] 84
  refine (z2Make_any true _ a _ (SlN.ext H1.out E0)).mono ?_
  rintro e w2 ⟨v2, rfl, hv2, hE2⟩
  obtain ⟨bz, Az, lz, cz, rfl, hbz, hsz⟩ := hv2.ex
  have Y2 := X2.ext hE2
  have HV2 := Lib.hid hv2
  have HY2 := Lib.hid Y2
  have HE2 := Lib.hid (E0.tr hE2)
  have c0 := Y2.c0
  have c1 := Y2.c1
  have f0 := Y2.f 0
  have f1 := Y2.f 1
  clear X1 X2 E0 hE2 hv2 hbz hsz Y2
  go_wp2_with fail
  obtain ⟨d0, d1⟩ := set2 HY2.out (.bool bz) (.slice Az lz cz)
  have HZ := HV2.out.off HY2.out nou2 (size2 (.bool bz) (.slice Az lz cz)) (keep2 (g := w.heap.size + 1) (.bool bz) (.slice Az lz cz))
  refine bodyPost_ret (v := .agg #[.bool bz, .slice Az lz cz]) ?_ rfl ⟨_, rfl, HZ, ext_set2 (b := w.heap.size + 1) HE2.out (by omega) _ _⟩
  simp [results, Tryz.f192, go_sem, d0, d1]
theorem z2Opp_v (v : Value) (x : Int) (w : World) (h : ZV w v x) : Calls Tryz.prog 192 #[v] w (RetZ (-x) w) := by
  cases hx0 : decide (x < 0)
  all_goals
    obtain ⟨A, la, ca, rfl, a1⟩ := h.exq _ hx0
    first | have hx1 := of_decide_eq_true hx0 | have hx1 := of_decide_eq_false hx0
  · exact (z2Opp_false A la ca _ w a1).mono fun e w' ⟨v, h, hz, hE⟩ => ⟨v, h, by rw [if_pos rfl] at hz; rw [show -x = -((x.natAbs : Nat) : Int) by omega]; exact hz, hE⟩
  · exact (z2Opp_true A la ca _ w a1).mono fun e w' ⟨v, h, hz, hE⟩ => ⟨v, h, by rw [if_neg (by decide)] at hz; rw [show -x = ((x.natAbs : Nat) : Int) by omega]; exact hz, hE⟩
set_option maxHeartbeats 4000000 in
set_option maxRecDepth 100000 in
theorem z2Minus_v (v1 v2 : Value) (x y : Int) (w : World) (h1 : ZV w v1 x) (h2 : ZV w v2 y) (hx : FewW x.natAbs) (hy : FewW y.natAbs) :
    Calls Tryz.prog 167 #[v1, v2] w (RetZ (x - y) w) := by
  obtain ⟨sa, A, la, ca, rfl, -, -⟩ := h1.ex
  obtain ⟨sb, B, lb, cb, rfl, -, -⟩ := h2.ex
  have H1 := Lib.hid h1
  have H2 := Lib.hid h2
  have HOp : Hid (∀ W, Ext w W → Calls Tryz.prog 192 #[.agg #[.bool sb, .slice B lb cb]] W (RetZ (-y) W)) := fun W hE => z2Opp_v _ y W (h2.ext hE)
  have HPl : Hid (∀ W vo, Ext w W → ZV W vo (-y) → Calls Tryz.prog 134 #[.agg #[.bool sa, .slice A la ca], vo] W (RetZ (x - y) W)) := fun W vo hE ho => by
    have h := z2Plus_v _ vo x (-y) W (h1.ext hE) ho hx (by rw [Int.natAbs_neg]; exact hy)
    rwa [← Int.sub_eq_add_neg] at h
  clear h1 h2 hx hy
  go_enter Tryz.func167, Tryz.ntmps167
  go_wp2_with fail
  obtain ⟨X1, X2, X3, E0⟩ := boxes3 w #[.bool sa, .slice A la ca] #[.bool sb, .slice B lb cb] #[.bool false, .slice none 0 0] 84
  have a0 := X1.c0
  have a1 := X1.c1
  have b0 := X2.c0
  have b1 := X2.c1
  have HX3 := Lib.hid X3
  have HE0 := Lib.hid E0
  clear X1 X2 X3 E0
  generalize ((w.alloc (.cells #[.bool sa, .slice A la ca] 84)).alloc (.cells #[.bool sb, .slice B lb cb] 84)).alloc (.cells #[.bool false, .slice none 0 0] 84) = W0 at *
  go_region_held3 (fun w' => w'.cell? ⟨w.heap.size, 0, none⟩ = some (.bool sa) ∧ w'.cell? ⟨w.heap.size, 1, none⟩ = some (.slice A la ca) ∧ w'.cell? ⟨w.heap.size + 1, 0, none⟩ = some (.bool sb) ∧ w'.cell? ⟨w.heap.size + 1, 1, none⟩ = some (.slice B lb cb)) (((try dsimp only); (repeat' apply And.intro) <;> (first | assumption | (rw [World.cell?_setCell_other _ _ _ _ (by intro h; injection h with h; omega), World.cell?_setCell_other _ _ _ _ (by intro h; injection h with h; omega)]; assumption) | ((go_keep); done))))
    (first
      | (go_at_call 192; (with_reducible refine (HOp.out _ (Ext.dr' HE0)).mono ?_); rintro e w1 ⟨vo, rfl, hv, hE1⟩; obtain ⟨bo, Ao, lo, co, rfl, -, -⟩ := hv.ex; have HV1 := Lib.hid hv; have HX1 := Lib.hid ((show Bx W0.drew _ _ _ from HX3.out).ext hE1); have HE1 := Lib.hid ((Ext.dr' HE0).tr hE1); have q0 := Ext.cellD hE1 a0; have q1 := Ext.cellD hE1 a1; have q2 := Ext.cellD hE1 b0; have q3 := Ext.cellD hE1 b1; clear hE1 hv)
      | (go_at_call 134; (with_reducible refine (HPl.out _ _ HE1.out HV1.out).mono ?_); rintro e w2 ⟨v2, rfl, hv2, hE2⟩; obtain ⟨bz, Az, lz, cz, rfl, hbz, hsz⟩ := hv2.ex; have HV2 := Lib.hid hv2; have HX2 := Lib.hid (HX1.out.ext hE2); have HE2 := Lib.hid (HE1.out.tr hE2); have r0 := Ext.cellH hE2 q0; have r1 := Ext.cellH hE2 q1; have r2 := Ext.cellH hE2 q2; have r3 := Ext.cellH hE2 q3; have c0 := HX2.out.c0; have c1 := HX2.out.c1; have f0 := HX2.out.f 0; have f1 := HX2.out.f 1; clear hE2 hv2 hbz hsz))
  all_goals
    go_wp2_with fail
    obtain ⟨d0, d1⟩ := set2 HX2.out (.bool bz) (.slice Az lz cz)
    have HZ := HV2.out.off HX2.out nou2 (size2 (.bool bz) (.slice Az lz cz)) (keep2 (g := w.heap.size + 1 + 1) (.bool bz) (.slice Az lz cz))
    refine bodyPost_ret (v := .agg #[.bool bz, .slice Az lz cz]) ?_ rfl ⟨_, rfl, HZ, ext_set2 (b := w.heap.size + 1 + 1) HE2.out (by omega) _ _⟩
    simp [results, Tryz.f167, go_sem, d0, d1]
set_option maxHeartbeats 4000000 in
set_option maxRecDepth 100000 in
theorem z2Cmp_v (v1 v2 : Value) (x y : Int) (w : World) (h1 : ZV w v1 x) (h2 : ZV w v2 y) (hx : FewW x.natAbs) (hy : FewW y.natAbs) :
    Calls Tryz.prog 147 #[v1, v2] w fun e w' => e = .returned (.int .i64 (sgq (x - y))) ∧ Ext w w' := by
  obtain ⟨sa, A, la, ca, rfl, -, -⟩ := h1.ex
  obtain ⟨sb, B, lb, cb, rfl, -, -⟩ := h2.ex
  have HMi : Hid (∀ W, Ext w W → Calls Tryz.prog 167 #[.agg #[.bool sa, .slice A la ca], .agg #[.bool sb, .slice B lb cb]] W (RetZ (x - y) W)) := fun W hE => z2Minus_v _ _ x y W (h1.ext hE) (h2.ext hE) hx hy
  clear h1 h2 hx hy
  go_enter Tryz.func147, Tryz.ntmps147
  go_wp2_with fail
  obtain ⟨X1, X2, E0⟩ := boxes2 w #[.bool sa, .slice A la ca] #[.bool sb, .slice B lb cb] 84
  refine (HMi.out _ E0).mono ?_
  rintro e w1 ⟨v, rfl, hv, hE⟩
  have HE := Lib.hid (E0.tr hE)
  have HS := Lib.hid (z2Signum_any v (x - y) w1 hv)
  clear X1 X2 E0 hE hv
  go_wp2_with fail
  refine HS.out.mono ?_
  rintro e w2 ⟨rfl, hE⟩
  have HE2 := Lib.hid (HE.out.tr hE)
  clear hE
  go_wp2_with fail
  go_ret
  exact ⟨rfl, HE2.out⟩
end Go.Proofs.YtbldlibijojbjaaGreatDoor.GB
