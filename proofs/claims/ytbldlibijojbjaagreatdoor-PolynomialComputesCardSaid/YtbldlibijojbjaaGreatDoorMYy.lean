import Derived.Test.YtbldlibijojbjaaGreatDoorMYx
import Derived.Test.YtbldlibijojbjaaGreatDoorMRn
import Derived.Test.YtbldlibijojbjaaGreatDoorMNum
import Derived.Lib.LazyBuf
namespace Go.Proofs.YtbldlibijojbjaaGreatDoor.GB
set_option linter.unusedVariables false
set_option linter.unusedSimpArgs false
open Go.RowKit Go.Shelf
attribute [local go_sem ↓] Go.wp_at_zero Go.wp_at_succ
theorem sgq_Z (z : Int) : sgq z = sgnZ z := by
  unfold sgq sgnZ
  rcases (by omega : z < 0 ∨ z = 0 ∨ 0 < z) with h | h | h
  · rw [if_pos h, if_neg (by omega), if_pos h]
  · rw [if_neg (by omega), if_neg (by omega), if_pos h]
  · rw [if_neg (by omega), if_pos h, if_neg (by omega), if_neg (by omega)]
theorem cq_lt {x y : Rat} (h : sgq x.num < sgq y.num) : cmpR x y = -1 := by
  rw [sgq_Z, sgq_Z] at h
  rw [← cmpR_sign x y (by omega)]; omega
theorem cq_gt {x y : Rat} (h : sgq y.num < sgq x.num) : cmpR x y = 1 := by
  rw [sgq_Z, sgq_Z] at h
  rw [← cmpR_sign x y (by omega)]; omega
theorem cmpR_sgq (x y : Rat) : sgq (x.num * y.den - y.num * x.den) = cmpR x y := by
  rw [sgq_Z, Int.sub_eq_add_neg]; exact cmpR_sub x y
theorem cq_le {x y : Rat} : decide (cmpR x y ≤ 0) = decide (x ≤ y) := by
  unfold cmpR
  by_cases h : x < y
  · rw [if_pos h, decide_eq_true (Rat.le_of_lt h)]; rfl
  · rw [if_neg h]
    by_cases k : y < x
    · rw [if_pos k, decide_eq_false (Rat.not_le.2 k)]; rfl
    · rw [if_neg k, decide_eq_true (Rat.not_lt.1 k)]; rfl
theorem cq_ge {x y : Rat} : decide (0 ≤ cmpR x y) = decide (y ≤ x) := by
  unfold cmpR
  by_cases h : x < y
  · rw [if_pos h, decide_eq_false (Rat.not_le.2 h)]; rfl
  · rw [if_neg h, decide_eq_true (Rat.not_lt.1 h)]
    by_cases k : y < x
    · rw [if_pos k]; rfl
    · rw [if_neg k]; rfl
set_option maxHeartbeats 8000000 in
set_option maxRecDepth 200000 in
theorem q3Cmp_lt (v1 v2 : Value) (x y : Rat) (n m : Nat) (w : World) (h1 : QV w v1 x) (h2 : QV w v2 y) (hx : Bd x n) (hy : Bd y m) (hk : n + m + 2 ≤ KK) (hd : sgq x.num < sgq y.num) :
    Calls Tryz.prog 121 #[v1, v2] w fun e w' => e = .returned (.int .i64 (cmpR x y)) ∧ Ext w w' := by
  obtain ⟨ba, A, la, ca, B, lb, cb, rfl, -, -, -⟩ := h1.ex
  obtain ⟨bb, C, lc, cc, D, ld, cd, rfl, -, -, -⟩ := h2.ex
  obtain ⟨nx, hsx⟩ : ∃ s, sgq x.num = s := ⟨_, rfl⟩
  obtain ⟨ny, hsy⟩ : ∃ s, sgq y.num = s := ⟨_, rfl⟩
  have HS1 : Hid (∀ W, Ext w W → Calls Tryz.prog 89 #[.agg #[.bool ba, .slice A la ca, .slice B lb cb]] W fun e w' => e = .returned (.int .i64 nx) ∧ Ext W w') := fun W hE => hsx ▸ q3Sign_any _ x W (h1.ext hE)
  have HS2 : Hid (∀ W, Ext w W → Calls Tryz.prog 89 #[.agg #[.bool bb, .slice C lc cc, .slice D ld cd]] W fun e w' => e = .returned (.int .i64 ny) ∧ Ext W w') := fun W hE => hsy ▸ q3Sign_any _ y W (h2.ext hE)
  have hr := cq_lt hd
  rw [hsx, hsy] at hd
  have hne : (nx == ny) = false := beq_eq_false_iff_ne.2 (by omega)
  have hlt : decide (nx < ny) = true := decide_eq_true hd
  rw [hr]
  clear hd hr hsx hsy h1 h2 hx hy hk
  go_enter Tryz.func121, Tryz.ntmps121
  go_wp2_with fail
  obtain ⟨X1, X2, E0⟩ := boxes2 w #[.bool ba, .slice A la ca, .slice B lb cb] #[.bool bb, .slice C lc cc, .slice D ld cd] 86
  have a0 : ((w.alloc (.cells #[.bool ba, .slice A la ca, .slice B lb cb] 86)).alloc (.cells #[.bool bb, .slice C lc cc, .slice D ld cd] 86)).cell? ⟨w.heap.size, 0, none⟩ = some (.bool ba) := X1.c 0
  have a1 : ((w.alloc (.cells #[.bool ba, .slice A la ca, .slice B lb cb] 86)).alloc (.cells #[.bool bb, .slice C lc cc, .slice D ld cd] 86)).cell? ⟨w.heap.size, 1, none⟩ = some (.slice A la ca) := X1.c 1
  have a2 : ((w.alloc (.cells #[.bool ba, .slice A la ca, .slice B lb cb] 86)).alloc (.cells #[.bool bb, .slice C lc cc, .slice D ld cd] 86)).cell? ⟨w.heap.size, 2, none⟩ = some (.slice B lb cb) := X1.c 2
  have b0 : ((w.alloc (.cells #[.bool ba, .slice A la ca, .slice B lb cb] 86)).alloc (.cells #[.bool bb, .slice C lc cc, .slice D ld cd] 86)).cell? ⟨w.heap.size + 1, 0, none⟩ = some (.bool bb) := X2.c 0
  have b1 : ((w.alloc (.cells #[.bool ba, .slice A la ca, .slice B lb cb] 86)).alloc (.cells #[.bool bb, .slice C lc cc, .slice D ld cd] 86)).cell? ⟨w.heap.size + 1, 1, none⟩ = some (.slice C lc cc) := X2.c 1
  have b2 : ((w.alloc (.cells #[.bool ba, .slice A la ca, .slice B lb cb] 86)).alloc (.cells #[.bool bb, .slice C lc cc, .slice D ld cd] 86)).cell? ⟨w.heap.size + 1, 2, none⟩ = some (.slice D ld cd) := X2.c 2
  have HX := Lib.hid X2
  have HE := Lib.hid E0
  clear X1 X2 E0
  generalize (w.alloc (.cells #[.bool ba, .slice A la ca, .slice B lb cb] 86)).alloc (.cells #[.bool bb, .slice C lc cc, .slice D ld cd] 86) = W0 at *
  go_region_held3 (fun w' => w'.cell? ⟨w.heap.size, 0, none⟩ = some (.bool ba) ∧ w'.cell? ⟨w.heap.size, 1, none⟩ = some (.slice A la ca) ∧ w'.cell? ⟨w.heap.size, 2, none⟩ = some (.slice B lb cb) ∧ w'.cell? ⟨w.heap.size + 1, 0, none⟩ = some (.bool bb) ∧ w'.cell? ⟨w.heap.size + 1, 1, none⟩ = some (.slice C lc cc) ∧ w'.cell? ⟨w.heap.size + 1, 2, none⟩ = some (.slice D ld cd)) (((try dsimp only); (repeat' apply And.intro) <;> (first | (with_reducible assumption) | (rw [neC (by omega), neC (by omega), neC (by omega)]; with_reducible assumption) | (rw [neC (by omega), neC (by omega)]; with_reducible assumption) | ((go_keep); done))))
    (first
      | (go_at_call 89; (with_reducible refine (HS1.out _ (Ext.dr' HE)).mono ?_); rintro e w1 ⟨rfl, hE⟩; replace hE := ((Ext.rfl' _).dr).tr hE; replace a0 := Ext.cellH hE a0; replace a1 := Ext.cellH hE a1; replace a2 := Ext.cellH hE a2; replace b0 := Ext.cellH hE b0; replace b1 := Ext.cellH hE b1; replace b2 := Ext.cellH hE b2; replace HX := Bx.hext HX hE; replace HE := Lib.hid (HE.out.tr hE); clear hE)
      | (go_at_call 89; (with_reducible refine (HS2.out _ HE.out).mono ?_); rintro e w2 ⟨rfl, hE⟩; replace a0 := Ext.cellH hE a0; replace a1 := Ext.cellH hE a1; replace a2 := Ext.cellH hE a2; replace b0 := Ext.cellH hE b0; replace b1 := Ext.cellH hE b1; replace b2 := Ext.cellH hE b2; replace HX := Bx.hext HX hE; replace HE := Lib.hid (HE.out.tr hE); clear hE))
  all_goals
    clear a0 a1 a2 b0 b1 b2
    go_wp2_with fail
    go_ret
    exact ⟨rfl, HE.out⟩
set_option maxHeartbeats 8000000 in
set_option maxRecDepth 200000 in
theorem q3Cmp_gt (v1 v2 : Value) (x y : Rat) (n m : Nat) (w : World) (h1 : QV w v1 x) (h2 : QV w v2 y) (hx : Bd x n) (hy : Bd y m) (hk : n + m + 2 ≤ KK) (hd : sgq y.num < sgq x.num) :
    Calls Tryz.prog 121 #[v1, v2] w fun e w' => e = .returned (.int .i64 (cmpR x y)) ∧ Ext w w' := by
  obtain ⟨ba, A, la, ca, B, lb, cb, rfl, -, -, -⟩ := h1.ex
  obtain ⟨bb, C, lc, cc, D, ld, cd, rfl, -, -, -⟩ := h2.ex
  obtain ⟨nx, hsx⟩ : ∃ s, sgq x.num = s := ⟨_, rfl⟩
  obtain ⟨ny, hsy⟩ : ∃ s, sgq y.num = s := ⟨_, rfl⟩
  have HS1 : Hid (∀ W, Ext w W → Calls Tryz.prog 89 #[.agg #[.bool ba, .slice A la ca, .slice B lb cb]] W fun e w' => e = .returned (.int .i64 nx) ∧ Ext W w') := fun W hE => hsx ▸ q3Sign_any _ x W (h1.ext hE)
  have HS2 : Hid (∀ W, Ext w W → Calls Tryz.prog 89 #[.agg #[.bool bb, .slice C lc cc, .slice D ld cd]] W fun e w' => e = .returned (.int .i64 ny) ∧ Ext W w') := fun W hE => hsy ▸ q3Sign_any _ y W (h2.ext hE)
  have hr := cq_gt hd
  rw [hsx, hsy] at hd
  have hne : (nx == ny) = false := beq_eq_false_iff_ne.2 (by omega)
  have hlt : decide (nx < ny) = false := decide_eq_false (by omega)
  rw [hr]
  clear hd hr hsx hsy h1 h2 hx hy hk
  go_enter Tryz.func121, Tryz.ntmps121
  go_wp2_with fail
  obtain ⟨X1, X2, E0⟩ := boxes2 w #[.bool ba, .slice A la ca, .slice B lb cb] #[.bool bb, .slice C lc cc, .slice D ld cd] 86
  have a0 : ((w.alloc (.cells #[.bool ba, .slice A la ca, .slice B lb cb] 86)).alloc (.cells #[.bool bb, .slice C lc cc, .slice D ld cd] 86)).cell? ⟨w.heap.size, 0, none⟩ = some (.bool ba) := X1.c 0
  have a1 : ((w.alloc (.cells #[.bool ba, .slice A la ca, .slice B lb cb] 86)).alloc (.cells #[.bool bb, .slice C lc cc, .slice D ld cd] 86)).cell? ⟨w.heap.size, 1, none⟩ = some (.slice A la ca) := X1.c 1
  have a2 : ((w.alloc (.cells #[.bool ba, .slice A la ca, .slice B lb cb] 86)).alloc (.cells #[.bool bb, .slice C lc cc, .slice D ld cd] 86)).cell? ⟨w.heap.size, 2, none⟩ = some (.slice B lb cb) := X1.c 2
  have b0 : ((w.alloc (.cells #[.bool ba, .slice A la ca, .slice B lb cb] 86)).alloc (.cells #[.bool bb, .slice C lc cc, .slice D ld cd] 86)).cell? ⟨w.heap.size + 1, 0, none⟩ = some (.bool bb) := X2.c 0
  have b1 : ((w.alloc (.cells #[.bool ba, .slice A la ca, .slice B lb cb] 86)).alloc (.cells #[.bool bb, .slice C lc cc, .slice D ld cd] 86)).cell? ⟨w.heap.size + 1, 1, none⟩ = some (.slice C lc cc) := X2.c 1
  have b2 : ((w.alloc (.cells #[.bool ba, .slice A la ca, .slice B lb cb] 86)).alloc (.cells #[.bool bb, .slice C lc cc, .slice D ld cd] 86)).cell? ⟨w.heap.size + 1, 2, none⟩ = some (.slice D ld cd) := X2.c 2
  have HX := Lib.hid X2
  have HE := Lib.hid E0
  clear X1 X2 E0
  generalize (w.alloc (.cells #[.bool ba, .slice A la ca, .slice B lb cb] 86)).alloc (.cells #[.bool bb, .slice C lc cc, .slice D ld cd] 86) = W0 at *
  go_region_held3 (fun w' => w'.cell? ⟨w.heap.size, 0, none⟩ = some (.bool ba) ∧ w'.cell? ⟨w.heap.size, 1, none⟩ = some (.slice A la ca) ∧ w'.cell? ⟨w.heap.size, 2, none⟩ = some (.slice B lb cb) ∧ w'.cell? ⟨w.heap.size + 1, 0, none⟩ = some (.bool bb) ∧ w'.cell? ⟨w.heap.size + 1, 1, none⟩ = some (.slice C lc cc) ∧ w'.cell? ⟨w.heap.size + 1, 2, none⟩ = some (.slice D ld cd)) (((try dsimp only); (repeat' apply And.intro) <;> (first | (with_reducible assumption) | (rw [neC (by omega), neC (by omega), neC (by omega)]; with_reducible assumption) | (rw [neC (by omega), neC (by omega)]; with_reducible assumption) | ((go_keep); done))))
    (first
      | (go_at_call 89; (with_reducible refine (HS1.out _ (Ext.dr' HE)).mono ?_); rintro e w1 ⟨rfl, hE⟩; replace hE := ((Ext.rfl' _).dr).tr hE; replace a0 := Ext.cellH hE a0; replace a1 := Ext.cellH hE a1; replace a2 := Ext.cellH hE a2; replace b0 := Ext.cellH hE b0; replace b1 := Ext.cellH hE b1; replace b2 := Ext.cellH hE b2; replace HX := Bx.hext HX hE; replace HE := Lib.hid (HE.out.tr hE); clear hE)
      | (go_at_call 89; (with_reducible refine (HS2.out _ HE.out).mono ?_); rintro e w2 ⟨rfl, hE⟩; replace a0 := Ext.cellH hE a0; replace a1 := Ext.cellH hE a1; replace a2 := Ext.cellH hE a2; replace b0 := Ext.cellH hE b0; replace b1 := Ext.cellH hE b1; replace b2 := Ext.cellH hE b2; replace HX := Bx.hext HX hE; replace HE := Lib.hid (HE.out.tr hE); clear hE))
  all_goals
    clear a0 a1 a2 b0 b1 b2
    go_wp2_with fail
    go_ret
    exact ⟨rfl, HE.out⟩
set_option maxHeartbeats 8000000 in
set_option maxRecDepth 200000 in
theorem q3Cmp_eq (v1 v2 : Value) (x y : Rat) (n m : Nat) (w : World) (h1 : QV w v1 x) (h2 : QV w v2 y) (hx : Bd x n) (hy : Bd y m) (hk : n + m + 2 ≤ KK) (hd : sgq y.num = sgq x.num) :
    Calls Tryz.prog 121 #[v1, v2] w fun e w' => e = .returned (.int .i64 (cmpR x y)) ∧ Ext w w' := by
  obtain ⟨fx1, fx2⟩ := bd_fit hx (by omega)
  obtain ⟨fy1, fy2⟩ := bd_fit hy (by omega)
  obtain ⟨-, fa2, fa3, -⟩ := bd_addfit hx hy hk
  obtain ⟨ba, A, la, ca, B, lb, cb, rfl, -, -, -⟩ := h1.ex
  obtain ⟨bb, C, lc, cc, D, ld, cd, rfl, -, -, -⟩ := h2.ex
  obtain ⟨nx, hsx⟩ : ∃ s, sgq x.num = s := ⟨_, rfl⟩
  rw [hsx] at hd
  have HS1 : Hid (∀ W, Ext w W → Calls Tryz.prog 89 #[.agg #[.bool ba, .slice A la ca, .slice B lb cb]] W fun e w' => e = .returned (.int .i64 nx) ∧ Ext W w') := fun W hE => hsx ▸ q3Sign_any _ x W (h1.ext hE)
  have HS2 : Hid (∀ W, Ext w W → Calls Tryz.prog 89 #[.agg #[.bool bb, .slice C lc cc, .slice D ld cd]] W fun e w' => e = .returned (.int .i64 nx) ∧ Ext W w') := fun W hE => hd ▸ q3Sign_any _ y W (h2.ext hE)
  have HT1 : Hid (∀ W, Ext w W → Calls Tryz.prog 136 #[.slice A la ca, .slice D ld cd] W fun e w' => ∃ v, e = .returned v ∧ SlN w' v (x.num.natAbs * y.den) ∧ Ext W w') := fun W hE => zTimes_v _ _ _ _ W (h1.ext hE).z.2.2.1 (h2.ext hE).z.2.1 (DivW.few fx1.len) (DivW.few fy2.len)
  have HT2 : Hid (∀ W, Ext w W → Calls Tryz.prog 136 #[.slice C lc cc, .slice B lb cb] W fun e w' => ∃ v, e = .returned v ∧ SlN w' v (y.num.natAbs * x.den) ∧ Ext W w') := fun W hE => zTimes_v _ _ _ _ W (h2.ext hE).z.2.2.1 (h1.ext hE).z.2.1 (DivW.few fy1.len) (DivW.few fx2.len)
  have HM1 : Hid (∀ W v, SlN W v (x.num.natAbs * y.den) → Calls Tryz.prog 135 #[.bool ba, v] W (RetZ (x.num * y.den) W)) := fun W v hv => by
    rw [← sgmul, ← h1.z.2.2.2]
    exact z2Make_any ba v _ W hv
  have HM2 : Hid (∀ W v, SlN W v (y.num.natAbs * x.den) → Calls Tryz.prog 135 #[.bool bb, v] W (RetZ (y.num * x.den) W)) := fun W v hv => by
    rw [← sgmul, ← h2.z.2.2.2]
    exact z2Make_any bb v _ W hv
  have HC : Hid (∀ W u v, ZV W u (x.num * y.den) → ZV W v (y.num * x.den) → Calls Tryz.prog 147 #[u, v] W fun e w' => e = .returned (.int .i64 (cmpR x y)) ∧ Ext W w') := fun W u v hu hv => by
    rw [← cmpR_sgq]
    exact z2Cmp_v _ _ _ _ W hu hv (DivW.few fa2.len) (DivW.few fa3.len)
  clear hd hsx h1 h2 hx hy hk fx1 fx2 fy1 fy2 fa2 fa3
  go_enter Tryz.func121, Tryz.ntmps121
  go_wp2_with fail
  obtain ⟨X1, X2, E0⟩ := boxes2 w #[.bool ba, .slice A la ca, .slice B lb cb] #[.bool bb, .slice C lc cc, .slice D ld cd] 86
  have a0 : ((w.alloc (.cells #[.bool ba, .slice A la ca, .slice B lb cb] 86)).alloc (.cells #[.bool bb, .slice C lc cc, .slice D ld cd] 86)).cell? ⟨w.heap.size, 0, none⟩ = some (.bool ba) := X1.c 0
  have a1 : ((w.alloc (.cells #[.bool ba, .slice A la ca, .slice B lb cb] 86)).alloc (.cells #[.bool bb, .slice C lc cc, .slice D ld cd] 86)).cell? ⟨w.heap.size, 1, none⟩ = some (.slice A la ca) := X1.c 1
  have a2 : ((w.alloc (.cells #[.bool ba, .slice A la ca, .slice B lb cb] 86)).alloc (.cells #[.bool bb, .slice C lc cc, .slice D ld cd] 86)).cell? ⟨w.heap.size, 2, none⟩ = some (.slice B lb cb) := X1.c 2
  have b0 : ((w.alloc (.cells #[.bool ba, .slice A la ca, .slice B lb cb] 86)).alloc (.cells #[.bool bb, .slice C lc cc, .slice D ld cd] 86)).cell? ⟨w.heap.size + 1, 0, none⟩ = some (.bool bb) := X2.c 0
  have b1 : ((w.alloc (.cells #[.bool ba, .slice A la ca, .slice B lb cb] 86)).alloc (.cells #[.bool bb, .slice C lc cc, .slice D ld cd] 86)).cell? ⟨w.heap.size + 1, 1, none⟩ = some (.slice C lc cc) := X2.c 1
  have b2 : ((w.alloc (.cells #[.bool ba, .slice A la ca, .slice B lb cb] 86)).alloc (.cells #[.bool bb, .slice C lc cc, .slice D ld cd] 86)).cell? ⟨w.heap.size + 1, 2, none⟩ = some (.slice D ld cd) := X2.c 2
  have HX := Lib.hid X2
  have HE := Lib.hid E0
  clear X1 X2 E0
  generalize (w.alloc (.cells #[.bool ba, .slice A la ca, .slice B lb cb] 86)).alloc (.cells #[.bool bb, .slice C lc cc, .slice D ld cd] 86) = W0 at *
  go_region_held3 (fun w' => w'.cell? ⟨w.heap.size, 0, none⟩ = some (.bool ba) ∧ w'.cell? ⟨w.heap.size, 1, none⟩ = some (.slice A la ca) ∧ w'.cell? ⟨w.heap.size, 2, none⟩ = some (.slice B lb cb) ∧ w'.cell? ⟨w.heap.size + 1, 0, none⟩ = some (.bool bb) ∧ w'.cell? ⟨w.heap.size + 1, 1, none⟩ = some (.slice C lc cc) ∧ w'.cell? ⟨w.heap.size + 1, 2, none⟩ = some (.slice D ld cd)) (((try dsimp only); (repeat' apply And.intro) <;> (first | (with_reducible assumption) | (rw [neC (by omega), neC (by omega), neC (by omega)]; with_reducible assumption) | (rw [neC (by omega), neC (by omega)]; with_reducible assumption) | ((go_keep); done))))
    (first
      | (go_at_call 89; (with_reducible refine (HS1.out _ (Ext.dr' HE)).mono ?_); rintro e w1 ⟨rfl, hE⟩; replace hE := ((Ext.rfl' _).dr).tr hE; replace a0 := Ext.cellH hE a0; replace a1 := Ext.cellH hE a1; replace a2 := Ext.cellH hE a2; replace b0 := Ext.cellH hE b0; replace b1 := Ext.cellH hE b1; replace b2 := Ext.cellH hE b2; replace HX := Bx.hext HX hE; replace HE := Lib.hid (HE.out.tr hE); clear hE)
      | (go_at_call 89; (with_reducible refine (HS2.out _ HE.out).mono ?_); rintro e w2 ⟨rfl, hE⟩; replace a0 := Ext.cellH hE a0; replace a1 := Ext.cellH hE a1; replace a2 := Ext.cellH hE a2; replace b0 := Ext.cellH hE b0; replace b1 := Ext.cellH hE b1; replace b2 := Ext.cellH hE b2; replace HX := Bx.hext HX hE; replace HE := Lib.hid (HE.out.tr hE); clear hE))
  have hne : (nx == nx) = true := by simp
  go_wp2_with fail
  have hsz : w.heap.size + 1 < w2.heap.size := HX.out.lt
  refine Code.wp_mono (Q := fun e a' w' => e = .normal ∧ ∃ (g : Nat) (b : Bool) (Zv : Option Addr) (l c : Nat) (u19 u20 u21 u22 u23 u24 u25 u26 u27 u28 : Value), a' = ⟨#[.agg #[.bool ba, .slice A la ca, .slice B lb cb], .agg #[.bool bb, .slice C lc cc, .slice D ld cd], .pointer (some ⟨w.heap.size, 0, none⟩), .pointer (some ⟨w.heap.size + 1, 0, none⟩), .int .i64 0, .int .i64 nx, .int .i64 nx, .pointer (some ⟨g, 0, none⟩), undef, .agg #[.bool ba, .slice A la ca, .slice B lb cb], .int .i64 nx, .agg #[.bool bb, .slice C lc cc, .slice D ld cd], .int .i64 nx, .int .i64 nx, .int .i64 nx, .bool false, undef, undef, undef, u19, u20, u21, u22, u23, u24, u25, u26, u27, u28, undef, undef, undef, undef, undef, undef, undef, undef, undef, undef, undef, undef, undef], []⟩ ∧ BoxQ w2 w' g b Zv l c (x.num * y.den)) ?_ ?_
  rotate_left
  · go_region_held3 (fun w' => w'.cell? ⟨w.heap.size, 0, none⟩ = some (.bool ba) ∧ w'.cell? ⟨w.heap.size, 1, none⟩ = some (.slice A la ca) ∧ w'.cell? ⟨w.heap.size + 1, 2, none⟩ = some (.slice D ld cd)) (((try dsimp only); (repeat' apply And.intro) <;> (first | (with_reducible assumption) | (rw [neC (by omega), neC (by omega), neC (by omega)]; with_reducible assumption) | (rw [neC (by omega), neC (by omega)]; with_reducible assumption) | ((go_keep); done))))
      (first
        | (go_at_call 135; (with_reducible refine (HM1.out (World.alloc r1 _) _ (SlN.ext HVp.out ((Ext.rfl' _).al _))).mono ?_); rintro e r2 ⟨v, rfl, hv, hE⟩; have HB := Lib.hid ((Bx.new r1 #[.bool false, .slice none 0 0] 84).ext hE); have HG := Lib.hid hs1; have t0 := HB.out.c0; have t1 := HB.out.c1; have ff0 := HB.out.f 0; have ff1 := HB.out.f 1; replace hE := ((Ext.rfl' _).al _).tr hE; obtain ⟨sz, Zz, lz, cz, rfl, -, -⟩ := hv.ex; have a0 := Ext.cellH hE a0; have a1 := Ext.cellH hE a1; have b2 := Ext.cellH hE b2; have hs2 := hE.size; have HE2 := Lib.hid (HE1.out.tr hE); have HVz := Lib.hid hv; clear hE hv)
        | (go_at_call 135; (with_reducible refine (HM1.out _ _ HVp.out).mono ?_); rintro e r2 ⟨v, rfl, hv, hE⟩; (try (replace HB := Bx.hext HB hE; have t0 := HB.out.c0; have t1 := HB.out.c1; have ff0 := HB.out.f 0; have ff1 := HB.out.f 1)); obtain ⟨sz, Zz, lz, cz, rfl, -, -⟩ := hv.ex; have a0 := Ext.cellH hE a0; have a1 := Ext.cellH hE a1; have b2 := Ext.cellH hE b2; have hs2 := hE.size; have HE2 := Lib.hid (HE1.out.tr hE); have HVz := Lib.hid hv; clear hE hv)
        | (go_at_call 136; (with_reducible refine (HT1.out _ (Ext.dr' HE)).mono ?_); rintro e r1 ⟨v, rfl, hv, hE⟩; replace hE := ((Ext.rfl' _).dr).tr hE; obtain ⟨Zp, lp, cp, rfl⟩ := SlN.sl3 hv; have a0 := Ext.cellH hE a0; have a1 := Ext.cellH hE a1; have b2 := Ext.cellH hE b2; have hs1 := hE.size; have HE1 := Lib.hid hE; have HVp := Lib.hid hv; clear hE hv)
        | (go_at_call 136; (with_reducible refine (HT1.out (World.drew (w2.alloc _)) ((HE.out.al _).dr)).mono ?_); rintro e r1 ⟨v, rfl, hv, hE⟩; have HB := Lib.hid ((show Bx (World.drew (w2.alloc (.cells #[.bool false, .slice none 0 0] 84))) _ _ _ from Bx.new w2 #[.bool false, .slice none 0 0] 84).ext hE); have HG := Lib.hid (Nat.le_refl w2.heap.size); replace hE := (((Ext.rfl' _).al _).dr).tr hE; obtain ⟨Zp, lp, cp, rfl⟩ := SlN.sl3 hv; have a0 := Ext.cellH hE a0; have a1 := Ext.cellH hE a1; have b2 := Ext.cellH hE b2; have hs1 := hE.size; have HE1 := Lib.hid hE; have HVp := Lib.hid hv; clear hE hv))
    all_goals
      refine ⟨rfl, _, sz, Zz, lz, cz, _, _, _, _, _, _, _, _, _, _, rfl, ?_⟩
      first
        | exact BoxQ.al HE2 HVz
        | exact BoxQ.set HG HB HE2 HVz
  rintro e a' wx ⟨rfl, gx, sx, Zx, lx, cx, p19, p20, p21, p22, p23, p24, p25, p26, p27, p28, rfl, hE, ⟨x0, x1⟩, hv, hg⟩
  replace a0 := Ext.cellH hE a0; replace a1 := Ext.cellH hE a1; replace a2 := Ext.cellH hE a2; replace b0 := Ext.cellH hE b0; replace b1 := Ext.cellH hE b1; replace b2 := Ext.cellH hE b2; replace HX := Bx.hext HX hE; replace HE := Lib.hid (HE.out.tr hE)
  have HVx := Lib.hid hv
  have hgx : w.heap.size + 1 < gx := Nat.lt_of_lt_of_le hsz hg
  clear hE hv hg hsz
  go_wp2_with fail
  have hsz : w.heap.size + 1 < wx.heap.size := HX.out.lt
  refine Code.wp_mono (Q := fun e a' w' => e = .normal ∧ ∃ (g : Nat) (b : Bool) (Zv : Option Addr) (l c : Nat) (u29 u30 u31 u32 u33 u34 u35 u36 u37 u38 : Value), a' = ⟨#[.agg #[.bool ba, .slice A la ca, .slice B lb cb], .agg #[.bool bb, .slice C lc cc, .slice D ld cd], .pointer (some ⟨w.heap.size, 0, none⟩), .pointer (some ⟨w.heap.size + 1, 0, none⟩), .int .i64 0, .int .i64 nx, .int .i64 nx, .pointer (some ⟨gx, 0, none⟩), .pointer (some ⟨g, 0, none⟩), .agg #[.bool ba, .slice A la ca, .slice B lb cb], .int .i64 nx, .agg #[.bool bb, .slice C lc cc, .slice D ld cd], .int .i64 nx, .int .i64 nx, .int .i64 nx, .bool false, undef, undef, undef, p19, p20, p21, p22, p23, p24, p25, p26, p27, p28, u29, u30, u31, u32, u33, u34, u35, u36, u37, u38, undef, undef, undef], []⟩ ∧ BoxQ wx w' g b Zv l c (y.num * x.den)) ?_ ?_
  rotate_left
  · go_region_held3 (fun w' => w'.cell? ⟨w.heap.size, 2, none⟩ = some (.slice B lb cb) ∧ w'.cell? ⟨w.heap.size + 1, 0, none⟩ = some (.bool bb) ∧ w'.cell? ⟨w.heap.size + 1, 1, none⟩ = some (.slice C lc cc)) (((try dsimp only); (repeat' apply And.intro) <;> (first | (with_reducible assumption) | (rw [neC (by omega), neC (by omega), neC (by omega)]; with_reducible assumption) | (rw [neC (by omega), neC (by omega)]; with_reducible assumption) | ((go_keep); done))))
      (first
        | (go_at_call 135; (with_reducible refine (HM2.out (World.alloc r1 _) _ (SlN.ext HVp.out ((Ext.rfl' _).al _))).mono ?_); rintro e r2 ⟨v, rfl, hv, hE⟩; have HB := Lib.hid ((Bx.new r1 #[.bool false, .slice none 0 0] 84).ext hE); have HG := Lib.hid hs1; have t0 := HB.out.c0; have t1 := HB.out.c1; have ff0 := HB.out.f 0; have ff1 := HB.out.f 1; replace hE := ((Ext.rfl' _).al _).tr hE; obtain ⟨sz, Zz, lz, cz, rfl, -, -⟩ := hv.ex; have a2 := Ext.cellH hE a2; have b0 := Ext.cellH hE b0; have b1 := Ext.cellH hE b1; have hs2 := hE.size; have HE2 := Lib.hid (HE1.out.tr hE); have HVz := Lib.hid hv; clear hE hv)
        | (go_at_call 135; (with_reducible refine (HM2.out _ _ HVp.out).mono ?_); rintro e r2 ⟨v, rfl, hv, hE⟩; (try (replace HB := Bx.hext HB hE; have t0 := HB.out.c0; have t1 := HB.out.c1; have ff0 := HB.out.f 0; have ff1 := HB.out.f 1)); obtain ⟨sz, Zz, lz, cz, rfl, -, -⟩ := hv.ex; have a2 := Ext.cellH hE a2; have b0 := Ext.cellH hE b0; have b1 := Ext.cellH hE b1; have hs2 := hE.size; have HE2 := Lib.hid (HE1.out.tr hE); have HVz := Lib.hid hv; clear hE hv)
        | (go_at_call 136; (with_reducible refine (HT2.out _ (Ext.dr' HE)).mono ?_); rintro e r1 ⟨v, rfl, hv, hE⟩; replace hE := ((Ext.rfl' _).dr).tr hE; obtain ⟨Zp, lp, cp, rfl⟩ := SlN.sl3 hv; have a2 := Ext.cellH hE a2; have b0 := Ext.cellH hE b0; have b1 := Ext.cellH hE b1; have hs1 := hE.size; have HE1 := Lib.hid hE; have HVp := Lib.hid hv; clear hE hv)
        | (go_at_call 136; (with_reducible refine (HT2.out (World.drew (wx.alloc _)) ((HE.out.al _).dr)).mono ?_); rintro e r1 ⟨v, rfl, hv, hE⟩; have HB := Lib.hid ((show Bx (World.drew (wx.alloc (.cells #[.bool false, .slice none 0 0] 84))) _ _ _ from Bx.new wx #[.bool false, .slice none 0 0] 84).ext hE); have HG := Lib.hid (Nat.le_refl wx.heap.size); replace hE := (((Ext.rfl' _).al _).dr).tr hE; obtain ⟨Zp, lp, cp, rfl⟩ := SlN.sl3 hv; have a2 := Ext.cellH hE a2; have b0 := Ext.cellH hE b0; have b1 := Ext.cellH hE b1; have hs1 := hE.size; have HE1 := Lib.hid hE; have HVp := Lib.hid hv; clear hE hv))
    all_goals
      refine ⟨rfl, _, sz, Zz, lz, cz, _, _, _, _, _, _, _, _, _, _, rfl, ?_⟩
      first
        | exact BoxQ.al HE2 HVz
        | exact BoxQ.set HG HB HE2 HVz
  rintro e a' wy ⟨rfl, gy, sy, Zy, ly, cy, p29, p30, p31, p32, p33, p34, p35, p36, p37, p38, rfl, hE, ⟨y0, y1⟩, hv, hg⟩
  replace a0 := Ext.cellH hE a0; replace a1 := Ext.cellH hE a1; replace a2 := Ext.cellH hE a2; replace b0 := Ext.cellH hE b0; replace b1 := Ext.cellH hE b1; replace b2 := Ext.cellH hE b2; replace x0 := Ext.cellH hE x0; replace x1 := Ext.cellH hE x1; replace HX := Bx.hext HX hE; replace HVx := ZV.hext HVx hE; replace HE := Lib.hid (HE.out.tr hE)
  have HVy := Lib.hid hv
  have hgy : w.heap.size + 1 < gy := Nat.lt_of_lt_of_le hsz hg
  clear hE hv hg hsz
  go_wp2_with fail
  refine (HC.out _ _ _ HVx.out HVy.out).mono ?_
  rintro e w4 ⟨rfl, hE⟩
  have HE4 := Lib.hid (HE.out.tr hE)
  clear hE a0 a1 a2 b0 b1 b2 x0 x1 y0 y1
  go_wp2_with fail
  go_ret
  exact ⟨rfl, HE4.out⟩
theorem q3Cmp_v (v1 v2 : Value) (x y : Rat) (n m : Nat) (w : World) (h1 : QV w v1 x) (h2 : QV w v2 y) (hx : Bd x n) (hy : Bd y m) (hk : n + m + 2 ≤ KK) :
    Calls Tryz.prog 121 #[v1, v2] w fun e w' => e = .returned (.int .i64 (cmpR x y)) ∧ Ext w w' := by
  rcases (by omega : sgq x.num < sgq y.num ∨ sgq y.num < sgq x.num ∨ sgq y.num = sgq x.num) with h | h | h
  · exact q3Cmp_lt v1 v2 x y n m w h1 h2 hx hy hk h
  · exact q3Cmp_gt v1 v2 x y n m w h1 h2 hx hy hk h
  · exact q3Cmp_eq v1 v2 x y n m w h1 h2 hx hy hk h
set_option maxHeartbeats 8000000 in
set_option maxRecDepth 200000 in
theorem q3Least_true (v1 v2 : Value) (x y : Rat) (n m : Nat) (w : World) (h1 : QV w v1 x) (h2 : QV w v2 y) (hx : Bd x n) (hy : Bd y m) (hk : n + m + 2 ≤ KK) (hd : decide (x ≤ y) = true) :
    Calls Tryz.prog 168 #[v1, v2] w (RetQ3 x w) := by
  obtain ⟨ba, A, la, ca, B, lb, cb, rfl, -, -, -⟩ := h1.ex
  obtain ⟨bb, C, lc, cc, D, ld, cd, rfl, -, -, -⟩ := h2.ex
  obtain ⟨k, hkk⟩ : ∃ k, cmpR x y = k := ⟨_, rfl⟩
  have HC : Hid (∀ W, Ext w W → Calls Tryz.prog 121 #[.agg #[.bool ba, .slice A la ca, .slice B lb cb], .agg #[.bool bb, .slice C lc cc, .slice D ld cd]] W fun e w' => e = .returned (.int .i64 k) ∧ Ext W w') := fun W hE => hkk ▸ q3Cmp_v _ _ x y n m W (h1.ext hE) (h2.ext hE) hx hy hk
  rw [← cq_le, hkk] at hd
  have HV := Lib.hid h1
  clear h1 h2 hx hy hk hkk
  go_enter Tryz.func168, Tryz.ntmps168
  go_wp2_with fail
  obtain ⟨X1, X2, X3, E0⟩ := boxes3 w #[.bool ba, .slice A la ca, .slice B lb cb] #[.bool bb, .slice C lc cc, .slice D ld cd] #[.bool false, .slice none 0 0, .slice none 0 0] 86
  refine (HC.out _ E0).mono ?_
  rintro e w0 ⟨rfl, hE⟩
  have HX := Lib.hid (X3.ext hE)
  have HE := Lib.hid (E0.tr hE)
  replace HV := QV.hext HV HE.out
  have a0 : w0.cell? ⟨w.heap.size, 0, none⟩ = some (.bool ba) := (X1.ext hE).c 0
  have a1 : w0.cell? ⟨w.heap.size, 1, none⟩ = some (.slice A la ca) := (X1.ext hE).c 1
  have a2 : w0.cell? ⟨w.heap.size, 2, none⟩ = some (.slice B lb cb) := (X1.ext hE).c 2
  have y0 : w0.cell? ⟨w.heap.size + 1 + 1, 0, none⟩ = some (.bool false) := HX.out.c 0; have y1 : w0.cell? ⟨w.heap.size + 1 + 1, 1, none⟩ = some (.slice none 0 0) := HX.out.c 1; have y2 : w0.cell? ⟨w.heap.size + 1 + 1, 2, none⟩ = some (.slice none 0 0) := HX.out.c 2; have f0 := HX.out.f 0; have f1 := HX.out.f 1; have f2 := HX.out.f 2
  clear X1 X2 X3 E0 hE HC
  go_wp2_with fail
  obtain ⟨d0', d1', d2'⟩ := set3 HX.out (.bool ba) (.slice A la ca) (.slice B lb cb)
  have HZ := QV.off HV.out HX.out nou3 (size3 (.bool ba) (.slice A la ca) (.slice B lb cb)) (keep3 (g := w.heap.size + 1 + 1) (.bool ba) (.slice A la ca) (.slice B lb cb))
  refine bodyPost_ret (v := .agg #[.bool ba, .slice A la ca, .slice B lb cb]) ?_ rfl ⟨_, rfl, HZ, ext_set3 (b := w.heap.size + 1 + 1) HE.out (by omega) _ _ _⟩
  simp [results, Tryz.f168, go_sem, d0', d1', d2']
set_option maxHeartbeats 8000000 in
set_option maxRecDepth 200000 in
theorem q3Least_false (v1 v2 : Value) (x y : Rat) (n m : Nat) (w : World) (h1 : QV w v1 x) (h2 : QV w v2 y) (hx : Bd x n) (hy : Bd y m) (hk : n + m + 2 ≤ KK) (hd : decide (x ≤ y) = false) :
    Calls Tryz.prog 168 #[v1, v2] w (RetQ3 y w) := by
  obtain ⟨ba, A, la, ca, B, lb, cb, rfl, -, -, -⟩ := h1.ex
  obtain ⟨bb, C, lc, cc, D, ld, cd, rfl, -, -, -⟩ := h2.ex
  obtain ⟨k, hkk⟩ : ∃ k, cmpR x y = k := ⟨_, rfl⟩
  have HC : Hid (∀ W, Ext w W → Calls Tryz.prog 121 #[.agg #[.bool ba, .slice A la ca, .slice B lb cb], .agg #[.bool bb, .slice C lc cc, .slice D ld cd]] W fun e w' => e = .returned (.int .i64 k) ∧ Ext W w') := fun W hE => hkk ▸ q3Cmp_v _ _ x y n m W (h1.ext hE) (h2.ext hE) hx hy hk
  rw [← cq_le, hkk] at hd
  have HV := Lib.hid h2
  clear h1 h2 hx hy hk hkk
  go_enter Tryz.func168, Tryz.ntmps168
  go_wp2_with fail
  obtain ⟨X1, X2, X3, E0⟩ := boxes3 w #[.bool ba, .slice A la ca, .slice B lb cb] #[.bool bb, .slice C lc cc, .slice D ld cd] #[.bool false, .slice none 0 0, .slice none 0 0] 86
  refine (HC.out _ E0).mono ?_
  rintro e w0 ⟨rfl, hE⟩
  have HX := Lib.hid (X3.ext hE)
  have HE := Lib.hid (E0.tr hE)
  replace HV := QV.hext HV HE.out
  have b0 : w0.cell? ⟨w.heap.size + 1, 0, none⟩ = some (.bool bb) := (X2.ext hE).c 0
  have b1 : w0.cell? ⟨w.heap.size + 1, 1, none⟩ = some (.slice C lc cc) := (X2.ext hE).c 1
  have b2 : w0.cell? ⟨w.heap.size + 1, 2, none⟩ = some (.slice D ld cd) := (X2.ext hE).c 2
  have y0 : w0.cell? ⟨w.heap.size + 1 + 1, 0, none⟩ = some (.bool false) := HX.out.c 0; have y1 : w0.cell? ⟨w.heap.size + 1 + 1, 1, none⟩ = some (.slice none 0 0) := HX.out.c 1; have y2 : w0.cell? ⟨w.heap.size + 1 + 1, 2, none⟩ = some (.slice none 0 0) := HX.out.c 2; have f0 := HX.out.f 0; have f1 := HX.out.f 1; have f2 := HX.out.f 2
  clear X1 X2 X3 E0 hE HC
  go_wp2_with fail
  obtain ⟨d0', d1', d2'⟩ := set3 HX.out (.bool bb) (.slice C lc cc) (.slice D ld cd)
  have HZ := QV.off HV.out HX.out nou3 (size3 (.bool bb) (.slice C lc cc) (.slice D ld cd)) (keep3 (g := w.heap.size + 1 + 1) (.bool bb) (.slice C lc cc) (.slice D ld cd))
  refine bodyPost_ret (v := .agg #[.bool bb, .slice C lc cc, .slice D ld cd]) ?_ rfl ⟨_, rfl, HZ, ext_set3 (b := w.heap.size + 1 + 1) HE.out (by omega) _ _ _⟩
  simp [results, Tryz.f168, go_sem, d0', d1', d2']
theorem q3Least_v (v1 v2 : Value) (x y : Rat) (n m : Nat) (w : World) (h1 : QV w v1 x) (h2 : QV w v2 y) (hx : Bd x n) (hy : Bd y m) (hk : n + m + 2 ≤ KK) :
    Calls Tryz.prog 168 #[v1, v2] w (RetQ3 (if x ≤ y then x else y) w) := by
  by_cases h : x ≤ y
  · rw [if_pos h]; exact q3Least_true v1 v2 x y n m w h1 h2 hx hy hk (decide_eq_true h)
  · rw [if_neg h]; exact q3Least_false v1 v2 x y n m w h1 h2 hx hy hk (decide_eq_false h)
set_option maxHeartbeats 8000000 in
set_option maxRecDepth 200000 in
theorem q3Most_true (v1 v2 : Value) (x y : Rat) (n m : Nat) (w : World) (h1 : QV w v1 x) (h2 : QV w v2 y) (hx : Bd x n) (hy : Bd y m) (hk : n + m + 2 ≤ KK) (hd : decide (y ≤ x) = true) :
    Calls Tryz.prog 169 #[v1, v2] w (RetQ3 x w) := by
  obtain ⟨ba, A, la, ca, B, lb, cb, rfl, -, -, -⟩ := h1.ex
  obtain ⟨bb, C, lc, cc, D, ld, cd, rfl, -, -, -⟩ := h2.ex
  obtain ⟨k, hkk⟩ : ∃ k, cmpR x y = k := ⟨_, rfl⟩
  have HC : Hid (∀ W, Ext w W → Calls Tryz.prog 121 #[.agg #[.bool ba, .slice A la ca, .slice B lb cb], .agg #[.bool bb, .slice C lc cc, .slice D ld cd]] W fun e w' => e = .returned (.int .i64 k) ∧ Ext W w') := fun W hE => hkk ▸ q3Cmp_v _ _ x y n m W (h1.ext hE) (h2.ext hE) hx hy hk
  rw [← cq_ge, hkk] at hd
  have HV := Lib.hid h1
  clear h1 h2 hx hy hk hkk
  go_enter Tryz.func169, Tryz.ntmps169
  go_wp2_with fail
  obtain ⟨X1, X2, X3, E0⟩ := boxes3 w #[.bool ba, .slice A la ca, .slice B lb cb] #[.bool bb, .slice C lc cc, .slice D ld cd] #[.bool false, .slice none 0 0, .slice none 0 0] 86
  refine (HC.out _ E0).mono ?_
  rintro e w0 ⟨rfl, hE⟩
  have HX := Lib.hid (X3.ext hE)
  have HE := Lib.hid (E0.tr hE)
  replace HV := QV.hext HV HE.out
  have a0 : w0.cell? ⟨w.heap.size, 0, none⟩ = some (.bool ba) := (X1.ext hE).c 0
  have a1 : w0.cell? ⟨w.heap.size, 1, none⟩ = some (.slice A la ca) := (X1.ext hE).c 1
  have a2 : w0.cell? ⟨w.heap.size, 2, none⟩ = some (.slice B lb cb) := (X1.ext hE).c 2
  have y0 : w0.cell? ⟨w.heap.size + 1 + 1, 0, none⟩ = some (.bool false) := HX.out.c 0; have y1 : w0.cell? ⟨w.heap.size + 1 + 1, 1, none⟩ = some (.slice none 0 0) := HX.out.c 1; have y2 : w0.cell? ⟨w.heap.size + 1 + 1, 2, none⟩ = some (.slice none 0 0) := HX.out.c 2; have f0 := HX.out.f 0; have f1 := HX.out.f 1; have f2 := HX.out.f 2
  clear X1 X2 X3 E0 hE HC
  go_wp2_with fail
  obtain ⟨d0', d1', d2'⟩ := set3 HX.out (.bool ba) (.slice A la ca) (.slice B lb cb)
  have HZ := QV.off HV.out HX.out nou3 (size3 (.bool ba) (.slice A la ca) (.slice B lb cb)) (keep3 (g := w.heap.size + 1 + 1) (.bool ba) (.slice A la ca) (.slice B lb cb))
  refine bodyPost_ret (v := .agg #[.bool ba, .slice A la ca, .slice B lb cb]) ?_ rfl ⟨_, rfl, HZ, ext_set3 (b := w.heap.size + 1 + 1) HE.out (by omega) _ _ _⟩
  simp [results, Tryz.f169, go_sem, d0', d1', d2']
set_option maxHeartbeats 8000000 in
set_option maxRecDepth 200000 in
theorem q3Most_false (v1 v2 : Value) (x y : Rat) (n m : Nat) (w : World) (h1 : QV w v1 x) (h2 : QV w v2 y) (hx : Bd x n) (hy : Bd y m) (hk : n + m + 2 ≤ KK) (hd : decide (y ≤ x) = false) :
    Calls Tryz.prog 169 #[v1, v2] w (RetQ3 y w) := by
  obtain ⟨ba, A, la, ca, B, lb, cb, rfl, -, -, -⟩ := h1.ex
  obtain ⟨bb, C, lc, cc, D, ld, cd, rfl, -, -, -⟩ := h2.ex
  obtain ⟨k, hkk⟩ : ∃ k, cmpR x y = k := ⟨_, rfl⟩
  have HC : Hid (∀ W, Ext w W → Calls Tryz.prog 121 #[.agg #[.bool ba, .slice A la ca, .slice B lb cb], .agg #[.bool bb, .slice C lc cc, .slice D ld cd]] W fun e w' => e = .returned (.int .i64 k) ∧ Ext W w') := fun W hE => hkk ▸ q3Cmp_v _ _ x y n m W (h1.ext hE) (h2.ext hE) hx hy hk
  rw [← cq_ge, hkk] at hd
  have HV := Lib.hid h2
  clear h1 h2 hx hy hk hkk
  go_enter Tryz.func169, Tryz.ntmps169
  go_wp2_with fail
  obtain ⟨X1, X2, X3, E0⟩ := boxes3 w #[.bool ba, .slice A la ca, .slice B lb cb] #[.bool bb, .slice C lc cc, .slice D ld cd] #[.bool false, .slice none 0 0, .slice none 0 0] 86
  refine (HC.out _ E0).mono ?_
  rintro e w0 ⟨rfl, hE⟩
  have HX := Lib.hid (X3.ext hE)
  have HE := Lib.hid (E0.tr hE)
  replace HV := QV.hext HV HE.out
  have b0 : w0.cell? ⟨w.heap.size + 1, 0, none⟩ = some (.bool bb) := (X2.ext hE).c 0
  have b1 : w0.cell? ⟨w.heap.size + 1, 1, none⟩ = some (.slice C lc cc) := (X2.ext hE).c 1
  have b2 : w0.cell? ⟨w.heap.size + 1, 2, none⟩ = some (.slice D ld cd) := (X2.ext hE).c 2
  have y0 : w0.cell? ⟨w.heap.size + 1 + 1, 0, none⟩ = some (.bool false) := HX.out.c 0; have y1 : w0.cell? ⟨w.heap.size + 1 + 1, 1, none⟩ = some (.slice none 0 0) := HX.out.c 1; have y2 : w0.cell? ⟨w.heap.size + 1 + 1, 2, none⟩ = some (.slice none 0 0) := HX.out.c 2; have f0 := HX.out.f 0; have f1 := HX.out.f 1; have f2 := HX.out.f 2
  clear X1 X2 X3 E0 hE HC
  go_wp2_with fail
  obtain ⟨d0', d1', d2'⟩ := set3 HX.out (.bool bb) (.slice C lc cc) (.slice D ld cd)
  have HZ := QV.off HV.out HX.out nou3 (size3 (.bool bb) (.slice C lc cc) (.slice D ld cd)) (keep3 (g := w.heap.size + 1 + 1) (.bool bb) (.slice C lc cc) (.slice D ld cd))
  refine bodyPost_ret (v := .agg #[.bool bb, .slice C lc cc, .slice D ld cd]) ?_ rfl ⟨_, rfl, HZ, ext_set3 (b := w.heap.size + 1 + 1) HE.out (by omega) _ _ _⟩
  simp [results, Tryz.f169, go_sem, d0', d1', d2']
theorem q3Most_v (v1 v2 : Value) (x y : Rat) (n m : Nat) (w : World) (h1 : QV w v1 x) (h2 : QV w v2 y) (hx : Bd x n) (hy : Bd y m) (hk : n + m + 2 ≤ KK) :
    Calls Tryz.prog 169 #[v1, v2] w (RetQ3 (if y ≤ x then x else y) w) := by
  by_cases h : y ≤ x
  · rw [if_pos h]; exact q3Most_true v1 v2 x y n m w h1 h2 hx hy hk (decide_eq_true h)
  · rw [if_neg h]; exact q3Most_false v1 v2 x y n m w h1 h2 hx hy hk (decide_eq_false h)
set_option maxHeartbeats 8000000 in
set_option maxRecDepth 200000 in
theorem q3Frac_any (p : Int) (d : Nat) (w : World) (h1 : -2147483648 < p) (h2 : p < 2147483648) (hd : 0 < d) (hd2 : d < 2147483648) :
    Calls Tryz.prog 118 #[.int .i64 p, .int .i64 (d : Int)] w (RetQ3 (mkRat p d) w) := by
  have HS : Hid (∀ W, Calls Tryz.prog 137 #[.int .i64 p] W (RetZ p W)) := fun W => z2Small_any p W h1 h2
  have HN : Hid (∀ W, Calls Tryz.prog 109 #[.int .u32 (d : Int)] W fun e w' => ∃ v, e = .returned v ∧ SlN w' v d ∧ Ext W w') := fun W => zSmall_any d W (by omega)
  have f1 : Fit p.natAbs := Fit.of (k := 31) (by unfold KK; omega) (by omega)
  have f2 : Fit d := Fit.of (k := 31) (by unfold KK; omega) (by omega)
  have HL : Hid (∀ W vz vd, ZV W vz p → SlN W vd d → Calls Tryz.prog 133 #[vz, vd] W (RetQ3 (mkRat p d) W)) := fun W vz vd hz hv => q3low_v vz vd p d W hz hv hd f1.len f2.len
  have n2 : (d : Int) % 4294967296 = (d : Int) := by omega
  clear f1 f2 h1 h2 hd hd2
  go_enter Tryz.func118, Tryz.ntmps118
  go_wp2_with fail
  refine (HS.out _).mono ?_
  rintro e w1 ⟨v, rfl, hv, hE⟩
  have HX := Lib.hid ((Bx.new w #[.bool false, .slice none 0 0, .slice none 0 0] 86).ext hE)
  have HE := Lib.hid (((Ext.rfl' w).al _).tr hE)
  have HV := Lib.hid hv
  obtain ⟨s1, Z1, l1, c1, rfl, -, -⟩ := hv.ex
  clear hE hv
  go_wp2_with fail
  refine (HN.out _).mono ?_
  rintro e w2 ⟨v, rfl, hv, hE⟩
  replace HX := Bx.hext HX hE
  replace HE := Lib.hid (HE.out.tr hE)
  replace HV := ZV.hext HV hE
  have HD := Lib.hid hv
  clear hE hv
  go_wp2_with fail
  refine (HL.out _ _ _ HV.out HD.out).mono ?_
  rintro e w3 ⟨v, rfl, hv, hE⟩
  replace HX := Bx.hext HX hE
  replace HE := Lib.hid (HE.out.tr hE)
  have HVq := Lib.hid hv
  obtain ⟨sq, Zq, lq, cq, Yq, mq, dq, rfl, -, -, -⟩ := hv.ex
  have y0 : w3.cell? ⟨w.heap.size, 0, none⟩ = some (.bool false) := HX.out.c 0; have y1 : w3.cell? ⟨w.heap.size, 1, none⟩ = some (.slice none 0 0) := HX.out.c 1; have y2 : w3.cell? ⟨w.heap.size, 2, none⟩ = some (.slice none 0 0) := HX.out.c 2; have f0 := HX.out.f 0; have f1 := HX.out.f 1; have f2 := HX.out.f 2
  clear hE hv HV HD
  go_wp2_with fail
  obtain ⟨d0', d1', d2'⟩ := set3 HX.out (.bool sq) (.slice Zq lq cq) (.slice Yq mq dq)
  have HZ := QV.off HVq.out HX.out nou3 (size3 (.bool sq) (.slice Zq lq cq) (.slice Yq mq dq)) (keep3 (g := w.heap.size) (.bool sq) (.slice Zq lq cq) (.slice Yq mq dq))
  refine bodyPost_ret (v := .agg #[.bool sq, .slice Zq lq cq, .slice Yq mq dq]) ?_ rfl ⟨_, rfl, HZ, ext_set3 (b := w.heap.size) HE.out (Nat.le_refl _) _ _ _⟩
  simp [results, Tryz.f118, go_sem, d0', d1', d2']
end Go.Proofs.YtbldlibijojbjaaGreatDoor.GB

namespace Go.Proofs.YtbldlibijojbjaaGreatDoor.GB
set_option linter.unusedVariables false
set_option linter.unusedSimpArgs false
open Go.RowKit Go.Shelf
attribute [local go_sem ↓] Go.wp_at_zero Go.wp_at_succ

/-- None of the first k is one. -/
def NoneB (b : ByteArray → Bool) (l : List ByteArray) (k : Nat) : Prop := ∀ j, (h : j < l.length) → j < k → b l[j] = false
theorem NoneB.step {b : ByteArray → Bool} {l : List ByteArray} {k : Nat} (h : NoneB b l k) (hk : k < l.length) (h0 : b l[k] = false) : NoneB b l (k + 1) := by
  intro j hj hjk
  by_cases e : j = k
  · subst e; exact h0
  · exact h j hj (by omega)
theorem NoneB.all {b : ByteArray → Bool} {l : List ByteArray} {k : Nat} (h : NoneB b l k) (hk : l.length ≤ k) : l.any b = false := by
  rw [List.any_eq_false]
  intro x hx
  obtain ⟨j, hj, rfl⟩ := List.mem_iff_getElem.1 hx
  rw [h j hj (by omega)]; simp
theorem any_of {b : ByteArray → Bool} {l : List ByteArray} {k : Nat} (hk : k < l.length) (h0 : b l[k] = true) : l.any b = true := by
  rw [List.any_eq_true]
  exact ⟨l[k], List.getElem_mem _, h0⟩
/-- What IndexFunc answers. -/
def IdxA (r : Bool) (w : World) (e : Ending) (w' : World) : Prop := ∃ i : Int, e = .returned (.int .i64 i) ∧ decide (0 ≤ i) = r ∧ Ext w w'
set_option maxHeartbeats 1000000 in
set_option maxRecDepth 100000 in
theorem indexf_any (A : Option Addr) (c : Nat) (l : List ByteArray) (b : ByteArray → Bool) (w : World) (hl : l.length ≤ c) (hm : c ≤ 9223372036854775807) (hr : RdS w A l)
    (hc : ∀ j, (h : j < l.length) → ∀ W, Ext w W → Calls Tryz.prog 52 #[.string l[j]] W fun e w' => e = .returned (.bool (b l[j])) ∧ Ext W w') :
    Calls Tryz.prog 90 #[.slice A l.length c, .func (.func 52) #[] #[]] w (IdxA (l.any b) w) := by
  go_enter Tryz.func90, Tryz.ntmps90
  go_wp2_with fail
  go_loopw [8] (fun v wr => ∃ k : Nat, k ≤ l.length ∧ v = .int .i64 k ∧ Hid (NoneB b l k) ∧ Hid (Ext w wr)) (fun v _ => l.length - (intOf v).toNat)
  case atStart => exact ⟨0, Nat.zero_le _, rfl, (fun j hj h => by omega), Ext.rfl' _⟩
  case round =>
    obtain ⟨k, hk, rfl, HN, HE⟩ := hrel
    by_cases hlt : k < l.length
    · have hck := hc k hlt
      obtain ⟨q, off, rfl, hb, hcell⟩ := hr k hlt
      have hcw := HE.out.cell hcell
      cases h0 : b l[k]
      · have HN2 := Lib.hid (HN.out.step hlt h0)
        rw [h0] at hck
        clear h0
        generalize l[k] = s at *
        go_wp2_with fail
        refine (hck _ HE.out).mono ?_
        rintro e w1 ⟨rfl, hE1⟩
        have HE1 := Lib.hid (HE.out.tr hE1)
        clear hE1
        go_wp2_with fail
        go_roundw
        case rel => exact ⟨k + 1, by omega, by go_num, HN2, HE1⟩
        case measure => simp [intOf]; omega
      · have HT := Lib.hid (any_of hlt h0)
        rw [h0] at hck
        clear h0
        generalize l[k] = s at *
        go_wp2_with fail
        refine (hck _ HE.out).mono ?_
        rintro e w1 ⟨rfl, hE1⟩
        have HE1 := Lib.hid (HE.out.tr hE1)
        clear hE1
        go_wp2_with fail
        go_ret
        exact ⟨_, rfl, by rw [HT.out]; simp, HE1.out⟩
    · have HT := Lib.hid (HN.out.all (Nat.not_lt.1 hlt))
      go_wp2_with fail
      go_ret
      exact ⟨_, rfl, by rw [HT.out]; rfl, HE.out⟩
set_option maxHeartbeats 1000000 in
set_option maxRecDepth 100000 in
theorem containsf_any (A : Option Addr) (c : Nat) (l : List ByteArray) (b : ByteArray → Bool) (w : World) (hl : l.length ≤ c) (hm : c ≤ 9223372036854775807) (hr : RdS w A l)
    (hc : ∀ j, (h : j < l.length) → ∀ W, Ext w W → Calls Tryz.prog 52 #[.string l[j]] W fun e w' => e = .returned (.bool (b l[j])) ∧ Ext W w') :
    Calls Tryz.prog 51 #[.slice A l.length c, .func (.func 52) #[] #[]] w fun e w' => e = .returned (.bool (l.any b)) ∧ Ext w w' := by
  have h := indexf_any A c l b w hl hm hr hc
  clear hr hc
  generalize l.any b = r at h ⊢
  generalize l.length = n at *
  go_enter Tryz.func51, Tryz.ntmps51
  go_wp2_with fail
  refine h.mono ?_
  rintro e w1 ⟨i, rfl, hi, hE⟩
  clear h
  go_wp2_with fail
  go_ret
  exact ⟨rfl, hE⟩
set_option maxHeartbeats 1000000 in
set_option maxRecDepth 100000 in
theorem vclos (s : ByteArray) (r : Bool) (w : World) (h : Calls Tryz.prog 41 #[.string s] w fun e w' => e = .returned (.bool r) ∧ Ext w w') :
    Calls Tryz.prog 52 #[.string s] w fun e w' => e = .returned (.bool (!r)) ∧ Ext w w' := by
  cases r
  all_goals
    go_enter Tryz.func52, Tryz.ntmps52
    go_wp2_with fail
    refine h.mono ?_
    rintro e w1 ⟨rfl, hE⟩
    clear h
    go_wp2_with fail
    go_ret
    exact ⟨rfl, hE⟩
/-- Is the last text zero's? -/
def lastZ (l : List ByteArray) : Bool := match l.getLast? with | some s => isZ s | none => false
/-- Is a list of texts a polynomial's? -/
noncomputable def polB (l : List ByteArray) : Bool := decide (l.length ≤ 17) && !(lastZ l) && !(l.any fun s => !ratB s.data.toList)
set_option maxHeartbeats 1000000 in
set_option maxRecDepth 100000 in
theorem pvalid_g (A : Option Addr) (c : Nat) (l : List ByteArray) (b : ByteArray → Bool) (w : World) (hl : l.length ≤ c) (hm : c ≤ 9223372036854775807) (hr : RdS w A l)
    (hc : l.length ≤ 17 → ∀ j, (h : j < l.length) → ∀ W, Ext w W → Calls Tryz.prog 52 #[.string l[j]] W fun e w' => e = .returned (.bool (b l[j])) ∧ Ext W w') :
    Calls Tryz.prog 16 #[.slice A l.length c] w fun e w' => e = .returned (.bool (decide (l.length ≤ 17) && !(lastZ l) && !(l.any b))) ∧ Ext w w' := by
  by_cases h17 : 17 < l.length
  · have e1 : decide (l.length ≤ 17) = false := decide_eq_false (by omega)
    rw [e1]
    clear hc hr e1
    generalize l.length = n at *
    go_enter Tryz.func16, Tryz.ntmps16
    go_wp2_with fail
    go_ret
    exact ⟨rfl, Ext.rfl' _⟩
  · have e1 : decide (l.length ≤ 17) = true := decide_eq_true (by omega)
    rw [e1]
    have h := containsf_any A c l b w hl hm hr (hc (by omega))
    clear hc e1
    generalize l.any b = r at h ⊢
    rcases Nat.eq_zero_or_pos l.length with h0 | h0
    · have hn : l = [] := List.eq_nil_of_length_eq_zero h0
      subst hn
      clear hr h0
      simp only [List.length_nil] at *
      go_enter Tryz.func16, Tryz.ntmps16
      go_wp2_with fail
      refine h.mono ?_
      rintro e w1 ⟨rfl, hE⟩
      clear h
      go_wp2_with fail
      go_ret
      exact ⟨rfl, hE⟩
    · obtain ⟨k, hk⟩ : ∃ k, l.length = k + 1 := ⟨l.length - 1, by omega⟩
      obtain ⟨q, off, rfl, hb, hcell⟩ := hr k (by omega)
      have hlast : l.getLast? = some (l[k]'(by omega)) := by
        have e : l.length - 1 = k := by omega
        rw [List.getLast?_eq_getElem?, e]
        exact List.getElem?_eq_getElem _
      have hlz : lastZ l = isZ (l[k]'(by omega)) := by unfold lastZ; rw [hlast]
      rw [hlz]
      clear hlz
      generalize l[k]'(by omega) = s at *
      rw [hk] at h hl ⊢
      clear hr hlast
      cases hz : isZ s
      · have hz1 := isZ_sp _ _ hz
        clear hz
        have hk17 : ¬ (17 < k + 1) := by omega
        clear h17 hk h0
        go_enter Tryz.func16, Tryz.ntmps16
        go_wp2_with fail
        refine h.mono ?_
        rintro e w1 ⟨rfl, hE⟩
        clear h
        go_wp2_with fail
        go_ret
        exact ⟨rfl, hE⟩
      · have hz1 := isZ_sp _ _ hz
        clear hz
        have hk17 : ¬ (17 < k + 1) := by omega
        clear h17 hk h0
        go_enter Tryz.func16, Tryz.ntmps16
        go_wp2_with fail
        go_ret
        exact ⟨rfl, Ext.rfl' _⟩
end Go.Proofs.YtbldlibijojbjaaGreatDoor.GB

namespace Go.Proofs.YtbldlibijojbjaaGreatDoor.GB
set_option linter.unusedVariables false
set_option linter.unusedSimpArgs false
open Go.RowKit Go.Shelf
attribute [local go_sem ↓] Go.wp_at_zero Go.wp_at_succ

theorem Tryz.infoRat : (Tryz.prog.info? 30).map (fun i => (i.zero, i.size, i.bytes)) = some (some (.string ⟨#[]⟩), 1, 16) := by kernel_rfl
theorem strs_one (l : List ByteArray) : ∀ u ∈ strs l, u.oneCell' = true := by
  intro u hu
  obtain ⟨_, _, rfl⟩ := List.mem_map.1 hu
  rfl
/-- The cells behind an address. -/
theorem RdS.cells {w : World} {ad : Addr} {l : List ByteArray} (h : RdS w (some ad) l) : ∀ j u, (strs l)[j]? = some u → w.cell? (ad.add j) = some u := by
  intro j u hu
  obtain ⟨hj, rfl⟩ := List.getElem?_eq_some_iff.1 hu
  have hj' : j < l.length := by simpa [strs] using hj
  obtain ⟨b, off, e, h1, h2⟩ := h j hj'
  cases e
  simp only [Addr.add, strs, List.getElem_map]
  by_cases h0 : j = 0
  · subst h0; simpa using h2
  · rw [if_neg h0]; exact h2
theorem own_grow {w wr w2 : World} {v v' : Value} {l : List ByteArray} {o : Obj} {news : List ByteArray} (HO : OwnS wr w.heap.size v l) (HE : Ext w wr)
    (hown : w2.ownsRow w.heap.size 30 1 v' (l.length + news.length) (strs l ++ strs news)) (hgrow : (wr.alloc o).grownBy w2 v.ownBlock) : OwnS w2 w.heap.size v' (l ++ news) ∧ Ext w w2 := by
  refine ⟨?_, (HE.al o).gr hgrow ?_⟩
  · unfold OwnS
    rw [strs_append, List.length_append]
    exact hown
  · intro k hk
    rcases HO.2 with ⟨rfl, _⟩ | ⟨g, cap, cur, rfl, hb, _⟩
    · simp [Value.ownBlock] at hk
    · have : g = k := by simpa [Value.ownBlock] using hk
      omega
set_option maxHeartbeats 1000000 in
set_option maxRecDepth 100000 in
theorem clone22_nil (c : Nat) (w : World) :
    Calls Tryz.prog 14 #[.slice none 0 c] w fun e w' => e = .returned (.slice none 0 0) ∧ w = w' := by
  have hnil := fun W => Go.run_eql_slice_nil (P := Tryz.prog) W 22 30 none 0 c Tryz.underlying22
  go_enter Tryz.func14, Tryz.ntmps14
  go_wp2_with fail
  go_ret
  exact ⟨rfl, rfl⟩
set_option maxHeartbeats 1000000 in
set_option maxRecDepth 100000 in
theorem clone22_some (ad : Addr) (c : Nat) (l : List ByteArray) (w : World) (hm : l.length ≤ 1000000) (hr : RdS w (some ad) l) :
    Calls Tryz.prog 14 #[.slice (some ad) l.length c] w fun e w' => ∃ v, e = .returned v ∧ OwnS w' w.heap.size v l ∧ Ext w w' := by
  obtain ⟨i0, hi, hz0, hz1, hz2⟩ := info_parts Tryz.infoRat
  have hnil := fun W => Go.run_eql_slice_nil (P := Tryz.prog) W 22 30 (some ad) l.length c Tryz.underlying22
  have hmax : 0 + l.length ≤ maxLen := by unfold maxLen; omega
  have hbig : (0 + l.length) * 16 ≤ 140737488355328 := by omega
  have HO : OwnS (w.alloc (.cells #[] 30)) w.heap.size (.slice (some ⟨w.heap.size, 0, none⟩) 0 0) [] :=
    ⟨rfl, .inr ⟨w.heap.size, 0, #[], rfl, Nat.le_refl _, World.alloc_heap_new w _, Nat.le_refl _, by simp [maxLen], rfl, rfl⟩⟩
  have HE : Ext w (w.alloc (.cells #[] 30)) := (Ext.rfl' w).al _
  have hsrc := (hr.ext HE).cells
  have h1 := strs_one l
  have hlen : (strs l).length = l.length * 1 := by rw [strs_length, Nat.mul_one]
  clear hr
  go_enter Tryz.func14, Tryz.ntmps14
  go_wp2_with (at_builtin; (refine wpList_append_own _ rfl _ _ 22 rfl w.heap.size 30 i0 (.string ⟨#[]⟩) 1 16 Tryz.underlying22 hi hz0 hz1 hz2 rfl (by decide) _ 0 [] rfl HO ad l.length c (strs l) rfl hlen hsrc h1 hmax hbig (by simp) ?_); intro v' w2 hown2 hgrow2 _)
  go_ret
  refine ⟨_, rfl, ?_, HE.gr hgrow2 (fun k hk => by have h9 : w.heap.size = k := Option.some.inj hk; omega)⟩
  unfold OwnS
  simpa using hown2
theorem clone22_v (v : Value) (l : List ByteArray) (w : World) (h : SlS w v l) (hm : l.length ≤ 1000000) :
    Calls Tryz.prog 14 #[v] w fun e w' => ∃ v', e = .returned v' ∧ OwnS w' w.heap.size v' l ∧ Ext w w' := by
  obtain ⟨A, c, rfl, h1, h2, h3⟩ := h
  cases A with
  | none =>
    cases l with
    | nil => exact (clone22_nil c w).mono fun e w' ⟨he, hw⟩ => ⟨_, he, ⟨rfl, .inl ⟨rfl, rfl⟩⟩, hw ▸ Ext.rfl' _⟩
    | cons a l => obtain ⟨b, off, e, _⟩ := h3 0 (by simp); cases e
  | some ad => exact clone22_some ad c l w hm h3
set_option maxHeartbeats 1000000 in
set_option maxRecDepth 100000 in
theorem clone49_nil (c : Nat) (w : World) :
    Calls Tryz.prog 99 #[.slice none 0 c] w fun e w' => e = .returned (.slice none 0 0) ∧ w = w' := by
  have hnil := fun W => Go.run_eql_slice_nil (P := Tryz.prog) W 55 30 none 0 c Tryz.underlying55
  go_enter Tryz.func99, Tryz.ntmps99
  go_wp2_with fail
  go_ret
  exact ⟨rfl, rfl⟩
set_option maxHeartbeats 1000000 in
set_option maxRecDepth 100000 in
theorem clone49_some (ad : Addr) (c : Nat) (l : List ByteArray) (w : World) (hm : l.length ≤ 1000000) (hr : RdS w (some ad) l) :
    Calls Tryz.prog 99 #[.slice (some ad) l.length c] w fun e w' => ∃ v, e = .returned v ∧ OwnS w' w.heap.size v l ∧ Ext w w' := by
  obtain ⟨i0, hi, hz0, hz1, hz2⟩ := info_parts Tryz.infoRat
  have hnil := fun W => Go.run_eql_slice_nil (P := Tryz.prog) W 55 30 (some ad) l.length c Tryz.underlying55
  have hmax : 0 + l.length ≤ maxLen := by unfold maxLen; omega
  have hbig : (0 + l.length) * 16 ≤ 140737488355328 := by omega
  have HO : OwnS (w.alloc (.cells #[] 30)) w.heap.size (.slice (some ⟨w.heap.size, 0, none⟩) 0 0) [] :=
    ⟨rfl, .inr ⟨w.heap.size, 0, #[], rfl, Nat.le_refl _, World.alloc_heap_new w _, Nat.le_refl _, by simp [maxLen], rfl, rfl⟩⟩
  have HE : Ext w (w.alloc (.cells #[] 30)) := (Ext.rfl' w).al _
  have hsrc := (hr.ext HE).cells
  have h1 := strs_one l
  have hlen : (strs l).length = l.length * 1 := by rw [strs_length, Nat.mul_one]
  clear hr
  go_enter Tryz.func99, Tryz.ntmps99
  go_wp2_with (at_builtin; (refine wpList_append_own _ rfl _ _ 55 rfl w.heap.size 30 i0 (.string ⟨#[]⟩) 1 16 Tryz.underlying55 hi hz0 hz1 hz2 rfl (by decide) _ 0 [] rfl HO ad l.length c (strs l) rfl hlen hsrc h1 hmax hbig (by simp) ?_); intro v' w2 hown2 hgrow2 _)
  go_ret
  refine ⟨_, rfl, ?_, HE.gr hgrow2 (fun k hk => by have h9 : w.heap.size = k := Option.some.inj hk; omega)⟩
  unfold OwnS
  simpa using hown2
theorem clone49_v (v : Value) (l : List ByteArray) (w : World) (h : SlS w v l) (hm : l.length ≤ 1000000) :
    Calls Tryz.prog 99 #[v] w fun e w' => ∃ v', e = .returned v' ∧ OwnS w' w.heap.size v' l ∧ Ext w w' := by
  obtain ⟨A, c, rfl, h1, h2, h3⟩ := h
  cases A with
  | none =>
    cases l with
    | nil => exact (clone49_nil c w).mono fun e w' ⟨he, hw⟩ => ⟨_, he, ⟨rfl, .inl ⟨rfl, rfl⟩⟩, hw ▸ Ext.rfl' _⟩
    | cons a l => obtain ⟨b, off, e, _⟩ := h3 0 (by simp); cases e
  | some ad => exact clone49_some ad c l w hm h3
set_option maxHeartbeats 1000000 in
set_option maxRecDepth 100000 in
theorem cloneP_nil (c : Nat) (w : World) :
    Calls Tryz.prog 21 #[.slice none 0 c] w fun e w' => e = .returned (.slice none 0 0) ∧ w = w' := by
  have hnil := fun W => Go.run_eql_slice_nil (P := Tryz.prog) W 25 30 none 0 c Tryz.underlying25
  go_enter Tryz.func21, Tryz.ntmps21
  go_wp2_with fail
  go_ret
  exact ⟨rfl, rfl⟩
set_option maxHeartbeats 1000000 in
set_option maxRecDepth 100000 in
theorem cloneP_some (ad : Addr) (c : Nat) (l : List ByteArray) (w : World) (hm : l.length ≤ 1000000) (hr : RdS w (some ad) l) :
    Calls Tryz.prog 21 #[.slice (some ad) l.length c] w fun e w' => ∃ v, e = .returned v ∧ OwnS w' w.heap.size v l ∧ Ext w w' := by
  obtain ⟨i0, hi, hz0, hz1, hz2⟩ := info_parts Tryz.infoRat
  have hnil := fun W => Go.run_eql_slice_nil (P := Tryz.prog) W 25 30 (some ad) l.length c Tryz.underlying25
  have hmax : 0 + l.length ≤ maxLen := by unfold maxLen; omega
  have hbig : (0 + l.length) * 16 ≤ 140737488355328 := by omega
  have HO : OwnS (w.alloc (.cells #[] 30)) w.heap.size (.slice (some ⟨w.heap.size, 0, none⟩) 0 0) [] :=
    ⟨rfl, .inr ⟨w.heap.size, 0, #[], rfl, Nat.le_refl _, World.alloc_heap_new w _, Nat.le_refl _, by simp [maxLen], rfl, rfl⟩⟩
  have HE : Ext w (w.alloc (.cells #[] 30)) := (Ext.rfl' w).al _
  have hsrc := (hr.ext HE).cells
  have h1 := strs_one l
  have hlen : (strs l).length = l.length * 1 := by rw [strs_length, Nat.mul_one]
  clear hr
  go_enter Tryz.func21, Tryz.ntmps21
  go_wp2_with (at_builtin; (refine wpList_append_own _ rfl _ _ 25 rfl w.heap.size 30 i0 (.string ⟨#[]⟩) 1 16 Tryz.underlying25 hi hz0 hz1 hz2 rfl (by decide) _ 0 [] rfl HO ad l.length c (strs l) rfl hlen hsrc h1 hmax hbig (by simp) ?_); intro v' w2 hown2 hgrow2 _)
  go_ret
  refine ⟨_, rfl, ?_, HE.gr hgrow2 (fun k hk => by have h9 : w.heap.size = k := Option.some.inj hk; omega)⟩
  unfold OwnS
  simpa using hown2
theorem cloneP_v (v : Value) (l : List ByteArray) (w : World) (h : SlS w v l) (hm : l.length ≤ 1000000) :
    Calls Tryz.prog 21 #[v] w fun e w' => ∃ v', e = .returned v' ∧ OwnS w' w.heap.size v' l ∧ Ext w w' := by
  obtain ⟨A, c, rfl, h1, h2, h3⟩ := h
  cases A with
  | none =>
    cases l with
    | nil => exact (cloneP_nil c w).mono fun e w' ⟨he, hw⟩ => ⟨_, he, ⟨rfl, .inl ⟨rfl, rfl⟩⟩, hw ▸ Ext.rfl' _⟩
    | cons a l => obtain ⟨b, off, e, _⟩ := h3 0 (by simp); cases e
  | some ad => exact cloneP_some ad c l w hm h3
end Go.Proofs.YtbldlibijojbjaaGreatDoor.GB
