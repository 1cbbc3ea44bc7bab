import Derived.Test.YtbldlibijojbjaaGreatDoorMYv
import Derived.Test.YtbldlibijojbjaaGreatDoorMRi
import Derived.Maps.Own
import Derived.Maps.Views
namespace Go.Proofs.YtbldlibijojbjaaGreatDoor.GB
set_option linter.unusedVariables false
set_option linter.unusedSimpArgs false
open Go.RowKit Go.Shelf
attribute [local go_sem ↓] Go.wp_at_zero Go.wp_at_succ
/-- A box that was made behind the world w0. -/
def BoxQ (w0 w' : World) (g : Nat) (b : Bool) (Zv : Option Addr) (l c : Nat) (z : Int) : Prop := Ext w0 w' ∧ (w'.cell? ⟨g, 0, none⟩ = some (.bool b) ∧ w'.cell? ⟨g, 1, none⟩ = some (.slice Zv l c)) ∧ ZV w' (.agg #[.bool b, .slice Zv l c]) z ∧ w0.heap.size ≤ g
theorem BoxQ.al {w0 w2 : World} {b : Bool} {Zv : Option Addr} {l c : Nat} {z : Int} (hE : Hid (Ext w0 w2)) (hZ : Hid (ZV w2 (.agg #[.bool b, .slice Zv l c]) z)) : BoxQ w0 (w2.alloc (.cells #[.bool b, .slice Zv l c] 84)) w2.heap.size b Zv l c z :=
  ⟨hE.out.al _, ⟨(Bx.new w2 _ _).c0, (Bx.new w2 _ _).c1⟩, hZ.out.ext ((Ext.rfl' w2).al _), hE.out.size⟩
theorem BoxQ.set {w0 w2 : World} {g : Nat} {b : Bool} {Zv : Option Addr} {l c : Nat} {z : Int} {x y : Value} (hg : Hid (w0.heap.size ≤ g)) (hB : Hid (Bx w2 g #[x, y] 84)) (hE : Hid (Ext w0 w2)) (hZ : Hid (ZV w2 (.agg #[.bool b, .slice Zv l c]) z)) :
    BoxQ w0 ((w2.setCell ⟨g, 0, none⟩ (.bool b)).setCell ⟨g, 1, none⟩ (.slice Zv l c)) g b Zv l c z :=
  ⟨ext_set2 hE.out hg.out _ _, set2 hB.out _ _, hZ.out.off hB.out nou2 (size2 _ _) (keep2 (g := g) _ _), hg.out⟩
theorem sgmul (z : Int) (d : Nat) : (if decide (z < 0) then -((z.natAbs * d : Nat) : Int) else ((z.natAbs * d : Nat) : Int)) = z * d := by
  rw [Int.natCast_mul]
  by_cases h : z < 0
  · rw [decide_eq_true h, if_pos rfl, ← Int.neg_mul]; congr 1; omega
  · rw [decide_eq_false h, if_neg (by decide)]; congr 1; omega
theorem add_same {x y : Rat} (h : x.den = y.den) : mkRat (x.num + y.num) x.den = x + y := by
  rw [Rat.add_def, Rat.normalize_eq_mkRat, ← h, ← Int.add_mul]
  exact (Rat.mkRat_mul_right (Nat.pos_iff_ne_zero.1 x.den_pos)).symm
theorem lt_add_pow {a b n m : Nat} (ha : a < 2 ^ (n + m)) (hb : b < 2 ^ (n + m)) : a + b < 2 ^ (n + m + 1) := by
  rw [Nat.pow_succ]; omega
theorem bd_cross {x y : Rat} {n m : Nat} (hx : Bd x n) (hy : Bd y m) : (x.num * y.den).natAbs < 2 ^ (n + m) := by
  rw [Int.natAbs_mul, Int.natAbs_natCast, Nat.pow_add]
  exact Nat.mul_lt_mul_of_lt_of_le hx.1 hy.2 (Nat.two_pow_pos m)
theorem bd_addfit {x y : Rat} {n m : Nat} (hx : Bd x n) (hy : Bd y m) (hk : n + m + 2 ≤ KK) : Fit (x.num + y.num).natAbs ∧ Fit (x.num * y.den).natAbs ∧ Fit (y.num * x.den).natAbs ∧ Fit (x.num * y.den + y.num * x.den).natAbs := by
  have h1 := bd_cross hx hy
  have h2 := bd_cross hy hx
  rw [Nat.add_comm m n] at h2
  have h3 := lt_add_pow h1 h2
  refine ⟨?_, Fit.of (k := n + m) (by omega) h1, Fit.of (k := n + m) (by omega) h2, Fit.of (k := n + m + 1) (by omega) ?_⟩
  · refine Fit.of (k := n + m + 1) (by omega) ?_
    have a := hx.1
    have b := hy.1
    have c : 2 ^ n ≤ 2 ^ (n + m) := Nat.pow_le_pow_right (by omega) (by omega)
    have d : 2 ^ m ≤ 2 ^ (n + m) := Nat.pow_le_pow_right (by omega) (by omega)
    have := lt_add_pow (n := n) (m := m) (a := x.num.natAbs) (b := y.num.natAbs) (by omega) (by omega)
    omega
  · omega
theorem cmpZ_zero {a b : Nat} : (cmpZ a b == 0) = (a == b) := by
  unfold cmpZ
  rcases (by omega : a < b ∨ b < a ∨ a = b) with h | h | h
  · rw [if_pos h, beq_eq_false_iff_ne.2 (by omega : a ≠ b)]; rfl
  · rw [if_neg (by omega), if_pos h, beq_eq_false_iff_ne.2 (by omega : a ≠ b)]; rfl
  · subst h; rw [if_neg (by omega), if_neg (by omega)]; simp
set_option maxHeartbeats 8000000 in
set_option maxRecDepth 200000 in
theorem q3Add_eq (v1 v2 : Value) (x y : Rat) (n m : Nat) (w : World) (h1 : QV w v1 x) (h2 : QV w v2 y) (hx : Bd x n) (hy : Bd y m) (hk : n + m + 2 ≤ KK) (hd : x.den = y.den) :
    Calls Tryz.prog 93 #[v1, v2] w (RetQ3 (x + y) w) := by
  obtain ⟨fx1, fx2⟩ := bd_fit hx (by omega)
  obtain ⟨fy1, fy2⟩ := bd_fit hy (by omega)
  obtain ⟨-, fm2⟩ := bd_mulfit hx hy (by omega)
  obtain ⟨fa1, fa2, fa3, fa4⟩ := bd_addfit hx hy hk
  obtain ⟨ba, A, la, ca, B, lb, cb, rfl, -, -, -⟩ := h1.ex
  obtain ⟨bb, C, lc, cc, D, ld, cd, rfl, -, -, -⟩ := h2.ex
  obtain ⟨k, hke⟩ : ∃ k, cmpZ x.den y.den = k := ⟨_, rfl⟩
  have HC : Hid (∀ W, Ext w W → Calls Tryz.prog 110 #[.slice B lb cb, .slice D ld cd] W fun e w' => e = .returned (.int .i64 k) ∧ Ext W w') := fun W hE => hke ▸ zCmp_v _ _ _ _ W (SlN.ext h1.z.2.1 hE) (SlN.ext h2.z.2.1 hE) (DivW.few fx2.len) (DivW.few fy2.len)
  have hk0 : (k == 0) = true := by rw [← hke, cmpZ_zero, hd]; simp
  have HP : Hid (∀ W, Ext w W → Calls Tryz.prog 134 #[.agg #[.bool ba, .slice A la ca], .agg #[.bool bb, .slice C lc cc]] W (RetZ (x.num + y.num) W)) := fun W hE => z2Plus_v _ _ _ _ W (h1.ext hE).z.1 (h2.ext hE).z.1 (DivW.few fx1.len) (DivW.few fy1.len)
  have HL : Hid (∀ W vz, Ext w W → ZV W vz (x.num + y.num) → Calls Tryz.prog 133 #[vz, .slice B lb cb] W (RetQ3 (x + y) W)) := fun W vz hE hz => by
    rw [← add_same hd]
    exact q3low_v vz _ _ _ W hz (SlN.ext h1.z.2.1 hE) x.den_pos fa1.len fx2.len
  clear h1 h2 hx hy hk fx1 fx2 fy1 fy2 fm2 fa1 fa2 fa3 fa4 hke hd
  go_enter Tryz.func93, Tryz.ntmps93
  go_wp2_with fail
  obtain ⟨X1, X2, X3, E0⟩ := boxes3 w #[.bool ba, .slice A la ca, .slice B lb cb] #[.bool bb, .slice C lc cc, .slice D ld cd] #[.bool false, .slice none 0 0, .slice none 0 0] 86
  refine (HC.out _ E0).mono ?_
  rintro e w0 ⟨rfl, hE⟩
  have HX := Lib.hid (X3.ext hE)
  have HE := Lib.hid (E0.tr hE)
  have a0 : w0.cell? ⟨w.heap.size, 0, none⟩ = some (.bool ba) := (X1.ext hE).c 0
  have a1 : w0.cell? ⟨w.heap.size, 1, none⟩ = some (.slice A la ca) := (X1.ext hE).c 1
  have a2 : w0.cell? ⟨w.heap.size, 2, none⟩ = some (.slice B lb cb) := (X1.ext hE).c 2
  have b0 : w0.cell? ⟨w.heap.size + 1, 0, none⟩ = some (.bool bb) := (X2.ext hE).c 0
  have b1 : w0.cell? ⟨w.heap.size + 1, 1, none⟩ = some (.slice C lc cc) := (X2.ext hE).c 1
  have b2 : w0.cell? ⟨w.heap.size + 1, 2, none⟩ = some (.slice D ld cd) := (X2.ext hE).c 2
  clear X1 X2 X3 E0 hE HC b2
  go_wp2_with fail
  go_region_held3 (fun w' => w'.cell? ⟨w.heap.size, 0, none⟩ = some (.bool ba) ∧ w'.cell? ⟨w.heap.size, 1, none⟩ = some (.slice A la ca) ∧ w'.cell? ⟨w.heap.size, 2, none⟩ = some (.slice B lb cb) ∧ w'.cell? ⟨w.heap.size + 1, 0, none⟩ = some (.bool bb) ∧ w'.cell? ⟨w.heap.size + 1, 1, none⟩ = some (.slice C lc cc)) (((try dsimp only); (repeat' apply And.intro) <;> (first | (with_reducible assumption) | (rw [neC (by omega), neC (by omega), neC (by omega)]; with_reducible assumption) | (rw [neC (by omega), neC (by omega)]; with_reducible assumption) | ((go_keep); done))))
    (first
      | (go_at_call 134; (with_reducible refine (HP.out _ (Ext.dr' HE)).mono ?_); rintro e w1 ⟨vp, rfl, hv, hE⟩; replace hE := ((Ext.rfl' _).dr).tr hE; obtain ⟨sp, Zp, lp, cp, rfl, -, -⟩ := hv.ex; replace a0 := Ext.cellH hE a0; replace a1 := Ext.cellH hE a1; replace a2 := Ext.cellH hE a2; replace b0 := Ext.cellH hE b0; replace b1 := Ext.cellH hE b1; replace HX := Bx.hext HX hE; replace HE := Lib.hid (HE.out.tr hE); have HVp := Lib.hid hv; clear hE hv)
      | (go_at_call 133; (with_reducible refine (HL.out _ _ HE.out HVp.out).mono ?_); rintro e w2 ⟨vq, rfl, hv, hE⟩; obtain ⟨sq, Zq, lq, cq, Yq, mq, dq, rfl, -, -, -⟩ := hv.ex; replace a0 := Ext.cellH hE a0; replace a1 := Ext.cellH hE a1; replace a2 := Ext.cellH hE a2; replace b0 := Ext.cellH hE b0; replace b1 := Ext.cellH hE b1; replace HX := Bx.hext HX hE; replace HVp := ZV.hext HVp hE; replace HE := Lib.hid (HE.out.tr hE); have HVq := Lib.hid hv; have y0 : w2.cell? ⟨w.heap.size + 1 + 1, 0, none⟩ = some (.bool false) := HX.out.c 0; have y1 : w2.cell? ⟨w.heap.size + 1 + 1, 1, none⟩ = some (.slice none 0 0) := HX.out.c 1; have y2 : w2.cell? ⟨w.heap.size + 1 + 1, 2, none⟩ = some (.slice none 0 0) := HX.out.c 2; have f0 := HX.out.f 0; have f1 := HX.out.f 1; have f2 := HX.out.f 2; clear hE hv))
  all_goals
    go_wp2_with fail
    obtain ⟨d0', d1', d2'⟩ := set3 HX.out (.bool sq) (.slice Zq lq cq) (.slice Yq mq dq)
    have HZ := QV.off HVq.out HX.out nou3 (size3 (.bool sq) (.slice Zq lq cq) (.slice Yq mq dq)) (keep3 (g := w.heap.size + 1 + 1) (.bool sq) (.slice Zq lq cq) (.slice Yq mq dq))
    refine bodyPost_ret (v := .agg #[.bool sq, .slice Zq lq cq, .slice Yq mq dq]) ?_ rfl ⟨_, rfl, HZ, ext_set3 (b := w.heap.size + 1 + 1) HE.out (by omega) _ _ _⟩
    simp [results, Tryz.f93, go_sem, d0', d1', d2']
set_option maxHeartbeats 8000000 in
set_option maxRecDepth 200000 in
theorem q3Add_ne (v1 v2 : Value) (x y : Rat) (n m : Nat) (w : World) (h1 : QV w v1 x) (h2 : QV w v2 y) (hx : Bd x n) (hy : Bd y m) (hk : n + m + 2 ≤ KK) (hd : x.den ≠ y.den) :
    Calls Tryz.prog 93 #[v1, v2] w (RetQ3 (x + y) w) := by
  obtain ⟨fx1, fx2⟩ := bd_fit hx (by omega)
  obtain ⟨fy1, fy2⟩ := bd_fit hy (by omega)
  obtain ⟨-, fm2⟩ := bd_mulfit hx hy (by omega)
  obtain ⟨fa1, fa2, fa3, fa4⟩ := bd_addfit hx hy hk
  obtain ⟨ba, A, la, ca, B, lb, cb, rfl, -, -, -⟩ := h1.ex
  obtain ⟨bb, C, lc, cc, D, ld, cd, rfl, -, -, -⟩ := h2.ex
  obtain ⟨k, hke⟩ : ∃ k, cmpZ x.den y.den = k := ⟨_, rfl⟩
  have HC : Hid (∀ W, Ext w W → Calls Tryz.prog 110 #[.slice B lb cb, .slice D ld cd] W fun e w' => e = .returned (.int .i64 k) ∧ Ext W w') := fun W hE => hke ▸ zCmp_v _ _ _ _ W (SlN.ext h1.z.2.1 hE) (SlN.ext h2.z.2.1 hE) (DivW.few fx2.len) (DivW.few fy2.len)
  have hk0 : (k == 0) = false := by rw [← hke, cmpZ_zero]; exact beq_eq_false_iff_ne.2 hd
  have HT1 : Hid (∀ W, Ext w W → Calls Tryz.prog 136 #[.slice A la ca, .slice D ld cd] W fun e w' => ∃ v, e = .returned v ∧ SlN w' v (x.num.natAbs * y.den) ∧ Ext W w') := fun W hE => zTimes_v _ _ _ _ W (h1.ext hE).z.2.2.1 (h2.ext hE).z.2.1 (DivW.few fx1.len) (DivW.few fy2.len)
  have HT2 : Hid (∀ W, Ext w W → Calls Tryz.prog 136 #[.slice C lc cc, .slice B lb cb] W fun e w' => ∃ v, e = .returned v ∧ SlN w' v (y.num.natAbs * x.den) ∧ Ext W w') := fun W hE => zTimes_v _ _ _ _ W (h2.ext hE).z.2.2.1 (h1.ext hE).z.2.1 (DivW.few fy1.len) (DivW.few fx2.len)
  have HT3 : Hid (∀ W, Ext w W → Calls Tryz.prog 136 #[.slice B lb cb, .slice D ld cd] W fun e w' => ∃ v, e = .returned v ∧ SlN w' v (x.den * y.den) ∧ Ext W w') := fun W hE => zTimes_v _ _ _ _ W (h1.ext hE).z.2.1 (h2.ext hE).z.2.1 (DivW.few fx2.len) (DivW.few fy2.len)
  have HM1 : Hid (∀ W v, SlN W v (x.num.natAbs * y.den) → Calls Tryz.prog 135 #[.bool ba, v] W (RetZ (x.num * y.den) W)) := fun W v hv => by
    rw [← sgmul, ← h1.z.2.2.2]
    exact z2Make_any ba v _ W hv
  have HM2 : Hid (∀ W v, SlN W v (y.num.natAbs * x.den) → Calls Tryz.prog 135 #[.bool bb, v] W (RetZ (y.num * x.den) W)) := fun W v hv => by
    rw [← sgmul, ← h2.z.2.2.2]
    exact z2Make_any bb v _ W hv
  have HP : Hid (∀ W u v, ZV W u (x.num * y.den) → ZV W v (y.num * x.den) → Calls Tryz.prog 134 #[u, v] W (RetZ (x.num * y.den + y.num * x.den) W)) := fun W u v hu hv => z2Plus_v _ _ _ _ W hu hv (DivW.few fa2.len) (DivW.few fa3.len)
  have HL : Hid (∀ W vz vd, ZV W vz (x.num * y.den + y.num * x.den) → SlN W vd (x.den * y.den) → Calls Tryz.prog 133 #[vz, vd] W (RetQ3 (x + y) W)) := fun W vz vd hz hd => by
    rw [Rat.add_def, Rat.normalize_eq_mkRat]
    exact q3low_v vz vd _ _ W hz hd (Nat.mul_pos x.den_pos y.den_pos) fa4.len fm2.len
  clear h1 h2 hx hy hk fx1 fx2 fy1 fy2 fm2 fa1 fa2 fa3 fa4 hke hd
  go_enter Tryz.func93, Tryz.ntmps93
  go_wp2_with fail
  obtain ⟨X1, X2, X3, E0⟩ := boxes3 w #[.bool ba, .slice A la ca, .slice B lb cb] #[.bool bb, .slice C lc cc, .slice D ld cd] #[.bool false, .slice none 0 0, .slice none 0 0] 86
  refine (HC.out _ E0).mono ?_
  rintro e w0 ⟨rfl, hE⟩
  have HX := Lib.hid (X3.ext hE)
  have HE := Lib.hid (E0.tr hE)
  have a0 : w0.cell? ⟨w.heap.size, 0, none⟩ = some (.bool ba) := (X1.ext hE).c 0
  have a1 : w0.cell? ⟨w.heap.size, 1, none⟩ = some (.slice A la ca) := (X1.ext hE).c 1
  have a2 : w0.cell? ⟨w.heap.size, 2, none⟩ = some (.slice B lb cb) := (X1.ext hE).c 2
  have b0 : w0.cell? ⟨w.heap.size + 1, 0, none⟩ = some (.bool bb) := (X2.ext hE).c 0
  have b1 : w0.cell? ⟨w.heap.size + 1, 1, none⟩ = some (.slice C lc cc) := (X2.ext hE).c 1
  have b2 : w0.cell? ⟨w.heap.size + 1, 2, none⟩ = some (.slice D ld cd) := (X2.ext hE).c 2
  clear X1 X2 X3 E0 hE HC
  go_wp2_with fail
  have hsz : w.heap.size + 1 + 1 < w0.heap.size := HX.out.lt
  refine Code.wp_mono (Q := fun e a' w' => e = .normal ∧ ∃ (g : Nat) (b : Bool) (Zv : Option Addr) (l c : Nat) (u21 u22 u23 u24 u25 u26 u27 u28 u29 u30 : Value), a' = ⟨#[.agg #[.bool ba, .slice A la ca, .slice B lb cb], .agg #[.bool bb, .slice C lc cc, .slice D ld cd], .pointer (some ⟨w.heap.size, 0, none⟩), .pointer (some ⟨w.heap.size + 1, 0, none⟩), .pointer (some ⟨w.heap.size + 1 + 1, 0, none⟩), .pointer (some ⟨g, 0, none⟩), undef, .pointer (some ⟨w.heap.size, 2, none⟩), .slice B lb cb, .pointer (some ⟨w.heap.size + 1, 2, none⟩), .slice D ld cd, .int .i64 k, .bool false, undef, undef, undef, undef, undef, undef, undef, undef, u21, u22, u23, u24, u25, u26, u27, u28, u29, u30, undef, undef, undef, undef, undef, undef, undef, undef, undef, undef, undef, undef, undef, undef, undef, undef, undef, undef, undef], []⟩ ∧ BoxQ w0 w' g b Zv l c (x.num * y.den)) ?_ ?_
  rotate_left
  · go_region_held3 (fun w' => w'.cell? ⟨w.heap.size, 0, none⟩ = some (.bool ba) ∧ w'.cell? ⟨w.heap.size, 1, none⟩ = some (.slice A la ca) ∧ w'.cell? ⟨w.heap.size + 1, 2, none⟩ = some (.slice D ld cd)) (((try dsimp only); (repeat' apply And.intro) <;> (first | (with_reducible assumption) | (rw [neC (by omega), neC (by omega), neC (by omega)]; with_reducible assumption) | (rw [neC (by omega), neC (by omega)]; with_reducible assumption) | ((go_keep); done))))
      (first
        | (go_at_call 135; (with_reducible refine (HM1.out (World.alloc r1 _) _ (SlN.ext HVp.out ((Ext.rfl' _).al _))).mono ?_); rintro e r2 ⟨v, rfl, hv, hE⟩; have HB := Lib.hid ((Bx.new r1 #[.bool false, .slice none 0 0] 84).ext hE); have HG := Lib.hid hs1; have t0 := HB.out.c0; have t1 := HB.out.c1; have ff0 := HB.out.f 0; have ff1 := HB.out.f 1; replace hE := ((Ext.rfl' _).al _).tr hE; obtain ⟨sz, Zz, lz, cz, rfl, -, -⟩ := hv.ex; have a0 := Ext.cellH hE a0; have a1 := Ext.cellH hE a1; have b2 := Ext.cellH hE b2; have hs2 := hE.size; have HE2 := Lib.hid (HE1.out.tr hE); have HVz := Lib.hid hv; clear hE hv)
        | (go_at_call 135; (with_reducible refine (HM1.out _ _ HVp.out).mono ?_); rintro e r2 ⟨v, rfl, hv, hE⟩; (try (replace HB := Bx.hext HB hE; have t0 := HB.out.c0; have t1 := HB.out.c1; have ff0 := HB.out.f 0; have ff1 := HB.out.f 1)); obtain ⟨sz, Zz, lz, cz, rfl, -, -⟩ := hv.ex; have a0 := Ext.cellH hE a0; have a1 := Ext.cellH hE a1; have b2 := Ext.cellH hE b2; have hs2 := hE.size; have HE2 := Lib.hid (HE1.out.tr hE); have HVz := Lib.hid hv; clear hE hv)
        | (go_at_call 136; (with_reducible refine (HT1.out _ (Ext.dr' HE)).mono ?_); rintro e r1 ⟨v, rfl, hv, hE⟩; replace hE := ((Ext.rfl' _).dr).tr hE; obtain ⟨Zp, lp, cp, rfl⟩ := SlN.sl3 hv; have a0 := Ext.cellH hE a0; have a1 := Ext.cellH hE a1; have b2 := Ext.cellH hE b2; have hs1 := hE.size; have HE1 := Lib.hid hE; have HVp := Lib.hid hv; clear hE hv)
        | (go_at_call 136; (with_reducible refine (HT1.out (World.drew (w0.alloc _)) ((HE.out.al _).dr)).mono ?_); rintro e r1 ⟨v, rfl, hv, hE⟩; have HB := Lib.hid ((show Bx (World.drew (w0.alloc (.cells #[.bool false, .slice none 0 0] 84))) _ _ _ from Bx.new w0 #[.bool false, .slice none 0 0] 84).ext hE); have HG := Lib.hid (Nat.le_refl w0.heap.size); replace hE := (((Ext.rfl' _).al _).dr).tr hE; obtain ⟨Zp, lp, cp, rfl⟩ := SlN.sl3 hv; have a0 := Ext.cellH hE a0; have a1 := Ext.cellH hE a1; have b2 := Ext.cellH hE b2; have hs1 := hE.size; have HE1 := Lib.hid hE; have HVp := Lib.hid hv; clear hE hv))
    all_goals
      refine ⟨rfl, _, sz, Zz, lz, cz, _, _, _, _, _, _, _, _, _, _, rfl, ?_⟩
      first
        | exact BoxQ.al HE2 HVz
        | exact BoxQ.set HG HB HE2 HVz
  rintro e a' wx ⟨rfl, gx, sx, Zx, lx, cx, p21, p22, p23, p24, p25, p26, p27, p28, p29, p30, rfl, hE, ⟨x0, x1⟩, hv, hg⟩
  replace a0 := Ext.cellH hE a0; replace a1 := Ext.cellH hE a1; replace a2 := Ext.cellH hE a2; replace b0 := Ext.cellH hE b0; replace b1 := Ext.cellH hE b1; replace b2 := Ext.cellH hE b2; replace HX := Bx.hext HX hE; replace HE := Lib.hid (HE.out.tr hE)
  have HVx := Lib.hid hv
  have hgx : w.heap.size + 1 + 1 < gx := Nat.lt_of_lt_of_le hsz hg
  clear hE hv hg hsz
  go_wp2_with fail
  have hsz : w.heap.size + 1 + 1 < wx.heap.size := HX.out.lt
  refine Code.wp_mono (Q := fun e a' w' => e = .normal ∧ ∃ (g : Nat) (b : Bool) (Zv : Option Addr) (l c : Nat) (u31 u32 u33 u34 u35 u36 u37 u38 u39 u40 : Value), a' = ⟨#[.agg #[.bool ba, .slice A la ca, .slice B lb cb], .agg #[.bool bb, .slice C lc cc, .slice D ld cd], .pointer (some ⟨w.heap.size, 0, none⟩), .pointer (some ⟨w.heap.size + 1, 0, none⟩), .pointer (some ⟨w.heap.size + 1 + 1, 0, none⟩), .pointer (some ⟨gx, 0, none⟩), .pointer (some ⟨g, 0, none⟩), .pointer (some ⟨w.heap.size, 2, none⟩), .slice B lb cb, .pointer (some ⟨w.heap.size + 1, 2, none⟩), .slice D ld cd, .int .i64 k, .bool false, undef, undef, undef, undef, undef, undef, undef, undef, p21, p22, p23, p24, p25, p26, p27, p28, p29, p30, u31, u32, u33, u34, u35, u36, u37, u38, u39, u40, undef, undef, undef, undef, undef, undef, undef, undef, undef], []⟩ ∧ BoxQ wx w' g b Zv l c (y.num * x.den)) ?_ ?_
  rotate_left
  · go_region_held3 (fun w' => w'.cell? ⟨w.heap.size, 2, none⟩ = some (.slice B lb cb) ∧ w'.cell? ⟨w.heap.size + 1, 0, none⟩ = some (.bool bb) ∧ w'.cell? ⟨w.heap.size + 1, 1, none⟩ = some (.slice C lc cc)) (((try dsimp only); (repeat' apply And.intro) <;> (first | (with_reducible assumption) | (rw [neC (by omega), neC (by omega), neC (by omega)]; with_reducible assumption) | (rw [neC (by omega), neC (by omega)]; with_reducible assumption) | ((go_keep); done))))
      (first
        | (go_at_call 135; (with_reducible refine (HM2.out (World.alloc r1 _) _ (SlN.ext HVp.out ((Ext.rfl' _).al _))).mono ?_); rintro e r2 ⟨v, rfl, hv, hE⟩; have HB := Lib.hid ((Bx.new r1 #[.bool false, .slice none 0 0] 84).ext hE); have HG := Lib.hid hs1; have t0 := HB.out.c0; have t1 := HB.out.c1; have ff0 := HB.out.f 0; have ff1 := HB.out.f 1; replace hE := ((Ext.rfl' _).al _).tr hE; obtain ⟨sz, Zz, lz, cz, rfl, -, -⟩ := hv.ex; have a2 := Ext.cellH hE a2; have b0 := Ext.cellH hE b0; have b1 := Ext.cellH hE b1; have hs2 := hE.size; have HE2 := Lib.hid (HE1.out.tr hE); have HVz := Lib.hid hv; clear hE hv)
        | (go_at_call 135; (with_reducible refine (HM2.out _ _ HVp.out).mono ?_); rintro e r2 ⟨v, rfl, hv, hE⟩; (try (replace HB := Bx.hext HB hE; have t0 := HB.out.c0; have t1 := HB.out.c1; have ff0 := HB.out.f 0; have ff1 := HB.out.f 1)); obtain ⟨sz, Zz, lz, cz, rfl, -, -⟩ := hv.ex; have a2 := Ext.cellH hE a2; have b0 := Ext.cellH hE b0; have b1 := Ext.cellH hE b1; have hs2 := hE.size; have HE2 := Lib.hid (HE1.out.tr hE); have HVz := Lib.hid hv; clear hE hv)
        | (go_at_call 136; (with_reducible refine (HT2.out _ (Ext.dr' HE)).mono ?_); rintro e r1 ⟨v, rfl, hv, hE⟩; replace hE := ((Ext.rfl' _).dr).tr hE; obtain ⟨Zp, lp, cp, rfl⟩ := SlN.sl3 hv; have a2 := Ext.cellH hE a2; have b0 := Ext.cellH hE b0; have b1 := Ext.cellH hE b1; have hs1 := hE.size; have HE1 := Lib.hid hE; have HVp := Lib.hid hv; clear hE hv)
        | (go_at_call 136; (with_reducible refine (HT2.out (World.drew (wx.alloc _)) ((HE.out.al _).dr)).mono ?_); rintro e r1 ⟨v, rfl, hv, hE⟩; have HB := Lib.hid ((show Bx (World.drew (wx.alloc (.cells #[.bool false, .slice none 0 0] 84))) _ _ _ from Bx.new wx #[.bool false, .slice none 0 0] 84).ext hE); have HG := Lib.hid (Nat.le_refl wx.heap.size); replace hE := (((Ext.rfl' _).al _).dr).tr hE; obtain ⟨Zp, lp, cp, rfl⟩ := SlN.sl3 hv; have a2 := Ext.cellH hE a2; have b0 := Ext.cellH hE b0; have b1 := Ext.cellH hE b1; have hs1 := hE.size; have HE1 := Lib.hid hE; have HVp := Lib.hid hv; clear hE hv))
    all_goals
      refine ⟨rfl, _, sz, Zz, lz, cz, _, _, _, _, _, _, _, _, _, _, rfl, ?_⟩
      first
        | exact BoxQ.al HE2 HVz
        | exact BoxQ.set HG HB HE2 HVz
  rintro e a' wy ⟨rfl, gy, sy, Zy, ly, cy, p31, p32, p33, p34, p35, p36, p37, p38, p39, p40, rfl, hE, ⟨y0, y1⟩, hv, hg⟩
  replace a0 := Ext.cellH hE a0; replace a1 := Ext.cellH hE a1; replace a2 := Ext.cellH hE a2; replace b0 := Ext.cellH hE b0; replace b1 := Ext.cellH hE b1; replace b2 := Ext.cellH hE b2; replace x0 := Ext.cellH hE x0; replace x1 := Ext.cellH hE x1; replace HX := Bx.hext HX hE; replace HVx := ZV.hext HVx hE; replace HE := Lib.hid (HE.out.tr hE)
  have HVy := Lib.hid hv
  have hgy : w.heap.size + 1 + 1 < gy := Nat.lt_of_lt_of_le hsz hg
  clear hE hv hg hsz
  go_wp2_with fail
  clear a0 a1 b0 b1
  go_region_held3 (fun w' => w'.cell? ⟨w.heap.size, 2, none⟩ = some (.slice B lb cb) ∧ w'.cell? ⟨w.heap.size + 1, 2, none⟩ = some (.slice D ld cd) ∧ w'.cell? ⟨gx, 0, none⟩ = some (.bool sx) ∧ w'.cell? ⟨gx, 1, none⟩ = some (.slice Zx lx cx) ∧ w'.cell? ⟨gy, 0, none⟩ = some (.bool sy) ∧ w'.cell? ⟨gy, 1, none⟩ = some (.slice Zy ly cy)) (((try dsimp only); (repeat' apply And.intro) <;> (first | (with_reducible assumption) | (rw [neC (by omega), neC (by omega), neC (by omega)]; with_reducible assumption) | (rw [neC (by omega), neC (by omega)]; with_reducible assumption) | ((go_keep); done))))
    (first
      | (go_at_call 134; (with_reducible refine (HP.out _ _ _ (HVx.out.ext ((Ext.rfl' _).dr)) (HVy.out.ext ((Ext.rfl' _).dr))).mono ?_); rintro e w1 ⟨vp, rfl, hv, hE⟩; replace hE := ((Ext.rfl' _).dr).tr hE; obtain ⟨sp, Zp, lp, cp, rfl, -, -⟩ := hv.ex; replace a2 := Ext.cellH hE a2; replace b2 := Ext.cellH hE b2; replace x0 := Ext.cellH hE x0; replace x1 := Ext.cellH hE x1; replace y0 := Ext.cellH hE y0; replace y1 := Ext.cellH hE y1; replace HX := Bx.hext HX hE; replace HVx := ZV.hext HVx hE; replace HVy := ZV.hext HVy hE; replace HE := Lib.hid (HE.out.tr hE); have HVp := Lib.hid hv; clear hE hv)
      | (go_at_call 136; (with_reducible refine (HT3.out _ HE.out).mono ?_); rintro e w2 ⟨vt, rfl, hv, hE⟩; obtain ⟨Zt, lt, ct, rfl⟩ := SlN.sl3 hv; replace a2 := Ext.cellH hE a2; replace b2 := Ext.cellH hE b2; replace x0 := Ext.cellH hE x0; replace x1 := Ext.cellH hE x1; replace y0 := Ext.cellH hE y0; replace y1 := Ext.cellH hE y1; replace HX := Bx.hext HX hE; replace HVx := ZV.hext HVx hE; replace HVy := ZV.hext HVy hE; replace HVp := ZV.hext HVp hE; replace HE := Lib.hid (HE.out.tr hE); have HVt := Lib.hid hv; clear hE hv)
      | (go_at_call 133; (with_reducible refine (HL.out _ _ _ HVp.out HVt.out).mono ?_); rintro e w3 ⟨vq, rfl, hv, hE⟩; obtain ⟨sq, Zq, lq, cq, Yq, mq, dq, rfl, -, -, -⟩ := hv.ex; replace a2 := Ext.cellH hE a2; replace b2 := Ext.cellH hE b2; replace x0 := Ext.cellH hE x0; replace x1 := Ext.cellH hE x1; replace y0 := Ext.cellH hE y0; replace y1 := Ext.cellH hE y1; replace HX := Bx.hext HX hE; replace HVx := ZV.hext HVx hE; replace HVy := ZV.hext HVy hE; replace HVp := ZV.hext HVp hE; replace HVt := SlN.hext HVt hE; replace HE := Lib.hid (HE.out.tr hE); have HVq := Lib.hid hv; have y0 : w3.cell? ⟨w.heap.size + 1 + 1, 0, none⟩ = some (.bool false) := HX.out.c 0; have y1 : w3.cell? ⟨w.heap.size + 1 + 1, 1, none⟩ = some (.slice none 0 0) := HX.out.c 1; have y2 : w3.cell? ⟨w.heap.size + 1 + 1, 2, none⟩ = some (.slice none 0 0) := HX.out.c 2; have f0 := HX.out.f 0; have f1 := HX.out.f 1; have f2 := HX.out.f 2; clear hE hv))
  all_goals
    go_wp2_with fail
    obtain ⟨d0', d1', d2'⟩ := set3 HX.out (.bool sq) (.slice Zq lq cq) (.slice Yq mq dq)
    have HZ := QV.off HVq.out HX.out nou3 (size3 (.bool sq) (.slice Zq lq cq) (.slice Yq mq dq)) (keep3 (g := w.heap.size + 1 + 1) (.bool sq) (.slice Zq lq cq) (.slice Yq mq dq))
    refine bodyPost_ret (v := .agg #[.bool sq, .slice Zq lq cq, .slice Yq mq dq]) ?_ rfl ⟨_, rfl, HZ, ext_set3 (b := w.heap.size + 1 + 1) HE.out (by omega) _ _ _⟩
    simp [results, Tryz.f93, go_sem, d0', d1', d2']
theorem q3Add_v (v1 v2 : Value) (x y : Rat) (n m : Nat) (w : World) (h1 : QV w v1 x) (h2 : QV w v2 y) (hx : Bd x n) (hy : Bd y m) (hk : n + m + 2 ≤ KK) :
    Calls Tryz.prog 93 #[v1, v2] w (RetQ3 (x + y) w) := by
  by_cases hd : x.den = y.den
  · exact q3Add_eq v1 v2 x y n m w h1 h2 hx hy hk hd
  · exact q3Add_ne v1 v2 x y n m w h1 h2 hx hy hk hd
end Go.Proofs.YtbldlibijojbjaaGreatDoor.GB

namespace Go.Proofs.YtbldlibijojbjaaGreatDoor.GB
set_option linter.unusedVariables false
set_option linter.unusedSimpArgs false
open Go.RowKit Go.Shelf
attribute [local go_sem ↓] Go.wp_at_zero Go.wp_at_succ

theorem rread_q (q : Rat) (n : Nat) (w : World) (hW : Wd w) (hq : Bd q n) (hn : n + 1 ≤ KK) :
    Calls Tryz.prog 85 #[rtx q] w fun e w' => e = .returned (.tuple #[FV q, .bool true]) ∧ Ext w w' := by
  have hk := KK_eq
  have f := hq.fit hn
  have l1 := itoa_len f.1
  have l2 := f.2.dec
  by_cases h1 : q.den = 1
  · have e1 : rtx q = itx q.num := by show Value.string _ = Value.string _; rw [rtext_int h1]
    have e2 : FV q = .agg #[itx q.num, .string ⟨#[49]⟩] := by unfold FV; rw [h1, dtx1]
    rw [e1, e2]
    have hv : ∀ W, Ext w W → Calls Tryz.prog 126 #[itx q.num] W fun e w' => e = .returned (.bool true) ∧ Ext W w' := by
      intro W _
      have h := iValid_any ⟨(Lib.itoa q.num).toArray⟩ W (by rw [size_mk]; omega)
      have et : intB (⟨(Lib.itoa q.num).toArray⟩ : ByteArray).data.toList = true := intB_itoa _
      rwa [et] at h
    exact rread_0 _ true w (fun W _ => cut_miss47 _ W (itoa_no47 _)) hv
  · have hl := hq.len
    have hpd : (⟨(rtext q).toArray⟩ : ByteArray).data.toList = Lib.itoa q.num ++ 47 :: Lib.decDigits q.den := rtext_frac h1
    have hcut : ∀ W, Ext w W → Calls Tryz.prog 125 #[rtx q, .string ⟨#[47]⟩] W fun e w' => e = .returned (.tuple #[itx q.num, dtx q.den, .bool true]) ∧ Ext W w' := fun W _ => cut_hit47 _ _ _ W hpd (itoa_no47 _) (by rw [size_mk]; omega)
    have hv : ∀ W, Ext w W → Calls Tryz.prog 126 #[itx q.num] W fun e w' => e = .returned (.bool true) ∧ Ext W w' := by
      intro W _
      have h := iValid_any ⟨(Lib.itoa q.num).toArray⟩ W (by rw [size_mk]; omega)
      have et : intB (⟨(Lib.itoa q.num).toArray⟩ : ByteArray).data.toList = true := intB_itoa _
      rwa [et] at h
    have hv2 : ∀ W, Ext w W → Calls Tryz.prog 127 #[dtx q.den] W fun e w' => e = .returned (.bool true) ∧ Ext W w' := fun W _ => (valid_dec q.den W f.2).mono fun e w' h => ⟨h.1, h.2 ▸ Ext.rfl' _⟩
    have hz : q.num ≠ 0 := fun h => h1 (by rw [Rat.num_eq_zero.1 h]; rfl)
    have hg : Nat.gcd q.num.natAbs q.den = 1 := q.reduced
    have h3 : ∀ W, Ext w W → Calls Tryz.prog 128 #[itx q.num, dtx q.den] W fun e w' => e = .returned (dtx 1) ∧ Ext W w' := by
      intro W hE
      have h := divisor_z q.num q.den W (hW.ext hE) f.1 f.2
      rwa [hg] at h
    exact rread_7 _ _ _ w hcut hv (by rw [itx_zero]; exact decide_eq_false hz) hv2 (by rw [dtx_zero]; exact decide_eq_false q.den_nz) (by rw [dtx_one]; exact decide_eq_false h1) _ (by rw [dtx_one]; rfl) h3
set_option maxHeartbeats 2000000 in
set_option maxRecDepth 100000 in
theorem rValid_q (q : Rat) (n : Nat) (w : World) (hW : Wd w) (hq : Bd q n) (hn : n + 1 ≤ KK) :
    Calls Tryz.prog 41 #[rtx q] w fun e w' => e = .returned (.bool true) ∧ Ext w w' := by
  have h := rread_q q n w hW hq hn
  go_enter Tryz.func41, Tryz.ntmps41
  go_wp2_with fail
  refine h.mono ?_
  rintro e w1 ⟨rfl, hE⟩
  clear h
  go_wp2_with fail
  go_ret
  exact ⟨rfl, hE.al _⟩
set_option maxHeartbeats 4000000 in
set_option maxRecDepth 100000 in
theorem rboth_ok (s t a b c d : ByteArray) (w : World) (h1 : ∀ W, Ext w W → Calls Tryz.prog 85 #[.string s] W fun e w' => e = .returned (.tuple #[.agg #[.string a, .string b], .bool true]) ∧ Ext W w') (h2 : ∀ W, Ext w W → Calls Tryz.prog 85 #[.string t] W fun e w' => e = .returned (.tuple #[.agg #[.string c, .string d], .bool true]) ∧ Ext W w') :
    Calls Tryz.prog 129 #[.string s, .string t] w fun e w' => e = .returned (.tuple #[.agg #[.string a, .string b], .agg #[.string c, .string d], .int .i64 0]) ∧ Ext w w' := by
  obtain ⟨X1, X2, E⟩ := boxes2 w #[.string ⟨#[]⟩, .string ⟨#[]⟩] #[.string ⟨#[]⟩, .string ⟨#[]⟩] 102
  go_enter Tryz.func129, Tryz.ntmps129
  go_wp2_with fail
  generalize ((w.alloc (.cells #[.string ⟨#[]⟩, .string ⟨#[]⟩] 102)).alloc (.cells #[.string ⟨#[]⟩, .string ⟨#[]⟩] 102)) = W0 at *
  refine (h1 _ E).mono ?_
  rintro e w1 ⟨rfl, hE1⟩
  go_wp2_with fail
  have Y3 := Bx.new w1 #[.string a, .string b] 102
  refine (h2 _ ((E.tr hE1).al (.cells #[.string a, .string b] 102))).mono ?_
  rintro e w2 ⟨rfl, hE2⟩
  have hg1 := (X1.ext hE1).lt
  have hg2 := (X2.ext hE1).lt
  have hg3 := (Y3.ext hE2).lt
  have Z1 := (((X1.ext hE1).al (.cells #[.string a, .string b] 102)).ext hE2).al (.cells #[.string c, .string d] 102)
  have Z2 := (((X2.ext hE1).al (.cells #[.string a, .string b] 102)).ext hE2).al (.cells #[.string c, .string d] 102)
  have Z3 := (Y3.ext hE2).al (.cells #[.string c, .string d] 102)
  have Z4 := Bx.new w2 #[.string c, .string d] 102
  have E4 := ((E.tr hE1).al (.cells #[.string a, .string b] 102)).tr hE2 |>.al (.cells #[.string c, .string d] 102)
  clear X1 X2 E hE1 hE2 Y3 h1 h2
  go_wp2_with fail
  generalize w2.alloc (.cells #[.string c, .string d] 102) = W9 at *
  generalize w1.heap.size = g1 at *
  generalize w2.heap.size = g2 at *
  generalize hs0 : w.heap.size = s0 at *
  have n1 : s0 ≠ g1 := by omega
  have n2 : s0 ≠ g2 := by omega
  have n3 : s0 + 1 ≠ g1 := by omega
  have n4 : s0 + 1 ≠ g2 := by omega
  have n5 := n1.symm
  have n6 := n2.symm
  have n7 := n3.symm
  have n8 := n4.symm
  have a0 := Z3.c0
  have a1 := Z3.c1
  have b0 := Z4.c0
  have b1 := Z4.c1
  have r0 := Z1.c0
  have r1 := Z1.c1
  have r2 := Z2.c0
  have r3 := Z2.c1
  have f0 := Z1.f 0
  have f1 := Z1.f 1
  have f2 := Z2.f 0
  have f3 := Z2.f 1
  have HZ1 := Lib.hid Z1
  have HZ2 := Lib.hid Z2
  have HE := Lib.hid E4
  clear Z1 Z2 Z3 Z4 E4 hg1 hg2 hg3
  go_region_with (fail)
  all_goals
    go_wp2_with fail
    obtain ⟨d0, d1⟩ := set2 HZ1.out (.string a) (.string b)
    have HZ3 := (HZ2.out.set (p := ⟨s0, 0, none⟩) (by simp) (.string a)).set (p := ⟨s0, 1, none⟩) (by simp) (.string b)
    obtain ⟨d2, d3⟩ := set2 HZ3 (.string c) (.string d)
    have d4 : ((((W9.setCell ⟨s0, 0, none⟩ (.string a)).setCell ⟨s0, 1, none⟩ (.string b)).setCell ⟨s0 + 1, 0, none⟩ (.string c)).setCell ⟨s0 + 1, 1, none⟩ (.string d)).cell? ⟨s0, 0, none⟩ = some (.string a) := by
      rw [World.cell?_setCell_other _ _ _ _ (by simp), World.cell?_setCell_other _ _ _ _ (by simp)]; exact d0
    have d5 : ((((W9.setCell ⟨s0, 0, none⟩ (.string a)).setCell ⟨s0, 1, none⟩ (.string b)).setCell ⟨s0 + 1, 0, none⟩ (.string c)).setCell ⟨s0 + 1, 1, none⟩ (.string d)).cell? ⟨s0, 1, none⟩ = some (.string b) := by
      rw [World.cell?_setCell_other _ _ _ _ (by simp), World.cell?_setCell_other _ _ _ _ (by simp)]; exact d1
    have E9 : Ext w ((((W9.setCell ⟨s0, 0, none⟩ (.string a)).setCell ⟨s0, 1, none⟩ (.string b)).setCell ⟨s0 + 1, 0, none⟩ (.string c)).setCell ⟨s0 + 1, 1, none⟩ (.string d)) :=
      ext_set2 (b := s0 + 1) (ext_set2 (b := s0) HE.out (by omega) _ _) (by omega) _ _
    refine bodyPost_ret (v := .tuple #[.agg #[.string a, .string b], .agg #[.string c, .string d], .int .i64 0]) ?_ rfl ⟨rfl, E9.dr⟩
    simp [results, Tryz.f129, go_sem, d2, d3, d4, d5]
end Go.Proofs.YtbldlibijojbjaaGreatDoor.GB

namespace Go.Proofs.YtbldlibijojbjaaGreatDoor.GB
set_option linter.unusedVariables false
set_option linter.unusedSimpArgs false
open Go.RowKit Go.Shelf
attribute [local go_sem ↓] Go.wp_at_zero Go.wp_at_succ

abbrev opF (n : Nat) : Value := .func (.func n) #[] #[]
/-- What the map of the operations holds, as data: a number for each function. -/
noncomputable def opR (v : Value) : Option (DataW Unit × List MemPlace) :=
  open Classical in
  if v = .nilFunc then some (.lit (.int .i64 0), []) else
  if v = opF 176 then some (.lit (.int .i64 1), []) else
  if v = opF 177 then some (.lit (.int .i64 2), []) else
  if v = opF 178 then some (.lit (.int .i64 3), []) else
  if v = opF 180 then some (.lit (.int .i64 4), []) else none
theorem opR_inv {v : Value} {c : Int} {ps : List MemPlace} (h : opR v = some (.lit (.int .i64 c), ps)) : (c = 1 → v = opF 176) ∧ (c = 2 → v = opF 177) ∧ (c = 3 → v = opF 178) ∧ (c = 4 → v = opF 180) := by
  unfold opR at h
  (repeat' split at h) <;> first | (simp at h; obtain ⟨rfl, _⟩ := h; simp_all) | cases h
theorem opR_p : opR (opF 176) = some (.lit (.int .i64 1), []) := by unfold opR; simp
theorem opR_t : opR (opF 177) = some (.lit (.int .i64 2), []) := by unfold opR; simp
theorem opR_m : opR (opF 178) = some (.lit (.int .i64 3), []) := by unfold opR; simp
theorem opR_d : opR (opF 180) = some (.lit (.int .i64 4), []) := by unfold opR; simp
theorem opR_0 : opR .nilFunc = some (.lit (.int .i64 0), []) := by unfold opR; simp
def opD : DataW Unit := ((((DataW.map []).put (.int .u8 43) (.lit (.int .i64 1))).put (.int .u8 42) (.lit (.int .i64 2))).put (.int .u8 45) (.lit (.int .i64 3))).put (.int .u8 47) (.lit (.int .i64 4))
def OpsM (w : World) (b : Nat) : Prop := w.ownsMap Tryz.prog 5 opR b 4 opD
theorem key8 (a : Int) (h : (Lit.int .u8 a).wf = true) : keyOf Tryz.prog 5 (.int .u8 a) = some (.int .u8 a) := Maps.keyOf_int_mk Tryz.underlying5 h
theorem keyed8 : Maps.Keyed Tryz.prog 5 := Maps.int_keyed Tryz.underlying5
theorem zeroFn (w : World) : (zeroValue 142).run Tryz.prog w = .ok .nilFunc w := by kernel_rfl
theorem ops_look {w : World} {b : Nat} (h : OpsM w b) (a c : Int) (ha : (Lit.int .u8 a).wf = true) (hc : opD.atKey (.int .u8 a) (.lit (.int .i64 0)) = .lit (.int .i64 c)) :
    ∃ v ps, (Instr.lookup 143 (.map (some b)) (.int .u8 a) false).run Tryz.prog w = .ok v w ∧ opR v = some (.lit (.int .i64 c), ps) := by
  obtain ⟨v, ps, h1, h2⟩ := World.ownsMap.lookup h keyed8 Tryz.underlying143 (zeroFn w) opR_0 (key8 a ha)
  rw [hc] at h2
  exact ⟨v, ps, h1, h2⟩
theorem ops_43 {w : World} {b : Nat} (h : OpsM w b) : (Instr.lookup 143 (.map (some b)) (.int .u8 43) false).run Tryz.prog w = .ok (opF 176) w := by
  obtain ⟨v, ps, h1, h2⟩ := ops_look h 43 1 (by decide) (by rfl)
  rw [h1, (opR_inv h2).1 rfl]
theorem ops_42 {w : World} {b : Nat} (h : OpsM w b) : (Instr.lookup 143 (.map (some b)) (.int .u8 42) false).run Tryz.prog w = .ok (opF 177) w := by
  obtain ⟨v, ps, h1, h2⟩ := ops_look h 42 2 (by decide) (by rfl)
  rw [h1, (opR_inv h2).2.1 rfl]
theorem ops_45 {w : World} {b : Nat} (h : OpsM w b) : (Instr.lookup 143 (.map (some b)) (.int .u8 45) false).run Tryz.prog w = .ok (opF 178) w := by
  obtain ⟨v, ps, h1, h2⟩ := ops_look h 45 3 (by decide) (by rfl)
  rw [h1, (opR_inv h2).2.2.1 rfl]
theorem ops_47 {w : World} {b : Nat} (h : OpsM w b) : (Instr.lookup 143 (.map (some b)) (.int .u8 47) false).run Tryz.prog w = .ok (opF 180) w := by
  obtain ⟨v, ps, h1, h2⟩ := ops_look h 47 4 (by decide) (by rfl)
  rw [h1, (opR_inv h2).2.2.2 rfl]
set_option maxHeartbeats 2000000 in
set_option maxRecDepth 100000 in
theorem operations_any (w : World) : Calls Tryz.prog 154 #[] w fun e w' => e = .returned (.map (some w.heap.size)) ∧ Ext w w' ∧ OpsM w' w.heap.size := by
  have hmm := @run_makeMap Tryz.prog
  have h0 := World.ownsMap_made w Tryz.prog 5 opR
  have E0 := (Ext.rfl' w).al (.map #[] 0)
  obtain ⟨w1, r1, h1, g1⟩ := h0.update keyed8 Tryz.underlying143 (by unfold maxLen; omega) (key8 43 (by decide)) opR_p
  obtain ⟨w2, r2, h2, g2⟩ := h1.update keyed8 Tryz.underlying143 (by unfold maxLen; omega) (key8 42 (by decide)) opR_t
  obtain ⟨w3, r3, h3, g3⟩ := h2.update keyed8 Tryz.underlying143 (by unfold maxLen; omega) (key8 45 (by decide)) opR_m
  obtain ⟨w4, r4, h4, g4⟩ := h3.update keyed8 Tryz.underlying143 (by unfold maxLen; omega) (key8 47 (by decide)) opR_d
  have E4 := Lib.hid ((((E0.gr g1 (fun k hk => by cases hk; exact Nat.le_refl _)).gr g2 (fun k hk => by cases hk; exact Nat.le_refl _)).gr g3 (fun k hk => by cases hk; exact Nat.le_refl _)).gr g4 (fun k hk => by cases hk; exact Nat.le_refl _))
  have H4 : Hid (OpsM w4 w.heap.size) := h4
  clear h0 h1 h2 h3 h4 g1 g2 g3 g4 E0
  go_enter Tryz.func154, Tryz.ntmps154
  go_wp2_with fail
  go_ret
  exact ⟨rfl, E4.out, H4.out⟩
set_option maxHeartbeats 2000000 in
set_option maxRecDepth 100000 in
theorem all_any (w : World) : Calls Tryz.prog 130 #[] w fun e w' => e = .returned (.map (some w.heap.size)) ∧ Ext w w' ∧ OpsM w' w.heap.size := by
  go_enter Tryz.func130, Tryz.ntmps130
  go_wp2_with fail
  refine (operations_any _).mono ?_
  rintro e w1 ⟨rfl, E1, H1⟩
  go_wp2_with fail
  go_ret
  exact ⟨rfl, E1, H1⟩
end Go.Proofs.YtbldlibijojbjaaGreatDoor.GB

namespace Go.Proofs.YtbldlibijojbjaaGreatDoor.GB
set_option linter.unusedVariables false
set_option linter.unusedSimpArgs false
open Go.RowKit Go.Shelf
attribute [local go_sem ↓] Go.wp_at_zero Go.wp_at_succ

theorem all_b (w : World) : Calls Tryz.prog 130 #[] w fun e w' => ∃ b, e = .returned (.map (some b)) ∧ Ext w w' ∧ OpsM w' b :=
  (all_any w).mono fun e w' h => ⟨_, h⟩
set_option maxHeartbeats 4000000 in
set_option maxRecDepth 100000 in
theorem rapply_43 (s t a b c d p q r : ByteArray) (w : World)
    (h1 : ∀ W, Ext w W → Calls Tryz.prog 129 #[.string s, .string t] W fun e w' => e = .returned (.tuple #[.agg #[.string a, .string b], .agg #[.string c, .string d], .int .i64 0]) ∧ Ext W w')
    (h3 : ∀ W, Ext w W → Calls Tryz.prog 176 #[.agg #[.string a, .string b], .agg #[.string c, .string d]] W fun e w' => e = .returned (.agg #[.string p, .string q]) ∧ Ext W w')
    (h4 : ∀ W, Ext w W → Calls Tryz.prog 131 #[.agg #[.string p, .string q]] W fun e w' => e = .returned (.string r) ∧ Ext W w') :
    Calls Tryz.prog 86 #[.int .u8 43, .string s, .string t] w fun e w' => e = .returned (.tuple #[.string r, .int .i64 0]) ∧ Ext w w' := by
  go_enter Tryz.func86, Tryz.ntmps86
  go_wp2_with fail
  refine (h1 _ (Ext.rfl' _)).mono ?_
  rintro e w1 ⟨rfl, hE1⟩
  obtain ⟨X1, X2, E2⟩ := boxes2 w1 #[.string a, .string b] #[.string c, .string d] 102
  have HE := Lib.hid (hE1.tr E2)
  have a0 := X1.c0
  have a1 := X1.c1
  have b0 := X2.c0
  have b1 := X2.c1
  clear X1 X2 hE1 E2 h1
  go_wp2_with fail
  generalize ((w1.alloc (.cells #[.string a, .string b] 102)).alloc (.cells #[.string c, .string d] 102)) = W0 at *
  generalize w1.heap.size = g at *
  go_region_held3 (fun w' => w'.cell? ⟨g, 0, none⟩ = some (.string a) ∧ w'.cell? ⟨g, 1, none⟩ = some (.string b) ∧ w'.cell? ⟨g + 1, 0, none⟩ = some (.string c) ∧ w'.cell? ⟨g + 1, 1, none⟩ = some (.string d)) (((try dsimp only); (repeat' apply And.intro) <;> assumption))
    (first
      | (go_at_call 130; (with_reducible refine (all_b _).mono ?_); rintro e w2 ⟨m, rfl, hE2, hM⟩; have hl := ops_43 hM; have q0 := Ext.cellD hE2 a0; have q1 := Ext.cellD hE2 a1; have q2 := Ext.cellD hE2 b0; have q3 := Ext.cellD hE2 b1; have HE2 := Lib.hid ((Ext.dr' HE).tr hE2); clear hE2 hM)
      | (go_at_call 176; (with_reducible refine (h3 _ HE2.out).mono ?_); rintro e w3 ⟨rfl, hE3⟩; have t0 := Ext.cellH hE3 q0; have t1 := Ext.cellH hE3 q1; have t2 := Ext.cellH hE3 q2; have t3 := Ext.cellH hE3 q3; have HE3 := Lib.hid (HE2.out.tr hE3); clear hE3)
      | (go_at_call 131; (with_reducible refine (h4 _ HE3.out).mono ?_); rintro e w4 ⟨rfl, hE4⟩; have u0 := Ext.cellH hE4 t0; have u1 := Ext.cellH hE4 t1; have u2 := Ext.cellH hE4 t2; have u3 := Ext.cellH hE4 t3; have HE4 := Lib.hid (HE3.out.tr hE4); clear hE4))
  all_goals
    go_wp2_with fail
    go_ret2
    exact ⟨rfl, HE4.out⟩
set_option maxHeartbeats 4000000 in
set_option maxRecDepth 100000 in
theorem rapply_42 (s t a b c d p q r : ByteArray) (w : World)
    (h1 : ∀ W, Ext w W → Calls Tryz.prog 129 #[.string s, .string t] W fun e w' => e = .returned (.tuple #[.agg #[.string a, .string b], .agg #[.string c, .string d], .int .i64 0]) ∧ Ext W w')
    (h3 : ∀ W, Ext w W → Calls Tryz.prog 177 #[.agg #[.string a, .string b], .agg #[.string c, .string d]] W fun e w' => e = .returned (.agg #[.string p, .string q]) ∧ Ext W w')
    (h4 : ∀ W, Ext w W → Calls Tryz.prog 131 #[.agg #[.string p, .string q]] W fun e w' => e = .returned (.string r) ∧ Ext W w') :
    Calls Tryz.prog 86 #[.int .u8 42, .string s, .string t] w fun e w' => e = .returned (.tuple #[.string r, .int .i64 0]) ∧ Ext w w' := by
  go_enter Tryz.func86, Tryz.ntmps86
  go_wp2_with fail
  refine (h1 _ (Ext.rfl' _)).mono ?_
  rintro e w1 ⟨rfl, hE1⟩
  obtain ⟨X1, X2, E2⟩ := boxes2 w1 #[.string a, .string b] #[.string c, .string d] 102
  have HE := Lib.hid (hE1.tr E2)
  have a0 := X1.c0
  have a1 := X1.c1
  have b0 := X2.c0
  have b1 := X2.c1
  clear X1 X2 hE1 E2 h1
  go_wp2_with fail
  generalize ((w1.alloc (.cells #[.string a, .string b] 102)).alloc (.cells #[.string c, .string d] 102)) = W0 at *
  generalize w1.heap.size = g at *
  go_region_held3 (fun w' => w'.cell? ⟨g, 0, none⟩ = some (.string a) ∧ w'.cell? ⟨g, 1, none⟩ = some (.string b) ∧ w'.cell? ⟨g + 1, 0, none⟩ = some (.string c) ∧ w'.cell? ⟨g + 1, 1, none⟩ = some (.string d)) (((try dsimp only); (repeat' apply And.intro) <;> assumption))
    (first
      | (go_at_call 130; (with_reducible refine (all_b _).mono ?_); rintro e w2 ⟨m, rfl, hE2, hM⟩; have hl := ops_42 hM; have q0 := Ext.cellD hE2 a0; have q1 := Ext.cellD hE2 a1; have q2 := Ext.cellD hE2 b0; have q3 := Ext.cellD hE2 b1; have HE2 := Lib.hid ((Ext.dr' HE).tr hE2); clear hE2 hM)
      | (go_at_call 177; (with_reducible refine (h3 _ HE2.out).mono ?_); rintro e w3 ⟨rfl, hE3⟩; have t0 := Ext.cellH hE3 q0; have t1 := Ext.cellH hE3 q1; have t2 := Ext.cellH hE3 q2; have t3 := Ext.cellH hE3 q3; have HE3 := Lib.hid (HE2.out.tr hE3); clear hE3)
      | (go_at_call 131; (with_reducible refine (h4 _ HE3.out).mono ?_); rintro e w4 ⟨rfl, hE4⟩; have u0 := Ext.cellH hE4 t0; have u1 := Ext.cellH hE4 t1; have u2 := Ext.cellH hE4 t2; have u3 := Ext.cellH hE4 t3; have HE4 := Lib.hid (HE3.out.tr hE4); clear hE4))
  all_goals
    go_wp2_with fail
    go_ret2
    exact ⟨rfl, HE4.out⟩
set_option maxHeartbeats 4000000 in
set_option maxRecDepth 100000 in
theorem rapply_45 (s t a b c d p q r : ByteArray) (w : World)
    (h1 : ∀ W, Ext w W → Calls Tryz.prog 129 #[.string s, .string t] W fun e w' => e = .returned (.tuple #[.agg #[.string a, .string b], .agg #[.string c, .string d], .int .i64 0]) ∧ Ext W w')
    (h3 : ∀ W, Ext w W → Calls Tryz.prog 178 #[.agg #[.string a, .string b], .agg #[.string c, .string d]] W fun e w' => e = .returned (.agg #[.string p, .string q]) ∧ Ext W w')
    (h4 : ∀ W, Ext w W → Calls Tryz.prog 131 #[.agg #[.string p, .string q]] W fun e w' => e = .returned (.string r) ∧ Ext W w') :
    Calls Tryz.prog 86 #[.int .u8 45, .string s, .string t] w fun e w' => e = .returned (.tuple #[.string r, .int .i64 0]) ∧ Ext w w' := by
  go_enter Tryz.func86, Tryz.ntmps86
  go_wp2_with fail
  refine (h1 _ (Ext.rfl' _)).mono ?_
  rintro e w1 ⟨rfl, hE1⟩
  obtain ⟨X1, X2, E2⟩ := boxes2 w1 #[.string a, .string b] #[.string c, .string d] 102
  have HE := Lib.hid (hE1.tr E2)
  have a0 := X1.c0
  have a1 := X1.c1
  have b0 := X2.c0
  have b1 := X2.c1
  clear X1 X2 hE1 E2 h1
  go_wp2_with fail
  generalize ((w1.alloc (.cells #[.string a, .string b] 102)).alloc (.cells #[.string c, .string d] 102)) = W0 at *
  generalize w1.heap.size = g at *
  go_region_held3 (fun w' => w'.cell? ⟨g, 0, none⟩ = some (.string a) ∧ w'.cell? ⟨g, 1, none⟩ = some (.string b) ∧ w'.cell? ⟨g + 1, 0, none⟩ = some (.string c) ∧ w'.cell? ⟨g + 1, 1, none⟩ = some (.string d)) (((try dsimp only); (repeat' apply And.intro) <;> assumption))
    (first
      | (go_at_call 130; (with_reducible refine (all_b _).mono ?_); rintro e w2 ⟨m, rfl, hE2, hM⟩; have hl := ops_45 hM; have q0 := Ext.cellD hE2 a0; have q1 := Ext.cellD hE2 a1; have q2 := Ext.cellD hE2 b0; have q3 := Ext.cellD hE2 b1; have HE2 := Lib.hid ((Ext.dr' HE).tr hE2); clear hE2 hM)
      | (go_at_call 178; (with_reducible refine (h3 _ HE2.out).mono ?_); rintro e w3 ⟨rfl, hE3⟩; have t0 := Ext.cellH hE3 q0; have t1 := Ext.cellH hE3 q1; have t2 := Ext.cellH hE3 q2; have t3 := Ext.cellH hE3 q3; have HE3 := Lib.hid (HE2.out.tr hE3); clear hE3)
      | (go_at_call 131; (with_reducible refine (h4 _ HE3.out).mono ?_); rintro e w4 ⟨rfl, hE4⟩; have u0 := Ext.cellH hE4 t0; have u1 := Ext.cellH hE4 t1; have u2 := Ext.cellH hE4 t2; have u3 := Ext.cellH hE4 t3; have HE4 := Lib.hid (HE3.out.tr hE4); clear hE4))
  all_goals
    go_wp2_with fail
    go_ret2
    exact ⟨rfl, HE4.out⟩
set_option maxHeartbeats 4000000 in
set_option maxRecDepth 100000 in
theorem rapply_47 (s t a b c d p q r : ByteArray) (w : World)
    (h1 : ∀ W, Ext w W → Calls Tryz.prog 129 #[.string s, .string t] W fun e w' => e = .returned (.tuple #[.agg #[.string a, .string b], .agg #[.string c, .string d], .int .i64 0]) ∧ Ext W w')
    (hz : (c.toList == [48]) = false) (h3 : ∀ W, Ext w W → Calls Tryz.prog 180 #[.agg #[.string a, .string b], .agg #[.string c, .string d]] W fun e w' => e = .returned (.agg #[.string p, .string q]) ∧ Ext W w')
    (h4 : ∀ W, Ext w W → Calls Tryz.prog 131 #[.agg #[.string p, .string q]] W fun e w' => e = .returned (.string r) ∧ Ext W w') :
    Calls Tryz.prog 86 #[.int .u8 47, .string s, .string t] w fun e w' => e = .returned (.tuple #[.string r, .int .i64 0]) ∧ Ext w w' := by
  go_enter Tryz.func86, Tryz.ntmps86
  go_wp2_with fail
  refine (h1 _ (Ext.rfl' _)).mono ?_
  rintro e w1 ⟨rfl, hE1⟩
  obtain ⟨X1, X2, E2⟩ := boxes2 w1 #[.string a, .string b] #[.string c, .string d] 102
  have HE := Lib.hid (hE1.tr E2)
  have a0 := X1.c0
  have a1 := X1.c1
  have b0 := X2.c0
  have b1 := X2.c1
  clear X1 X2 hE1 E2 h1
  go_wp2_with fail
  generalize ((w1.alloc (.cells #[.string a, .string b] 102)).alloc (.cells #[.string c, .string d] 102)) = W0 at *
  generalize w1.heap.size = g at *
  go_region_held3 (fun w' => w'.cell? ⟨g, 0, none⟩ = some (.string a) ∧ w'.cell? ⟨g, 1, none⟩ = some (.string b) ∧ w'.cell? ⟨g + 1, 0, none⟩ = some (.string c) ∧ w'.cell? ⟨g + 1, 1, none⟩ = some (.string d)) (((try dsimp only); (repeat' apply And.intro) <;> assumption))
    (first
      | (go_at_call 130; (with_reducible refine (all_b _).mono ?_); rintro e w2 ⟨m, rfl, hE2, hM⟩; have hl := ops_47 hM; have q0 := Ext.cellD hE2 a0; have q1 := Ext.cellD hE2 a1; have q2 := Ext.cellD hE2 b0; have q3 := Ext.cellD hE2 b1; have HE2 := Lib.hid ((Ext.dr' HE).tr hE2); clear hE2 hM)
      | (go_at_call 180; (with_reducible refine (h3 _ HE2.out).mono ?_); rintro e w3 ⟨rfl, hE3⟩; have t0 := Ext.cellH hE3 q0; have t1 := Ext.cellH hE3 q1; have t2 := Ext.cellH hE3 q2; have t3 := Ext.cellH hE3 q3; have HE3 := Lib.hid (HE2.out.tr hE3); clear hE3)
      | (go_at_call 131; (with_reducible refine (h4 _ HE3.out).mono ?_); rintro e w4 ⟨rfl, hE4⟩; have u0 := Ext.cellH hE4 t0; have u1 := Ext.cellH hE4 t1; have u2 := Ext.cellH hE4 t2; have u3 := Ext.cellH hE4 t3; have HE4 := Lib.hid (HE3.out.tr hE4); clear hE4))
  all_goals
    go_wp2_with fail
    go_ret2
    exact ⟨rfl, HE4.out⟩
end Go.Proofs.YtbldlibijojbjaaGreatDoor.GB
