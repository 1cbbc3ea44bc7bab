import Derived.Test.YtbldlibijojbjaaGreatDoorMYx
namespace Go.Proofs.YtbldlibijojbjaaGreatDoor.GB
set_option linter.unusedVariables false
set_option linter.unusedSimpArgs false
open Go.RowKit Go.Shelf
attribute [local go_sem ↓] Go.wp_at_zero Go.wp_at_succ

theorem rboth_q (x y : Rat) (m n : Nat) (w : World) (hW : Wd w) (hx : Bd x m) (hy : Bd y n) (hm : m + 1 ≤ KK) (hn : n + 1 ≤ KK) :
    Calls Tryz.prog 129 #[rtx x, rtx y] w fun e w' => e = .returned (.tuple #[FV x, FV y, .int .i64 0]) ∧ Ext w w' :=
  rboth_ok _ _ _ _ _ _ w (fun W hE => rread_q x m W (hW.ext hE) hx hm) (fun W hE => rread_q y n W (hW.ext hE) hy hn)
set_option maxHeartbeats 4000000 in
set_option maxRecDepth 100000 in
theorem rboth_h1 (s t : ByteArray) (y : Bool) (w : World) (h1 : ∀ W, Ext w W → Calls Tryz.prog 85 #[.string s] W fun e w' => ∃ a b, e = .returned (.tuple #[.agg #[.string a, .string b], .bool false]) ∧ Ext W w') (h2 : ∀ W, Ext w W → Calls Tryz.prog 85 #[.string t] W fun e w' => ∃ c d, e = .returned (.tuple #[.agg #[.string c, .string d], .bool y]) ∧ Ext W w') :
    Calls Tryz.prog 129 #[.string s, .string t] w fun e w' => e = .returned (.tuple #[.agg #[.string ⟨#[]⟩, .string ⟨#[]⟩], .agg #[.string ⟨#[]⟩, .string ⟨#[]⟩], .int .i64 1]) ∧ Ext w w' := by
  obtain ⟨X1, X2, E⟩ := boxes2 w #[.string ⟨#[]⟩, .string ⟨#[]⟩] #[.string ⟨#[]⟩, .string ⟨#[]⟩] 102
  go_enter Tryz.func129, Tryz.ntmps129
  go_wp2_with fail
  generalize ((w.alloc (.cells #[.string ⟨#[]⟩, .string ⟨#[]⟩] 102)).alloc (.cells #[.string ⟨#[]⟩, .string ⟨#[]⟩] 102)) = W0 at *
  refine (h1 _ E).mono ?_
  rintro e w1 ⟨a, b, rfl, hE1⟩
  go_wp2_with fail
  have Y3 := Bx.new w1 #[.string a, .string b] 102
  refine (h2 _ ((E.tr hE1).al (.cells #[.string a, .string b] 102))).mono ?_
  rintro e w2 ⟨c, d, rfl, hE2⟩
  have hg1 := (X1.ext hE1).lt
  have hg2 := (X2.ext hE1).lt
  have hg3 := (Y3.ext hE2).lt
  have Z1 := (((X1.ext hE1).al (.cells #[.string a, .string b] 102)).ext hE2).al (.cells #[.string c, .string d] 102)
  have Z2 := (((X2.ext hE1).al (.cells #[.string a, .string b] 102)).ext hE2).al (.cells #[.string c, .string d] 102)
  have Z3 := (Y3.ext hE2).al (.cells #[.string c, .string d] 102)
  have Z4 := Bx.new w2 #[.string c, .string d] 102
  have E4 := ((E.tr hE1).al (.cells #[.string a, .string b] 102)).tr hE2 |>.al (.cells #[.string c, .string d] 102)
  clear X1 X2 E hE1 hE2 Y3 h1 h2
  have r0 := Z1.c0
  have r1 := Z1.c1
  have r2 := Z2.c0
  have r3 := Z2.c1
  have f0 := Z1.f 0
  have f1 := Z1.f 1
  have f2 := Z2.f 0
  have f3 := Z2.f 1
  have HZ1 := Lib.hid Z1
  have HZ2 := Lib.hid Z2
  have HE := Lib.hid E4
  clear Z1 Z2 Z3 Z4 E4 hg1 hg2 hg3
  go_wp2_with fail
  generalize w2.alloc (.cells #[.string c, .string d] 102) = W9 at *
  generalize hs0 : w.heap.size = s0 at *
  all_goals
    obtain ⟨d0, d1⟩ := set2 HZ1.out (.string ⟨#[]⟩) (.string ⟨#[]⟩)
    have HZ3 := (HZ2.out.set (p := ⟨s0, 0, none⟩) (by simp) (.string ⟨#[]⟩)).set (p := ⟨s0, 1, none⟩) (by simp) (.string ⟨#[]⟩)
    obtain ⟨d2, d3⟩ := set2 HZ3 (.string ⟨#[]⟩) (.string ⟨#[]⟩)
    have d4 : ((((W9.setCell ⟨s0, 0, none⟩ (.string ⟨#[]⟩)).setCell ⟨s0, 1, none⟩ (.string ⟨#[]⟩)).setCell ⟨s0 + 1, 0, none⟩ (.string ⟨#[]⟩)).setCell ⟨s0 + 1, 1, none⟩ (.string ⟨#[]⟩)).cell? ⟨s0, 0, none⟩ = some (.string ⟨#[]⟩) := by
      rw [World.cell?_setCell_other _ _ _ _ (by simp), World.cell?_setCell_other _ _ _ _ (by simp)]; exact d0
    have d5 : ((((W9.setCell ⟨s0, 0, none⟩ (.string ⟨#[]⟩)).setCell ⟨s0, 1, none⟩ (.string ⟨#[]⟩)).setCell ⟨s0 + 1, 0, none⟩ (.string ⟨#[]⟩)).setCell ⟨s0 + 1, 1, none⟩ (.string ⟨#[]⟩)).cell? ⟨s0, 1, none⟩ = some (.string ⟨#[]⟩) := by
      rw [World.cell?_setCell_other _ _ _ _ (by simp), World.cell?_setCell_other _ _ _ _ (by simp)]; exact d1
    have E9 : Ext w ((((W9.setCell ⟨s0, 0, none⟩ (.string ⟨#[]⟩)).setCell ⟨s0, 1, none⟩ (.string ⟨#[]⟩)).setCell ⟨s0 + 1, 0, none⟩ (.string ⟨#[]⟩)).setCell ⟨s0 + 1, 1, none⟩ (.string ⟨#[]⟩)) :=
      ext_set2 (b := s0 + 1) (ext_set2 (b := s0) HE.out (by omega) _ _) (by omega) _ _
    refine bodyPost_ret (v := .tuple #[.agg #[.string ⟨#[]⟩, .string ⟨#[]⟩], .agg #[.string ⟨#[]⟩, .string ⟨#[]⟩], .int .i64 1]) ?_ rfl ⟨rfl, E9⟩
    simp [results, Tryz.f129, go_sem, d2, d3, d4, d5]
set_option maxHeartbeats 4000000 in
set_option maxRecDepth 100000 in
theorem rboth_h2 (s t : ByteArray) (y : Bool) (w : World) (h1 : ∀ W, Ext w W → Calls Tryz.prog 85 #[.string s] W fun e w' => ∃ a b, e = .returned (.tuple #[.agg #[.string a, .string b], .bool true]) ∧ Ext W w') (h2 : ∀ W, Ext w W → Calls Tryz.prog 85 #[.string t] W fun e w' => ∃ c d, e = .returned (.tuple #[.agg #[.string c, .string d], .bool false]) ∧ Ext W w') :
    Calls Tryz.prog 129 #[.string s, .string t] w fun e w' => e = .returned (.tuple #[.agg #[.string ⟨#[]⟩, .string ⟨#[]⟩], .agg #[.string ⟨#[]⟩, .string ⟨#[]⟩], .int .i64 1]) ∧ Ext w w' := by
  obtain ⟨X1, X2, E⟩ := boxes2 w #[.string ⟨#[]⟩, .string ⟨#[]⟩] #[.string ⟨#[]⟩, .string ⟨#[]⟩] 102
  go_enter Tryz.func129, Tryz.ntmps129
  go_wp2_with fail
  generalize ((w.alloc (.cells #[.string ⟨#[]⟩, .string ⟨#[]⟩] 102)).alloc (.cells #[.string ⟨#[]⟩, .string ⟨#[]⟩] 102)) = W0 at *
  refine (h1 _ E).mono ?_
  rintro e w1 ⟨a, b, rfl, hE1⟩
  go_wp2_with fail
  have Y3 := Bx.new w1 #[.string a, .string b] 102
  refine (h2 _ ((E.tr hE1).al (.cells #[.string a, .string b] 102))).mono ?_
  rintro e w2 ⟨c, d, rfl, hE2⟩
  have hg1 := (X1.ext hE1).lt
  have hg2 := (X2.ext hE1).lt
  have hg3 := (Y3.ext hE2).lt
  have Z1 := (((X1.ext hE1).al (.cells #[.string a, .string b] 102)).ext hE2).al (.cells #[.string c, .string d] 102)
  have Z2 := (((X2.ext hE1).al (.cells #[.string a, .string b] 102)).ext hE2).al (.cells #[.string c, .string d] 102)
  have Z3 := (Y3.ext hE2).al (.cells #[.string c, .string d] 102)
  have Z4 := Bx.new w2 #[.string c, .string d] 102
  have E4 := ((E.tr hE1).al (.cells #[.string a, .string b] 102)).tr hE2 |>.al (.cells #[.string c, .string d] 102)
  clear X1 X2 E hE1 hE2 Y3 h1 h2
  have r0 := Z1.c0
  have r1 := Z1.c1
  have r2 := Z2.c0
  have r3 := Z2.c1
  have f0 := Z1.f 0
  have f1 := Z1.f 1
  have f2 := Z2.f 0
  have f3 := Z2.f 1
  have HZ1 := Lib.hid Z1
  have HZ2 := Lib.hid Z2
  have HE := Lib.hid E4
  clear Z1 Z2 Z3 Z4 E4 hg1 hg2 hg3
  go_wp2_with fail
  generalize w2.alloc (.cells #[.string c, .string d] 102) = W9 at *
  generalize hs0 : w.heap.size = s0 at *
  all_goals
    obtain ⟨d0, d1⟩ := set2 HZ1.out (.string ⟨#[]⟩) (.string ⟨#[]⟩)
    have HZ3 := (HZ2.out.set (p := ⟨s0, 0, none⟩) (by simp) (.string ⟨#[]⟩)).set (p := ⟨s0, 1, none⟩) (by simp) (.string ⟨#[]⟩)
    obtain ⟨d2, d3⟩ := set2 HZ3 (.string ⟨#[]⟩) (.string ⟨#[]⟩)
    have d4 : ((((W9.setCell ⟨s0, 0, none⟩ (.string ⟨#[]⟩)).setCell ⟨s0, 1, none⟩ (.string ⟨#[]⟩)).setCell ⟨s0 + 1, 0, none⟩ (.string ⟨#[]⟩)).setCell ⟨s0 + 1, 1, none⟩ (.string ⟨#[]⟩)).cell? ⟨s0, 0, none⟩ = some (.string ⟨#[]⟩) := by
      rw [World.cell?_setCell_other _ _ _ _ (by simp), World.cell?_setCell_other _ _ _ _ (by simp)]; exact d0
    have d5 : ((((W9.setCell ⟨s0, 0, none⟩ (.string ⟨#[]⟩)).setCell ⟨s0, 1, none⟩ (.string ⟨#[]⟩)).setCell ⟨s0 + 1, 0, none⟩ (.string ⟨#[]⟩)).setCell ⟨s0 + 1, 1, none⟩ (.string ⟨#[]⟩)).cell? ⟨s0, 1, none⟩ = some (.string ⟨#[]⟩) := by
      rw [World.cell?_setCell_other _ _ _ _ (by simp), World.cell?_setCell_other _ _ _ _ (by simp)]; exact d1
    have E9 : Ext w ((((W9.setCell ⟨s0, 0, none⟩ (.string ⟨#[]⟩)).setCell ⟨s0, 1, none⟩ (.string ⟨#[]⟩)).setCell ⟨s0 + 1, 0, none⟩ (.string ⟨#[]⟩)).setCell ⟨s0 + 1, 1, none⟩ (.string ⟨#[]⟩)) :=
      ext_set2 (b := s0 + 1) (ext_set2 (b := s0) HE.out (by omega) _ _) (by omega) _ _
    refine bodyPost_ret (v := .tuple #[.agg #[.string ⟨#[]⟩, .string ⟨#[]⟩], .agg #[.string ⟨#[]⟩, .string ⟨#[]⟩], .int .i64 1]) ?_ rfl ⟨rfl, E9⟩
    simp [results, Tryz.f129, go_sem, d2, d3, d4, d5]
theorem rboth_bad (s t : ByteArray) (w : World) (hW : Wd w) (hs : s.size ≤ 1000000) (ht : t.size ≤ 1000000) (h : (ratB s.data.toList && ratB t.data.toList) = false) :
    Calls Tryz.prog 129 #[.string s, .string t] w fun e w' => e = .returned (.tuple #[.agg #[.string ⟨#[]⟩, .string ⟨#[]⟩], .agg #[.string ⟨#[]⟩, .string ⟨#[]⟩], .int .i64 1]) ∧ Ext w w' := by
  have h1 := fun W (hE : Ext w W) => (rread_any s W (hW.ext hE) hs).mono fun e w' h => (show ∃ a b, e = .returned (.tuple #[.agg #[.string a, .string b], .bool (ratB s.data.toList)]) ∧ Ext W w' from by obtain ⟨a, b, h1, h2, _⟩ := h; exact ⟨a, b, h1, h2⟩)
  have h2 := fun W (hE : Ext w W) => (rread_any t W (hW.ext hE) ht).mono fun e w' h => (show ∃ a b, e = .returned (.tuple #[.agg #[.string a, .string b], .bool (ratB t.data.toList)]) ∧ Ext W w' from by obtain ⟨a, b, h1, h2, _⟩ := h; exact ⟨a, b, h1, h2⟩)
  cases hb : ratB s.data.toList
  · rw [hb] at h1
    exact rboth_h1 s t _ w h1 h2
  · rw [hb] at h1 h
    have hc : ratB t.data.toList = false := by simpa using h
    rw [hc] at h2
    exact rboth_h2 s t true w h1 h2
/-- The call hands back the text of a rational number, and no error. -/
def RetR (w : World) (r : Rat) (e : Ending) (w' : World) : Prop := e = .returned (.tuple #[rtx r, .int .i64 0]) ∧ Ext w w'
theorem ftext_b (r : Rat) (n : Nat) (w : World) (h : Bd r n) (hn : n + 1 ≤ KK) : Calls Tryz.prog 131 #[FV r] w fun e w' => e = .returned (rtx r) ∧ Ext w w' :=
  ftext_q r w (h.fit hn).1 (h.fit hn).2
theorem app_add (x y : Rat) (m n : Nat) (w : World) (hW : Wd w) (hx : Bd x m) (hy : Bd y n) (hk : m + n + 3 ≤ KK) :
    Calls Tryz.prog 86 #[.int .u8 43, rtx x, rtx y] w (RetR w (x + y)) :=
  rapply_43 _ _ _ _ _ _ _ _ _ w (fun W hE => rboth_q x y m n W (hW.ext hE) hx hy (by omega) (by omega)) (fun W hE => plus_q x y m n W (hW.ext hE) hx hy (by omega)) (fun W hE => ftext_b (x + y) _ W (hx.add hy) (by omega))
theorem app_mul (x y : Rat) (m n : Nat) (w : World) (hW : Wd w) (hx : Bd x m) (hy : Bd y n) (hk : m + n + 3 ≤ KK) :
    Calls Tryz.prog 86 #[.int .u8 42, rtx x, rtx y] w (RetR w (x * y)) :=
  rapply_42 _ _ _ _ _ _ _ _ _ w (fun W hE => rboth_q x y m n W (hW.ext hE) hx hy (by omega) (by omega)) (fun W hE => times_q x y m n W (hW.ext hE) hx hy (by omega)) (fun W hE => ftext_b (x * y) _ W (hx.mul hy) (by omega))
theorem app_sub (x y : Rat) (m n : Nat) (w : World) (hW : Wd w) (hx : Bd x m) (hy : Bd y n) (hk : m + n + 3 ≤ KK) :
    Calls Tryz.prog 86 #[.int .u8 45, rtx x, rtx y] w (RetR w (x - y)) :=
  rapply_45 _ _ _ _ _ _ _ _ _ w (fun W hE => rboth_q x y m n W (hW.ext hE) hx hy (by omega) (by omega)) (fun W hE => sub_q x y m n W (hW.ext hE) hx hy (by omega)) (fun W hE => ftext_b (x - y) _ W (hx.sub hy) (by omega))
theorem app_div (x y : Rat) (m n : Nat) (w : World) (hW : Wd w) (hx : Bd x m) (hy : Bd y n) (h0 : y ≠ 0) (hk : m + n + 3 ≤ KK) :
    Calls Tryz.prog 86 #[.int .u8 47, rtx x, rtx y] w (RetR w (x / y)) :=
  rapply_47 _ _ _ _ _ _ _ _ _ w (fun W hE => rboth_q x y m n W (hW.ext hE) hx hy (by omega) (by omega)) (by rw [itx_zero]; exact decide_eq_false (fun h => h0 (Rat.num_eq_zero.1 h))) (fun W hE => div_q x y m n W (hW.ext hE) hx hy h0 (by omega)) (fun W hE => ftext_b (x / y) _ W (hx.div hy) (by omega))
set_option maxHeartbeats 4000000 in
set_option maxRecDepth 100000 in
theorem rAdd_g (s t r : ByteArray) (k : Int) (w : World) (h1 : ∀ W, Ext w W → Calls Tryz.prog 86 #[.int .u8 43, .string s, .string t] W fun e w' => e = .returned (.tuple #[.string r, .int .i64 k]) ∧ Ext W w') :
    Calls Tryz.prog 42 #[.string s, .string t] w fun e w' => e = .returned (.tuple #[.string r, .int .i64 k]) ∧ Ext w w' := by
  go_enter Tryz.func42, Tryz.ntmps42
  go_wp2_with fail
  refine (h1 _ (Ext.rfl' _)).mono ?_
  rintro e w1 ⟨rfl, hE⟩
  clear h1
  go_wp2_with fail
  go_ret2
  exact ⟨rfl, hE⟩
theorem rAdd_q (x y : Rat) (m n : Nat) (w : World) (hW : Wd w) (hx : Bd x m) (hy : Bd y n) (hk : m + n + 3 ≤ KK) :
    Calls Tryz.prog 42 #[rtx x, rtx y] w (RetR w (x + y)) :=
  rAdd_g _ _ _ _ w (fun W hE => app_add x y m n W (hW.ext hE) hx hy hk)
set_option maxHeartbeats 4000000 in
set_option maxRecDepth 100000 in
theorem padd_q (x y : Rat) (m n : Nat) (w : World) (hW : Wd w) (hx : Bd x m) (hy : Bd y n) (hk : m + n + 3 ≤ KK) :
    Calls Tryz.prog 69 #[rtx x, rtx y] w fun e w' => e = .returned (rtx (x + y)) ∧ Ext w w' := by
  have h1 := rAdd_q x y m n w hW hx hy hk
  generalize x + y = r at h1 ⊢
  go_enter Tryz.func69, Tryz.ntmps69
  go_wp2_with fail
  refine h1.mono ?_
  rintro e w1 ⟨rfl, hE⟩
  clear h1
  go_wp2_with fail
  go_ret
  exact ⟨rfl, hE⟩
set_option maxHeartbeats 4000000 in
set_option maxRecDepth 100000 in
theorem rMul_g (s t r : ByteArray) (k : Int) (w : World) (h1 : ∀ W, Ext w W → Calls Tryz.prog 86 #[.int .u8 42, .string s, .string t] W fun e w' => e = .returned (.tuple #[.string r, .int .i64 k]) ∧ Ext W w') :
    Calls Tryz.prog 44 #[.string s, .string t] w fun e w' => e = .returned (.tuple #[.string r, .int .i64 k]) ∧ Ext w w' := by
  go_enter Tryz.func44, Tryz.ntmps44
  go_wp2_with fail
  refine (h1 _ (Ext.rfl' _)).mono ?_
  rintro e w1 ⟨rfl, hE⟩
  clear h1
  go_wp2_with fail
  go_ret2
  exact ⟨rfl, hE⟩
theorem rMul_q (x y : Rat) (m n : Nat) (w : World) (hW : Wd w) (hx : Bd x m) (hy : Bd y n) (hk : m + n + 3 ≤ KK) :
    Calls Tryz.prog 44 #[rtx x, rtx y] w (RetR w (x * y)) :=
  rMul_g _ _ _ _ w (fun W hE => app_mul x y m n W (hW.ext hE) hx hy hk)
set_option maxHeartbeats 4000000 in
set_option maxRecDepth 100000 in
theorem pmul_q (x y : Rat) (m n : Nat) (w : World) (hW : Wd w) (hx : Bd x m) (hy : Bd y n) (hk : m + n + 3 ≤ KK) :
    Calls Tryz.prog 70 #[rtx x, rtx y] w fun e w' => e = .returned (rtx (x * y)) ∧ Ext w w' := by
  have h1 := rMul_q x y m n w hW hx hy hk
  generalize x * y = r at h1 ⊢
  go_enter Tryz.func70, Tryz.ntmps70
  go_wp2_with fail
  refine h1.mono ?_
  rintro e w1 ⟨rfl, hE⟩
  clear h1
  go_wp2_with fail
  go_ret
  exact ⟨rfl, hE⟩
set_option maxHeartbeats 4000000 in
set_option maxRecDepth 100000 in
theorem rSub_g (s t r : ByteArray) (k : Int) (w : World) (h1 : ∀ W, Ext w W → Calls Tryz.prog 86 #[.int .u8 45, .string s, .string t] W fun e w' => e = .returned (.tuple #[.string r, .int .i64 k]) ∧ Ext W w') :
    Calls Tryz.prog 43 #[.string s, .string t] w fun e w' => e = .returned (.tuple #[.string r, .int .i64 k]) ∧ Ext w w' := by
  go_enter Tryz.func43, Tryz.ntmps43
  go_wp2_with fail
  refine (h1 _ (Ext.rfl' _)).mono ?_
  rintro e w1 ⟨rfl, hE⟩
  clear h1
  go_wp2_with fail
  go_ret2
  exact ⟨rfl, hE⟩
theorem rSub_q (x y : Rat) (m n : Nat) (w : World) (hW : Wd w) (hx : Bd x m) (hy : Bd y n) (hk : m + n + 3 ≤ KK) :
    Calls Tryz.prog 43 #[rtx x, rtx y] w (RetR w (x - y)) :=
  rSub_g _ _ _ _ w (fun W hE => app_sub x y m n W (hW.ext hE) hx hy hk)
set_option maxHeartbeats 4000000 in
set_option maxRecDepth 100000 in
theorem psub_q (x y : Rat) (m n : Nat) (w : World) (hW : Wd w) (hx : Bd x m) (hy : Bd y n) (hk : m + n + 3 ≤ KK) :
    Calls Tryz.prog 95 #[rtx x, rtx y] w fun e w' => e = .returned (rtx (x - y)) ∧ Ext w w' := by
  have h1 := rSub_q x y m n w hW hx hy hk
  generalize x - y = r at h1 ⊢
  go_enter Tryz.func95, Tryz.ntmps95
  go_wp2_with fail
  refine h1.mono ?_
  rintro e w1 ⟨rfl, hE⟩
  clear h1
  go_wp2_with fail
  go_ret
  exact ⟨rfl, hE⟩
set_option maxHeartbeats 4000000 in
set_option maxRecDepth 100000 in
theorem rDiv_g (s t r : ByteArray) (k : Int) (w : World) (h1 : ∀ W, Ext w W → Calls Tryz.prog 86 #[.int .u8 47, .string s, .string t] W fun e w' => e = .returned (.tuple #[.string r, .int .i64 k]) ∧ Ext W w') :
    Calls Tryz.prog 117 #[.string s, .string t] w fun e w' => e = .returned (.tuple #[.string r, .int .i64 k]) ∧ Ext w w' := by
  go_enter Tryz.func117, Tryz.ntmps117
  go_wp2_with fail
  refine (h1 _ (Ext.rfl' _)).mono ?_
  rintro e w1 ⟨rfl, hE⟩
  clear h1
  go_wp2_with fail
  go_ret2
  exact ⟨rfl, hE⟩
theorem rDiv_q (x y : Rat) (m n : Nat) (w : World) (hW : Wd w) (hx : Bd x m) (hy : Bd y n) (h0 : y ≠ 0) (hk : m + n + 3 ≤ KK) :
    Calls Tryz.prog 117 #[rtx x, rtx y] w (RetR w (x / y)) :=
  rDiv_g _ _ _ _ w (fun W hE => app_div x y m n W (hW.ext hE) hx hy h0 hk)
set_option maxHeartbeats 4000000 in
set_option maxRecDepth 100000 in
theorem pdiv_q (x y : Rat) (m n : Nat) (w : World) (hW : Wd w) (hx : Bd x m) (hy : Bd y n) (h0 : y ≠ 0) (hk : m + n + 3 ≤ KK) :
    Calls Tryz.prog 76 #[rtx x, rtx y] w fun e w' => e = .returned (rtx (x / y)) ∧ Ext w w' := by
  have h1 := rDiv_q x y m n w hW hx hy h0 hk
  generalize x / y = r at h1 ⊢
  go_enter Tryz.func76, Tryz.ntmps76
  go_wp2_with fail
  refine h1.mono ?_
  rintro e w1 ⟨rfl, hE⟩
  clear h1
  go_wp2_with fail
  go_ret
  exact ⟨rfl, hE⟩
end Go.Proofs.YtbldlibijojbjaaGreatDoor.GB

namespace Go.Proofs.YtbldlibijojbjaaGreatDoor.GB
set_option linter.unusedVariables false
set_option linter.unusedSimpArgs false
open Go.RowKit Go.Shelf
attribute [local go_sem ↓] Go.wp_at_zero Go.wp_at_succ

set_option maxHeartbeats 4000000 in
set_option maxRecDepth 100000 in
theorem rCompare_bad (s t : ByteArray) (w : World) (hW : Wd w) (hs : s.size ≤ 1000000) (ht : t.size ≤ 1000000) (h : (ratB s.data.toList && ratB t.data.toList) = false) :
    Calls Tryz.prog 119 #[.string s, .string t] w fun e w' => e = .returned (.tuple #[.int .i64 0, .int .i64 1]) ∧ Ext w w' := by
  have h1 := rboth_bad s t w hW hs ht h
  clear h
  go_enter Tryz.func119, Tryz.ntmps119
  go_wp2_with fail
  refine h1.mono ?_
  rintro e w1 ⟨rfl, hE⟩
  clear h1
  go_wp2_with fail
  go_ret2
  exact ⟨rfl, (hE.al _).al _⟩
set_option maxHeartbeats 4000000 in
set_option maxRecDepth 100000 in
theorem rCompare_e (s t a b c d : ByteArray) (w : World) (hst : (s.toList == t.toList) = true) (h1 : ∀ W, Ext w W → Calls Tryz.prog 129 #[.string s, .string t] W fun e w' => e = .returned (.tuple #[.agg #[.string a, .string b], .agg #[.string c, .string d], .int .i64 0]) ∧ Ext W w') :
    Calls Tryz.prog 119 #[.string s, .string t] w fun e w' => e = .returned (.tuple #[.int .i64 0, .int .i64 0]) ∧ Ext w w' := by
  go_enter Tryz.func119, Tryz.ntmps119
  go_wp2_with fail
  refine (h1 _ (Ext.rfl' _)).mono ?_
  rintro e w1 ⟨rfl, hE⟩
  clear h1
  go_wp2_with fail
  go_ret2
  exact ⟨rfl, (hE.al _).al _⟩
set_option maxHeartbeats 4000000 in
set_option maxRecDepth 100000 in
theorem rCompare_s (s t a b c d : ByteArray) (p q : Int) (w : World) (hst : (s.toList == t.toList) = false) (h1 : ∀ W, Ext w W → Calls Tryz.prog 129 #[.string s, .string t] W fun e w' => e = .returned (.tuple #[.agg #[.string a, .string b], .agg #[.string c, .string d], .int .i64 0]) ∧ Ext W w')
    (h2 : ∀ W, Ext w W → Calls Tryz.prog 144 #[.agg #[.string a, .string b]] W fun e w' => e = .returned (.int .i64 p) ∧ Ext W w') (h3 : ∀ W, Ext w W → Calls Tryz.prog 144 #[.agg #[.string c, .string d]] W fun e w' => e = .returned (.int .i64 q) ∧ Ext W w') (hpq : (p == q) = false) (hp1 : -1 ≤ p) (hp2 : p ≤ 1) (hq1 : -1 ≤ q) (hq2 : q ≤ 1) :
    Calls Tryz.prog 119 #[.string s, .string t] w fun e w' => e = .returned (.tuple #[.int .i64 (max (-1) (min (p - q) 1)), .int .i64 0]) ∧ Ext w w' := by
  go_enter Tryz.func119, Tryz.ntmps119
  go_wp2_with fail
  refine (h1 _ (Ext.rfl' _)).mono ?_
  rintro e w1 ⟨rfl, hE⟩
  clear h1
  obtain ⟨X1, X2, E2⟩ := boxes2 w1 #[.string a, .string b] #[.string c, .string d] 102
  have HE := Lib.hid (hE.tr E2)
  have a0 := X1.c0
  have a1 := X1.c1
  have b0 := X2.c0
  have b1 := X2.c1
  clear X1 X2 hE E2
  go_wp2_with fail
  generalize ((w1.alloc (.cells #[.string a, .string b] 102)).alloc (.cells #[.string c, .string d] 102)) = W0 at *
  generalize w1.heap.size = g at *
  go_region_held3 (fun w' => w'.cell? ⟨g, 0, none⟩ = some (.string a) ∧ w'.cell? ⟨g, 1, none⟩ = some (.string b) ∧ w'.cell? ⟨g + 1, 0, none⟩ = some (.string c) ∧ w'.cell? ⟨g + 1, 1, none⟩ = some (.string d)) (((try dsimp only); (repeat' apply And.intro) <;> assumption))
    (first
      | (go_at_call 144; (with_reducible refine (h2 _ (Ext.dr' HE)).mono ?_); rintro e w2 ⟨rfl, hE2⟩; have q0 := Ext.cellD hE2 a0; have q1 := Ext.cellD hE2 a1; have q2 := Ext.cellD hE2 b0; have q3 := Ext.cellD hE2 b1; have HE2 := Lib.hid ((Ext.dr' HE).tr hE2); clear hE2)
      | (go_at_call 144; (with_reducible refine (h3 _ HE2.out).mono ?_); rintro e w3 ⟨rfl, hE3⟩; have t0 := Ext.cellH hE3 q0; have t1 := Ext.cellH hE3 q1; have t2 := Ext.cellH hE3 q2; have t3 := Ext.cellH hE3 q3; have HE3 := Lib.hid (HE2.out.tr hE3); clear hE3))
  all_goals
    clear a0 a1 b0 b1 q0 q1 q2 q3
    go_wp2_with fail
    go_ret2
    exact ⟨rfl, HE3.out⟩
set_option maxHeartbeats 4000000 in
set_option maxRecDepth 100000 in
theorem rCompare_m (s t a b c d u v : ByteArray) (p r : Int) (w : World) (hst : (s.toList == t.toList) = false) (h1 : ∀ W, Ext w W → Calls Tryz.prog 129 #[.string s, .string t] W fun e w' => e = .returned (.tuple #[.agg #[.string a, .string b], .agg #[.string c, .string d], .int .i64 0]) ∧ Ext W w')
    (h2 : ∀ W, Ext w W → Calls Tryz.prog 144 #[.agg #[.string a, .string b]] W fun e w' => e = .returned (.int .i64 p) ∧ Ext W w') (h3 : ∀ W, Ext w W → Calls Tryz.prog 144 #[.agg #[.string c, .string d]] W fun e w' => e = .returned (.int .i64 p) ∧ Ext W w')
    (h4 : ∀ W, Ext w W → Calls Tryz.prog 145 #[.string a, .string d] W fun e w' => e = .returned (.tuple #[.string u, .int .i64 0]) ∧ Ext W w')
    (h5 : ∀ W, Ext w W → Calls Tryz.prog 145 #[.string c, .string b] W fun e w' => e = .returned (.tuple #[.string v, .int .i64 0]) ∧ Ext W w')
    (h6 : ∀ W, Ext w W → Calls Tryz.prog 146 #[.string u, .string v] W fun e w' => e = .returned (.tuple #[.int .i64 r, .int .i64 0]) ∧ Ext W w') :
    Calls Tryz.prog 119 #[.string s, .string t] w fun e w' => e = .returned (.tuple #[.int .i64 r, .int .i64 0]) ∧ Ext w w' := by
  go_enter Tryz.func119, Tryz.ntmps119
  go_wp2_with fail
  refine (h1 _ (Ext.rfl' _)).mono ?_
  rintro e w1 ⟨rfl, hE⟩
  clear h1
  obtain ⟨X1, X2, E2⟩ := boxes2 w1 #[.string a, .string b] #[.string c, .string d] 102
  have HE := Lib.hid (hE.tr E2)
  have a0 := X1.c0
  have a1 := X1.c1
  have b0 := X2.c0
  have b1 := X2.c1
  clear X1 X2 hE E2
  go_wp2_with fail
  generalize ((w1.alloc (.cells #[.string a, .string b] 102)).alloc (.cells #[.string c, .string d] 102)) = W0 at *
  generalize w1.heap.size = g at *
  go_region_held3 (fun w' => w'.cell? ⟨g, 0, none⟩ = some (.string a) ∧ w'.cell? ⟨g, 1, none⟩ = some (.string b) ∧ w'.cell? ⟨g + 1, 0, none⟩ = some (.string c) ∧ w'.cell? ⟨g + 1, 1, none⟩ = some (.string d)) (((try dsimp only); (repeat' apply And.intro) <;> assumption))
    (first
      | (go_at_call 144; (with_reducible refine (h2 _ (Ext.dr' HE)).mono ?_); rintro e w2 ⟨rfl, hE2⟩; have q0 := Ext.cellD hE2 a0; have q1 := Ext.cellD hE2 a1; have q2 := Ext.cellD hE2 b0; have q3 := Ext.cellD hE2 b1; have HE2 := Lib.hid ((Ext.dr' HE).tr hE2); clear hE2)
      | (go_at_call 144; (with_reducible refine (h3 _ HE2.out).mono ?_); rintro e w3 ⟨rfl, hE3⟩; have t0 := Ext.cellH hE3 q0; have t1 := Ext.cellH hE3 q1; have t2 := Ext.cellH hE3 q2; have t3 := Ext.cellH hE3 q3; have HE3 := Lib.hid (HE2.out.tr hE3); clear hE3))
  all_goals
    clear a0 a1 b0 b1 q0 q1 q2 q3
    go_wp2_with fail
    refine (h4 _ HE3.out).mono ?_
    rintro e w4 ⟨rfl, hE4⟩
    have v0 := Ext.cellH hE4 t0
    have v1 := Ext.cellH hE4 t1
    have v2 := Ext.cellH hE4 t2
    have v3 := Ext.cellH hE4 t3
    have HE4 := Lib.hid (HE3.out.tr hE4)
    clear hE4 t0 t1 t2 t3
    go_wp2_with fail
    refine (h5 _ HE4.out).mono ?_
    rintro e w5 ⟨rfl, hE5⟩
    have HE5 := Lib.hid (HE4.out.tr hE5)
    clear hE5
    go_wp2_with fail
    refine (h6 _ HE5.out).mono ?_
    rintro e w6 ⟨rfl, hE6⟩
    have HE6 := Lib.hid (HE5.out.tr hE6)
    clear hE6
    go_wp2_with fail
    go_ret2
    exact ⟨rfl, HE6.out⟩
/-- How two numbers compare. -/
def cmpR (x y : Rat) : Int := if x < y then -1 else if y < x then 1 else 0
theorem sgnZ_cases (z : Int) : (z < 0 ∧ sgnZ z = -1) ∨ (z = 0 ∧ sgnZ z = 0) ∨ (0 < z ∧ sgnZ z = 1) := by
  unfold sgnZ
  rcases (by omega : z < 0 ∨ z = 0 ∨ 0 < z) with h | h | h
  · left; rw [if_neg (by omega), if_pos h]; exact ⟨h, rfl⟩
  · right; left; rw [if_pos h]; exact ⟨h, rfl⟩
  · right; right; rw [if_neg (by omega), if_neg (by omega)]; exact ⟨h, rfl⟩
theorem cmpR_sub (x y : Rat) : sgnZ (x.num * y.den + -(y.num * x.den)) = cmpR x y := by
  unfold cmpR
  simp only [Rat.lt_iff]
  rcases sgnZ_cases (x.num * y.den + -(y.num * x.den)) with ⟨h, e⟩ | ⟨h, e⟩ | ⟨h, e⟩
  · rw [e, if_pos (by omega)]
  · rw [e, if_neg (by omega), if_neg (by omega)]
  · rw [e, if_neg (by omega), if_pos (by omega)]
theorem cmpR_sign (x y : Rat) (h : sgnZ x.num ≠ sgnZ y.num) : max (-1) (min (sgnZ x.num - sgnZ y.num) 1) = cmpR x y := by
  have dx : (0 : Int) < x.den := Int.natCast_pos.2 x.den_pos
  have dy : (0 : Int) < y.den := Int.natCast_pos.2 y.den_pos
  unfold cmpR
  simp only [Rat.lt_iff]
  have neg : ∀ {a b : Int}, a < 0 → 0 < b → a * b < 0 := fun ha hb => Int.mul_neg_of_neg_of_pos ha hb
  have pos : ∀ {a b : Int}, 0 < a → 0 < b → 0 < a * b := fun ha hb => Int.mul_pos ha hb
  have zer : ∀ {a b : Int}, a = 0 → a * b = 0 := fun ha => by rw [ha, Int.zero_mul]
  rcases sgnZ_cases x.num with ⟨h1, e1⟩ | ⟨h1, e1⟩ | ⟨h1, e1⟩ <;> rcases sgnZ_cases y.num with ⟨h2, e2⟩ | ⟨h2, e2⟩ | ⟨h2, e2⟩ <;> rw [e1, e2] at h ⊢
  · exact absurd rfl h
  · have := neg h1 dy; have := zer h2 (b := x.den); rw [if_pos (by omega)]; rfl
  · have := neg h1 dy; have := pos h2 dx; rw [if_pos (by omega)]; rfl
  · have := zer h1 (b := y.den); have := neg h2 dx; rw [if_neg (by omega), if_pos (by omega)]; rfl
  · exact absurd rfl h
  · have := zer h1 (b := y.den); have := pos h2 dx; rw [if_pos (by omega)]; rfl
  · have := pos h1 dy; have := neg h2 dx; rw [if_neg (by omega), if_pos (by omega)]; rfl
  · have := pos h1 dy; have := zer h2 (b := x.den); rw [if_neg (by omega), if_pos (by omega)]; rfl
  · exact absurd rfl h
theorem rtx_eq (x y : Rat) : (((⟨(rtext x).toArray⟩ : ByteArray).toList == (⟨(rtext y).toArray⟩ : ByteArray).toList)) = decide (x = y) := by
  rw [ByteArray.toList_eq, ByteArray.toList_eq]
  show (rtext x == rtext y) = _
  by_cases h : x = y
  · subst h; simp
  · rw [decide_eq_false h, beq_eq_false_iff_ne]; intro e; exact h (rtext_inj e)
theorem rCompare_q (x y : Rat) (m n : Nat) (w : World) (hW : Wd w) (hx : Bd x m) (hy : Bd y n) (hk : m + n + 1 ≤ KK) :
    Calls Tryz.prog 119 #[rtx x, rtx y] w fun e w' => e = .returned (.tuple #[.int .i64 (cmpR x y), .int .i64 0]) ∧ Ext w w' := by
  by_cases hmn : m + 1 ≤ KK ∧ n + 1 ≤ KK
  case neg => 
    exfalso
    omega
  have fx := hx.fit hmn.1
  have fy := hy.fit hmn.2
  have hb := fun W (hE : Ext w W) => rboth_q x y m n W (hW.ext hE) hx hy hmn.1 hmn.2
  have he := rtx_eq x y
  by_cases hxy : x = y
  · subst hxy
    rw [decide_eq_true rfl] at he
    have h := rCompare_e _ _ _ _ _ _ w he hb
    have e0 : cmpR x x = 0 := by unfold cmpR; rw [if_neg Rat.lt_irrefl, if_neg Rat.lt_irrefl]
    rw [e0]
    exact h
  · rw [decide_eq_false hxy] at he
    by_cases hs : sgnZ x.num = sgnZ y.num
    · have b1 := hx.fit_nd hy
      have b2 := hy.fit_nd hx
      rw [Nat.add_comm n m] at b2
      have a1 : (x.num * (y.den : Int)).natAbs = x.num.natAbs * y.den := by rw [Int.natAbs_mul]; simp
      have a2 : (y.num * (x.den : Int)).natAbs = y.num.natAbs * x.den := by rw [Int.natAbs_mul]; simp
      have p2 : 2 ^ (m + n) + 2 ^ (m + n) = 2 ^ (m + n + 1) := by rw [Nat.pow_succ]; omega
      have iy : itx (y.den : Int) = dtx y.den := by show Value.string _ = Value.string _; rw [itoa_nat]
      have ix : itx (x.den : Int) = dtx x.den := by show Value.string _ = Value.string _; rw [itoa_nat]
      have h4 : ∀ W, Ext w W → Calls Tryz.prog 145 #[itx x.num, dtx y.den] W fun e w' => e = .returned (.tuple #[itx (x.num * y.den), .int .i64 0]) ∧ Ext W w' := by
        intro W hE
        have h := Mul_z x.num (y.den : Int) W (hW.ext hE) fx.1 (by simpa using fy.2) (by simpa using Fit.of (by omega) b1)
        rwa [iy] at h
      have h5 : ∀ W, Ext w W → Calls Tryz.prog 145 #[itx y.num, dtx x.den] W fun e w' => e = .returned (.tuple #[itx (y.num * x.den), .int .i64 0]) ∧ Ext W w' := by
        intro W hE
        have h := Mul_z y.num (x.den : Int) W (hW.ext hE) fy.1 (by simpa using fx.2) (by simpa using Fit.of (by omega) b2)
        rwa [ix] at h
      have h6 : ∀ W, Ext w W → Calls Tryz.prog 146 #[itx (x.num * y.den), itx (y.num * x.den)] W fun e w' => e = .returned (.tuple #[.int .i64 (cmpR x y), .int .i64 0]) ∧ Ext W w' := by
        intro W hE
        have h := Compare_z (x.num * y.den) (y.num * x.den) W (hW.ext hE) (by rw [a1]; exact Fit.of (by omega) b1) (by rw [a2]; exact Fit.of (by omega) b2) (by rw [a1, a2]; exact Fit.of (k := m + n + 1) (by omega) (by omega))
        rwa [cmpR_sub] at h
      have hs1 : ∀ W, Ext w W → Calls Tryz.prog 144 #[FV x] W fun e w' => e = .returned (.int .i64 (sgnZ x.num)) ∧ Ext W w' := fun W _ => rsign_q x W fx.1
      have hs2 : ∀ W, Ext w W → Calls Tryz.prog 144 #[FV y] W fun e w' => e = .returned (.int .i64 (sgnZ x.num)) ∧ Ext W w' := fun W _ => by rw [hs]; exact rsign_q y W fy.1
      exact rCompare_m _ _ _ _ _ _ _ _ _ _ w he hb hs1 hs2 h4 h5 h6
    · rw [← cmpR_sign x y hs]
      have c1 := sgnZ_cases x.num
      have c2 := sgnZ_cases y.num
      exact rCompare_s _ _ _ _ _ _ _ _ w he hb (fun W _ => rsign_q x W fx.1) (fun W _ => rsign_q y W fy.1) (beq_eq_false_iff_ne.2 hs) (by omega) (by omega) (by omega) (by omega)
end Go.Proofs.YtbldlibijojbjaaGreatDoor.GB
