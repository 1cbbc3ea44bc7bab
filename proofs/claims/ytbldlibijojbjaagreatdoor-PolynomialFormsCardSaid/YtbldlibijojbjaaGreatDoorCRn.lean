import Derived.Test.YtbldlibijojbjaaGreatDoorMRl
namespace Go.Proofs.YtbldlibijojbjaaGreatDoor.GB
set_option linter.unusedVariables false
set_option linter.unusedSimpArgs false
open Go.RowKit Go.Shelf
attribute [local go_sem ↓] Go.wp_at_zero Go.wp_at_succ

theorem rboth_q (x y : Rat) (m n : Nat) (w : World) (hW : Wd w) (hx : Bd x m) (hy : Bd y n) (hm : m + 1 ≤ KK) (hn : n + 1 ≤ KK) :
    Calls Tryz.prog 129 #[rtx x, rtx y] w fun e w' => e = .returned (.tuple #[FV x, FV y, .int .i64 0]) ∧ Ext w w' :=
  rboth_ok _ _ _ _ _ _ w (fun W hE => rread_q x m W (hW.ext hE) hx hm) (fun W hE => rread_q y n W (hW.ext hE) hy hn)
set_option maxHeartbeats 4000000 in
set_option maxRecDepth 100000 in
theorem rboth_h1 (s t : ByteArray) (y : Bool) (w : World) (h1 : ∀ W, Ext w W → Calls Tryz.prog 85 #[.string s] W fun e w' => ∃ a b, e = .returned (.tuple #[.agg #[.string a, .string b], .bool false]) ∧ Ext W w') (h2 : ∀ W, Ext w W → Calls Tryz.prog 85 #[.string t] W fun e w' => ∃ c d, e = .returned (.tuple #[.agg #[.string c, .string d], .bool y]) ∧ Ext W w') :
    Calls Tryz.prog 129 #[.string s, .string t] w fun e w' => e = .returned (.tuple #[.agg #[.string ⟨#[]⟩, .string ⟨#[]⟩], .agg #[.string ⟨#[]⟩, .string ⟨#[]⟩], .int .i64 1]) ∧ Ext w w' := by
  obtain ⟨X1, X2, E⟩ := boxes2 w #[.string ⟨#[]⟩, .string ⟨#[]⟩] #[.string ⟨#[]⟩, .string ⟨#[]⟩] 102
  go_enter Tryz.func129, Tryz.ntmps129
  go_wp2_with fail
  generalize ((w.alloc (.cells #[.string ⟨#[]⟩, .string ⟨#[]⟩] 102)).alloc (.cells #[.string ⟨#[]⟩, .string ⟨#[]⟩] 102)) = W0 at *
  refine (h1 _ E).mono ?_
  rintro e w1 ⟨a, b, rfl, hE1⟩
  go_wp2_with fail
  have Y3 := Bx.new w1 #[.string a, .string b] 102
  refine (h2 _ ((E.tr hE1).al (.cells #[.string a, .string b] 102))).mono ?_
  rintro e w2 ⟨c, d, rfl, hE2⟩
  have hg1 := (X1.ext hE1).lt
  have hg2 := (X2.ext hE1).lt
  have hg3 := (Y3.ext hE2).lt
  have Z1 := (((X1.ext hE1).al (.cells #[.string a, .string b] 102)).ext hE2).al (.cells #[.string c, .string d] 102)
  have Z2 := (((X2.ext hE1).al (.cells #[.string a, .string b] 102)).ext hE2).al (.cells #[.string c, .string d] 102)
  have Z3 := (Y3.ext hE2).al (.cells #[.string c, .string d] 102)
  have Z4 := Bx.new w2 #[.string c, .string d] 102
  have E4 := ((E.tr hE1).al (.cells #[.string a, .string b] 102)).tr hE2 |>.al (.cells #[.string c, .string d] 102)
  clear X1 X2 E hE1 hE2 Y3 h1 h2
  have r0 := Z1.c0
  have r1 := Z1.c1
  have r2 := Z2.c0
  have r3 := Z2.c1
  have f0 := Z1.f 0
  have f1 := Z1.f 1
  have f2 := Z2.f 0
  have f3 := Z2.f 1
  have HZ1 := Lib.hid Z1
  have HZ2 := Lib.hid Z2
  have HE := Lib.hid E4
  clear Z1 Z2 Z3 Z4 E4 hg1 hg2 hg3
  go_wp2_with fail
  generalize w2.alloc (.cells #[.string c, .string d] 102) = W9 at *
  generalize hs0 : w.heap.size = s0 at *
  all_goals
    obtain ⟨d0, d1⟩ := set2 HZ1.out (.string ⟨#[]⟩) (.string ⟨#[]⟩)
    have HZ3 := (HZ2.out.set (p := ⟨s0, 0, none⟩) (by simp) (.string ⟨#[]⟩)).set (p := ⟨s0, 1, none⟩) (by simp) (.string ⟨#[]⟩)
    obtain ⟨d2, d3⟩ := set2 HZ3 (.string ⟨#[]⟩) (.string ⟨#[]⟩)
    have d4 : ((((W9.setCell ⟨s0, 0, none⟩ (.string ⟨#[]⟩)).setCell ⟨s0, 1, none⟩ (.string ⟨#[]⟩)).setCell ⟨s0 + 1, 0, none⟩ (.string ⟨#[]⟩)).setCell ⟨s0 + 1, 1, none⟩ (.string ⟨#[]⟩)).cell? ⟨s0, 0, none⟩ = some (.string ⟨#[]⟩) := by
      rw [World.cell?_setCell_other _ _ _ _ (by simp), World.cell?_setCell_other _ _ _ _ (by simp)]; exact d0
    have d5 : ((((W9.setCell ⟨s0, 0, none⟩ (.string ⟨#[]⟩)).setCell ⟨s0, 1, none⟩ (.string ⟨#[]⟩)).setCell ⟨s0 + 1, 0, none⟩ (.string ⟨#[]⟩)).setCell ⟨s0 + 1, 1, none⟩ (.string ⟨#[]⟩)).cell? ⟨s0, 1, none⟩ = some (.string ⟨#[]⟩) := by
      rw [World.cell?_setCell_other _ _ _ _ (by simp), World.cell?_setCell_other _ _ _ _ (by simp)]; exact d1
    have E9 : Ext w ((((W9.setCell ⟨s0, 0, none⟩ (.string ⟨#[]⟩)).setCell ⟨s0, 1, none⟩ (.string ⟨#[]⟩)).setCell ⟨s0 + 1, 0, none⟩ (.string ⟨#[]⟩)).setCell ⟨s0 + 1, 1, none⟩ (.string ⟨#[]⟩)) :=
      ext_set2 (b := s0 + 1) (ext_set2 (b := s0) HE.out (by omega) _ _) (by omega) _ _
    refine bodyPost_ret (v := .tuple #[.agg #[.string ⟨#[]⟩, .string ⟨#[]⟩], .agg #[.string ⟨#[]⟩, .string ⟨#[]⟩], .int .i64 1]) ?_ rfl ⟨rfl, E9⟩
    simp [results, Tryz.f129, go_sem, d2, d3, d4, d5]
set_option maxHeartbeats 4000000 in
set_option maxRecDepth 100000 in
theorem rboth_h2 (s t : ByteArray) (y : Bool) (w : World) (h1 : ∀ W, Ext w W → Calls Tryz.prog 85 #[.string s] W fun e w' => ∃ a b, e = .returned (.tuple #[.agg #[.string a, .string b], .bool true]) ∧ Ext W w') (h2 : ∀ W, Ext w W → Calls Tryz.prog 85 #[.string t] W fun e w' => ∃ c d, e = .returned (.tuple #[.agg #[.string c, .string d], .bool false]) ∧ Ext W w') :
    Calls Tryz.prog 129 #[.string s, .string t] w fun e w' => e = .returned (.tuple #[.agg #[.string ⟨#[]⟩, .string ⟨#[]⟩], .agg #[.string ⟨#[]⟩, .string ⟨#[]⟩], .int .i64 1]) ∧ Ext w w' := by
  obtain ⟨X1, X2, E⟩ := boxes2 w #[.string ⟨#[]⟩, .string ⟨#[]⟩] #[.string ⟨#[]⟩, .string ⟨#[]⟩] 102
  go_enter Tryz.func129, Tryz.ntmps129
  go_wp2_with fail
  generalize ((w.alloc (.cells #[.string ⟨#[]⟩, .string ⟨#[]⟩] 102)).alloc (.cells #[.string ⟨#[]⟩, .string ⟨#[]⟩] 102)) = W0 at *
  refine (h1 _ E).mono ?_
  rintro e w1 ⟨a, b, rfl, hE1⟩
  go_wp2_with fail
  have Y3 := Bx.new w1 #[.string a, .string b] 102
  refine (h2 _ ((E.tr hE1).al (.cells #[.string a, .string b] 102))).mono ?_
  rintro e w2 ⟨c, d, rfl, hE2⟩
  have hg1 := (X1.ext hE1).lt
  have hg2 := (X2.ext hE1).lt
  have hg3 := (Y3.ext hE2).lt
  have Z1 := (((X1.ext hE1).al (.cells #[.string a, .string b] 102)).ext hE2).al (.cells #[.string c, .string d] 102)
  have Z2 := (((X2.ext hE1).al (.cells #[.string a, .string b] 102)).ext hE2).al (.cells #[.string c, .string d] 102)
  have Z3 := (Y3.ext hE2).al (.cells #[.string c, .string d] 102)
  have Z4 := Bx.new w2 #[.string c, .string d] 102
  have E4 := ((E.tr hE1).al (.cells #[.string a, .string b] 102)).tr hE2 |>.al (.cells #[.string c, .string d] 102)
  clear X1 X2 E hE1 hE2 Y3 h1 h2
  have r0 := Z1.c0
  have r1 := Z1.c1
  have r2 := Z2.c0
  have r3 := Z2.c1
  have f0 := Z1.f 0
  have f1 := Z1.f 1
  have f2 := Z2.f 0
  have f3 := Z2.f 1
  have HZ1 := Lib.hid Z1
  have HZ2 := Lib.hid Z2
  have HE := Lib.hid E4
  clear Z1 Z2 Z3 Z4 E4 hg1 hg2 hg3
  go_wp2_with fail
  generalize w2.alloc (.cells #[.string c, .string d] 102) = W9 at *
  generalize hs0 : w.heap.size = s0 at *
  all_goals
    obtain ⟨d0, d1⟩ := set2 HZ1.out (.string ⟨#[]⟩) (.string ⟨#[]⟩)
    have HZ3 := (HZ2.out.set (p := ⟨s0, 0, none⟩) (by simp) (.string ⟨#[]⟩)).set (p := ⟨s0, 1, none⟩) (by simp) (.string ⟨#[]⟩)
    obtain ⟨d2, d3⟩ := set2 HZ3 (.string ⟨#[]⟩) (.string ⟨#[]⟩)
    have d4 : ((((W9.setCell ⟨s0, 0, none⟩ (.string ⟨#[]⟩)).setCell ⟨s0, 1, none⟩ (.string ⟨#[]⟩)).setCell ⟨s0 + 1, 0, none⟩ (.string ⟨#[]⟩)).setCell ⟨s0 + 1, 1, none⟩ (.string ⟨#[]⟩)).cell? ⟨s0, 0, none⟩ = some (.string ⟨#[]⟩) := by
      rw [World.cell?_setCell_other _ _ _ _ (by simp), World.cell?_setCell_other _ _ _ _ (by simp)]; exact d0
    have d5 : ((((W9.setCell ⟨s0, 0, none⟩ (.string ⟨#[]⟩)).setCell ⟨s0, 1, none⟩ (.string ⟨#[]⟩)).setCell ⟨s0 + 1, 0, none⟩ (.string ⟨#[]⟩)).setCell ⟨s0 + 1, 1, none⟩ (.string ⟨#[]⟩)).cell? ⟨s0, 1, none⟩ = some (.string ⟨#[]⟩) := by
      rw [World.cell?_setCell_other _ _ _ _ (by simp), World.cell?_setCell_other _ _ _ _ (by simp)]; exact d1
    have E9 : Ext w ((((W9.setCell ⟨s0, 0, none⟩ (.string ⟨#[]⟩)).setCell ⟨s0, 1, none⟩ (.string ⟨#[]⟩)).setCell ⟨s0 + 1, 0, none⟩ (.string ⟨#[]⟩)).setCell ⟨s0 + 1, 1, none⟩ (.string ⟨#[]⟩)) :=
      ext_set2 (b := s0 + 1) (ext_set2 (b := s0) HE.out (by omega) _ _) (by omega) _ _
    refine bodyPost_ret (v := .tuple #[.agg #[.string ⟨#[]⟩, .string ⟨#[]⟩], .agg #[.string ⟨#[]⟩, .string ⟨#[]⟩], .int .i64 1]) ?_ rfl ⟨rfl, E9⟩
    simp [results, Tryz.f129, go_sem, d2, d3, d4, d5]
theorem rboth_bad (s t : ByteArray) (w : World) (hW : Wd w) (hs : s.size ≤ 1000000) (ht : t.size ≤ 1000000) (h : (ratB s.data.toList && ratB t.data.toList) = false) :
    Calls Tryz.prog 129 #[.string s, .string t] w fun e w' => e = .returned (.tuple #[.agg #[.string ⟨#[]⟩, .string ⟨#[]⟩], .agg #[.string ⟨#[]⟩, .string ⟨#[]⟩], .int .i64 1]) ∧ Ext w w' := by
  have h1 := fun W (hE : Ext w W) => (rread_any s W (hW.ext hE) hs).mono fun e w' h => (show ∃ a b, e = .returned (.tuple #[.agg #[.string a, .string b], .bool (ratB s.data.toList)]) ∧ Ext W w' from by obtain ⟨a, b, h1, h2, _⟩ := h; exact ⟨a, b, h1, h2⟩)
  have h2 := fun W (hE : Ext w W) => (rread_any t W (hW.ext hE) ht).mono fun e w' h => (show ∃ a b, e = .returned (.tuple #[.agg #[.string a, .string b], .bool (ratB t.data.toList)]) ∧ Ext W w' from by obtain ⟨a, b, h1, h2, _⟩ := h; exact ⟨a, b, h1, h2⟩)
  cases hb : ratB s.data.toList
  · rw [hb] at h1
    exact rboth_h1 s t _ w h1 h2
  · rw [hb] at h1 h
    have hc : ratB t.data.toList = false := by simpa using h
    rw [hc] at h2
    exact rboth_h2 s t true w h1 h2
/-- The call hands back the text of a rational number, and no error. -/
def RetR (w : World) (r : Rat) (e : Ending) (w' : World) : Prop := e = .returned (.tuple #[rtx r, .int .i64 0]) ∧ Ext w w'
/-- The call hands back the empty text, and an error. -/
def RetX (w : World) (k : Int) (e : Ending) (w' : World) : Prop := e = .returned (.tuple #[.string ⟨#[]⟩, .int .i64 k]) ∧ Ext w w'
theorem ftext_b (r : Rat) (n : Nat) (w : World) (h : Bd r n) (hn : n + 1 ≤ KK) : Calls Tryz.prog 131 #[FV r] w fun e w' => e = .returned (rtx r) ∧ Ext w w' :=
  ftext_q r w (h.fit hn).1 (h.fit hn).2
theorem app_add (x y : Rat) (m n : Nat) (w : World) (hW : Wd w) (hx : Bd x m) (hy : Bd y n) (hk : m + n + 3 ≤ KK) :
    Calls Tryz.prog 86 #[.int .u8 43, rtx x, rtx y] w (RetR w (x + y)) :=
  rapply_43 _ _ _ _ _ _ _ _ _ w (fun W hE => rboth_q x y m n W (hW.ext hE) hx hy (by omega) (by omega)) (fun W hE => plus_q x y m n W (hW.ext hE) hx hy (by omega)) (fun W hE => ftext_b (x + y) _ W (hx.add hy) (by omega))
theorem app_mul (x y : Rat) (m n : Nat) (w : World) (hW : Wd w) (hx : Bd x m) (hy : Bd y n) (hk : m + n + 3 ≤ KK) :
    Calls Tryz.prog 86 #[.int .u8 42, rtx x, rtx y] w (RetR w (x * y)) :=
  rapply_42 _ _ _ _ _ _ _ _ _ w (fun W hE => rboth_q x y m n W (hW.ext hE) hx hy (by omega) (by omega)) (fun W hE => times_q x y m n W (hW.ext hE) hx hy (by omega)) (fun W hE => ftext_b (x * y) _ W (hx.mul hy) (by omega))
theorem app_sub (x y : Rat) (m n : Nat) (w : World) (hW : Wd w) (hx : Bd x m) (hy : Bd y n) (hk : m + n + 3 ≤ KK) :
    Calls Tryz.prog 86 #[.int .u8 45, rtx x, rtx y] w (RetR w (x - y)) :=
  rapply_45 _ _ _ _ _ _ _ _ _ w (fun W hE => rboth_q x y m n W (hW.ext hE) hx hy (by omega) (by omega)) (fun W hE => sub_q x y m n W (hW.ext hE) hx hy (by omega)) (fun W hE => ftext_b (x - y) _ W (hx.sub hy) (by omega))
theorem app_div (x y : Rat) (m n : Nat) (w : World) (hW : Wd w) (hx : Bd x m) (hy : Bd y n) (h0 : y ≠ 0) (hk : m + n + 3 ≤ KK) :
    Calls Tryz.prog 86 #[.int .u8 47, rtx x, rtx y] w (RetR w (x / y)) :=
  rapply_47 _ _ _ _ _ _ _ _ _ w (fun W hE => rboth_q x y m n W (hW.ext hE) hx hy (by omega) (by omega)) (by rw [itx_zero]; exact decide_eq_false (fun h => h0 (Rat.num_eq_zero.1 h))) (fun W hE => div_q x y m n W (hW.ext hE) hx hy h0 (by omega)) (fun W hE => ftext_b (x / y) _ W (hx.div hy) (by omega))
theorem app_div0 (x : Rat) (m n : Nat) (w : World) (hW : Wd w) (hx : Bd x m) (hk : m + 3 ≤ KK) :
    Calls Tryz.prog 86 #[.int .u8 47, rtx x, rtx 0] w (RetX w 16) :=
  rapply_zero _ _ _ _ _ _ w (fun W hE => rboth_q x 0 m 1 W (hW.ext hE) hx (Bd.of_int 0 1 (by decide)) (by omega) (by omega)) (by rw [itx_zero]; rfl)
theorem app_bad (s t : ByteArray) (c : Int) (w : World) (hW : Wd w) (hs : s.size ≤ 1000000) (ht : t.size ≤ 1000000) (h : (ratB s.data.toList && ratB t.data.toList) = false) :
    Calls Tryz.prog 86 #[.int .u8 c, .string s, .string t] w (RetX w 1) :=
  rapply_no _ _ _ _ _ _ c w (fun W hE => rboth_bad s t W (hW.ext hE) hs ht h)
set_option maxHeartbeats 4000000 in
set_option maxRecDepth 100000 in
theorem rAdd_g (s t r : ByteArray) (k : Int) (w : World) (h1 : ∀ W, Ext w W → Calls Tryz.prog 86 #[.int .u8 43, .string s, .string t] W fun e w' => e = .returned (.tuple #[.string r, .int .i64 k]) ∧ Ext W w') :
    Calls Tryz.prog 42 #[.string s, .string t] w fun e w' => e = .returned (.tuple #[.string r, .int .i64 k]) ∧ Ext w w' := by
  go_enter Tryz.func42, Tryz.ntmps42
  go_wp2_with fail
  refine (h1 _ (Ext.rfl' _)).mono ?_
  rintro e w1 ⟨rfl, hE⟩
  clear h1
  go_wp2_with fail
  go_ret2
  exact ⟨rfl, hE⟩
theorem rAdd_q (x y : Rat) (m n : Nat) (w : World) (hW : Wd w) (hx : Bd x m) (hy : Bd y n) (hk : m + n + 3 ≤ KK) :
    Calls Tryz.prog 42 #[rtx x, rtx y] w (RetR w (x + y)) :=
  rAdd_g _ _ _ _ w (fun W hE => app_add x y m n W (hW.ext hE) hx hy hk)
theorem rAdd_bad (s t : ByteArray) (w : World) (hW : Wd w) (hs : s.size ≤ 1000000) (ht : t.size ≤ 1000000) (h : (ratB s.data.toList && ratB t.data.toList) = false) :
    Calls Tryz.prog 42 #[.string s, .string t] w (RetX w 1) :=
  rAdd_g _ _ _ _ w (fun W hE => app_bad s t 43 W (hW.ext hE) hs ht h)
set_option maxHeartbeats 4000000 in
set_option maxRecDepth 100000 in
theorem padd_q (x y : Rat) (m n : Nat) (w : World) (hW : Wd w) (hx : Bd x m) (hy : Bd y n) (hk : m + n + 3 ≤ KK) :
    Calls Tryz.prog 69 #[rtx x, rtx y] w fun e w' => e = .returned (rtx (x + y)) ∧ Ext w w' := by
  have h1 := rAdd_q x y m n w hW hx hy hk
  generalize x + y = r at h1 ⊢
  go_enter Tryz.func69, Tryz.ntmps69
  go_wp2_with fail
  refine h1.mono ?_
  rintro e w1 ⟨rfl, hE⟩
  clear h1
  go_wp2_with fail
  go_ret
  exact ⟨rfl, hE⟩
set_option maxHeartbeats 4000000 in
set_option maxRecDepth 100000 in
theorem rMul_g (s t r : ByteArray) (k : Int) (w : World) (h1 : ∀ W, Ext w W → Calls Tryz.prog 86 #[.int .u8 42, .string s, .string t] W fun e w' => e = .returned (.tuple #[.string r, .int .i64 k]) ∧ Ext W w') :
    Calls Tryz.prog 44 #[.string s, .string t] w fun e w' => e = .returned (.tuple #[.string r, .int .i64 k]) ∧ Ext w w' := by
  go_enter Tryz.func44, Tryz.ntmps44
  go_wp2_with fail
  refine (h1 _ (Ext.rfl' _)).mono ?_
  rintro e w1 ⟨rfl, hE⟩
  clear h1
  go_wp2_with fail
  go_ret2
  exact ⟨rfl, hE⟩
theorem rMul_q (x y : Rat) (m n : Nat) (w : World) (hW : Wd w) (hx : Bd x m) (hy : Bd y n) (hk : m + n + 3 ≤ KK) :
    Calls Tryz.prog 44 #[rtx x, rtx y] w (RetR w (x * y)) :=
  rMul_g _ _ _ _ w (fun W hE => app_mul x y m n W (hW.ext hE) hx hy hk)
theorem rMul_bad (s t : ByteArray) (w : World) (hW : Wd w) (hs : s.size ≤ 1000000) (ht : t.size ≤ 1000000) (h : (ratB s.data.toList && ratB t.data.toList) = false) :
    Calls Tryz.prog 44 #[.string s, .string t] w (RetX w 1) :=
  rMul_g _ _ _ _ w (fun W hE => app_bad s t 42 W (hW.ext hE) hs ht h)
set_option maxHeartbeats 4000000 in
set_option maxRecDepth 100000 in
theorem pmul_q (x y : Rat) (m n : Nat) (w : World) (hW : Wd w) (hx : Bd x m) (hy : Bd y n) (hk : m + n + 3 ≤ KK) :
    Calls Tryz.prog 70 #[rtx x, rtx y] w fun e w' => e = .returned (rtx (x * y)) ∧ Ext w w' := by
  have h1 := rMul_q x y m n w hW hx hy hk
  generalize x * y = r at h1 ⊢
  go_enter Tryz.func70, Tryz.ntmps70
  go_wp2_with fail
  refine h1.mono ?_
  rintro e w1 ⟨rfl, hE⟩
  clear h1
  go_wp2_with fail
  go_ret
  exact ⟨rfl, hE⟩
set_option maxHeartbeats 4000000 in
set_option maxRecDepth 100000 in
theorem rSub_g (s t r : ByteArray) (k : Int) (w : World) (h1 : ∀ W, Ext w W → Calls Tryz.prog 86 #[.int .u8 45, .string s, .string t] W fun e w' => e = .returned (.tuple #[.string r, .int .i64 k]) ∧ Ext W w') :
    Calls Tryz.prog 43 #[.string s, .string t] w fun e w' => e = .returned (.tuple #[.string r, .int .i64 k]) ∧ Ext w w' := by
  go_enter Tryz.func43, Tryz.ntmps43
  go_wp2_with fail
  refine (h1 _ (Ext.rfl' _)).mono ?_
  rintro e w1 ⟨rfl, hE⟩
  clear h1
  go_wp2_with fail
  go_ret2
  exact ⟨rfl, hE⟩
theorem rSub_q (x y : Rat) (m n : Nat) (w : World) (hW : Wd w) (hx : Bd x m) (hy : Bd y n) (hk : m + n + 3 ≤ KK) :
    Calls Tryz.prog 43 #[rtx x, rtx y] w (RetR w (x - y)) :=
  rSub_g _ _ _ _ w (fun W hE => app_sub x y m n W (hW.ext hE) hx hy hk)
theorem rSub_bad (s t : ByteArray) (w : World) (hW : Wd w) (hs : s.size ≤ 1000000) (ht : t.size ≤ 1000000) (h : (ratB s.data.toList && ratB t.data.toList) = false) :
    Calls Tryz.prog 43 #[.string s, .string t] w (RetX w 1) :=
  rSub_g _ _ _ _ w (fun W hE => app_bad s t 45 W (hW.ext hE) hs ht h)
set_option maxHeartbeats 4000000 in
set_option maxRecDepth 100000 in
theorem psub_q (x y : Rat) (m n : Nat) (w : World) (hW : Wd w) (hx : Bd x m) (hy : Bd y n) (hk : m + n + 3 ≤ KK) :
    Calls Tryz.prog 95 #[rtx x, rtx y] w fun e w' => e = .returned (rtx (x - y)) ∧ Ext w w' := by
  have h1 := rSub_q x y m n w hW hx hy hk
  generalize x - y = r at h1 ⊢
  go_enter Tryz.func95, Tryz.ntmps95
  go_wp2_with fail
  refine h1.mono ?_
  rintro e w1 ⟨rfl, hE⟩
  clear h1
  go_wp2_with fail
  go_ret
  exact ⟨rfl, hE⟩
set_option maxHeartbeats 4000000 in
set_option maxRecDepth 100000 in
theorem rDiv_g (s t r : ByteArray) (k : Int) (w : World) (h1 : ∀ W, Ext w W → Calls Tryz.prog 86 #[.int .u8 47, .string s, .string t] W fun e w' => e = .returned (.tuple #[.string r, .int .i64 k]) ∧ Ext W w') :
    Calls Tryz.prog 117 #[.string s, .string t] w fun e w' => e = .returned (.tuple #[.string r, .int .i64 k]) ∧ Ext w w' := by
  go_enter Tryz.func117, Tryz.ntmps117
  go_wp2_with fail
  refine (h1 _ (Ext.rfl' _)).mono ?_
  rintro e w1 ⟨rfl, hE⟩
  clear h1
  go_wp2_with fail
  go_ret2
  exact ⟨rfl, hE⟩
theorem rDiv_q (x y : Rat) (m n : Nat) (w : World) (hW : Wd w) (hx : Bd x m) (hy : Bd y n) (h0 : y ≠ 0) (hk : m + n + 3 ≤ KK) :
    Calls Tryz.prog 117 #[rtx x, rtx y] w (RetR w (x / y)) :=
  rDiv_g _ _ _ _ w (fun W hE => app_div x y m n W (hW.ext hE) hx hy h0 hk)
theorem rDiv_bad (s t : ByteArray) (w : World) (hW : Wd w) (hs : s.size ≤ 1000000) (ht : t.size ≤ 1000000) (h : (ratB s.data.toList && ratB t.data.toList) = false) :
    Calls Tryz.prog 117 #[.string s, .string t] w (RetX w 1) :=
  rDiv_g _ _ _ _ w (fun W hE => app_bad s t 47 W (hW.ext hE) hs ht h)
set_option maxHeartbeats 4000000 in
set_option maxRecDepth 100000 in
theorem pdiv_q (x y : Rat) (m n : Nat) (w : World) (hW : Wd w) (hx : Bd x m) (hy : Bd y n) (h0 : y ≠ 0) (hk : m + n + 3 ≤ KK) :
    Calls Tryz.prog 76 #[rtx x, rtx y] w fun e w' => e = .returned (rtx (x / y)) ∧ Ext w w' := by
  have h1 := rDiv_q x y m n w hW hx hy h0 hk
  generalize x / y = r at h1 ⊢
  go_enter Tryz.func76, Tryz.ntmps76
  go_wp2_with fail
  refine h1.mono ?_
  rintro e w1 ⟨rfl, hE⟩
  clear h1
  go_wp2_with fail
  go_ret
  exact ⟨rfl, hE⟩
end Go.Proofs.YtbldlibijojbjaaGreatDoor.GB
