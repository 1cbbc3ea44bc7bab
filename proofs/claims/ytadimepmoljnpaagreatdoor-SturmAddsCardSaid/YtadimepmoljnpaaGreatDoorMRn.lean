import Derived.Test.YtadimepmoljnpaaGreatDoorMRi
import Derived.Test.YtadimepmoljnpaaGreatDoorMNum
import Derived.Lib.LazyBuf
namespace Go.Proofs.YtadimepmoljnpaaGreatDoor.GB
set_option linter.unusedVariables false
set_option linter.unusedSimpArgs false
open Go.RowKit Go.Shelf
attribute [local go_sem ↓] Go.wp_at_zero Go.wp_at_succ

theorem rboth_q (x y : Rat) (m n : Nat) (w : World) (hW : Wd w) (hx : Bd x m) (hy : Bd y n) (hm : m + 1 ≤ KK) (hn : n + 1 ≤ KK) :
    Calls Tryz.prog 74 #[rtx x, rtx y] w fun e w' => e = .returned (.tuple #[FV x, FV y, .int .i64 0]) ∧ Ext w w' :=
  rboth_ok _ _ _ _ _ _ w (fun W hE => rread_q x m W (hW.ext hE) hx hm) (fun W hE => rread_q y n W (hW.ext hE) hy hn)
set_option maxHeartbeats 4000000 in
set_option maxRecDepth 100000 in
theorem rboth_h1 (s t : ByteArray) (y : Bool) (w : World) (h1 : ∀ W, Ext w W → Calls Tryz.prog 70 #[.string s] W fun e w' => ∃ a b, e = .returned (.tuple #[.agg #[.string a, .string b], .bool false]) ∧ Ext W w') (h2 : ∀ W, Ext w W → Calls Tryz.prog 70 #[.string t] W fun e w' => ∃ c d, e = .returned (.tuple #[.agg #[.string c, .string d], .bool y]) ∧ Ext W w') :
    Calls Tryz.prog 74 #[.string s, .string t] w fun e w' => e = .returned (.tuple #[.agg #[.string ⟨#[]⟩, .string ⟨#[]⟩], .agg #[.string ⟨#[]⟩, .string ⟨#[]⟩], .int .i64 1]) ∧ Ext w w' := by
  obtain ⟨X1, X2, E⟩ := boxes2 w #[.string ⟨#[]⟩, .string ⟨#[]⟩] #[.string ⟨#[]⟩, .string ⟨#[]⟩] 108
  go_enter Tryz.func74, Tryz.ntmps74
  go_wp2_with fail
  generalize ((w.alloc (.cells #[.string ⟨#[]⟩, .string ⟨#[]⟩] 108)).alloc (.cells #[.string ⟨#[]⟩, .string ⟨#[]⟩] 108)) = W0 at *
  refine (h1 _ E).mono ?_
  rintro e w1 ⟨a, b, rfl, hE1⟩
  go_wp2_with fail
  have Y3 := Bx.new w1 #[.string a, .string b] 108
  refine (h2 _ ((E.tr hE1).al (.cells #[.string a, .string b] 108))).mono ?_
  rintro e w2 ⟨c, d, rfl, hE2⟩
  have hg1 := (X1.ext hE1).lt
  have hg2 := (X2.ext hE1).lt
  have hg3 := (Y3.ext hE2).lt
  have Z1 := (((X1.ext hE1).al (.cells #[.string a, .string b] 108)).ext hE2).al (.cells #[.string c, .string d] 108)
  have Z2 := (((X2.ext hE1).al (.cells #[.string a, .string b] 108)).ext hE2).al (.cells #[.string c, .string d] 108)
  have Z3 := (Y3.ext hE2).al (.cells #[.string c, .string d] 108)
  have Z4 := Bx.new w2 #[.string c, .string d] 108
  have E4 := ((E.tr hE1).al (.cells #[.string a, .string b] 108)).tr hE2 |>.al (.cells #[.string c, .string d] 108)
  clear X1 X2 E hE1 hE2 Y3 h1 h2
  have r0 := Z1.c0
  have r1 := Z1.c1
  have r2 := Z2.c0
  have r3 := Z2.c1
  have f0 := Z1.f 0
  have f1 := Z1.f 1
  have f2 := Z2.f 0
  have f3 := Z2.f 1
  have HZ1 := Lib.hid Z1
  have HZ2 := Lib.hid Z2
  have HE := Lib.hid E4
  clear Z1 Z2 Z3 Z4 E4 hg1 hg2 hg3
  go_wp2_with fail
  generalize w2.alloc (.cells #[.string c, .string d] 108) = W9 at *
  generalize hs0 : w.heap.size = s0 at *
  all_goals
    obtain ⟨d0, d1⟩ := set2 HZ1.out (.string ⟨#[]⟩) (.string ⟨#[]⟩)
    have HZ3 := (HZ2.out.set (p := ⟨s0, 0, none⟩) (by simp) (.string ⟨#[]⟩)).set (p := ⟨s0, 1, none⟩) (by simp) (.string ⟨#[]⟩)
    obtain ⟨d2, d3⟩ := set2 HZ3 (.string ⟨#[]⟩) (.string ⟨#[]⟩)
    have d4 : ((((W9.setCell ⟨s0, 0, none⟩ (.string ⟨#[]⟩)).setCell ⟨s0, 1, none⟩ (.string ⟨#[]⟩)).setCell ⟨s0 + 1, 0, none⟩ (.string ⟨#[]⟩)).setCell ⟨s0 + 1, 1, none⟩ (.string ⟨#[]⟩)).cell? ⟨s0, 0, none⟩ = some (.string ⟨#[]⟩) := by
      rw [World.cell?_setCell_other _ _ _ _ (by simp), World.cell?_setCell_other _ _ _ _ (by simp)]; exact d0
    have d5 : ((((W9.setCell ⟨s0, 0, none⟩ (.string ⟨#[]⟩)).setCell ⟨s0, 1, none⟩ (.string ⟨#[]⟩)).setCell ⟨s0 + 1, 0, none⟩ (.string ⟨#[]⟩)).setCell ⟨s0 + 1, 1, none⟩ (.string ⟨#[]⟩)).cell? ⟨s0, 1, none⟩ = some (.string ⟨#[]⟩) := by
      rw [World.cell?_setCell_other _ _ _ _ (by simp), World.cell?_setCell_other _ _ _ _ (by simp)]; exact d1
    have E9 : Ext w ((((W9.setCell ⟨s0, 0, none⟩ (.string ⟨#[]⟩)).setCell ⟨s0, 1, none⟩ (.string ⟨#[]⟩)).setCell ⟨s0 + 1, 0, none⟩ (.string ⟨#[]⟩)).setCell ⟨s0 + 1, 1, none⟩ (.string ⟨#[]⟩)) :=
      ext_set2 (b := s0 + 1) (ext_set2 (b := s0) HE.out (by omega) _ _) (by omega) _ _
    refine bodyPost_ret (v := .tuple #[.agg #[.string ⟨#[]⟩, .string ⟨#[]⟩], .agg #[.string ⟨#[]⟩, .string ⟨#[]⟩], .int .i64 1]) ?_ rfl ⟨rfl, E9⟩
    simp [results, Tryz.f74, go_sem, d2, d3, d4, d5]
set_option maxHeartbeats 4000000 in
set_option maxRecDepth 100000 in
theorem rboth_h2 (s t : ByteArray) (y : Bool) (w : World) (h1 : ∀ W, Ext w W → Calls Tryz.prog 70 #[.string s] W fun e w' => ∃ a b, e = .returned (.tuple #[.agg #[.string a, .string b], .bool true]) ∧ Ext W w') (h2 : ∀ W, Ext w W → Calls Tryz.prog 70 #[.string t] W fun e w' => ∃ c d, e = .returned (.tuple #[.agg #[.string c, .string d], .bool false]) ∧ Ext W w') :
    Calls Tryz.prog 74 #[.string s, .string t] w fun e w' => e = .returned (.tuple #[.agg #[.string ⟨#[]⟩, .string ⟨#[]⟩], .agg #[.string ⟨#[]⟩, .string ⟨#[]⟩], .int .i64 1]) ∧ Ext w w' := by
  obtain ⟨X1, X2, E⟩ := boxes2 w #[.string ⟨#[]⟩, .string ⟨#[]⟩] #[.string ⟨#[]⟩, .string ⟨#[]⟩] 108
  go_enter Tryz.func74, Tryz.ntmps74
  go_wp2_with fail
  generalize ((w.alloc (.cells #[.string ⟨#[]⟩, .string ⟨#[]⟩] 108)).alloc (.cells #[.string ⟨#[]⟩, .string ⟨#[]⟩] 108)) = W0 at *
  refine (h1 _ E).mono ?_
  rintro e w1 ⟨a, b, rfl, hE1⟩
  go_wp2_with fail
  have Y3 := Bx.new w1 #[.string a, .string b] 108
  refine (h2 _ ((E.tr hE1).al (.cells #[.string a, .string b] 108))).mono ?_
  rintro e w2 ⟨c, d, rfl, hE2⟩
  have hg1 := (X1.ext hE1).lt
  have hg2 := (X2.ext hE1).lt
  have hg3 := (Y3.ext hE2).lt
  have Z1 := (((X1.ext hE1).al (.cells #[.string a, .string b] 108)).ext hE2).al (.cells #[.string c, .string d] 108)
  have Z2 := (((X2.ext hE1).al (.cells #[.string a, .string b] 108)).ext hE2).al (.cells #[.string c, .string d] 108)
  have Z3 := (Y3.ext hE2).al (.cells #[.string c, .string d] 108)
  have Z4 := Bx.new w2 #[.string c, .string d] 108
  have E4 := ((E.tr hE1).al (.cells #[.string a, .string b] 108)).tr hE2 |>.al (.cells #[.string c, .string d] 108)
  clear X1 X2 E hE1 hE2 Y3 h1 h2
  have r0 := Z1.c0
  have r1 := Z1.c1
  have r2 := Z2.c0
  have r3 := Z2.c1
  have f0 := Z1.f 0
  have f1 := Z1.f 1
  have f2 := Z2.f 0
  have f3 := Z2.f 1
  have HZ1 := Lib.hid Z1
  have HZ2 := Lib.hid Z2
  have HE := Lib.hid E4
  clear Z1 Z2 Z3 Z4 E4 hg1 hg2 hg3
  go_wp2_with fail
  generalize w2.alloc (.cells #[.string c, .string d] 108) = W9 at *
  generalize hs0 : w.heap.size = s0 at *
  all_goals
    obtain ⟨d0, d1⟩ := set2 HZ1.out (.string ⟨#[]⟩) (.string ⟨#[]⟩)
    have HZ3 := (HZ2.out.set (p := ⟨s0, 0, none⟩) (by simp) (.string ⟨#[]⟩)).set (p := ⟨s0, 1, none⟩) (by simp) (.string ⟨#[]⟩)
    obtain ⟨d2, d3⟩ := set2 HZ3 (.string ⟨#[]⟩) (.string ⟨#[]⟩)
    have d4 : ((((W9.setCell ⟨s0, 0, none⟩ (.string ⟨#[]⟩)).setCell ⟨s0, 1, none⟩ (.string ⟨#[]⟩)).setCell ⟨s0 + 1, 0, none⟩ (.string ⟨#[]⟩)).setCell ⟨s0 + 1, 1, none⟩ (.string ⟨#[]⟩)).cell? ⟨s0, 0, none⟩ = some (.string ⟨#[]⟩) := by
      rw [World.cell?_setCell_other _ _ _ _ (by simp), World.cell?_setCell_other _ _ _ _ (by simp)]; exact d0
    have d5 : ((((W9.setCell ⟨s0, 0, none⟩ (.string ⟨#[]⟩)).setCell ⟨s0, 1, none⟩ (.string ⟨#[]⟩)).setCell ⟨s0 + 1, 0, none⟩ (.string ⟨#[]⟩)).setCell ⟨s0 + 1, 1, none⟩ (.string ⟨#[]⟩)).cell? ⟨s0, 1, none⟩ = some (.string ⟨#[]⟩) := by
      rw [World.cell?_setCell_other _ _ _ _ (by simp), World.cell?_setCell_other _ _ _ _ (by simp)]; exact d1
    have E9 : Ext w ((((W9.setCell ⟨s0, 0, none⟩ (.string ⟨#[]⟩)).setCell ⟨s0, 1, none⟩ (.string ⟨#[]⟩)).setCell ⟨s0 + 1, 0, none⟩ (.string ⟨#[]⟩)).setCell ⟨s0 + 1, 1, none⟩ (.string ⟨#[]⟩)) :=
      ext_set2 (b := s0 + 1) (ext_set2 (b := s0) HE.out (by omega) _ _) (by omega) _ _
    refine bodyPost_ret (v := .tuple #[.agg #[.string ⟨#[]⟩, .string ⟨#[]⟩], .agg #[.string ⟨#[]⟩, .string ⟨#[]⟩], .int .i64 1]) ?_ rfl ⟨rfl, E9⟩
    simp [results, Tryz.f74, go_sem, d2, d3, d4, d5]
theorem rboth_bad (s t : ByteArray) (w : World) (hW : Wd w) (hs : s.size ≤ 1000000) (ht : t.size ≤ 1000000) (h : (ratB s.data.toList && ratB t.data.toList) = false) :
    Calls Tryz.prog 74 #[.string s, .string t] w fun e w' => e = .returned (.tuple #[.agg #[.string ⟨#[]⟩, .string ⟨#[]⟩], .agg #[.string ⟨#[]⟩, .string ⟨#[]⟩], .int .i64 1]) ∧ Ext w w' := by
  have h1 := fun W (hE : Ext w W) => (rread_any s W (hW.ext hE) hs).mono fun e w' h => (show ∃ a b, e = .returned (.tuple #[.agg #[.string a, .string b], .bool (ratB s.data.toList)]) ∧ Ext W w' from by obtain ⟨a, b, h1, h2, _⟩ := h; exact ⟨a, b, h1, h2⟩)
  have h2 := fun W (hE : Ext w W) => (rread_any t W (hW.ext hE) ht).mono fun e w' h => (show ∃ a b, e = .returned (.tuple #[.agg #[.string a, .string b], .bool (ratB t.data.toList)]) ∧ Ext W w' from by obtain ⟨a, b, h1, h2, _⟩ := h; exact ⟨a, b, h1, h2⟩)
  cases hb : ratB s.data.toList
  · rw [hb] at h1
    exact rboth_h1 s t _ w h1 h2
  · rw [hb] at h1 h
    have hc : ratB t.data.toList = false := by simpa using h
    rw [hc] at h2
    exact rboth_h2 s t true w h1 h2
/-- The call hands back the text of a rational number, and no error. -/
def RetR (w : World) (r : Rat) (e : Ending) (w' : World) : Prop := e = .returned (.tuple #[rtx r, .int .i64 0]) ∧ Ext w w'
theorem ftext_b (r : Rat) (n : Nat) (w : World) (h : Bd r n) (hn : n + 1 ≤ KK) : Calls Tryz.prog 116 #[FV r] w fun e w' => e = .returned (rtx r) ∧ Ext w w' :=
  ftext_q r w (h.fit hn).1 (h.fit hn).2
theorem app_add (x y : Rat) (m n : Nat) (w : World) (hW : Wd w) (hx : Bd x m) (hy : Bd y n) (hk : m + n + 3 ≤ KK) :
    Calls Tryz.prog 71 #[.int .u8 43, rtx x, rtx y] w (RetR w (x + y)) :=
  rapply_43 _ _ _ _ _ _ _ _ _ w (fun W hE => rboth_q x y m n W (hW.ext hE) hx hy (by omega) (by omega)) (fun W hE => plus_q x y m n W (hW.ext hE) hx hy (by omega)) (fun W hE => ftext_b (x + y) _ W (hx.add hy) (by omega))
theorem app_mul (x y : Rat) (m n : Nat) (w : World) (hW : Wd w) (hx : Bd x m) (hy : Bd y n) (hk : m + n + 3 ≤ KK) :
    Calls Tryz.prog 71 #[.int .u8 42, rtx x, rtx y] w (RetR w (x * y)) :=
  rapply_42 _ _ _ _ _ _ _ _ _ w (fun W hE => rboth_q x y m n W (hW.ext hE) hx hy (by omega) (by omega)) (fun W hE => times_q x y m n W (hW.ext hE) hx hy (by omega)) (fun W hE => ftext_b (x * y) _ W (hx.mul hy) (by omega))
theorem app_sub (x y : Rat) (m n : Nat) (w : World) (hW : Wd w) (hx : Bd x m) (hy : Bd y n) (hk : m + n + 3 ≤ KK) :
    Calls Tryz.prog 71 #[.int .u8 45, rtx x, rtx y] w (RetR w (x - y)) :=
  rapply_45 _ _ _ _ _ _ _ _ _ w (fun W hE => rboth_q x y m n W (hW.ext hE) hx hy (by omega) (by omega)) (fun W hE => sub_q x y m n W (hW.ext hE) hx hy (by omega)) (fun W hE => ftext_b (x - y) _ W (hx.sub hy) (by omega))
theorem app_div (x y : Rat) (m n : Nat) (w : World) (hW : Wd w) (hx : Bd x m) (hy : Bd y n) (h0 : y ≠ 0) (hk : m + n + 3 ≤ KK) :
    Calls Tryz.prog 71 #[.int .u8 47, rtx x, rtx y] w (RetR w (x / y)) :=
  rapply_47 _ _ _ _ _ _ _ _ _ w (fun W hE => rboth_q x y m n W (hW.ext hE) hx hy (by omega) (by omega)) (by rw [itx_zero]; exact decide_eq_false (fun h => h0 (Rat.num_eq_zero.1 h))) (fun W hE => div_q x y m n W (hW.ext hE) hx hy h0 (by omega)) (fun W hE => ftext_b (x / y) _ W (hx.div hy) (by omega))
set_option maxHeartbeats 4000000 in
set_option maxRecDepth 100000 in
theorem rAdd_g (s t r : ByteArray) (k : Int) (w : World) (h1 : ∀ W, Ext w W → Calls Tryz.prog 71 #[.int .u8 43, .string s, .string t] W fun e w' => e = .returned (.tuple #[.string r, .int .i64 k]) ∧ Ext W w') :
    Calls Tryz.prog 38 #[.string s, .string t] w fun e w' => e = .returned (.tuple #[.string r, .int .i64 k]) ∧ Ext w w' := by
  go_enter Tryz.func38, Tryz.ntmps38
  go_wp2_with fail
  refine (h1 _ (Ext.rfl' _)).mono ?_
  rintro e w1 ⟨rfl, hE⟩
  clear h1
  go_wp2_with fail
  go_ret2
  exact ⟨rfl, hE⟩
theorem rAdd_q (x y : Rat) (m n : Nat) (w : World) (hW : Wd w) (hx : Bd x m) (hy : Bd y n) (hk : m + n + 3 ≤ KK) :
    Calls Tryz.prog 38 #[rtx x, rtx y] w (RetR w (x + y)) :=
  rAdd_g _ _ _ _ w (fun W hE => app_add x y m n W (hW.ext hE) hx hy hk)
set_option maxHeartbeats 4000000 in
set_option maxRecDepth 100000 in
theorem padd_q (x y : Rat) (m n : Nat) (w : World) (hW : Wd w) (hx : Bd x m) (hy : Bd y n) (hk : m + n + 3 ≤ KK) :
    Calls Tryz.prog 67 #[rtx x, rtx y] w fun e w' => e = .returned (rtx (x + y)) ∧ Ext w w' := by
  have h1 := rAdd_q x y m n w hW hx hy hk
  generalize x + y = r at h1 ⊢
  go_enter Tryz.func67, Tryz.ntmps67
  go_wp2_with fail
  refine h1.mono ?_
  rintro e w1 ⟨rfl, hE⟩
  clear h1
  go_wp2_with fail
  go_ret
  exact ⟨rfl, hE⟩
set_option maxHeartbeats 4000000 in
set_option maxRecDepth 100000 in
theorem rMul_g (s t r : ByteArray) (k : Int) (w : World) (h1 : ∀ W, Ext w W → Calls Tryz.prog 71 #[.int .u8 42, .string s, .string t] W fun e w' => e = .returned (.tuple #[.string r, .int .i64 k]) ∧ Ext W w') :
    Calls Tryz.prog 32 #[.string s, .string t] w fun e w' => e = .returned (.tuple #[.string r, .int .i64 k]) ∧ Ext w w' := by
  go_enter Tryz.func32, Tryz.ntmps32
  go_wp2_with fail
  refine (h1 _ (Ext.rfl' _)).mono ?_
  rintro e w1 ⟨rfl, hE⟩
  clear h1
  go_wp2_with fail
  go_ret2
  exact ⟨rfl, hE⟩
theorem rMul_q (x y : Rat) (m n : Nat) (w : World) (hW : Wd w) (hx : Bd x m) (hy : Bd y n) (hk : m + n + 3 ≤ KK) :
    Calls Tryz.prog 32 #[rtx x, rtx y] w (RetR w (x * y)) :=
  rMul_g _ _ _ _ w (fun W hE => app_mul x y m n W (hW.ext hE) hx hy hk)
set_option maxHeartbeats 4000000 in
set_option maxRecDepth 100000 in
theorem pmul_q (x y : Rat) (m n : Nat) (w : World) (hW : Wd w) (hx : Bd x m) (hy : Bd y n) (hk : m + n + 3 ≤ KK) :
    Calls Tryz.prog 68 #[rtx x, rtx y] w fun e w' => e = .returned (rtx (x * y)) ∧ Ext w w' := by
  have h1 := rMul_q x y m n w hW hx hy hk
  generalize x * y = r at h1 ⊢
  go_enter Tryz.func68, Tryz.ntmps68
  go_wp2_with fail
  refine h1.mono ?_
  rintro e w1 ⟨rfl, hE⟩
  clear h1
  go_wp2_with fail
  go_ret
  exact ⟨rfl, hE⟩
set_option maxHeartbeats 4000000 in
set_option maxRecDepth 100000 in
theorem rSub_g (s t r : ByteArray) (k : Int) (w : World) (h1 : ∀ W, Ext w W → Calls Tryz.prog 71 #[.int .u8 45, .string s, .string t] W fun e w' => e = .returned (.tuple #[.string r, .int .i64 k]) ∧ Ext W w') :
    Calls Tryz.prog 37 #[.string s, .string t] w fun e w' => e = .returned (.tuple #[.string r, .int .i64 k]) ∧ Ext w w' := by
  go_enter Tryz.func37, Tryz.ntmps37
  go_wp2_with fail
  refine (h1 _ (Ext.rfl' _)).mono ?_
  rintro e w1 ⟨rfl, hE⟩
  clear h1
  go_wp2_with fail
  go_ret2
  exact ⟨rfl, hE⟩
theorem rSub_q (x y : Rat) (m n : Nat) (w : World) (hW : Wd w) (hx : Bd x m) (hy : Bd y n) (hk : m + n + 3 ≤ KK) :
    Calls Tryz.prog 37 #[rtx x, rtx y] w (RetR w (x - y)) :=
  rSub_g _ _ _ _ w (fun W hE => app_sub x y m n W (hW.ext hE) hx hy hk)
set_option maxHeartbeats 4000000 in
set_option maxRecDepth 100000 in
theorem psub_q (x y : Rat) (m n : Nat) (w : World) (hW : Wd w) (hx : Bd x m) (hy : Bd y n) (hk : m + n + 3 ≤ KK) :
    Calls Tryz.prog 166 #[rtx x, rtx y] w fun e w' => e = .returned (rtx (x - y)) ∧ Ext w w' := by
  have h1 := rSub_q x y m n w hW hx hy hk
  generalize x - y = r at h1 ⊢
  go_enter Tryz.func166, Tryz.ntmps166
  go_wp2_with fail
  refine h1.mono ?_
  rintro e w1 ⟨rfl, hE⟩
  clear h1
  go_wp2_with fail
  go_ret
  exact ⟨rfl, hE⟩
set_option maxHeartbeats 4000000 in
set_option maxRecDepth 100000 in
theorem rDiv_g (s t r : ByteArray) (k : Int) (w : World) (h1 : ∀ W, Ext w W → Calls Tryz.prog 71 #[.int .u8 47, .string s, .string t] W fun e w' => e = .returned (.tuple #[.string r, .int .i64 k]) ∧ Ext W w') :
    Calls Tryz.prog 84 #[.string s, .string t] w fun e w' => e = .returned (.tuple #[.string r, .int .i64 k]) ∧ Ext w w' := by
  go_enter Tryz.func84, Tryz.ntmps84
  go_wp2_with fail
  refine (h1 _ (Ext.rfl' _)).mono ?_
  rintro e w1 ⟨rfl, hE⟩
  clear h1
  go_wp2_with fail
  go_ret2
  exact ⟨rfl, hE⟩
theorem rDiv_q (x y : Rat) (m n : Nat) (w : World) (hW : Wd w) (hx : Bd x m) (hy : Bd y n) (h0 : y ≠ 0) (hk : m + n + 3 ≤ KK) :
    Calls Tryz.prog 84 #[rtx x, rtx y] w (RetR w (x / y)) :=
  rDiv_g _ _ _ _ w (fun W hE => app_div x y m n W (hW.ext hE) hx hy h0 hk)
set_option maxHeartbeats 4000000 in
set_option maxRecDepth 100000 in
theorem pdiv_q (x y : Rat) (m n : Nat) (w : World) (hW : Wd w) (hx : Bd x m) (hy : Bd y n) (h0 : y ≠ 0) (hk : m + n + 3 ≤ KK) :
    Calls Tryz.prog 165 #[rtx x, rtx y] w fun e w' => e = .returned (rtx (x / y)) ∧ Ext w w' := by
  have h1 := rDiv_q x y m n w hW hx hy h0 hk
  generalize x / y = r at h1 ⊢
  go_enter Tryz.func165, Tryz.ntmps165
  go_wp2_with fail
  refine h1.mono ?_
  rintro e w1 ⟨rfl, hE⟩
  clear h1
  go_wp2_with fail
  go_ret
  exact ⟨rfl, hE⟩
end Go.Proofs.YtadimepmoljnpaaGreatDoor.GB

namespace Go.Proofs.YtadimepmoljnpaaGreatDoor.GB
set_option linter.unusedVariables false
set_option linter.unusedSimpArgs false
open Go.RowKit Go.Shelf
attribute [local go_sem ↓] Go.wp_at_zero Go.wp_at_succ

set_option maxHeartbeats 4000000 in
set_option maxRecDepth 100000 in
theorem rCompare_bad (s t : ByteArray) (w : World) (hW : Wd w) (hs : s.size ≤ 1000000) (ht : t.size ≤ 1000000) (h : (ratB s.data.toList && ratB t.data.toList) = false) :
    Calls Tryz.prog 35 #[.string s, .string t] w fun e w' => e = .returned (.tuple #[.int .i64 0, .int .i64 1]) ∧ Ext w w' := by
  have h1 := rboth_bad s t w hW hs ht h
  clear h
  go_enter Tryz.func35, Tryz.ntmps35
  go_wp2_with fail
  refine h1.mono ?_
  rintro e w1 ⟨rfl, hE⟩
  clear h1
  go_wp2_with fail
  go_ret2
  exact ⟨rfl, (hE.al _).al _⟩
set_option maxHeartbeats 4000000 in
set_option maxRecDepth 100000 in
theorem rCompare_e (s t a b c d : ByteArray) (w : World) (hst : (s.toList == t.toList) = true) (h1 : ∀ W, Ext w W → Calls Tryz.prog 74 #[.string s, .string t] W fun e w' => e = .returned (.tuple #[.agg #[.string a, .string b], .agg #[.string c, .string d], .int .i64 0]) ∧ Ext W w') :
    Calls Tryz.prog 35 #[.string s, .string t] w fun e w' => e = .returned (.tuple #[.int .i64 0, .int .i64 0]) ∧ Ext w w' := by
  go_enter Tryz.func35, Tryz.ntmps35
  go_wp2_with fail
  refine (h1 _ (Ext.rfl' _)).mono ?_
  rintro e w1 ⟨rfl, hE⟩
  clear h1
  go_wp2_with fail
  go_ret2
  exact ⟨rfl, (hE.al _).al _⟩
set_option maxHeartbeats 4000000 in
set_option maxRecDepth 100000 in
theorem rCompare_s (s t a b c d : ByteArray) (p q : Int) (w : World) (hst : (s.toList == t.toList) = false) (h1 : ∀ W, Ext w W → Calls Tryz.prog 74 #[.string s, .string t] W fun e w' => e = .returned (.tuple #[.agg #[.string a, .string b], .agg #[.string c, .string d], .int .i64 0]) ∧ Ext W w')
    (h2 : ∀ W, Ext w W → Calls Tryz.prog 75 #[.agg #[.string a, .string b]] W fun e w' => e = .returned (.int .i64 p) ∧ Ext W w') (h3 : ∀ W, Ext w W → Calls Tryz.prog 75 #[.agg #[.string c, .string d]] W fun e w' => e = .returned (.int .i64 q) ∧ Ext W w') (hpq : (p == q) = false) (hp1 : -1 ≤ p) (hp2 : p ≤ 1) (hq1 : -1 ≤ q) (hq2 : q ≤ 1) :
    Calls Tryz.prog 35 #[.string s, .string t] w fun e w' => e = .returned (.tuple #[.int .i64 (max (-1) (min (p - q) 1)), .int .i64 0]) ∧ Ext w w' := by
  go_enter Tryz.func35, Tryz.ntmps35
  go_wp2_with fail
  refine (h1 _ (Ext.rfl' _)).mono ?_
  rintro e w1 ⟨rfl, hE⟩
  clear h1
  obtain ⟨X1, X2, E2⟩ := boxes2 w1 #[.string a, .string b] #[.string c, .string d] 108
  have HE := Lib.hid (hE.tr E2)
  have a0 := X1.c0
  have a1 := X1.c1
  have b0 := X2.c0
  have b1 := X2.c1
  clear X1 X2 hE E2
  go_wp2_with fail
  generalize ((w1.alloc (.cells #[.string a, .string b] 108)).alloc (.cells #[.string c, .string d] 108)) = W0 at *
  generalize w1.heap.size = g at *
  go_region_held3 (fun w' => w'.cell? ⟨g, 0, none⟩ = some (.string a) ∧ w'.cell? ⟨g, 1, none⟩ = some (.string b) ∧ w'.cell? ⟨g + 1, 0, none⟩ = some (.string c) ∧ w'.cell? ⟨g + 1, 1, none⟩ = some (.string d)) (((try dsimp only); (repeat' apply And.intro) <;> assumption))
    (first
      | (go_at_call 75; (with_reducible refine (h2 _ (Ext.dr' HE)).mono ?_); rintro e w2 ⟨rfl, hE2⟩; have q0 := Ext.cellD hE2 a0; have q1 := Ext.cellD hE2 a1; have q2 := Ext.cellD hE2 b0; have q3 := Ext.cellD hE2 b1; have HE2 := Lib.hid ((Ext.dr' HE).tr hE2); clear hE2)
      | (go_at_call 75; (with_reducible refine (h3 _ HE2.out).mono ?_); rintro e w3 ⟨rfl, hE3⟩; have t0 := Ext.cellH hE3 q0; have t1 := Ext.cellH hE3 q1; have t2 := Ext.cellH hE3 q2; have t3 := Ext.cellH hE3 q3; have HE3 := Lib.hid (HE2.out.tr hE3); clear hE3))
  all_goals
    clear a0 a1 b0 b1 q0 q1 q2 q3
    go_wp2_with fail
    go_ret2
    exact ⟨rfl, HE3.out⟩
set_option maxHeartbeats 4000000 in
set_option maxRecDepth 100000 in
theorem rCompare_m (s t a b c d u v : ByteArray) (p r : Int) (w : World) (hst : (s.toList == t.toList) = false) (h1 : ∀ W, Ext w W → Calls Tryz.prog 74 #[.string s, .string t] W fun e w' => e = .returned (.tuple #[.agg #[.string a, .string b], .agg #[.string c, .string d], .int .i64 0]) ∧ Ext W w')
    (h2 : ∀ W, Ext w W → Calls Tryz.prog 75 #[.agg #[.string a, .string b]] W fun e w' => e = .returned (.int .i64 p) ∧ Ext W w') (h3 : ∀ W, Ext w W → Calls Tryz.prog 75 #[.agg #[.string c, .string d]] W fun e w' => e = .returned (.int .i64 p) ∧ Ext W w')
    (h4 : ∀ W, Ext w W → Calls Tryz.prog 76 #[.string a, .string d] W fun e w' => e = .returned (.tuple #[.string u, .int .i64 0]) ∧ Ext W w')
    (h5 : ∀ W, Ext w W → Calls Tryz.prog 76 #[.string c, .string b] W fun e w' => e = .returned (.tuple #[.string v, .int .i64 0]) ∧ Ext W w')
    (h6 : ∀ W, Ext w W → Calls Tryz.prog 77 #[.string u, .string v] W fun e w' => e = .returned (.tuple #[.int .i64 r, .int .i64 0]) ∧ Ext W w') :
    Calls Tryz.prog 35 #[.string s, .string t] w fun e w' => e = .returned (.tuple #[.int .i64 r, .int .i64 0]) ∧ Ext w w' := by
  go_enter Tryz.func35, Tryz.ntmps35
  go_wp2_with fail
  refine (h1 _ (Ext.rfl' _)).mono ?_
  rintro e w1 ⟨rfl, hE⟩
  clear h1
  obtain ⟨X1, X2, E2⟩ := boxes2 w1 #[.string a, .string b] #[.string c, .string d] 108
  have HE := Lib.hid (hE.tr E2)
  have a0 := X1.c0
  have a1 := X1.c1
  have b0 := X2.c0
  have b1 := X2.c1
  clear X1 X2 hE E2
  go_wp2_with fail
  generalize ((w1.alloc (.cells #[.string a, .string b] 108)).alloc (.cells #[.string c, .string d] 108)) = W0 at *
  generalize w1.heap.size = g at *
  go_region_held3 (fun w' => w'.cell? ⟨g, 0, none⟩ = some (.string a) ∧ w'.cell? ⟨g, 1, none⟩ = some (.string b) ∧ w'.cell? ⟨g + 1, 0, none⟩ = some (.string c) ∧ w'.cell? ⟨g + 1, 1, none⟩ = some (.string d)) (((try dsimp only); (repeat' apply And.intro) <;> assumption))
    (first
      | (go_at_call 75; (with_reducible refine (h2 _ (Ext.dr' HE)).mono ?_); rintro e w2 ⟨rfl, hE2⟩; have q0 := Ext.cellD hE2 a0; have q1 := Ext.cellD hE2 a1; have q2 := Ext.cellD hE2 b0; have q3 := Ext.cellD hE2 b1; have HE2 := Lib.hid ((Ext.dr' HE).tr hE2); clear hE2)
      | (go_at_call 75; (with_reducible refine (h3 _ HE2.out).mono ?_); rintro e w3 ⟨rfl, hE3⟩; have t0 := Ext.cellH hE3 q0; have t1 := Ext.cellH hE3 q1; have t2 := Ext.cellH hE3 q2; have t3 := Ext.cellH hE3 q3; have HE3 := Lib.hid (HE2.out.tr hE3); clear hE3))
  all_goals
    clear a0 a1 b0 b1 q0 q1 q2 q3
    go_wp2_with fail
    refine (h4 _ HE3.out).mono ?_
    rintro e w4 ⟨rfl, hE4⟩
    have v0 := Ext.cellH hE4 t0
    have v1 := Ext.cellH hE4 t1
    have v2 := Ext.cellH hE4 t2
    have v3 := Ext.cellH hE4 t3
    have HE4 := Lib.hid (HE3.out.tr hE4)
    clear hE4 t0 t1 t2 t3
    go_wp2_with fail
    refine (h5 _ HE4.out).mono ?_
    rintro e w5 ⟨rfl, hE5⟩
    have HE5 := Lib.hid (HE4.out.tr hE5)
    clear hE5
    go_wp2_with fail
    refine (h6 _ HE5.out).mono ?_
    rintro e w6 ⟨rfl, hE6⟩
    have HE6 := Lib.hid (HE5.out.tr hE6)
    clear hE6
    go_wp2_with fail
    go_ret2
    exact ⟨rfl, HE6.out⟩
/-- How two numbers compare. -/
def cmpR (x y : Rat) : Int := if x < y then -1 else if y < x then 1 else 0
theorem sgnZ_cases (z : Int) : (z < 0 ∧ sgnZ z = -1) ∨ (z = 0 ∧ sgnZ z = 0) ∨ (0 < z ∧ sgnZ z = 1) := by
  unfold sgnZ
  rcases (by omega : z < 0 ∨ z = 0 ∨ 0 < z) with h | h | h
  · left; rw [if_neg (by omega), if_pos h]; exact ⟨h, rfl⟩
  · right; left; rw [if_pos h]; exact ⟨h, rfl⟩
  · right; right; rw [if_neg (by omega), if_neg (by omega)]; exact ⟨h, rfl⟩
theorem cmpR_sub (x y : Rat) : sgnZ (x.num * y.den + -(y.num * x.den)) = cmpR x y := by
  unfold cmpR
  simp only [Rat.lt_iff]
  rcases sgnZ_cases (x.num * y.den + -(y.num * x.den)) with ⟨h, e⟩ | ⟨h, e⟩ | ⟨h, e⟩
  · rw [e, if_pos (by omega)]
  · rw [e, if_neg (by omega), if_neg (by omega)]
  · rw [e, if_neg (by omega), if_pos (by omega)]
theorem cmpR_sign (x y : Rat) (h : sgnZ x.num ≠ sgnZ y.num) : max (-1) (min (sgnZ x.num - sgnZ y.num) 1) = cmpR x y := by
  have dx : (0 : Int) < x.den := Int.natCast_pos.2 x.den_pos
  have dy : (0 : Int) < y.den := Int.natCast_pos.2 y.den_pos
  unfold cmpR
  simp only [Rat.lt_iff]
  have neg : ∀ {a b : Int}, a < 0 → 0 < b → a * b < 0 := fun ha hb => Int.mul_neg_of_neg_of_pos ha hb
  have pos : ∀ {a b : Int}, 0 < a → 0 < b → 0 < a * b := fun ha hb => Int.mul_pos ha hb
  have zer : ∀ {a b : Int}, a = 0 → a * b = 0 := fun ha => by rw [ha, Int.zero_mul]
  rcases sgnZ_cases x.num with ⟨h1, e1⟩ | ⟨h1, e1⟩ | ⟨h1, e1⟩ <;> rcases sgnZ_cases y.num with ⟨h2, e2⟩ | ⟨h2, e2⟩ | ⟨h2, e2⟩ <;> rw [e1, e2] at h ⊢
  · exact absurd rfl h
  · have := neg h1 dy; have := zer h2 (b := x.den); rw [if_pos (by omega)]; rfl
  · have := neg h1 dy; have := pos h2 dx; rw [if_pos (by omega)]; rfl
  · have := zer h1 (b := y.den); have := neg h2 dx; rw [if_neg (by omega), if_pos (by omega)]; rfl
  · exact absurd rfl h
  · have := zer h1 (b := y.den); have := pos h2 dx; rw [if_pos (by omega)]; rfl
  · have := pos h1 dy; have := neg h2 dx; rw [if_neg (by omega), if_pos (by omega)]; rfl
  · have := pos h1 dy; have := zer h2 (b := x.den); rw [if_neg (by omega), if_pos (by omega)]; rfl
  · exact absurd rfl h
theorem rtx_eq (x y : Rat) : (((⟨(rtext x).toArray⟩ : ByteArray).toList == (⟨(rtext y).toArray⟩ : ByteArray).toList)) = decide (x = y) := by
  rw [ByteArray.toList_eq, ByteArray.toList_eq]
  show (rtext x == rtext y) = _
  by_cases h : x = y
  · subst h; simp
  · rw [decide_eq_false h, beq_eq_false_iff_ne]; intro e; exact h (rtext_inj e)
theorem rCompare_q (x y : Rat) (m n : Nat) (w : World) (hW : Wd w) (hx : Bd x m) (hy : Bd y n) (hk : m + n + 1 ≤ KK) :
    Calls Tryz.prog 35 #[rtx x, rtx y] w fun e w' => e = .returned (.tuple #[.int .i64 (cmpR x y), .int .i64 0]) ∧ Ext w w' := by
  by_cases hmn : m + 1 ≤ KK ∧ n + 1 ≤ KK
  case neg => 
    exfalso
    omega
  have fx := hx.fit hmn.1
  have fy := hy.fit hmn.2
  have hb := fun W (hE : Ext w W) => rboth_q x y m n W (hW.ext hE) hx hy hmn.1 hmn.2
  have he := rtx_eq x y
  by_cases hxy : x = y
  · subst hxy
    rw [decide_eq_true rfl] at he
    have h := rCompare_e _ _ _ _ _ _ w he hb
    have e0 : cmpR x x = 0 := by unfold cmpR; rw [if_neg Rat.lt_irrefl, if_neg Rat.lt_irrefl]
    rw [e0]
    exact h
  · rw [decide_eq_false hxy] at he
    by_cases hs : sgnZ x.num = sgnZ y.num
    · have b1 := hx.fit_nd hy
      have b2 := hy.fit_nd hx
      rw [Nat.add_comm n m] at b2
      have a1 : (x.num * (y.den : Int)).natAbs = x.num.natAbs * y.den := by rw [Int.natAbs_mul]; simp
      have a2 : (y.num * (x.den : Int)).natAbs = y.num.natAbs * x.den := by rw [Int.natAbs_mul]; simp
      have p2 : 2 ^ (m + n) + 2 ^ (m + n) = 2 ^ (m + n + 1) := by rw [Nat.pow_succ]; omega
      have iy : itx (y.den : Int) = dtx y.den := by show Value.string _ = Value.string _; rw [itoa_nat]
      have ix : itx (x.den : Int) = dtx x.den := by show Value.string _ = Value.string _; rw [itoa_nat]
      have h4 : ∀ W, Ext w W → Calls Tryz.prog 76 #[itx x.num, dtx y.den] W fun e w' => e = .returned (.tuple #[itx (x.num * y.den), .int .i64 0]) ∧ Ext W w' := by
        intro W hE
        have h := Mul_z x.num (y.den : Int) W (hW.ext hE) fx.1 (by simpa using fy.2) (by simpa using Fit.of (by omega) b1)
        rwa [iy] at h
      have h5 : ∀ W, Ext w W → Calls Tryz.prog 76 #[itx y.num, dtx x.den] W fun e w' => e = .returned (.tuple #[itx (y.num * x.den), .int .i64 0]) ∧ Ext W w' := by
        intro W hE
        have h := Mul_z y.num (x.den : Int) W (hW.ext hE) fy.1 (by simpa using fx.2) (by simpa using Fit.of (by omega) b2)
        rwa [ix] at h
      have h6 : ∀ W, Ext w W → Calls Tryz.prog 77 #[itx (x.num * y.den), itx (y.num * x.den)] W fun e w' => e = .returned (.tuple #[.int .i64 (cmpR x y), .int .i64 0]) ∧ Ext W w' := by
        intro W hE
        have h := Compare_z (x.num * y.den) (y.num * x.den) W (hW.ext hE) (by rw [a1]; exact Fit.of (by omega) b1) (by rw [a2]; exact Fit.of (by omega) b2) (by rw [a1, a2]; exact Fit.of (k := m + n + 1) (by omega) (by omega))
        rwa [cmpR_sub] at h
      have hs1 : ∀ W, Ext w W → Calls Tryz.prog 75 #[FV x] W fun e w' => e = .returned (.int .i64 (sgnZ x.num)) ∧ Ext W w' := fun W _ => rsign_q x W fx.1
      have hs2 : ∀ W, Ext w W → Calls Tryz.prog 75 #[FV y] W fun e w' => e = .returned (.int .i64 (sgnZ x.num)) ∧ Ext W w' := fun W _ => by rw [hs]; exact rsign_q y W fy.1
      exact rCompare_m _ _ _ _ _ _ _ _ _ _ w he hb hs1 hs2 h4 h5 h6
    · rw [← cmpR_sign x y hs]
      have c1 := sgnZ_cases x.num
      have c2 := sgnZ_cases y.num
      exact rCompare_s _ _ _ _ _ _ _ _ w he hb (fun W _ => rsign_q x W fx.1) (fun W _ => rsign_q y W fy.1) (beq_eq_false_iff_ne.2 hs) (by omega) (by omega) (by omega) (by omega)
end Go.Proofs.YtadimepmoljnpaaGreatDoor.GB

namespace Go.Proofs.YtadimepmoljnpaaGreatDoor.GB
set_option linter.unusedVariables false
set_option linter.unusedSimpArgs false
open Go.RowKit Go.Shelf
attribute [local go_sem ↓] Go.wp_at_zero Go.wp_at_succ
theorem sgq_Z (z : Int) : sgq z = sgnZ z := by
  unfold sgq sgnZ
  rcases (by omega : z < 0 ∨ z = 0 ∨ 0 < z) with h | h | h
  · rw [if_pos h, if_neg (by omega), if_pos h]
  · rw [if_neg (by omega), if_neg (by omega), if_pos h]
  · rw [if_neg (by omega), if_pos h, if_neg (by omega), if_neg (by omega)]
theorem cmpR_sgq (x y : Rat) : sgq (x.num * y.den - y.num * x.den) = cmpR x y := by
  rw [sgq_Z, Int.sub_eq_add_neg]; exact cmpR_sub x y
end Go.Proofs.YtadimepmoljnpaaGreatDoor.GB

namespace Go.Proofs.YtadimepmoljnpaaGreatDoor.GB
set_option linter.unusedVariables false
set_option linter.unusedSimpArgs false
open Go.RowKit Go.Shelf
attribute [local go_sem ↓] Go.wp_at_zero Go.wp_at_succ

/-- None of the first k is one. -/
def NoneB (b : ByteArray → Bool) (l : List ByteArray) (k : Nat) : Prop := ∀ j, (h : j < l.length) → j < k → b l[j] = false
theorem NoneB.step {b : ByteArray → Bool} {l : List ByteArray} {k : Nat} (h : NoneB b l k) (hk : k < l.length) (h0 : b l[k] = false) : NoneB b l (k + 1) := by
  intro j hj hjk
  by_cases e : j = k
  · subst e; exact h0
  · exact h j hj (by omega)
theorem NoneB.all {b : ByteArray → Bool} {l : List ByteArray} {k : Nat} (h : NoneB b l k) (hk : l.length ≤ k) : l.any b = false := by
  rw [List.any_eq_false]
  intro x hx
  obtain ⟨j, hj, rfl⟩ := List.mem_iff_getElem.1 hx
  rw [h j hj (by omega)]; simp
theorem any_of {b : ByteArray → Bool} {l : List ByteArray} {k : Nat} (hk : k < l.length) (h0 : b l[k] = true) : l.any b = true := by
  rw [List.any_eq_true]
  exact ⟨l[k], List.getElem_mem _, h0⟩
/-- What IndexFunc answers. -/
def IdxA (r : Bool) (w : World) (e : Ending) (w' : World) : Prop := ∃ i : Int, e = .returned (.int .i64 i) ∧ decide (0 ≤ i) = r ∧ Ext w w'
set_option maxHeartbeats 1000000 in
set_option maxRecDepth 100000 in
theorem indexf_any (A : Option Addr) (c : Nat) (l : List ByteArray) (b : ByteArray → Bool) (w : World) (hl : l.length ≤ c) (hm : c ≤ 9223372036854775807) (hr : RdS w A l)
    (hc : ∀ j, (h : j < l.length) → ∀ W, Ext w W → Calls Tryz.prog 81 #[.string l[j]] W fun e w' => e = .returned (.bool (b l[j])) ∧ Ext W w') :
    Calls Tryz.prog 124 #[.slice A l.length c, .func (.func 81) #[] #[]] w (IdxA (l.any b) w) := by
  go_enter Tryz.func124, Tryz.ntmps124
  go_wp2_with fail
  go_loopw [8] (fun v wr => ∃ k : Nat, k ≤ l.length ∧ v = .int .i64 k ∧ Hid (NoneB b l k) ∧ Hid (Ext w wr)) (fun v _ => l.length - (intOf v).toNat)
  case atStart => exact ⟨0, Nat.zero_le _, rfl, (fun j hj h => by omega), Ext.rfl' _⟩
  case round =>
    obtain ⟨k, hk, rfl, HN, HE⟩ := hrel
    by_cases hlt : k < l.length
    · have hck := hc k hlt
      obtain ⟨q, off, rfl, hb, hcell⟩ := hr k hlt
      have hcw := HE.out.cell hcell
      cases h0 : b l[k]
      · have HN2 := Lib.hid (HN.out.step hlt h0)
        rw [h0] at hck
        clear h0
        generalize l[k] = s at *
        go_wp2_with fail
        refine (hck _ HE.out).mono ?_
        rintro e w1 ⟨rfl, hE1⟩
        have HE1 := Lib.hid (HE.out.tr hE1)
        clear hE1
        go_wp2_with fail
        go_roundw
        case rel => exact ⟨k + 1, by omega, by go_num, HN2, HE1⟩
        case measure => simp [intOf]; omega
      · have HT := Lib.hid (any_of hlt h0)
        rw [h0] at hck
        clear h0
        generalize l[k] = s at *
        go_wp2_with fail
        refine (hck _ HE.out).mono ?_
        rintro e w1 ⟨rfl, hE1⟩
        have HE1 := Lib.hid (HE.out.tr hE1)
        clear hE1
        go_wp2_with fail
        go_ret
        exact ⟨_, rfl, by rw [HT.out]; simp, HE1.out⟩
    · have HT := Lib.hid (HN.out.all (Nat.not_lt.1 hlt))
      go_wp2_with fail
      go_ret
      exact ⟨_, rfl, by rw [HT.out]; rfl, HE.out⟩
set_option maxHeartbeats 1000000 in
set_option maxRecDepth 100000 in
theorem containsf_any (A : Option Addr) (c : Nat) (l : List ByteArray) (b : ByteArray → Bool) (w : World) (hl : l.length ≤ c) (hm : c ≤ 9223372036854775807) (hr : RdS w A l)
    (hc : ∀ j, (h : j < l.length) → ∀ W, Ext w W → Calls Tryz.prog 81 #[.string l[j]] W fun e w' => e = .returned (.bool (b l[j])) ∧ Ext W w') :
    Calls Tryz.prog 80 #[.slice A l.length c, .func (.func 81) #[] #[]] w fun e w' => e = .returned (.bool (l.any b)) ∧ Ext w w' := by
  have h := indexf_any A c l b w hl hm hr hc
  clear hr hc
  generalize l.any b = r at h ⊢
  generalize l.length = n at *
  go_enter Tryz.func80, Tryz.ntmps80
  go_wp2_with fail
  refine h.mono ?_
  rintro e w1 ⟨i, rfl, hi, hE⟩
  clear h
  go_wp2_with fail
  go_ret
  exact ⟨rfl, hE⟩
set_option maxHeartbeats 1000000 in
set_option maxRecDepth 100000 in
theorem vclos (s : ByteArray) (r : Bool) (w : World) (h : Calls Tryz.prog 31 #[.string s] w fun e w' => e = .returned (.bool r) ∧ Ext w w') :
    Calls Tryz.prog 81 #[.string s] w fun e w' => e = .returned (.bool (!r)) ∧ Ext w w' := by
  cases r
  all_goals
    go_enter Tryz.func81, Tryz.ntmps81
    go_wp2_with fail
    refine h.mono ?_
    rintro e w1 ⟨rfl, hE⟩
    clear h
    go_wp2_with fail
    go_ret
    exact ⟨rfl, hE⟩
/-- Is the last text zero's? -/
def lastZ (l : List ByteArray) : Bool := match l.getLast? with | some s => isZ s | none => false
/-- Is a list of texts a polynomial's? -/
noncomputable def polB (l : List ByteArray) : Bool := decide (l.length ≤ 17) && !(lastZ l) && !(l.any fun s => !ratB s.data.toList)
set_option maxHeartbeats 1000000 in
set_option maxRecDepth 100000 in
theorem pvalid_g (A : Option Addr) (c : Nat) (l : List ByteArray) (b : ByteArray → Bool) (w : World) (hl : l.length ≤ c) (hm : c ≤ 9223372036854775807) (hr : RdS w A l)
    (hc : l.length ≤ 17 → ∀ j, (h : j < l.length) → ∀ W, Ext w W → Calls Tryz.prog 81 #[.string l[j]] W fun e w' => e = .returned (.bool (b l[j])) ∧ Ext W w') :
    Calls Tryz.prog 43 #[.slice A l.length c] w fun e w' => e = .returned (.bool (decide (l.length ≤ 17) && !(lastZ l) && !(l.any b))) ∧ Ext w w' := by
  by_cases h17 : 17 < l.length
  · have e1 : decide (l.length ≤ 17) = false := decide_eq_false (by omega)
    rw [e1]
    clear hc hr e1
    generalize l.length = n at *
    go_enter Tryz.func43, Tryz.ntmps43
    go_wp2_with fail
    go_ret
    exact ⟨rfl, Ext.rfl' _⟩
  · have e1 : decide (l.length ≤ 17) = true := decide_eq_true (by omega)
    rw [e1]
    have h := containsf_any A c l b w hl hm hr (hc (by omega))
    clear hc e1
    generalize l.any b = r at h ⊢
    rcases Nat.eq_zero_or_pos l.length with h0 | h0
    · have hn : l = [] := List.eq_nil_of_length_eq_zero h0
      subst hn
      clear hr h0
      simp only [List.length_nil] at *
      go_enter Tryz.func43, Tryz.ntmps43
      go_wp2_with fail
      refine h.mono ?_
      rintro e w1 ⟨rfl, hE⟩
      clear h
      go_wp2_with fail
      go_ret
      exact ⟨rfl, hE⟩
    · obtain ⟨k, hk⟩ : ∃ k, l.length = k + 1 := ⟨l.length - 1, by omega⟩
      obtain ⟨q, off, rfl, hb, hcell⟩ := hr k (by omega)
      have hlast : l.getLast? = some (l[k]'(by omega)) := by
        have e : l.length - 1 = k := by omega
        rw [List.getLast?_eq_getElem?, e]
        exact List.getElem?_eq_getElem _
      have hlz : lastZ l = isZ (l[k]'(by omega)) := by unfold lastZ; rw [hlast]
      rw [hlz]
      clear hlz
      generalize l[k]'(by omega) = s at *
      rw [hk] at h hl ⊢
      clear hr hlast
      cases hz : isZ s
      · have hz1 := isZ_sp _ _ hz
        clear hz
        have hk17 : ¬ (17 < k + 1) := by omega
        clear h17 hk h0
        go_enter Tryz.func43, Tryz.ntmps43
        go_wp2_with fail
        refine h.mono ?_
        rintro e w1 ⟨rfl, hE⟩
        clear h
        go_wp2_with fail
        go_ret
        exact ⟨rfl, hE⟩
      · have hz1 := isZ_sp _ _ hz
        clear hz
        have hk17 : ¬ (17 < k + 1) := by omega
        clear h17 hk h0
        go_enter Tryz.func43, Tryz.ntmps43
        go_wp2_with fail
        go_ret
        exact ⟨rfl, Ext.rfl' _⟩
end Go.Proofs.YtadimepmoljnpaaGreatDoor.GB

namespace Go.Proofs.YtadimepmoljnpaaGreatDoor.GB
set_option linter.unusedVariables false
set_option linter.unusedSimpArgs false
open Go.RowKit Go.Shelf
attribute [local go_sem ↓] Go.wp_at_zero Go.wp_at_succ

theorem Tryz.infoRat : (Tryz.prog.info? 24).map (fun i => (i.zero, i.size, i.bytes)) = some (some (.string ⟨#[]⟩), 1, 16) := by kernel_rfl
theorem strs_one (l : List ByteArray) : ∀ u ∈ strs l, u.oneCell' = true := by
  intro u hu
  obtain ⟨_, _, rfl⟩ := List.mem_map.1 hu
  rfl
/-- The cells behind an address. -/
theorem RdS.cells {w : World} {ad : Addr} {l : List ByteArray} (h : RdS w (some ad) l) : ∀ j u, (strs l)[j]? = some u → w.cell? (ad.add j) = some u := by
  intro j u hu
  obtain ⟨hj, rfl⟩ := List.getElem?_eq_some_iff.1 hu
  have hj' : j < l.length := by simpa [strs] using hj
  obtain ⟨b, off, e, h1, h2⟩ := h j hj'
  cases e
  simp only [Addr.add, strs, List.getElem_map]
  by_cases h0 : j = 0
  · subst h0; simpa using h2
  · rw [if_neg h0]; exact h2
theorem own_grow {w wr w2 : World} {v v' : Value} {l : List ByteArray} {o : Obj} {news : List ByteArray} (HO : OwnS wr w.heap.size v l) (HE : Ext w wr)
    (hown : w2.ownsRow w.heap.size 24 1 v' (l.length + news.length) (strs l ++ strs news)) (hgrow : (wr.alloc o).grownBy w2 v.ownBlock) : OwnS w2 w.heap.size v' (l ++ news) ∧ Ext w w2 := by
  refine ⟨?_, (HE.al o).gr hgrow ?_⟩
  · unfold OwnS
    rw [strs_append, List.length_append]
    exact hown
  · intro k hk
    rcases HO.2 with ⟨rfl, _⟩ | ⟨g, cap, cur, rfl, hb, _⟩
    · simp [Value.ownBlock] at hk
    · have : g = k := by simpa [Value.ownBlock] using hk
      omega
set_option maxHeartbeats 1000000 in
set_option maxRecDepth 100000 in
theorem clone49_nil (c : Nat) (w : World) :
    Calls Tryz.prog 164 #[.slice none 0 c] w fun e w' => e = .returned (.slice none 0 0) ∧ w = w' := by
  have hnil := fun W => Go.run_eql_slice_nil (P := Tryz.prog) W 115 24 none 0 c Tryz.underlying115
  go_enter Tryz.func164, Tryz.ntmps164
  go_wp2_with fail
  go_ret
  exact ⟨rfl, rfl⟩
set_option maxHeartbeats 1000000 in
set_option maxRecDepth 100000 in
theorem clone49_some (ad : Addr) (c : Nat) (l : List ByteArray) (w : World) (hm : l.length ≤ 1000000) (hr : RdS w (some ad) l) :
    Calls Tryz.prog 164 #[.slice (some ad) l.length c] w fun e w' => ∃ v, e = .returned v ∧ OwnS w' w.heap.size v l ∧ Ext w w' := by
  obtain ⟨i0, hi, hz0, hz1, hz2⟩ := info_parts Tryz.infoRat
  have hnil := fun W => Go.run_eql_slice_nil (P := Tryz.prog) W 115 24 (some ad) l.length c Tryz.underlying115
  have hmax : 0 + l.length ≤ maxLen := by unfold maxLen; omega
  have hbig : (0 + l.length) * 16 ≤ 140737488355328 := by omega
  have HO : OwnS (w.alloc (.cells #[] 24)) w.heap.size (.slice (some ⟨w.heap.size, 0, none⟩) 0 0) [] :=
    ⟨rfl, .inr ⟨w.heap.size, 0, #[], rfl, Nat.le_refl _, World.alloc_heap_new w _, Nat.le_refl _, by simp [maxLen], rfl, rfl⟩⟩
  have HE : Ext w (w.alloc (.cells #[] 24)) := (Ext.rfl' w).al _
  have hsrc := (hr.ext HE).cells
  have h1 := strs_one l
  have hlen : (strs l).length = l.length * 1 := by rw [strs_length, Nat.mul_one]
  clear hr
  go_enter Tryz.func164, Tryz.ntmps164
  go_wp2_with (at_builtin; (refine wpList_append_own _ rfl _ _ 115 rfl w.heap.size 24 i0 (.string ⟨#[]⟩) 1 16 Tryz.underlying115 hi hz0 hz1 hz2 rfl (by decide) _ 0 [] rfl HO ad l.length c (strs l) rfl hlen hsrc h1 hmax hbig (by simp) ?_); intro v' w2 hown2 hgrow2 _)
  go_ret
  refine ⟨_, rfl, ?_, HE.gr hgrow2 (fun k hk => by have h9 : w.heap.size = k := Option.some.inj hk; omega)⟩
  unfold OwnS
  simpa using hown2
theorem clone49_v (v : Value) (l : List ByteArray) (w : World) (h : SlS w v l) (hm : l.length ≤ 1000000) :
    Calls Tryz.prog 164 #[v] w fun e w' => ∃ v', e = .returned v' ∧ OwnS w' w.heap.size v' l ∧ Ext w w' := by
  obtain ⟨A, c, rfl, h1, h2, h3⟩ := h
  cases A with
  | none =>
    cases l with
    | nil => exact (clone49_nil c w).mono fun e w' ⟨he, hw⟩ => ⟨_, he, ⟨rfl, .inl ⟨rfl, rfl⟩⟩, hw ▸ Ext.rfl' _⟩
    | cons a l => obtain ⟨b, off, e, _⟩ := h3 0 (by simp); cases e
  | some ad => exact clone49_some ad c l w hm h3
end Go.Proofs.YtadimepmoljnpaaGreatDoor.GB

namespace Go.Proofs.YtadimepmoljnpaaGreatDoor.GB
set_option linter.unusedVariables false
set_option linter.unusedSimpArgs false

abbrev Pl := List Rat
def cf (p : Pl) (i : Nat) : Rat := p.getD i 0
def PE (p q : Pl) : Prop := ∀ i, cf p i = cf q i
theorem PE.rfl' (p : Pl) : PE p p := fun _ => rfl
theorem PE.symm {p q : Pl} (h : PE p q) : PE q p := fun i => (h i).symm
theorem PE.trans {p q r : Pl} (h : PE p q) (k : PE q r) : PE p r := fun i => (h i).trans (k i)
@[simp] theorem cf_nil (i : Nat) : cf [] i = 0 := by simp [cf]
@[simp] theorem cf_zero (x : Rat) (p : Pl) : cf (x :: p) 0 = x := by simp [cf]
@[simp] theorem cf_succ (x : Rat) (p : Pl) (i : Nat) : cf (x :: p) (i + 1) = cf p i := by simp [cf]
theorem cf_lt {p : Pl} {i : Nat} (h : i < p.length) : cf p i = p[i] := by simp [cf, h]
theorem cf_ge {p : Pl} {i : Nat} (h : p.length ≤ i) : cf p i = 0 := by simp [cf, h]
theorem PE.cons {x : Rat} {p q : Pl} (h : PE p q) : PE (x :: p) (x :: q) := fun i => by cases i <;> simp [h _]
theorem PE.tail {x y : Rat} {p q : Pl} (h : PE (x :: p) (y :: q)) : x = y ∧ PE p q := ⟨by simpa using h 0, fun i => by simpa using h (i + 1)⟩

/-! ### Without zeros at the end -/
def ptrim : Pl → Pl
  | [] => []
  | x :: p => match ptrim p with
    | [] => if x = 0 then [] else [x]
    | q => x :: q
def Tr (p : Pl) : Prop := p.getLast? ≠ some 0
theorem cf_ptrim (p : Pl) : PE (ptrim p) p := by
  induction p with
  | nil => exact PE.rfl' _
  | cons x p ih =>
    rw [ptrim]
    split
    · rename_i h
      rw [h] at ih
      split
      · rename_i h0; subst h0
        intro i; cases i with
        | zero => simp
        | succ i => have := ih i; simpa using this
      · exact PE.cons ih
    · exact PE.cons ih
theorem tr_nil : Tr [] := by simp [Tr]
theorem tr_cons {x : Rat} {p : Pl} (h : Tr (x :: p)) : Tr p := by
  unfold Tr at *; cases p with
  | nil => simp
  | cons y p => rwa [List.getLast?_cons_cons] at h
theorem tr_ptrim (p : Pl) : Tr (ptrim p) := by
  induction p with
  | nil => exact tr_nil
  | cons x p ih =>
    rw [ptrim]
    split
    · split
      · exact tr_nil
      · rename_i h; simp [Tr]; exact h
    · rename_i q hq
      cases hp : ptrim p with
      | nil => exact absurd hp hq
      | cons y q => unfold Tr; rw [List.getLast?_cons_cons, ← hp]; exact ih
theorem tr_zero {p : Pl} (h : Tr p) (h0 : PE p []) : p = [] := by
  induction p with
  | nil => rfl
  | cons x p ih =>
    have h1 := ih (tr_cons h) (fun i => by have := h0 (i + 1); simpa using this)
    subst h1
    have : x = 0 := by simpa using h0 0
    subst this; simp [Tr] at h
theorem tr_ext {p q : Pl} (hp : Tr p) (hq : Tr q) (h : PE p q) : p = q := by
  induction p generalizing q with
  | nil => exact (tr_zero hq h.symm).symm
  | cons x p ih =>
    cases q with
    | nil => exact tr_zero hp h
    | cons y q =>
      obtain ⟨rfl, h2⟩ := h.tail
      rw [ih (tr_cons hp) (tr_cons hq) h2]
theorem ptrim_tr {p : Pl} (h : Tr p) : ptrim p = p := tr_ext (tr_ptrim p) h (cf_ptrim p)
theorem ptrim_eq {p q : Pl} (h : PE p q) : ptrim p = ptrim q := tr_ext (tr_ptrim p) (tr_ptrim q) ((cf_ptrim p).trans (h.trans (cf_ptrim q).symm))
theorem ptrim_len (p : Pl) : (ptrim p).length ≤ p.length := by
  induction p with
  | nil => simp [ptrim]
  | cons x p ih =>
    rw [ptrim]; split
    · split <;> simp
    · simp; exact ih
theorem tr_len {p : Pl} (h : Tr p) (n : Nat) (hz : ∀ i, n ≤ i → cf p i = 0) : p.length ≤ n := by
  rcases Nat.lt_or_ge n p.length with hlt | hge
  · exfalso
    have hne : p ≠ [] := by intro e; subst e; simp at hlt
    have h1 := hz (p.length - 1) (by omega)
    rw [cf_lt (by omega)] at h1
    apply h
    rw [List.getLast?_eq_getElem?, List.getElem?_eq_getElem (by omega), h1]
  · exact hge
theorem tr_lead {p : Pl} (h : Tr p) (hne : p ≠ []) : cf p (p.length - 1) ≠ 0 := by
  have := List.length_pos_iff.2 hne
  intro h0
  have := tr_len h (p.length - 1) (fun i hi => by
    rcases Nat.eq_or_lt_of_le hi with e | e
    · rw [← e]; exact h0
    · exact cf_ge (by omega))
  omega

/-! ### Sums and products -/
def padd : Pl → Pl → Pl
  | [], b => b
  | a, [] => a
  | x :: a, y :: b => (x + y) :: padd a b
theorem cf_padd (a b : Pl) (i : Nat) : cf (padd a b) i = cf a i + cf b i := by
  induction a generalizing b i with
  | nil => cases b <;> simp [padd] <;> grind
  | cons x a ih =>
    cases b with
    | nil => simp [padd]; grind
    | cons y b => cases i <;> simp [padd, ih]
def psc (c : Rat) (p : Pl) : Pl := p.map (c * ·)
theorem cf_psc (c : Rat) (p : Pl) (i : Nat) : cf (psc c p) i = c * cf p i := by
  induction p generalizing i with
  | nil => simp [psc]
  | cons x p ih =>
    cases i with
    | zero => simp [psc]
    | succ i => have := ih i; simp [psc] at this ⊢; exact this
def pneg (p : Pl) : Pl := psc (-1) p
def pmul : Pl → Pl → Pl
  | [], _ => []
  | x :: a, b => padd (psc x b) (0 :: pmul a b)
theorem cf_pmul_zero (x : Rat) (a b : Pl) : cf (pmul (x :: a) b) 0 = x * cf b 0 := by rw [pmul, cf_padd, cf_psc]; simp; grind
theorem cf_pmul_succ (x : Rat) (a b : Pl) (i : Nat) : cf (pmul (x :: a) b) (i + 1) = x * cf b (i + 1) + cf (pmul a b) i := by rw [pmul, cf_padd, cf_psc]; simp
def pev : Pl → Rat → Rat
  | [], _ => 0
  | x :: a, t => x + t * pev a t
theorem pev_nilE {p : Pl} (h : PE p []) (t : Rat) : pev p t = 0 := by
  induction p with
  | nil => rfl
  | cons x p ih =>
    have h0 : x = 0 := by simpa using h 0
    rw [pev, ih (fun i => by have := h (i + 1); simpa using this), h0]; grind
theorem pev_PE {p q : Pl} (h : PE p q) (t : Rat) : pev p t = pev q t := by
  induction p generalizing q with
  | nil => exact (pev_nilE h.symm t).symm
  | cons x p ih =>
    cases q with
    | nil => exact pev_nilE h t
    | cons y q => obtain ⟨rfl, h2⟩ := h.tail; rw [pev, pev, ih h2]
theorem pev_padd (a b : Pl) (t : Rat) : pev (padd a b) t = pev a t + pev b t := by
  induction a generalizing b with
  | nil => simp [padd, pev]; grind
  | cons x a ih =>
    cases b with
    | nil => simp [padd, pev]; grind
    | cons y b => simp [padd, pev, ih]; grind
theorem pev_psc (c : Rat) (p : Pl) (t : Rat) : pev (psc c p) t = c * pev p t := by
  induction p with
  | nil => simp [psc, pev]
  | cons x p ih => simp only [psc, List.map_cons, pev] at ih ⊢; rw [ih]; grind
theorem pev_pmul (a b : Pl) (t : Rat) : pev (pmul a b) t = pev a t * pev b t := by
  induction a with
  | nil => simp [pmul, pev]
  | cons x a ih => rw [pmul, pev_padd, pev_psc, pev, pev, ih]; grind

theorem PE.add {a b c d : Pl} (h : PE a c) (k : PE b d) : PE (padd a b) (padd c d) := fun i => by rw [cf_padd, cf_padd, h, k]
theorem PE.sc {a b : Pl} (c : Rat) (h : PE a b) : PE (psc c a) (psc c b) := fun i => by rw [cf_psc, cf_psc, h]
theorem pmul_zero_l {a : Pl} (h : PE a []) (b : Pl) : PE (pmul a b) [] := by
  induction a with
  | nil => exact PE.rfl' _
  | cons x a ih =>
    have h0 : x = 0 := by simpa using h 0
    have h1 := ih (fun i => by have := h (i + 1); simpa using this)
    intro i; cases i with
    | zero => rw [cf_pmul_zero, h0]; simp
    | succ i => rw [cf_pmul_succ, h0, h1 i]; simp; grind
theorem PE.mul_l {a c : Pl} (h : PE a c) (b : Pl) : PE (pmul a b) (pmul c b) := by
  induction a generalizing c with
  | nil => exact (pmul_zero_l h.symm b).symm
  | cons x a ih =>
    cases c with
    | nil => exact pmul_zero_l h b
    | cons y c =>
      obtain ⟨rfl, h2⟩ := h.tail
      intro i; cases i with
      | zero => rw [cf_pmul_zero, cf_pmul_zero]
      | succ i => rw [cf_pmul_succ, cf_pmul_succ, ih h2 i]
theorem PE.mul_r (a : Pl) {b d : Pl} (h : PE b d) : PE (pmul a b) (pmul a d) := by
  induction a with
  | nil => exact PE.rfl' _
  | cons x a ih =>
    intro i; cases i with
    | zero => rw [cf_pmul_zero, cf_pmul_zero, h]
    | succ i => rw [cf_pmul_succ, cf_pmul_succ, h, ih i]
theorem pmul_nil_r (a : Pl) : PE (pmul a []) [] := by
  induction a with
  | nil => exact PE.rfl' _
  | cons x a ih =>
    intro i; cases i with
    | zero => rw [cf_pmul_zero]; simp
    | succ i => rw [cf_pmul_succ, ih i]; simp; grind
theorem pmul_cons_r (a : Pl) (y : Rat) (b : Pl) : PE (pmul a (y :: b)) (padd (psc y a) (0 :: pmul a b)) := by
  induction a with
  | nil => intro i; simp [pmul, psc, padd]; cases i <;> simp
  | cons x a ih =>
    intro i; cases i with
    | zero => rw [cf_pmul_zero, cf_padd, cf_psc]; simp; grind
    | succ i =>
      rw [cf_pmul_succ, cf_padd, cf_psc, ih i, cf_padd, cf_psc]
      simp
      cases i with
      | zero => rw [cf_pmul_zero]; simp; grind
      | succ i => rw [cf_pmul_succ]; simp; grind
theorem pmul_comm (a b : Pl) : PE (pmul a b) (pmul b a) := by
  induction a with
  | nil => exact (pmul_nil_r b).symm
  | cons x a ih =>
    intro i
    rw [pmul_cons_r b x a i, pmul, cf_padd, cf_padd]
    cases i with
    | zero => simp
    | succ i => simp [ih i]
theorem pmul_add_l (a b c : Pl) : PE (pmul (padd a b) c) (padd (pmul a c) (pmul b c)) := by
  induction a generalizing b with
  | nil => intro i; simp [padd, pmul]
  | cons x a ih =>
    cases b with
    | nil => intro i; rw [cf_padd]; simp [padd, pmul]; grind
    | cons y b =>
      intro i
      rw [cf_padd, padd]
      cases i with
      | zero => rw [cf_pmul_zero, cf_pmul_zero, cf_pmul_zero]; grind
      | succ i => rw [cf_pmul_succ, cf_pmul_succ, cf_pmul_succ, ih b i, cf_padd]; grind
theorem pmul_add_r (a b c : Pl) : PE (pmul a (padd b c)) (padd (pmul a b) (pmul a c)) :=
  (pmul_comm _ _).trans ((pmul_add_l b c a).trans ((pmul_comm b a).add (pmul_comm c a)))
theorem pmul_sc_l (k : Rat) (a b : Pl) : PE (pmul (psc k a) b) (psc k (pmul a b)) := by
  induction a with
  | nil => exact PE.rfl' _
  | cons x a ih =>
    intro i
    have e : psc k (x :: a) = (k * x) :: psc k a := rfl
    rw [cf_psc, e]
    cases i with
    | zero => rw [cf_pmul_zero, cf_pmul_zero]; grind
    | succ i => rw [cf_pmul_succ, cf_pmul_succ, ih i, cf_psc]; grind
theorem pmul_sc_r (k : Rat) (a b : Pl) : PE (pmul a (psc k b)) (psc k (pmul a b)) :=
  (pmul_comm _ _).trans ((pmul_sc_l k b a).trans (PE.sc k (pmul_comm b a)))
theorem pmul_shift_l (a b : Pl) : PE (pmul (0 :: a) b) (0 :: pmul a b) := by
  intro i; cases i with
  | zero => rw [cf_pmul_zero]; simp
  | succ i => rw [cf_pmul_succ]; simp; grind
theorem pmul_assoc (a b c : Pl) : PE (pmul (pmul a b) c) (pmul a (pmul b c)) := by
  induction a with
  | nil => exact PE.rfl' _
  | cons x a ih =>
    rw [pmul, pmul]
    refine (pmul_add_l _ _ c).trans (PE.add (pmul_sc_l x b c) ?_)
    exact (pmul_shift_l _ c).trans (PE.cons ih)
end Go.Proofs.YtadimepmoljnpaaGreatDoor.GB

namespace Go.Proofs.YtadimepmoljnpaaGreatDoor.GB
set_option linter.unusedVariables false
set_option linter.unusedSimpArgs false

theorem cf_pmul_high (a b : Pl) (i : Nat) (h : a.length + b.length ≤ i + 1) : cf (pmul a b) i = 0 := by
  induction a generalizing i with
  | nil => simp [pmul]
  | cons x a ih =>
    simp only [List.length_cons] at h
    cases i with
    | zero =>
      rw [cf_pmul_zero, cf_ge (by omega)]; grind
    | succ i =>
      rw [cf_pmul_succ, cf_ge (by omega), ih i (by omega)]; grind
theorem cf_pmul_top (a b : Pl) (m n : Nat) (ha : a.length = m + 1) (hb : b.length = n + 1) : cf (pmul a b) (m + n) = cf a m * cf b n := by
  induction a generalizing m with
  | nil => simp at ha
  | cons x a ih =>
    cases m with
    | zero =>
      have : a = [] := List.length_eq_zero_iff.1 (by simpa using ha)
      subst this
      rw [Nat.zero_add, cf_zero]
      cases n with
      | zero => rw [cf_pmul_zero]
      | succ n => rw [cf_pmul_succ]; simp [pmul]; grind
    | succ m =>
      simp only [List.length_cons] at ha
      rw [show m + 1 + n = (m + n) + 1 by omega, cf_pmul_succ, ih m (by omega), cf_ge (by omega), cf_succ]; grind
def lead (p : Pl) : Rat := cf p (p.length - 1)
theorem lead_ne {p : Pl} (h : Tr p) (hne : p ≠ []) : lead p ≠ 0 := tr_lead h hne
/-- The product of trimmed polynomials. -/
theorem pmul_tr {a b : Pl} (ha : Tr a) (hb : Tr b) (h1 : a ≠ []) (h2 : b ≠ []) : (ptrim (pmul a b)).length = a.length + b.length - 1 ∧ lead (ptrim (pmul a b)) = lead a * lead b := by
  have l1 := List.length_pos_iff.2 h1
  have l2 := List.length_pos_iff.2 h2
  have ht := cf_pmul_top a b (a.length - 1) (b.length - 1) (by omega) (by omega)
  have hne : cf a (a.length - 1) * cf b (b.length - 1) ≠ 0 := by
    have e1 := lead_ne ha h1; have e2 := lead_ne hb h2
    unfold lead at e1 e2
    intro h0
    rcases Rat.mul_eq_zero.1 h0 with h | h
    · exact e1 h
    · exact e2 h
  have hle : (ptrim (pmul a b)).length ≤ a.length + b.length - 1 := tr_len (tr_ptrim _) _ (fun i hi => by rw [cf_ptrim]; exact cf_pmul_high a b i (by omega))
  have hge : a.length - 1 + (b.length - 1) < (ptrim (pmul a b)).length := by
    rcases Nat.lt_or_ge (a.length - 1 + (b.length - 1)) (ptrim (pmul a b)).length with h | h
    · exact h
    · have := cf_ge h; rw [cf_ptrim, ht] at this; exact absurd this hne
  have e : (ptrim (pmul a b)).length = a.length + b.length - 1 := by omega
  refine ⟨e, ?_⟩
  unfold lead
  rw [e, cf_ptrim, show a.length + b.length - 1 - 1 = a.length - 1 + (b.length - 1) by omega, ht]
theorem pmul_ne {a b : Pl} (ha : Tr a) (hb : Tr b) (h1 : a ≠ []) (h2 : b ≠ []) : ¬ PE (pmul a b) [] := by
  intro h
  have := (pmul_tr ha hb h1 h2).1
  rw [ptrim_eq h] at this
  have l1 := List.length_pos_iff.2 h1
  have l2 := List.length_pos_iff.2 h2
  simp [ptrim] at this
  omega

/-! ### Division -/
structure DivRel (p r q t : Pl) : Prop where
  trq : Tr q
  trt : Tr t
  lt : t.length < r.length
  eq : PE p (padd (pmul q r) t)
theorem cf_pneg (p : Pl) (i : Nat) : cf (pneg p) i = - cf p i := by unfold pneg; rw [cf_psc]; grind
theorem DivRel.uniq {p r q t q' t' : Pl} (hr : Tr r) (h : DivRel p r q t) (k : DivRel p r q' t') : q = q' ∧ t = t' := by
  have hrn : r ≠ [] := by intro e; have := h.lt; rw [e] at this; simp at this
  -- (q - q') r = t' - t
  have e1 : PE (pmul (padd q (pneg q')) r) (padd t' (pneg t)) := by
    intro i
    have h1 := h.eq i; have h2 := k.eq i
    rw [cf_padd] at h1 h2
    have h3 := pmul_add_l q (pneg q') r i
    rw [cf_padd] at h3
    have h4 := pmul_sc_l (-1) q' r i
    rw [cf_psc] at h4
    rw [h3, cf_padd, cf_pneg]
    have h5 : cf (pmul (pneg q') r) i = -1 * cf (pmul q' r) i := h4
    rw [h5]; grind
  have hq : q = q' := by
    refine tr_ext h.trq k.trq ?_
    have hd : ptrim (padd q (pneg q')) = [] := by
      by_cases hn : ptrim (padd q (pneg q')) = []
      · exact hn
      · exfalso
        have h6 := pmul_tr (tr_ptrim (padd q (pneg q'))) hr hn hrn
        have h7 : ptrim (pmul (ptrim (padd q (pneg q'))) r) = ptrim (padd t' (pneg t)) := ptrim_eq ((PE.mul_l (cf_ptrim _) r).trans e1)
        have h8 : (ptrim (padd t' (pneg t))).length ≤ r.length - 1 := tr_len (tr_ptrim _) _ (fun i hi => by
          have := h.lt; have := k.lt
          rw [cf_ptrim, cf_padd, cf_pneg, cf_ge (by omega), cf_ge (by omega)]; grind)
        have l1 := List.length_pos_iff.2 hn
        have l2 := List.length_pos_iff.2 hrn
        rw [h7] at h6
        omega
    intro i
    have h9 := cf_ptrim (padd q (pneg q')) i
    rw [hd, cf_padd, cf_pneg] at h9
    simp at h9; grind
  refine ⟨hq, tr_ext h.trt k.trt ?_⟩
  subst hq
  intro i
  have h1 := h.eq i; have h2 := k.eq i
  rw [cf_padd] at h1 h2
  grind

/-! ### The greatest common divisor -/
def Dvd (d p : Pl) : Prop := ∃ c, PE p (pmul c d)
structure GcdRel (p r d : Pl) : Prop where
  tr : Tr d
  monic : d = [] ∨ lead d = 1
  dp : Dvd d p
  dr : Dvd d r
  bez : ∃ a b, PE d (padd (pmul a p) (pmul b r))
theorem pmul_one (p : Pl) : PE (pmul [1] p) p := by
  intro i
  cases i with
  | zero => rw [cf_pmul_zero]; grind
  | succ i => rw [cf_pmul_succ]; simp [pmul]; grind
theorem Dvd.add {a b c : Pl} (h : Dvd a b) (k : Dvd a c) : Dvd a (padd b c) := by
  obtain ⟨x, hx⟩ := h; obtain ⟨y, hy⟩ := k
  exact ⟨padd x y, (hx.add hy).trans (pmul_add_l x y a).symm⟩
theorem Dvd.mul (x : Pl) {a b : Pl} (h : Dvd a b) : Dvd a (pmul x b) := by
  obtain ⟨y, hy⟩ := h
  exact ⟨pmul x y, (PE.mul_r x hy).trans (pmul_assoc x y a).symm⟩
theorem Dvd.congr {a b c : Pl} (h : Dvd a b) (k : PE b c) : Dvd a c := by obtain ⟨x, hx⟩ := h; exact ⟨x, k.symm.trans hx⟩
theorem Dvd.nil (a : Pl) : Dvd a [] := ⟨[], PE.rfl' _⟩
theorem Dvd.of_nil {p : Pl} (h : Dvd [] p) : PE p [] := by obtain ⟨x, hx⟩ := h; exact hx.trans (pmul_nil_r x)
theorem GcdRel.uniq {p r d e : Pl} (h : GcdRel p r d) (k : GcdRel p r e) : d = e := by
  have key : ∀ {d e : Pl}, GcdRel p r d → GcdRel p r e → Dvd d e := by
    intro d e h k
    obtain ⟨a, b, hab⟩ := k.bez
    exact ((h.dp.mul a).add (h.dr.mul b)).congr hab.symm
  have h1 := key h k
  have h2 := key k h
  by_cases hd : d = []
  · subst hd; exact (tr_zero k.tr h1.of_nil).symm
  · by_cases he : e = []
    · subst he; exact absurd (tr_zero h.tr h2.of_nil) hd
    · have md := h.monic.resolve_left hd
      have me := k.monic.resolve_left he
      obtain ⟨x, hx⟩ := h1
      obtain ⟨y, hy⟩ := h2
      -- the lengths
      have hx' : PE e (pmul (ptrim x) d) := hx.trans (PE.mul_l (cf_ptrim x).symm d)
      have hy' : PE d (pmul (ptrim y) e) := hy.trans (PE.mul_l (cf_ptrim y).symm e)
      have hxn : ptrim x ≠ [] := by intro e0; rw [e0] at hx'; exact he (tr_zero k.tr hx')
      have hyn : ptrim y ≠ [] := by intro e0; rw [e0] at hy'; exact hd (tr_zero h.tr hy')
      have lx := pmul_tr (tr_ptrim x) h.tr hxn hd
      have ly := pmul_tr (tr_ptrim y) k.tr hyn he
      rw [← ptrim_eq hx', ptrim_tr k.tr] at lx
      rw [← ptrim_eq hy', ptrim_tr h.tr] at ly
      have p1 := List.length_pos_iff.2 hxn
      have p2 := List.length_pos_iff.2 hyn
      have hlx : (ptrim x).length = 1 := by omega
      obtain ⟨c, hc⟩ := List.length_eq_one_iff.1 hlx
      have hc1 : c = 1 := by
        have := lx.2
        rw [hc, md, me] at this
        simp [lead] at this
        grind
      subst hc1
      rw [hc] at hx'
      refine tr_ext h.tr k.tr (PE.symm ?_)
      refine hx'.trans ?_
      intro i
      cases i with
      | zero => rw [cf_pmul_zero]; grind
      | succ i => rw [cf_pmul_succ]; simp [pmul]; grind
end Go.Proofs.YtadimepmoljnpaaGreatDoor.GB
