import Derived.Test.YtbldlibijojbjaaGreatDoorMCu
import Derived.Test.YtbldlibijojbjaaGreatDoorMTy
import Derived.Test.YtbldlibijojbjaaGreatDoorMIr
namespace Go.Proofs.YtbldlibijojbjaaGreatDoor.GB
set_option linter.unusedVariables false
set_option linter.unusedSimpArgs false
open Go.RowKit Go.Shelf
attribute [local go_sem ↓] Go.wp_at_zero Go.wp_at_succ

theorem ten9_lt {n : Nat} (h : (Lib.decDigits n).length ≤ 9) : n < 1000000000 := by
  have h1 := dec_len_lt n
  have h2 : 10 ^ (Lib.decDigits n).length ≤ 10 ^ 9 := Nat.pow_le_pow_right (by omega) h
  have h3 : (10 : Nat) ^ 9 = 1000000000 := by decide
  omega
theorem parseU_dec (n : Nat) (h : n < 1000000000) : Lib.parseUintB 64 (Lib.decDigits n) = .ok n := by
  have h2 : pval (Lib.decDigits n) = n := pval_dec n
  unfold Lib.parseUintB
  rw [if_neg (dec_ne n), parse_digits _ (by decide) _ _ (dec_dig n)]
  · show Lib.NumEnd.ok (pval (Lib.decDigits n)) = _
    rw [h2]
  · show pval (Lib.decDigits n) ≤ _
    rw [h2]
    have : (2 : Nat) ^ 64 - 1 = 18446744073709551615 := by decide
    omega
theorem parse_i (z : Int) (h : z.natAbs < 1000000000) : Lib.parseIntB 64 (Lib.itoa z) = .ok z := by
  have hu := parseU_dec z.natAbs h
  have e63 : (2 : Nat) ^ (64 - 1) = 9223372036854775808 := by decide
  rcases (by omega : z < 0 ∨ 0 ≤ z) with hz | hz
  · rw [itoa_of_neg hz]
    unfold Lib.parseIntB
    have h45 : (45 : UInt8).toNat = 45 := rfl
    simp only [h45, or_true, if_true, hu, not_true, false_and, if_false, true_and]
    rw [e63, if_neg (by omega)]
    congr 1
    omega
  · rw [itoa_of_nonneg hz]
    obtain ⟨c, r, hcr⟩ : ∃ c r, Lib.decDigits z.natAbs = c :: r := List.exists_cons_of_ne_nil (dec_ne _)
    have hc : isDig c := dec_dig z.natAbs c (by rw [hcr]; simp)
    unfold isDig at hc
    rw [hcr] at hu ⊢
    unfold Lib.parseIntB
    have h1 : ¬ (c.toNat = 43) := by omega
    have h2 : ¬ (c.toNat = 45) := by omega
    simp only [h1, h2, or_self, if_false, hu, not_false_eq_true, true_and, false_and]
    rw [e63, if_neg (by omega)]
    congr 1
    omega
theorem itoa_len9 {z : Int} (h : (Lib.itoa z).length ≤ 9) : z.natAbs < 1000000000 := by
  apply ten9_lt
  rcases (by omega : z < 0 ∨ 0 ≤ z) with hz | hz
  · rw [itoa_of_neg hz] at h; simp at h; omega
  · rw [itoa_of_nonneg hz] at h; exact h
theorem parseInt_i (z : Int) (h : z.natAbs < 1000000000) (hl : (Lib.itoa z).length ≤ 9) (w : World) :
    Calls Tryz.prog 229 #[itx z, .int .i64 10, .int .i64 64] w fun e w' => e = .returned (.tuple #[.int .i64 z, .nilIface]) ∧ Ext w w' := by
  show Calls Tryz.prog 229 #[.string ⟨(Lib.itoa z).toArray⟩, .int .i64 10, .int .i64 64] w _
  refine (Tryz.strconv_ParseInt_10_at64_ok ⟨(Lib.itoa z).toArray⟩ (by rw [size_mk]; omega) z (parse_i z h) w).mono ?_
  rintro e w' ⟨rfl, h | ⟨t, h⟩⟩
  · exact ⟨rfl, h ▸ Ext.rfl' _⟩
  · exact ⟨rfl, h ▸ Lib.bytesWorld_below _ _ _⟩
theorem parseInt_n (n : Nat) (hl : (Lib.decDigits n).length ≤ 9) (w : World) :
    Calls Tryz.prog 229 #[dtx n, .int .i64 10, .int .i64 64] w fun e w' => e = .returned (.tuple #[.int .i64 n, .nilIface]) ∧ Ext w w' := by
  have h := parseInt_i (n : Int) (by have := ten9_lt hl; omega) (by rw [itoa_nat]; exact hl) w
  have e := itoa_nat n
  unfold itx at h
  rwa [e] at h

set_option maxHeartbeats 2000000 in
set_option maxRecDepth 100000 in
theorem little_yes (s t : ByteArray) (p q : Int) (w : World) (hs : s.size ≤ 9) (ht : t.size ≤ 9)
    (h1 : ∀ W, Calls Tryz.prog 229 #[.string s, .int .i64 10, .int .i64 64] W fun e w' => e = .returned (.tuple #[.int .i64 p, .nilIface]) ∧ Ext W w')
    (h2 : ∀ W, Calls Tryz.prog 229 #[.string t, .int .i64 10, .int .i64 64] W fun e w' => e = .returned (.tuple #[.int .i64 q, .nilIface]) ∧ Ext W w') :
    Calls Tryz.prog 203 #[.agg #[.string s, .string t]] w fun e w' => e = .returned (.tuple #[.int .i64 p, .int .i64 q, .bool true]) ∧ Ext w w' := by
  have X := Bx.new w #[.string s, .string t] 102
  have E := (Ext.rfl' w).al (.cells #[.string s, .string t] 102)
  go_enter Tryz.func203, Tryz.ntmps203
  go_wp2_with fail
  generalize w.alloc (.cells #[.string s, .string t] 102) = W0 at *
  refine (h1 _).mono ?_
  rintro e w1 ⟨rfl, hE⟩
  replace X := X.ext hE
  replace E := E.tr hE
  clear hE
  have c0 := X.c0
  have c1 := X.c1
  go_wp2_with fail
  refine (h2 _).mono ?_
  rintro e w2 ⟨rfl, hE⟩
  replace E := E.tr hE
  clear hE X c0 c1
  go_wp2_with fail
  go_ret3
  exact ⟨rfl, E⟩
set_option maxHeartbeats 2000000 in
set_option maxRecDepth 100000 in
theorem little_no (s t : ByteArray) (w : World) (hs : 9 < s.size ∨ 9 < t.size) :
    Calls Tryz.prog 203 #[.agg #[.string s, .string t]] w fun e w' => e = .returned (.tuple #[.int .i64 0, .int .i64 0, .bool false]) ∧ Ext w w' := by
  by_cases h9 : 9 < s.size
  · clear hs
    go_enter Tryz.func203, Tryz.ntmps203
    go_wp2_with fail
    go_ret3
    exact ⟨rfl, (Ext.rfl' _).al _⟩
  · have h10 : 9 < t.size := by omega
    have h11 : s.size ≤ 9 := by omega
    clear hs h9
    go_enter Tryz.func203, Tryz.ntmps203
    go_wp2_with fail
    go_ret3
    exact ⟨rfl, (Ext.rfl' _).al _⟩
theorem little_q (z : Int) (n : Nat) (w : World) (h1 : (Lib.itoa z).length ≤ 9) (h2 : (Lib.decDigits n).length ≤ 9) :
    Calls Tryz.prog 203 #[.agg #[itx z, dtx n]] w fun e w' => e = .returned (.tuple #[.int .i64 z, .int .i64 n, .bool true]) ∧ Ext w w' :=
  little_yes _ _ z n w (by rw [size_mk]; exact h1) (by rw [size_mk]; exact h2) (fun W => parseInt_i z (itoa_len9 h1) h1 W) (fun W => parseInt_n n h2 W)
theorem little_big (z : Int) (n : Nat) (w : World) (h : 9 < (Lib.itoa z).length ∨ 9 < (Lib.decDigits n).length) :
    Calls Tryz.prog 203 #[.agg #[itx z, dtx n]] w fun e w' => e = .returned (.tuple #[.int .i64 0, .int .i64 0, .bool false]) ∧ Ext w w' :=
  little_no _ _ w (by rw [size_mk, size_mk]; exact h)
end Go.Proofs.YtbldlibijojbjaaGreatDoor.GB

namespace Go.Proofs.YtbldlibijojbjaaGreatDoor.GB
set_option linter.unusedVariables false
set_option linter.unusedSimpArgs false
open Go.RowKit Go.Shelf
attribute [local go_sem ↓] Go.wp_at_zero Go.wp_at_succ

theorem with_0 (w : World) : Calls Tryz.prog 188 #[.bool false, .string ⟨#[48]⟩] w fun e w' => e = .returned (IV 0) ∧ Ext w w' := by
  have h := with_any false 0 w
  rwa [dtx0] at h
theorem with_y (x : Bool) (n : Nat) (y : Int) (h : (if x = true then -(n : Int) else (n : Int)) = y) (w : World) : Calls Tryz.prog 188 #[.bool x, dtx n] w fun e w' => e = .returned (IV y) ∧ Ext w w' := by
  subst h; exact with_any x n w
set_option maxHeartbeats 2000000 in
set_option maxRecDepth 100000 in
theorem divide_ix (a b : Int) (w : World) (hW : Wd w) (ha : Fit a.natAbs) (hb : Fit b.natAbs) (h0 : 0 < b.natAbs) (hd : a.natAbs % b.natAbs = 0) (y : Int)
    (hs : (if (!(decide (a < 0) == decide (b < 0))) = true then -((a.natAbs / b.natAbs : Nat) : Int) else ((a.natAbs / b.natAbs : Nat) : Int)) = y) :
    Calls Tryz.prog 249 #[IV a, IV b] w fun e w' => e = .returned (.tuple #[IV y, IV 0]) ∧ Ext w w' := by
  go_enter Tryz.func249, Tryz.ntmps249
  go_wp2_with fail
  obtain ⟨X1, X2, X3, X4, E0⟩ := boxes4 w #[.bool (decide (a < 0)), dtx a.natAbs] #[.bool (decide (b < 0)), dtx b.natAbs] #[.bool false, .string ⟨#[]⟩] #[.bool false, .string ⟨#[]⟩] 166 166
  refine (DivMod_n _ _ _ (hW.ext E0) ha hb h0).mono ?_
  rintro e w1 ⟨rfl, hE1⟩
  rw [hd]
  have E1 := E0.tr hE1
  have Y1 := X1.ext hE1
  have Y2 := X2.ext hE1
  have Y3 := X3.ext hE1
  have Y4 := X4.ext hE1
  have c1 := Y1.c0
  have c2 := Y2.c0
  have hz : (Lib.decDigits 0 == [48]) = true := by rw [Lib.decDigits]; rfl
  have hz2 : dtx 0 = .string ⟨#[48]⟩ := dtx0
  clear X1 X2 X3 X4 hE1 E0
  generalize decide (a < 0) = x at *
  cases x
  all_goals
    go_wp2_with fail
    refine (with_y _ _ y (by simpa using hs) _).mono ?_
    rintro e w2 ⟨rfl, hE2⟩
    have E2 := E1.tr hE2
    have Z3 := Y3.ext hE2
    have Z4 := Y4.ext hE2
    clear hE2
    go_wp2_with fail
    refine (with_0 _).mono ?_
    rintro e w3 ⟨rfl, hE3⟩
    have E3 := E2.tr hE3
    have V3 := Z3.ext hE3
    have V4 := Z4.ext hE3
    have g0 := V3.c0
    have g1 := V3.c1
    have g2 := V4.c0
    have g3 := V4.c1
    have f0 := V3.f 0
    have f1 := V3.f 1
    have f2 := V4.f 0
    have f3 := V4.f 1
    clear hE3
    go_wp2_with fail
    obtain ⟨d0, d1⟩ := set2 V3 (.bool (decide (y < 0))) (dtx y.natAbs)
    have V5 := (V4.set (p := ⟨w.heap.size + 1 + 1, 0, none⟩) (by simp) (.bool (decide (y < 0)))).set (p := ⟨w.heap.size + 1 + 1, 1, none⟩) (by simp) (dtx y.natAbs)
    obtain ⟨d2, d3⟩ := set2 V5 (.bool false) (.string ⟨#[48]⟩)
    have d4 : ((((w3.setCell ⟨w.heap.size + 1 + 1, 0, none⟩ (.bool (decide (y < 0)))).setCell ⟨w.heap.size + 1 + 1, 1, none⟩ (dtx y.natAbs)).setCell ⟨w.heap.size + 1 + 1 + 1, 0, none⟩ (.bool false)).setCell ⟨w.heap.size + 1 + 1 + 1, 1, none⟩ (.string ⟨#[48]⟩)).cell? ⟨w.heap.size + 1 + 1, 0, none⟩ = some (.bool (decide (y < 0))) := by
      rw [World.cell?_setCell_other _ _ _ _ (by simp), World.cell?_setCell_other _ _ _ _ (by simp)]; exact d0
    have d5 : ((((w3.setCell ⟨w.heap.size + 1 + 1, 0, none⟩ (.bool (decide (y < 0)))).setCell ⟨w.heap.size + 1 + 1, 1, none⟩ (dtx y.natAbs)).setCell ⟨w.heap.size + 1 + 1 + 1, 0, none⟩ (.bool false)).setCell ⟨w.heap.size + 1 + 1 + 1, 1, none⟩ (.string ⟨#[48]⟩)).cell? ⟨w.heap.size + 1 + 1, 1, none⟩ = some (dtx y.natAbs) := by
      rw [World.cell?_setCell_other _ _ _ _ (by simp), World.cell?_setCell_other _ _ _ _ (by simp)]; exact d1
    have E9 : Ext w ((((w3.setCell ⟨w.heap.size + 1 + 1, 0, none⟩ (.bool (decide (y < 0)))).setCell ⟨w.heap.size + 1 + 1, 1, none⟩ (dtx y.natAbs)).setCell ⟨w.heap.size + 1 + 1 + 1, 0, none⟩ (.bool false)).setCell ⟨w.heap.size + 1 + 1 + 1, 1, none⟩ (.string ⟨#[48]⟩)) :=
      ext_set2 (b := w.heap.size + 1 + 1 + 1) (ext_set2 (b := w.heap.size + 1 + 1) E3 (by omega) _ _) (by omega) _ _
    refine bodyPost_ret (v := .tuple #[IV y, IV 0]) ?_ rfl ⟨rfl, E9⟩
    have e0 : IV 0 = .agg #[.bool false, .string ⟨#[48]⟩] := by
      have := dtx0
      show Value.agg #[.bool false, dtx 0] = _
      rw [this]
    rw [e0]
    simp [results, Tryz.f249, go_sem, d2, d3, d4, d5]
end Go.Proofs.YtbldlibijojbjaaGreatDoor.GB

namespace Go.Proofs.YtbldlibijojbjaaGreatDoor.GB
set_option linter.unusedVariables false
set_option linter.unusedSimpArgs false
open Go.RowKit Go.Shelf
attribute [local go_sem ↓] Go.wp_at_zero Go.wp_at_succ

theorem itext_0 (w : World) : Calls Tryz.prog 163 #[.agg #[.bool false, dtx 0]] w fun e w' => e = .returned (itx 0) ∧ Ext w w' := itext_any 0 w fit0
set_option maxHeartbeats 2000000 in
set_option maxRecDepth 100000 in
theorem DivMod_x (a b y : Int) (w : World) (hW : Wd w) (ha : Fit a.natAbs) (hb : Fit b.natAbs) (hbn : 0 ≤ b) (h0 : 0 < b.natAbs) (hd : a.natAbs % b.natAbs = 0)
    (hs : (if (!(decide (a < 0) == decide (b < 0))) = true then -((a.natAbs / b.natAbs : Nat) : Int) else ((a.natAbs / b.natAbs : Nat) : Int)) = y) (hy : Fit y.natAbs) :
    Calls Tryz.prog 231 #[itx a, itx b] w fun e w' => e = .returned (.tuple #[itx y, itx 0, .int .i64 0]) ∧ Ext w w' := by
  have hbz : ((⟨(Lib.decDigits b.natAbs).toArray⟩ : ByteArray).toList == [48]) = false := by rw [dtx_zero]; exact decide_eq_false (by omega)
  go_enter Tryz.func231, Tryz.ntmps231
  go_wp2_with fail
  refine (iboth_z a b _ ha hb).mono ?_
  rintro e w1 ⟨rfl, E1⟩
  go_wp2_with fail
  obtain ⟨X1, X2, E2⟩ := boxes2 w1 #[.bool (decide (a < 0)), dtx a.natAbs] #[.bool (decide (b < 0)), dtx b.natAbs] 166
  have E3 := Lib.hid (E1.tr E2)
  generalize ((w1.alloc (.cells #[.bool (decide (a < 0)), dtx a.natAbs] 166)).alloc (.cells #[.bool (decide (b < 0)), dtx b.natAbs] 166)) = W0 at *
  generalize w1.heap.size = g at *
  have a0 := X1.c0
  have a1 := X1.c1
  have b0 := X2.c0
  have b1 := X2.c1
  clear X1 X2 E1 E2
  have hW0 : Hid (Wd W0) := hW.ext E3.out
  have hbz2 : (Lib.decDigits b.natAbs == [48]) = false := by rw [← hbz, ByteArray.toList_eq]
  have hxb : decide (b < 0) = false := decide_eq_false (by omega)
  rw [hxb] at b0
  go_region_held3 (fun w' => w'.cell? ⟨g + 1, 0, none⟩ = some (.bool false) ∧ w'.cell? ⟨g + 1, 1, none⟩ = some (dtx b.natAbs)) (((try dsimp only); (repeat' apply And.intro) <;> (first | assumption)))
    (first
      | (go_at_call 186; (with_reducible refine (zero_any _).mono ?_); rintro e w' ⟨rfl, hE⟩; have q0 := Ext.cellD hE b0; have q1 := Ext.cellD hE b1; have q2 := Ext.cellD hE a0; have q3 := Ext.cellD hE a1))
  have E5 := Lib.hid ((Ext.dr' E3).tr hE)
  clear a0 a1 b0 b1 E3 hE hW0
  have HS := Lib.hid hs
  clear hs
  go_wp2_with fail
  have hdv := divide_ix a b w' (hW.ext E5.out) ha hb h0 hd y HS.out
  unfold IV at hdv
  rw [hxb] at hdv
  refine hdv.mono ?_
  rintro e w4 ⟨rfl, hE4⟩
  have E6 := Lib.hid (E5.out.tr hE4)
  clear hdv hE4 q0 q1 q2 q3
  obtain ⟨X1, X2, E7⟩ := boxes2 w4 #[.bool (decide (y < 0)), dtx y.natAbs] #[.bool false, dtx 0] 166
  have E8 := Lib.hid (E6.out.tr E7)
  go_wp2_with fail
  generalize ((w4.alloc (.cells #[.bool (decide (y < 0)), dtx y.natAbs] 166)).alloc (.cells #[.bool false, dtx 0] 166)) = W4 at *
  generalize w4.heap.size = g4 at *
  have a0 := X1.c0
  have a1 := X1.c1
  have b0 := X2.c0
  have b1 := X2.c1
  clear X1 X2 E7 E6 E5
  go_region_held3 (fun w' => w'.cell? ⟨g4, 0, none⟩ = some (.bool (decide (y < 0))) ∧ w'.cell? ⟨g4, 1, none⟩ = some (dtx y.natAbs) ∧ w'.cell? ⟨g4 + 1, 0, none⟩ = some (.bool false) ∧ w'.cell? ⟨g4 + 1, 1, none⟩ = some (dtx 0)) (((try dsimp only); (repeat' apply And.intro) <;> assumption))
    (first
      | (go_at_call 163; (with_reducible refine (itext_any y _ hy).mono ?_); rintro e w2 ⟨rfl, hE2⟩; have q0 := Ext.cellD hE2 a0; have q1 := Ext.cellD hE2 a1; have q2 := Ext.cellD hE2 b0; have q3 := Ext.cellD hE2 b1)
      | (go_at_call 163; (with_reducible refine (itext_0 _).mono ?_); rintro e w3 ⟨rfl, hE3⟩; have t0 := Ext.cellH hE3 q0; have t1 := Ext.cellH hE3 q1; have t2 := Ext.cellH hE3 q2; have t3 := Ext.cellH hE3 q3))
  go_wp2_with fail
  go_ret3
  exact ⟨rfl, ((Ext.dr' E8).tr hE2).tr hE3⟩
end Go.Proofs.YtbldlibijojbjaaGreatDoor.GB

namespace Go.Proofs.YtbldlibijojbjaaGreatDoor.GB
set_option linter.unusedVariables false
set_option linter.unusedSimpArgs false
open Go.RowKit Go.Shelf
attribute [local go_sem ↓] Go.wp_at_zero Go.wp_at_succ

set_option maxHeartbeats 2000000 in
set_option maxRecDepth 100000 in
theorem lowest_1 (s t g : ByteArray) (w : World) (hg : (g.toList == [49]) = true)
    (h1 : ∀ W, Ext w W → Calls Tryz.prog 128 #[.string s, .string t] W fun e w' => e = .returned (.string g) ∧ Ext W w') :
    Calls Tryz.prog 206 #[.string s, .string t] w fun e w' => e = .returned (.agg #[.string s, .string t]) ∧ Ext w w' := by
  have X := Bx.new w #[.string ⟨#[]⟩, .string ⟨#[]⟩] 102
  have E := (Ext.rfl' w).al (.cells #[.string ⟨#[]⟩, .string ⟨#[]⟩] 102)
  go_enter Tryz.func206, Tryz.ntmps206
  go_wp2_with fail
  generalize w.alloc (.cells #[.string ⟨#[]⟩, .string ⟨#[]⟩] 102) = W0 at *
  refine (h1 _ E).mono ?_
  rintro e w1 ⟨rfl, hE⟩
  replace X := X.ext hE
  replace E := E.tr hE
  clear hE
  have c0 := X.c0
  have c1 := X.c1
  have f0 := X.f 0
  have f1 := X.f 1
  go_wp2_with fail
  obtain ⟨d0, d1⟩ := set2 X (.string s) (.string t)
  have E2 := ext_set2 (b := w.heap.size) E (Nat.le_refl _) (.string s) (.string t)
  refine bodyPost_ret (v := .agg #[.string s, .string t]) ?_ rfl ⟨rfl, E2⟩
  simp [results, Tryz.f206, go_sem, d0, d1]
set_option maxHeartbeats 2000000 in
set_option maxRecDepth 100000 in
theorem lowest_2 (s t g s' t' r u : ByteArray) (w : World) (hg : (g.toList == [49]) = false)
    (h1 : ∀ W, Ext w W → Calls Tryz.prog 128 #[.string s, .string t] W fun e w' => e = .returned (.string g) ∧ Ext W w')
    (h2 : ∀ W, Ext w W → Calls Tryz.prog 231 #[.string s, .string g] W fun e w' => e = .returned (.tuple #[.string s', .string r, .int .i64 0]) ∧ Ext W w')
    (h3 : ∀ W, Ext w W → Calls Tryz.prog 232 #[.string t, .string g] W fun e w' => e = .returned (.tuple #[.string t', .string u, .int .i64 0]) ∧ Ext W w') :
    Calls Tryz.prog 206 #[.string s, .string t] w fun e w' => e = .returned (.agg #[.string s', .string t']) ∧ Ext w w' := by
  have X := Bx.new w #[.string ⟨#[]⟩, .string ⟨#[]⟩] 102
  have E := (Ext.rfl' w).al (.cells #[.string ⟨#[]⟩, .string ⟨#[]⟩] 102)
  go_enter Tryz.func206, Tryz.ntmps206
  go_wp2_with fail
  generalize w.alloc (.cells #[.string ⟨#[]⟩, .string ⟨#[]⟩] 102) = W0 at *
  refine (h1 _ E).mono ?_
  rintro e w1 ⟨rfl, hE⟩
  replace X := X.ext hE
  replace E := E.tr hE
  clear hE
  go_wp2_with fail
  refine (h2 _ E).mono ?_
  rintro e w2 ⟨rfl, hE⟩
  replace X := X.ext hE
  replace E := E.tr hE
  clear hE
  go_wp2_with fail
  refine (h3 _ E).mono ?_
  rintro e w3 ⟨rfl, hE⟩
  replace X := X.ext hE
  replace E := E.tr hE
  clear hE
  have c0 := X.c0
  have c1 := X.c1
  have f0 := X.f 0
  have f1 := X.f 1
  go_wp2_with fail
  obtain ⟨d0, d1⟩ := set2 X (.string s') (.string t')
  have E2 := ext_set2 (b := w.heap.size) E (Nat.le_refl _) (.string s') (.string t')
  refine bodyPost_ret (v := .agg #[.string s', .string t']) ?_ rfl ⟨rfl, E2⟩
  simp [results, Tryz.f206, go_sem, d0, d1]
theorem Fit.pos1 {a : Nat} (h : a ≤ 1) : Fit a := ⟨1, by omega, by omega⟩
theorem sgn_div (z : Int) (g : Nat) (hg : 0 < g) (hd : g ∣ z.natAbs) : (if (!(decide (z < 0) == decide ((g : Int) < 0))) = true then -((z.natAbs / (g : Int).natAbs : Nat) : Int) else ((z.natAbs / (g : Int).natAbs : Nat) : Int)) = z / (g : Int) := by
  have hgn : decide ((g : Int) < 0) = false := decide_eq_false (by omega)
  rw [hgn]
  obtain ⟨k, hk⟩ := hd
  have e1 : (g : Int).natAbs = g := by omega
  rw [e1, hk, Nat.mul_div_cancel_left _ hg]
  rcases (by omega : z < 0 ∨ 0 ≤ z) with h | h
  · have hz : z = (g : Int) * (-(k : Int)) := by rw [Int.mul_neg, ← Int.natCast_mul, ← hk]; omega
    rw [decide_eq_true h]
    simp only [Bool.true_beq, Bool.not_false, if_true]
    conv => rhs; rw [hz, Int.mul_ediv_cancel_left _ (by omega)]
  · have hz : z = (g : Int) * (k : Int) := by rw [← Int.natCast_mul, ← hk]; omega
    rw [decide_eq_false (by omega)]
    simp only [Bool.false_beq, Bool.not_false, Bool.not_true, Bool.false_eq_true, if_false]
    conv => rhs; rw [hz, Int.mul_ediv_cancel_left _ (by omega)]
theorem lowest_q (z : Int) (n : Nat) (w : World) (hW : Wd w) (hz : Fit z.natAbs) (hn : Fit n) (h0 : n ≠ 0) :
    Calls Tryz.prog 206 #[itx z, dtx n] w fun e w' => e = .returned (FV (mkRat z n)) ∧ Ext w w' := by
  obtain ⟨e1, e2⟩ := rat_lowest z n h0
  unfold FV
  rw [e1, e2]
  have hg0 : 0 < Nat.gcd z.natAbs n := Nat.gcd_pos_of_pos_right _ (Nat.pos_of_ne_zero h0)
  have hgf : Fit (Nat.gcd z.natAbs n) := hz.gcd hn
  have hgd : Nat.gcd z.natAbs n ∣ z.natAbs := Nat.gcd_dvd_left _ _
  have h1 : ∀ W, Ext w W → Calls Tryz.prog 128 #[itx z, dtx n] W fun e w' => e = .returned (dtx (Nat.gcd z.natAbs n)) ∧ Ext W w' := fun W hE => divisor_z z n W (hW.ext hE) hz hn
  by_cases hg : Nat.gcd z.natAbs n = 1
  · have h := lowest_1 _ _ _ w (by rw [dtx_one]; exact decide_eq_true hg) h1
    rw [hg]
    simp only [Int.natCast_one, Int.ediv_one, Nat.div_one]
    exact h
  · generalize Nat.gcd z.natAbs n = g at *
    have ed : itx (g : Int) = dtx g := by
      show Value.string _ = Value.string _
      rw [itoa_nat]
    have hq : z.natAbs / g ≤ z.natAbs := Nat.div_le_self _ _
    have hqa : (z / (g : Int)).natAbs ≤ z.natAbs := by
      rw [← sgn_div z g hg0 hgd]
      have e9 : (g : Int).natAbs = g := by omega
      rw [e9]
      generalize z.natAbs / g = m at *
      split <;> omega
    have e9 : (g : Int).natAbs = g := by omega
    have a1 : Fit (g : Int).natAbs := by rw [e9]; exact hgf
    have a2 : z.natAbs % (g : Int).natAbs = 0 := by rw [e9]; exact Nat.mod_eq_zero_of_dvd hgd
    have a3 : 0 < (g : Int).natAbs := by omega
    have hDM := fun W (hE : Ext w W) => DivMod_x z (g : Int) (z / (g : Int)) W (hW.ext hE) hz a1 (by omega) a3 a2 (sgn_div z g hg0 hgd) (hz.le hqa)
    rw [ed] at hDM
    exact lowest_2 _ _ _ _ _ _ _ w (by rw [dtx_one]; exact decide_eq_false hg) h1 hDM (fun W hE => DivMod_n n g W (hW.ext hE) hn hgf hg0)
end Go.Proofs.YtbldlibijojbjaaGreatDoor.GB
