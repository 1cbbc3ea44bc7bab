import Derived.Test.YtadimepmoljnpaaGreatDoorMIq
namespace Go.Proofs.YtadimepmoljnpaaGreatDoor.GB
set_option linter.unusedVariables false
set_option linter.unusedSimpArgs false
open Go.RowKit Go.Shelf
attribute [local go_sem ↓] Go.wp_at_zero Go.wp_at_succ

theorem with_0 (w : World) : Calls Tryz.prog 159 #[.bool false, .string ⟨#[48]⟩] w fun e w' => e = .returned (IV 0) ∧ Ext w w' := by
  have h := with_any false 0 w
  rwa [dtx0] at h
theorem with_y (x : Bool) (n : Nat) (y : Int) (h : (if x = true then -(n : Int) else (n : Int)) = y) (w : World) : Calls Tryz.prog 159 #[.bool x, dtx n] w fun e w' => e = .returned (IV y) ∧ Ext w w' := by
  subst h; exact with_any x n w
set_option maxHeartbeats 2000000 in
set_option maxRecDepth 100000 in
theorem divide_ix (a b : Int) (w : World) (hW : Wd w) (ha : Fit a.natAbs) (hb : Fit b.natAbs) (h0 : 0 < b.natAbs) (hd : a.natAbs % b.natAbs = 0) (y : Int)
    (hs : (if (!(decide (a < 0) == decide (b < 0))) = true then -((a.natAbs / b.natAbs : Nat) : Int) else ((a.natAbs / b.natAbs : Nat) : Int)) = y) :
    Calls Tryz.prog 266 #[IV a, IV b] w fun e w' => e = .returned (.tuple #[IV y, IV 0]) ∧ Ext w w' := by
  go_enter Tryz.func266, Tryz.ntmps266
  go_wp2_with fail
  obtain ⟨X1, X2, X3, X4, E0⟩ := boxes4 w #[.bool (decide (a < 0)), dtx a.natAbs] #[.bool (decide (b < 0)), dtx b.natAbs] #[.bool false, .string ⟨#[]⟩] #[.bool false, .string ⟨#[]⟩] 162 162
  refine (DivMod_n _ _ _ (hW.ext E0) ha hb h0).mono ?_
  rintro e w1 ⟨rfl, hE1⟩
  rw [hd]
  have E1 := E0.tr hE1
  have Y1 := X1.ext hE1
  have Y2 := X2.ext hE1
  have Y3 := X3.ext hE1
  have Y4 := X4.ext hE1
  have c1 := Y1.c0
  have c2 := Y2.c0
  have hz : (Lib.decDigits 0 == [48]) = true := by rw [Lib.decDigits]; rfl
  have hz2 : dtx 0 = .string ⟨#[48]⟩ := dtx0
  clear X1 X2 X3 X4 hE1 E0
  generalize decide (a < 0) = x at *
  cases x
  all_goals
    go_wp2_with fail
    refine (with_y _ _ y (by simpa using hs) _).mono ?_
    rintro e w2 ⟨rfl, hE2⟩
    have E2 := E1.tr hE2
    have Z3 := Y3.ext hE2
    have Z4 := Y4.ext hE2
    clear hE2
    go_wp2_with fail
    refine (with_0 _).mono ?_
    rintro e w3 ⟨rfl, hE3⟩
    have E3 := E2.tr hE3
    have V3 := Z3.ext hE3
    have V4 := Z4.ext hE3
    have g0 := V3.c0
    have g1 := V3.c1
    have g2 := V4.c0
    have g3 := V4.c1
    have f0 := V3.f 0
    have f1 := V3.f 1
    have f2 := V4.f 0
    have f3 := V4.f 1
    clear hE3
    go_wp2_with fail
    obtain ⟨d0, d1⟩ := set2 V3 (.bool (decide (y < 0))) (dtx y.natAbs)
    have V5 := (V4.set (p := ⟨w.heap.size + 1 + 1, 0, none⟩) (by simp) (.bool (decide (y < 0)))).set (p := ⟨w.heap.size + 1 + 1, 1, none⟩) (by simp) (dtx y.natAbs)
    obtain ⟨d2, d3⟩ := set2 V5 (.bool false) (.string ⟨#[48]⟩)
    have d4 : ((((w3.setCell ⟨w.heap.size + 1 + 1, 0, none⟩ (.bool (decide (y < 0)))).setCell ⟨w.heap.size + 1 + 1, 1, none⟩ (dtx y.natAbs)).setCell ⟨w.heap.size + 1 + 1 + 1, 0, none⟩ (.bool false)).setCell ⟨w.heap.size + 1 + 1 + 1, 1, none⟩ (.string ⟨#[48]⟩)).cell? ⟨w.heap.size + 1 + 1, 0, none⟩ = some (.bool (decide (y < 0))) := by
      rw [World.cell?_setCell_other _ _ _ _ (by simp), World.cell?_setCell_other _ _ _ _ (by simp)]; exact d0
    have d5 : ((((w3.setCell ⟨w.heap.size + 1 + 1, 0, none⟩ (.bool (decide (y < 0)))).setCell ⟨w.heap.size + 1 + 1, 1, none⟩ (dtx y.natAbs)).setCell ⟨w.heap.size + 1 + 1 + 1, 0, none⟩ (.bool false)).setCell ⟨w.heap.size + 1 + 1 + 1, 1, none⟩ (.string ⟨#[48]⟩)).cell? ⟨w.heap.size + 1 + 1, 1, none⟩ = some (dtx y.natAbs) := by
      rw [World.cell?_setCell_other _ _ _ _ (by simp), World.cell?_setCell_other _ _ _ _ (by simp)]; exact d1
    have E9 : Ext w ((((w3.setCell ⟨w.heap.size + 1 + 1, 0, none⟩ (.bool (decide (y < 0)))).setCell ⟨w.heap.size + 1 + 1, 1, none⟩ (dtx y.natAbs)).setCell ⟨w.heap.size + 1 + 1 + 1, 0, none⟩ (.bool false)).setCell ⟨w.heap.size + 1 + 1 + 1, 1, none⟩ (.string ⟨#[48]⟩)) :=
      ext_set2 (b := w.heap.size + 1 + 1 + 1) (ext_set2 (b := w.heap.size + 1 + 1) E3 (by omega) _ _) (by omega) _ _
    refine bodyPost_ret (v := .tuple #[IV y, IV 0]) ?_ rfl ⟨rfl, E9⟩
    have e0 : IV 0 = .agg #[.bool false, .string ⟨#[48]⟩] := by
      have := dtx0
      show Value.agg #[.bool false, dtx 0] = _
      rw [this]
    rw [e0]
    simp [results, Tryz.f266, go_sem, d2, d3, d4, d5]
end Go.Proofs.YtadimepmoljnpaaGreatDoor.GB

namespace Go.Proofs.YtadimepmoljnpaaGreatDoor.GB
set_option linter.unusedVariables false
set_option linter.unusedSimpArgs false
open Go.RowKit Go.Shelf
attribute [local go_sem ↓] Go.wp_at_zero Go.wp_at_succ

theorem itext_0 (w : World) : Calls Tryz.prog 120 #[.agg #[.bool false, dtx 0]] w fun e w' => e = .returned (itx 0) ∧ Ext w w' := itext_any 0 w fit0
set_option maxHeartbeats 2000000 in
set_option maxRecDepth 100000 in
theorem DivMod_x (a b y : Int) (w : World) (hW : Wd w) (ha : Fit a.natAbs) (hb : Fit b.natAbs) (hbn : 0 ≤ b) (h0 : 0 < b.natAbs) (hd : a.natAbs % b.natAbs = 0)
    (hs : (if (!(decide (a < 0) == decide (b < 0))) = true then -((a.natAbs / b.natAbs : Nat) : Int) else ((a.natAbs / b.natAbs : Nat) : Int)) = y) (hy : Fit y.natAbs) :
    Calls Tryz.prog 246 #[itx a, itx b] w fun e w' => e = .returned (.tuple #[itx y, itx 0, .int .i64 0]) ∧ Ext w w' := by
  have hbz : ((⟨(Lib.decDigits b.natAbs).toArray⟩ : ByteArray).toList == [48]) = false := by rw [dtx_zero]; exact decide_eq_false (by omega)
  go_enter Tryz.func246, Tryz.ntmps246
  go_wp2_with fail
  refine (iboth_z a b _ ha hb).mono ?_
  rintro e w1 ⟨rfl, E1⟩
  go_wp2_with fail
  obtain ⟨X1, X2, E2⟩ := boxes2 w1 #[.bool (decide (a < 0)), dtx a.natAbs] #[.bool (decide (b < 0)), dtx b.natAbs] 162
  have E3 := Lib.hid (E1.tr E2)
  generalize ((w1.alloc (.cells #[.bool (decide (a < 0)), dtx a.natAbs] 162)).alloc (.cells #[.bool (decide (b < 0)), dtx b.natAbs] 162)) = W0 at *
  generalize w1.heap.size = g at *
  have a0 := X1.c0
  have a1 := X1.c1
  have b0 := X2.c0
  have b1 := X2.c1
  clear X1 X2 E1 E2
  have hW0 : Hid (Wd W0) := hW.ext E3.out
  have hbz2 : (Lib.decDigits b.natAbs == [48]) = false := by rw [← hbz, ByteArray.toList_eq]
  have hxb : decide (b < 0) = false := decide_eq_false (by omega)
  rw [hxb] at b0
  go_region_held3 (fun w' => w'.cell? ⟨g + 1, 0, none⟩ = some (.bool false) ∧ w'.cell? ⟨g + 1, 1, none⟩ = some (dtx b.natAbs)) (((try dsimp only); (repeat' apply And.intro) <;> (first | assumption)))
    (first
      | (go_at_call 157; (with_reducible refine (zero_any _).mono ?_); rintro e w' ⟨rfl, hE⟩; have q0 := Ext.cellD hE b0; have q1 := Ext.cellD hE b1; have q2 := Ext.cellD hE a0; have q3 := Ext.cellD hE a1))
  have E5 := Lib.hid ((Ext.dr' E3).tr hE)
  clear a0 a1 b0 b1 E3 hE hW0
  have HS := Lib.hid hs
  clear hs
  go_wp2_with fail
  have hdv := divide_ix a b w' (hW.ext E5.out) ha hb h0 hd y HS.out
  unfold IV at hdv
  rw [hxb] at hdv
  refine hdv.mono ?_
  rintro e w4 ⟨rfl, hE4⟩
  have E6 := Lib.hid (E5.out.tr hE4)
  clear hdv hE4 q0 q1 q2 q3
  obtain ⟨X1, X2, E7⟩ := boxes2 w4 #[.bool (decide (y < 0)), dtx y.natAbs] #[.bool false, dtx 0] 162
  have E8 := Lib.hid (E6.out.tr E7)
  go_wp2_with fail
  generalize ((w4.alloc (.cells #[.bool (decide (y < 0)), dtx y.natAbs] 162)).alloc (.cells #[.bool false, dtx 0] 162)) = W4 at *
  generalize w4.heap.size = g4 at *
  have a0 := X1.c0
  have a1 := X1.c1
  have b0 := X2.c0
  have b1 := X2.c1
  clear X1 X2 E7 E6 E5
  go_region_held3 (fun w' => w'.cell? ⟨g4, 0, none⟩ = some (.bool (decide (y < 0))) ∧ w'.cell? ⟨g4, 1, none⟩ = some (dtx y.natAbs) ∧ w'.cell? ⟨g4 + 1, 0, none⟩ = some (.bool false) ∧ w'.cell? ⟨g4 + 1, 1, none⟩ = some (dtx 0)) (((try dsimp only); (repeat' apply And.intro) <;> assumption))
    (first
      | (go_at_call 120; (with_reducible refine (itext_any y _ hy).mono ?_); rintro e w2 ⟨rfl, hE2⟩; have q0 := Ext.cellD hE2 a0; have q1 := Ext.cellD hE2 a1; have q2 := Ext.cellD hE2 b0; have q3 := Ext.cellD hE2 b1)
      | (go_at_call 120; (with_reducible refine (itext_0 _).mono ?_); rintro e w3 ⟨rfl, hE3⟩; have t0 := Ext.cellH hE3 q0; have t1 := Ext.cellH hE3 q1; have t2 := Ext.cellH hE3 q2; have t3 := Ext.cellH hE3 q3))
  go_wp2_with fail
  go_ret3
  exact ⟨rfl, ((Ext.dr' E8).tr hE2).tr hE3⟩
end Go.Proofs.YtadimepmoljnpaaGreatDoor.GB

namespace Go.Proofs.YtadimepmoljnpaaGreatDoor.GB
set_option linter.unusedVariables false
set_option linter.unusedSimpArgs false
open Go.RowKit Go.Shelf
attribute [local go_sem ↓] Go.wp_at_zero Go.wp_at_succ

set_option maxHeartbeats 2000000 in
set_option maxRecDepth 100000 in
theorem lowest_1 (s t g : ByteArray) (w : World) (hg : (g.toList == [49]) = true)
    (h1 : ∀ W, Ext w W → Calls Tryz.prog 114 #[.string s, .string t] W fun e w' => e = .returned (.string g) ∧ Ext W w') :
    Calls Tryz.prog 221 #[.string s, .string t] w fun e w' => e = .returned (.agg #[.string s, .string t]) ∧ Ext w w' := by
  have X := Bx.new w #[.string ⟨#[]⟩, .string ⟨#[]⟩] 108
  have E := (Ext.rfl' w).al (.cells #[.string ⟨#[]⟩, .string ⟨#[]⟩] 108)
  go_enter Tryz.func221, Tryz.ntmps221
  go_wp2_with fail
  generalize w.alloc (.cells #[.string ⟨#[]⟩, .string ⟨#[]⟩] 108) = W0 at *
  refine (h1 _ E).mono ?_
  rintro e w1 ⟨rfl, hE⟩
  replace X := X.ext hE
  replace E := E.tr hE
  clear hE
  have c0 := X.c0
  have c1 := X.c1
  have f0 := X.f 0
  have f1 := X.f 1
  go_wp2_with fail
  obtain ⟨d0, d1⟩ := set2 X (.string s) (.string t)
  have E2 := ext_set2 (b := w.heap.size) E (Nat.le_refl _) (.string s) (.string t)
  refine bodyPost_ret (v := .agg #[.string s, .string t]) ?_ rfl ⟨rfl, E2⟩
  simp [results, Tryz.f221, go_sem, d0, d1]
set_option maxHeartbeats 2000000 in
set_option maxRecDepth 100000 in
theorem lowest_2 (s t g s' t' r u : ByteArray) (w : World) (hg : (g.toList == [49]) = false)
    (h1 : ∀ W, Ext w W → Calls Tryz.prog 114 #[.string s, .string t] W fun e w' => e = .returned (.string g) ∧ Ext W w')
    (h2 : ∀ W, Ext w W → Calls Tryz.prog 246 #[.string s, .string g] W fun e w' => e = .returned (.tuple #[.string s', .string r, .int .i64 0]) ∧ Ext W w')
    (h3 : ∀ W, Ext w W → Calls Tryz.prog 247 #[.string t, .string g] W fun e w' => e = .returned (.tuple #[.string t', .string u, .int .i64 0]) ∧ Ext W w') :
    Calls Tryz.prog 221 #[.string s, .string t] w fun e w' => e = .returned (.agg #[.string s', .string t']) ∧ Ext w w' := by
  have X := Bx.new w #[.string ⟨#[]⟩, .string ⟨#[]⟩] 108
  have E := (Ext.rfl' w).al (.cells #[.string ⟨#[]⟩, .string ⟨#[]⟩] 108)
  go_enter Tryz.func221, Tryz.ntmps221
  go_wp2_with fail
  generalize w.alloc (.cells #[.string ⟨#[]⟩, .string ⟨#[]⟩] 108) = W0 at *
  refine (h1 _ E).mono ?_
  rintro e w1 ⟨rfl, hE⟩
  replace X := X.ext hE
  replace E := E.tr hE
  clear hE
  go_wp2_with fail
  refine (h2 _ E).mono ?_
  rintro e w2 ⟨rfl, hE⟩
  replace X := X.ext hE
  replace E := E.tr hE
  clear hE
  go_wp2_with fail
  refine (h3 _ E).mono ?_
  rintro e w3 ⟨rfl, hE⟩
  replace X := X.ext hE
  replace E := E.tr hE
  clear hE
  have c0 := X.c0
  have c1 := X.c1
  have f0 := X.f 0
  have f1 := X.f 1
  go_wp2_with fail
  obtain ⟨d0, d1⟩ := set2 X (.string s') (.string t')
  have E2 := ext_set2 (b := w.heap.size) E (Nat.le_refl _) (.string s') (.string t')
  refine bodyPost_ret (v := .agg #[.string s', .string t']) ?_ rfl ⟨rfl, E2⟩
  simp [results, Tryz.f221, go_sem, d0, d1]
theorem sgn_div (z : Int) (g : Nat) (hg : 0 < g) (hd : g ∣ z.natAbs) : (if (!(decide (z < 0) == decide ((g : Int) < 0))) = true then -((z.natAbs / (g : Int).natAbs : Nat) : Int) else ((z.natAbs / (g : Int).natAbs : Nat) : Int)) = z / (g : Int) := by
  have hgn : decide ((g : Int) < 0) = false := decide_eq_false (by omega)
  rw [hgn]
  obtain ⟨k, hk⟩ := hd
  have e1 : (g : Int).natAbs = g := by omega
  rw [e1, hk, Nat.mul_div_cancel_left _ hg]
  rcases (by omega : z < 0 ∨ 0 ≤ z) with h | h
  · have hz : z = (g : Int) * (-(k : Int)) := by rw [Int.mul_neg, ← Int.natCast_mul, ← hk]; omega
    rw [decide_eq_true h]
    simp only [Bool.true_beq, Bool.not_false, if_true]
    conv => rhs; rw [hz, Int.mul_ediv_cancel_left _ (by omega)]
  · have hz : z = (g : Int) * (k : Int) := by rw [← Int.natCast_mul, ← hk]; omega
    rw [decide_eq_false (by omega)]
    simp only [Bool.false_beq, Bool.not_false, Bool.not_true, Bool.false_eq_true, if_false]
    conv => rhs; rw [hz, Int.mul_ediv_cancel_left _ (by omega)]
theorem lowest_q (z : Int) (n : Nat) (w : World) (hW : Wd w) (hz : Fit z.natAbs) (hn : Fit n) (h0 : n ≠ 0) :
    Calls Tryz.prog 221 #[itx z, dtx n] w fun e w' => e = .returned (FV (mkRat z n)) ∧ Ext w w' := by
  obtain ⟨e1, e2⟩ := rat_lowest z n h0
  unfold FV
  rw [e1, e2]
  have hg0 : 0 < Nat.gcd z.natAbs n := Nat.gcd_pos_of_pos_right _ (Nat.pos_of_ne_zero h0)
  have hgf : Fit (Nat.gcd z.natAbs n) := hz.gcd hn
  have hgd : Nat.gcd z.natAbs n ∣ z.natAbs := Nat.gcd_dvd_left _ _
  have h1 : ∀ W, Ext w W → Calls Tryz.prog 114 #[itx z, dtx n] W fun e w' => e = .returned (dtx (Nat.gcd z.natAbs n)) ∧ Ext W w' := fun W hE => divisor_z z n W (hW.ext hE) hz hn
  by_cases hg : Nat.gcd z.natAbs n = 1
  · have h := lowest_1 _ _ _ w (by rw [dtx_one]; exact decide_eq_true hg) h1
    rw [hg]
    simp only [Int.natCast_one, Int.ediv_one, Nat.div_one]
    exact h
  · generalize Nat.gcd z.natAbs n = g at *
    have ed : itx (g : Int) = dtx g := by
      show Value.string _ = Value.string _
      rw [itoa_nat]
    have hq : z.natAbs / g ≤ z.natAbs := Nat.div_le_self _ _
    have hqa : (z / (g : Int)).natAbs ≤ z.natAbs := by
      rw [← sgn_div z g hg0 hgd]
      have e9 : (g : Int).natAbs = g := by omega
      rw [e9]
      generalize z.natAbs / g = m at *
      split <;> omega
    have e9 : (g : Int).natAbs = g := by omega
    have a1 : Fit (g : Int).natAbs := by rw [e9]; exact hgf
    have a2 : z.natAbs % (g : Int).natAbs = 0 := by rw [e9]; exact Nat.mod_eq_zero_of_dvd hgd
    have a3 : 0 < (g : Int).natAbs := by omega
    have hDM := fun W (hE : Ext w W) => DivMod_x z (g : Int) (z / (g : Int)) W (hW.ext hE) hz a1 (by omega) a3 a2 (sgn_div z g hg0 hgd) (hz.le hqa)
    rw [ed] at hDM
    exact lowest_2 _ _ _ _ _ _ _ w (by rw [dtx_one]; exact decide_eq_false hg) h1 hDM (fun W hE => DivMod_n n g W (hW.ext hE) hn hgf hg0)
end Go.Proofs.YtadimepmoljnpaaGreatDoor.GB

namespace Go.Proofs.YtadimepmoljnpaaGreatDoor.GB
set_option linter.unusedVariables false
set_option linter.unusedSimpArgs false
open Go.RowKit Go.Shelf
attribute [local go_sem ↓] Go.wp_at_zero Go.wp_at_succ

/-- What Euclid's loop holds: two numbers of the same greatest common divisor, in bounds. -/
def OInv (p q a b : Int) : Prop := Int.gcd a b = Int.gcd p q ∧ a.natAbs < 9223372036854775808 ∧ b.natAbs < 9223372036854775808
theorem OInv.step {p q a b : Int} (h : OInv p q a b) (hb : b ≠ 0) : OInv p q b (a.tmod b) ∧ (a.tmod b).natAbs < b.natAbs := by
  obtain ⟨h1, h2, h3⟩ := h
  have e : (a.tmod b).natAbs = a.natAbs % b.natAbs := Int.natAbs_tmod _ _
  have e2 : a.natAbs % b.natAbs < b.natAbs := Nat.mod_lt _ (by omega)
  refine ⟨⟨?_, h3, by omega⟩, by omega⟩
  rw [← h1]
  unfold Int.gcd
  rw [e, Nat.gcd_comm, ← Nat.gcd_rec, Nat.gcd_comm]
theorem OInv.done {p q a : Int} (h : OInv p q a 0) : a.natAbs = Nat.gcd p.natAbs q.natAbs := by
  have := h.1
  unfold Int.gcd at this
  simpa using this
theorem max_neg (a : Int) : max a (-a) = (a.natAbs : Int) := by omega
theorem OInv.max {p q a : Int} (h : OInv p q a 0) : Max.max a (wrap64 (-a)) = ((Nat.gcd p.natAbs q.natAbs : Nat) : Int) := by
  have h1 : wrap64 (-a) = -a := by
    have := h.2.1
    unfold wrap64
    omega
  rw [h1, max_neg, h.done]
theorem fmt_z (x : Int) (h : Hid (x.natAbs < 9223372036854775808)) (w : World) (hW : Hid (Wd w)) :
    Calls Tryz.prog 245 #[.int .i64 x, .int .i64 10] w fun e w' => e = .returned (itx x) ∧ Ext w w' := by
  have := h.out
  refine (Tryz.strconv_FormatInt_10 x (by omega) (by omega) w hW.out.tab).mono ?_
  rintro e w' ⟨rfl, k, os, rfl⟩
  exact ⟨rfl, Ext.grow _ _ _⟩
theorem tdiv_abs (x g : Int) (h : Hid (x.natAbs < 9223372036854775808)) : Hid ((x.tdiv g).natAbs < 9223372036854775808) := by
  have := h.out
  have e : (x.tdiv g).natAbs = x.natAbs / g.natAbs := Int.natAbs_tdiv _ _
  have := Nat.div_le_self x.natAbs g.natAbs
  unfold Hid
  omega
theorem wrap_abs (x : Int) (h : Hid (x.natAbs < 9223372036854775808)) : wrap64 x = x := by
  have := h.out
  unfold wrap64
  omega

set_option maxHeartbeats 2000000 in
set_option maxRecDepth 100000 in
theorem of_w (p q : Int) (w : World) (hW : Wd w) (hI : Hid (OInv p q p q)) (hq : Hid (0 < q)) :
    Calls Tryz.prog 219 #[.int .i64 p, .int .i64 q] w fun e w' => e = .returned (.agg #[itx (p.tdiv (Nat.gcd p.natAbs q.natAbs : Nat)), itx (q.tdiv (Nat.gcd p.natAbs q.natAbs : Nat))]) ∧ Ext w w' := by
  have X := Bx.new w #[.string ⟨#[]⟩, .string ⟨#[]⟩] 108
  have E := (Ext.rfl' w).al (.cells #[.string ⟨#[]⟩, .string ⟨#[]⟩] 108)
  go_enter Tryz.func219, Tryz.ntmps219
  go_wp2_with fail
  generalize w.alloc (.cells #[.string ⟨#[]⟩, .string ⟨#[]⟩] 108) = W0 at *
  go_loopw [5, 6] (fun u v wr => ∃ a b : Int, u = .int .i64 a ∧ v = .int .i64 b ∧ Hid (OInv p q a b) ∧ Hid (Bx wr w.heap.size #[.string ⟨#[]⟩, .string ⟨#[]⟩] 108) ∧ Hid (Ext w wr)) (fun _ v _ => (intOf v).natAbs)
  case atStart => exact ⟨p, q, rfl, rfl, hI, Lib.hid X, Lib.hid E⟩
  case round =>
    obtain ⟨a, b, rfl, rfl, HO, HX, HE⟩ := hrel
    clear X E
    by_cases hb : b = 0
    · subst hb
      have hm := HO.out.max
      have hp9 : Hid (p.natAbs < 9223372036854775808) := hI.out.2.1
      have hq9 : Hid (q.natAbs < 9223372036854775808) := hI.out.2.2
      have hgn : ((((Nat.gcd p.natAbs q.natAbs : Nat) : Int)) == 0) = false := by
        have h0 : 0 < Nat.gcd p.natAbs q.natAbs := Nat.gcd_pos_of_pos_right _ (by have := hq.out; omega)
        rw [beq_eq_false_iff_ne]; omega
      generalize hgd : ((Nat.gcd p.natAbs q.natAbs : Nat) : Int) = g at *
      have HGD := Lib.hid hgd
      clear hgd
      have hgn2 : ¬ (g = 0) := beq_eq_false_iff_ne.1 hgn
      have hP := tdiv_abs p g hp9
      have hQ := tdiv_abs q g hq9
      have wP := wrap_abs _ hP
      have wQ := wrap_abs _ hQ
      have wP2 : IntKind.i64.wrap (p.tdiv g) = p.tdiv g := by rw [IntKind.wrap_i64]; have := hP.out; omega
      have wQ2 : IntKind.i64.wrap (q.tdiv g) = q.tdiv g := by rw [IntKind.wrap_i64]; have := hQ.out; omega
      have HW1 : Hid (Wd wr.drew) := hW.ext (Ext.dr' HE)
      go_wp2_with fail
      (go_region_with (first
        | (go_at_call 245; (with_reducible refine (fmt_z (p.tdiv g) hP _ HW1).mono ?_); rintro e w2 ⟨rfl, hE2⟩; have HX2 := Lib.hid (Bx.ext (Bx.drH HX).out hE2); have E2 := Lib.hid ((Ext.dr' HE).tr hE2); have HW2 := Lib.hid (Wd.ext HW1.out hE2); clear hE2)
        | (go_at_call 245; (with_reducible refine (fmt_z (q.tdiv g) hQ _ HW2).mono ?_); rintro e w3 ⟨rfl, hE3⟩; have HX3 := Lib.hid (Bx.ext HX2.out hE3); have E3 := Lib.hid (E2.out.tr hE3); have c0 := HX3.out.c0; have c1 := HX3.out.c1; have f0 := HX3.out.f 0; have f1 := HX3.out.f 1; clear hE3)))
      all_goals
        go_wp2_with fail
        obtain ⟨d0, d1⟩ := set2 HX3.out (itx (p.tdiv g)) (itx (q.tdiv g))
        refine bodyPost_ret (v := .agg #[itx (p.tdiv g), itx (q.tdiv g)]) ?_ rfl ⟨by rw [HGD.out], ext_set2 (b := w.heap.size) E3.out (Nat.le_refl _) _ _⟩
        simp [results, Tryz.f219, go_sem, d0, d1]
    · have hb1 : (b == 0) = false := by simpa using hb
      have hb2 : (b != 0) = true := by simpa using hb
      have HS := Lib.hid (HO.out.step hb)
      have hb3 : ¬ (b = 0) := hb
      go_wp2_with fail
      go_quiet (fail)
      go_wp2
      go_roundw
      case rel => exact ⟨b, a.tmod b, rfl, rfl, HS.out.1, HX, HE.out.drN _⟩
      case measure => simp [intOf]; have := HS.out.2; rw [Int.natAbs_tmod] at this; exact this
theorem tdiv_ediv {x : Int} {g : Nat} (hg : 0 < g) (hd : g ∣ x.natAbs) : x.tdiv (g : Int) = x / (g : Int) := by
  have : ((g : Int)) ∣ x := Int.natAbs_dvd_natAbs.1 (by rw [Int.natAbs_natCast]; exact hd)
  exact (Int.tdiv_eq_ediv_of_dvd this)
theorem of_q (p q : Int) (w : World) (hW : Wd w) (hp : p.natAbs < 9223372036854775808) (hq : q.natAbs < 9223372036854775808) (h0 : 0 < q) :
    Calls Tryz.prog 219 #[.int .i64 p, .int .i64 q] w fun e w' => e = .returned (FV (mkRat p q.toNat)) ∧ Ext w w' := by
  have hn0 : q.toNat ≠ 0 := by omega
  have hqn : q.natAbs = q.toNat := by omega
  obtain ⟨e1, e2⟩ := rat_lowest p q.toNat hn0
  have h := of_w p q w hW ⟨rfl, hp, hq⟩ h0
  have hg : 0 < Nat.gcd p.natAbs q.natAbs := Nat.gcd_pos_of_pos_right _ (by omega)
  rw [tdiv_ediv hg (Nat.gcd_dvd_left _ _), tdiv_ediv hg (Nat.gcd_dvd_right _ _)] at h
  unfold FV
  rw [e1, e2]
  rw [hqn] at h
  have e3 : q / ((Nat.gcd p.natAbs q.toNat : Nat) : Int) = ((q.toNat / Nat.gcd p.natAbs q.toNat : Nat) : Int) := by
    generalize Nat.gcd p.natAbs q.toNat = g
    rw [Int.natCast_ediv, Int.toNat_of_nonneg (Int.le_of_lt h0)]
  rw [e3] at h
  have e4 : itx ((q.toNat / Nat.gcd p.natAbs q.toNat : Nat) : Int) = dtx (q.toNat / Nat.gcd p.natAbs q.toNat) := by
    show Value.string _ = Value.string _
    rw [itoa_nat]
  rw [e4] at h
  exact h
end Go.Proofs.YtadimepmoljnpaaGreatDoor.GB

namespace Go.Proofs.YtadimepmoljnpaaGreatDoor.GB
set_option linter.unusedVariables false
set_option linter.unusedSimpArgs false
open Go.RowKit Go.Shelf
attribute [local go_sem ↓] Go.wp_at_zero Go.wp_at_succ

theorem Bx.e2 {w : World} {b : Nat} {x y : Value} {T : TypeId} (h : Bx w b #[x, y] T) : w.cell? ⟨b, 0, none⟩ = some x ∧ w.cell? ⟨b, 1, none⟩ = some y ∧ w.frozen? ⟨b, 0, none⟩ = false ∧ w.frozen? ⟨b, 1, none⟩ = false := ⟨h.c0, h.c1, h.f 0, h.f 1⟩
set_option maxHeartbeats 4000000 in
set_option maxRecDepth 100000 in
theorem rplus_1 (s t s' t' a b : ByteArray) (p q r u : Int) (w : World)
    (h1 : ∀ W, Ext w W → Calls Tryz.prog 218 #[.agg #[.string s, .string t]] W fun e w' => e = .returned (.tuple #[.int .i64 p, .int .i64 q, .bool true]) ∧ Ext W w')
    (h2 : ∀ W, Ext w W → Calls Tryz.prog 218 #[.agg #[.string s', .string t']] W fun e w' => e = .returned (.tuple #[.int .i64 r, .int .i64 u, .bool true]) ∧ Ext W w')
    (hw1 : wrap64 (p * u) = p * u) (hw2 : wrap64 (r * q) = r * q) (hw3 : wrap64 (p * u + r * q) = p * u + r * q) (hw4 : wrap64 (q * u) = q * u)
    (h3 : ∀ W, Ext w W → Calls Tryz.prog 219 #[.int .i64 (p * u + r * q), .int .i64 (q * u)] W fun e w' => e = .returned (.agg #[.string a, .string b]) ∧ Ext W w') :
    Calls Tryz.prog 190 #[.agg #[.string s, .string t], .agg #[.string s', .string t']] w fun e w' => e = .returned (.agg #[.string a, .string b]) ∧ Ext w w' := by
  have X1 := (Bx.new w #[.string s, .string t] 108).al (.cells #[.string s', .string t'] 108) |>.al (.cells #[.string ⟨#[]⟩, .string ⟨#[]⟩] 108)
  obtain ⟨_, X2, X3, E⟩ := boxes3 w #[.string s, .string t] #[.string s', .string t'] #[.string ⟨#[]⟩, .string ⟨#[]⟩] 108
  go_enter Tryz.func190, Tryz.ntmps190
  go_wp2_with fail
  generalize ((w.alloc (.cells #[.string s, .string t] 108)).alloc (.cells #[.string s', .string t'] 108)).alloc (.cells #[.string ⟨#[]⟩, .string ⟨#[]⟩] 108) = W0 at *
  refine (h1 _ E).mono ?_
  rintro e w1 ⟨rfl, hE⟩
  replace X1 := X1.ext hE
  replace X2 := X2.ext hE
  replace X3 := X3.ext hE
  replace E := E.tr hE
  clear hE
  obtain ⟨c20, c21, f20, f21⟩ := X2.e2
  go_wp2_with fail
  refine (h2 _ E).mono ?_
  rintro e w2 ⟨rfl, hE⟩
  replace X1 := X1.ext hE
  replace X2 := X2.ext hE
  replace X3 := X3.ext hE
  replace E := E.tr hE
  clear hE
  clear c20 c21 f20 f21
  go_wp2_with fail
  refine (h3 _ E).mono ?_
  rintro e w3 ⟨rfl, hE⟩
  replace X1 := X1.ext hE
  replace X2 := X2.ext hE
  replace X3 := X3.ext hE
  replace E := E.tr hE
  clear hE
  obtain ⟨c30, c31, f30, f31⟩ := X3.e2
  go_wp2_with fail
  obtain ⟨d0, d1⟩ := set2 X3 (.string a) (.string b)
  have E2 := ext_set2 (b := w.heap.size + 1 + 1) E (by omega) (.string a) (.string b)
  refine bodyPost_ret (v := .agg #[.string a, .string b]) ?_ rfl ⟨rfl, E2⟩
  simp [results, Tryz.f190, go_sem, d0, d1]
set_option maxHeartbeats 4000000 in
set_option maxRecDepth 100000 in
theorem rplus_2 (s t s' t' a b A B C D : ByteArray) (p q r u : Int) (x : Bool) (w : World)
    (h1 : ∀ W, Ext w W → Calls Tryz.prog 218 #[.agg #[.string s, .string t]] W fun e w' => e = .returned (.tuple #[.int .i64 p, .int .i64 q, .bool false]) ∧ Ext W w') 
    (h2 : ∀ W, Ext w W → Calls Tryz.prog 218 #[.agg #[.string s', .string t']] W fun e w' => e = .returned (.tuple #[.int .i64 r, .int .i64 u, .bool x]) ∧ Ext W w') 
    (h3 : ∀ W, Ext w W → Calls Tryz.prog 76 #[.string s, .string t'] W fun e w' => e = .returned (.tuple #[.string A, .int .i64 0]) ∧ Ext W w') 
    (h4 : ∀ W, Ext w W → Calls Tryz.prog 76 #[.string s', .string t] W fun e w' => e = .returned (.tuple #[.string B, .int .i64 0]) ∧ Ext W w') 
    (h5 : ∀ W, Ext w W → Calls Tryz.prog 220 #[.string A, .string B] W fun e w' => e = .returned (.tuple #[.string C, .int .i64 0]) ∧ Ext W w') 
    (h6 : ∀ W, Ext w W → Calls Tryz.prog 158 #[.string t, .string t'] W fun e w' => e = .returned (.tuple #[.string D, .int .i64 0]) ∧ Ext W w') 
    (h7 : ∀ W, Ext w W → Calls Tryz.prog 221 #[.string C, .string D] W fun e w' => e = .returned (.agg #[.string a, .string b]) ∧ Ext W w') :
    Calls Tryz.prog 190 #[.agg #[.string s, .string t], .agg #[.string s', .string t']] w fun e w' => e = .returned (.agg #[.string a, .string b]) ∧ Ext w w' := by
  have X1 := (Bx.new w #[.string s, .string t] 108).al (.cells #[.string s', .string t'] 108) |>.al (.cells #[.string ⟨#[]⟩, .string ⟨#[]⟩] 108)
  obtain ⟨_, X2, X3, E⟩ := boxes3 w #[.string s, .string t] #[.string s', .string t'] #[.string ⟨#[]⟩, .string ⟨#[]⟩] 108
  go_enter Tryz.func190, Tryz.ntmps190
  go_wp2_with fail
  generalize ((w.alloc (.cells #[.string s, .string t] 108)).alloc (.cells #[.string s', .string t'] 108)).alloc (.cells #[.string ⟨#[]⟩, .string ⟨#[]⟩] 108) = W0 at *
  refine (h1 _ E).mono ?_
  rintro e w1 ⟨rfl, hE⟩
  replace X1 := X1.ext hE
  replace X2 := X2.ext hE
  replace X3 := X3.ext hE
  replace E := E.tr hE
  clear hE
  obtain ⟨c10, c11, f10, f11⟩ := X1.e2
  obtain ⟨c20, c21, f20, f21⟩ := X2.e2
  obtain ⟨c30, c31, f30, f31⟩ := X3.e2
  go_wp2_with fail
  refine (h2 _ E).mono ?_
  rintro e w2 ⟨rfl, hE⟩
  replace X1 := X1.ext hE
  replace X2 := X2.ext hE
  replace X3 := X3.ext hE
  replace E := E.tr hE
  clear hE
  clear c10 c11 f10 f11 c20 c21 f20 f21 c30 c31 f30 f31
  obtain ⟨c10, c11, f10, f11⟩ := X1.e2
  obtain ⟨c20, c21, f20, f21⟩ := X2.e2
  obtain ⟨c30, c31, f30, f31⟩ := X3.e2
  go_wp2_with fail
  refine (h3 _ E).mono ?_
  rintro e w3 ⟨rfl, hE⟩
  replace X1 := X1.ext hE
  replace X2 := X2.ext hE
  replace X3 := X3.ext hE
  replace E := E.tr hE
  clear hE
  clear c10 c11 f10 f11 c20 c21 f20 f21 c30 c31 f30 f31
  obtain ⟨c10, c11, f10, f11⟩ := X1.e2
  obtain ⟨c20, c21, f20, f21⟩ := X2.e2
  obtain ⟨c30, c31, f30, f31⟩ := X3.e2
  go_wp2_with fail
  refine (h4 _ E).mono ?_
  rintro e w4 ⟨rfl, hE⟩
  replace X1 := X1.ext hE
  replace X2 := X2.ext hE
  replace X3 := X3.ext hE
  replace E := E.tr hE
  clear hE
  clear c10 c11 f10 f11 c20 c21 f20 f21 c30 c31 f30 f31
  obtain ⟨c10, c11, f10, f11⟩ := X1.e2
  obtain ⟨c20, c21, f20, f21⟩ := X2.e2
  obtain ⟨c30, c31, f30, f31⟩ := X3.e2
  go_wp2_with fail
  refine (h5 _ E).mono ?_
  rintro e w5 ⟨rfl, hE⟩
  replace X1 := X1.ext hE
  replace X2 := X2.ext hE
  replace X3 := X3.ext hE
  replace E := E.tr hE
  clear hE
  clear c10 c11 f10 f11 c20 c21 f20 f21 c30 c31 f30 f31
  obtain ⟨c10, c11, f10, f11⟩ := X1.e2
  obtain ⟨c20, c21, f20, f21⟩ := X2.e2
  obtain ⟨c30, c31, f30, f31⟩ := X3.e2
  go_wp2_with fail
  refine (h6 _ E).mono ?_
  rintro e w6 ⟨rfl, hE⟩
  replace X1 := X1.ext hE
  replace X2 := X2.ext hE
  replace X3 := X3.ext hE
  replace E := E.tr hE
  clear hE
  clear c10 c11 f10 f11 c20 c21 f20 f21 c30 c31 f30 f31
  obtain ⟨c10, c11, f10, f11⟩ := X1.e2
  obtain ⟨c20, c21, f20, f21⟩ := X2.e2
  obtain ⟨c30, c31, f30, f31⟩ := X3.e2
  go_wp2_with fail
  refine (h7 _ E).mono ?_
  rintro e w7 ⟨rfl, hE⟩
  replace X1 := X1.ext hE
  replace X2 := X2.ext hE
  replace X3 := X3.ext hE
  replace E := E.tr hE
  clear hE
  clear c10 c11 f10 f11 c20 c21 f20 f21 c30 c31 f30 f31
  obtain ⟨c10, c11, f10, f11⟩ := X1.e2
  obtain ⟨c20, c21, f20, f21⟩ := X2.e2
  obtain ⟨c30, c31, f30, f31⟩ := X3.e2
  go_wp2_with fail
  obtain ⟨d0, d1⟩ := set2 X3 (.string a) (.string b)
  have E2 := ext_set2 (b := w.heap.size + 1 + 1) E (by omega) (.string a) (.string b)
  refine bodyPost_ret (v := .agg #[.string a, .string b]) ?_ rfl ⟨rfl, E2⟩
  simp [results, Tryz.f190, go_sem, d0, d1]
set_option maxHeartbeats 4000000 in
set_option maxRecDepth 100000 in
theorem rplus_3 (s t s' t' a b A B C D : ByteArray) (p q r u : Int) (x : Bool) (w : World)
    (h1 : ∀ W, Ext w W → Calls Tryz.prog 218 #[.agg #[.string s, .string t]] W fun e w' => e = .returned (.tuple #[.int .i64 p, .int .i64 q, .bool true]) ∧ Ext W w') 
    (h2 : ∀ W, Ext w W → Calls Tryz.prog 218 #[.agg #[.string s', .string t']] W fun e w' => e = .returned (.tuple #[.int .i64 r, .int .i64 u, .bool false]) ∧ Ext W w') 
    (h3 : ∀ W, Ext w W → Calls Tryz.prog 76 #[.string s, .string t'] W fun e w' => e = .returned (.tuple #[.string A, .int .i64 0]) ∧ Ext W w') 
    (h4 : ∀ W, Ext w W → Calls Tryz.prog 76 #[.string s', .string t] W fun e w' => e = .returned (.tuple #[.string B, .int .i64 0]) ∧ Ext W w') 
    (h5 : ∀ W, Ext w W → Calls Tryz.prog 220 #[.string A, .string B] W fun e w' => e = .returned (.tuple #[.string C, .int .i64 0]) ∧ Ext W w') 
    (h6 : ∀ W, Ext w W → Calls Tryz.prog 158 #[.string t, .string t'] W fun e w' => e = .returned (.tuple #[.string D, .int .i64 0]) ∧ Ext W w') 
    (h7 : ∀ W, Ext w W → Calls Tryz.prog 221 #[.string C, .string D] W fun e w' => e = .returned (.agg #[.string a, .string b]) ∧ Ext W w') :
    Calls Tryz.prog 190 #[.agg #[.string s, .string t], .agg #[.string s', .string t']] w fun e w' => e = .returned (.agg #[.string a, .string b]) ∧ Ext w w' := by
  have X1 := (Bx.new w #[.string s, .string t] 108).al (.cells #[.string s', .string t'] 108) |>.al (.cells #[.string ⟨#[]⟩, .string ⟨#[]⟩] 108)
  obtain ⟨_, X2, X3, E⟩ := boxes3 w #[.string s, .string t] #[.string s', .string t'] #[.string ⟨#[]⟩, .string ⟨#[]⟩] 108
  go_enter Tryz.func190, Tryz.ntmps190
  go_wp2_with fail
  generalize ((w.alloc (.cells #[.string s, .string t] 108)).alloc (.cells #[.string s', .string t'] 108)).alloc (.cells #[.string ⟨#[]⟩, .string ⟨#[]⟩] 108) = W0 at *
  refine (h1 _ E).mono ?_
  rintro e w1 ⟨rfl, hE⟩
  replace X1 := X1.ext hE
  replace X2 := X2.ext hE
  replace X3 := X3.ext hE
  replace E := E.tr hE
  clear hE
  obtain ⟨c10, c11, f10, f11⟩ := X1.e2
  obtain ⟨c20, c21, f20, f21⟩ := X2.e2
  obtain ⟨c30, c31, f30, f31⟩ := X3.e2
  go_wp2_with fail
  refine (h2 _ E).mono ?_
  rintro e w2 ⟨rfl, hE⟩
  replace X1 := X1.ext hE
  replace X2 := X2.ext hE
  replace X3 := X3.ext hE
  replace E := E.tr hE
  clear hE
  clear c10 c11 f10 f11 c20 c21 f20 f21 c30 c31 f30 f31
  obtain ⟨c10, c11, f10, f11⟩ := X1.e2
  obtain ⟨c20, c21, f20, f21⟩ := X2.e2
  obtain ⟨c30, c31, f30, f31⟩ := X3.e2
  go_wp2_with fail
  refine (h3 _ E).mono ?_
  rintro e w3 ⟨rfl, hE⟩
  replace X1 := X1.ext hE
  replace X2 := X2.ext hE
  replace X3 := X3.ext hE
  replace E := E.tr hE
  clear hE
  clear c10 c11 f10 f11 c20 c21 f20 f21 c30 c31 f30 f31
  obtain ⟨c10, c11, f10, f11⟩ := X1.e2
  obtain ⟨c20, c21, f20, f21⟩ := X2.e2
  obtain ⟨c30, c31, f30, f31⟩ := X3.e2
  go_wp2_with fail
  refine (h4 _ E).mono ?_
  rintro e w4 ⟨rfl, hE⟩
  replace X1 := X1.ext hE
  replace X2 := X2.ext hE
  replace X3 := X3.ext hE
  replace E := E.tr hE
  clear hE
  clear c10 c11 f10 f11 c20 c21 f20 f21 c30 c31 f30 f31
  obtain ⟨c10, c11, f10, f11⟩ := X1.e2
  obtain ⟨c20, c21, f20, f21⟩ := X2.e2
  obtain ⟨c30, c31, f30, f31⟩ := X3.e2
  go_wp2_with fail
  refine (h5 _ E).mono ?_
  rintro e w5 ⟨rfl, hE⟩
  replace X1 := X1.ext hE
  replace X2 := X2.ext hE
  replace X3 := X3.ext hE
  replace E := E.tr hE
  clear hE
  clear c10 c11 f10 f11 c20 c21 f20 f21 c30 c31 f30 f31
  obtain ⟨c10, c11, f10, f11⟩ := X1.e2
  obtain ⟨c20, c21, f20, f21⟩ := X2.e2
  obtain ⟨c30, c31, f30, f31⟩ := X3.e2
  go_wp2_with fail
  refine (h6 _ E).mono ?_
  rintro e w6 ⟨rfl, hE⟩
  replace X1 := X1.ext hE
  replace X2 := X2.ext hE
  replace X3 := X3.ext hE
  replace E := E.tr hE
  clear hE
  clear c10 c11 f10 f11 c20 c21 f20 f21 c30 c31 f30 f31
  obtain ⟨c10, c11, f10, f11⟩ := X1.e2
  obtain ⟨c20, c21, f20, f21⟩ := X2.e2
  obtain ⟨c30, c31, f30, f31⟩ := X3.e2
  go_wp2_with fail
  refine (h7 _ E).mono ?_
  rintro e w7 ⟨rfl, hE⟩
  replace X1 := X1.ext hE
  replace X2 := X2.ext hE
  replace X3 := X3.ext hE
  replace E := E.tr hE
  clear hE
  clear c10 c11 f10 f11 c20 c21 f20 f21 c30 c31 f30 f31
  obtain ⟨c10, c11, f10, f11⟩ := X1.e2
  obtain ⟨c20, c21, f20, f21⟩ := X2.e2
  obtain ⟨c30, c31, f30, f31⟩ := X3.e2
  go_wp2_with fail
  obtain ⟨d0, d1⟩ := set2 X3 (.string a) (.string b)
  have E2 := ext_set2 (b := w.heap.size + 1 + 1) E (by omega) (.string a) (.string b)
  refine bodyPost_ret (v := .agg #[.string a, .string b]) ?_ rfl ⟨rfl, E2⟩
  simp [results, Tryz.f190, go_sem, d0, d1]
set_option maxHeartbeats 4000000 in
set_option maxRecDepth 100000 in
theorem rtimes_1 (s t s' t' a b : ByteArray) (p q r u : Int) (w : World)
    (h1 : ∀ W, Ext w W → Calls Tryz.prog 218 #[.agg #[.string s, .string t]] W fun e w' => e = .returned (.tuple #[.int .i64 p, .int .i64 q, .bool true]) ∧ Ext W w')
    (h2 : ∀ W, Ext w W → Calls Tryz.prog 218 #[.agg #[.string s', .string t']] W fun e w' => e = .returned (.tuple #[.int .i64 r, .int .i64 u, .bool true]) ∧ Ext W w')
    (hw1 : wrap64 (p * r) = p * r) (hw4 : wrap64 (q * u) = q * u)
    (h3 : ∀ W, Ext w W → Calls Tryz.prog 219 #[.int .i64 (p * r), .int .i64 (q * u)] W fun e w' => e = .returned (.agg #[.string a, .string b]) ∧ Ext W w') :
    Calls Tryz.prog 191 #[.agg #[.string s, .string t], .agg #[.string s', .string t']] w fun e w' => e = .returned (.agg #[.string a, .string b]) ∧ Ext w w' := by
  have X1 := (Bx.new w #[.string s, .string t] 108).al (.cells #[.string s', .string t'] 108) |>.al (.cells #[.string ⟨#[]⟩, .string ⟨#[]⟩] 108)
  obtain ⟨_, X2, X3, E⟩ := boxes3 w #[.string s, .string t] #[.string s', .string t'] #[.string ⟨#[]⟩, .string ⟨#[]⟩] 108
  go_enter Tryz.func191, Tryz.ntmps191
  go_wp2_with fail
  generalize ((w.alloc (.cells #[.string s, .string t] 108)).alloc (.cells #[.string s', .string t'] 108)).alloc (.cells #[.string ⟨#[]⟩, .string ⟨#[]⟩] 108) = W0 at *
  refine (h1 _ E).mono ?_
  rintro e w1 ⟨rfl, hE⟩
  replace X1 := X1.ext hE
  replace X2 := X2.ext hE
  replace X3 := X3.ext hE
  replace E := E.tr hE
  clear hE
  obtain ⟨c20, c21, f20, f21⟩ := X2.e2
  go_wp2_with fail
  refine (h2 _ E).mono ?_
  rintro e w2 ⟨rfl, hE⟩
  replace X1 := X1.ext hE
  replace X2 := X2.ext hE
  replace X3 := X3.ext hE
  replace E := E.tr hE
  clear hE
  clear c20 c21 f20 f21
  go_wp2_with fail
  refine (h3 _ E).mono ?_
  rintro e w3 ⟨rfl, hE⟩
  replace X1 := X1.ext hE
  replace X2 := X2.ext hE
  replace X3 := X3.ext hE
  replace E := E.tr hE
  clear hE
  obtain ⟨c30, c31, f30, f31⟩ := X3.e2
  go_wp2_with fail
  obtain ⟨d0, d1⟩ := set2 X3 (.string a) (.string b)
  have E2 := ext_set2 (b := w.heap.size + 1 + 1) E (by omega) (.string a) (.string b)
  refine bodyPost_ret (v := .agg #[.string a, .string b]) ?_ rfl ⟨rfl, E2⟩
  simp [results, Tryz.f191, go_sem, d0, d1]
set_option maxHeartbeats 4000000 in
set_option maxRecDepth 100000 in
theorem rtimes_2 (s t s' t' a b C D : ByteArray) (p q r u : Int) (x : Bool) (w : World)
    (h1 : ∀ W, Ext w W → Calls Tryz.prog 218 #[.agg #[.string s, .string t]] W fun e w' => e = .returned (.tuple #[.int .i64 p, .int .i64 q, .bool false]) ∧ Ext W w') 
    (h2 : ∀ W, Ext w W → Calls Tryz.prog 218 #[.agg #[.string s', .string t']] W fun e w' => e = .returned (.tuple #[.int .i64 r, .int .i64 u, .bool x]) ∧ Ext W w') 
    (h3 : ∀ W, Ext w W → Calls Tryz.prog 76 #[.string s, .string s'] W fun e w' => e = .returned (.tuple #[.string C, .int .i64 0]) ∧ Ext W w') 
    (h6 : ∀ W, Ext w W → Calls Tryz.prog 158 #[.string t, .string t'] W fun e w' => e = .returned (.tuple #[.string D, .int .i64 0]) ∧ Ext W w') 
    (h7 : ∀ W, Ext w W → Calls Tryz.prog 221 #[.string C, .string D] W fun e w' => e = .returned (.agg #[.string a, .string b]) ∧ Ext W w') :
    Calls Tryz.prog 191 #[.agg #[.string s, .string t], .agg #[.string s', .string t']] w fun e w' => e = .returned (.agg #[.string a, .string b]) ∧ Ext w w' := by
  have X1 := (Bx.new w #[.string s, .string t] 108).al (.cells #[.string s', .string t'] 108) |>.al (.cells #[.string ⟨#[]⟩, .string ⟨#[]⟩] 108)
  obtain ⟨_, X2, X3, E⟩ := boxes3 w #[.string s, .string t] #[.string s', .string t'] #[.string ⟨#[]⟩, .string ⟨#[]⟩] 108
  go_enter Tryz.func191, Tryz.ntmps191
  go_wp2_with fail
  generalize ((w.alloc (.cells #[.string s, .string t] 108)).alloc (.cells #[.string s', .string t'] 108)).alloc (.cells #[.string ⟨#[]⟩, .string ⟨#[]⟩] 108) = W0 at *
  refine (h1 _ E).mono ?_
  rintro e w1 ⟨rfl, hE⟩
  replace X1 := X1.ext hE
  replace X2 := X2.ext hE
  replace X3 := X3.ext hE
  replace E := E.tr hE
  clear hE
  obtain ⟨c10, c11, f10, f11⟩ := X1.e2
  obtain ⟨c20, c21, f20, f21⟩ := X2.e2
  obtain ⟨c30, c31, f30, f31⟩ := X3.e2
  go_wp2_with fail
  refine (h2 _ E).mono ?_
  rintro e w2 ⟨rfl, hE⟩
  replace X1 := X1.ext hE
  replace X2 := X2.ext hE
  replace X3 := X3.ext hE
  replace E := E.tr hE
  clear hE
  clear c10 c11 f10 f11 c20 c21 f20 f21 c30 c31 f30 f31
  obtain ⟨c10, c11, f10, f11⟩ := X1.e2
  obtain ⟨c20, c21, f20, f21⟩ := X2.e2
  obtain ⟨c30, c31, f30, f31⟩ := X3.e2
  go_wp2_with fail
  refine (h3 _ E).mono ?_
  rintro e w3 ⟨rfl, hE⟩
  replace X1 := X1.ext hE
  replace X2 := X2.ext hE
  replace X3 := X3.ext hE
  replace E := E.tr hE
  clear hE
  clear c10 c11 f10 f11 c20 c21 f20 f21 c30 c31 f30 f31
  obtain ⟨c10, c11, f10, f11⟩ := X1.e2
  obtain ⟨c20, c21, f20, f21⟩ := X2.e2
  obtain ⟨c30, c31, f30, f31⟩ := X3.e2
  go_wp2_with fail
  refine (h6 _ E).mono ?_
  rintro e w4 ⟨rfl, hE⟩
  replace X1 := X1.ext hE
  replace X2 := X2.ext hE
  replace X3 := X3.ext hE
  replace E := E.tr hE
  clear hE
  clear c10 c11 f10 f11 c20 c21 f20 f21 c30 c31 f30 f31
  obtain ⟨c10, c11, f10, f11⟩ := X1.e2
  obtain ⟨c20, c21, f20, f21⟩ := X2.e2
  obtain ⟨c30, c31, f30, f31⟩ := X3.e2
  go_wp2_with fail
  refine (h7 _ E).mono ?_
  rintro e w5 ⟨rfl, hE⟩
  replace X1 := X1.ext hE
  replace X2 := X2.ext hE
  replace X3 := X3.ext hE
  replace E := E.tr hE
  clear hE
  clear c10 c11 f10 f11 c20 c21 f20 f21 c30 c31 f30 f31
  obtain ⟨c10, c11, f10, f11⟩ := X1.e2
  obtain ⟨c20, c21, f20, f21⟩ := X2.e2
  obtain ⟨c30, c31, f30, f31⟩ := X3.e2
  go_wp2_with fail
  obtain ⟨d0, d1⟩ := set2 X3 (.string a) (.string b)
  have E2 := ext_set2 (b := w.heap.size + 1 + 1) E (by omega) (.string a) (.string b)
  refine bodyPost_ret (v := .agg #[.string a, .string b]) ?_ rfl ⟨rfl, E2⟩
  simp [results, Tryz.f191, go_sem, d0, d1]
set_option maxHeartbeats 4000000 in
set_option maxRecDepth 100000 in
theorem rtimes_3 (s t s' t' a b C D : ByteArray) (p q r u : Int) (x : Bool) (w : World)
    (h1 : ∀ W, Ext w W → Calls Tryz.prog 218 #[.agg #[.string s, .string t]] W fun e w' => e = .returned (.tuple #[.int .i64 p, .int .i64 q, .bool true]) ∧ Ext W w') 
    (h2 : ∀ W, Ext w W → Calls Tryz.prog 218 #[.agg #[.string s', .string t']] W fun e w' => e = .returned (.tuple #[.int .i64 r, .int .i64 u, .bool false]) ∧ Ext W w') 
    (h3 : ∀ W, Ext w W → Calls Tryz.prog 76 #[.string s, .string s'] W fun e w' => e = .returned (.tuple #[.string C, .int .i64 0]) ∧ Ext W w') 
    (h6 : ∀ W, Ext w W → Calls Tryz.prog 158 #[.string t, .string t'] W fun e w' => e = .returned (.tuple #[.string D, .int .i64 0]) ∧ Ext W w') 
    (h7 : ∀ W, Ext w W → Calls Tryz.prog 221 #[.string C, .string D] W fun e w' => e = .returned (.agg #[.string a, .string b]) ∧ Ext W w') :
    Calls Tryz.prog 191 #[.agg #[.string s, .string t], .agg #[.string s', .string t']] w fun e w' => e = .returned (.agg #[.string a, .string b]) ∧ Ext w w' := by
  have X1 := (Bx.new w #[.string s, .string t] 108).al (.cells #[.string s', .string t'] 108) |>.al (.cells #[.string ⟨#[]⟩, .string ⟨#[]⟩] 108)
  obtain ⟨_, X2, X3, E⟩ := boxes3 w #[.string s, .string t] #[.string s', .string t'] #[.string ⟨#[]⟩, .string ⟨#[]⟩] 108
  go_enter Tryz.func191, Tryz.ntmps191
  go_wp2_with fail
  generalize ((w.alloc (.cells #[.string s, .string t] 108)).alloc (.cells #[.string s', .string t'] 108)).alloc (.cells #[.string ⟨#[]⟩, .string ⟨#[]⟩] 108) = W0 at *
  refine (h1 _ E).mono ?_
  rintro e w1 ⟨rfl, hE⟩
  replace X1 := X1.ext hE
  replace X2 := X2.ext hE
  replace X3 := X3.ext hE
  replace E := E.tr hE
  clear hE
  obtain ⟨c10, c11, f10, f11⟩ := X1.e2
  obtain ⟨c20, c21, f20, f21⟩ := X2.e2
  obtain ⟨c30, c31, f30, f31⟩ := X3.e2
  go_wp2_with fail
  refine (h2 _ E).mono ?_
  rintro e w2 ⟨rfl, hE⟩
  replace X1 := X1.ext hE
  replace X2 := X2.ext hE
  replace X3 := X3.ext hE
  replace E := E.tr hE
  clear hE
  clear c10 c11 f10 f11 c20 c21 f20 f21 c30 c31 f30 f31
  obtain ⟨c10, c11, f10, f11⟩ := X1.e2
  obtain ⟨c20, c21, f20, f21⟩ := X2.e2
  obtain ⟨c30, c31, f30, f31⟩ := X3.e2
  go_wp2_with fail
  refine (h3 _ E).mono ?_
  rintro e w3 ⟨rfl, hE⟩
  replace X1 := X1.ext hE
  replace X2 := X2.ext hE
  replace X3 := X3.ext hE
  replace E := E.tr hE
  clear hE
  clear c10 c11 f10 f11 c20 c21 f20 f21 c30 c31 f30 f31
  obtain ⟨c10, c11, f10, f11⟩ := X1.e2
  obtain ⟨c20, c21, f20, f21⟩ := X2.e2
  obtain ⟨c30, c31, f30, f31⟩ := X3.e2
  go_wp2_with fail
  refine (h6 _ E).mono ?_
  rintro e w4 ⟨rfl, hE⟩
  replace X1 := X1.ext hE
  replace X2 := X2.ext hE
  replace X3 := X3.ext hE
  replace E := E.tr hE
  clear hE
  clear c10 c11 f10 f11 c20 c21 f20 f21 c30 c31 f30 f31
  obtain ⟨c10, c11, f10, f11⟩ := X1.e2
  obtain ⟨c20, c21, f20, f21⟩ := X2.e2
  obtain ⟨c30, c31, f30, f31⟩ := X3.e2
  go_wp2_with fail
  refine (h7 _ E).mono ?_
  rintro e w5 ⟨rfl, hE⟩
  replace X1 := X1.ext hE
  replace X2 := X2.ext hE
  replace X3 := X3.ext hE
  replace E := E.tr hE
  clear hE
  clear c10 c11 f10 f11 c20 c21 f20 f21 c30 c31 f30 f31
  obtain ⟨c10, c11, f10, f11⟩ := X1.e2
  obtain ⟨c20, c21, f20, f21⟩ := X2.e2
  obtain ⟨c30, c31, f30, f31⟩ := X3.e2
  go_wp2_with fail
  obtain ⟨d0, d1⟩ := set2 X3 (.string a) (.string b)
  have E2 := ext_set2 (b := w.heap.size + 1 + 1) E (by omega) (.string a) (.string b)
  refine bodyPost_ret (v := .agg #[.string a, .string b]) ?_ rfl ⟨rfl, E2⟩
  simp [results, Tryz.f191, go_sem, d0, d1]
end Go.Proofs.YtadimepmoljnpaaGreatDoor.GB

namespace Go.Proofs.YtadimepmoljnpaaGreatDoor.GB
set_option linter.unusedVariables false
set_option linter.unusedSimpArgs false
open Go.RowKit Go.Shelf
attribute [local go_sem ↓] Go.wp_at_zero Go.wp_at_succ

/-- The most bits. -/
def KK : Nat := 1099511627776
theorem KK_eq : KK = 1099511627776 := rfl
theorem Fit.of {a k : Nat} (hk : k ≤ KK) (h : a < 2 ^ k) : Fit a := ⟨k, by rw [← KK_eq]; exact hk, h⟩
theorem Bd.fit {q : Rat} {n : Nat} (h : Bd q n) (hn : n + 1 ≤ KK) : Fit q.num.natAbs ∧ Fit q.den :=
  ⟨Fit.of (k := n) (by omega) h.1, Fit.of (k := n + 1) hn (Nat.lt_of_le_of_lt h.2 (Nat.pow_lt_pow_right (by omega) (by omega)))⟩
theorem Bd.fit_nd {x y : Rat} {m n : Nat} (hx : Bd x m) (hy : Bd y n) : x.num.natAbs * y.den < 2 ^ (m + n) := by
  rw [Nat.pow_add]
  rcases Nat.eq_zero_or_pos x.num.natAbs with h | h
  · rw [h, Nat.zero_mul]; exact Nat.mul_pos (Nat.pow_pos (by omega)) (Nat.pow_pos (by omega))
  · exact Nat.lt_of_le_of_lt (Nat.mul_le_mul_left _ hy.2) (Nat.mul_lt_mul_of_pos_right hx.1 (Nat.pow_pos (by omega)))
theorem Bd.fit_dd {x y : Rat} {m n : Nat} (hx : Bd x m) (hy : Bd y n) : x.den * y.den < 2 ^ (m + n + 1) := by
  have := Nat.mul_le_mul hx.2 hy.2
  rw [← Nat.pow_add] at this
  exact Nat.lt_of_le_of_lt this (Nat.pow_lt_pow_right (by omega) (by omega))
theorem Bd.fit_nn {x y : Rat} {m n : Nat} (hx : Bd x m) (hy : Bd y n) : x.num.natAbs * y.num.natAbs < 2 ^ (m + n) := by
  rw [Nat.pow_add]
  exact Nat.mul_lt_mul_of_lt_of_le hx.1 (Nat.le_of_lt hy.1) (Nat.pow_pos (by omega))
theorem radd_mk (x y : Rat) : mkRat (x.num * y.den + y.num * x.den) (x.den * y.den) = x + y := (Rat.add_def' x y).symm
theorem rmul_mk (x y : Rat) : mkRat (x.num * y.num) (x.den * y.den) = x * y := (Rat.mul_def' x y).symm
theorem mul9 {a b : Nat} (ha : a < 1000000000) (hb : b < 1000000000) : a * b < 1000000000000000000 := by
  rcases Nat.eq_zero_or_pos b with h | h
  · subst h; omega
  · exact Nat.lt_of_lt_of_le (Nat.mul_lt_mul_of_lt_of_le ha (Nat.le_refl b) h) (by omega)
theorem wrapN {x : Int} (h : x.natAbs < 4000000000000000000) : wrap64 x = x := by unfold wrap64; omega
/-- Is a fraction short? -/
def shB (x : Rat) : Bool := decide ((Lib.itoa x.num).length ≤ 9) && decide ((Lib.decDigits x.den).length ≤ 9)
theorem shB_t {x : Rat} (h : shB x = true) : (Lib.itoa x.num).length ≤ 9 ∧ (Lib.decDigits x.den).length ≤ 9 := by unfold shB at h; simpa using h
theorem shB_f {x : Rat} (h : shB x = false) : 9 < (Lib.itoa x.num).length ∨ 9 < (Lib.decDigits x.den).length := by unfold shB at h; simp at h; omega
theorem plus_q (x y : Rat) (m n : Nat) (w : World) (hW : Wd w) (hx : Bd x m) (hy : Bd y n) (hk : m + n + 1 ≤ KK) :
    Calls Tryz.prog 190 #[FV x, FV y] w fun e w' => e = .returned (FV (x + y)) ∧ Ext w w' := by
  have fx := hx.fit (by omega)
  have fy := hy.fit (by omega)
  have b1 := hx.fit_nd hy
  have b2 := hy.fit_nd hx
  have b3 := hx.fit_dd hy
  rw [Nat.add_comm n m] at b2
  have hd : x.den * y.den ≠ 0 := Nat.mul_ne_zero x.den_nz y.den_nz
  have a1 : (x.num * (y.den : Int)).natAbs = x.num.natAbs * y.den := by rw [Int.natAbs_mul]; simp
  have a2 : (y.num * (x.den : Int)).natAbs = y.num.natAbs * x.den := by rw [Int.natAbs_mul]; simp
  have hsum : (x.num * (y.den : Int) + y.num * (x.den : Int)).natAbs ≤ x.num.natAbs * y.den + y.num.natAbs * x.den := by
    have := Int.natAbs_add_le (x.num * (y.den : Int)) (y.num * (x.den : Int))
    omega
  have p2 : 2 ^ (m + n) + 2 ^ (m + n) = 2 ^ (m + n + 1) := by rw [Nat.pow_succ]; omega
  have iy : itx (y.den : Int) = dtx y.den := by show Value.string _ = Value.string _; rw [itoa_nat]
  have ix : itx (x.den : Int) = dtx x.den := by show Value.string _ = Value.string _; rw [itoa_nat]
  have h3 : ∀ W, Ext w W → Calls Tryz.prog 76 #[itx x.num, dtx y.den] W fun e w' => e = .returned (.tuple #[itx (x.num * y.den), .int .i64 0]) ∧ Ext W w' := by
    intro W hE
    have h := Mul_z x.num (y.den : Int) W (hW.ext hE) fx.1 (by simpa using fy.2) (by simpa using Fit.of (by omega) b1)
    rwa [iy] at h
  have h4 : ∀ W, Ext w W → Calls Tryz.prog 76 #[itx y.num, dtx x.den] W fun e w' => e = .returned (.tuple #[itx (y.num * x.den), .int .i64 0]) ∧ Ext W w' := by
    intro W hE
    have h := Mul_z y.num (x.den : Int) W (hW.ext hE) fy.1 (by simpa using fx.2) (by simpa using Fit.of (by omega) b2)
    rwa [ix] at h
  have h5 : ∀ W, Ext w W → Calls Tryz.prog 220 #[itx (x.num * y.den), itx (y.num * x.den)] W fun e w' => e = .returned (.tuple #[itx (x.num * y.den + y.num * x.den), .int .i64 0]) ∧ Ext W w' := by
    intro W hE
    exact Add_z _ _ W (hW.ext hE) (by rw [a1]; exact Fit.of (by omega) b1) (by rw [a2]; exact Fit.of (by omega) b2) (by rw [a1, a2]; exact Fit.of (k := m + n + 1) (by omega) (by omega))
  have h6 : ∀ W, Ext w W → Calls Tryz.prog 158 #[dtx x.den, dtx y.den] W fun e w' => e = .returned (.tuple #[dtx (x.den * y.den), .int .i64 0]) ∧ Ext W w' := by
    intro W hE
    exact Mul_n _ _ W (hW.ext hE) fx.2 fy.2 (Fit.of (by omega) b3)
  have h7 : ∀ W, Ext w W → Calls Tryz.prog 221 #[itx (x.num * y.den + y.num * x.den), dtx (x.den * y.den)] W fun e w' => e = .returned (FV (x + y)) ∧ Ext W w' := by
    intro W hE
    have h := lowest_q (x.num * y.den + y.num * x.den) (x.den * y.den) W (hW.ext hE) (Fit.of (k := m + n + 1) (by omega) (by omega)) (Fit.of (by omega) b3) hd
    rwa [radd_mk] at h
  cases hsx : shB x
  · have sx := shB_f hsx
    cases hsy : shB y
    · exact rplus_2 _ _ _ _ _ _ _ _ _ _ 0 0 0 0 false w (fun W _ => little_big _ _ W sx) (fun W _ => little_big _ _ W (shB_f hsy)) h3 h4 h5 h6 h7
    · exact rplus_2 _ _ _ _ _ _ _ _ _ _ 0 0 y.num y.den true w (fun W _ => little_big _ _ W sx) (fun W _ => little_q _ _ W (shB_t hsy).1 (shB_t hsy).2) h3 h4 h5 h6 h7
  · have sx := shB_t hsx
    cases hsy : shB y
    · exact rplus_3 _ _ _ _ _ _ _ _ _ _ x.num x.den 0 0 false w (fun W _ => little_q _ _ W sx.1 sx.2) (fun W _ => little_big _ _ W (shB_f hsy)) h3 h4 h5 h6 h7
    · have sy := shB_t hsy
      have c1 := mul9 (itoa_len9 sx.1) (ten9_lt sy.2)
      have c2 := mul9 (itoa_len9 sy.1) (ten9_lt sx.2)
      have c3 := mul9 (ten9_lt sx.2) (ten9_lt sy.2)
      have c4 : ((x.den : Int) * (y.den : Int)).natAbs = x.den * y.den := by rw [← Int.natCast_mul]; exact Int.natAbs_natCast _
      have c5 : 0 < (x.den : Int) * (y.den : Int) := by rw [← Int.natCast_mul]; omega
      have c6 : ((x.den : Int) * (y.den : Int)).toNat = x.den * y.den := by rw [← Int.natCast_mul]; exact Int.toNat_natCast _
      refine rplus_1 _ _ _ _ _ _ x.num x.den y.num y.den w (fun W _ => little_q _ _ W sx.1 sx.2) (fun W _ => little_q _ _ W sy.1 sy.2) (wrapN (by omega)) (wrapN (by omega)) (wrapN (by omega)) (wrapN (by omega)) ?_
      intro W hE
      have h := of_q (x.num * y.den + y.num * x.den) ((x.den : Int) * (y.den : Int)) W (hW.ext hE) (by omega) (by omega) c5
      rwa [c6, radd_mk] at h
theorem times_q (x y : Rat) (m n : Nat) (w : World) (hW : Wd w) (hx : Bd x m) (hy : Bd y n) (hk : m + n + 1 ≤ KK) :
    Calls Tryz.prog 191 #[FV x, FV y] w fun e w' => e = .returned (FV (x * y)) ∧ Ext w w' := by
  have fx := hx.fit (by omega)
  have fy := hy.fit (by omega)
  have b1 := hx.fit_nn hy
  have b3 := hx.fit_dd hy
  have hd : x.den * y.den ≠ 0 := Nat.mul_ne_zero x.den_nz y.den_nz
  have a1 : (x.num * y.num).natAbs = x.num.natAbs * y.num.natAbs := Int.natAbs_mul _ _
  have h3 : ∀ W, Ext w W → Calls Tryz.prog 76 #[itx x.num, itx y.num] W fun e w' => e = .returned (.tuple #[itx (x.num * y.num), .int .i64 0]) ∧ Ext W w' := by
    intro W hE
    exact Mul_z x.num y.num W (hW.ext hE) fx.1 fy.1 (Fit.of (by omega) b1)
  have h6 : ∀ W, Ext w W → Calls Tryz.prog 158 #[dtx x.den, dtx y.den] W fun e w' => e = .returned (.tuple #[dtx (x.den * y.den), .int .i64 0]) ∧ Ext W w' := by
    intro W hE
    exact Mul_n _ _ W (hW.ext hE) fx.2 fy.2 (Fit.of (by omega) b3)
  have h7 : ∀ W, Ext w W → Calls Tryz.prog 221 #[itx (x.num * y.num), dtx (x.den * y.den)] W fun e w' => e = .returned (FV (x * y)) ∧ Ext W w' := by
    intro W hE
    have h := lowest_q (x.num * y.num) (x.den * y.den) W (hW.ext hE) (by rw [a1]; exact Fit.of (by omega) b1) (Fit.of (by omega) b3) hd
    rwa [rmul_mk] at h
  cases hsx : shB x
  · have sx := shB_f hsx
    cases hsy : shB y
    · exact rtimes_2 _ _ _ _ _ _ _ _ 0 0 0 0 false w (fun W _ => little_big _ _ W sx) (fun W _ => little_big _ _ W (shB_f hsy)) h3 h6 h7
    · exact rtimes_2 _ _ _ _ _ _ _ _ 0 0 y.num y.den true w (fun W _ => little_big _ _ W sx) (fun W _ => little_q _ _ W (shB_t hsy).1 (shB_t hsy).2) h3 h6 h7
  · have sx := shB_t hsx
    cases hsy : shB y
    · exact rtimes_3 _ _ _ _ _ _ _ _ x.num x.den 0 0 false w (fun W _ => little_q _ _ W sx.1 sx.2) (fun W _ => little_big _ _ W (shB_f hsy)) h3 h6 h7
    · have sy := shB_t hsy
      have c1 := mul9 (itoa_len9 sx.1) (itoa_len9 sy.1)
      have c3 := mul9 (ten9_lt sx.2) (ten9_lt sy.2)
      have c4 : ((x.den : Int) * (y.den : Int)).natAbs = x.den * y.den := by rw [← Int.natCast_mul]; exact Int.natAbs_natCast _
      have c5 : 0 < (x.den : Int) * (y.den : Int) := by rw [← Int.natCast_mul]; omega
      have c6 : ((x.den : Int) * (y.den : Int)).toNat = x.den * y.den := by rw [← Int.natCast_mul]; exact Int.toNat_natCast _
      refine rtimes_1 _ _ _ _ _ _ x.num x.den y.num y.den w (fun W _ => little_q _ _ W sx.1 sx.2) (fun W _ => little_q _ _ W sy.1 sy.2) (wrapN (by omega)) (wrapN (by omega)) ?_
      intro W hE
      have h := of_q (x.num * y.num) ((x.den : Int) * (y.den : Int)) W (hW.ext hE) (by omega) (by omega) c5
      rwa [c6, rmul_mk] at h
end Go.Proofs.YtadimepmoljnpaaGreatDoor.GB
