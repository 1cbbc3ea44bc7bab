import Derived.Test.YtadimepmoljnpaaGreatDoorMId
import Derived.Test.YtadimepmoljnpaaGreatDoorMGc
import Derived.Test.YtadimepmoljnpaaGreatDoorMIq
import Derived.Test.YtadimepmoljnpaaGreatDoorMNz
import Derived.Test.YtadimepmoljnpaaGreatDoorCDx
import Derived.Deep.RegionHeld3
import Derived.Deep.DeepCutAuto
import Derived.Deep.CutBlock
import Derived.Deep.AppendLies
import Derived.Maps.Own
import Derived.Maps.Views
namespace Go.Proofs.YtadimepmoljnpaaGreatDoor.GB
set_option linter.unusedVariables false
set_option linter.unusedSimpArgs false
open Go.RowKit Go.Shelf
attribute [local go_sem ↓] Go.wp_at_zero Go.wp_at_succ

set_option maxHeartbeats 4000000 in
set_option maxRecDepth 100000 in
theorem ropp_1 (s t s' : ByteArray) (w : World) (h1 : ∀ W, Ext w W → Calls Tryz.prog 222 #[.string s] W fun e w' => e = .returned (.tuple #[.string s', .int .i64 0]) ∧ Ext W w') :
    Calls Tryz.prog 193 #[.agg #[.string s, .string t]] w fun e w' => e = .returned (.agg #[.string s', .string t]) ∧ Ext w w' := by
  obtain ⟨X1, X2, E⟩ := boxes2 w #[.string s, .string t] #[.string ⟨#[]⟩, .string ⟨#[]⟩] 108
  go_enter Tryz.func193, Tryz.ntmps193
  go_wp2_with fail
  generalize (w.alloc (.cells #[.string s, .string t] 108)).alloc (.cells #[.string ⟨#[]⟩, .string ⟨#[]⟩] 108) = W0 at *
  refine (h1 _ E).mono ?_
  rintro e w1 ⟨rfl, hE⟩
  replace X1 := X1.ext hE
  replace X2 := X2.ext hE
  replace E := E.tr hE
  clear hE
  obtain ⟨c10, c11, f10, f11⟩ := X1.e2
  obtain ⟨c20, c21, f20, f21⟩ := X2.e2
  go_wp2_with fail
  obtain ⟨d0, d1⟩ := set2 X2 (.string s') (.string t)
  have E2 := ext_set2 (b := w.heap.size + 1) E (by omega) (.string s') (.string t)
  refine bodyPost_ret (v := .agg #[.string s', .string t]) ?_ rfl ⟨rfl, E2⟩
  simp [results, Tryz.f193, go_sem, d0, d1]
theorem ropp_q (x : Rat) (w : World) (hx : Fit x.num.natAbs) :
    Calls Tryz.prog 193 #[FV x] w fun e w' => e = .returned (FV (-x)) ∧ Ext w w' :=
  ropp_1 _ _ _ w (fun W _ => Neg_z x.num W hx)
set_option maxHeartbeats 4000000 in
set_option maxRecDepth 100000 in
theorem rinv_1 (s t a : ByteArray) (w : World) (hsz : ¬ 9223372036854775807 < 1 + t.size) (h1 : ∀ W, Ext w W → Calls Tryz.prog 186 #[.string s, .string ⟨#[45]⟩] W fun e w' => e = .returned (.tuple #[.string a, .bool true]) ∧ Ext W w') :
    Calls Tryz.prog 195 #[.agg #[.string s, .string t]] w fun e w' => e = .returned (.agg #[.string (⟨#[45]⟩ ++ t), .string a]) ∧ Ext w w' := by
  obtain ⟨X1, X2, E⟩ := boxes2 w #[.string s, .string t] #[.string ⟨#[]⟩, .string ⟨#[]⟩] 108
  go_enter Tryz.func195, Tryz.ntmps195
  go_wp2_with fail
  generalize (w.alloc (.cells #[.string s, .string t] 108)).alloc (.cells #[.string ⟨#[]⟩, .string ⟨#[]⟩] 108) = W0 at *
  refine (h1 _ E).mono ?_
  rintro e w1 ⟨rfl, hE⟩
  replace X1 := X1.ext hE
  replace X2 := X2.ext hE
  replace E := E.tr hE
  clear hE
  obtain ⟨c10, c11, f10, f11⟩ := X1.e2
  obtain ⟨c20, c21, f20, f21⟩ := X2.e2
  go_wp2_with fail
  obtain ⟨d0, d1⟩ := set2 X2 (.string (⟨#[45]⟩ ++ t)) (.string a)
  have E2 := ext_set2 (b := w.heap.size + 1) E (by omega) (.string (⟨#[45]⟩ ++ t)) (.string a)
  refine bodyPost_ret (v := .agg #[.string (⟨#[45]⟩ ++ t), .string a]) ?_ rfl ⟨rfl, E2⟩
  simp [results, Tryz.f195, go_sem, d0, d1]
set_option maxHeartbeats 4000000 in
set_option maxRecDepth 100000 in
theorem rinv_2 (s t a : ByteArray) (w : World)  (h1 : ∀ W, Ext w W → Calls Tryz.prog 186 #[.string s, .string ⟨#[45]⟩] W fun e w' => e = .returned (.tuple #[.string a, .bool false]) ∧ Ext W w') :
    Calls Tryz.prog 195 #[.agg #[.string s, .string t]] w fun e w' => e = .returned (.agg #[.string t, .string s]) ∧ Ext w w' := by
  obtain ⟨X1, X2, E⟩ := boxes2 w #[.string s, .string t] #[.string ⟨#[]⟩, .string ⟨#[]⟩] 108
  go_enter Tryz.func195, Tryz.ntmps195
  go_wp2_with fail
  generalize (w.alloc (.cells #[.string s, .string t] 108)).alloc (.cells #[.string ⟨#[]⟩, .string ⟨#[]⟩] 108) = W0 at *
  refine (h1 _ E).mono ?_
  rintro e w1 ⟨rfl, hE⟩
  replace X1 := X1.ext hE
  replace X2 := X2.ext hE
  replace E := E.tr hE
  clear hE
  obtain ⟨c10, c11, f10, f11⟩ := X1.e2
  obtain ⟨c20, c21, f20, f21⟩ := X2.e2
  go_wp2_with fail
  obtain ⟨d0, d1⟩ := set2 X2 (.string t) (.string s)
  have E2 := ext_set2 (b := w.heap.size + 1) E (by omega) (.string t) (.string s)
  refine bodyPost_ret (v := .agg #[.string t, .string s]) ?_ rfl ⟨rfl, E2⟩
  simp [results, Tryz.f195, go_sem, d0, d1]
theorem rinv_q (x : Rat) (w : World) (hn : Fit x.num.natAbs) (hd : Fit x.den) (h0 : x ≠ 0) :
    Calls Tryz.prog 195 #[FV x] w fun e w' => e = .returned (FV x⁻¹) ∧ Ext w w' := by
  have hz : x.num ≠ 0 := fun h => h0 (Rat.num_eq_zero.1 h)
  have hcut : ∀ W, Ext w W → Calls Tryz.prog 186 #[itx x.num, .string ⟨#[45]⟩] W fun e w' => e = .returned (.tuple #[dtx x.num.natAbs, .bool (decide (x.num < 0))]) ∧ Ext W w' := by
    intro W _
    have h := Tryz.strings_CutPrefix ⟨(Lib.itoa x.num).toArray⟩ ⟨#[45]⟩ W
    have e1 : (⟨(Lib.itoa x.num).toArray⟩ : ByteArray).data.toList = Lib.itoa x.num := rfl
    have e45 : (⟨#[45]⟩ : ByteArray).data.toList = [45] := rfl
    rw [e1, e45, (itoa_prefix x.num).1, (itoa_prefix x.num).2] at h
    refine h.mono ?_
    rintro e w' ⟨rfl, rfl⟩
    exact ⟨rfl, Ext.rfl' _⟩
  unfold FV
  rw [Rat.num_inv, Rat.den_inv, if_neg hz]
  rcases (by omega : x.num < 0 ∨ 0 < x.num) with h | h
  · have hp : (0 : Int) < x.den := Int.natCast_pos.2 x.den_pos
    have e2 : x.num.sign * (x.den : Int) = -(x.den : Int) := by rw [Int.sign_eq_neg_one_of_neg h]; omega
    rw [decide_eq_true h] at hcut
    have e3 : itx (-(x.den : Int)) = .string (⟨#[45]⟩ ++ ⟨(Lib.decDigits x.den).toArray⟩) := by
      rw [cat45]
      show Value.string _ = Value.string _
      rw [itoa_neg _ x.den_pos]
    rw [e2, e3]
    exact rinv_1 _ _ _ w (by rw [dtx_size]; have := hd.dec; omega) hcut
  · have e2 : x.num.sign * (x.den : Int) = (x.den : Int) := by rw [Int.sign_eq_one_of_pos h]; omega
    rw [decide_eq_false (by omega)] at hcut
    have e3 : itx (x.den : Int) = dtx x.den := by show Value.string _ = Value.string _; rw [itoa_nat]
    have e4 : itx x.num = dtx x.num.natAbs := by
      show Value.string _ = Value.string _
      rw [itoa_of_nonneg (by omega)]
    rw [e2, e3]
    rw [e4] at hcut ⊢
    exact rinv_2 _ _ _ w hcut
set_option maxHeartbeats 4000000 in
set_option maxRecDepth 100000 in
theorem rsign_q (x : Rat) (w : World) (hx : Fit x.num.natAbs) :
    Calls Tryz.prog 75 #[FV x] w fun e w' => e = .returned (.int .i64 (sgnZ x.num)) ∧ Ext w w' := by
  have X1 := Bx.new w #[itx x.num, dtx x.den] 108
  have E := (Ext.rfl' w).al (.cells #[itx x.num, dtx x.den] 108)
  go_enter Tryz.func75, Tryz.ntmps75
  go_wp2_with fail
  generalize w.alloc (.cells #[itx x.num, dtx x.den] 108) = W0 at *
  refine (Sign_z x.num _ hx).mono ?_
  rintro e w1 ⟨rfl, hE⟩
  go_wp2_with fail
  go_ret
  exact ⟨rfl, E.tr hE⟩
set_option maxHeartbeats 4000000 in
set_option maxRecDepth 100000 in
theorem rsubc (s t s' t' a b c d : ByteArray) (w : World)
    (h1 : ∀ W, Ext w W → Calls Tryz.prog 193 #[.agg #[.string s', .string t']] W fun e w' => e = .returned (.agg #[.string a, .string b]) ∧ Ext W w')
    (h2 : ∀ W, Ext w W → Calls Tryz.prog 190 #[.agg #[.string s, .string t], .agg #[.string a, .string b]] W fun e w' => e = .returned (.agg #[.string c, .string d]) ∧ Ext W w') :
    Calls Tryz.prog 192 #[.agg #[.string s, .string t], .agg #[.string s', .string t']] w fun e w' => e = .returned (.agg #[.string c, .string d]) ∧ Ext w w' := by
  obtain ⟨X1, X2, X3, E⟩ := boxes3 w #[.string s, .string t] #[.string s', .string t'] #[.string ⟨#[]⟩, .string ⟨#[]⟩] 108
  go_enter Tryz.func192, Tryz.ntmps192
  go_wp2_with fail
  generalize ((w.alloc (.cells #[.string s, .string t] 108)).alloc (.cells #[.string s', .string t'] 108)).alloc (.cells #[.string ⟨#[]⟩, .string ⟨#[]⟩] 108) = W0 at *
  have a0 := X1.c0
  have a1 := X1.c1
  have b0 := X2.c0
  have b1 := X2.c1
  have HX3 := Lib.hid X3
  have HE := Lib.hid E
  clear X1 X2 X3 E
  go_region_held3 (fun w' => w'.cell? ⟨w.heap.size, 0, none⟩ = some (.string s) ∧ w'.cell? ⟨w.heap.size, 1, none⟩ = some (.string t) ∧ w'.cell? ⟨w.heap.size + 1, 0, none⟩ = some (.string s') ∧ w'.cell? ⟨w.heap.size + 1, 1, none⟩ = some (.string t')) (((try dsimp only); (repeat' apply And.intro) <;> (first | assumption | ((go_keep); done) | (rw [World.cell?_setCell_other _ _ _ _ (by simp), World.cell?_setCell_other _ _ _ _ (by simp)]; assumption))))
    (first
      | (go_at_call 193; (with_reducible refine (h1 _ (Ext.dr' HE)).mono ?_); rintro e w2 ⟨rfl, hE2⟩; have q0 := Ext.cellD hE2 a0; have q1 := Ext.cellD hE2 a1; have q2 := Ext.cellD hE2 b0; have q3 := Ext.cellD hE2 b1; have HX4 := Lib.hid (Bx.ext (Bx.drH HX3).out hE2); have HE2 := Lib.hid ((Ext.dr' HE).tr hE2); clear hE2)
      | (go_at_call 190; (with_reducible refine (h2 _ HE2.out).mono ?_); rintro e w3 ⟨rfl, hE3⟩; have t0 := Ext.cellH hE3 q0; have t1 := Ext.cellH hE3 q1; have t2 := Ext.cellH hE3 q2; have t3 := Ext.cellH hE3 q3; have HX5 := Lib.hid (Bx.ext HX4.out hE3); have HE3 := Lib.hid (HE2.out.tr hE3); clear hE3; have c0 := HX5.out.c0; have c1 := HX5.out.c1; have f0 := HX5.out.f 0; have f1 := HX5.out.f 1))
  all_goals
    go_wp2_with fail
    obtain ⟨d0, d1⟩ := set2 HX5.out (.string c) (.string d)
    have E6 := ext_set2 (b := w.heap.size + 1 + 1) HE3.out (by omega) (.string c) (.string d)
    refine bodyPost_ret (v := .agg #[.string c, .string d]) ?_ rfl ⟨rfl, E6⟩
    simp [results, Tryz.f192, go_sem, d0, d1]
set_option maxHeartbeats 4000000 in
set_option maxRecDepth 100000 in
theorem rdivc (s t s' t' a b c d : ByteArray) (w : World)
    (h1 : ∀ W, Ext w W → Calls Tryz.prog 195 #[.agg #[.string s', .string t']] W fun e w' => e = .returned (.agg #[.string a, .string b]) ∧ Ext W w')
    (h2 : ∀ W, Ext w W → Calls Tryz.prog 191 #[.agg #[.string s, .string t], .agg #[.string a, .string b]] W fun e w' => e = .returned (.agg #[.string c, .string d]) ∧ Ext W w') :
    Calls Tryz.prog 194 #[.agg #[.string s, .string t], .agg #[.string s', .string t']] w fun e w' => e = .returned (.agg #[.string c, .string d]) ∧ Ext w w' := by
  obtain ⟨X1, X2, X3, E⟩ := boxes3 w #[.string s, .string t] #[.string s', .string t'] #[.string ⟨#[]⟩, .string ⟨#[]⟩] 108
  go_enter Tryz.func194, Tryz.ntmps194
  go_wp2_with fail
  generalize ((w.alloc (.cells #[.string s, .string t] 108)).alloc (.cells #[.string s', .string t'] 108)).alloc (.cells #[.string ⟨#[]⟩, .string ⟨#[]⟩] 108) = W0 at *
  have a0 := X1.c0
  have a1 := X1.c1
  have b0 := X2.c0
  have b1 := X2.c1
  have HX3 := Lib.hid X3
  have HE := Lib.hid E
  clear X1 X2 X3 E
  go_region_held3 (fun w' => w'.cell? ⟨w.heap.size, 0, none⟩ = some (.string s) ∧ w'.cell? ⟨w.heap.size, 1, none⟩ = some (.string t) ∧ w'.cell? ⟨w.heap.size + 1, 0, none⟩ = some (.string s') ∧ w'.cell? ⟨w.heap.size + 1, 1, none⟩ = some (.string t')) (((try dsimp only); (repeat' apply And.intro) <;> (first | assumption | ((go_keep); done) | (rw [World.cell?_setCell_other _ _ _ _ (by simp), World.cell?_setCell_other _ _ _ _ (by simp)]; assumption))))
    (first
      | (go_at_call 195; (with_reducible refine (h1 _ (Ext.dr' HE)).mono ?_); rintro e w2 ⟨rfl, hE2⟩; have q0 := Ext.cellD hE2 a0; have q1 := Ext.cellD hE2 a1; have q2 := Ext.cellD hE2 b0; have q3 := Ext.cellD hE2 b1; have HX4 := Lib.hid (Bx.ext (Bx.drH HX3).out hE2); have HE2 := Lib.hid ((Ext.dr' HE).tr hE2); clear hE2)
      | (go_at_call 191; (with_reducible refine (h2 _ HE2.out).mono ?_); rintro e w3 ⟨rfl, hE3⟩; have t0 := Ext.cellH hE3 q0; have t1 := Ext.cellH hE3 q1; have t2 := Ext.cellH hE3 q2; have t3 := Ext.cellH hE3 q3; have HX5 := Lib.hid (Bx.ext HX4.out hE3); have HE3 := Lib.hid (HE2.out.tr hE3); clear hE3; have c0 := HX5.out.c0; have c1 := HX5.out.c1; have f0 := HX5.out.f 0; have f1 := HX5.out.f 1))
  all_goals
    go_wp2_with fail
    obtain ⟨d0, d1⟩ := set2 HX5.out (.string c) (.string d)
    have E6 := ext_set2 (b := w.heap.size + 1 + 1) HE3.out (by omega) (.string c) (.string d)
    refine bodyPost_ret (v := .agg #[.string c, .string d]) ?_ rfl ⟨rfl, E6⟩
    simp [results, Tryz.f194, go_sem, d0, d1]
theorem sub_q (x y : Rat) (m n : Nat) (w : World) (hW : Wd w) (hx : Bd x m) (hy : Bd y n) (hk : m + n + 1 ≤ KK) :
    Calls Tryz.prog 192 #[FV x, FV y] w fun e w' => e = .returned (FV (x - y)) ∧ Ext w w' := by
  rw [Rat.sub_eq_add_neg]
  exact rsubc _ _ _ _ _ _ _ _ w (fun W _ => ropp_q y W (hy.fit (by omega)).1) (fun W hE => plus_q x (-y) m n W (hW.ext hE) hx hy.neg hk)
theorem div_q (x y : Rat) (m n : Nat) (w : World) (hW : Wd w) (hx : Bd x m) (hy : Bd y n) (h0 : y ≠ 0) (hk : m + n + 2 ≤ KK) :
    Calls Tryz.prog 194 #[FV x, FV y] w fun e w' => e = .returned (FV (x / y)) ∧ Ext w w' := by
  rw [Rat.div_def]
  exact rdivc _ _ _ _ _ _ _ _ w (fun W _ => rinv_q y W (hy.fit (by omega)).1 (hy.fit (by omega)).2 h0) (fun W hE => times_q x y⁻¹ m (n + 1) W (hW.ext hE) hx hy.inv (by omega))
end Go.Proofs.YtadimepmoljnpaaGreatDoor.GB

namespace Go.Proofs.YtadimepmoljnpaaGreatDoor.GB
set_option linter.unusedVariables false
set_option linter.unusedSimpArgs false
open Go.RowKit Go.Shelf
attribute [local go_sem ↓] Go.wp_at_zero Go.wp_at_succ

/-- Is a text a rational number's? -/
def RatS (l : List UInt8) : Prop := ∃ q, l = rtext q
noncomputable def ratB (l : List UInt8) : Bool := @decide (RatS l) (Classical.propDecidable _)
theorem ratB_t {l : List UInt8} (h : ratB l = true) : RatS l := @of_decide_eq_true _ (Classical.propDecidable _) h
theorem ratB_of {l : List UInt8} (h : RatS l) : ratB l = true := @decide_eq_true _ (Classical.propDecidable _) h
theorem ratB_no {l : List UInt8} (h : ¬ RatS l) : ratB l = false := @decide_eq_false _ (Classical.propDecidable _) h
theorem intB_itoa (z : Int) : intB (Lib.itoa z) = true := (intB_iff _).2 ⟨z, rfl⟩
theorem canB_dec (n : Nat) : canB (Lib.decDigits n) = true := (canB_iff _).2 (dec_canon n)
theorem itx_zero (z : Int) : ((⟨(Lib.itoa z).toArray⟩ : ByteArray).toList == [48]) = decide (z = 0) := by
  rw [ByteArray.toList_eq]
  show (Lib.itoa z == [48]) = _
  have h0 : Lib.itoa 0 = [48] := by
    have h := itoa_nat 0
    rw [Lib.decDigits] at h
    exact h
  by_cases h : z = 0
  · subst h; rw [h0]; rfl
  · rw [decide_eq_false h, beq_eq_false_iff_ne]
    intro e; rw [← h0] at e; exact h (itoa_inj e)
theorem list_of {s : ByteArray} {l : List UInt8} (h : s.data.toList = l) : s = ⟨l.toArray⟩ := by
  apply ByteArray.ext; apply Array.toList_inj.1; rw [h]
theorem fit_len {n : Nat} {k : Nat} (h : (Lib.decDigits n).length ≤ k) (hk : 4 * k ≤ KK) : Fit n := by
  have h1 := dec_len_lt n
  have h2 : 10 ^ (Lib.decDigits n).length ≤ 16 ^ k := Nat.le_trans (Nat.pow_le_pow_left (by omega) _) (Nat.pow_le_pow_right (by omega) h)
  have h3 : (16 : Nat) ^ k = 2 ^ (4 * k) := by rw [show (16 : Nat) = 2 ^ 4 from rfl, ← Nat.pow_mul]
  exact Fit.of hk (by omega)
theorem itoa_abs_len (z : Int) : (Lib.decDigits z.natAbs).length ≤ (Lib.itoa z).length := by
  rcases (by omega : z < 0 ∨ 0 ≤ z) with hz | hz
  · rw [itoa_of_neg hz, List.length_cons]; omega
  · rw [itoa_of_nonneg hz]; exact Nat.le_refl _
/-- What read answers. -/
def RdA (s : ByteArray) (w : World) (e : Ending) (w' : World) : Prop := ∃ a b, e = .returned (.tuple #[.agg #[.string a, .string b], .bool (ratB s.data.toList)]) ∧ Ext w w' ∧ ∀ q, s.data.toList = rtext q → (Value.agg #[.string a, .string b]) = FV q
theorem rread_any (s : ByteArray) (w : World) (hW : Wd w) (hs : s.size ≤ 1000000) :
    Calls Tryz.prog 70 #[.string s] w (RdA s w) := by
  have hlen : s.data.toList.length = s.size := bytes_len s
  rcases cut_cases s.data.toList with h47 | ⟨p, d, h47, hpd⟩
  · have h1 : ∀ W, Ext w W → Calls Tryz.prog 112 #[.string s] W fun e w' => e = .returned (.bool (intB s.data.toList)) ∧ Ext W w' := fun W _ => iValid_any s W (by omega)
    have hr : intB s.data.toList = ratB s.data.toList := by
      have hi := (rat_valid_int h47).symm
      cases hb : intB s.data.toList
      · exact (ratB_no (fun hr => by have := (intB_iff _).2 (hi.2 hr); rw [hb] at this; cases this)).symm
      · exact (ratB_of (hi.1 ((intB_iff _).1 hb))).symm
    refine (rread_0 s _ w (fun W _ => cut_miss47 s W h47) h1).mono ?_
    rintro e w' ⟨rfl, hE⟩
    refine ⟨_, _, by rw [hr], hE, fun q hq => ?_⟩
    have hq1 : q.den = 1 := by
      apply Classical.byContradiction
      intro hne
      rw [rtext_frac hne] at hq
      rw [hq] at h47
      simp at h47
    rw [rtext_int hq1] at hq
    unfold FV
    rw [hq1, dtx1, list_of hq]
  · have hcut : ∀ W, Ext w W → Calls Tryz.prog 111 #[.string s, .string ⟨#[47]⟩] W fun e w' => e = .returned (.tuple #[.string ⟨p.toArray⟩, .string ⟨d.toArray⟩, .bool true]) ∧ Ext W w' := fun W _ => cut_hit47 s p d W hpd h47 (by omega)
    have hl2 : p.length + 1 + d.length = s.size := by rw [← hlen, hpd]; simp; omega
    have h1 : ∀ W, Ext w W → Calls Tryz.prog 112 #[.string ⟨p.toArray⟩] W fun e w' => e = .returned (.bool (intB p)) ∧ Ext W w' := fun W _ => iValid_any ⟨p.toArray⟩ W (by rw [size_mk]; omega)
    have h2 : ∀ W, Ext w W → Calls Tryz.prog 113 #[.string ⟨d.toArray⟩] W fun e w' => e = .returned (.bool (canB d)) ∧ Ext W w' := fun W _ => (valid_any ⟨d.toArray⟩ W (by rw [size_mk]; omega)).mono fun e w' h => ⟨h.1, h.2 ▸ Ext.rfl' _⟩
    have hbad : ∀ (P : Prop), ¬ RatS s.data.toList → (∀ e w', (e = .returned (.tuple #[.agg #[.string ⟨p.toArray⟩, .string ⟨d.toArray⟩], .bool false]) ∧ Ext w w') → RdA s w e w') := by
      rintro _ hn e w' ⟨rfl, hE⟩
      exact ⟨_, _, by rw [ratB_no hn], hE, fun q hq => absurd ⟨q, hq⟩ hn⟩
    have hiff := rat_valid_frac (d := d) h47
    have hno : ∀ {Q : Prop}, (∀ (z : Int) (n : Nat), p = Lib.itoa z → d = Lib.decDigits n → z ≠ 0 → n ≠ 0 → n ≠ 1 → Nat.gcd z.natAbs n = 1 → False) → ¬ RatS s.data.toList := by
      rintro _ hf hr
      unfold RatS at hr
      rw [hpd] at hr
      obtain ⟨z, n, a1, a2, a3, a4, a5, a6⟩ := hiff.1 hr
      exact hf z n a1 a2 a3 a4 a5 a6
    cases hp : intB p
    · rw [hp] at h1
      exact (rread_1 s _ _ w hcut h1).mono (hbad True (hno (Q := True) fun z n a1 _ _ _ _ _ => by rw [a1, intB_itoa] at hp; cases hp))
    · rw [hp] at h1
      obtain ⟨z, rfl⟩ := (intB_iff _).1 hp
      have hz := itx_zero z
      by_cases hz0 : z = 0
      · rw [decide_eq_true hz0] at hz
        exact (rread_2 s _ _ w hcut h1 hz).mono (hbad True (hno (Q := True) fun z' n a1 _ a3 _ _ _ => a3 (by rw [← itoa_inj a1]; exact hz0)))
      · rw [decide_eq_false hz0] at hz
        cases hd : canB d
        · rw [hd] at h2
          exact (rread_3 s _ _ w hcut h1 hz h2).mono (hbad True (hno (Q := True) fun z' n _ a2 _ _ _ _ => by rw [a2, canB_dec] at hd; cases hd))
        · rw [hd] at h2
          obtain ⟨n, rfl⟩ := (canon_iff d).1 ((canB_iff _).1 hd)
          have hn0 := dtx_zero n
          have hn1 := dtx_one n
          by_cases h0 : n = 0
          · rw [decide_eq_true h0] at hn0
            exact (rread_4 s _ _ w hcut h1 hz h2 hn0).mono (hbad True (hno (Q := True) fun z' n' _ a2 _ a4 _ _ => a4 (by rw [← dec_inj a2]; exact h0)))
          · rw [decide_eq_false h0] at hn0
            by_cases h1' : n = 1
            · rw [decide_eq_true h1'] at hn1
              exact (rread_5 s _ _ w hcut h1 hz h2 hn0 hn1).mono (hbad True (hno (Q := True) fun z' n' _ a2 _ _ a5 _ => a5 (by rw [← dec_inj a2]; exact h1')))
            · rw [decide_eq_false h1'] at hn1
              have fz : Fit z.natAbs := fit_len (k := 1000000) (Nat.le_trans (itoa_abs_len z) (by omega)) (by rw [KK_eq]; omega)
              have fn : Fit n := fit_len (k := 1000000) (by omega) (by rw [KK_eq]; omega)
              have h3 : ∀ W, Ext w W → Calls Tryz.prog 114 #[itx z, dtx n] W fun e w' => e = .returned (dtx (Nat.gcd z.natAbs n)) ∧ Ext W w' := fun W hE => divisor_z z n W (hW.ext hE) fz fn
              have hg := dtx_one (Nat.gcd z.natAbs n)
              by_cases hg1 : Nat.gcd z.natAbs n = 1
              · rw [decide_eq_true hg1] at hg
                refine (rread_7 s _ _ w hcut h1 hz h2 hn0 hn1 _ hg h3).mono ?_
                rintro e w' ⟨rfl, hE⟩
                have hq := rat_of_frac h0 h1' hg1
                have hrs : RatS s.data.toList := ⟨_, by rw [hpd]; exact hq⟩
                refine ⟨_, _, by rw [ratB_of hrs], hE, fun q hq2 => ?_⟩
                rw [hpd, hq] at hq2
                rw [← rtext_inj hq2]
              · rw [decide_eq_false hg1] at hg
                exact (rread_6 s _ _ w hcut h1 hz h2 hn0 hn1 _ hg h3).mono (hbad True (hno (Q := True) fun z' n' a1 a2 _ _ _ a6 => hg1 (by rw [itoa_inj a1, dec_inj a2]; exact a6)))
set_option maxHeartbeats 2000000 in
set_option maxRecDepth 100000 in
theorem rValid_any (s : ByteArray) (w : World) (hW : Wd w) (hs : s.size ≤ 1000000) :
    Calls Tryz.prog 31 #[.string s] w fun e w' => e = .returned (.bool (ratB s.data.toList)) ∧ Ext w w' := by
  have h := rread_any s w hW hs
  unfold RdA at h
  generalize ratB s.data.toList = r at h ⊢
  go_enter Tryz.func31, Tryz.ntmps31
  go_wp2_with fail
  refine h.mono ?_
  rintro e w1 ⟨a, b, rfl, hE, _⟩
  clear h
  go_wp2_with fail
  go_ret
  exact ⟨rfl, hE.al _⟩
end Go.Proofs.YtadimepmoljnpaaGreatDoor.GB

namespace Go.Proofs.YtadimepmoljnpaaGreatDoor.GB
set_option linter.unusedVariables false
set_option linter.unusedSimpArgs false
open Go.RowKit Go.Shelf
attribute [local go_sem ↓] Go.wp_at_zero Go.wp_at_succ
/-- The sign. -/
def sgq (z : Int) : Int := if z < 0 then -1 else if 0 < z then 1 else 0
end Go.Proofs.YtadimepmoljnpaaGreatDoor.GB

namespace Go.Proofs.YtadimepmoljnpaaGreatDoor.GB
set_option linter.unusedVariables false
set_option linter.unusedSimpArgs false
open Go.RowKit Go.Shelf
attribute [local go_sem ↓] Go.wp_at_zero Go.wp_at_succ
end Go.Proofs.YtadimepmoljnpaaGreatDoor.GB

namespace Go.Proofs.YtadimepmoljnpaaGreatDoor.GB
set_option linter.unusedVariables false
set_option linter.unusedSimpArgs false
open Go.RowKit Go.Shelf
attribute [local go_sem ↓] Go.wp_at_zero Go.wp_at_succ
end Go.Proofs.YtadimepmoljnpaaGreatDoor.GB

namespace Go.Proofs.YtadimepmoljnpaaGreatDoor.GB
set_option linter.unusedVariables false
set_option linter.unusedSimpArgs false
open Go.RowKit Go.Shelf
attribute [local go_sem ↓] Go.wp_at_zero Go.wp_at_succ
end Go.Proofs.YtadimepmoljnpaaGreatDoor.GB

namespace Go.Proofs.YtadimepmoljnpaaGreatDoor.GB
set_option linter.unusedVariables false
set_option linter.unusedSimpArgs false
open Go.RowKit Go.Shelf
attribute [local go_sem ↓] Go.wp_at_zero Go.wp_at_succ
theorem Bx.hext {w w' : World} {b : Nat} {cs : Array Value} {T : TypeId} (h : Hid (Bx w b cs T)) (hE : Ext w w') : Hid (Bx w' b cs T) := h.out.ext hE
end Go.Proofs.YtadimepmoljnpaaGreatDoor.GB

namespace Go.Proofs.YtadimepmoljnpaaGreatDoor.GB
set_option linter.unusedVariables false
set_option linter.unusedSimpArgs false
open Go
end Go.Proofs.YtadimepmoljnpaaGreatDoor.GB

namespace Go.Proofs.YtadimepmoljnpaaGreatDoor.GB
set_option linter.unusedVariables false
set_option linter.unusedSimpArgs false
open Go.RowKit
attribute [local go_sem ↓] Go.wp_at_zero Go.wp_at_succ
end Go.Proofs.YtadimepmoljnpaaGreatDoor.GB

namespace Go.Proofs.YtadimepmoljnpaaGreatDoor.GB
set_option linter.unusedVariables false
set_option linter.unusedSimpArgs false
open Go.RowKit
attribute [local go_sem ↓] Go.wp_at_zero Go.wp_at_succ
end Go.Proofs.YtadimepmoljnpaaGreatDoor.GB

namespace Go.Proofs.YtadimepmoljnpaaGreatDoor.GB
set_option linter.unusedVariables false
set_option linter.unusedSimpArgs false
open Go.RowKit
attribute [local go_sem ↓] Go.wp_at_zero Go.wp_at_succ
end Go.Proofs.YtadimepmoljnpaaGreatDoor.GB

namespace Go.Proofs.YtadimepmoljnpaaGreatDoor.GB
set_option linter.unusedVariables false
set_option linter.unusedSimpArgs false
open Go.RowKit
attribute [local go_sem ↓] Go.wp_at_zero Go.wp_at_succ
end Go.Proofs.YtadimepmoljnpaaGreatDoor.GB

namespace Go.Proofs.YtadimepmoljnpaaGreatDoor.GB
set_option linter.unusedVariables false
set_option linter.unusedSimpArgs false
open Go.RowKit
attribute [local go_sem ↓] Go.wp_at_zero Go.wp_at_succ
end Go.Proofs.YtadimepmoljnpaaGreatDoor.GB

namespace Go.Proofs.YtadimepmoljnpaaGreatDoor.GB
set_option linter.unusedVariables false
set_option linter.unusedSimpArgs false
/-- The dividend's words, with one more. -/
def u0 (N n : Nat) : List Nat := (wds N ++ [0, 0]).take (n + 1)
end Go.Proofs.YtadimepmoljnpaaGreatDoor.GB

namespace Go.Proofs.YtadimepmoljnpaaGreatDoor.GB
set_option linter.unusedVariables false
set_option linter.unusedSimpArgs false
open Go.RowKit
attribute [local go_sem ↓] Go.wp_at_zero Go.wp_at_succ
end Go.Proofs.YtadimepmoljnpaaGreatDoor.GB

namespace Go.Proofs.YtadimepmoljnpaaGreatDoor.GB
set_option linter.unusedVariables false
set_option linter.unusedSimpArgs false
open Go.RowKit
attribute [local go_sem ↓] Go.wp_at_zero Go.wp_at_succ
end Go.Proofs.YtadimepmoljnpaaGreatDoor.GB

namespace Go.Proofs.YtadimepmoljnpaaGreatDoor.GB
set_option linter.unusedVariables false
set_option linter.unusedSimpArgs false
open Go.RowKit Go.Shelf
attribute [local go_sem ↓] Go.wp_at_zero Go.wp_at_succ
end Go.Proofs.YtadimepmoljnpaaGreatDoor.GB

namespace Go.Proofs.YtadimepmoljnpaaGreatDoor.GB
set_option linter.unusedVariables false
set_option linter.unusedSimpArgs false
open Go.RowKit Go.Shelf
attribute [local go_sem ↓] Go.wp_at_zero Go.wp_at_succ
end Go.Proofs.YtadimepmoljnpaaGreatDoor.GB

namespace Go.Proofs.YtadimepmoljnpaaGreatDoor.GB
set_option linter.unusedVariables false
set_option linter.unusedSimpArgs false
open Go.RowKit Go.Shelf
attribute [local go_sem ↓] Go.wp_at_zero Go.wp_at_succ
end Go.Proofs.YtadimepmoljnpaaGreatDoor.GB

namespace Go.Proofs.YtadimepmoljnpaaGreatDoor.GB
set_option linter.unusedVariables false
set_option linter.unusedSimpArgs false
open Go.RowKit Go.Shelf
attribute [local go_sem ↓] Go.wp_at_zero Go.wp_at_succ
theorem neC {w : World} {b c i j : Nat} {u : Value} (h : c ≠ b) : (w.setCell ⟨b, i, none⟩ u).cell? ⟨c, j, none⟩ = w.cell? ⟨c, j, none⟩ :=
  World.cell?_setCell_other _ _ _ _ (by intro e; injection e with e; omega)
end Go.Proofs.YtadimepmoljnpaaGreatDoor.GB

namespace Go.Proofs.YtadimepmoljnpaaGreatDoor.GB
set_option linter.unusedVariables false
set_option linter.unusedSimpArgs false
open Go.RowKit Go.Shelf
attribute [local go_sem ↓] Go.wp_at_zero Go.wp_at_succ
end Go.Proofs.YtadimepmoljnpaaGreatDoor.GB

namespace Go.Proofs.YtadimepmoljnpaaGreatDoor.GB
set_option linter.unusedVariables false
set_option linter.unusedSimpArgs false
open Go.RowKit Go.Shelf
attribute [local go_sem ↓] Go.wp_at_zero Go.wp_at_succ

theorem rread_q (q : Rat) (n : Nat) (w : World) (hW : Wd w) (hq : Bd q n) (hn : n + 1 ≤ KK) :
    Calls Tryz.prog 70 #[rtx q] w fun e w' => e = .returned (.tuple #[FV q, .bool true]) ∧ Ext w w' := by
  have hk := KK_eq
  have f := hq.fit hn
  have l1 := itoa_len f.1
  have l2 := f.2.dec
  by_cases h1 : q.den = 1
  · have e1 : rtx q = itx q.num := by show Value.string _ = Value.string _; rw [rtext_int h1]
    have e2 : FV q = .agg #[itx q.num, .string ⟨#[49]⟩] := by unfold FV; rw [h1, dtx1]
    rw [e1, e2]
    have hv : ∀ W, Ext w W → Calls Tryz.prog 112 #[itx q.num] W fun e w' => e = .returned (.bool true) ∧ Ext W w' := by
      intro W _
      have h := iValid_any ⟨(Lib.itoa q.num).toArray⟩ W (by rw [size_mk]; omega)
      have et : intB (⟨(Lib.itoa q.num).toArray⟩ : ByteArray).data.toList = true := intB_itoa _
      rwa [et] at h
    exact rread_0 _ true w (fun W _ => cut_miss47 _ W (itoa_no47 _)) hv
  · have hl : (rtext q).length ≤ 1099511627770 := by
      have d1 := f.1.dec0
      have d2 := f.2.dec0
      unfold rtext
      rw [List.length_append, if_neg h1, List.length_cons]
      have d3 : (Lib.itoa q.num).length ≤ 400000000001 := by
        rcases (by omega : q.num < 0 ∨ 0 ≤ q.num) with h3 | h3
        · rw [itoa_of_neg h3, List.length_cons]; omega
        · rw [itoa_of_nonneg h3]; omega
      omega
    have hpd : (⟨(rtext q).toArray⟩ : ByteArray).data.toList = Lib.itoa q.num ++ 47 :: Lib.decDigits q.den := rtext_frac h1
    have hcut : ∀ W, Ext w W → Calls Tryz.prog 111 #[rtx q, .string ⟨#[47]⟩] W fun e w' => e = .returned (.tuple #[itx q.num, dtx q.den, .bool true]) ∧ Ext W w' := fun W _ => cut_hit47 _ _ _ W hpd (itoa_no47 _) (by rw [size_mk]; omega)
    have hv : ∀ W, Ext w W → Calls Tryz.prog 112 #[itx q.num] W fun e w' => e = .returned (.bool true) ∧ Ext W w' := by
      intro W _
      have h := iValid_any ⟨(Lib.itoa q.num).toArray⟩ W (by rw [size_mk]; omega)
      have et : intB (⟨(Lib.itoa q.num).toArray⟩ : ByteArray).data.toList = true := intB_itoa _
      rwa [et] at h
    have hv2 : ∀ W, Ext w W → Calls Tryz.prog 113 #[dtx q.den] W fun e w' => e = .returned (.bool true) ∧ Ext W w' := fun W _ => (valid_dec q.den W f.2).mono fun e w' h => ⟨h.1, h.2 ▸ Ext.rfl' _⟩
    have hz : q.num ≠ 0 := fun h => h1 (by rw [Rat.num_eq_zero.1 h]; rfl)
    have hg : Nat.gcd q.num.natAbs q.den = 1 := q.reduced
    have h3 : ∀ W, Ext w W → Calls Tryz.prog 114 #[itx q.num, dtx q.den] W fun e w' => e = .returned (dtx 1) ∧ Ext W w' := by
      intro W hE
      have h := divisor_z q.num q.den W (hW.ext hE) f.1 f.2
      rwa [hg] at h
    exact rread_7 _ _ _ w hcut hv (by rw [itx_zero]; exact decide_eq_false hz) hv2 (by rw [dtx_zero]; exact decide_eq_false q.den_nz) (by rw [dtx_one]; exact decide_eq_false h1) _ (by rw [dtx_one]; rfl) h3
set_option maxHeartbeats 2000000 in
set_option maxRecDepth 100000 in
theorem rValid_q (q : Rat) (n : Nat) (w : World) (hW : Wd w) (hq : Bd q n) (hn : n + 1 ≤ KK) :
    Calls Tryz.prog 31 #[rtx q] w fun e w' => e = .returned (.bool true) ∧ Ext w w' := by
  have h := rread_q q n w hW hq hn
  go_enter Tryz.func31, Tryz.ntmps31
  go_wp2_with fail
  refine h.mono ?_
  rintro e w1 ⟨rfl, hE⟩
  clear h
  go_wp2_with fail
  go_ret
  exact ⟨rfl, hE.al _⟩
set_option maxHeartbeats 4000000 in
set_option maxRecDepth 100000 in
theorem rboth_ok (s t a b c d : ByteArray) (w : World) (h1 : ∀ W, Ext w W → Calls Tryz.prog 70 #[.string s] W fun e w' => e = .returned (.tuple #[.agg #[.string a, .string b], .bool true]) ∧ Ext W w') (h2 : ∀ W, Ext w W → Calls Tryz.prog 70 #[.string t] W fun e w' => e = .returned (.tuple #[.agg #[.string c, .string d], .bool true]) ∧ Ext W w') :
    Calls Tryz.prog 74 #[.string s, .string t] w fun e w' => e = .returned (.tuple #[.agg #[.string a, .string b], .agg #[.string c, .string d], .int .i64 0]) ∧ Ext w w' := by
  obtain ⟨X1, X2, E⟩ := boxes2 w #[.string ⟨#[]⟩, .string ⟨#[]⟩] #[.string ⟨#[]⟩, .string ⟨#[]⟩] 108
  go_enter Tryz.func74, Tryz.ntmps74
  go_wp2_with fail
  generalize ((w.alloc (.cells #[.string ⟨#[]⟩, .string ⟨#[]⟩] 108)).alloc (.cells #[.string ⟨#[]⟩, .string ⟨#[]⟩] 108)) = W0 at *
  refine (h1 _ E).mono ?_
  rintro e w1 ⟨rfl, hE1⟩
  go_wp2_with fail
  have Y3 := Bx.new w1 #[.string a, .string b] 108
  refine (h2 _ ((E.tr hE1).al (.cells #[.string a, .string b] 108))).mono ?_
  rintro e w2 ⟨rfl, hE2⟩
  have hg1 := (X1.ext hE1).lt
  have hg2 := (X2.ext hE1).lt
  have hg3 := (Y3.ext hE2).lt
  have Z1 := (((X1.ext hE1).al (.cells #[.string a, .string b] 108)).ext hE2).al (.cells #[.string c, .string d] 108)
  have Z2 := (((X2.ext hE1).al (.cells #[.string a, .string b] 108)).ext hE2).al (.cells #[.string c, .string d] 108)
  have Z3 := (Y3.ext hE2).al (.cells #[.string c, .string d] 108)
  have Z4 := Bx.new w2 #[.string c, .string d] 108
  have E4 := ((E.tr hE1).al (.cells #[.string a, .string b] 108)).tr hE2 |>.al (.cells #[.string c, .string d] 108)
  clear X1 X2 E hE1 hE2 Y3 h1 h2
  go_wp2_with fail
  generalize w2.alloc (.cells #[.string c, .string d] 108) = W9 at *
  generalize w1.heap.size = g1 at *
  generalize w2.heap.size = g2 at *
  generalize hs0 : w.heap.size = s0 at *
  have n1 : s0 ≠ g1 := by omega
  have n2 : s0 ≠ g2 := by omega
  have n3 : s0 + 1 ≠ g1 := by omega
  have n4 : s0 + 1 ≠ g2 := by omega
  have n5 := n1.symm
  have n6 := n2.symm
  have n7 := n3.symm
  have n8 := n4.symm
  have a0 := Z3.c0
  have a1 := Z3.c1
  have b0 := Z4.c0
  have b1 := Z4.c1
  have r0 := Z1.c0
  have r1 := Z1.c1
  have r2 := Z2.c0
  have r3 := Z2.c1
  have f0 := Z1.f 0
  have f1 := Z1.f 1
  have f2 := Z2.f 0
  have f3 := Z2.f 1
  have HZ1 := Lib.hid Z1
  have HZ2 := Lib.hid Z2
  have HE := Lib.hid E4
  clear Z1 Z2 Z3 Z4 E4 hg1 hg2 hg3
  go_region_with (fail)
  all_goals
    go_wp2_with fail
    obtain ⟨d0, d1⟩ := set2 HZ1.out (.string a) (.string b)
    have HZ3 := (HZ2.out.set (p := ⟨s0, 0, none⟩) (by simp) (.string a)).set (p := ⟨s0, 1, none⟩) (by simp) (.string b)
    obtain ⟨d2, d3⟩ := set2 HZ3 (.string c) (.string d)
    have d4 : ((((W9.setCell ⟨s0, 0, none⟩ (.string a)).setCell ⟨s0, 1, none⟩ (.string b)).setCell ⟨s0 + 1, 0, none⟩ (.string c)).setCell ⟨s0 + 1, 1, none⟩ (.string d)).cell? ⟨s0, 0, none⟩ = some (.string a) := by
      rw [World.cell?_setCell_other _ _ _ _ (by simp), World.cell?_setCell_other _ _ _ _ (by simp)]; exact d0
    have d5 : ((((W9.setCell ⟨s0, 0, none⟩ (.string a)).setCell ⟨s0, 1, none⟩ (.string b)).setCell ⟨s0 + 1, 0, none⟩ (.string c)).setCell ⟨s0 + 1, 1, none⟩ (.string d)).cell? ⟨s0, 1, none⟩ = some (.string b) := by
      rw [World.cell?_setCell_other _ _ _ _ (by simp), World.cell?_setCell_other _ _ _ _ (by simp)]; exact d1
    have E9 : Ext w ((((W9.setCell ⟨s0, 0, none⟩ (.string a)).setCell ⟨s0, 1, none⟩ (.string b)).setCell ⟨s0 + 1, 0, none⟩ (.string c)).setCell ⟨s0 + 1, 1, none⟩ (.string d)) :=
      ext_set2 (b := s0 + 1) (ext_set2 (b := s0) HE.out (by omega) _ _) (by omega) _ _
    refine bodyPost_ret (v := .tuple #[.agg #[.string a, .string b], .agg #[.string c, .string d], .int .i64 0]) ?_ rfl ⟨rfl, E9.dr⟩
    simp [results, Tryz.f74, go_sem, d2, d3, d4, d5]
end Go.Proofs.YtadimepmoljnpaaGreatDoor.GB

namespace Go.Proofs.YtadimepmoljnpaaGreatDoor.GB
set_option linter.unusedVariables false
set_option linter.unusedSimpArgs false
open Go.RowKit Go.Shelf
attribute [local go_sem ↓] Go.wp_at_zero Go.wp_at_succ

abbrev opF (n : Nat) : Value := .func (.func n) #[] #[]
/-- What the map of the operations holds, as data: a number for each function. -/
noncomputable def opR (v : Value) : Option (DataW Unit × List MemPlace) :=
  open Classical in
  if v = .nilFunc then some (.lit (.int .i64 0), []) else
  if v = opF 190 then some (.lit (.int .i64 1), []) else
  if v = opF 191 then some (.lit (.int .i64 2), []) else
  if v = opF 192 then some (.lit (.int .i64 3), []) else
  if v = opF 194 then some (.lit (.int .i64 4), []) else none
theorem opR_inv {v : Value} {c : Int} {ps : List MemPlace} (h : opR v = some (.lit (.int .i64 c), ps)) : (c = 1 → v = opF 190) ∧ (c = 2 → v = opF 191) ∧ (c = 3 → v = opF 192) ∧ (c = 4 → v = opF 194) := by
  unfold opR at h
  (repeat' split at h) <;> first | (simp at h; obtain ⟨rfl, _⟩ := h; simp_all) | cases h
theorem opR_p : opR (opF 190) = some (.lit (.int .i64 1), []) := by unfold opR; simp
theorem opR_t : opR (opF 191) = some (.lit (.int .i64 2), []) := by unfold opR; simp
theorem opR_m : opR (opF 192) = some (.lit (.int .i64 3), []) := by unfold opR; simp
theorem opR_d : opR (opF 194) = some (.lit (.int .i64 4), []) := by unfold opR; simp
theorem opR_0 : opR .nilFunc = some (.lit (.int .i64 0), []) := by unfold opR; simp
def opD : DataW Unit := ((((DataW.map []).put (.int .u8 43) (.lit (.int .i64 1))).put (.int .u8 42) (.lit (.int .i64 2))).put (.int .u8 45) (.lit (.int .i64 3))).put (.int .u8 47) (.lit (.int .i64 4))
def OpsM (w : World) (b : Nat) : Prop := w.ownsMap Tryz.prog 5 opR b 4 opD
theorem key8 (a : Int) (h : (Lit.int .u8 a).wf = true) : keyOf Tryz.prog 5 (.int .u8 a) = some (.int .u8 a) := Maps.keyOf_int_mk Tryz.underlying5 h
theorem keyed8 : Maps.Keyed Tryz.prog 5 := Maps.int_keyed Tryz.underlying5
theorem zeroFn (w : World) : (zeroValue 156).run Tryz.prog w = .ok .nilFunc w := by kernel_rfl
theorem ops_look {w : World} {b : Nat} (h : OpsM w b) (a c : Int) (ha : (Lit.int .u8 a).wf = true) (hc : opD.atKey (.int .u8 a) (.lit (.int .i64 0)) = .lit (.int .i64 c)) :
    ∃ v ps, (Instr.lookup 157 (.map (some b)) (.int .u8 a) false).run Tryz.prog w = .ok v w ∧ opR v = some (.lit (.int .i64 c), ps) := by
  obtain ⟨v, ps, h1, h2⟩ := World.ownsMap.lookup h keyed8 Tryz.underlying157 (zeroFn w) opR_0 (key8 a ha)
  rw [hc] at h2
  exact ⟨v, ps, h1, h2⟩
theorem ops_43 {w : World} {b : Nat} (h : OpsM w b) : (Instr.lookup 157 (.map (some b)) (.int .u8 43) false).run Tryz.prog w = .ok (opF 190) w := by
  obtain ⟨v, ps, h1, h2⟩ := ops_look h 43 1 (by decide) (by rfl)
  rw [h1, (opR_inv h2).1 rfl]
theorem ops_42 {w : World} {b : Nat} (h : OpsM w b) : (Instr.lookup 157 (.map (some b)) (.int .u8 42) false).run Tryz.prog w = .ok (opF 191) w := by
  obtain ⟨v, ps, h1, h2⟩ := ops_look h 42 2 (by decide) (by rfl)
  rw [h1, (opR_inv h2).2.1 rfl]
theorem ops_45 {w : World} {b : Nat} (h : OpsM w b) : (Instr.lookup 157 (.map (some b)) (.int .u8 45) false).run Tryz.prog w = .ok (opF 192) w := by
  obtain ⟨v, ps, h1, h2⟩ := ops_look h 45 3 (by decide) (by rfl)
  rw [h1, (opR_inv h2).2.2.1 rfl]
theorem ops_47 {w : World} {b : Nat} (h : OpsM w b) : (Instr.lookup 157 (.map (some b)) (.int .u8 47) false).run Tryz.prog w = .ok (opF 194) w := by
  obtain ⟨v, ps, h1, h2⟩ := ops_look h 47 4 (by decide) (by rfl)
  rw [h1, (opR_inv h2).2.2.2 rfl]
set_option maxHeartbeats 2000000 in
set_option maxRecDepth 100000 in
theorem operations_any (w : World) : Calls Tryz.prog 155 #[] w fun e w' => e = .returned (.map (some w.heap.size)) ∧ Ext w w' ∧ OpsM w' w.heap.size := by
  have hmm := @run_makeMap Tryz.prog
  have h0 := World.ownsMap_made w Tryz.prog 5 opR
  have E0 := (Ext.rfl' w).al (.map #[] 0)
  obtain ⟨w1, r1, h1, g1⟩ := h0.update keyed8 Tryz.underlying157 (by unfold maxLen; omega) (key8 43 (by decide)) opR_p
  obtain ⟨w2, r2, h2, g2⟩ := h1.update keyed8 Tryz.underlying157 (by unfold maxLen; omega) (key8 42 (by decide)) opR_t
  obtain ⟨w3, r3, h3, g3⟩ := h2.update keyed8 Tryz.underlying157 (by unfold maxLen; omega) (key8 45 (by decide)) opR_m
  obtain ⟨w4, r4, h4, g4⟩ := h3.update keyed8 Tryz.underlying157 (by unfold maxLen; omega) (key8 47 (by decide)) opR_d
  have E4 := Lib.hid ((((E0.gr g1 (fun k hk => by cases hk; exact Nat.le_refl _)).gr g2 (fun k hk => by cases hk; exact Nat.le_refl _)).gr g3 (fun k hk => by cases hk; exact Nat.le_refl _)).gr g4 (fun k hk => by cases hk; exact Nat.le_refl _))
  have H4 : Hid (OpsM w4 w.heap.size) := h4
  clear h0 h1 h2 h3 h4 g1 g2 g3 g4 E0
  go_enter Tryz.func155, Tryz.ntmps155
  go_wp2_with fail
  go_ret
  exact ⟨rfl, E4.out, H4.out⟩
set_option maxHeartbeats 2000000 in
set_option maxRecDepth 100000 in
theorem all_any (w : World) : Calls Tryz.prog 115 #[] w fun e w' => e = .returned (.map (some w.heap.size)) ∧ Ext w w' ∧ OpsM w' w.heap.size := by
  go_enter Tryz.func115, Tryz.ntmps115
  go_wp2_with fail
  refine (operations_any _).mono ?_
  rintro e w1 ⟨rfl, E1, H1⟩
  go_wp2_with fail
  go_ret
  exact ⟨rfl, E1, H1⟩
end Go.Proofs.YtadimepmoljnpaaGreatDoor.GB

namespace Go.Proofs.YtadimepmoljnpaaGreatDoor.GB
set_option linter.unusedVariables false
set_option linter.unusedSimpArgs false
open Go.RowKit Go.Shelf
attribute [local go_sem ↓] Go.wp_at_zero Go.wp_at_succ

theorem all_b (w : World) : Calls Tryz.prog 115 #[] w fun e w' => ∃ b, e = .returned (.map (some b)) ∧ Ext w w' ∧ OpsM w' b :=
  (all_any w).mono fun e w' h => ⟨_, h⟩
set_option maxHeartbeats 4000000 in
set_option maxRecDepth 100000 in
theorem rapply_43 (s t a b c d p q r : ByteArray) (w : World)
    (h1 : ∀ W, Ext w W → Calls Tryz.prog 74 #[.string s, .string t] W fun e w' => e = .returned (.tuple #[.agg #[.string a, .string b], .agg #[.string c, .string d], .int .i64 0]) ∧ Ext W w')
    (h3 : ∀ W, Ext w W → Calls Tryz.prog 190 #[.agg #[.string a, .string b], .agg #[.string c, .string d]] W fun e w' => e = .returned (.agg #[.string p, .string q]) ∧ Ext W w')
    (h4 : ∀ W, Ext w W → Calls Tryz.prog 116 #[.agg #[.string p, .string q]] W fun e w' => e = .returned (.string r) ∧ Ext W w') :
    Calls Tryz.prog 71 #[.int .u8 43, .string s, .string t] w fun e w' => e = .returned (.tuple #[.string r, .int .i64 0]) ∧ Ext w w' := by
  go_enter Tryz.func71, Tryz.ntmps71
  go_wp2_with fail
  refine (h1 _ (Ext.rfl' _)).mono ?_
  rintro e w1 ⟨rfl, hE1⟩
  obtain ⟨X1, X2, E2⟩ := boxes2 w1 #[.string a, .string b] #[.string c, .string d] 108
  have HE := Lib.hid (hE1.tr E2)
  have a0 := X1.c0
  have a1 := X1.c1
  have b0 := X2.c0
  have b1 := X2.c1
  clear X1 X2 hE1 E2 h1
  go_wp2_with fail
  generalize ((w1.alloc (.cells #[.string a, .string b] 108)).alloc (.cells #[.string c, .string d] 108)) = W0 at *
  generalize w1.heap.size = g at *
  go_region_held3 (fun w' => w'.cell? ⟨g, 0, none⟩ = some (.string a) ∧ w'.cell? ⟨g, 1, none⟩ = some (.string b) ∧ w'.cell? ⟨g + 1, 0, none⟩ = some (.string c) ∧ w'.cell? ⟨g + 1, 1, none⟩ = some (.string d)) (((try dsimp only); (repeat' apply And.intro) <;> assumption))
    (first
      | (go_at_call 115; (with_reducible refine (all_b _).mono ?_); rintro e w2 ⟨m, rfl, hE2, hM⟩; have hl := ops_43 hM; have q0 := Ext.cellD hE2 a0; have q1 := Ext.cellD hE2 a1; have q2 := Ext.cellD hE2 b0; have q3 := Ext.cellD hE2 b1; have HE2 := Lib.hid ((Ext.dr' HE).tr hE2); clear hE2 hM)
      | (go_at_call 190; (with_reducible refine (h3 _ HE2.out).mono ?_); rintro e w3 ⟨rfl, hE3⟩; have t0 := Ext.cellH hE3 q0; have t1 := Ext.cellH hE3 q1; have t2 := Ext.cellH hE3 q2; have t3 := Ext.cellH hE3 q3; have HE3 := Lib.hid (HE2.out.tr hE3); clear hE3)
      | (go_at_call 116; (with_reducible refine (h4 _ HE3.out).mono ?_); rintro e w4 ⟨rfl, hE4⟩; have u0 := Ext.cellH hE4 t0; have u1 := Ext.cellH hE4 t1; have u2 := Ext.cellH hE4 t2; have u3 := Ext.cellH hE4 t3; have HE4 := Lib.hid (HE3.out.tr hE4); clear hE4))
  all_goals
    go_wp2_with fail
    go_ret2
    exact ⟨rfl, HE4.out⟩
set_option maxHeartbeats 4000000 in
set_option maxRecDepth 100000 in
theorem rapply_42 (s t a b c d p q r : ByteArray) (w : World)
    (h1 : ∀ W, Ext w W → Calls Tryz.prog 74 #[.string s, .string t] W fun e w' => e = .returned (.tuple #[.agg #[.string a, .string b], .agg #[.string c, .string d], .int .i64 0]) ∧ Ext W w')
    (h3 : ∀ W, Ext w W → Calls Tryz.prog 191 #[.agg #[.string a, .string b], .agg #[.string c, .string d]] W fun e w' => e = .returned (.agg #[.string p, .string q]) ∧ Ext W w')
    (h4 : ∀ W, Ext w W → Calls Tryz.prog 116 #[.agg #[.string p, .string q]] W fun e w' => e = .returned (.string r) ∧ Ext W w') :
    Calls Tryz.prog 71 #[.int .u8 42, .string s, .string t] w fun e w' => e = .returned (.tuple #[.string r, .int .i64 0]) ∧ Ext w w' := by
  go_enter Tryz.func71, Tryz.ntmps71
  go_wp2_with fail
  refine (h1 _ (Ext.rfl' _)).mono ?_
  rintro e w1 ⟨rfl, hE1⟩
  obtain ⟨X1, X2, E2⟩ := boxes2 w1 #[.string a, .string b] #[.string c, .string d] 108
  have HE := Lib.hid (hE1.tr E2)
  have a0 := X1.c0
  have a1 := X1.c1
  have b0 := X2.c0
  have b1 := X2.c1
  clear X1 X2 hE1 E2 h1
  go_wp2_with fail
  generalize ((w1.alloc (.cells #[.string a, .string b] 108)).alloc (.cells #[.string c, .string d] 108)) = W0 at *
  generalize w1.heap.size = g at *
  go_region_held3 (fun w' => w'.cell? ⟨g, 0, none⟩ = some (.string a) ∧ w'.cell? ⟨g, 1, none⟩ = some (.string b) ∧ w'.cell? ⟨g + 1, 0, none⟩ = some (.string c) ∧ w'.cell? ⟨g + 1, 1, none⟩ = some (.string d)) (((try dsimp only); (repeat' apply And.intro) <;> assumption))
    (first
      | (go_at_call 115; (with_reducible refine (all_b _).mono ?_); rintro e w2 ⟨m, rfl, hE2, hM⟩; have hl := ops_42 hM; have q0 := Ext.cellD hE2 a0; have q1 := Ext.cellD hE2 a1; have q2 := Ext.cellD hE2 b0; have q3 := Ext.cellD hE2 b1; have HE2 := Lib.hid ((Ext.dr' HE).tr hE2); clear hE2 hM)
      | (go_at_call 191; (with_reducible refine (h3 _ HE2.out).mono ?_); rintro e w3 ⟨rfl, hE3⟩; have t0 := Ext.cellH hE3 q0; have t1 := Ext.cellH hE3 q1; have t2 := Ext.cellH hE3 q2; have t3 := Ext.cellH hE3 q3; have HE3 := Lib.hid (HE2.out.tr hE3); clear hE3)
      | (go_at_call 116; (with_reducible refine (h4 _ HE3.out).mono ?_); rintro e w4 ⟨rfl, hE4⟩; have u0 := Ext.cellH hE4 t0; have u1 := Ext.cellH hE4 t1; have u2 := Ext.cellH hE4 t2; have u3 := Ext.cellH hE4 t3; have HE4 := Lib.hid (HE3.out.tr hE4); clear hE4))
  all_goals
    go_wp2_with fail
    go_ret2
    exact ⟨rfl, HE4.out⟩
set_option maxHeartbeats 4000000 in
set_option maxRecDepth 100000 in
theorem rapply_45 (s t a b c d p q r : ByteArray) (w : World)
    (h1 : ∀ W, Ext w W → Calls Tryz.prog 74 #[.string s, .string t] W fun e w' => e = .returned (.tuple #[.agg #[.string a, .string b], .agg #[.string c, .string d], .int .i64 0]) ∧ Ext W w')
    (h3 : ∀ W, Ext w W → Calls Tryz.prog 192 #[.agg #[.string a, .string b], .agg #[.string c, .string d]] W fun e w' => e = .returned (.agg #[.string p, .string q]) ∧ Ext W w')
    (h4 : ∀ W, Ext w W → Calls Tryz.prog 116 #[.agg #[.string p, .string q]] W fun e w' => e = .returned (.string r) ∧ Ext W w') :
    Calls Tryz.prog 71 #[.int .u8 45, .string s, .string t] w fun e w' => e = .returned (.tuple #[.string r, .int .i64 0]) ∧ Ext w w' := by
  go_enter Tryz.func71, Tryz.ntmps71
  go_wp2_with fail
  refine (h1 _ (Ext.rfl' _)).mono ?_
  rintro e w1 ⟨rfl, hE1⟩
  obtain ⟨X1, X2, E2⟩ := boxes2 w1 #[.string a, .string b] #[.string c, .string d] 108
  have HE := Lib.hid (hE1.tr E2)
  have a0 := X1.c0
  have a1 := X1.c1
  have b0 := X2.c0
  have b1 := X2.c1
  clear X1 X2 hE1 E2 h1
  go_wp2_with fail
  generalize ((w1.alloc (.cells #[.string a, .string b] 108)).alloc (.cells #[.string c, .string d] 108)) = W0 at *
  generalize w1.heap.size = g at *
  go_region_held3 (fun w' => w'.cell? ⟨g, 0, none⟩ = some (.string a) ∧ w'.cell? ⟨g, 1, none⟩ = some (.string b) ∧ w'.cell? ⟨g + 1, 0, none⟩ = some (.string c) ∧ w'.cell? ⟨g + 1, 1, none⟩ = some (.string d)) (((try dsimp only); (repeat' apply And.intro) <;> assumption))
    (first
      | (go_at_call 115; (with_reducible refine (all_b _).mono ?_); rintro e w2 ⟨m, rfl, hE2, hM⟩; have hl := ops_45 hM; have q0 := Ext.cellD hE2 a0; have q1 := Ext.cellD hE2 a1; have q2 := Ext.cellD hE2 b0; have q3 := Ext.cellD hE2 b1; have HE2 := Lib.hid ((Ext.dr' HE).tr hE2); clear hE2 hM)
      | (go_at_call 192; (with_reducible refine (h3 _ HE2.out).mono ?_); rintro e w3 ⟨rfl, hE3⟩; have t0 := Ext.cellH hE3 q0; have t1 := Ext.cellH hE3 q1; have t2 := Ext.cellH hE3 q2; have t3 := Ext.cellH hE3 q3; have HE3 := Lib.hid (HE2.out.tr hE3); clear hE3)
      | (go_at_call 116; (with_reducible refine (h4 _ HE3.out).mono ?_); rintro e w4 ⟨rfl, hE4⟩; have u0 := Ext.cellH hE4 t0; have u1 := Ext.cellH hE4 t1; have u2 := Ext.cellH hE4 t2; have u3 := Ext.cellH hE4 t3; have HE4 := Lib.hid (HE3.out.tr hE4); clear hE4))
  all_goals
    go_wp2_with fail
    go_ret2
    exact ⟨rfl, HE4.out⟩
set_option maxHeartbeats 4000000 in
set_option maxRecDepth 100000 in
theorem rapply_47 (s t a b c d p q r : ByteArray) (w : World)
    (h1 : ∀ W, Ext w W → Calls Tryz.prog 74 #[.string s, .string t] W fun e w' => e = .returned (.tuple #[.agg #[.string a, .string b], .agg #[.string c, .string d], .int .i64 0]) ∧ Ext W w')
    (hz : (c.toList == [48]) = false) (h3 : ∀ W, Ext w W → Calls Tryz.prog 194 #[.agg #[.string a, .string b], .agg #[.string c, .string d]] W fun e w' => e = .returned (.agg #[.string p, .string q]) ∧ Ext W w')
    (h4 : ∀ W, Ext w W → Calls Tryz.prog 116 #[.agg #[.string p, .string q]] W fun e w' => e = .returned (.string r) ∧ Ext W w') :
    Calls Tryz.prog 71 #[.int .u8 47, .string s, .string t] w fun e w' => e = .returned (.tuple #[.string r, .int .i64 0]) ∧ Ext w w' := by
  go_enter Tryz.func71, Tryz.ntmps71
  go_wp2_with fail
  refine (h1 _ (Ext.rfl' _)).mono ?_
  rintro e w1 ⟨rfl, hE1⟩
  obtain ⟨X1, X2, E2⟩ := boxes2 w1 #[.string a, .string b] #[.string c, .string d] 108
  have HE := Lib.hid (hE1.tr E2)
  have a0 := X1.c0
  have a1 := X1.c1
  have b0 := X2.c0
  have b1 := X2.c1
  clear X1 X2 hE1 E2 h1
  go_wp2_with fail
  generalize ((w1.alloc (.cells #[.string a, .string b] 108)).alloc (.cells #[.string c, .string d] 108)) = W0 at *
  generalize w1.heap.size = g at *
  go_region_held3 (fun w' => w'.cell? ⟨g, 0, none⟩ = some (.string a) ∧ w'.cell? ⟨g, 1, none⟩ = some (.string b) ∧ w'.cell? ⟨g + 1, 0, none⟩ = some (.string c) ∧ w'.cell? ⟨g + 1, 1, none⟩ = some (.string d)) (((try dsimp only); (repeat' apply And.intro) <;> assumption))
    (first
      | (go_at_call 115; (with_reducible refine (all_b _).mono ?_); rintro e w2 ⟨m, rfl, hE2, hM⟩; have hl := ops_47 hM; have q0 := Ext.cellD hE2 a0; have q1 := Ext.cellD hE2 a1; have q2 := Ext.cellD hE2 b0; have q3 := Ext.cellD hE2 b1; have HE2 := Lib.hid ((Ext.dr' HE).tr hE2); clear hE2 hM)
      | (go_at_call 194; (with_reducible refine (h3 _ HE2.out).mono ?_); rintro e w3 ⟨rfl, hE3⟩; have t0 := Ext.cellH hE3 q0; have t1 := Ext.cellH hE3 q1; have t2 := Ext.cellH hE3 q2; have t3 := Ext.cellH hE3 q3; have HE3 := Lib.hid (HE2.out.tr hE3); clear hE3)
      | (go_at_call 116; (with_reducible refine (h4 _ HE3.out).mono ?_); rintro e w4 ⟨rfl, hE4⟩; have u0 := Ext.cellH hE4 t0; have u1 := Ext.cellH hE4 t1; have u2 := Ext.cellH hE4 t2; have u3 := Ext.cellH hE4 t3; have HE4 := Lib.hid (HE3.out.tr hE4); clear hE4))
  all_goals
    go_wp2_with fail
    go_ret2
    exact ⟨rfl, HE4.out⟩
end Go.Proofs.YtadimepmoljnpaaGreatDoor.GB
