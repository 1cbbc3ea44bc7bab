import Derived.Test.YtbldlibijojbjaaGreatDoorCRg
namespace Go.Proofs.YtbldlibijojbjaaGreatDoor.GB
set_option linter.unusedVariables false
set_option linter.unusedSimpArgs false
open Go.RowKit Go.Shelf
attribute [local go_sem ↓] Go.wp_at_zero Go.wp_at_succ

/-- The most bits. -/
def KK : Nat := 274877906944
theorem KK_eq : KK = 274877906944 := rfl
theorem Fit.of {a k : Nat} (hk : k ≤ KK) (h : a < 2 ^ k) : Fit a := ⟨k, by rw [← KK_eq]; exact hk, h⟩
theorem Bd.fit {q : Rat} {n : Nat} (h : Bd q n) (hn : n + 1 ≤ KK) : Fit q.num.natAbs ∧ Fit q.den :=
  ⟨Fit.of (k := n) (by omega) h.1, Fit.of (k := n + 1) hn (Nat.lt_of_le_of_lt h.2 (Nat.pow_lt_pow_right (by omega) (by omega)))⟩
theorem Bd.fit_nd {x y : Rat} {m n : Nat} (hx : Bd x m) (hy : Bd y n) : x.num.natAbs * y.den < 2 ^ (m + n) := by
  rw [Nat.pow_add]
  rcases Nat.eq_zero_or_pos x.num.natAbs with h | h
  · rw [h, Nat.zero_mul]; exact Nat.mul_pos (Nat.pow_pos (by omega)) (Nat.pow_pos (by omega))
  · exact Nat.lt_of_le_of_lt (Nat.mul_le_mul_left _ hy.2) (Nat.mul_lt_mul_of_pos_right hx.1 (Nat.pow_pos (by omega)))
theorem Bd.fit_dd {x y : Rat} {m n : Nat} (hx : Bd x m) (hy : Bd y n) : x.den * y.den < 2 ^ (m + n + 1) := by
  have := Nat.mul_le_mul hx.2 hy.2
  rw [← Nat.pow_add] at this
  exact Nat.lt_of_le_of_lt this (Nat.pow_lt_pow_right (by omega) (by omega))
theorem Bd.fit_nn {x y : Rat} {m n : Nat} (hx : Bd x m) (hy : Bd y n) : x.num.natAbs * y.num.natAbs < 2 ^ (m + n) := by
  rw [Nat.pow_add]
  exact Nat.mul_lt_mul_of_lt_of_le hx.1 (Nat.le_of_lt hy.1) (Nat.pow_pos (by omega))
theorem radd_mk (x y : Rat) : mkRat (x.num * y.den + y.num * x.den) (x.den * y.den) = x + y := (Rat.add_def' x y).symm
theorem rmul_mk (x y : Rat) : mkRat (x.num * y.num) (x.den * y.den) = x * y := (Rat.mul_def' x y).symm
theorem mul9 {a b : Nat} (ha : a < 1000000000) (hb : b < 1000000000) : a * b < 1000000000000000000 := by
  rcases Nat.eq_zero_or_pos b with h | h
  · subst h; omega
  · exact Nat.lt_of_lt_of_le (Nat.mul_lt_mul_of_lt_of_le ha (Nat.le_refl b) h) (by omega)
theorem wrapN {x : Int} (h : x.natAbs < 4000000000000000000) : wrap64 x = x := by unfold wrap64; omega
/-- Is a fraction short? -/
def shB (x : Rat) : Bool := decide ((Lib.itoa x.num).length ≤ 9) && decide ((Lib.decDigits x.den).length ≤ 9)
theorem shB_t {x : Rat} (h : shB x = true) : (Lib.itoa x.num).length ≤ 9 ∧ (Lib.decDigits x.den).length ≤ 9 := by unfold shB at h; simpa using h
theorem shB_f {x : Rat} (h : shB x = false) : 9 < (Lib.itoa x.num).length ∨ 9 < (Lib.decDigits x.den).length := by unfold shB at h; simp at h; omega
theorem plus_q (x y : Rat) (m n : Nat) (w : World) (hW : Wd w) (hx : Bd x m) (hy : Bd y n) (hk : m + n + 1 ≤ KK) :
    Calls Tryz.prog 176 #[FV x, FV y] w fun e w' => e = .returned (FV (x + y)) ∧ Ext w w' := by
  have fx := hx.fit (by omega)
  have fy := hy.fit (by omega)
  have b1 := hx.fit_nd hy
  have b2 := hy.fit_nd hx
  have b3 := hx.fit_dd hy
  rw [Nat.add_comm n m] at b2
  have hd : x.den * y.den ≠ 0 := Nat.mul_ne_zero x.den_nz y.den_nz
  have a1 : (x.num * (y.den : Int)).natAbs = x.num.natAbs * y.den := by rw [Int.natAbs_mul]; simp
  have a2 : (y.num * (x.den : Int)).natAbs = y.num.natAbs * x.den := by rw [Int.natAbs_mul]; simp
  have hsum : (x.num * (y.den : Int) + y.num * (x.den : Int)).natAbs ≤ x.num.natAbs * y.den + y.num.natAbs * x.den := by
    have := Int.natAbs_add_le (x.num * (y.den : Int)) (y.num * (x.den : Int))
    omega
  have p2 : 2 ^ (m + n) + 2 ^ (m + n) = 2 ^ (m + n + 1) := by rw [Nat.pow_succ]; omega
  have iy : itx (y.den : Int) = dtx y.den := by show Value.string _ = Value.string _; rw [itoa_nat]
  have ix : itx (x.den : Int) = dtx x.den := by show Value.string _ = Value.string _; rw [itoa_nat]
  have h3 : ∀ W, Ext w W → Calls Tryz.prog 145 #[itx x.num, dtx y.den] W fun e w' => e = .returned (.tuple #[itx (x.num * y.den), .int .i64 0]) ∧ Ext W w' := by
    intro W hE
    have h := Mul_z x.num (y.den : Int) W (hW.ext hE) fx.1 (by simpa using fy.2) (by simpa using Fit.of (by omega) b1)
    rwa [iy] at h
  have h4 : ∀ W, Ext w W → Calls Tryz.prog 145 #[itx y.num, dtx x.den] W fun e w' => e = .returned (.tuple #[itx (y.num * x.den), .int .i64 0]) ∧ Ext W w' := by
    intro W hE
    have h := Mul_z y.num (x.den : Int) W (hW.ext hE) fy.1 (by simpa using fx.2) (by simpa using Fit.of (by omega) b2)
    rwa [ix] at h
  have h5 : ∀ W, Ext w W → Calls Tryz.prog 205 #[itx (x.num * y.den), itx (y.num * x.den)] W fun e w' => e = .returned (.tuple #[itx (x.num * y.den + y.num * x.den), .int .i64 0]) ∧ Ext W w' := by
    intro W hE
    exact Add_z _ _ W (hW.ext hE) (by rw [a1]; exact Fit.of (by omega) b1) (by rw [a2]; exact Fit.of (by omega) b2) (by rw [a1, a2]; exact Fit.of (k := m + n + 1) (by omega) (by omega))
  have h6 : ∀ W, Ext w W → Calls Tryz.prog 187 #[dtx x.den, dtx y.den] W fun e w' => e = .returned (.tuple #[dtx (x.den * y.den), .int .i64 0]) ∧ Ext W w' := by
    intro W hE
    exact Mul_n _ _ W (hW.ext hE) fx.2 fy.2 (Fit.of (by omega) b3)
  have h7 : ∀ W, Ext w W → Calls Tryz.prog 206 #[itx (x.num * y.den + y.num * x.den), dtx (x.den * y.den)] W fun e w' => e = .returned (FV (x + y)) ∧ Ext W w' := by
    intro W hE
    have h := lowest_q (x.num * y.den + y.num * x.den) (x.den * y.den) W (hW.ext hE) (Fit.of (k := m + n + 1) (by omega) (by omega)) (Fit.of (by omega) b3) hd
    rwa [radd_mk] at h
  cases hsx : shB x
  · have sx := shB_f hsx
    cases hsy : shB y
    · exact rplus_2 _ _ _ _ _ _ _ _ _ _ 0 0 0 0 false w (fun W _ => little_big _ _ W sx) (fun W _ => little_big _ _ W (shB_f hsy)) h3 h4 h5 h6 h7
    · exact rplus_2 _ _ _ _ _ _ _ _ _ _ 0 0 y.num y.den true w (fun W _ => little_big _ _ W sx) (fun W _ => little_q _ _ W (shB_t hsy).1 (shB_t hsy).2) h3 h4 h5 h6 h7
  · have sx := shB_t hsx
    cases hsy : shB y
    · exact rplus_3 _ _ _ _ _ _ _ _ _ _ x.num x.den 0 0 false w (fun W _ => little_q _ _ W sx.1 sx.2) (fun W _ => little_big _ _ W (shB_f hsy)) h3 h4 h5 h6 h7
    · have sy := shB_t hsy
      have c1 := mul9 (itoa_len9 sx.1) (ten9_lt sy.2)
      have c2 := mul9 (itoa_len9 sy.1) (ten9_lt sx.2)
      have c3 := mul9 (ten9_lt sx.2) (ten9_lt sy.2)
      have c4 : ((x.den : Int) * (y.den : Int)).natAbs = x.den * y.den := by rw [← Int.natCast_mul]; exact Int.natAbs_natCast _
      have c5 : 0 < (x.den : Int) * (y.den : Int) := by rw [← Int.natCast_mul]; omega
      have c6 : ((x.den : Int) * (y.den : Int)).toNat = x.den * y.den := by rw [← Int.natCast_mul]; exact Int.toNat_natCast _
      refine rplus_1 _ _ _ _ _ _ x.num x.den y.num y.den w (fun W _ => little_q _ _ W sx.1 sx.2) (fun W _ => little_q _ _ W sy.1 sy.2) (wrapN (by omega)) (wrapN (by omega)) (wrapN (by omega)) (wrapN (by omega)) ?_
      intro W hE
      have h := of_q (x.num * y.den + y.num * x.den) ((x.den : Int) * (y.den : Int)) W (hW.ext hE) (by omega) (by omega) c5
      rwa [c6, radd_mk] at h
theorem times_q (x y : Rat) (m n : Nat) (w : World) (hW : Wd w) (hx : Bd x m) (hy : Bd y n) (hk : m + n + 1 ≤ KK) :
    Calls Tryz.prog 177 #[FV x, FV y] w fun e w' => e = .returned (FV (x * y)) ∧ Ext w w' := by
  have fx := hx.fit (by omega)
  have fy := hy.fit (by omega)
  have b1 := hx.fit_nn hy
  have b3 := hx.fit_dd hy
  have hd : x.den * y.den ≠ 0 := Nat.mul_ne_zero x.den_nz y.den_nz
  have a1 : (x.num * y.num).natAbs = x.num.natAbs * y.num.natAbs := Int.natAbs_mul _ _
  have h3 : ∀ W, Ext w W → Calls Tryz.prog 145 #[itx x.num, itx y.num] W fun e w' => e = .returned (.tuple #[itx (x.num * y.num), .int .i64 0]) ∧ Ext W w' := by
    intro W hE
    exact Mul_z x.num y.num W (hW.ext hE) fx.1 fy.1 (Fit.of (by omega) b1)
  have h6 : ∀ W, Ext w W → Calls Tryz.prog 187 #[dtx x.den, dtx y.den] W fun e w' => e = .returned (.tuple #[dtx (x.den * y.den), .int .i64 0]) ∧ Ext W w' := by
    intro W hE
    exact Mul_n _ _ W (hW.ext hE) fx.2 fy.2 (Fit.of (by omega) b3)
  have h7 : ∀ W, Ext w W → Calls Tryz.prog 206 #[itx (x.num * y.num), dtx (x.den * y.den)] W fun e w' => e = .returned (FV (x * y)) ∧ Ext W w' := by
    intro W hE
    have h := lowest_q (x.num * y.num) (x.den * y.den) W (hW.ext hE) (by rw [a1]; exact Fit.of (by omega) b1) (Fit.of (by omega) b3) hd
    rwa [rmul_mk] at h
  cases hsx : shB x
  · have sx := shB_f hsx
    cases hsy : shB y
    · exact rtimes_2 _ _ _ _ _ _ _ _ 0 0 0 0 false w (fun W _ => little_big _ _ W sx) (fun W _ => little_big _ _ W (shB_f hsy)) h3 h6 h7
    · exact rtimes_2 _ _ _ _ _ _ _ _ 0 0 y.num y.den true w (fun W _ => little_big _ _ W sx) (fun W _ => little_q _ _ W (shB_t hsy).1 (shB_t hsy).2) h3 h6 h7
  · have sx := shB_t hsx
    cases hsy : shB y
    · exact rtimes_3 _ _ _ _ _ _ _ _ x.num x.den 0 0 false w (fun W _ => little_q _ _ W sx.1 sx.2) (fun W _ => little_big _ _ W (shB_f hsy)) h3 h6 h7
    · have sy := shB_t hsy
      have c1 := mul9 (itoa_len9 sx.1) (itoa_len9 sy.1)
      have c3 := mul9 (ten9_lt sx.2) (ten9_lt sy.2)
      have c4 : ((x.den : Int) * (y.den : Int)).natAbs = x.den * y.den := by rw [← Int.natCast_mul]; exact Int.natAbs_natCast _
      have c5 : 0 < (x.den : Int) * (y.den : Int) := by rw [← Int.natCast_mul]; omega
      have c6 : ((x.den : Int) * (y.den : Int)).toNat = x.den * y.den := by rw [← Int.natCast_mul]; exact Int.toNat_natCast _
      refine rtimes_1 _ _ _ _ _ _ x.num x.den y.num y.den w (fun W _ => little_q _ _ W sx.1 sx.2) (fun W _ => little_q _ _ W sy.1 sy.2) (wrapN (by omega)) (wrapN (by omega)) ?_
      intro W hE
      have h := of_q (x.num * y.num) ((x.den : Int) * (y.den : Int)) W (hW.ext hE) (by omega) (by omega) c5
      rwa [c6, rmul_mk] at h
end Go.Proofs.YtbldlibijojbjaaGreatDoor.GB

namespace Go.Proofs.YtbldlibijojbjaaGreatDoor.GB
set_option linter.unusedVariables false
set_option linter.unusedSimpArgs false
open Go.RowKit Go.Shelf
attribute [local go_sem ↓] Go.wp_at_zero Go.wp_at_succ

set_option maxHeartbeats 4000000 in
set_option maxRecDepth 100000 in
theorem ropp_1 (s t s' : ByteArray) (w : World) (h1 : ∀ W, Ext w W → Calls Tryz.prog 207 #[.string s] W fun e w' => e = .returned (.tuple #[.string s', .int .i64 0]) ∧ Ext W w') :
    Calls Tryz.prog 179 #[.agg #[.string s, .string t]] w fun e w' => e = .returned (.agg #[.string s', .string t]) ∧ Ext w w' := by
  obtain ⟨X1, X2, E⟩ := boxes2 w #[.string s, .string t] #[.string ⟨#[]⟩, .string ⟨#[]⟩] 102
  go_enter Tryz.func179, Tryz.ntmps179
  go_wp2_with fail
  generalize (w.alloc (.cells #[.string s, .string t] 102)).alloc (.cells #[.string ⟨#[]⟩, .string ⟨#[]⟩] 102) = W0 at *
  refine (h1 _ E).mono ?_
  rintro e w1 ⟨rfl, hE⟩
  replace X1 := X1.ext hE
  replace X2 := X2.ext hE
  replace E := E.tr hE
  clear hE
  obtain ⟨c10, c11, f10, f11⟩ := X1.e2
  obtain ⟨c20, c21, f20, f21⟩ := X2.e2
  go_wp2_with fail
  obtain ⟨d0, d1⟩ := set2 X2 (.string s') (.string t)
  have E2 := ext_set2 (b := w.heap.size + 1) E (by omega) (.string s') (.string t)
  refine bodyPost_ret (v := .agg #[.string s', .string t]) ?_ rfl ⟨rfl, E2⟩
  simp [results, Tryz.f179, go_sem, d0, d1]
theorem ropp_q (x : Rat) (w : World) (hx : Fit x.num.natAbs) :
    Calls Tryz.prog 179 #[FV x] w fun e w' => e = .returned (FV (-x)) ∧ Ext w w' :=
  ropp_1 _ _ _ w (fun W _ => Neg_z x.num W hx)
set_option maxHeartbeats 4000000 in
set_option maxRecDepth 100000 in
theorem rinv_1 (s t a : ByteArray) (w : World) (hsz : ¬ 9223372036854775807 < 1 + t.size) (h1 : ∀ W, Ext w W → Calls Tryz.prog 171 #[.string s, .string ⟨#[45]⟩] W fun e w' => e = .returned (.tuple #[.string a, .bool true]) ∧ Ext W w') :
    Calls Tryz.prog 181 #[.agg #[.string s, .string t]] w fun e w' => e = .returned (.agg #[.string (⟨#[45]⟩ ++ t), .string a]) ∧ Ext w w' := by
  obtain ⟨X1, X2, E⟩ := boxes2 w #[.string s, .string t] #[.string ⟨#[]⟩, .string ⟨#[]⟩] 102
  go_enter Tryz.func181, Tryz.ntmps181
  go_wp2_with fail
  generalize (w.alloc (.cells #[.string s, .string t] 102)).alloc (.cells #[.string ⟨#[]⟩, .string ⟨#[]⟩] 102) = W0 at *
  refine (h1 _ E).mono ?_
  rintro e w1 ⟨rfl, hE⟩
  replace X1 := X1.ext hE
  replace X2 := X2.ext hE
  replace E := E.tr hE
  clear hE
  obtain ⟨c10, c11, f10, f11⟩ := X1.e2
  obtain ⟨c20, c21, f20, f21⟩ := X2.e2
  go_wp2_with fail
  obtain ⟨d0, d1⟩ := set2 X2 (.string (⟨#[45]⟩ ++ t)) (.string a)
  have E2 := ext_set2 (b := w.heap.size + 1) E (by omega) (.string (⟨#[45]⟩ ++ t)) (.string a)
  refine bodyPost_ret (v := .agg #[.string (⟨#[45]⟩ ++ t), .string a]) ?_ rfl ⟨rfl, E2⟩
  simp [results, Tryz.f181, go_sem, d0, d1]
set_option maxHeartbeats 4000000 in
set_option maxRecDepth 100000 in
theorem rinv_2 (s t a : ByteArray) (w : World)  (h1 : ∀ W, Ext w W → Calls Tryz.prog 171 #[.string s, .string ⟨#[45]⟩] W fun e w' => e = .returned (.tuple #[.string a, .bool false]) ∧ Ext W w') :
    Calls Tryz.prog 181 #[.agg #[.string s, .string t]] w fun e w' => e = .returned (.agg #[.string t, .string s]) ∧ Ext w w' := by
  obtain ⟨X1, X2, E⟩ := boxes2 w #[.string s, .string t] #[.string ⟨#[]⟩, .string ⟨#[]⟩] 102
  go_enter Tryz.func181, Tryz.ntmps181
  go_wp2_with fail
  generalize (w.alloc (.cells #[.string s, .string t] 102)).alloc (.cells #[.string ⟨#[]⟩, .string ⟨#[]⟩] 102) = W0 at *
  refine (h1 _ E).mono ?_
  rintro e w1 ⟨rfl, hE⟩
  replace X1 := X1.ext hE
  replace X2 := X2.ext hE
  replace E := E.tr hE
  clear hE
  obtain ⟨c10, c11, f10, f11⟩ := X1.e2
  obtain ⟨c20, c21, f20, f21⟩ := X2.e2
  go_wp2_with fail
  obtain ⟨d0, d1⟩ := set2 X2 (.string t) (.string s)
  have E2 := ext_set2 (b := w.heap.size + 1) E (by omega) (.string t) (.string s)
  refine bodyPost_ret (v := .agg #[.string t, .string s]) ?_ rfl ⟨rfl, E2⟩
  simp [results, Tryz.f181, go_sem, d0, d1]
theorem rinv_q (x : Rat) (w : World) (hn : Fit x.num.natAbs) (hd : Fit x.den) (h0 : x ≠ 0) :
    Calls Tryz.prog 181 #[FV x] w fun e w' => e = .returned (FV x⁻¹) ∧ Ext w w' := by
  have hz : x.num ≠ 0 := fun h => h0 (Rat.num_eq_zero.1 h)
  have hcut : ∀ W, Ext w W → Calls Tryz.prog 171 #[itx x.num, .string ⟨#[45]⟩] W fun e w' => e = .returned (.tuple #[dtx x.num.natAbs, .bool (decide (x.num < 0))]) ∧ Ext W w' := by
    intro W _
    have h := Tryz.strings_CutPrefix ⟨(Lib.itoa x.num).toArray⟩ ⟨#[45]⟩ W
    have e1 : (⟨(Lib.itoa x.num).toArray⟩ : ByteArray).data.toList = Lib.itoa x.num := rfl
    have e45 : (⟨#[45]⟩ : ByteArray).data.toList = [45] := rfl
    rw [e1, e45, (itoa_prefix x.num).1, (itoa_prefix x.num).2] at h
    refine h.mono ?_
    rintro e w' ⟨rfl, rfl⟩
    exact ⟨rfl, Ext.rfl' _⟩
  unfold FV
  rw [Rat.num_inv, Rat.den_inv, if_neg hz]
  rcases (by omega : x.num < 0 ∨ 0 < x.num) with h | h
  · have hp : (0 : Int) < x.den := Int.natCast_pos.2 x.den_pos
    have e2 : x.num.sign * (x.den : Int) = -(x.den : Int) := by rw [Int.sign_eq_neg_one_of_neg h]; omega
    rw [decide_eq_true h] at hcut
    have e3 : itx (-(x.den : Int)) = .string (⟨#[45]⟩ ++ ⟨(Lib.decDigits x.den).toArray⟩) := by
      rw [cat45]
      show Value.string _ = Value.string _
      rw [itoa_neg _ x.den_pos]
    rw [e2, e3]
    exact rinv_1 _ _ _ w (by rw [dtx_size]; have := hd.dec; omega) hcut
  · have e2 : x.num.sign * (x.den : Int) = (x.den : Int) := by rw [Int.sign_eq_one_of_pos h]; omega
    rw [decide_eq_false (by omega)] at hcut
    have e3 : itx (x.den : Int) = dtx x.den := by show Value.string _ = Value.string _; rw [itoa_nat]
    have e4 : itx x.num = dtx x.num.natAbs := by
      show Value.string _ = Value.string _
      rw [itoa_of_nonneg (by omega)]
    rw [e2, e3]
    rw [e4] at hcut ⊢
    exact rinv_2 _ _ _ w hcut
set_option maxHeartbeats 4000000 in
set_option maxRecDepth 100000 in
theorem rsign_q (x : Rat) (w : World) (hx : Fit x.num.natAbs) :
    Calls Tryz.prog 144 #[FV x] w fun e w' => e = .returned (.int .i64 (sgnZ x.num)) ∧ Ext w w' := by
  have X1 := Bx.new w #[itx x.num, dtx x.den] 102
  have E := (Ext.rfl' w).al (.cells #[itx x.num, dtx x.den] 102)
  go_enter Tryz.func144, Tryz.ntmps144
  go_wp2_with fail
  generalize w.alloc (.cells #[itx x.num, dtx x.den] 102) = W0 at *
  refine (Sign_z x.num _ hx).mono ?_
  rintro e w1 ⟨rfl, hE⟩
  go_wp2_with fail
  go_ret
  exact ⟨rfl, E.tr hE⟩
set_option maxHeartbeats 4000000 in
set_option maxRecDepth 100000 in
theorem rsubc (s t s' t' a b c d : ByteArray) (w : World)
    (h1 : ∀ W, Ext w W → Calls Tryz.prog 179 #[.agg #[.string s', .string t']] W fun e w' => e = .returned (.agg #[.string a, .string b]) ∧ Ext W w')
    (h2 : ∀ W, Ext w W → Calls Tryz.prog 176 #[.agg #[.string s, .string t], .agg #[.string a, .string b]] W fun e w' => e = .returned (.agg #[.string c, .string d]) ∧ Ext W w') :
    Calls Tryz.prog 178 #[.agg #[.string s, .string t], .agg #[.string s', .string t']] w fun e w' => e = .returned (.agg #[.string c, .string d]) ∧ Ext w w' := by
  obtain ⟨X1, X2, X3, E⟩ := boxes3 w #[.string s, .string t] #[.string s', .string t'] #[.string ⟨#[]⟩, .string ⟨#[]⟩] 102
  go_enter Tryz.func178, Tryz.ntmps178
  go_wp2_with fail
  generalize ((w.alloc (.cells #[.string s, .string t] 102)).alloc (.cells #[.string s', .string t'] 102)).alloc (.cells #[.string ⟨#[]⟩, .string ⟨#[]⟩] 102) = W0 at *
  have a0 := X1.c0
  have a1 := X1.c1
  have b0 := X2.c0
  have b1 := X2.c1
  have HX3 := Lib.hid X3
  have HE := Lib.hid E
  clear X1 X2 X3 E
  go_region_held3 (fun w' => w'.cell? ⟨w.heap.size, 0, none⟩ = some (.string s) ∧ w'.cell? ⟨w.heap.size, 1, none⟩ = some (.string t) ∧ w'.cell? ⟨w.heap.size + 1, 0, none⟩ = some (.string s') ∧ w'.cell? ⟨w.heap.size + 1, 1, none⟩ = some (.string t')) (((try dsimp only); (repeat' apply And.intro) <;> (first | assumption | ((go_keep); done) | (rw [World.cell?_setCell_other _ _ _ _ (by simp), World.cell?_setCell_other _ _ _ _ (by simp)]; assumption))))
    (first
      | (go_at_call 179; (with_reducible refine (h1 _ (Ext.dr' HE)).mono ?_); rintro e w2 ⟨rfl, hE2⟩; have q0 := Ext.cellD hE2 a0; have q1 := Ext.cellD hE2 a1; have q2 := Ext.cellD hE2 b0; have q3 := Ext.cellD hE2 b1; have HX4 := Lib.hid (Bx.ext (Bx.drH HX3).out hE2); have HE2 := Lib.hid ((Ext.dr' HE).tr hE2); clear hE2)
      | (go_at_call 176; (with_reducible refine (h2 _ HE2.out).mono ?_); rintro e w3 ⟨rfl, hE3⟩; have t0 := Ext.cellH hE3 q0; have t1 := Ext.cellH hE3 q1; have t2 := Ext.cellH hE3 q2; have t3 := Ext.cellH hE3 q3; have HX5 := Lib.hid (Bx.ext HX4.out hE3); have HE3 := Lib.hid (HE2.out.tr hE3); clear hE3; have c0 := HX5.out.c0; have c1 := HX5.out.c1; have f0 := HX5.out.f 0; have f1 := HX5.out.f 1))
  all_goals
    go_wp2_with fail
    obtain ⟨d0, d1⟩ := set2 HX5.out (.string c) (.string d)
    have E6 := ext_set2 (b := w.heap.size + 1 + 1) HE3.out (by omega) (.string c) (.string d)
    refine bodyPost_ret (v := .agg #[.string c, .string d]) ?_ rfl ⟨rfl, E6⟩
    simp [results, Tryz.f178, go_sem, d0, d1]
set_option maxHeartbeats 4000000 in
set_option maxRecDepth 100000 in
theorem rdivc (s t s' t' a b c d : ByteArray) (w : World)
    (h1 : ∀ W, Ext w W → Calls Tryz.prog 181 #[.agg #[.string s', .string t']] W fun e w' => e = .returned (.agg #[.string a, .string b]) ∧ Ext W w')
    (h2 : ∀ W, Ext w W → Calls Tryz.prog 177 #[.agg #[.string s, .string t], .agg #[.string a, .string b]] W fun e w' => e = .returned (.agg #[.string c, .string d]) ∧ Ext W w') :
    Calls Tryz.prog 180 #[.agg #[.string s, .string t], .agg #[.string s', .string t']] w fun e w' => e = .returned (.agg #[.string c, .string d]) ∧ Ext w w' := by
  obtain ⟨X1, X2, X3, E⟩ := boxes3 w #[.string s, .string t] #[.string s', .string t'] #[.string ⟨#[]⟩, .string ⟨#[]⟩] 102
  go_enter Tryz.func180, Tryz.ntmps180
  go_wp2_with fail
  generalize ((w.alloc (.cells #[.string s, .string t] 102)).alloc (.cells #[.string s', .string t'] 102)).alloc (.cells #[.string ⟨#[]⟩, .string ⟨#[]⟩] 102) = W0 at *
  have a0 := X1.c0
  have a1 := X1.c1
  have b0 := X2.c0
  have b1 := X2.c1
  have HX3 := Lib.hid X3
  have HE := Lib.hid E
  clear X1 X2 X3 E
  go_region_held3 (fun w' => w'.cell? ⟨w.heap.size, 0, none⟩ = some (.string s) ∧ w'.cell? ⟨w.heap.size, 1, none⟩ = some (.string t) ∧ w'.cell? ⟨w.heap.size + 1, 0, none⟩ = some (.string s') ∧ w'.cell? ⟨w.heap.size + 1, 1, none⟩ = some (.string t')) (((try dsimp only); (repeat' apply And.intro) <;> (first | assumption | ((go_keep); done) | (rw [World.cell?_setCell_other _ _ _ _ (by simp), World.cell?_setCell_other _ _ _ _ (by simp)]; assumption))))
    (first
      | (go_at_call 181; (with_reducible refine (h1 _ (Ext.dr' HE)).mono ?_); rintro e w2 ⟨rfl, hE2⟩; have q0 := Ext.cellD hE2 a0; have q1 := Ext.cellD hE2 a1; have q2 := Ext.cellD hE2 b0; have q3 := Ext.cellD hE2 b1; have HX4 := Lib.hid (Bx.ext (Bx.drH HX3).out hE2); have HE2 := Lib.hid ((Ext.dr' HE).tr hE2); clear hE2)
      | (go_at_call 177; (with_reducible refine (h2 _ HE2.out).mono ?_); rintro e w3 ⟨rfl, hE3⟩; have t0 := Ext.cellH hE3 q0; have t1 := Ext.cellH hE3 q1; have t2 := Ext.cellH hE3 q2; have t3 := Ext.cellH hE3 q3; have HX5 := Lib.hid (Bx.ext HX4.out hE3); have HE3 := Lib.hid (HE2.out.tr hE3); clear hE3; have c0 := HX5.out.c0; have c1 := HX5.out.c1; have f0 := HX5.out.f 0; have f1 := HX5.out.f 1))
  all_goals
    go_wp2_with fail
    obtain ⟨d0, d1⟩ := set2 HX5.out (.string c) (.string d)
    have E6 := ext_set2 (b := w.heap.size + 1 + 1) HE3.out (by omega) (.string c) (.string d)
    refine bodyPost_ret (v := .agg #[.string c, .string d]) ?_ rfl ⟨rfl, E6⟩
    simp [results, Tryz.f180, go_sem, d0, d1]
theorem sub_q (x y : Rat) (m n : Nat) (w : World) (hW : Wd w) (hx : Bd x m) (hy : Bd y n) (hk : m + n + 1 ≤ KK) :
    Calls Tryz.prog 178 #[FV x, FV y] w fun e w' => e = .returned (FV (x - y)) ∧ Ext w w' := by
  rw [Rat.sub_eq_add_neg]
  exact rsubc _ _ _ _ _ _ _ _ w (fun W _ => ropp_q y W (hy.fit (by omega)).1) (fun W hE => plus_q x (-y) m n W (hW.ext hE) hx hy.neg hk)
theorem div_q (x y : Rat) (m n : Nat) (w : World) (hW : Wd w) (hx : Bd x m) (hy : Bd y n) (h0 : y ≠ 0) (hk : m + n + 2 ≤ KK) :
    Calls Tryz.prog 180 #[FV x, FV y] w fun e w' => e = .returned (FV (x / y)) ∧ Ext w w' := by
  rw [Rat.div_def]
  exact rdivc _ _ _ _ _ _ _ _ w (fun W _ => rinv_q y W (hy.fit (by omega)).1 (hy.fit (by omega)).2 h0) (fun W hE => times_q x y⁻¹ m (n + 1) W (hW.ext hE) hx hy.inv (by omega))
end Go.Proofs.YtbldlibijojbjaaGreatDoor.GB
