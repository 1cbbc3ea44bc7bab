import Derived.Test.YtbldlibijojbjaaGreatDoorMId
import Derived.Test.YtbldlibijojbjaaGreatDoorMGc
import Derived.Test.YtbldlibijojbjaaGreatDoorMIq
namespace Go.Proofs.YtbldlibijojbjaaGreatDoor.GB
set_option linter.unusedVariables false
set_option linter.unusedSimpArgs false
open Go.RowKit Go.Shelf
attribute [local go_sem ↓] Go.wp_at_zero Go.wp_at_succ

set_option maxHeartbeats 4000000 in
set_option maxRecDepth 100000 in
theorem ropp_1 (s t s' : ByteArray) (w : World) (h1 : ∀ W, Ext w W → Calls Tryz.prog 207 #[.string s] W fun e w' => e = .returned (.tuple #[.string s', .int .i64 0]) ∧ Ext W w') :
    Calls Tryz.prog 179 #[.agg #[.string s, .string t]] w fun e w' => e = .returned (.agg #[.string s', .string t]) ∧ Ext w w' := by
  obtain ⟨X1, X2, E⟩ := boxes2 w #[.string s, .string t] #[.string ⟨#[]⟩, .string ⟨#[]⟩] 102
  go_enter Tryz.func179, Tryz.ntmps179
  go_wp2_with fail
  generalize (w.alloc (.cells #[.string s, .string t] 102)).alloc (.cells #[.string ⟨#[]⟩, .string ⟨#[]⟩] 102) = W0 at *
  refine (h1 _ E).mono ?_
  rintro e w1 ⟨rfl, hE⟩
  replace X1 := X1.ext hE
  replace X2 := X2.ext hE
  replace E := E.tr hE
  clear hE
  obtain ⟨c10, c11, f10, f11⟩ := X1.e2
  obtain ⟨c20, c21, f20, f21⟩ := X2.e2
  go_wp2_with fail
  obtain ⟨d0, d1⟩ := set2 X2 (.string s') (.string t)
  have E2 := ext_set2 (b := w.heap.size + 1) E (by omega) (.string s') (.string t)
  refine bodyPost_ret (v := .agg #[.string s', .string t]) ?_ rfl ⟨rfl, E2⟩
  simp [results, Tryz.f179, go_sem, d0, d1]
theorem ropp_q (x : Rat) (w : World) (hx : Fit x.num.natAbs) :
    Calls Tryz.prog 179 #[FV x] w fun e w' => e = .returned (FV (-x)) ∧ Ext w w' :=
  ropp_1 _ _ _ w (fun W _ => Neg_z x.num W hx)
set_option maxHeartbeats 4000000 in
set_option maxRecDepth 100000 in
theorem rinv_1 (s t a : ByteArray) (w : World) (hsz : ¬ 9223372036854775807 < 1 + t.size) (h1 : ∀ W, Ext w W → Calls Tryz.prog 171 #[.string s, .string ⟨#[45]⟩] W fun e w' => e = .returned (.tuple #[.string a, .bool true]) ∧ Ext W w') :
    Calls Tryz.prog 181 #[.agg #[.string s, .string t]] w fun e w' => e = .returned (.agg #[.string (⟨#[45]⟩ ++ t), .string a]) ∧ Ext w w' := by
  obtain ⟨X1, X2, E⟩ := boxes2 w #[.string s, .string t] #[.string ⟨#[]⟩, .string ⟨#[]⟩] 102
  go_enter Tryz.func181, Tryz.ntmps181
  go_wp2_with fail
  generalize (w.alloc (.cells #[.string s, .string t] 102)).alloc (.cells #[.string ⟨#[]⟩, .string ⟨#[]⟩] 102) = W0 at *
  refine (h1 _ E).mono ?_
  rintro e w1 ⟨rfl, hE⟩
  replace X1 := X1.ext hE
  replace X2 := X2.ext hE
  replace E := E.tr hE
  clear hE
  obtain ⟨c10, c11, f10, f11⟩ := X1.e2
  obtain ⟨c20, c21, f20, f21⟩ := X2.e2
  go_wp2_with fail
  obtain ⟨d0, d1⟩ := set2 X2 (.string (⟨#[45]⟩ ++ t)) (.string a)
  have E2 := ext_set2 (b := w.heap.size + 1) E (by omega) (.string (⟨#[45]⟩ ++ t)) (.string a)
  refine bodyPost_ret (v := .agg #[.string (⟨#[45]⟩ ++ t), .string a]) ?_ rfl ⟨rfl, E2⟩
  simp [results, Tryz.f181, go_sem, d0, d1]
set_option maxHeartbeats 4000000 in
set_option maxRecDepth 100000 in
theorem rinv_2 (s t a : ByteArray) (w : World)  (h1 : ∀ W, Ext w W → Calls Tryz.prog 171 #[.string s, .string ⟨#[45]⟩] W fun e w' => e = .returned (.tuple #[.string a, .bool false]) ∧ Ext W w') :
    Calls Tryz.prog 181 #[.agg #[.string s, .string t]] w fun e w' => e = .returned (.agg #[.string t, .string s]) ∧ Ext w w' := by
  obtain ⟨X1, X2, E⟩ := boxes2 w #[.string s, .string t] #[.string ⟨#[]⟩, .string ⟨#[]⟩] 102
  go_enter Tryz.func181, Tryz.ntmps181
  go_wp2_with fail
  generalize (w.alloc (.cells #[.string s, .string t] 102)).alloc (.cells #[.string ⟨#[]⟩, .string ⟨#[]⟩] 102) = W0 at *
  refine (h1 _ E).mono ?_
  rintro e w1 ⟨rfl, hE⟩
  replace X1 := X1.ext hE
  replace X2 := X2.ext hE
  replace E := E.tr hE
  clear hE
  obtain ⟨c10, c11, f10, f11⟩ := X1.e2
  obtain ⟨c20, c21, f20, f21⟩ := X2.e2
  go_wp2_with fail
  obtain ⟨d0, d1⟩ := set2 X2 (.string t) (.string s)
  have E2 := ext_set2 (b := w.heap.size + 1) E (by omega) (.string t) (.string s)
  refine bodyPost_ret (v := .agg #[.string t, .string s]) ?_ rfl ⟨rfl, E2⟩
  simp [results, Tryz.f181, go_sem, d0, d1]
theorem rinv_q (x : Rat) (w : World) (hn : Fit x.num.natAbs) (hd : Fit x.den) (h0 : x ≠ 0) :
    Calls Tryz.prog 181 #[FV x] w fun e w' => e = .returned (FV x⁻¹) ∧ Ext w w' := by
  have hz : x.num ≠ 0 := fun h => h0 (Rat.num_eq_zero.1 h)
  have hcut : ∀ W, Ext w W → Calls Tryz.prog 171 #[itx x.num, .string ⟨#[45]⟩] W fun e w' => e = .returned (.tuple #[dtx x.num.natAbs, .bool (decide (x.num < 0))]) ∧ Ext W w' := by
    intro W _
    have h := Tryz.strings_CutPrefix ⟨(Lib.itoa x.num).toArray⟩ ⟨#[45]⟩ W
    have e1 : (⟨(Lib.itoa x.num).toArray⟩ : ByteArray).data.toList = Lib.itoa x.num := rfl
    have e45 : (⟨#[45]⟩ : ByteArray).data.toList = [45] := rfl
    rw [e1, e45, (itoa_prefix x.num).1, (itoa_prefix x.num).2] at h
    refine h.mono ?_
    rintro e w' ⟨rfl, rfl⟩
    exact ⟨rfl, Ext.rfl' _⟩
  unfold FV
  rw [Rat.num_inv, Rat.den_inv, if_neg hz]
  rcases (by omega : x.num < 0 ∨ 0 < x.num) with h | h
  · have hp : (0 : Int) < x.den := Int.natCast_pos.2 x.den_pos
    have e2 : x.num.sign * (x.den : Int) = -(x.den : Int) := by rw [Int.sign_eq_neg_one_of_neg h]; omega
    rw [decide_eq_true h] at hcut
    have e3 : itx (-(x.den : Int)) = .string (⟨#[45]⟩ ++ ⟨(Lib.decDigits x.den).toArray⟩) := by
      rw [cat45]
      show Value.string _ = Value.string _
      rw [itoa_neg _ x.den_pos]
    rw [e2, e3]
    exact rinv_1 _ _ _ w (by rw [dtx_size]; have := hd.dec; omega) hcut
  · have e2 : x.num.sign * (x.den : Int) = (x.den : Int) := by rw [Int.sign_eq_one_of_pos h]; omega
    rw [decide_eq_false (by omega)] at hcut
    have e3 : itx (x.den : Int) = dtx x.den := by show Value.string _ = Value.string _; rw [itoa_nat]
    have e4 : itx x.num = dtx x.num.natAbs := by
      show Value.string _ = Value.string _
      rw [itoa_of_nonneg (by omega)]
    rw [e2, e3]
    rw [e4] at hcut ⊢
    exact rinv_2 _ _ _ w hcut
set_option maxHeartbeats 4000000 in
set_option maxRecDepth 100000 in
theorem rsign_q (x : Rat) (w : World) (hx : Fit x.num.natAbs) :
    Calls Tryz.prog 144 #[FV x] w fun e w' => e = .returned (.int .i64 (sgnZ x.num)) ∧ Ext w w' := by
  have X1 := Bx.new w #[itx x.num, dtx x.den] 102
  have E := (Ext.rfl' w).al (.cells #[itx x.num, dtx x.den] 102)
  go_enter Tryz.func144, Tryz.ntmps144
  go_wp2_with fail
  generalize w.alloc (.cells #[itx x.num, dtx x.den] 102) = W0 at *
  refine (Sign_z x.num _ hx).mono ?_
  rintro e w1 ⟨rfl, hE⟩
  go_wp2_with fail
  go_ret
  exact ⟨rfl, E.tr hE⟩
set_option maxHeartbeats 4000000 in
set_option maxRecDepth 100000 in
theorem rsubc (s t s' t' a b c d : ByteArray) (w : World)
    (h1 : ∀ W, Ext w W → Calls Tryz.prog 179 #[.agg #[.string s', .string t']] W fun e w' => e = .returned (.agg #[.string a, .string b]) ∧ Ext W w')
    (h2 : ∀ W, Ext w W → Calls Tryz.prog 176 #[.agg #[.string s, .string t], .agg #[.string a, .string b]] W fun e w' => e = .returned (.agg #[.string c, .string d]) ∧ Ext W w') :
    Calls Tryz.prog 178 #[.agg #[.string s, .string t], .agg #[.string s', .string t']] w fun e w' => e = .returned (.agg #[.string c, .string d]) ∧ Ext w w' := by
  obtain ⟨X1, X2, X3, E⟩ := boxes3 w #[.string s, .string t] #[.string s', .string t'] #[.string ⟨#[]⟩, .string ⟨#[]⟩] 102
  go_enter Tryz.func178, Tryz.ntmps178
  go_wp2_with fail
  generalize ((w.alloc (.cells #[.string s, .string t] 102)).alloc (.cells #[.string s', .string t'] 102)).alloc (.cells #[.string ⟨#[]⟩, .string ⟨#[]⟩] 102) = W0 at *
  have a0 := X1.c0
  have a1 := X1.c1
  have b0 := X2.c0
  have b1 := X2.c1
  have HX3 := Lib.hid X3
  have HE := Lib.hid E
  clear X1 X2 X3 E
  go_region_held3 (fun w' => w'.cell? ⟨w.heap.size, 0, none⟩ = some (.string s) ∧ w'.cell? ⟨w.heap.size, 1, none⟩ = some (.string t) ∧ w'.cell? ⟨w.heap.size + 1, 0, none⟩ = some (.string s') ∧ w'.cell? ⟨w.heap.size + 1, 1, none⟩ = some (.string t')) (((try dsimp only); (repeat' apply And.intro) <;> (first | assumption | ((go_keep); done) | (rw [World.cell?_setCell_other _ _ _ _ (by simp), World.cell?_setCell_other _ _ _ _ (by simp)]; assumption))))
    (first
      | (go_at_call 179; (with_reducible refine (h1 _ (Ext.dr' HE)).mono ?_); rintro e w2 ⟨rfl, hE2⟩; have q0 := Ext.cellD hE2 a0; have q1 := Ext.cellD hE2 a1; have q2 := Ext.cellD hE2 b0; have q3 := Ext.cellD hE2 b1; have HX4 := Lib.hid (Bx.ext (Bx.drH HX3).out hE2); have HE2 := Lib.hid ((Ext.dr' HE).tr hE2); clear hE2)
      | (go_at_call 176; (with_reducible refine (h2 _ HE2.out).mono ?_); rintro e w3 ⟨rfl, hE3⟩; have t0 := Ext.cellH hE3 q0; have t1 := Ext.cellH hE3 q1; have t2 := Ext.cellH hE3 q2; have t3 := Ext.cellH hE3 q3; have HX5 := Lib.hid (Bx.ext HX4.out hE3); have HE3 := Lib.hid (HE2.out.tr hE3); clear hE3; have c0 := HX5.out.c0; have c1 := HX5.out.c1; have f0 := HX5.out.f 0; have f1 := HX5.out.f 1))
  all_goals
    go_wp2_with fail
    obtain ⟨d0, d1⟩ := set2 HX5.out (.string c) (.string d)
    have E6 := ext_set2 (b := w.heap.size + 1 + 1) HE3.out (by omega) (.string c) (.string d)
    refine bodyPost_ret (v := .agg #[.string c, .string d]) ?_ rfl ⟨rfl, E6⟩
    simp [results, Tryz.f178, go_sem, d0, d1]
set_option maxHeartbeats 4000000 in
set_option maxRecDepth 100000 in
theorem rdivc (s t s' t' a b c d : ByteArray) (w : World)
    (h1 : ∀ W, Ext w W → Calls Tryz.prog 181 #[.agg #[.string s', .string t']] W fun e w' => e = .returned (.agg #[.string a, .string b]) ∧ Ext W w')
    (h2 : ∀ W, Ext w W → Calls Tryz.prog 177 #[.agg #[.string s, .string t], .agg #[.string a, .string b]] W fun e w' => e = .returned (.agg #[.string c, .string d]) ∧ Ext W w') :
    Calls Tryz.prog 180 #[.agg #[.string s, .string t], .agg #[.string s', .string t']] w fun e w' => e = .returned (.agg #[.string c, .string d]) ∧ Ext w w' := by
  obtain ⟨X1, X2, X3, E⟩ := boxes3 w #[.string s, .string t] #[.string s', .string t'] #[.string ⟨#[]⟩, .string ⟨#[]⟩] 102
  go_enter Tryz.func180, Tryz.ntmps180
  go_wp2_with fail
  generalize ((w.alloc (.cells #[.string s, .string t] 102)).alloc (.cells #[.string s', .string t'] 102)).alloc (.cells #[.string ⟨#[]⟩, .string ⟨#[]⟩] 102) = W0 at *
  have a0 := X1.c0
  have a1 := X1.c1
  have b0 := X2.c0
  have b1 := X2.c1
  have HX3 := Lib.hid X3
  have HE := Lib.hid E
  clear X1 X2 X3 E
  go_region_held3 (fun w' => w'.cell? ⟨w.heap.size, 0, none⟩ = some (.string s) ∧ w'.cell? ⟨w.heap.size, 1, none⟩ = some (.string t) ∧ w'.cell? ⟨w.heap.size + 1, 0, none⟩ = some (.string s') ∧ w'.cell? ⟨w.heap.size + 1, 1, none⟩ = some (.string t')) (((try dsimp only); (repeat' apply And.intro) <;> (first | assumption | ((go_keep); done) | (rw [World.cell?_setCell_other _ _ _ _ (by simp), World.cell?_setCell_other _ _ _ _ (by simp)]; assumption))))
    (first
      | (go_at_call 181; (with_reducible refine (h1 _ (Ext.dr' HE)).mono ?_); rintro e w2 ⟨rfl, hE2⟩; have q0 := Ext.cellD hE2 a0; have q1 := Ext.cellD hE2 a1; have q2 := Ext.cellD hE2 b0; have q3 := Ext.cellD hE2 b1; have HX4 := Lib.hid (Bx.ext (Bx.drH HX3).out hE2); have HE2 := Lib.hid ((Ext.dr' HE).tr hE2); clear hE2)
      | (go_at_call 177; (with_reducible refine (h2 _ HE2.out).mono ?_); rintro e w3 ⟨rfl, hE3⟩; have t0 := Ext.cellH hE3 q0; have t1 := Ext.cellH hE3 q1; have t2 := Ext.cellH hE3 q2; have t3 := Ext.cellH hE3 q3; have HX5 := Lib.hid (Bx.ext HX4.out hE3); have HE3 := Lib.hid (HE2.out.tr hE3); clear hE3; have c0 := HX5.out.c0; have c1 := HX5.out.c1; have f0 := HX5.out.f 0; have f1 := HX5.out.f 1))
  all_goals
    go_wp2_with fail
    obtain ⟨d0, d1⟩ := set2 HX5.out (.string c) (.string d)
    have E6 := ext_set2 (b := w.heap.size + 1 + 1) HE3.out (by omega) (.string c) (.string d)
    refine bodyPost_ret (v := .agg #[.string c, .string d]) ?_ rfl ⟨rfl, E6⟩
    simp [results, Tryz.f180, go_sem, d0, d1]
theorem sub_q (x y : Rat) (m n : Nat) (w : World) (hW : Wd w) (hx : Bd x m) (hy : Bd y n) (hk : m + n + 1 ≤ KK) :
    Calls Tryz.prog 178 #[FV x, FV y] w fun e w' => e = .returned (FV (x - y)) ∧ Ext w w' := by
  rw [Rat.sub_eq_add_neg]
  exact rsubc _ _ _ _ _ _ _ _ w (fun W _ => ropp_q y W (hy.fit (by omega)).1) (fun W hE => plus_q x (-y) m n W (hW.ext hE) hx hy.neg hk)
theorem div_q (x y : Rat) (m n : Nat) (w : World) (hW : Wd w) (hx : Bd x m) (hy : Bd y n) (h0 : y ≠ 0) (hk : m + n + 2 ≤ KK) :
    Calls Tryz.prog 180 #[FV x, FV y] w fun e w' => e = .returned (FV (x / y)) ∧ Ext w w' := by
  rw [Rat.div_def]
  exact rdivc _ _ _ _ _ _ _ _ w (fun W _ => rinv_q y W (hy.fit (by omega)).1 (hy.fit (by omega)).2 h0) (fun W hE => times_q x y⁻¹ m (n + 1) W (hW.ext hE) hx hy.inv (by omega))
end Go.Proofs.YtbldlibijojbjaaGreatDoor.GB

namespace Go.Proofs.YtbldlibijojbjaaGreatDoor.GB
set_option linter.unusedVariables false
set_option linter.unusedSimpArgs false
open Go.RowKit Go.Shelf
attribute [local go_sem ↓] Go.wp_at_zero Go.wp_at_succ

/-- Is a text a rational number's? -/
def RatS (l : List UInt8) : Prop := ∃ q, l = rtext q
noncomputable def ratB (l : List UInt8) : Bool := @decide (RatS l) (Classical.propDecidable _)
theorem ratB_t {l : List UInt8} (h : ratB l = true) : RatS l := @of_decide_eq_true _ (Classical.propDecidable _) h
theorem ratB_of {l : List UInt8} (h : RatS l) : ratB l = true := @decide_eq_true _ (Classical.propDecidable _) h
theorem ratB_no {l : List UInt8} (h : ¬ RatS l) : ratB l = false := @decide_eq_false _ (Classical.propDecidable _) h
theorem intB_itoa (z : Int) : intB (Lib.itoa z) = true := (intB_iff _).2 ⟨z, rfl⟩
theorem canB_dec (n : Nat) : canB (Lib.decDigits n) = true := (canB_iff _).2 (dec_canon n)
theorem itx_zero (z : Int) : ((⟨(Lib.itoa z).toArray⟩ : ByteArray).toList == [48]) = decide (z = 0) := by
  rw [ByteArray.toList_eq]
  show (Lib.itoa z == [48]) = _
  have h0 : Lib.itoa 0 = [48] := by
    have h := itoa_nat 0
    rw [Lib.decDigits] at h
    exact h
  by_cases h : z = 0
  · subst h; rw [h0]; rfl
  · rw [decide_eq_false h, beq_eq_false_iff_ne]
    intro e; rw [← h0] at e; exact h (itoa_inj e)
theorem list_of {s : ByteArray} {l : List UInt8} (h : s.data.toList = l) : s = ⟨l.toArray⟩ := by
  apply ByteArray.ext; apply Array.toList_inj.1; rw [h]
theorem fit_len {n : Nat} {k : Nat} (h : (Lib.decDigits n).length ≤ k) (hk : 4 * k ≤ KK) : Fit n := by
  have h1 := dec_len_lt n
  have h2 : 10 ^ (Lib.decDigits n).length ≤ 16 ^ k := Nat.le_trans (Nat.pow_le_pow_left (by omega) _) (Nat.pow_le_pow_right (by omega) h)
  have h3 : (16 : Nat) ^ k = 2 ^ (4 * k) := by rw [show (16 : Nat) = 2 ^ 4 from rfl, ← Nat.pow_mul]
  exact Fit.of hk (by omega)
theorem itoa_abs_len (z : Int) : (Lib.decDigits z.natAbs).length ≤ (Lib.itoa z).length := by
  rcases (by omega : z < 0 ∨ 0 ≤ z) with hz | hz
  · rw [itoa_of_neg hz, List.length_cons]; omega
  · rw [itoa_of_nonneg hz]; exact Nat.le_refl _
/-- What read answers. -/
def RdA (s : ByteArray) (w : World) (e : Ending) (w' : World) : Prop := ∃ a b, e = .returned (.tuple #[.agg #[.string a, .string b], .bool (ratB s.data.toList)]) ∧ Ext w w' ∧ ∀ q, s.data.toList = rtext q → (Value.agg #[.string a, .string b]) = FV q
theorem rread_any (s : ByteArray) (w : World) (hW : Wd w) (hs : s.size ≤ 1000000) :
    Calls Tryz.prog 85 #[.string s] w (RdA s w) := by
  have hlen : s.data.toList.length = s.size := bytes_len s
  rcases cut_cases s.data.toList with h47 | ⟨p, d, h47, hpd⟩
  · have h1 : ∀ W, Ext w W → Calls Tryz.prog 126 #[.string s] W fun e w' => e = .returned (.bool (intB s.data.toList)) ∧ Ext W w' := fun W _ => iValid_any s W (by omega)
    have hr : intB s.data.toList = ratB s.data.toList := by
      have hi := (rat_valid_int h47).symm
      cases hb : intB s.data.toList
      · exact (ratB_no (fun hr => by have := (intB_iff _).2 (hi.2 hr); rw [hb] at this; cases this)).symm
      · exact (ratB_of (hi.1 ((intB_iff _).1 hb))).symm
    refine (rread_0 s _ w (fun W _ => cut_miss47 s W h47) h1).mono ?_
    rintro e w' ⟨rfl, hE⟩
    refine ⟨_, _, by rw [hr], hE, fun q hq => ?_⟩
    have hq1 : q.den = 1 := by
      apply Classical.byContradiction
      intro hne
      rw [rtext_frac hne] at hq
      rw [hq] at h47
      simp at h47
    rw [rtext_int hq1] at hq
    unfold FV
    rw [hq1, dtx1, list_of hq]
  · have hcut : ∀ W, Ext w W → Calls Tryz.prog 125 #[.string s, .string ⟨#[47]⟩] W fun e w' => e = .returned (.tuple #[.string ⟨p.toArray⟩, .string ⟨d.toArray⟩, .bool true]) ∧ Ext W w' := fun W _ => cut_hit47 s p d W hpd h47 (by omega)
    have hl2 : p.length + 1 + d.length = s.size := by rw [← hlen, hpd]; simp; omega
    have h1 : ∀ W, Ext w W → Calls Tryz.prog 126 #[.string ⟨p.toArray⟩] W fun e w' => e = .returned (.bool (intB p)) ∧ Ext W w' := fun W _ => iValid_any ⟨p.toArray⟩ W (by rw [size_mk]; omega)
    have h2 : ∀ W, Ext w W → Calls Tryz.prog 127 #[.string ⟨d.toArray⟩] W fun e w' => e = .returned (.bool (canB d)) ∧ Ext W w' := fun W _ => (valid_any ⟨d.toArray⟩ W (by rw [size_mk]; omega)).mono fun e w' h => ⟨h.1, h.2 ▸ Ext.rfl' _⟩
    have hbad : ∀ (P : Prop), ¬ RatS s.data.toList → (∀ e w', (e = .returned (.tuple #[.agg #[.string ⟨p.toArray⟩, .string ⟨d.toArray⟩], .bool false]) ∧ Ext w w') → RdA s w e w') := by
      rintro _ hn e w' ⟨rfl, hE⟩
      exact ⟨_, _, by rw [ratB_no hn], hE, fun q hq => absurd ⟨q, hq⟩ hn⟩
    have hiff := rat_valid_frac (d := d) h47
    have hno : ∀ {Q : Prop}, (∀ (z : Int) (n : Nat), p = Lib.itoa z → d = Lib.decDigits n → z ≠ 0 → n ≠ 0 → n ≠ 1 → Nat.gcd z.natAbs n = 1 → False) → ¬ RatS s.data.toList := by
      rintro _ hf hr
      unfold RatS at hr
      rw [hpd] at hr
      obtain ⟨z, n, a1, a2, a3, a4, a5, a6⟩ := hiff.1 hr
      exact hf z n a1 a2 a3 a4 a5 a6
    cases hp : intB p
    · rw [hp] at h1
      exact (rread_1 s _ _ w hcut h1).mono (hbad True (hno (Q := True) fun z n a1 _ _ _ _ _ => by rw [a1, intB_itoa] at hp; cases hp))
    · rw [hp] at h1
      obtain ⟨z, rfl⟩ := (intB_iff _).1 hp
      have hz := itx_zero z
      by_cases hz0 : z = 0
      · rw [decide_eq_true hz0] at hz
        exact (rread_2 s _ _ w hcut h1 hz).mono (hbad True (hno (Q := True) fun z' n a1 _ a3 _ _ _ => a3 (by rw [← itoa_inj a1]; exact hz0)))
      · rw [decide_eq_false hz0] at hz
        cases hd : canB d
        · rw [hd] at h2
          exact (rread_3 s _ _ w hcut h1 hz h2).mono (hbad True (hno (Q := True) fun z' n _ a2 _ _ _ _ => by rw [a2, canB_dec] at hd; cases hd))
        · rw [hd] at h2
          obtain ⟨n, rfl⟩ := (canon_iff d).1 ((canB_iff _).1 hd)
          have hn0 := dtx_zero n
          have hn1 := dtx_one n
          by_cases h0 : n = 0
          · rw [decide_eq_true h0] at hn0
            exact (rread_4 s _ _ w hcut h1 hz h2 hn0).mono (hbad True (hno (Q := True) fun z' n' _ a2 _ a4 _ _ => a4 (by rw [← dec_inj a2]; exact h0)))
          · rw [decide_eq_false h0] at hn0
            by_cases h1' : n = 1
            · rw [decide_eq_true h1'] at hn1
              exact (rread_5 s _ _ w hcut h1 hz h2 hn0 hn1).mono (hbad True (hno (Q := True) fun z' n' _ a2 _ _ a5 _ => a5 (by rw [← dec_inj a2]; exact h1')))
            · rw [decide_eq_false h1'] at hn1
              have fz : Fit z.natAbs := fit_len (k := 1000000) (Nat.le_trans (itoa_abs_len z) (by omega)) (by rw [KK_eq]; omega)
              have fn : Fit n := fit_len (k := 1000000) (by omega) (by rw [KK_eq]; omega)
              have h3 : ∀ W, Ext w W → Calls Tryz.prog 128 #[itx z, dtx n] W fun e w' => e = .returned (dtx (Nat.gcd z.natAbs n)) ∧ Ext W w' := fun W hE => divisor_z z n W (hW.ext hE) fz fn
              have hg := dtx_one (Nat.gcd z.natAbs n)
              by_cases hg1 : Nat.gcd z.natAbs n = 1
              · rw [decide_eq_true hg1] at hg
                refine (rread_7 s _ _ w hcut h1 hz h2 hn0 hn1 _ hg h3).mono ?_
                rintro e w' ⟨rfl, hE⟩
                have hq := rat_of_frac h0 h1' hg1
                have hrs : RatS s.data.toList := ⟨_, by rw [hpd]; exact hq⟩
                refine ⟨_, _, by rw [ratB_of hrs], hE, fun q hq2 => ?_⟩
                rw [hpd, hq] at hq2
                rw [← rtext_inj hq2]
              · rw [decide_eq_false hg1] at hg
                exact (rread_6 s _ _ w hcut h1 hz h2 hn0 hn1 _ hg h3).mono (hbad True (hno (Q := True) fun z' n' a1 a2 _ _ _ a6 => hg1 (by rw [itoa_inj a1, dec_inj a2]; exact a6)))
set_option maxHeartbeats 2000000 in
set_option maxRecDepth 100000 in
theorem rValid_any (s : ByteArray) (w : World) (hW : Wd w) (hs : s.size ≤ 1000000) :
    Calls Tryz.prog 41 #[.string s] w fun e w' => e = .returned (.bool (ratB s.data.toList)) ∧ Ext w w' := by
  have h := rread_any s w hW hs
  unfold RdA at h
  generalize ratB s.data.toList = r at h ⊢
  go_enter Tryz.func41, Tryz.ntmps41
  go_wp2_with fail
  refine h.mono ?_
  rintro e w1 ⟨a, b, rfl, hE, _⟩
  clear h
  go_wp2_with fail
  go_ret
  exact ⟨rfl, hE.al _⟩
end Go.Proofs.YtbldlibijojbjaaGreatDoor.GB

namespace Go.Proofs.YtbldlibijojbjaaGreatDoor.GB
set_option linter.unusedVariables false
set_option linter.unusedSimpArgs false
open Go.RowKit Go.Shelf
attribute [local go_sem ↓] Go.wp_at_zero Go.wp_at_succ
set_option maxHeartbeats 1000000 in
set_option maxRecDepth 100000 in
theorem zTo_zero (A : Option Addr) (c : Nat) (w : World) :
    Calls Tryz.prog 114 #[.slice A 0 c] w fun e w' => e = .returned (.string ⟨#[48]⟩) ∧ Ext w w' := by
  go_enter Tryz.func114, Tryz.ntmps114
  go_wp2
  go_ret
  exact ⟨rfl, Ext.rfl' w⟩
/-- The text of a number of words. -/
theorem zTo_v (v : Value) (n : Nat) (w : World) (h : SlN w v n) (hl : (wds n).length ≤ 1099511627776) :
    Calls Tryz.prog 114 #[v] w fun e w' => e = .returned (dtx n) ∧ Ext w w' := by
  rcases Nat.eq_zero_or_pos n with h0 | h0
  · subst h0
    obtain ⟨A, c, rfl⟩ := h.slc
    rw [wds_zero, dtx0]
    exact zTo_zero A c w
  · obtain ⟨A, c, rfl⟩ := h.slc
    exact zTo_pos A c _ n w h0 (Lib.hid rfl) hl h.rd.2
/-- An integer of the reference. -/
def ZV (w : World) (v : Value) (z : Int) : Prop := ∃ vn, v = .agg #[.bool (decide (z < 0)), vn] ∧ SlN w vn z.natAbs
theorem ZV.ext {w w' : World} {v : Value} {z : Int} (h : ZV w v z) (hE : Ext w w') : ZV w' v z := by
  obtain ⟨vn, e, h1⟩ := h; exact ⟨vn, e, h1.ext hE⟩
/-- Is a text an integer's? -/
theorem intB_min {l t : List UInt8} (h : l = 45 :: t) : intB l = (canB t && !(t == [48])) := by
  subst h
  rcases prefix_cases (45 :: t) with ⟨t', e, h1, h2⟩ | ⟨h1, h2⟩
  · injection e with _ e; subst e
    unfold intB; rw [h1, h2]; simp
  · simp [Lib.hasPrefix] at h1
theorem intB_pos {l : List UInt8} (h : ∀ t, l ≠ 45 :: t) : intB l = canB l := by
  rcases prefix_cases l with ⟨t', e, h1, h2⟩ | ⟨h1, h2⟩
  · exact absurd e (h t')
  · unfold intB; rw [h1, h2]; simp
theorem head_byte {s : ByteArray} (h0 : 0 < s.size) (b : Bool) (hb : (((s[0]'h0).toNat : Int) == 45) = b) : (b = true → ∃ t, s.data.toList = 45 :: t) ∧ (b = false → ∀ t, s.data.toList ≠ 45 :: t) := by
  have hl : 0 < s.data.toList.length := by rw [bytes_len]; exact h0
  have e : s.data.toList[0] = s[0]'h0 := bytes_get s 0 h0
  cases hs : s.data.toList with
  | nil => rw [hs] at hl; simp at hl
  | cons x t =>
    have ex : x = s[0]'h0 := by rw [← e]; simp [hs]
    constructor
    · intro hb1
      subst hb1
      have h45 : (s[0]'h0).toNat = 45 := by have := beq_iff_eq.1 hb; omega
      have : x = 45 := by rw [ex]; apply UInt8.toNat_inj.1; rw [h45]; rfl
      exact ⟨t, by rw [this]⟩
    · intro hb1 t' e2
      subst hb1
      injection e2 with e3 _
      rw [← ex, e3] at hb
      exact absurd hb (by decide)
set_option maxHeartbeats 1000000 in
set_option maxRecDepth 100000 in
theorem z2Valid_any (s : ByteArray) (w : World) (hs : s.size ≤ 1099511627776) :
    Calls Tryz.prog 105 #[.string s] w fun e w' => e = .returned (.bool (intB s.data.toList)) ∧ w = w' := by
  have hv := zValid_any s w (by omega)
  by_cases h1 : 1 < s.size
  · have h1' : (1 : Int) < (s.size : Int) := by omega
    have h0 : 0 < s.size := by omega
    cases hb : (((s[0]'h0).toNat : Int) == 45)
    · have e := intB_pos ((head_byte h0 _ hb).2 rfl)
      rw [← e] at hv
      have HV := Lib.hid hv
      clear hv e
      go_enter Tryz.func105, Tryz.ntmps105
      go_wp2_with fail
      refine HV.out.mono ?_
      rintro e w1 ⟨rfl, rfl⟩
      go_wp2_with fail
      go_ret
      exact ⟨rfl, rfl⟩
    · obtain ⟨t, ht⟩ := (head_byte h0 _ hb).1 rfl
      have e := intB_min ht
      have hx : (s.extract 1 s.size).data.toList = t := by
        rw [extract_list, ← bytes_len, List.take_length, ht]; rfl
      have hv2 := zValid_any (s.extract 1 s.size) w (by simp; omega)
      rw [hx] at hv2
      have hz : (s.toList == [45, 48]) = (t == [48]) := by
        rw [ByteArray.toList_eq, ht]
        rfl
      have HV := Lib.hid hv2
      have HZ := Lib.hid hz
      rw [e]
      clear hv hv2 e hx ht
      cases hq : (t == [48])
      · rw [hq] at hz
        go_enter Tryz.func105, Tryz.ntmps105
        go_wp2_with fail
        refine HV.out.mono ?_
        rintro e w1 ⟨rfl, rfl⟩
        go_wp2_with fail
        go_ret
        exact ⟨by simp, rfl⟩
      · rw [hq] at hz
        go_enter Tryz.func105, Tryz.ntmps105
        go_wp2_with fail
        go_ret
        exact ⟨by simp, rfl⟩
  · have h1' : ¬ (1 : Int) < (s.size : Int) := by omega
    have e : intB s.data.toList = canB s.data.toList := by
      by_cases h : ∃ t, s.data.toList = 45 :: t
      · obtain ⟨t, ht⟩ := h
        have hl : s.data.toList.length ≤ 1 := by rw [bytes_len]; omega
        rw [ht, List.length_cons] at hl
        have : t = [] := List.eq_nil_of_length_eq_zero (by omega)
        subst this
        rw [ht]; rfl
      · exact intB_pos fun t ht => h ⟨t, ht⟩
    rw [← e] at hv
    have HV := Lib.hid hv
    clear hv e
    go_enter Tryz.func105, Tryz.ntmps105
    go_wp2_with fail
    refine HV.out.mono ?_
    rintro e w1 ⟨rfl, rfl⟩
    go_wp2_with fail
    go_ret
    exact ⟨rfl, rfl⟩
/-- The sign. -/
def sgq (z : Int) : Int := if z < 0 then -1 else if 0 < z then 1 else 0
theorem ret_i64' {a b : Int} (h : a = b) : Ending.returned (Value.int .i64 a) = .returned (.int .i64 b) := by rw [h]
set_option maxHeartbeats 1000000 in
set_option maxRecDepth 100000 in
theorem z2Signum_any (v : Value) (z : Int) (w : World) (h : ZV w v z) :
    Calls Tryz.prog 111 #[v] w fun e w' => e = .returned (.int .i64 (sgq z)) ∧ Ext w w' := by
  obtain ⟨vn, rfl, hn⟩ := h
  obtain ⟨A, c, rfl⟩ := hn.slc
  obtain ⟨l, hl⟩ : ∃ l, (wds z.natAbs).length = l := ⟨_, rfl⟩
  rw [hl]
  have hp : 0 < l ↔ z ≠ 0 := by rw [← hl, wpos_iff]; omega
  have HP := Lib.hid hp
  clear hl hn hp
  rcases (by omega : z < 0 ∨ z = 0 ∨ 0 < z) with hz | hz | hz
  · have HS : Hid (sgq z = -1) := by unfold Hid sgq; rw [if_pos hz]
    rw [decide_eq_true hz]
    clear hz
    go_enter Tryz.func111, Tryz.ntmps111
    go_wp2_with fail
    go_ret
    exact ⟨ret_i64' HS.out.symm, (Ext.rfl' _).al _⟩
  · have HS : Hid (sgq z = 0) := by unfold Hid sgq; rw [if_neg (by omega), if_neg (by omega)]
    have l0 : ¬ (0 : Int) < (l : Int) := by intro h; exact HP.out.1 (by omega) hz
    rw [decide_eq_false (by omega)]
    clear hz
    go_enter Tryz.func111, Tryz.ntmps111
    go_wp2_with fail
    go_ret
    exact ⟨ret_i64' HS.out.symm, (Ext.rfl' _).al _⟩
  · have HS : Hid (sgq z = 1) := by unfold Hid sgq; rw [if_neg (by omega), if_pos hz]
    have l0 : (0 : Int) < (l : Int) := by have := HP.out.2 (by omega); omega
    rw [decide_eq_false (by omega)]
    clear hz
    go_enter Tryz.func111, Tryz.ntmps111
    go_wp2_with fail
    go_ret
    exact ⟨ret_i64' HS.out.symm, (Ext.rfl' _).al _⟩
set_option maxHeartbeats 1000000 in
set_option maxRecDepth 100000 in
theorem z2To_any (v : Value) (z : Int) (w : World) (h : ZV w v z) (hz : Fit z.natAbs) :
    Calls Tryz.prog 113 #[v] w fun e w' => e = .returned (itx z) ∧ Ext w w' := by
  obtain ⟨vn, rfl, hn⟩ := h
  have hto := fun W (hE : Ext w W) => zTo_v vn z.natAbs W (hn.ext hE) (Nat.le_trans hz.len (by decide))
  have HT := Lib.hid hto
  have hfit := hz.dec
  have hs : ¬ 9223372036854775807 < 1 + (⟨(Lib.decDigits z.natAbs).toArray⟩ : ByteArray).size := by rw [dtx_size]; omega
  clear hn hto hz hfit
  rcases (by omega : z < 0 ∨ 0 ≤ z) with h | h
  · have hr : Lib.itoa z = 45 :: Lib.decDigits z.natAbs := itoa_of_neg h
    have hc := cat45 z.natAbs
    unfold itx
    rw [decide_eq_true h, hr]
    generalize z.natAbs = n at *
    clear h hr
    go_enter Tryz.func113, Tryz.ntmps113
    go_wp2_with fail
    refine (HT.out _ ((Ext.rfl' _).al _)).mono ?_
    rintro e w1 ⟨rfl, hE⟩
    have HE := Lib.hid (((Ext.rfl' w).al _).tr hE)
    clear hE
    go_wp2_with fail
    go_ret
    exact ⟨rfl, HE.out⟩
  · have hr : Lib.itoa z = Lib.decDigits z.natAbs := itoa_of_nonneg h
    unfold itx
    rw [decide_eq_false (by omega), hr]
    generalize z.natAbs = n at *
    clear h hr
    go_enter Tryz.func113, Tryz.ntmps113
    go_wp2_with fail
    refine (HT.out _ ((Ext.rfl' _).al _)).mono ?_
    rintro e w1 ⟨rfl, hE⟩
    have HE := Lib.hid (((Ext.rfl' w).al _).tr hE)
    clear hE
    go_wp2_with fail
    go_ret
    exact ⟨rfl, HE.out⟩
theorem ZV_with {w : World} {vn : Value} {n : Nat} (x : Bool) (h : SlN w vn n) : ZV w (.agg #[.bool (x && decide (0 < n)), vn]) (if x then -(n : Int) else n) := by
  refine ⟨vn, ?_, ?_⟩
  · cases x
    · have : (decide (((n : Nat) : Int) < 0)) = false := by simp
      simp [this]
    · have : (decide (-(n : Int) < 0)) = decide (0 < n) := by
        rw [decide_eq_decide]; omega
      simp [this]
  · have : (if x then -(n : Int) else (n : Int)).natAbs = n := by split <;> omega
    rw [this]; exact h
set_option maxHeartbeats 1000000 in
set_option maxRecDepth 100000 in
theorem z2Make_any (x : Bool) (vn : Value) (n : Nat) (w : World) (h : SlN w vn n) :
    Calls Tryz.prog 135 #[.bool x, vn] w fun e w' => ∃ v, e = .returned v ∧ ZV w' v (if x then -(n : Int) else n) ∧ Ext w w' := by
  have hz := ZV_with x h
  obtain ⟨A, c, rfl⟩ := h.slc
  obtain ⟨l, hl⟩ : ∃ l, (wds n).length = l := ⟨_, rfl⟩
  rw [hl] at hz ⊢
  have hp : decide (0 < n) = decide ((0 : Int) < (l : Int)) := by rw [decide_eq_decide, ← hl]; have := wpos_iff n; omega
  rw [hp] at hz
  have HZ := Lib.hid hz
  clear h hl hp hz
  cases x
  · go_enter Tryz.func135, Tryz.ntmps135
    go_wp2_with fail
    refine bodyPost_ret (v := .agg #[.bool false, .slice A l c]) (by simp [results, Tryz.f135, go_sem]) rfl ⟨_, rfl, ?_, (Ext.rfl' _).al _⟩
    exact HZ.out.ext ((Ext.rfl' _).al _)
  · by_cases h0 : (0 : Int) < (l : Int)
    · have HZ2 : Hid (ZV w (.agg #[.bool true, .slice A l c]) (-(n : Int))) := by
        have := HZ.out; rw [decide_eq_true h0] at this; exact this
      go_enter Tryz.func135, Tryz.ntmps135
      go_wp2_with fail
      refine bodyPost_ret (v := .agg #[.bool true, .slice A l c]) (by simp [results, Tryz.f135, go_sem]; omega) rfl ⟨_, rfl, ?_, (Ext.rfl' _).al _⟩
      exact HZ2.out.ext ((Ext.rfl' _).al _)
    · have HZ2 : Hid (ZV w (.agg #[.bool false, .slice A l c]) (-(n : Int))) := by
        have := HZ.out; rw [decide_eq_false h0] at this; exact this
      go_enter Tryz.func135, Tryz.ntmps135
      go_wp2_with fail
      refine bodyPost_ret (v := .agg #[.bool false, .slice A l c]) (by simp [results, Tryz.f135, go_sem]; omega) rfl ⟨_, rfl, ?_, (Ext.rfl' _).al _⟩
      exact HZ2.out.ext ((Ext.rfl' _).al _)
/-- What is written into a box that is none of words leaves words as they are. -/
theorem SlN.off {w w' : World} {v : Value} {n g : Nat} {cs : Array Value} {T : TypeId} (h : SlN w v n) (hB : Bx w g cs T) (hT : T ≠ 124) (hs : w.heap.size ≤ w'.heap.size)
    (hk : ∀ b, b ≠ g → w'.heap[b]? = w.heap[b]?) : SlN w' v n := by
  obtain ⟨A, c, rfl, h1, h2, h3, h4⟩ := h
  have hne : ∀ a, A = some a → a.block ≠ g := by
    intro a ha e
    obtain ⟨cs', fr, h5⟩ := h4 a ha
    rw [e] at h5
    have h6 : w.heap[g]? = some (.cells cs T (0, 0)) := hB
    rw [h5] at h6
    injection h6 with h6
    injection h6 with _ h6
    exact hT h6.symm
  refine ⟨A, c, rfl, h1, h2, fun j hj => ?_, fun a ha => ?_⟩
  · obtain ⟨b, off, e, hb, hcell⟩ := h3 j hj
    exact ⟨b, off, e, Nat.lt_of_lt_of_le hb hs, by rw [World.cell?_of_block (w := w) (hk b (hne _ e))]; exact hcell⟩
  · obtain ⟨cs', fr, h5⟩ := h4 a ha
    exact ⟨cs', fr, (hk _ (hne a ha)).trans h5⟩
theorem keep2 {w : World} {g : Nat} (u v : Value) : ∀ b, b ≠ g → ((w.setCell ⟨g, 0, none⟩ u).setCell ⟨g, 1, none⟩ v).heap[b]? = w.heap[b]? :=
  fun b hb => (Below.heap_setCell _ ⟨g, 1, none⟩ v b hb).trans (Below.heap_setCell _ ⟨g, 0, none⟩ u b hb)
theorem size2 {w : World} {g : Nat} (u v : Value) : w.heap.size ≤ ((w.setCell ⟨g, 0, none⟩ u).setCell ⟨g, 1, none⟩ v).heap.size := by
  simp
set_option maxHeartbeats 1000000 in
set_option maxRecDepth 100000 in
theorem z2Read_any (s : ByteArray) (z : Int) (w : World) (hz : s.data.toList = Lib.itoa z) (hs : s.size ≤ 1099511627776) :
    Calls Tryz.prog 107 #[.string s] w fun e w' => ∃ v, e = .returned v ∧ ZV w' v z ∧ Ext w w' := by
  have hne : s.data.toList ≠ [] := by
    rw [hz]
    rcases (by omega : z < 0 ∨ 0 ≤ z) with h | h
    · rw [itoa_of_neg h]; simp
    · rw [itoa_of_nonneg h]; exact dec_ne _
  have h0 : 0 < s.size := by
    have := List.length_pos_iff.2 hne
    rwa [bytes_len] at this
  have hw : ∀ cs T, w.heap.size < (w.alloc (.cells cs T)).heap.size := fun cs T => by simp
  rcases (by omega : z < 0 ∨ 0 ≤ z) with h | h
  · have hb : (((s[0]'h0).toNat : Int) == 45) = true := by
      cases hb : (((s[0]'h0).toNat : Int) == 45)
      · exact absurd (hz.trans (itoa_of_neg h)) ((head_byte h0 _ hb).2 rfl _)
      · rfl
    have hx : (s.extract 1 s.size).data.toList = Lib.decDigits z.natAbs := by
      rw [extract_list, ← bytes_len, List.take_length, hz, itoa_of_neg h]; rfl
    have hsz : (s.extract 1 s.size).size ≤ 1099511627776 := by simp; omega
    have hF := fun W => zFrom_any (s.extract 1 s.size) W z.natAbs hx hsz
    have HF := Lib.hid hF
    have HD : Hid (decide (z < 0) = true) := decide_eq_true h
    clear hz hx hF h hne
    go_enter Tryz.func107, Tryz.ntmps107
    go_wp2_with fail
    refine (HF.out _).mono ?_
    rintro e w1 ⟨v, rfl, hS, hE⟩
    have B1 := (Bx.new w #[.bool false, .slice none 0 0] 84).ext hE
    have E1 : Ext w w1 := ((Ext.rfl' w).al _).tr hE
    obtain ⟨A, c, hv⟩ := hS.slc
    generalize (wds z.natAbs).length = l at hv
    subst hv
    obtain ⟨d0, d1⟩ := set2 B1 (.bool true) (.slice A l c)
    have E2 := ext_set2 E1 (Nat.le_refl _) (.bool true) (.slice A l c)
    have HZ : Hid (ZV ((w1.setCell ⟨w.heap.size, 0, none⟩ (.bool true)).setCell ⟨w.heap.size, 1, none⟩ (.slice A l c)) (.agg #[.bool true, .slice A l c]) z) := by
      refine ⟨_, by rw [HD.out], ?_⟩
      exact SlN.off hS B1 (by decide) (size2 _ _) (keep2 _ _)
    have c0 := B1.c0
    have c1 := B1.c1
    have f0 := B1.f 0
    have f1 := B1.f 1
    have HE2 := Lib.hid E2
    clear hS hE B1 E1 E2
    go_wp2_with fail
    refine bodyPost_ret (v := .agg #[.bool true, .slice A l c]) ?_ rfl ⟨_, rfl, HZ.out, HE2.out⟩
    simp [results, Tryz.f107, go_sem, d0, d1]
  · have hb : (((s[0]'h0).toNat : Int) == 45) = false := by
      cases hb : (((s[0]'h0).toNat : Int) == 45)
      · rfl
      · obtain ⟨t, ht⟩ := (head_byte h0 _ hb).1 rfl
        rw [hz, itoa_of_nonneg h] at ht
        exact absurd rfl (dec_no z.natAbs 45 (by rw [ht]; simp)).1
    have hF := fun W => zFrom_any s W z.natAbs (hz.trans (itoa_of_nonneg h)) hs
    have HF := Lib.hid hF
    have HD : Hid (decide (z < 0) = false) := decide_eq_false (by omega)
    clear hz hF h hne
    go_enter Tryz.func107, Tryz.ntmps107
    go_wp2_with fail
    refine (HF.out _).mono ?_
    rintro e w1 ⟨v, rfl, hS, hE⟩
    have B1 := (Bx.new w #[.bool false, .slice none 0 0] 84).ext hE
    have E1 : Ext w w1 := ((Ext.rfl' w).al _).tr hE
    obtain ⟨A, c, hv⟩ := hS.slc
    generalize (wds z.natAbs).length = l at hv
    subst hv
    obtain ⟨d0, d1⟩ := set2 B1 (.bool false) (.slice A l c)
    have E2 := ext_set2 E1 (Nat.le_refl _) (.bool false) (.slice A l c)
    have HZ : Hid (ZV ((w1.setCell ⟨w.heap.size, 0, none⟩ (.bool false)).setCell ⟨w.heap.size, 1, none⟩ (.slice A l c)) (.agg #[.bool false, .slice A l c]) z) := by
      refine ⟨_, by rw [HD.out], ?_⟩
      exact SlN.off hS B1 (by decide) (size2 _ _) (keep2 _ _)
    have c0 := B1.c0
    have c1 := B1.c1
    have f0 := B1.f 0
    have f1 := B1.f 1
    have HE2 := Lib.hid E2
    clear hS hE B1 E1 E2
    go_wp2_with fail
    refine bodyPost_ret (v := .agg #[.bool false, .slice A l c]) ?_ rfl ⟨_, rfl, HZ.out, HE2.out⟩
    simp [results, Tryz.f107, go_sem, d0, d1]
end Go.Proofs.YtbldlibijojbjaaGreatDoor.GB

namespace Go.Proofs.YtbldlibijojbjaaGreatDoor.GB
set_option linter.unusedVariables false
set_option linter.unusedSimpArgs false
open Go.RowKit Go.Shelf
attribute [local go_sem ↓] Go.wp_at_zero Go.wp_at_succ
/-! Boxes of a rational number of the reference. -/
theorem set3 {w : World} {b : Nat} {x y z : Value} {T : TypeId} (h : Bx w b #[x, y, z] T) (u v t : Value) :
    (((w.setCell ⟨b, 0, none⟩ u).setCell ⟨b, 1, none⟩ v).setCell ⟨b, 2, none⟩ t).cell? ⟨b, 0, none⟩ = some u ∧ (((w.setCell ⟨b, 0, none⟩ u).setCell ⟨b, 1, none⟩ v).setCell ⟨b, 2, none⟩ t).cell? ⟨b, 1, none⟩ = some v ∧ (((w.setCell ⟨b, 0, none⟩ u).setCell ⟨b, 1, none⟩ v).setCell ⟨b, 2, none⟩ t).cell? ⟨b, 2, none⟩ = some t := by
  have h0 : w.cell? ⟨b, 0, none⟩ = some x := h.c 0
  have h1 : w.cell? ⟨b, 1, none⟩ = some y := h.c 1
  have h2 : w.cell? ⟨b, 2, none⟩ = some z := h.c 2
  refine ⟨?_, ?_, ?_⟩
  · rw [World.cell?_setCell_other _ _ _ _ (by simp), World.cell?_setCell_other _ _ _ _ (by simp)]
    exact World.cell?_setCell_same _ _ _ h0
  · rw [World.cell?_setCell_other _ _ _ _ (by simp)]
    exact World.cell?_setCell_same (w.setCell ⟨b, 0, none⟩ u) ⟨b, 1, none⟩ v (by rw [World.cell?_setCell_other _ _ _ _ (by simp)]; exact h1)
  · exact World.cell?_setCell_same ((w.setCell ⟨b, 0, none⟩ u).setCell ⟨b, 1, none⟩ v) ⟨b, 2, none⟩ t (by rw [World.cell?_setCell_other _ _ _ _ (by simp), World.cell?_setCell_other _ _ _ _ (by simp)]; exact h2)
theorem keep3 {w : World} {g : Nat} (u v t : Value) : ∀ b, b ≠ g → (((w.setCell ⟨g, 0, none⟩ u).setCell ⟨g, 1, none⟩ v).setCell ⟨g, 2, none⟩ t).heap[b]? = w.heap[b]? :=
  fun b hb => (Below.heap_setCell _ ⟨g, 2, none⟩ t b hb).trans ((Below.heap_setCell _ ⟨g, 1, none⟩ v b hb).trans (Below.heap_setCell _ ⟨g, 0, none⟩ u b hb))
theorem size3 {w : World} {g : Nat} (u v t : Value) : w.heap.size ≤ (((w.setCell ⟨g, 0, none⟩ u).setCell ⟨g, 1, none⟩ v).setCell ⟨g, 2, none⟩ t).heap.size := by simp
theorem ext_set3 {w w1 : World} {b : Nat} (h : Ext w w1) (hb : w.heap.size ≤ b) (u v t : Value) : Ext w (((w1.setCell ⟨b, 0, none⟩ u).setCell ⟨b, 1, none⟩ v).setCell ⟨b, 2, none⟩ t) :=
  ((Below.setCell (p := ⟨b, 0, none⟩) h hb u).setCell (p := ⟨b, 1, none⟩) hb v).setCell (p := ⟨b, 2, none⟩) hb t
theorem ZV.off {w w' : World} {v : Value} {z : Int} {g : Nat} {cs : Array Value} {T : TypeId} (h : ZV w v z) (hB : Bx w g cs T) (hc : T ≠ 124) (hs : w.heap.size ≤ w'.heap.size)
    (hk : ∀ b, b ≠ g → w'.heap[b]? = w.heap[b]?) : ZV w' v z := by
  obtain ⟨vn, e, h1⟩ := h; exact ⟨vn, e, SlN.off h1 hB hc hs hk⟩
/-- A rational number of the reference. -/
def QV (w : World) (v : Value) (q : Rat) : Prop := ∃ vn vd, v = .agg #[.bool (decide (q.num < 0)), vn, vd] ∧ SlN w vn q.num.natAbs ∧ SlN w vd q.den
theorem QV.ext {w w' : World} {v : Value} {q : Rat} (h : QV w v q) (hE : Ext w w') : QV w' v q := by
  obtain ⟨vz, vd, e, h1, h2⟩ := h; exact ⟨vz, vd, e, SlN.ext h1 hE, SlN.ext h2 hE⟩
theorem QV.off {w w' : World} {v : Value} {q : Rat} {g : Nat} {cs : Array Value} {T : TypeId} (h : QV w v q) (hB : Bx w g cs T) (hc : T ≠ 124) (hs : w.heap.size ≤ w'.heap.size)
    (hk : ∀ b, b ≠ g → w'.heap[b]? = w.heap[b]?) : QV w' v q := by
  obtain ⟨vz, vd, e, h1, h2⟩ := h; exact ⟨vz, vd, e, SlN.off h1 hB hc hs hk, SlN.off h2 hB hc hs hk⟩
theorem QV.ex {w : World} {v : Value} {q : Rat} (h : QV w v q) : ∃ b A la ca B lb cb, v = .agg #[.bool b, .slice A la ca, .slice B lb cb] ∧ b = decide (q.num < 0) ∧ SlN w (.slice A la ca) q.num.natAbs ∧ SlN w (.slice B lb cb) q.den := by
  obtain ⟨vn, vd, rfl, h1, h2⟩ := h
  obtain ⟨A, ca, rfl⟩ := SlN.slc h1
  obtain ⟨B, cb, rfl⟩ := SlN.slc h2
  exact ⟨_, _, _, _, _, _, _, rfl, rfl, h1, h2⟩
theorem ZV.ex {w : World} {v : Value} {z : Int} (h : ZV w v z) : ∃ b A la ca, v = .agg #[.bool b, .slice A la ca] ∧ b = decide (z < 0) ∧ SlN w (.slice A la ca) z.natAbs := by
  obtain ⟨vn, rfl, h1⟩ := h
  obtain ⟨A, ca, rfl⟩ := h1.slc
  exact ⟨_, _, _, _, rfl, rfl, h1⟩
theorem QV.mk' {w : World} {b : Bool} {A B : Option Addr} {la ca lb cb : Nat} {q : Rat} (hb : b = decide (q.num < 0)) (h1 : SlN w (.slice A la ca) q.num.natAbs) (h2 : SlN w (.slice B lb cb) q.den) : QV w (.agg #[.bool b, .slice A la ca, .slice B lb cb]) q :=
  ⟨_, _, by rw [hb], h1, h2⟩
theorem nou2 : 84 ≠ 124 := by decide
theorem nou3 : 86 ≠ 124 := by decide
set_option maxHeartbeats 1000000 in
set_option maxRecDepth 100000 in
theorem z2Small_any (k : Int) (w : World) (h1 : -2147483648 < k) (h2 : k < 2147483648) :
    Calls Tryz.prog 137 #[.int .i64 k] w fun e w' => ∃ v, e = .returned v ∧ ZV w' v k ∧ Ext w w' := by
  by_cases hk : k < 0
  · obtain ⟨m, rfl⟩ : ∃ m : Nat, k = -(m : Int) := ⟨k.natAbs, by omega⟩
    have hS := fun W => zSmall_any m W (by omega)
    have n1 : - -(m : Int) = (m : Int) := by omega
    have n2 : (m : Int) % 4294967296 = (m : Int) := by omega
    have n3 : -(-(m : Int)) % 4294967296 = (m : Int) := by omega
    go_enter Tryz.func137, Tryz.ntmps137
    go_wp2_with fail
    refine (hS _).mono ?_
    rintro e w1 ⟨v, rfl, hv, hE⟩
    have B1 := (Bx.new w #[.bool false, .slice none 0 0] 84).ext hE
    have E1 : Ext w w1 := ((Ext.rfl' w).al _).tr hE
    have HB1 := Lib.hid B1
    have HE1 := Lib.hid E1
    have hM := z2Make_any true v m w1 hv
    clear hE B1 E1 hv
    go_wp2_with fail
    refine hM.mono ?_
    rintro e w2 ⟨v2, rfl, hv, hE⟩
    have B1 := HB1.out.ext hE
    have E1 := HE1.out.tr hE
    obtain ⟨b, A, la, ca, rfl, hb, hs⟩ := hv.ex
    obtain ⟨d0, d1⟩ := set2 B1 (.bool b) (.slice A la ca)
    have E2 := ext_set2 E1 (Nat.le_refl _) (.bool b) (.slice A la ca)
    have HZ := Lib.hid (hv.off B1 nou2 (size2 (.bool b) (.slice A la ca)) (keep2 (g := w.heap.size) (.bool b) (.slice A la ca)))
    have c0 := B1.c0
    have c1 := B1.c1
    have f0 := B1.f 0
    have f1 := B1.f 1
    have HE2 := Lib.hid E2
    clear hE B1 E1 E2 hv hs HB1 HE1 hb hM hS
    go_wp2_with fail
    refine bodyPost_ret (v := .agg #[.bool b, .slice A la ca]) ?_ rfl ⟨_, rfl, by have h := HZ.out; rw [if_pos trivial] at h; exact h, HE2.out⟩
    simp [results, Tryz.f137, go_sem, d0, d1]
  · obtain ⟨m, rfl⟩ : ∃ m : Nat, k = (m : Int) := ⟨k.natAbs, by omega⟩
    have hS := fun W => zSmall_any m W (by omega)
    have n2 : (m : Int) % 4294967296 = (m : Int) := by omega
    go_enter Tryz.func137, Tryz.ntmps137
    go_wp2_with fail
    refine (hS _).mono ?_
    rintro e w1 ⟨v, rfl, hv, hE⟩
    have B1 := (Bx.new w #[.bool false, .slice none 0 0] 84).ext hE
    have E1 : Ext w w1 := ((Ext.rfl' w).al _).tr hE
    have HB1 := Lib.hid B1
    have HE1 := Lib.hid E1
    have hM := z2Make_any false v m w1 hv
    clear hE B1 E1 hv
    go_wp2_with fail
    refine hM.mono ?_
    rintro e w2 ⟨v2, rfl, hv, hE⟩
    have B1 := HB1.out.ext hE
    have E1 := HE1.out.tr hE
    obtain ⟨b, A, la, ca, rfl, hb, hs⟩ := hv.ex
    obtain ⟨d0, d1⟩ := set2 B1 (.bool b) (.slice A la ca)
    have E2 := ext_set2 E1 (Nat.le_refl _) (.bool b) (.slice A la ca)
    have HZ := Lib.hid (hv.off B1 nou2 (size2 (.bool b) (.slice A la ca)) (keep2 (g := w.heap.size) (.bool b) (.slice A la ca)))
    have c0 := B1.c0
    have c1 := B1.c1
    have f0 := B1.f 0
    have f1 := B1.f 1
    have HE2 := Lib.hid E2
    clear hE B1 E1 E2 hv hs HB1 HE1 hb hM hS
    go_wp2_with fail
    refine bodyPost_ret (v := .agg #[.bool b, .slice A la ca]) ?_ rfl ⟨_, rfl, by have h := HZ.out; rw [if_neg (by decide)] at h; exact h, HE2.out⟩
    simp [results, Tryz.f137, go_sem, d0, d1]
set_option maxHeartbeats 1000000 in
set_option maxRecDepth 100000 in
theorem q3Int_any (k : Int) (w : World) (h1 : -2147483648 < k) (h2 : k < 2147483648) :
    Calls Tryz.prog 97 #[.int .i64 k] w fun e w' => ∃ v, e = .returned v ∧ QV w' v (k : Rat) ∧ Ext w w' := by
  have hS := fun W => z2Small_any k W h1 h2
  have hO := fun W => zSmall_any 1 W (by decide)
  clear h1 h2
  go_enter Tryz.func97, Tryz.ntmps97
  go_wp2_with fail
  refine (hS _).mono ?_
  rintro e w1 ⟨v, rfl, hv, hE⟩
  have HB1 := Lib.hid ((Bx.new w #[.bool false, .slice none 0 0, .slice none 0 0] 86).ext hE)
  have HE1 := Lib.hid (((Ext.rfl' w).al _).tr hE)
  obtain ⟨b, A, la, ca, rfl, hb, hs⟩ := hv.ex
  have HS := Lib.hid hs
  have HBq := Lib.hid hb
  clear hE hv hs hb
  go_wp2_with fail
  refine (hO _).mono ?_
  rintro e w2 ⟨v2, rfl, hv2, hE⟩
  have B1 := HB1.out.ext hE
  have E1 := HE1.out.tr hE
  obtain ⟨B, cb, rfl⟩ := SlN.slc hv2
  generalize (wds 1).length = lb at *
  have hq : QV w2 (.agg #[.bool b, .slice A la ca, .slice B lb cb]) (k : Rat) := QV.mk' (HBq.out.trans (by rw [decide_eq_decide]; simp)) (by simpa using SlN.ext HS.out hE) (by simpa using hv2)
  obtain ⟨d0, d1, d2⟩ := set3 B1 (.bool b) (.slice A la ca) (.slice B lb cb)
  have HE2 := Lib.hid (ext_set3 E1 (Nat.le_refl _) (.bool b) (.slice A la ca) (.slice B lb cb))
  have HZ := Lib.hid (hq.off B1 nou3 (size3 (.bool b) (.slice A la ca) (.slice B lb cb)) (keep3 (g := w.heap.size) (.bool b) (.slice A la ca) (.slice B lb cb)))
  have c0 : w2.cell? ⟨w.heap.size, 0, none⟩ = some (.bool false) := B1.c 0
  have c1 : w2.cell? ⟨w.heap.size, 1, none⟩ = some (.slice none 0 0) := B1.c 1
  have c2 : w2.cell? ⟨w.heap.size, 2, none⟩ = some (.slice none 0 0) := B1.c 2
  have f0 := B1.f 0
  have f1 := B1.f 1
  have f2 := B1.f 2
  clear hE B1 E1 hv2 HB1 HE1 hq HS HBq hS hO
  go_wp2_with fail
  refine bodyPost_ret (v := .agg #[.bool b, .slice A la ca, .slice B lb cb]) ?_ rfl ⟨_, rfl, HZ.out, HE2.out⟩
  simp [results, Tryz.f97, go_sem, d0, d1, d2]
end Go.Proofs.YtbldlibijojbjaaGreatDoor.GB

namespace Go.Proofs.YtbldlibijojbjaaGreatDoor.GB
set_option linter.unusedVariables false
set_option linter.unusedSimpArgs false
open Go.RowKit Go.Shelf
attribute [local go_sem ↓] Go.wp_at_zero Go.wp_at_succ
set_option maxHeartbeats 1000000 in
set_option maxRecDepth 100000 in
theorem q3Sign_any (v : Value) (q : Rat) (w : World) (h : QV w v q) :
    Calls Tryz.prog 89 #[v] w fun e w' => e = .returned (.int .i64 (sgq q.num)) ∧ Ext w w' := by
  obtain ⟨b, A, la, ca, B, lb, cb, rfl, hb, h1, h2⟩ := h.ex
  have hz : ZV w (.agg #[.bool b, .slice A la ca]) q.num := ⟨_, by rw [hb], h1⟩
  have hS := fun W (hE : Ext w W) => z2Signum_any _ _ W (hz.ext hE)
  have HS := Lib.hid hS
  clear h h1 h2 hz hb hS
  go_enter Tryz.func89, Tryz.ntmps89
  go_wp2_with fail
  refine (HS.out _ ((Ext.rfl' _).al _)).mono ?_
  rintro e w1 ⟨rfl, hE⟩
  have HE := Lib.hid (((Ext.rfl' w).al _).tr hE)
  clear hE
  go_wp2_with fail
  go_ret
  exact ⟨rfl, HE.out⟩
theorem dtx_is1 (n : Nat) : ((⟨(Lib.decDigits n).toArray⟩ : ByteArray).toList == [49]) = decide (n = 1) := by
  rw [ByteArray.toList_eq]
  show (Lib.decDigits n == [49]) = _
  have h0 : Lib.decDigits 1 = [49] := by rw [Lib.decDigits]; rfl
  by_cases h : n = 1
  · subst h; rw [h0]; rfl
  · rw [decide_eq_false h, beq_eq_false_iff_ne]
    intro e; rw [← h0] at e; exact h (dec_inj e)
set_option maxHeartbeats 1000000 in
set_option maxRecDepth 100000 in
theorem q3To_any (v : Value) (q : Rat) (w : World) (h : QV w v q) (hn : Fit q.num.natAbs) (hd : Fit q.den) :
    Calls Tryz.prog 72 #[v] w fun e w' => e = .returned (rtx q) ∧ Ext w w' := by
  obtain ⟨b, A, la, ca, B, lb, cb, rfl, hb, h1, h2⟩ := h.ex
  have hz : ZV w (.agg #[.bool b, .slice A la ca]) q.num := ⟨_, by rw [hb], h1⟩
  have hS := fun W (hE : Ext w W) => z2To_any _ _ W (hz.ext hE) hn
  have hT := fun W (hE : Ext w W) => zTo_v _ _ W (SlN.ext h2 hE) (Nat.le_trans hd.len (by decide))
  have HS := Lib.hid hS
  have HT := Lib.hid hT
  have hl1 : (Lib.itoa q.num).length ≤ 1099511627777 := by
    have := hn.dec
    rcases (by omega : q.num < 0 ∨ 0 ≤ q.num) with h | h
    · rw [itoa_of_neg h, List.length_cons]; omega
    · rw [itoa_of_nonneg h]; omega
  have hl2 := hd.dec
  have h1d := dtx_is1 q.den
  have h1e : (Lib.decDigits q.den == [49]) = decide (q.den = 1) := by rw [← h1d, ByteArray.toList_eq]
  have HX : Hid (q.den = 1 → rtext q = Lib.itoa q.num) := fun h => rtext_int h
  have HY : Hid (q.den ≠ 1 → rtext q = Lib.itoa q.num ++ 47 :: Lib.decDigits q.den) := fun h => rtext_frac h
  have s1 : ¬ 9223372036854775807 < 1 + (⟨(Lib.decDigits q.den).toArray⟩ : ByteArray).size := by rw [dtx_size]; omega
  have e1 : (⟨#[47]⟩ : ByteArray) ++ ⟨(Lib.decDigits q.den).toArray⟩ = ⟨(47 :: Lib.decDigits q.den).toArray⟩ := by
    apply ByteArray.ext; simp
  have e2 : (⟨(Lib.itoa q.num).toArray⟩ : ByteArray) ++ ⟨(47 :: Lib.decDigits q.den).toArray⟩ = ⟨(Lib.itoa q.num ++ 47 :: Lib.decDigits q.den).toArray⟩ := by
    apply ByteArray.ext; simp
  have s2 : ¬ 9223372036854775807 < (⟨(Lib.itoa q.num).toArray⟩ : ByteArray).size + (⟨(47 :: Lib.decDigits q.den).toArray⟩ : ByteArray).size := by
    show ¬ _ < (Lib.itoa q.num).toArray.size + (47 :: Lib.decDigits q.den).toArray.size
    simp only [List.size_toArray, List.length_cons]; omega
  have HG : Hid (∃ X, X = rtext q) := ⟨_, rfl⟩
  have HB := Lib.hid (Bx.new w #[.bool b, .slice A la ca, .slice B lb cb] 86)
  clear h h1 h2 hz hb hS hT hl1 hl2
  generalize hnn : q.num = z at *
  have HD : Hid (decide (q.den = 1) = true ∨ decide (q.den = 1) = false) := by unfold Hid; cases decide (q.den = 1) <;> simp
  have HQ : Hid ((decide (q.den = 1) = true → q.den = 1) ∧ (decide (q.den = 1) = false → q.den ≠ 1)) := ⟨of_decide_eq_true, of_decide_eq_false⟩
  generalize hdd : q.den = d at *
  clear hnn hdd hn hd
  rcases HD.out with hq | hq
  · rw [hq] at h1d h1e
    have hr : rtx q = itx z := by show Value.string _ = Value.string _; rw [HX.out (HQ.out.1 hq)]
    have HR := Lib.hid hr
    clear hq hr e1 e2 s1 s2
    go_enter Tryz.func72, Tryz.ntmps72
    go_wp2_with fail
    refine (HS.out _ ((Ext.rfl' _).al _)).mono ?_
    rintro e w1 ⟨rfl, hE⟩
    have HE := Lib.hid (((Ext.rfl' w).al _).tr hE)
    have c2 : w1.cell? ⟨w.heap.size, 2, none⟩ = some (.slice B lb cb) := (HB.out.ext hE).c 2
    clear hE
    go_wp2_with fail
    refine (HT.out _ HE.out).mono ?_
    rintro e w2 ⟨rfl, hE⟩
    have HE2 := Lib.hid (HE.out.tr hE)
    clear hE c2
    go_wp2_with fail
    go_ret
    exact ⟨by rw [HR.out]; rfl, HE2.out⟩
  · rw [hq] at h1d h1e
    have hr : rtx q = .string ⟨(Lib.itoa z ++ 47 :: Lib.decDigits d).toArray⟩ := by show Value.string _ = Value.string _; rw [HY.out (HQ.out.2 hq)]
    have HR := Lib.hid hr
    clear hq hr
    go_enter Tryz.func72, Tryz.ntmps72
    go_wp2_with fail
    refine (HS.out _ ((Ext.rfl' _).al _)).mono ?_
    rintro e w1 ⟨rfl, hE⟩
    have HE := Lib.hid (((Ext.rfl' w).al _).tr hE)
    have c2 : w1.cell? ⟨w.heap.size, 2, none⟩ = some (.slice B lb cb) := (HB.out.ext hE).c 2
    clear hE
    go_wp2_with fail
    refine (HT.out _ HE.out).mono ?_
    rintro e w2 ⟨rfl, hE⟩
    have HE2 := Lib.hid (HE.out.tr hE)
    clear hE c2
    go_wp2_with fail
    go_ret
    exact ⟨by rw [HR.out]; rfl, HE2.out⟩
end Go.Proofs.YtbldlibijojbjaaGreatDoor.GB

namespace Go.Proofs.YtbldlibijojbjaaGreatDoor.GB
set_option linter.unusedVariables false
set_option linter.unusedSimpArgs false
open Go.RowKit Go.Shelf
attribute [local go_sem ↓] Go.wp_at_zero Go.wp_at_succ
set_option maxHeartbeats 1000000 in
set_option maxRecDepth 100000 in
theorem split_miss (s : ByteArray) (w : World) (hs : s.size ≤ 1099511627776) (h : 47 ∉ s.data.toList) :
    Calls Tryz.prog 104 #[.string s] w fun e w' => e = .returned (.tuple #[.string s, .string ⟨#[49]⟩, .bool false]) ∧ Ext w w' := by
  have HN : Hid (∀ k, (hk : k < s.size) → (((s[k]'hk).toNat : Int) == 47) = false) := by
    intro k hk
    rw [beq_eq_false_iff_ne]
    intro e
    apply h
    have : s[k]'hk = 47 := by apply UInt8.toNat_inj.1; show (s[k]'hk).toNat = 47; omega
    rw [← this, ← bytes_get s k hk]; exact List.getElem_mem _
  clear h
  go_enter Tryz.func104, Tryz.ntmps104
  go_wp2
  go_loopw [5] (fun v wr => ∃ k : Nat, k ≤ s.size ∧ v = .int .i64 (k : Int) ∧ Hid (Ext w wr)) (fun v _ => s.size - (intOf v).toNat)
  case atStart => exact ⟨0, Nat.zero_le _, rfl, Ext.rfl' w⟩
  case round =>
    obtain ⟨k, hk, rfl, HE⟩ := hrel
    by_cases hlt : k < s.size
    · have hn := HN.out k hlt
      go_wp2
      go_roundw
      case rel => exact ⟨k + 1, by omega, by go_num, HE⟩
      case measure => simp [intOf]; omega
    · go_wp2
      go_ret3
      exact ⟨rfl, HE.out⟩
set_option maxHeartbeats 1000000 in
set_option maxRecDepth 100000 in
theorem split_hit (s : ByteArray) (p d : List UInt8) (w : World) (hs : s.size ≤ 1099511627776) (hl : s.data.toList = p ++ 47 :: d) (h : 47 ∉ p) :
    Calls Tryz.prog 104 #[.string s] w fun e w' => e = .returned (.tuple #[.string ⟨p.toArray⟩, .string ⟨d.toArray⟩, .bool true]) ∧ Ext w w' := by
  have hsz : s.size = p.length + 1 + d.length := by rw [← bytes_len, hl]; simp; omega
  obtain ⟨pn, hpn⟩ : ∃ pn, pn = p.length := ⟨_, rfl⟩
  have hps : pn < s.size := by omega
  have HN : Hid (∀ k, (hk : k < s.size) → k < pn → (((s[k]'hk).toNat : Int) == 47) = false) := by
    intro k hk hkp
    rw [beq_eq_false_iff_ne]
    intro e
    apply h
    have h47 : s[k]'hk = 47 := by apply UInt8.toNat_inj.1; show (s[k]'hk).toNat = 47; omega
    have hkp' : k < p.length := by omega
    have e2 : s.data.toList[k]'(by rw [bytes_len]; exact hk) = p[k] := by
      simp only [hl]; rw [List.getElem_append_left hkp']
    rw [bytes_get s k hk, h47] at e2
    rw [e2]; exact List.getElem_mem _
  have HY : Hid (((s[pn]'hps).toNat : Int) == 47) := by
    have e2 : s.data.toList[pn]'(by rw [bytes_len]; exact hps) = 47 := by
      simp only [hl, hpn]; rw [List.getElem_append_right (Nat.le_refl _)]; simp
    rw [bytes_get s pn hps] at e2
    unfold Hid
    rw [e2]; rfl
  have hx1 : s.extract 0 pn = ⟨p.toArray⟩ := list_of (by rw [extract_list, hl, List.drop_zero, hpn]; simp)
  have hx2 : s.extract (pn + 1) s.size = ⟨d.toArray⟩ := list_of (by rw [extract_list, ← bytes_len, List.take_length, hl, hpn]; simp)
  have HX1 := Lib.hid hx1
  have HX2 := Lib.hid hx2
  clear h hl hx1 hx2 hsz hpn
  go_enter Tryz.func104, Tryz.ntmps104
  go_wp2
  go_loopw [5] (fun v wr => ∃ k : Nat, k ≤ pn ∧ v = .int .i64 (k : Int) ∧ Hid (Ext w wr)) (fun v _ => s.size - (intOf v).toNat)
  case atStart => exact ⟨0, Nat.zero_le _, rfl, Ext.rfl' w⟩
  case round =>
    obtain ⟨k, hk, rfl, HE⟩ := hrel
    by_cases hlt : k < pn
    · have hks : k < s.size := by omega
      have hn := HN.out k hks hlt
      go_wp2
      go_roundw
      case rel => exact ⟨k + 1, by omega, by go_num, HE⟩
      case measure => simp [intOf]; omega
    · have hke : k = pn := by omega
      subst hke
      have hy := HY.out
      have z1 : (k : Int) < (s.size : Int) := by omega
      have z2 : ((k : Int) + 1).toNat = k + 1 := by omega
      go_wp2
      go_quiet (fail)
      all_goals go_wp2
      go_ret3
      exact ⟨by rw [HX1.out, HX2.out]; rfl, HE.out.drN _⟩
end Go.Proofs.YtbldlibijojbjaaGreatDoor.GB
