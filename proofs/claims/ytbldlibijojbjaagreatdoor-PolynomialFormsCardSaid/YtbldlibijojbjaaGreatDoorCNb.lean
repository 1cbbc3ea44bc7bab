import Derived.Test.YtbldlibijojbjaaGreatDoorMTy
namespace Go.Proofs.YtbldlibijojbjaaGreatDoor.GB
set_option linter.unusedVariables false
set_option linter.unusedSimpArgs false
open Go.RowKit Go.Shelf
attribute [local go_sem ↓] Go.wp_at_zero Go.wp_at_succ

/-- A number of at most 2^38 bits. -/
def Fit (a : Nat) : Prop := ∃ k, k ≤ 274877906944 ∧ a < 2 ^ k
theorem Fit.len {a : Nat} (h : Fit a) : (wds a).length ≤ 549755813888 := by
  obtain ⟨k, hk, ha⟩ := h
  have : a < BB ^ k := Nat.lt_of_lt_of_le ha (Nat.pow_le_pow_left (by rw [BB_eq]; omega) k)
  exact Nat.le_trans (wds_len_le this) (by omega)
theorem Fit.dec {a : Nat} (h : Fit a) : (Lib.decDigits a).length ≤ 1099511627776 := by
  obtain ⟨k, hk, ha⟩ := h
  exact Nat.le_trans (dec_len_le a k ha) (by omega)
theorem Fit.le {a b : Nat} (h : Fit a) (hb : b ≤ a) : Fit b := by
  obtain ⟨k, hk, ha⟩ := h
  exact ⟨k, hk, Nat.lt_of_le_of_lt hb ha⟩
/-- The text of a number. -/
abbrev dtx (a : Nat) : Value := .string ⟨(Lib.decDigits a).toArray⟩
theorem dtx_size (a : Nat) : (⟨(Lib.decDigits a).toArray⟩ : ByteArray).size = (Lib.decDigits a).length := size_mk _

theorem valid_any (s : ByteArray) (w : World) (hs : s.size ≤ 9223372036854775807) :
    Calls Tryz.prog 127 #[.string s] w fun e w' => e = .returned (.bool (canB s.data.toList)) ∧ w = w' := by
  rcases Nat.eq_zero_or_pos s.size with h | h
  · have e1 : s.data.toList = [] := by
      apply List.eq_nil_of_length_eq_zero; rw [bytes_len]; exact h
    have e2 : s.toList = [] := by rw [ByteArray.toList_eq, e1]
    refine (Valid_empty s w e2).mono ?_
    rintro e w' ⟨rfl, rfl⟩
    rw [e1]
    exact ⟨rfl, rfl⟩
  · have e2 : s.toList.isEmpty = false := by
      have hl : s.toList.length = s.size := by rw [ByteArray.toList_eq, bytes_len]
      cases hq : s.toList with
      | nil => rw [hq] at hl; simp at hl; omega
      | cons => rfl
    exact Valid_some s w hs e2 h
theorem valid_dec (a : Nat) (w : World) (h : Fit a) :
    Calls Tryz.prog 127 #[dtx a] w fun e w' => e = .returned (.bool true) ∧ w = w' := by
  have := h.dec
  refine (valid_any _ w (by rw [dtx_size]; omega)).mono ?_
  rintro e w' ⟨rfl, rfl⟩
  exact ⟨by rw [(canB_iff (Lib.decDigits a)).2 (dec_canon a)], rfl⟩
theorem read_v (a : Nat) (w : World) (h : Fit a) : Calls Tryz.prog 198 #[dtx a] w (RetV w a) :=
  (read_any _ w a rfl (by rw [dtx_size]; exact h.dec)).mono fun e w' h => h.v

set_option maxHeartbeats 1000000 in
set_option maxRecDepth 100000 in
theorem both_n (a b : Nat) (w : World) (ha : Fit a) (hb : Fit b) :
    Calls Tryz.prog 173 #[dtx a, dtx b] w fun e w' => ∃ v1 v2, e = .returned (.tuple #[v1, v2, .int .i64 0]) ∧ NumV w' v1 a ∧ NumV w' v2 b ∧ Ext w w' := by
  go_enter Tryz.func173, Tryz.ntmps173
  go_wp2_with fail
  refine (valid_dec a _ ha).mono ?_
  rintro e w1 ⟨rfl, rfl⟩
  go_wp2_with fail
  refine (valid_dec b _ hb).mono ?_
  rintro e w1 ⟨rfl, rfl⟩
  go_wp2_with fail
  refine (read_v a _ ha).mono ?_
  rintro e w1 ⟨v1, rfl, h1, hE1⟩
  go_wp2_with fail
  refine (read_v b _ hb).mono ?_
  rintro e w2 ⟨v2, rfl, h2, hE2⟩
  go_wp2_with fail
  go_ret3
  exact ⟨v1, v2, rfl, h1.ext hE2, h2, hE1.tr hE2⟩

set_option maxHeartbeats 1000000 in
set_option maxRecDepth 100000 in
theorem apply_n (K : Nat) (hK : ∀ args w, (callFunc K args).run Tryz.prog w = .ok (.enter K args) w) (v1 v2 : Value) (r : Nat) (w : World) (hW : Wd w) (hr : Fit r)
    (hop : Calls Tryz.prog K #[v1, v2] w (RetV w r)) :
    Calls Tryz.prog 174 #[.func (.func K) #[v1] #[], v2] w fun e w' => e = .returned (.tuple #[dtx r, .int .i64 0]) ∧ Ext w w' := by
  go_enter Tryz.func174, Tryz.ntmps174
  go_wp2_with fail
  refine hop.mono ?_
  rintro e w1 ⟨v, rfl, h1, hE1⟩
  go_wp2_with fail
  refine (text_any v r _ h1 (hW.ext hE1) hr.len).mono ?_
  rintro e w2 ⟨rfl, hE2⟩
  go_wp2_with fail
  go_ret2
  exact ⟨rfl, hE1.tr hE2⟩

theorem times_v (v1 v2 : Value) (a b : Nat) (w : World) (ha : Fit a) (hb : Fit b) (h1 : NumV w v1 a) (h2 : NumV w v2 b) : Calls Tryz.prog 213 #[v1, v2] w (RetV w (a * b)) := by
  obtain ⟨A, ca, rfl, _, _, h1⟩ := h1
  obtain ⟨B, cb, rfl, _, _, h2⟩ := h2
  have := ha.len
  have := hb.len
  exact (times_n A B ca cb _ _ a b w rfl rfl (by omega) (by omega) h1 h2).mono fun e w' h => h.v
theorem plus_v (v1 v2 : Value) (a b : Nat) (w : World) (ha : Fit a) (hb : Fit b) (h1 : NumV w v1 a) (h2 : NumV w v2 b) : Calls Tryz.prog 235 #[v1, v2] w (RetV w (a + b)) := by
  obtain ⟨A, ca, rfl, _, _, h1⟩ := h1
  obtain ⟨B, cb, rfl, _, _, h2⟩ := h2
  have := ha.len
  have := hb.len
  exact (plus_any A B ca cb _ _ a b w rfl rfl (by omega) (by omega) h1 h2).mono fun e w' h => h.v
theorem minus_v (v1 v2 : Value) (a b : Nat) (w : World) (ha : Fit a) (hb : Fit b) (h1 : NumV w v1 a) (h2 : NumV w v2 b) (hle : b ≤ a) : Calls Tryz.prog 236 #[v1, v2] w (RetV w (a - b)) := by
  obtain ⟨A, ca, rfl, _, _, h1⟩ := h1
  obtain ⟨B, cb, rfl, _, _, h2⟩ := h2
  have := ha.len
  have := hb.len
  exact (minus_any A B ca cb _ _ a b w rfl rfl (by omega) (by omega) h1 h2 hle).mono fun e w' h => h.v
theorem compare_v (v1 v2 : Value) (a b : Nat) (w : World) (ha : Fit a) (hb : Fit b) (h1 : NumV w v1 a) (h2 : NumV w v2 b) : Calls Tryz.prog 227 #[v1, v2] w fun e w' => e = .returned (.int .i64 (cmpZ a b)) ∧ Ext w w' := by
  obtain ⟨A, ca, rfl, _, _, h1⟩ := h1
  obtain ⟨B, cb, rfl, _, _, h2⟩ := h2
  have := ha.len
  have := hb.len
  exact compare_any A B ca cb _ _ a b w rfl rfl (by omega) (by omega) h1 h2

/-- The call hands back the text of a number, and no error. -/
def RetD (w : World) (r : Nat) (e : Ending) (w' : World) : Prop := e = .returned (.tuple #[dtx r, .int .i64 0]) ∧ Ext w w'

set_option maxHeartbeats 1000000 in
set_option maxRecDepth 100000 in
theorem Mul_n (a b : Nat) (w : World) (hW : Wd w) (ha : Fit a) (hb : Fit b) (hr : Fit (a * b)) :
    Calls Tryz.prog 187 #[dtx a, dtx b] w (RetD w (a * b)) := by
  go_enter Tryz.func187, Tryz.ntmps187
  go_wp2_with fail
  refine (both_n a b _ ha hb).mono ?_
  rintro e w1 ⟨v1, v2, rfl, h1, h2, hE1⟩
  go_wp2_with fail
  refine (apply_n 213 (enters_of Tryz.func213 (by kernel_rfl) rfl) _ _ (a * b) _ (hW.ext hE1) hr (times_v _ _ a b _ ha hb h1 h2)).mono ?_
  rintro e w2 ⟨rfl, hE2⟩
  go_wp2_with fail
  go_ret2
  exact ⟨rfl, hE1.tr hE2⟩
set_option maxHeartbeats 1000000 in
set_option maxRecDepth 100000 in
theorem Add_n (a b : Nat) (w : World) (hW : Wd w) (ha : Fit a) (hb : Fit b) (hr : Fit (a + b)) :
    Calls Tryz.prog 214 #[dtx a, dtx b] w (RetD w (a + b)) := by
  go_enter Tryz.func214, Tryz.ntmps214
  go_wp2_with fail
  refine (both_n a b _ ha hb).mono ?_
  rintro e w1 ⟨v1, v2, rfl, h1, h2, hE1⟩
  go_wp2_with fail
  refine (apply_n 235 (enters_of Tryz.func235 (by kernel_rfl) rfl) _ _ (a + b) _ (hW.ext hE1) hr (plus_v _ _ a b _ ha hb h1 h2)).mono ?_
  rintro e w2 ⟨rfl, hE2⟩
  go_wp2_with fail
  go_ret2
  exact ⟨rfl, hE1.tr hE2⟩
set_option maxHeartbeats 1000000 in
set_option maxRecDepth 100000 in
theorem GCD_n (a b : Nat) (w : World) (hW : Wd w) (ha : Fit a) (hb : Fit b) (hr : Fit (Nat.gcd a b)) :
    Calls Tryz.prog 153 #[dtx a, dtx b] w (RetD w (Nat.gcd a b)) := by
  go_enter Tryz.func153, Tryz.ntmps153
  go_wp2_with fail
  refine (both_n a b _ ha hb).mono ?_
  rintro e w1 ⟨v1, v2, rfl, h1, h2, hE1⟩
  go_wp2_with fail
  refine (apply_n 175 (enters_of Tryz.func175 (by kernel_rfl) rfl) _ _ (Nat.gcd a b) _ (hW.ext hE1) hr (gcd_any _ _ a b _ ha.len hb.len h1 h2)).mono ?_
  rintro e w2 ⟨rfl, hE2⟩
  go_wp2_with fail
  go_ret2
  exact ⟨rfl, hE1.tr hE2⟩
set_option maxHeartbeats 1000000 in
set_option maxRecDepth 100000 in
theorem Compare_n (a b : Nat) (w : World) (ha : Fit a) (hb : Fit b) :
    Calls Tryz.prog 215 #[dtx a, dtx b] w fun e w' => e = .returned (.tuple #[.int .i64 (cmpZ a b), .int .i64 0]) ∧ Ext w w' := by
  go_enter Tryz.func215, Tryz.ntmps215
  go_wp2_with fail
  refine (both_n a b _ ha hb).mono ?_
  rintro e w1 ⟨v1, v2, rfl, h1, h2, hE1⟩
  go_wp2_with fail
  refine (compare_v _ _ a b _ ha hb h1 h2).mono ?_
  rintro e w2 ⟨rfl, hE2⟩
  go_wp2_with fail
  go_ret2
  exact ⟨rfl, hE1.tr hE2⟩
set_option maxHeartbeats 1000000 in
set_option maxRecDepth 100000 in
theorem Sub_n (a b : Nat) (w : World) (hW : Wd w) (ha : Fit a) (hb : Fit b) (hle : b ≤ a) :
    Calls Tryz.prog 216 #[dtx a, dtx b] w (RetD w (a - b)) := by
  have hc : decide (cmpZ a b < 0) = false := cmpZ_geb hle
  go_enter Tryz.func216, Tryz.ntmps216
  go_wp2_with fail
  refine (both_n a b _ ha hb).mono ?_
  rintro e w1 ⟨v1, v2, rfl, h1, h2, hE1⟩
  go_wp2_with fail
  refine (compare_v _ _ a b _ ha hb h1 h2).mono ?_
  rintro e w2 ⟨rfl, hE2⟩
  go_wp2_with fail
  refine (apply_n 236 (enters_of Tryz.func236 (by kernel_rfl) rfl) _ _ (a - b) _ (hW.ext (hE1.tr hE2)) (ha.le (by omega)) (minus_v _ _ a b _ ha hb (h1.ext hE2) (h2.ext hE2) hle)).mono ?_
  rintro e w3 ⟨rfl, hE3⟩
  go_wp2_with fail
  go_ret2
  exact ⟨rfl, (hE1.tr hE2).tr hE3⟩
set_option maxHeartbeats 1000000 in
set_option maxRecDepth 100000 in
theorem DivMod_n (a b : Nat) (w : World) (hW : Wd w) (ha : Fit a) (hb : Fit b) (h0 : 0 < b) :
    Calls Tryz.prog 232 #[dtx a, dtx b] w fun e w' => e = .returned (.tuple #[dtx (a / b), dtx (a % b), .int .i64 0]) ∧ Ext w w' := by
  go_enter Tryz.func232, Tryz.ntmps232
  go_wp2_with fail
  refine (both_n a b _ ha hb).mono ?_
  rintro e w1 ⟨v1, v2, rfl, h1, h2, hE1⟩
  obtain ⟨B, cb, rfl⟩ := vslice h2
  have hp := (wds_pos_iff b).2 h0
  have hpb : (((wds b).length : Int) == 0) = false := by rw [beq_eq_false_iff_ne]; omega
  go_wp2_with fail
  refine (divide_v _ _ a b _ ha.len hb.len h1 h2 h0).mono ?_
  rintro e w2 ⟨q, r, rfl, hq, hr, hE2⟩
  go_wp2_with fail
  refine (text_any q (a / b) _ hq (hW.ext (hE1.tr hE2)) (ha.le (Nat.div_le_self a b)).len).mono ?_
  rintro e w3 ⟨rfl, hE3⟩
  go_wp2_with fail
  refine (text_any r (a % b) _ (hr.ext hE3) (hW.ext ((hE1.tr hE2).tr hE3)) (hb.le (Nat.le_of_lt (Nat.mod_lt a h0))).len).mono ?_
  rintro e w4 ⟨rfl, hE4⟩
  go_wp2_with fail
  go_ret3
  exact ⟨rfl, ((hE1.tr hE2).tr hE3).tr hE4⟩
end Go.Proofs.YtbldlibijojbjaaGreatDoor.GB
