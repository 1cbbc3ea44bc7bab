import Derived.Test.YtbldlibijojbjaaGreatDoorMRj
import Derived.Maps.Own
import Derived.Maps.Views
namespace Go.Proofs.YtbldlibijojbjaaGreatDoor.GB
set_option linter.unusedVariables false
set_option linter.unusedSimpArgs false
open Go.RowKit Go.Shelf
attribute [local go_sem ↓] Go.wp_at_zero Go.wp_at_succ

abbrev opF (n : Nat) : Value := .func (.func n) #[] #[]
/-- What the map of the operations holds, as data: a number for each function. -/
noncomputable def opR (v : Value) : Option (DataW Unit × List MemPlace) :=
  open Classical in
  if v = .nilFunc then some (.lit (.int .i64 0), []) else
  if v = opF 176 then some (.lit (.int .i64 1), []) else
  if v = opF 177 then some (.lit (.int .i64 2), []) else
  if v = opF 178 then some (.lit (.int .i64 3), []) else
  if v = opF 180 then some (.lit (.int .i64 4), []) else none
theorem opR_inv {v : Value} {c : Int} {ps : List MemPlace} (h : opR v = some (.lit (.int .i64 c), ps)) : (c = 1 → v = opF 176) ∧ (c = 2 → v = opF 177) ∧ (c = 3 → v = opF 178) ∧ (c = 4 → v = opF 180) := by
  unfold opR at h
  (repeat' split at h) <;> first | (simp at h; obtain ⟨rfl, _⟩ := h; simp_all) | cases h
theorem opR_p : opR (opF 176) = some (.lit (.int .i64 1), []) := by unfold opR; simp
theorem opR_t : opR (opF 177) = some (.lit (.int .i64 2), []) := by unfold opR; simp
theorem opR_m : opR (opF 178) = some (.lit (.int .i64 3), []) := by unfold opR; simp
theorem opR_d : opR (opF 180) = some (.lit (.int .i64 4), []) := by unfold opR; simp
theorem opR_0 : opR .nilFunc = some (.lit (.int .i64 0), []) := by unfold opR; simp
def opD : DataW Unit := ((((DataW.map []).put (.int .u8 43) (.lit (.int .i64 1))).put (.int .u8 42) (.lit (.int .i64 2))).put (.int .u8 45) (.lit (.int .i64 3))).put (.int .u8 47) (.lit (.int .i64 4))
def OpsM (w : World) (b : Nat) : Prop := w.ownsMap Tryz.prog 5 opR b 4 opD
theorem key8 (a : Int) (h : (Lit.int .u8 a).wf = true) : keyOf Tryz.prog 5 (.int .u8 a) = some (.int .u8 a) := Maps.keyOf_int_mk Tryz.underlying5 h
theorem keyed8 : Maps.Keyed Tryz.prog 5 := Maps.int_keyed Tryz.underlying5
theorem zeroFn (w : World) : (zeroValue 142).run Tryz.prog w = .ok .nilFunc w := by kernel_rfl
theorem ops_look {w : World} {b : Nat} (h : OpsM w b) (a c : Int) (ha : (Lit.int .u8 a).wf = true) (hc : opD.atKey (.int .u8 a) (.lit (.int .i64 0)) = .lit (.int .i64 c)) :
    ∃ v ps, (Instr.lookup 143 (.map (some b)) (.int .u8 a) false).run Tryz.prog w = .ok v w ∧ opR v = some (.lit (.int .i64 c), ps) := by
  obtain ⟨v, ps, h1, h2⟩ := World.ownsMap.lookup h keyed8 Tryz.underlying143 (zeroFn w) opR_0 (key8 a ha)
  rw [hc] at h2
  exact ⟨v, ps, h1, h2⟩
theorem ops_43 {w : World} {b : Nat} (h : OpsM w b) : (Instr.lookup 143 (.map (some b)) (.int .u8 43) false).run Tryz.prog w = .ok (opF 176) w := by
  obtain ⟨v, ps, h1, h2⟩ := ops_look h 43 1 (by decide) (by rfl)
  rw [h1, (opR_inv h2).1 rfl]
theorem ops_42 {w : World} {b : Nat} (h : OpsM w b) : (Instr.lookup 143 (.map (some b)) (.int .u8 42) false).run Tryz.prog w = .ok (opF 177) w := by
  obtain ⟨v, ps, h1, h2⟩ := ops_look h 42 2 (by decide) (by rfl)
  rw [h1, (opR_inv h2).2.1 rfl]
theorem ops_45 {w : World} {b : Nat} (h : OpsM w b) : (Instr.lookup 143 (.map (some b)) (.int .u8 45) false).run Tryz.prog w = .ok (opF 178) w := by
  obtain ⟨v, ps, h1, h2⟩ := ops_look h 45 3 (by decide) (by rfl)
  rw [h1, (opR_inv h2).2.2.1 rfl]
theorem ops_47 {w : World} {b : Nat} (h : OpsM w b) : (Instr.lookup 143 (.map (some b)) (.int .u8 47) false).run Tryz.prog w = .ok (opF 180) w := by
  obtain ⟨v, ps, h1, h2⟩ := ops_look h 47 4 (by decide) (by rfl)
  rw [h1, (opR_inv h2).2.2.2 rfl]
set_option maxHeartbeats 2000000 in
set_option maxRecDepth 100000 in
theorem operations_any (w : World) : Calls Tryz.prog 154 #[] w fun e w' => e = .returned (.map (some w.heap.size)) ∧ Ext w w' ∧ OpsM w' w.heap.size := by
  have hmm := @run_makeMap Tryz.prog
  have h0 := World.ownsMap_made w Tryz.prog 5 opR
  have E0 := (Ext.rfl' w).al (.map #[] 0)
  obtain ⟨w1, r1, h1, g1⟩ := h0.update keyed8 Tryz.underlying143 (by unfold maxLen; omega) (key8 43 (by decide)) opR_p
  obtain ⟨w2, r2, h2, g2⟩ := h1.update keyed8 Tryz.underlying143 (by unfold maxLen; omega) (key8 42 (by decide)) opR_t
  obtain ⟨w3, r3, h3, g3⟩ := h2.update keyed8 Tryz.underlying143 (by unfold maxLen; omega) (key8 45 (by decide)) opR_m
  obtain ⟨w4, r4, h4, g4⟩ := h3.update keyed8 Tryz.underlying143 (by unfold maxLen; omega) (key8 47 (by decide)) opR_d
  have E4 := Lib.hid ((((E0.gr g1 (fun k hk => by cases hk; exact Nat.le_refl _)).gr g2 (fun k hk => by cases hk; exact Nat.le_refl _)).gr g3 (fun k hk => by cases hk; exact Nat.le_refl _)).gr g4 (fun k hk => by cases hk; exact Nat.le_refl _))
  have H4 : Hid (OpsM w4 w.heap.size) := h4
  clear h0 h1 h2 h3 h4 g1 g2 g3 g4 E0
  go_enter Tryz.func154, Tryz.ntmps154
  go_wp2_with fail
  go_ret
  exact ⟨rfl, E4.out, H4.out⟩
set_option maxHeartbeats 2000000 in
set_option maxRecDepth 100000 in
theorem all_any (w : World) : Calls Tryz.prog 130 #[] w fun e w' => e = .returned (.map (some w.heap.size)) ∧ Ext w w' ∧ OpsM w' w.heap.size := by
  go_enter Tryz.func130, Tryz.ntmps130
  go_wp2_with fail
  refine (operations_any _).mono ?_
  rintro e w1 ⟨rfl, E1, H1⟩
  go_wp2_with fail
  go_ret
  exact ⟨rfl, E1, H1⟩
end Go.Proofs.YtbldlibijojbjaaGreatDoor.GB

namespace Go.Proofs.YtbldlibijojbjaaGreatDoor.GB
set_option linter.unusedVariables false
set_option linter.unusedSimpArgs false
open Go.RowKit Go.Shelf
attribute [local go_sem ↓] Go.wp_at_zero Go.wp_at_succ

theorem all_b (w : World) : Calls Tryz.prog 130 #[] w fun e w' => ∃ b, e = .returned (.map (some b)) ∧ Ext w w' ∧ OpsM w' b :=
  (all_any w).mono fun e w' h => ⟨_, h⟩
set_option maxHeartbeats 4000000 in
set_option maxRecDepth 100000 in
theorem rapply_43 (s t a b c d p q r : ByteArray) (w : World)
    (h1 : ∀ W, Ext w W → Calls Tryz.prog 129 #[.string s, .string t] W fun e w' => e = .returned (.tuple #[.agg #[.string a, .string b], .agg #[.string c, .string d], .int .i64 0]) ∧ Ext W w')
    (h3 : ∀ W, Ext w W → Calls Tryz.prog 176 #[.agg #[.string a, .string b], .agg #[.string c, .string d]] W fun e w' => e = .returned (.agg #[.string p, .string q]) ∧ Ext W w')
    (h4 : ∀ W, Ext w W → Calls Tryz.prog 131 #[.agg #[.string p, .string q]] W fun e w' => e = .returned (.string r) ∧ Ext W w') :
    Calls Tryz.prog 86 #[.int .u8 43, .string s, .string t] w fun e w' => e = .returned (.tuple #[.string r, .int .i64 0]) ∧ Ext w w' := by
  go_enter Tryz.func86, Tryz.ntmps86
  go_wp2_with fail
  refine (h1 _ (Ext.rfl' _)).mono ?_
  rintro e w1 ⟨rfl, hE1⟩
  obtain ⟨X1, X2, E2⟩ := boxes2 w1 #[.string a, .string b] #[.string c, .string d] 102
  have HE := Lib.hid (hE1.tr E2)
  have a0 := X1.c0
  have a1 := X1.c1
  have b0 := X2.c0
  have b1 := X2.c1
  clear X1 X2 hE1 E2 h1
  go_wp2_with fail
  generalize ((w1.alloc (.cells #[.string a, .string b] 102)).alloc (.cells #[.string c, .string d] 102)) = W0 at *
  generalize w1.heap.size = g at *
  go_region_held3 (fun w' => w'.cell? ⟨g, 0, none⟩ = some (.string a) ∧ w'.cell? ⟨g, 1, none⟩ = some (.string b) ∧ w'.cell? ⟨g + 1, 0, none⟩ = some (.string c) ∧ w'.cell? ⟨g + 1, 1, none⟩ = some (.string d)) (((try dsimp only); (repeat' apply And.intro) <;> assumption))
    (first
      | (go_at_call 130; (with_reducible refine (all_b _).mono ?_); rintro e w2 ⟨m, rfl, hE2, hM⟩; have hl := ops_43 hM; have q0 := Ext.cellD hE2 a0; have q1 := Ext.cellD hE2 a1; have q2 := Ext.cellD hE2 b0; have q3 := Ext.cellD hE2 b1; have HE2 := Lib.hid ((Ext.dr' HE).tr hE2); clear hE2 hM)
      | (go_at_call 176; (with_reducible refine (h3 _ HE2.out).mono ?_); rintro e w3 ⟨rfl, hE3⟩; have t0 := Ext.cellH hE3 q0; have t1 := Ext.cellH hE3 q1; have t2 := Ext.cellH hE3 q2; have t3 := Ext.cellH hE3 q3; have HE3 := Lib.hid (HE2.out.tr hE3); clear hE3)
      | (go_at_call 131; (with_reducible refine (h4 _ HE3.out).mono ?_); rintro e w4 ⟨rfl, hE4⟩; have u0 := Ext.cellH hE4 t0; have u1 := Ext.cellH hE4 t1; have u2 := Ext.cellH hE4 t2; have u3 := Ext.cellH hE4 t3; have HE4 := Lib.hid (HE3.out.tr hE4); clear hE4))
  all_goals
    go_wp2_with fail
    go_ret2
    exact ⟨rfl, HE4.out⟩
set_option maxHeartbeats 4000000 in
set_option maxRecDepth 100000 in
theorem rapply_42 (s t a b c d p q r : ByteArray) (w : World)
    (h1 : ∀ W, Ext w W → Calls Tryz.prog 129 #[.string s, .string t] W fun e w' => e = .returned (.tuple #[.agg #[.string a, .string b], .agg #[.string c, .string d], .int .i64 0]) ∧ Ext W w')
    (h3 : ∀ W, Ext w W → Calls Tryz.prog 177 #[.agg #[.string a, .string b], .agg #[.string c, .string d]] W fun e w' => e = .returned (.agg #[.string p, .string q]) ∧ Ext W w')
    (h4 : ∀ W, Ext w W → Calls Tryz.prog 131 #[.agg #[.string p, .string q]] W fun e w' => e = .returned (.string r) ∧ Ext W w') :
    Calls Tryz.prog 86 #[.int .u8 42, .string s, .string t] w fun e w' => e = .returned (.tuple #[.string r, .int .i64 0]) ∧ Ext w w' := by
  go_enter Tryz.func86, Tryz.ntmps86
  go_wp2_with fail
  refine (h1 _ (Ext.rfl' _)).mono ?_
  rintro e w1 ⟨rfl, hE1⟩
  obtain ⟨X1, X2, E2⟩ := boxes2 w1 #[.string a, .string b] #[.string c, .string d] 102
  have HE := Lib.hid (hE1.tr E2)
  have a0 := X1.c0
  have a1 := X1.c1
  have b0 := X2.c0
  have b1 := X2.c1
  clear X1 X2 hE1 E2 h1
  go_wp2_with fail
  generalize ((w1.alloc (.cells #[.string a, .string b] 102)).alloc (.cells #[.string c, .string d] 102)) = W0 at *
  generalize w1.heap.size = g at *
  go_region_held3 (fun w' => w'.cell? ⟨g, 0, none⟩ = some (.string a) ∧ w'.cell? ⟨g, 1, none⟩ = some (.string b) ∧ w'.cell? ⟨g + 1, 0, none⟩ = some (.string c) ∧ w'.cell? ⟨g + 1, 1, none⟩ = some (.string d)) (((try dsimp only); (repeat' apply And.intro) <;> assumption))
    (first
      | (go_at_call 130; (with_reducible refine (all_b _).mono ?_); rintro e w2 ⟨m, rfl, hE2, hM⟩; have hl := ops_42 hM; have q0 := Ext.cellD hE2 a0; have q1 := Ext.cellD hE2 a1; have q2 := Ext.cellD hE2 b0; have q3 := Ext.cellD hE2 b1; have HE2 := Lib.hid ((Ext.dr' HE).tr hE2); clear hE2 hM)
      | (go_at_call 177; (with_reducible refine (h3 _ HE2.out).mono ?_); rintro e w3 ⟨rfl, hE3⟩; have t0 := Ext.cellH hE3 q0; have t1 := Ext.cellH hE3 q1; have t2 := Ext.cellH hE3 q2; have t3 := Ext.cellH hE3 q3; have HE3 := Lib.hid (HE2.out.tr hE3); clear hE3)
      | (go_at_call 131; (with_reducible refine (h4 _ HE3.out).mono ?_); rintro e w4 ⟨rfl, hE4⟩; have u0 := Ext.cellH hE4 t0; have u1 := Ext.cellH hE4 t1; have u2 := Ext.cellH hE4 t2; have u3 := Ext.cellH hE4 t3; have HE4 := Lib.hid (HE3.out.tr hE4); clear hE4))
  all_goals
    go_wp2_with fail
    go_ret2
    exact ⟨rfl, HE4.out⟩
set_option maxHeartbeats 4000000 in
set_option maxRecDepth 100000 in
theorem rapply_45 (s t a b c d p q r : ByteArray) (w : World)
    (h1 : ∀ W, Ext w W → Calls Tryz.prog 129 #[.string s, .string t] W fun e w' => e = .returned (.tuple #[.agg #[.string a, .string b], .agg #[.string c, .string d], .int .i64 0]) ∧ Ext W w')
    (h3 : ∀ W, Ext w W → Calls Tryz.prog 178 #[.agg #[.string a, .string b], .agg #[.string c, .string d]] W fun e w' => e = .returned (.agg #[.string p, .string q]) ∧ Ext W w')
    (h4 : ∀ W, Ext w W → Calls Tryz.prog 131 #[.agg #[.string p, .string q]] W fun e w' => e = .returned (.string r) ∧ Ext W w') :
    Calls Tryz.prog 86 #[.int .u8 45, .string s, .string t] w fun e w' => e = .returned (.tuple #[.string r, .int .i64 0]) ∧ Ext w w' := by
  go_enter Tryz.func86, Tryz.ntmps86
  go_wp2_with fail
  refine (h1 _ (Ext.rfl' _)).mono ?_
  rintro e w1 ⟨rfl, hE1⟩
  obtain ⟨X1, X2, E2⟩ := boxes2 w1 #[.string a, .string b] #[.string c, .string d] 102
  have HE := Lib.hid (hE1.tr E2)
  have a0 := X1.c0
  have a1 := X1.c1
  have b0 := X2.c0
  have b1 := X2.c1
  clear X1 X2 hE1 E2 h1
  go_wp2_with fail
  generalize ((w1.alloc (.cells #[.string a, .string b] 102)).alloc (.cells #[.string c, .string d] 102)) = W0 at *
  generalize w1.heap.size = g at *
  go_region_held3 (fun w' => w'.cell? ⟨g, 0, none⟩ = some (.string a) ∧ w'.cell? ⟨g, 1, none⟩ = some (.string b) ∧ w'.cell? ⟨g + 1, 0, none⟩ = some (.string c) ∧ w'.cell? ⟨g + 1, 1, none⟩ = some (.string d)) (((try dsimp only); (repeat' apply And.intro) <;> assumption))
    (first
      | (go_at_call 130; (with_reducible refine (all_b _).mono ?_); rintro e w2 ⟨m, rfl, hE2, hM⟩; have hl := ops_45 hM; have q0 := Ext.cellD hE2 a0; have q1 := Ext.cellD hE2 a1; have q2 := Ext.cellD hE2 b0; have q3 := Ext.cellD hE2 b1; have HE2 := Lib.hid ((Ext.dr' HE).tr hE2); clear hE2 hM)
      | (go_at_call 178; (with_reducible refine (h3 _ HE2.out).mono ?_); rintro e w3 ⟨rfl, hE3⟩; have t0 := Ext.cellH hE3 q0; have t1 := Ext.cellH hE3 q1; have t2 := Ext.cellH hE3 q2; have t3 := Ext.cellH hE3 q3; have HE3 := Lib.hid (HE2.out.tr hE3); clear hE3)
      | (go_at_call 131; (with_reducible refine (h4 _ HE3.out).mono ?_); rintro e w4 ⟨rfl, hE4⟩; have u0 := Ext.cellH hE4 t0; have u1 := Ext.cellH hE4 t1; have u2 := Ext.cellH hE4 t2; have u3 := Ext.cellH hE4 t3; have HE4 := Lib.hid (HE3.out.tr hE4); clear hE4))
  all_goals
    go_wp2_with fail
    go_ret2
    exact ⟨rfl, HE4.out⟩
set_option maxHeartbeats 4000000 in
set_option maxRecDepth 100000 in
theorem rapply_47 (s t a b c d p q r : ByteArray) (w : World)
    (h1 : ∀ W, Ext w W → Calls Tryz.prog 129 #[.string s, .string t] W fun e w' => e = .returned (.tuple #[.agg #[.string a, .string b], .agg #[.string c, .string d], .int .i64 0]) ∧ Ext W w')
    (hz : (c.toList == [48]) = false) (h3 : ∀ W, Ext w W → Calls Tryz.prog 180 #[.agg #[.string a, .string b], .agg #[.string c, .string d]] W fun e w' => e = .returned (.agg #[.string p, .string q]) ∧ Ext W w')
    (h4 : ∀ W, Ext w W → Calls Tryz.prog 131 #[.agg #[.string p, .string q]] W fun e w' => e = .returned (.string r) ∧ Ext W w') :
    Calls Tryz.prog 86 #[.int .u8 47, .string s, .string t] w fun e w' => e = .returned (.tuple #[.string r, .int .i64 0]) ∧ Ext w w' := by
  go_enter Tryz.func86, Tryz.ntmps86
  go_wp2_with fail
  refine (h1 _ (Ext.rfl' _)).mono ?_
  rintro e w1 ⟨rfl, hE1⟩
  obtain ⟨X1, X2, E2⟩ := boxes2 w1 #[.string a, .string b] #[.string c, .string d] 102
  have HE := Lib.hid (hE1.tr E2)
  have a0 := X1.c0
  have a1 := X1.c1
  have b0 := X2.c0
  have b1 := X2.c1
  clear X1 X2 hE1 E2 h1
  go_wp2_with fail
  generalize ((w1.alloc (.cells #[.string a, .string b] 102)).alloc (.cells #[.string c, .string d] 102)) = W0 at *
  generalize w1.heap.size = g at *
  go_region_held3 (fun w' => w'.cell? ⟨g, 0, none⟩ = some (.string a) ∧ w'.cell? ⟨g, 1, none⟩ = some (.string b) ∧ w'.cell? ⟨g + 1, 0, none⟩ = some (.string c) ∧ w'.cell? ⟨g + 1, 1, none⟩ = some (.string d)) (((try dsimp only); (repeat' apply And.intro) <;> assumption))
    (first
      | (go_at_call 130; (with_reducible refine (all_b _).mono ?_); rintro e w2 ⟨m, rfl, hE2, hM⟩; have hl := ops_47 hM; have q0 := Ext.cellD hE2 a0; have q1 := Ext.cellD hE2 a1; have q2 := Ext.cellD hE2 b0; have q3 := Ext.cellD hE2 b1; have HE2 := Lib.hid ((Ext.dr' HE).tr hE2); clear hE2 hM)
      | (go_at_call 180; (with_reducible refine (h3 _ HE2.out).mono ?_); rintro e w3 ⟨rfl, hE3⟩; have t0 := Ext.cellH hE3 q0; have t1 := Ext.cellH hE3 q1; have t2 := Ext.cellH hE3 q2; have t3 := Ext.cellH hE3 q3; have HE3 := Lib.hid (HE2.out.tr hE3); clear hE3)
      | (go_at_call 131; (with_reducible refine (h4 _ HE3.out).mono ?_); rintro e w4 ⟨rfl, hE4⟩; have u0 := Ext.cellH hE4 t0; have u1 := Ext.cellH hE4 t1; have u2 := Ext.cellH hE4 t2; have u3 := Ext.cellH hE4 t3; have HE4 := Lib.hid (HE3.out.tr hE4); clear hE4))
  all_goals
    go_wp2_with fail
    go_ret2
    exact ⟨rfl, HE4.out⟩
set_option maxHeartbeats 4000000 in
set_option maxRecDepth 100000 in
theorem rapply_zero (s t a b c d : ByteArray) (w : World)
    (h1 : ∀ W, Ext w W → Calls Tryz.prog 129 #[.string s, .string t] W fun e w' => e = .returned (.tuple #[.agg #[.string a, .string b], .agg #[.string c, .string d], .int .i64 0]) ∧ Ext W w')
    (hz : (c.toList == [48]) = true) :
    Calls Tryz.prog 86 #[.int .u8 47, .string s, .string t] w fun e w' => e = .returned (.tuple #[.string ⟨#[]⟩, .int .i64 16]) ∧ Ext w w' := by
  go_enter Tryz.func86, Tryz.ntmps86
  go_wp2_with fail
  refine (h1 _ (Ext.rfl' _)).mono ?_
  rintro e w1 ⟨rfl, hE1⟩
  obtain ⟨X1, X2, E2⟩ := boxes2 w1 #[.string a, .string b] #[.string c, .string d] 102
  have HE := Lib.hid (hE1.tr E2)
  have a0 := X1.c0
  have a1 := X1.c1
  have b0 := X2.c0
  have b1 := X2.c1
  clear X1 X2 hE1 E2 h1
  go_wp2_with fail
  go_ret2
  exact ⟨rfl, HE.out⟩
set_option maxHeartbeats 4000000 in
set_option maxRecDepth 100000 in
theorem rapply_no (s t a b c d : ByteArray) (x : Int) (w : World)
    (h1 : ∀ W, Ext w W → Calls Tryz.prog 129 #[.string s, .string t] W fun e w' => e = .returned (.tuple #[.agg #[.string a, .string b], .agg #[.string c, .string d], .int .i64 1]) ∧ Ext W w') :
    Calls Tryz.prog 86 #[.int .u8 x, .string s, .string t] w fun e w' => e = .returned (.tuple #[.string ⟨#[]⟩, .int .i64 1]) ∧ Ext w w' := by
  go_enter Tryz.func86, Tryz.ntmps86
  go_wp2_with fail
  refine (h1 _ (Ext.rfl' _)).mono ?_
  rintro e w1 ⟨rfl, hE1⟩
  obtain ⟨X1, X2, E2⟩ := boxes2 w1 #[.string a, .string b] #[.string c, .string d] 102
  have HE := Lib.hid (hE1.tr E2)
  have a0 := X1.c0
  have a1 := X1.c1
  have b0 := X2.c0
  have b1 := X2.c1
  clear X1 X2 hE1 E2 h1
  go_wp2_with fail
  go_ret2
  exact ⟨rfl, HE.out⟩
end Go.Proofs.YtbldlibijojbjaaGreatDoor.GB
