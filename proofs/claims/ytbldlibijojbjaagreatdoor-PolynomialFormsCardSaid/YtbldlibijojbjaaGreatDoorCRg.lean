import Derived.Test.YtbldlibijojbjaaGreatDoorCRf
namespace Go.Proofs.YtbldlibijojbjaaGreatDoor.GB
set_option linter.unusedVariables false
set_option linter.unusedSimpArgs false
open Go.RowKit Go.Shelf
attribute [local go_sem ↓] Go.wp_at_zero Go.wp_at_succ

theorem Bx.e2 {w : World} {b : Nat} {x y : Value} {T : TypeId} (h : Bx w b #[x, y] T) : w.cell? ⟨b, 0, none⟩ = some x ∧ w.cell? ⟨b, 1, none⟩ = some y ∧ w.frozen? ⟨b, 0, none⟩ = false ∧ w.frozen? ⟨b, 1, none⟩ = false := ⟨h.c0, h.c1, h.f 0, h.f 1⟩
set_option maxHeartbeats 4000000 in
set_option maxRecDepth 100000 in
theorem rplus_1 (s t s' t' a b : ByteArray) (p q r u : Int) (w : World)
    (h1 : ∀ W, Ext w W → Calls Tryz.prog 203 #[.agg #[.string s, .string t]] W fun e w' => e = .returned (.tuple #[.int .i64 p, .int .i64 q, .bool true]) ∧ Ext W w')
    (h2 : ∀ W, Ext w W → Calls Tryz.prog 203 #[.agg #[.string s', .string t']] W fun e w' => e = .returned (.tuple #[.int .i64 r, .int .i64 u, .bool true]) ∧ Ext W w')
    (hw1 : wrap64 (p * u) = p * u) (hw2 : wrap64 (r * q) = r * q) (hw3 : wrap64 (p * u + r * q) = p * u + r * q) (hw4 : wrap64 (q * u) = q * u)
    (h3 : ∀ W, Ext w W → Calls Tryz.prog 204 #[.int .i64 (p * u + r * q), .int .i64 (q * u)] W fun e w' => e = .returned (.agg #[.string a, .string b]) ∧ Ext W w') :
    Calls Tryz.prog 176 #[.agg #[.string s, .string t], .agg #[.string s', .string t']] w fun e w' => e = .returned (.agg #[.string a, .string b]) ∧ Ext w w' := by
  have X1 := (Bx.new w #[.string s, .string t] 102).al (.cells #[.string s', .string t'] 102) |>.al (.cells #[.string ⟨#[]⟩, .string ⟨#[]⟩] 102)
  obtain ⟨_, X2, X3, E⟩ := boxes3 w #[.string s, .string t] #[.string s', .string t'] #[.string ⟨#[]⟩, .string ⟨#[]⟩] 102
  go_enter Tryz.func176, Tryz.ntmps176
  go_wp2_with fail
  generalize ((w.alloc (.cells #[.string s, .string t] 102)).alloc (.cells #[.string s', .string t'] 102)).alloc (.cells #[.string ⟨#[]⟩, .string ⟨#[]⟩] 102) = W0 at *
  refine (h1 _ E).mono ?_
  rintro e w1 ⟨rfl, hE⟩
  replace X1 := X1.ext hE
  replace X2 := X2.ext hE
  replace X3 := X3.ext hE
  replace E := E.tr hE
  clear hE
  obtain ⟨c20, c21, f20, f21⟩ := X2.e2
  go_wp2_with fail
  refine (h2 _ E).mono ?_
  rintro e w2 ⟨rfl, hE⟩
  replace X1 := X1.ext hE
  replace X2 := X2.ext hE
  replace X3 := X3.ext hE
  replace E := E.tr hE
  clear hE
  clear c20 c21 f20 f21
  go_wp2_with fail
  refine (h3 _ E).mono ?_
  rintro e w3 ⟨rfl, hE⟩
  replace X1 := X1.ext hE
  replace X2 := X2.ext hE
  replace X3 := X3.ext hE
  replace E := E.tr hE
  clear hE
  obtain ⟨c30, c31, f30, f31⟩ := X3.e2
  go_wp2_with fail
  obtain ⟨d0, d1⟩ := set2 X3 (.string a) (.string b)
  have E2 := ext_set2 (b := w.heap.size + 1 + 1) E (by omega) (.string a) (.string b)
  refine bodyPost_ret (v := .agg #[.string a, .string b]) ?_ rfl ⟨rfl, E2⟩
  simp [results, Tryz.f176, go_sem, d0, d1]
set_option maxHeartbeats 4000000 in
set_option maxRecDepth 100000 in
theorem rplus_2 (s t s' t' a b A B C D : ByteArray) (p q r u : Int) (x : Bool) (w : World)
    (h1 : ∀ W, Ext w W → Calls Tryz.prog 203 #[.agg #[.string s, .string t]] W fun e w' => e = .returned (.tuple #[.int .i64 p, .int .i64 q, .bool false]) ∧ Ext W w') 
    (h2 : ∀ W, Ext w W → Calls Tryz.prog 203 #[.agg #[.string s', .string t']] W fun e w' => e = .returned (.tuple #[.int .i64 r, .int .i64 u, .bool x]) ∧ Ext W w') 
    (h3 : ∀ W, Ext w W → Calls Tryz.prog 145 #[.string s, .string t'] W fun e w' => e = .returned (.tuple #[.string A, .int .i64 0]) ∧ Ext W w') 
    (h4 : ∀ W, Ext w W → Calls Tryz.prog 145 #[.string s', .string t] W fun e w' => e = .returned (.tuple #[.string B, .int .i64 0]) ∧ Ext W w') 
    (h5 : ∀ W, Ext w W → Calls Tryz.prog 205 #[.string A, .string B] W fun e w' => e = .returned (.tuple #[.string C, .int .i64 0]) ∧ Ext W w') 
    (h6 : ∀ W, Ext w W → Calls Tryz.prog 187 #[.string t, .string t'] W fun e w' => e = .returned (.tuple #[.string D, .int .i64 0]) ∧ Ext W w') 
    (h7 : ∀ W, Ext w W → Calls Tryz.prog 206 #[.string C, .string D] W fun e w' => e = .returned (.agg #[.string a, .string b]) ∧ Ext W w') :
    Calls Tryz.prog 176 #[.agg #[.string s, .string t], .agg #[.string s', .string t']] w fun e w' => e = .returned (.agg #[.string a, .string b]) ∧ Ext w w' := by
  have X1 := (Bx.new w #[.string s, .string t] 102).al (.cells #[.string s', .string t'] 102) |>.al (.cells #[.string ⟨#[]⟩, .string ⟨#[]⟩] 102)
  obtain ⟨_, X2, X3, E⟩ := boxes3 w #[.string s, .string t] #[.string s', .string t'] #[.string ⟨#[]⟩, .string ⟨#[]⟩] 102
  go_enter Tryz.func176, Tryz.ntmps176
  go_wp2_with fail
  generalize ((w.alloc (.cells #[.string s, .string t] 102)).alloc (.cells #[.string s', .string t'] 102)).alloc (.cells #[.string ⟨#[]⟩, .string ⟨#[]⟩] 102) = W0 at *
  refine (h1 _ E).mono ?_
  rintro e w1 ⟨rfl, hE⟩
  replace X1 := X1.ext hE
  replace X2 := X2.ext hE
  replace X3 := X3.ext hE
  replace E := E.tr hE
  clear hE
  obtain ⟨c10, c11, f10, f11⟩ := X1.e2
  obtain ⟨c20, c21, f20, f21⟩ := X2.e2
  obtain ⟨c30, c31, f30, f31⟩ := X3.e2
  go_wp2_with fail
  refine (h2 _ E).mono ?_
  rintro e w2 ⟨rfl, hE⟩
  replace X1 := X1.ext hE
  replace X2 := X2.ext hE
  replace X3 := X3.ext hE
  replace E := E.tr hE
  clear hE
  clear c10 c11 f10 f11 c20 c21 f20 f21 c30 c31 f30 f31
  obtain ⟨c10, c11, f10, f11⟩ := X1.e2
  obtain ⟨c20, c21, f20, f21⟩ := X2.e2
  obtain ⟨c30, c31, f30, f31⟩ := X3.e2
  go_wp2_with fail
  refine (h3 _ E).mono ?_
  rintro e w3 ⟨rfl, hE⟩
  replace X1 := X1.ext hE
  replace X2 := X2.ext hE
  replace X3 := X3.ext hE
  replace E := E.tr hE
  clear hE
  clear c10 c11 f10 f11 c20 c21 f20 f21 c30 c31 f30 f31
  obtain ⟨c10, c11, f10, f11⟩ := X1.e2
  obtain ⟨c20, c21, f20, f21⟩ := X2.e2
  obtain ⟨c30, c31, f30, f31⟩ := X3.e2
  go_wp2_with fail
  refine (h4 _ E).mono ?_
  rintro e w4 ⟨rfl, hE⟩
  replace X1 := X1.ext hE
  replace X2 := X2.ext hE
  replace X3 := X3.ext hE
  replace E := E.tr hE
  clear hE
  clear c10 c11 f10 f11 c20 c21 f20 f21 c30 c31 f30 f31
  obtain ⟨c10, c11, f10, f11⟩ := X1.e2
  obtain ⟨c20, c21, f20, f21⟩ := X2.e2
  obtain ⟨c30, c31, f30, f31⟩ := X3.e2
  go_wp2_with fail
  refine (h5 _ E).mono ?_
  rintro e w5 ⟨rfl, hE⟩
  replace X1 := X1.ext hE
  replace X2 := X2.ext hE
  replace X3 := X3.ext hE
  replace E := E.tr hE
  clear hE
  clear c10 c11 f10 f11 c20 c21 f20 f21 c30 c31 f30 f31
  obtain ⟨c10, c11, f10, f11⟩ := X1.e2
  obtain ⟨c20, c21, f20, f21⟩ := X2.e2
  obtain ⟨c30, c31, f30, f31⟩ := X3.e2
  go_wp2_with fail
  refine (h6 _ E).mono ?_
  rintro e w6 ⟨rfl, hE⟩
  replace X1 := X1.ext hE
  replace X2 := X2.ext hE
  replace X3 := X3.ext hE
  replace E := E.tr hE
  clear hE
  clear c10 c11 f10 f11 c20 c21 f20 f21 c30 c31 f30 f31
  obtain ⟨c10, c11, f10, f11⟩ := X1.e2
  obtain ⟨c20, c21, f20, f21⟩ := X2.e2
  obtain ⟨c30, c31, f30, f31⟩ := X3.e2
  go_wp2_with fail
  refine (h7 _ E).mono ?_
  rintro e w7 ⟨rfl, hE⟩
  replace X1 := X1.ext hE
  replace X2 := X2.ext hE
  replace X3 := X3.ext hE
  replace E := E.tr hE
  clear hE
  clear c10 c11 f10 f11 c20 c21 f20 f21 c30 c31 f30 f31
  obtain ⟨c10, c11, f10, f11⟩ := X1.e2
  obtain ⟨c20, c21, f20, f21⟩ := X2.e2
  obtain ⟨c30, c31, f30, f31⟩ := X3.e2
  go_wp2_with fail
  obtain ⟨d0, d1⟩ := set2 X3 (.string a) (.string b)
  have E2 := ext_set2 (b := w.heap.size + 1 + 1) E (by omega) (.string a) (.string b)
  refine bodyPost_ret (v := .agg #[.string a, .string b]) ?_ rfl ⟨rfl, E2⟩
  simp [results, Tryz.f176, go_sem, d0, d1]
set_option maxHeartbeats 4000000 in
set_option maxRecDepth 100000 in
theorem rplus_3 (s t s' t' a b A B C D : ByteArray) (p q r u : Int) (x : Bool) (w : World)
    (h1 : ∀ W, Ext w W → Calls Tryz.prog 203 #[.agg #[.string s, .string t]] W fun e w' => e = .returned (.tuple #[.int .i64 p, .int .i64 q, .bool true]) ∧ Ext W w') 
    (h2 : ∀ W, Ext w W → Calls Tryz.prog 203 #[.agg #[.string s', .string t']] W fun e w' => e = .returned (.tuple #[.int .i64 r, .int .i64 u, .bool false]) ∧ Ext W w') 
    (h3 : ∀ W, Ext w W → Calls Tryz.prog 145 #[.string s, .string t'] W fun e w' => e = .returned (.tuple #[.string A, .int .i64 0]) ∧ Ext W w') 
    (h4 : ∀ W, Ext w W → Calls Tryz.prog 145 #[.string s', .string t] W fun e w' => e = .returned (.tuple #[.string B, .int .i64 0]) ∧ Ext W w') 
    (h5 : ∀ W, Ext w W → Calls Tryz.prog 205 #[.string A, .string B] W fun e w' => e = .returned (.tuple #[.string C, .int .i64 0]) ∧ Ext W w') 
    (h6 : ∀ W, Ext w W → Calls Tryz.prog 187 #[.string t, .string t'] W fun e w' => e = .returned (.tuple #[.string D, .int .i64 0]) ∧ Ext W w') 
    (h7 : ∀ W, Ext w W → Calls Tryz.prog 206 #[.string C, .string D] W fun e w' => e = .returned (.agg #[.string a, .string b]) ∧ Ext W w') :
    Calls Tryz.prog 176 #[.agg #[.string s, .string t], .agg #[.string s', .string t']] w fun e w' => e = .returned (.agg #[.string a, .string b]) ∧ Ext w w' := by
  have X1 := (Bx.new w #[.string s, .string t] 102).al (.cells #[.string s', .string t'] 102) |>.al (.cells #[.string ⟨#[]⟩, .string ⟨#[]⟩] 102)
  obtain ⟨_, X2, X3, E⟩ := boxes3 w #[.string s, .string t] #[.string s', .string t'] #[.string ⟨#[]⟩, .string ⟨#[]⟩] 102
  go_enter Tryz.func176, Tryz.ntmps176
  go_wp2_with fail
  generalize ((w.alloc (.cells #[.string s, .string t] 102)).alloc (.cells #[.string s', .string t'] 102)).alloc (.cells #[.string ⟨#[]⟩, .string ⟨#[]⟩] 102) = W0 at *
  refine (h1 _ E).mono ?_
  rintro e w1 ⟨rfl, hE⟩
  replace X1 := X1.ext hE
  replace X2 := X2.ext hE
  replace X3 := X3.ext hE
  replace E := E.tr hE
  clear hE
  obtain ⟨c10, c11, f10, f11⟩ := X1.e2
  obtain ⟨c20, c21, f20, f21⟩ := X2.e2
  obtain ⟨c30, c31, f30, f31⟩ := X3.e2
  go_wp2_with fail
  refine (h2 _ E).mono ?_
  rintro e w2 ⟨rfl, hE⟩
  replace X1 := X1.ext hE
  replace X2 := X2.ext hE
  replace X3 := X3.ext hE
  replace E := E.tr hE
  clear hE
  clear c10 c11 f10 f11 c20 c21 f20 f21 c30 c31 f30 f31
  obtain ⟨c10, c11, f10, f11⟩ := X1.e2
  obtain ⟨c20, c21, f20, f21⟩ := X2.e2
  obtain ⟨c30, c31, f30, f31⟩ := X3.e2
  go_wp2_with fail
  refine (h3 _ E).mono ?_
  rintro e w3 ⟨rfl, hE⟩
  replace X1 := X1.ext hE
  replace X2 := X2.ext hE
  replace X3 := X3.ext hE
  replace E := E.tr hE
  clear hE
  clear c10 c11 f10 f11 c20 c21 f20 f21 c30 c31 f30 f31
  obtain ⟨c10, c11, f10, f11⟩ := X1.e2
  obtain ⟨c20, c21, f20, f21⟩ := X2.e2
  obtain ⟨c30, c31, f30, f31⟩ := X3.e2
  go_wp2_with fail
  refine (h4 _ E).mono ?_
  rintro e w4 ⟨rfl, hE⟩
  replace X1 := X1.ext hE
  replace X2 := X2.ext hE
  replace X3 := X3.ext hE
  replace E := E.tr hE
  clear hE
  clear c10 c11 f10 f11 c20 c21 f20 f21 c30 c31 f30 f31
  obtain ⟨c10, c11, f10, f11⟩ := X1.e2
  obtain ⟨c20, c21, f20, f21⟩ := X2.e2
  obtain ⟨c30, c31, f30, f31⟩ := X3.e2
  go_wp2_with fail
  refine (h5 _ E).mono ?_
  rintro e w5 ⟨rfl, hE⟩
  replace X1 := X1.ext hE
  replace X2 := X2.ext hE
  replace X3 := X3.ext hE
  replace E := E.tr hE
  clear hE
  clear c10 c11 f10 f11 c20 c21 f20 f21 c30 c31 f30 f31
  obtain ⟨c10, c11, f10, f11⟩ := X1.e2
  obtain ⟨c20, c21, f20, f21⟩ := X2.e2
  obtain ⟨c30, c31, f30, f31⟩ := X3.e2
  go_wp2_with fail
  refine (h6 _ E).mono ?_
  rintro e w6 ⟨rfl, hE⟩
  replace X1 := X1.ext hE
  replace X2 := X2.ext hE
  replace X3 := X3.ext hE
  replace E := E.tr hE
  clear hE
  clear c10 c11 f10 f11 c20 c21 f20 f21 c30 c31 f30 f31
  obtain ⟨c10, c11, f10, f11⟩ := X1.e2
  obtain ⟨c20, c21, f20, f21⟩ := X2.e2
  obtain ⟨c30, c31, f30, f31⟩ := X3.e2
  go_wp2_with fail
  refine (h7 _ E).mono ?_
  rintro e w7 ⟨rfl, hE⟩
  replace X1 := X1.ext hE
  replace X2 := X2.ext hE
  replace X3 := X3.ext hE
  replace E := E.tr hE
  clear hE
  clear c10 c11 f10 f11 c20 c21 f20 f21 c30 c31 f30 f31
  obtain ⟨c10, c11, f10, f11⟩ := X1.e2
  obtain ⟨c20, c21, f20, f21⟩ := X2.e2
  obtain ⟨c30, c31, f30, f31⟩ := X3.e2
  go_wp2_with fail
  obtain ⟨d0, d1⟩ := set2 X3 (.string a) (.string b)
  have E2 := ext_set2 (b := w.heap.size + 1 + 1) E (by omega) (.string a) (.string b)
  refine bodyPost_ret (v := .agg #[.string a, .string b]) ?_ rfl ⟨rfl, E2⟩
  simp [results, Tryz.f176, go_sem, d0, d1]
set_option maxHeartbeats 4000000 in
set_option maxRecDepth 100000 in
theorem rtimes_1 (s t s' t' a b : ByteArray) (p q r u : Int) (w : World)
    (h1 : ∀ W, Ext w W → Calls Tryz.prog 203 #[.agg #[.string s, .string t]] W fun e w' => e = .returned (.tuple #[.int .i64 p, .int .i64 q, .bool true]) ∧ Ext W w')
    (h2 : ∀ W, Ext w W → Calls Tryz.prog 203 #[.agg #[.string s', .string t']] W fun e w' => e = .returned (.tuple #[.int .i64 r, .int .i64 u, .bool true]) ∧ Ext W w')
    (hw1 : wrap64 (p * r) = p * r) (hw4 : wrap64 (q * u) = q * u)
    (h3 : ∀ W, Ext w W → Calls Tryz.prog 204 #[.int .i64 (p * r), .int .i64 (q * u)] W fun e w' => e = .returned (.agg #[.string a, .string b]) ∧ Ext W w') :
    Calls Tryz.prog 177 #[.agg #[.string s, .string t], .agg #[.string s', .string t']] w fun e w' => e = .returned (.agg #[.string a, .string b]) ∧ Ext w w' := by
  have X1 := (Bx.new w #[.string s, .string t] 102).al (.cells #[.string s', .string t'] 102) |>.al (.cells #[.string ⟨#[]⟩, .string ⟨#[]⟩] 102)
  obtain ⟨_, X2, X3, E⟩ := boxes3 w #[.string s, .string t] #[.string s', .string t'] #[.string ⟨#[]⟩, .string ⟨#[]⟩] 102
  go_enter Tryz.func177, Tryz.ntmps177
  go_wp2_with fail
  generalize ((w.alloc (.cells #[.string s, .string t] 102)).alloc (.cells #[.string s', .string t'] 102)).alloc (.cells #[.string ⟨#[]⟩, .string ⟨#[]⟩] 102) = W0 at *
  refine (h1 _ E).mono ?_
  rintro e w1 ⟨rfl, hE⟩
  replace X1 := X1.ext hE
  replace X2 := X2.ext hE
  replace X3 := X3.ext hE
  replace E := E.tr hE
  clear hE
  obtain ⟨c20, c21, f20, f21⟩ := X2.e2
  go_wp2_with fail
  refine (h2 _ E).mono ?_
  rintro e w2 ⟨rfl, hE⟩
  replace X1 := X1.ext hE
  replace X2 := X2.ext hE
  replace X3 := X3.ext hE
  replace E := E.tr hE
  clear hE
  clear c20 c21 f20 f21
  go_wp2_with fail
  refine (h3 _ E).mono ?_
  rintro e w3 ⟨rfl, hE⟩
  replace X1 := X1.ext hE
  replace X2 := X2.ext hE
  replace X3 := X3.ext hE
  replace E := E.tr hE
  clear hE
  obtain ⟨c30, c31, f30, f31⟩ := X3.e2
  go_wp2_with fail
  obtain ⟨d0, d1⟩ := set2 X3 (.string a) (.string b)
  have E2 := ext_set2 (b := w.heap.size + 1 + 1) E (by omega) (.string a) (.string b)
  refine bodyPost_ret (v := .agg #[.string a, .string b]) ?_ rfl ⟨rfl, E2⟩
  simp [results, Tryz.f177, go_sem, d0, d1]
set_option maxHeartbeats 4000000 in
set_option maxRecDepth 100000 in
theorem rtimes_2 (s t s' t' a b C D : ByteArray) (p q r u : Int) (x : Bool) (w : World)
    (h1 : ∀ W, Ext w W → Calls Tryz.prog 203 #[.agg #[.string s, .string t]] W fun e w' => e = .returned (.tuple #[.int .i64 p, .int .i64 q, .bool false]) ∧ Ext W w') 
    (h2 : ∀ W, Ext w W → Calls Tryz.prog 203 #[.agg #[.string s', .string t']] W fun e w' => e = .returned (.tuple #[.int .i64 r, .int .i64 u, .bool x]) ∧ Ext W w') 
    (h3 : ∀ W, Ext w W → Calls Tryz.prog 145 #[.string s, .string s'] W fun e w' => e = .returned (.tuple #[.string C, .int .i64 0]) ∧ Ext W w') 
    (h6 : ∀ W, Ext w W → Calls Tryz.prog 187 #[.string t, .string t'] W fun e w' => e = .returned (.tuple #[.string D, .int .i64 0]) ∧ Ext W w') 
    (h7 : ∀ W, Ext w W → Calls Tryz.prog 206 #[.string C, .string D] W fun e w' => e = .returned (.agg #[.string a, .string b]) ∧ Ext W w') :
    Calls Tryz.prog 177 #[.agg #[.string s, .string t], .agg #[.string s', .string t']] w fun e w' => e = .returned (.agg #[.string a, .string b]) ∧ Ext w w' := by
  have X1 := (Bx.new w #[.string s, .string t] 102).al (.cells #[.string s', .string t'] 102) |>.al (.cells #[.string ⟨#[]⟩, .string ⟨#[]⟩] 102)
  obtain ⟨_, X2, X3, E⟩ := boxes3 w #[.string s, .string t] #[.string s', .string t'] #[.string ⟨#[]⟩, .string ⟨#[]⟩] 102
  go_enter Tryz.func177, Tryz.ntmps177
  go_wp2_with fail
  generalize ((w.alloc (.cells #[.string s, .string t] 102)).alloc (.cells #[.string s', .string t'] 102)).alloc (.cells #[.string ⟨#[]⟩, .string ⟨#[]⟩] 102) = W0 at *
  refine (h1 _ E).mono ?_
  rintro e w1 ⟨rfl, hE⟩
  replace X1 := X1.ext hE
  replace X2 := X2.ext hE
  replace X3 := X3.ext hE
  replace E := E.tr hE
  clear hE
  obtain ⟨c10, c11, f10, f11⟩ := X1.e2
  obtain ⟨c20, c21, f20, f21⟩ := X2.e2
  obtain ⟨c30, c31, f30, f31⟩ := X3.e2
  go_wp2_with fail
  refine (h2 _ E).mono ?_
  rintro e w2 ⟨rfl, hE⟩
  replace X1 := X1.ext hE
  replace X2 := X2.ext hE
  replace X3 := X3.ext hE
  replace E := E.tr hE
  clear hE
  clear c10 c11 f10 f11 c20 c21 f20 f21 c30 c31 f30 f31
  obtain ⟨c10, c11, f10, f11⟩ := X1.e2
  obtain ⟨c20, c21, f20, f21⟩ := X2.e2
  obtain ⟨c30, c31, f30, f31⟩ := X3.e2
  go_wp2_with fail
  refine (h3 _ E).mono ?_
  rintro e w3 ⟨rfl, hE⟩
  replace X1 := X1.ext hE
  replace X2 := X2.ext hE
  replace X3 := X3.ext hE
  replace E := E.tr hE
  clear hE
  clear c10 c11 f10 f11 c20 c21 f20 f21 c30 c31 f30 f31
  obtain ⟨c10, c11, f10, f11⟩ := X1.e2
  obtain ⟨c20, c21, f20, f21⟩ := X2.e2
  obtain ⟨c30, c31, f30, f31⟩ := X3.e2
  go_wp2_with fail
  refine (h6 _ E).mono ?_
  rintro e w4 ⟨rfl, hE⟩
  replace X1 := X1.ext hE
  replace X2 := X2.ext hE
  replace X3 := X3.ext hE
  replace E := E.tr hE
  clear hE
  clear c10 c11 f10 f11 c20 c21 f20 f21 c30 c31 f30 f31
  obtain ⟨c10, c11, f10, f11⟩ := X1.e2
  obtain ⟨c20, c21, f20, f21⟩ := X2.e2
  obtain ⟨c30, c31, f30, f31⟩ := X3.e2
  go_wp2_with fail
  refine (h7 _ E).mono ?_
  rintro e w5 ⟨rfl, hE⟩
  replace X1 := X1.ext hE
  replace X2 := X2.ext hE
  replace X3 := X3.ext hE
  replace E := E.tr hE
  clear hE
  clear c10 c11 f10 f11 c20 c21 f20 f21 c30 c31 f30 f31
  obtain ⟨c10, c11, f10, f11⟩ := X1.e2
  obtain ⟨c20, c21, f20, f21⟩ := X2.e2
  obtain ⟨c30, c31, f30, f31⟩ := X3.e2
  go_wp2_with fail
  obtain ⟨d0, d1⟩ := set2 X3 (.string a) (.string b)
  have E2 := ext_set2 (b := w.heap.size + 1 + 1) E (by omega) (.string a) (.string b)
  refine bodyPost_ret (v := .agg #[.string a, .string b]) ?_ rfl ⟨rfl, E2⟩
  simp [results, Tryz.f177, go_sem, d0, d1]
set_option maxHeartbeats 4000000 in
set_option maxRecDepth 100000 in
theorem rtimes_3 (s t s' t' a b C D : ByteArray) (p q r u : Int) (x : Bool) (w : World)
    (h1 : ∀ W, Ext w W → Calls Tryz.prog 203 #[.agg #[.string s, .string t]] W fun e w' => e = .returned (.tuple #[.int .i64 p, .int .i64 q, .bool true]) ∧ Ext W w') 
    (h2 : ∀ W, Ext w W → Calls Tryz.prog 203 #[.agg #[.string s', .string t']] W fun e w' => e = .returned (.tuple #[.int .i64 r, .int .i64 u, .bool false]) ∧ Ext W w') 
    (h3 : ∀ W, Ext w W → Calls Tryz.prog 145 #[.string s, .string s'] W fun e w' => e = .returned (.tuple #[.string C, .int .i64 0]) ∧ Ext W w') 
    (h6 : ∀ W, Ext w W → Calls Tryz.prog 187 #[.string t, .string t'] W fun e w' => e = .returned (.tuple #[.string D, .int .i64 0]) ∧ Ext W w') 
    (h7 : ∀ W, Ext w W → Calls Tryz.prog 206 #[.string C, .string D] W fun e w' => e = .returned (.agg #[.string a, .string b]) ∧ Ext W w') :
    Calls Tryz.prog 177 #[.agg #[.string s, .string t], .agg #[.string s', .string t']] w fun e w' => e = .returned (.agg #[.string a, .string b]) ∧ Ext w w' := by
  have X1 := (Bx.new w #[.string s, .string t] 102).al (.cells #[.string s', .string t'] 102) |>.al (.cells #[.string ⟨#[]⟩, .string ⟨#[]⟩] 102)
  obtain ⟨_, X2, X3, E⟩ := boxes3 w #[.string s, .string t] #[.string s', .string t'] #[.string ⟨#[]⟩, .string ⟨#[]⟩] 102
  go_enter Tryz.func177, Tryz.ntmps177
  go_wp2_with fail
  generalize ((w.alloc (.cells #[.string s, .string t] 102)).alloc (.cells #[.string s', .string t'] 102)).alloc (.cells #[.string ⟨#[]⟩, .string ⟨#[]⟩] 102) = W0 at *
  refine (h1 _ E).mono ?_
  rintro e w1 ⟨rfl, hE⟩
  replace X1 := X1.ext hE
  replace X2 := X2.ext hE
  replace X3 := X3.ext hE
  replace E := E.tr hE
  clear hE
  obtain ⟨c10, c11, f10, f11⟩ := X1.e2
  obtain ⟨c20, c21, f20, f21⟩ := X2.e2
  obtain ⟨c30, c31, f30, f31⟩ := X3.e2
  go_wp2_with fail
  refine (h2 _ E).mono ?_
  rintro e w2 ⟨rfl, hE⟩
  replace X1 := X1.ext hE
  replace X2 := X2.ext hE
  replace X3 := X3.ext hE
  replace E := E.tr hE
  clear hE
  clear c10 c11 f10 f11 c20 c21 f20 f21 c30 c31 f30 f31
  obtain ⟨c10, c11, f10, f11⟩ := X1.e2
  obtain ⟨c20, c21, f20, f21⟩ := X2.e2
  obtain ⟨c30, c31, f30, f31⟩ := X3.e2
  go_wp2_with fail
  refine (h3 _ E).mono ?_
  rintro e w3 ⟨rfl, hE⟩
  replace X1 := X1.ext hE
  replace X2 := X2.ext hE
  replace X3 := X3.ext hE
  replace E := E.tr hE
  clear hE
  clear c10 c11 f10 f11 c20 c21 f20 f21 c30 c31 f30 f31
  obtain ⟨c10, c11, f10, f11⟩ := X1.e2
  obtain ⟨c20, c21, f20, f21⟩ := X2.e2
  obtain ⟨c30, c31, f30, f31⟩ := X3.e2
  go_wp2_with fail
  refine (h6 _ E).mono ?_
  rintro e w4 ⟨rfl, hE⟩
  replace X1 := X1.ext hE
  replace X2 := X2.ext hE
  replace X3 := X3.ext hE
  replace E := E.tr hE
  clear hE
  clear c10 c11 f10 f11 c20 c21 f20 f21 c30 c31 f30 f31
  obtain ⟨c10, c11, f10, f11⟩ := X1.e2
  obtain ⟨c20, c21, f20, f21⟩ := X2.e2
  obtain ⟨c30, c31, f30, f31⟩ := X3.e2
  go_wp2_with fail
  refine (h7 _ E).mono ?_
  rintro e w5 ⟨rfl, hE⟩
  replace X1 := X1.ext hE
  replace X2 := X2.ext hE
  replace X3 := X3.ext hE
  replace E := E.tr hE
  clear hE
  clear c10 c11 f10 f11 c20 c21 f20 f21 c30 c31 f30 f31
  obtain ⟨c10, c11, f10, f11⟩ := X1.e2
  obtain ⟨c20, c21, f20, f21⟩ := X2.e2
  obtain ⟨c30, c31, f30, f31⟩ := X3.e2
  go_wp2_with fail
  obtain ⟨d0, d1⟩ := set2 X3 (.string a) (.string b)
  have E2 := ext_set2 (b := w.heap.size + 1 + 1) E (by omega) (.string a) (.string b)
  refine bodyPost_ret (v := .agg #[.string a, .string b]) ?_ rfl ⟨rfl, E2⟩
  simp [results, Tryz.f177, go_sem, d0, d1]
end Go.Proofs.YtbldlibijojbjaaGreatDoor.GB
