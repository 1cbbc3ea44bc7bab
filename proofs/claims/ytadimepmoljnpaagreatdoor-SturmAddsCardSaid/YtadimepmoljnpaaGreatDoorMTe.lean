import Derived.Test.YtadimepmoljnpaaGreatDoorMUr
import Derived.Test.YtadimepmoljnpaaGreatDoorMHm
namespace Go.Proofs.YtadimepmoljnpaaGreatDoor.GB
set_option linter.unusedVariables false
set_option linter.unusedSimpArgs false
open Go.RowKit Go.Shelf
attribute [local go_sem ↓] Go.wp_at_zero Go.wp_at_succ
theorem txt1 {s : ByteArray} (h : s = ⟨#[48]⟩) : s.toList = [48] := by subst h; simp [ByteArray.toList_eq]
theorem txt0 {s : ByteArray} (h : s ≠ ⟨#[48]⟩) : ¬ s.toList = [48] := fun e => h (bytes_inj (by rw [e]; simp [ByteArray.toList_eq]))
set_option maxHeartbeats 400000 in
set_option maxRecDepth 400000 in
theorem adds_few (A : Option Addr) (n c : Nat) (a b x : ByteArray) (w : World) (HA : Hid (∀ W, Ext w W → Calls Tryz.prog 10 #[] W fun e w' => e = .returned (.bool true) ∧ Ext W w')) (HF : Hid (∀ W g, Ext w W → Bx W g #[.string a, .string b] 26 → Calls Tryz.prog 11 #[.slice A n c, .slice (some ⟨g, 0, none⟩) 1 1] W fun e w' => e = .returned (.bool false) ∧ Ext W w')) : Calls Tryz.prog 6 #[.slice A n c, .agg #[.string a, .string b], .string x] w fun e w' => e = .returned (.bool true) ∧ Ext w w' := by
  have HE := Lib.hid (Ext.rfl' w)
  go_enter Tryz.func6, Tryz.ntmps6
  go_wp2_with fail
  have g0 := Bx.new w #[.string a, .string b] 26
  have hE := (Ext.rfl' w).al (.cells #[.string a, .string b] 26)
  replace g0 := Lib.hid g0
  generalize hWn : w.alloc (.cells #[.string a, .string b] 26) = W1 at *
  clear hWn
  generalize hb : w.heap.size = bHB at *
  clear hb
  replace HE := Lib.hid (HE.out.tr hE)
  clear hE
  have HB := g0
  clear g0
  refine (HA.out _ HE.out).mono ?_
  rintro e W2 ⟨rfl, hE⟩
  replace HE := Lib.hid (HE.out.tr hE)
  replace HB := Bx.hext HB hE
  clear hE
  obtain ⟨pHB0, pHB1, -, -⟩ := HB.out.e2
  go_wp2_with fail
  clear pHB0 pHB1
  have g0 := Bx.new W2 #[.string a, .string b] 26
  have hE := (Ext.rfl' W2).al (.cells #[.string a, .string b] 26)
  replace g0 := Lib.hid g0
  generalize hWn : W2.alloc (.cells #[.string a, .string b] 26) = W3 at *
  clear hWn
  generalize hb : W2.heap.size = bHF2 at *
  clear hb
  replace HE := Lib.hid (HE.out.tr hE)
  replace HB := Bx.hext HB hE
  clear hE
  have HF2 := g0
  clear g0
  refine (HF.out _ _ HE.out HF2.out).mono ?_
  rintro e W4 ⟨rfl, hE⟩
  replace HE := Lib.hid (HE.out.tr hE)
  replace HB := Bx.hext HB hE
  replace HF2 := Bx.hext HF2 hE
  clear hE
  clear HF2
  go_wp2_with fail
  refine (HA.out _ HE.out).mono ?_
  rintro e W5 ⟨rfl, hE⟩
  replace HE := Lib.hid (HE.out.tr hE)
  replace HB := Bx.hext HB hE
  clear hE
  go_wp2_with fail
  go_ret
  exact ⟨rfl, HE.out⟩
set_option maxHeartbeats 400000 in
set_option maxRecDepth 400000 in
theorem adds_long (A : Option Addr) (n c : Nat) (a b x : ByteArray) (w : World) (HA : Hid (∀ W, Ext w W → Calls Tryz.prog 10 #[] W fun e w' => e = .returned (.bool true) ∧ Ext W w')) (HF : Hid (∀ W g, Ext w W → Bx W g #[.string a, .string b] 26 → Calls Tryz.prog 11 #[.slice A n c, .slice (some ⟨g, 0, none⟩) 1 1] W fun e w' => e = .returned (.bool true) ∧ Ext W w')) (hx : 12 < x.size) : Calls Tryz.prog 6 #[.slice A n c, .agg #[.string a, .string b], .string x] w fun e w' => e = .returned (.bool true) ∧ Ext w w' := by
  have hx2 : decide ((12 : Int) < (x.size : Int)) = true := decide_eq_true (by omega)
  have HE := Lib.hid (Ext.rfl' w)
  go_enter Tryz.func6, Tryz.ntmps6
  go_wp2_with fail
  have g0 := Bx.new w #[.string a, .string b] 26
  have hE := (Ext.rfl' w).al (.cells #[.string a, .string b] 26)
  replace g0 := Lib.hid g0
  generalize hWn : w.alloc (.cells #[.string a, .string b] 26) = W1 at *
  clear hWn
  generalize hb : w.heap.size = bHB at *
  clear hb
  replace HE := Lib.hid (HE.out.tr hE)
  clear hE
  have HB := g0
  clear g0
  refine (HA.out _ HE.out).mono ?_
  rintro e W2 ⟨rfl, hE⟩
  replace HE := Lib.hid (HE.out.tr hE)
  replace HB := Bx.hext HB hE
  clear hE
  obtain ⟨pHB0, pHB1, -, -⟩ := HB.out.e2
  go_wp2_with fail
  clear pHB0 pHB1
  have g0 := Bx.new W2 #[.string a, .string b] 26
  have hE := (Ext.rfl' W2).al (.cells #[.string a, .string b] 26)
  replace g0 := Lib.hid g0
  generalize hWn : W2.alloc (.cells #[.string a, .string b] 26) = W3 at *
  clear hWn
  generalize hb : W2.heap.size = bHF2 at *
  clear hb
  replace HE := Lib.hid (HE.out.tr hE)
  replace HB := Bx.hext HB hE
  clear hE
  have HF2 := g0
  clear g0
  refine (HF.out _ _ HE.out HF2.out).mono ?_
  rintro e W4 ⟨rfl, hE⟩
  replace HE := Lib.hid (HE.out.tr hE)
  replace HB := Bx.hext HB hE
  replace HF2 := Bx.hext HF2 hE
  clear hE
  clear HF2
  go_wp2_with fail
  refine (HA.out _ HE.out).mono ?_
  rintro e W5 ⟨rfl, hE⟩
  replace HE := Lib.hid (HE.out.tr hE)
  replace HB := Bx.hext HB hE
  clear hE
  go_wp2_with fail
  go_ret
  exact ⟨rfl, HE.out⟩
set_option maxHeartbeats 400000 in
set_option maxRecDepth 400000 in
theorem adds_has (A : Option Addr) (n c : Nat) (a b x : ByteArray) (w : World) (HA : Hid (∀ W, Ext w W → Calls Tryz.prog 10 #[] W fun e w' => e = .returned (.bool true) ∧ Ext W w')) (HF : Hid (∀ W g, Ext w W → Bx W g #[.string a, .string b] 26 → Calls Tryz.prog 11 #[.slice A n c, .slice (some ⟨g, 0, none⟩) 1 1] W fun e w' => e = .returned (.bool true) ∧ Ext W w')) (hx : x.size ≤ 12) (HH : Hid (∀ W, Ext w W → Calls Tryz.prog 27 #[.agg #[.string a, .string b], .string x] W fun e w' => e = .returned (.bool false) ∧ Ext W w')) : Calls Tryz.prog 6 #[.slice A n c, .agg #[.string a, .string b], .string x] w fun e w' => e = .returned (.bool true) ∧ Ext w w' := by
  have hx2 : decide ((12 : Int) < (x.size : Int)) = false := decide_eq_false (by omega)
  have HE := Lib.hid (Ext.rfl' w)
  go_enter Tryz.func6, Tryz.ntmps6
  go_wp2_with fail
  have g0 := Bx.new w #[.string a, .string b] 26
  have hE := (Ext.rfl' w).al (.cells #[.string a, .string b] 26)
  replace g0 := Lib.hid g0
  generalize hWn : w.alloc (.cells #[.string a, .string b] 26) = W1 at *
  clear hWn
  generalize hb : w.heap.size = bHB at *
  clear hb
  replace HE := Lib.hid (HE.out.tr hE)
  clear hE
  have HB := g0
  clear g0
  refine (HA.out _ HE.out).mono ?_
  rintro e W2 ⟨rfl, hE⟩
  replace HE := Lib.hid (HE.out.tr hE)
  replace HB := Bx.hext HB hE
  clear hE
  obtain ⟨pHB0, pHB1, -, -⟩ := HB.out.e2
  go_wp2_with fail
  clear pHB0 pHB1
  have g0 := Bx.new W2 #[.string a, .string b] 26
  have hE := (Ext.rfl' W2).al (.cells #[.string a, .string b] 26)
  replace g0 := Lib.hid g0
  generalize hWn : W2.alloc (.cells #[.string a, .string b] 26) = W3 at *
  clear hWn
  generalize hb : W2.heap.size = bHF2 at *
  clear hb
  replace HE := Lib.hid (HE.out.tr hE)
  replace HB := Bx.hext HB hE
  clear hE
  have HF2 := g0
  clear g0
  refine (HF.out _ _ HE.out HF2.out).mono ?_
  rintro e W4 ⟨rfl, hE⟩
  replace HE := Lib.hid (HE.out.tr hE)
  replace HB := Bx.hext HB hE
  replace HF2 := Bx.hext HF2 hE
  clear hE
  clear HF2
  obtain ⟨pHB0, pHB1, -, -⟩ := HB.out.e2
  go_wp2_with fail
  clear pHB0 pHB1
  refine (HH.out _ HE.out).mono ?_
  rintro e W5 ⟨rfl, hE⟩
  replace HE := Lib.hid (HE.out.tr hE)
  replace HB := Bx.hext HB hE
  clear hE
  go_wp2_with fail
  refine (HA.out _ HE.out).mono ?_
  rintro e W6 ⟨rfl, hE⟩
  replace HE := Lib.hid (HE.out.tr hE)
  replace HB := Bx.hext HB hE
  clear hE
  go_wp2_with fail
  go_ret
  exact ⟨rfl, HE.out⟩
set_option maxHeartbeats 400000 in
set_option maxRecDepth 400000 in
theorem adds_xa (A : Option Addr) (n c : Nat) (a b x : ByteArray) (w : World) (HA : Hid (∀ W, Ext w W → Calls Tryz.prog 10 #[] W fun e w' => e = .returned (.bool true) ∧ Ext W w')) (HF : Hid (∀ W g, Ext w W → Bx W g #[.string a, .string b] 26 → Calls Tryz.prog 11 #[.slice A n c, .slice (some ⟨g, 0, none⟩) 1 1] W fun e w' => e = .returned (.bool true) ∧ Ext W w')) (hx : x.size ≤ 12) (HH : Hid (∀ W, Ext w W → Calls Tryz.prog 27 #[.agg #[.string a, .string b], .string x] W fun e w' => e = .returned (.bool true) ∧ Ext W w')) (ha : x = a) : Calls Tryz.prog 6 #[.slice A n c, .agg #[.string a, .string b], .string x] w fun e w' => e = .returned (.bool true) ∧ Ext w w' := by
  have hx2 : decide ((12 : Int) < (x.size : Int)) = false := decide_eq_false (by omega)
  have t1 := tl_eq ha
  clear ha
  have HE := Lib.hid (Ext.rfl' w)
  go_enter Tryz.func6, Tryz.ntmps6
  go_wp2_with fail
  have g0 := Bx.new w #[.string a, .string b] 26
  have hE := (Ext.rfl' w).al (.cells #[.string a, .string b] 26)
  replace g0 := Lib.hid g0
  generalize hWn : w.alloc (.cells #[.string a, .string b] 26) = W1 at *
  clear hWn
  generalize hb : w.heap.size = bHB at *
  clear hb
  replace HE := Lib.hid (HE.out.tr hE)
  clear hE
  have HB := g0
  clear g0
  refine (HA.out _ HE.out).mono ?_
  rintro e W2 ⟨rfl, hE⟩
  replace HE := Lib.hid (HE.out.tr hE)
  replace HB := Bx.hext HB hE
  clear hE
  obtain ⟨pHB0, pHB1, -, -⟩ := HB.out.e2
  go_wp2_with fail
  clear pHB0 pHB1
  have g0 := Bx.new W2 #[.string a, .string b] 26
  have hE := (Ext.rfl' W2).al (.cells #[.string a, .string b] 26)
  replace g0 := Lib.hid g0
  generalize hWn : W2.alloc (.cells #[.string a, .string b] 26) = W3 at *
  clear hWn
  generalize hb : W2.heap.size = bHF2 at *
  clear hb
  replace HE := Lib.hid (HE.out.tr hE)
  replace HB := Bx.hext HB hE
  clear hE
  have HF2 := g0
  clear g0
  refine (HF.out _ _ HE.out HF2.out).mono ?_
  rintro e W4 ⟨rfl, hE⟩
  replace HE := Lib.hid (HE.out.tr hE)
  replace HB := Bx.hext HB hE
  replace HF2 := Bx.hext HF2 hE
  clear hE
  clear HF2
  obtain ⟨pHB0, pHB1, -, -⟩ := HB.out.e2
  go_wp2_with fail
  clear pHB0 pHB1
  refine (HH.out _ HE.out).mono ?_
  rintro e W5 ⟨rfl, hE⟩
  replace HE := Lib.hid (HE.out.tr hE)
  replace HB := Bx.hext HB hE
  clear hE
  obtain ⟨pHB0, pHB1, -, -⟩ := HB.out.e2
  go_wp2_with fail
  refine (HA.out _ HE.out).mono ?_
  rintro e W6 ⟨rfl, hE⟩
  replace HE := Lib.hid (HE.out.tr hE)
  replace HB := Bx.hext HB hE
  clear hE
  go_wp2_with fail
  go_ret
  exact ⟨rfl, HE.out⟩
set_option maxHeartbeats 400000 in
set_option maxRecDepth 400000 in
theorem adds_xb (A : Option Addr) (n c : Nat) (a b x : ByteArray) (w : World) (HA : Hid (∀ W, Ext w W → Calls Tryz.prog 10 #[] W fun e w' => e = .returned (.bool true) ∧ Ext W w')) (HF : Hid (∀ W g, Ext w W → Bx W g #[.string a, .string b] 26 → Calls Tryz.prog 11 #[.slice A n c, .slice (some ⟨g, 0, none⟩) 1 1] W fun e w' => e = .returned (.bool true) ∧ Ext W w')) (hx : x.size ≤ 12) (HH : Hid (∀ W, Ext w W → Calls Tryz.prog 27 #[.agg #[.string a, .string b], .string x] W fun e w' => e = .returned (.bool true) ∧ Ext W w')) (ha : x ≠ a) (hb : x = b) : Calls Tryz.prog 6 #[.slice A n c, .agg #[.string a, .string b], .string x] w fun e w' => e = .returned (.bool true) ∧ Ext w w' := by
  have hx2 : decide ((12 : Int) < (x.size : Int)) = false := decide_eq_false (by omega)
  have t1 := tl_ne ha
  have t2 := tl_eq hb
  clear ha hb
  have HE := Lib.hid (Ext.rfl' w)
  go_enter Tryz.func6, Tryz.ntmps6
  go_wp2_with fail
  have g0 := Bx.new w #[.string a, .string b] 26
  have hE := (Ext.rfl' w).al (.cells #[.string a, .string b] 26)
  replace g0 := Lib.hid g0
  generalize hWn : w.alloc (.cells #[.string a, .string b] 26) = W1 at *
  clear hWn
  generalize hb : w.heap.size = bHB at *
  clear hb
  replace HE := Lib.hid (HE.out.tr hE)
  clear hE
  have HB := g0
  clear g0
  refine (HA.out _ HE.out).mono ?_
  rintro e W2 ⟨rfl, hE⟩
  replace HE := Lib.hid (HE.out.tr hE)
  replace HB := Bx.hext HB hE
  clear hE
  obtain ⟨pHB0, pHB1, -, -⟩ := HB.out.e2
  go_wp2_with fail
  clear pHB0 pHB1
  have g0 := Bx.new W2 #[.string a, .string b] 26
  have hE := (Ext.rfl' W2).al (.cells #[.string a, .string b] 26)
  replace g0 := Lib.hid g0
  generalize hWn : W2.alloc (.cells #[.string a, .string b] 26) = W3 at *
  clear hWn
  generalize hb : W2.heap.size = bHF2 at *
  clear hb
  replace HE := Lib.hid (HE.out.tr hE)
  replace HB := Bx.hext HB hE
  clear hE
  have HF2 := g0
  clear g0
  refine (HF.out _ _ HE.out HF2.out).mono ?_
  rintro e W4 ⟨rfl, hE⟩
  replace HE := Lib.hid (HE.out.tr hE)
  replace HB := Bx.hext HB hE
  replace HF2 := Bx.hext HF2 hE
  clear hE
  clear HF2
  obtain ⟨pHB0, pHB1, -, -⟩ := HB.out.e2
  go_wp2_with fail
  clear pHB0 pHB1
  refine (HH.out _ HE.out).mono ?_
  rintro e W5 ⟨rfl, hE⟩
  replace HE := Lib.hid (HE.out.tr hE)
  replace HB := Bx.hext HB hE
  clear hE
  obtain ⟨pHB0, pHB1, -, -⟩ := HB.out.e2
  go_wp2_with fail
  refine (HA.out _ HE.out).mono ?_
  rintro e W6 ⟨rfl, hE⟩
  replace HE := Lib.hid (HE.out.tr hE)
  replace HB := Bx.hext HB hE
  clear hE
  go_wp2_with fail
  go_ret
  exact ⟨rfl, HE.out⟩
set_option maxHeartbeats 400000 in
set_option maxRecDepth 400000 in
theorem adds_err (A : Option Addr) (n c : Nat) (a b x : ByteArray) (w : World) (HA : Hid (∀ W, Ext w W → Calls Tryz.prog 10 #[] W fun e w' => e = .returned (.bool true) ∧ Ext W w')) (HF : Hid (∀ W g, Ext w W → Bx W g #[.string a, .string b] 26 → Calls Tryz.prog 11 #[.slice A n c, .slice (some ⟨g, 0, none⟩) 1 1] W fun e w' => e = .returned (.bool true) ∧ Ext W w')) (hx : x.size ≤ 12) (HH : Hid (∀ W, Ext w W → Calls Tryz.prog 27 #[.agg #[.string a, .string b], .string x] W fun e w' => e = .returned (.bool true) ∧ Ext W w')) (ha : x ≠ a) (hb : x ≠ b) (k : Int) (hk : k ≠ 0) (HC0 : Hid (∀ W, Ext w W → Calls Tryz.prog 15 #[.slice A n c, .agg #[.string a, .string b]] W fun e w' => e = .returned (.tuple #[.int .i64 0, .int .i64 k]) ∧ Ext W w')) : Calls Tryz.prog 6 #[.slice A n c, .agg #[.string a, .string b], .string x] w fun e w' => e = .returned (.bool true) ∧ Ext w w' := by
  have z : (k == 0) = false := beq_eq_false_iff_ne.2 hk
  have hx2 : decide ((12 : Int) < (x.size : Int)) = false := decide_eq_false (by omega)
  have t1 := tl_ne ha
  have t2 := tl_ne hb
  clear ha hb
  have HE := Lib.hid (Ext.rfl' w)
  go_enter Tryz.func6, Tryz.ntmps6
  go_wp2_with fail
  have g0 := Bx.new w #[.string a, .string b] 26
  have hE := (Ext.rfl' w).al (.cells #[.string a, .string b] 26)
  replace g0 := Lib.hid g0
  generalize hWn : w.alloc (.cells #[.string a, .string b] 26) = W1 at *
  clear hWn
  generalize hb : w.heap.size = bHB at *
  clear hb
  replace HE := Lib.hid (HE.out.tr hE)
  clear hE
  have HB := g0
  clear g0
  refine (HA.out _ HE.out).mono ?_
  rintro e W2 ⟨rfl, hE⟩
  replace HE := Lib.hid (HE.out.tr hE)
  replace HB := Bx.hext HB hE
  clear hE
  obtain ⟨pHB0, pHB1, -, -⟩ := HB.out.e2
  go_wp2_with fail
  clear pHB0 pHB1
  have g0 := Bx.new W2 #[.string a, .string b] 26
  have hE := (Ext.rfl' W2).al (.cells #[.string a, .string b] 26)
  replace g0 := Lib.hid g0
  generalize hWn : W2.alloc (.cells #[.string a, .string b] 26) = W3 at *
  clear hWn
  generalize hb : W2.heap.size = bHF2 at *
  clear hb
  replace HE := Lib.hid (HE.out.tr hE)
  replace HB := Bx.hext HB hE
  clear hE
  have HF2 := g0
  clear g0
  refine (HF.out _ _ HE.out HF2.out).mono ?_
  rintro e W4 ⟨rfl, hE⟩
  replace HE := Lib.hid (HE.out.tr hE)
  replace HB := Bx.hext HB hE
  replace HF2 := Bx.hext HF2 hE
  clear hE
  clear HF2
  obtain ⟨pHB0, pHB1, -, -⟩ := HB.out.e2
  go_wp2_with fail
  clear pHB0 pHB1
  refine (HH.out _ HE.out).mono ?_
  rintro e W5 ⟨rfl, hE⟩
  replace HE := Lib.hid (HE.out.tr hE)
  replace HB := Bx.hext HB hE
  clear hE
  obtain ⟨pHB0, pHB1, -, -⟩ := HB.out.e2
  go_wp2_with fail
  clear pHB0 pHB1
  refine (HC0.out _ HE.out).mono ?_
  rintro e W6 ⟨rfl, hE⟩
  replace HE := Lib.hid (HE.out.tr hE)
  replace HB := Bx.hext HB hE
  clear hE
  go_wp2_with fail
  go_ret
  exact ⟨rfl, HE.out⟩
set_option maxHeartbeats 400000 in
set_option maxRecDepth 400000 in
theorem adds_yess (A : Option Addr) (n c : Nat) (a b x : ByteArray) (w : World) (HA : Hid (∀ W, Ext w W → Calls Tryz.prog 10 #[] W fun e w' => e = .returned (.bool true) ∧ Ext W w')) (HF : Hid (∀ W g, Ext w W → Bx W g #[.string a, .string b] 26 → Calls Tryz.prog 11 #[.slice A n c, .slice (some ⟨g, 0, none⟩) 1 1] W fun e w' => e = .returned (.bool true) ∧ Ext W w')) (hx : x.size ≤ 12) (HH : Hid (∀ W, Ext w W → Calls Tryz.prog 27 #[.agg #[.string a, .string b], .string x] W fun e w' => e = .returned (.bool true) ∧ Ext W w')) (ha : x ≠ a) (hb : x ≠ b) (C D : Int) (c0 : 0 ≤ C) (d0 : 0 ≤ D) (hn : C + D < n) (n6 : n ≤ 6) (s : ByteArray) (hs : s ≠ ⟨#[48]⟩) (HC0 : Hid (∀ W, Ext w W → Calls Tryz.prog 15 #[.slice A n c, .agg #[.string a, .string b]] W fun e w' => e = .returned (.tuple #[.int .i64 (C + D), .int .i64 0]) ∧ Ext W w')) (HC1 : Hid (∀ W, Ext w W → Calls Tryz.prog 15 #[.slice A n c, .agg #[.string a, .string x]] W fun e w' => e = .returned (.tuple #[.int .i64 C, .int .i64 0]) ∧ Ext W w')) (HC2 : Hid (∀ W, Ext w W → Calls Tryz.prog 15 #[.slice A n c, .agg #[.string x, .string b]] W fun e w' => e = .returned (.tuple #[.int .i64 D, .int .i64 0]) ∧ Ext W w')) (HV : Hid (∀ W, Ext w W → Calls Tryz.prog 28 #[.slice A n c, .string x] W fun e w' => e = .returned (.tuple #[.string s, .int .i64 0]) ∧ Ext W w')) : Calls Tryz.prog 6 #[.slice A n c, .agg #[.string a, .string b], .string x] w fun e w' => e = .returned (.bool true) ∧ Ext w w' := by
  have hw : wrap64 (C + D) = C + D := wrapN (by omega)
  have t3 := txt0 hs
  have z1 : decide (C < 0) = false := decide_eq_false (by omega)
  have z2 : decide (D < 0) = false := decide_eq_false (by omega)
  have z3 : decide ((n : Int) ≤ C + D) = false := decide_eq_false (by omega)
  clear hs c0 d0 hn n6
  have hx2 : decide ((12 : Int) < (x.size : Int)) = false := decide_eq_false (by omega)
  have t1 := tl_ne ha
  have t2 := tl_ne hb
  clear ha hb
  have HE := Lib.hid (Ext.rfl' w)
  go_enter Tryz.func6, Tryz.ntmps6
  go_wp2_with fail
  have g0 := Bx.new w #[.string a, .string b] 26
  have hE := (Ext.rfl' w).al (.cells #[.string a, .string b] 26)
  replace g0 := Lib.hid g0
  generalize hWn : w.alloc (.cells #[.string a, .string b] 26) = W1 at *
  clear hWn
  generalize hb : w.heap.size = bHB at *
  clear hb
  replace HE := Lib.hid (HE.out.tr hE)
  clear hE
  have HB := g0
  clear g0
  refine (HA.out _ HE.out).mono ?_
  rintro e W2 ⟨rfl, hE⟩
  replace HE := Lib.hid (HE.out.tr hE)
  replace HB := Bx.hext HB hE
  clear hE
  obtain ⟨pHB0, pHB1, -, -⟩ := HB.out.e2
  go_wp2_with fail
  clear pHB0 pHB1
  have g0 := Bx.new W2 #[.string a, .string b] 26
  have hE := (Ext.rfl' W2).al (.cells #[.string a, .string b] 26)
  replace g0 := Lib.hid g0
  generalize hWn : W2.alloc (.cells #[.string a, .string b] 26) = W3 at *
  clear hWn
  generalize hb : W2.heap.size = bHF2 at *
  clear hb
  replace HE := Lib.hid (HE.out.tr hE)
  replace HB := Bx.hext HB hE
  clear hE
  have HF2 := g0
  clear g0
  refine (HF.out _ _ HE.out HF2.out).mono ?_
  rintro e W4 ⟨rfl, hE⟩
  replace HE := Lib.hid (HE.out.tr hE)
  replace HB := Bx.hext HB hE
  replace HF2 := Bx.hext HF2 hE
  clear hE
  clear HF2
  obtain ⟨pHB0, pHB1, -, -⟩ := HB.out.e2
  go_wp2_with fail
  clear pHB0 pHB1
  refine (HH.out _ HE.out).mono ?_
  rintro e W5 ⟨rfl, hE⟩
  replace HE := Lib.hid (HE.out.tr hE)
  replace HB := Bx.hext HB hE
  clear hE
  obtain ⟨pHB0, pHB1, -, -⟩ := HB.out.e2
  go_wp2_with fail
  clear pHB0 pHB1
  refine (HC0.out _ HE.out).mono ?_
  rintro e W6 ⟨rfl, hE⟩
  replace HE := Lib.hid (HE.out.tr hE)
  replace HB := Bx.hext HB hE
  clear hE
  obtain ⟨pHB0, pHB1, -, -⟩ := HB.out.e2
  go_wp2_with fail
  clear pHB0 pHB1
  refine (HC1.out _ HE.out).mono ?_
  rintro e W7 ⟨rfl, hE⟩
  replace HE := Lib.hid (HE.out.tr hE)
  replace HB := Bx.hext HB hE
  clear hE
  obtain ⟨pHB0, pHB1, -, -⟩ := HB.out.e2
  go_wp2_with fail
  clear pHB0 pHB1
  refine (HC2.out _ HE.out).mono ?_
  rintro e W8 ⟨rfl, hE⟩
  replace HE := Lib.hid (HE.out.tr hE)
  replace HB := Bx.hext HB hE
  clear hE
  go_wp2_with fail
  refine (HV.out _ HE.out).mono ?_
  rintro e W9 ⟨rfl, hE⟩
  replace HE := Lib.hid (HE.out.tr hE)
  replace HB := Bx.hext HB hE
  clear hE
  go_wp2_with fail
  go_ret
  exact ⟨rfl, HE.out⟩
set_option maxHeartbeats 400000 in
set_option maxRecDepth 400000 in
theorem adds_yesz (A : Option Addr) (n c : Nat) (a b x : ByteArray) (w : World) (HA : Hid (∀ W, Ext w W → Calls Tryz.prog 10 #[] W fun e w' => e = .returned (.bool true) ∧ Ext W w')) (HF : Hid (∀ W g, Ext w W → Bx W g #[.string a, .string b] 26 → Calls Tryz.prog 11 #[.slice A n c, .slice (some ⟨g, 0, none⟩) 1 1] W fun e w' => e = .returned (.bool true) ∧ Ext W w')) (hx : x.size ≤ 12) (HH : Hid (∀ W, Ext w W → Calls Tryz.prog 27 #[.agg #[.string a, .string b], .string x] W fun e w' => e = .returned (.bool true) ∧ Ext W w')) (ha : x ≠ a) (hb : x ≠ b) (C D : Int) (c0 : 0 ≤ C) (d0 : 0 ≤ D) (hn : C + D < n) (n6 : n ≤ 6) (s : ByteArray) (hs : s = ⟨#[48]⟩) (hC : s = ⟨#[48]⟩ → 0 < C) (HC0 : Hid (∀ W, Ext w W → Calls Tryz.prog 15 #[.slice A n c, .agg #[.string a, .string b]] W fun e w' => e = .returned (.tuple #[.int .i64 (C + D), .int .i64 0]) ∧ Ext W w')) (HC1 : Hid (∀ W, Ext w W → Calls Tryz.prog 15 #[.slice A n c, .agg #[.string a, .string x]] W fun e w' => e = .returned (.tuple #[.int .i64 C, .int .i64 0]) ∧ Ext W w')) (HC2 : Hid (∀ W, Ext w W → Calls Tryz.prog 15 #[.slice A n c, .agg #[.string x, .string b]] W fun e w' => e = .returned (.tuple #[.int .i64 D, .int .i64 0]) ∧ Ext W w')) (HV : Hid (∀ W, Ext w W → Calls Tryz.prog 28 #[.slice A n c, .string x] W fun e w' => e = .returned (.tuple #[.string s, .int .i64 0]) ∧ Ext W w')) : Calls Tryz.prog 6 #[.slice A n c, .agg #[.string a, .string b], .string x] w fun e w' => e = .returned (.bool true) ∧ Ext w w' := by
  have hw : wrap64 (C + D) = C + D := wrapN (by omega)
  have t3 := txt1 hs
  have c5 : 0 < C := hC hs
  have z1 : decide (C < 0) = false := decide_eq_false (by omega)
  have z2 : decide (D < 0) = false := decide_eq_false (by omega)
  have z3 : decide ((n : Int) ≤ C + D) = false := decide_eq_false (by omega)
  have z4 : decide (0 < C) = true := decide_eq_true c5
  clear hC c5
  clear hs c0 d0 hn n6
  have hx2 : decide ((12 : Int) < (x.size : Int)) = false := decide_eq_false (by omega)
  have t1 := tl_ne ha
  have t2 := tl_ne hb
  clear ha hb
  have HE := Lib.hid (Ext.rfl' w)
  go_enter Tryz.func6, Tryz.ntmps6
  go_wp2_with fail
  have g0 := Bx.new w #[.string a, .string b] 26
  have hE := (Ext.rfl' w).al (.cells #[.string a, .string b] 26)
  replace g0 := Lib.hid g0
  generalize hWn : w.alloc (.cells #[.string a, .string b] 26) = W1 at *
  clear hWn
  generalize hb : w.heap.size = bHB at *
  clear hb
  replace HE := Lib.hid (HE.out.tr hE)
  clear hE
  have HB := g0
  clear g0
  refine (HA.out _ HE.out).mono ?_
  rintro e W2 ⟨rfl, hE⟩
  replace HE := Lib.hid (HE.out.tr hE)
  replace HB := Bx.hext HB hE
  clear hE
  obtain ⟨pHB0, pHB1, -, -⟩ := HB.out.e2
  go_wp2_with fail
  clear pHB0 pHB1
  have g0 := Bx.new W2 #[.string a, .string b] 26
  have hE := (Ext.rfl' W2).al (.cells #[.string a, .string b] 26)
  replace g0 := Lib.hid g0
  generalize hWn : W2.alloc (.cells #[.string a, .string b] 26) = W3 at *
  clear hWn
  generalize hb : W2.heap.size = bHF2 at *
  clear hb
  replace HE := Lib.hid (HE.out.tr hE)
  replace HB := Bx.hext HB hE
  clear hE
  have HF2 := g0
  clear g0
  refine (HF.out _ _ HE.out HF2.out).mono ?_
  rintro e W4 ⟨rfl, hE⟩
  replace HE := Lib.hid (HE.out.tr hE)
  replace HB := Bx.hext HB hE
  replace HF2 := Bx.hext HF2 hE
  clear hE
  clear HF2
  obtain ⟨pHB0, pHB1, -, -⟩ := HB.out.e2
  go_wp2_with fail
  clear pHB0 pHB1
  refine (HH.out _ HE.out).mono ?_
  rintro e W5 ⟨rfl, hE⟩
  replace HE := Lib.hid (HE.out.tr hE)
  replace HB := Bx.hext HB hE
  clear hE
  obtain ⟨pHB0, pHB1, -, -⟩ := HB.out.e2
  go_wp2_with fail
  clear pHB0 pHB1
  refine (HC0.out _ HE.out).mono ?_
  rintro e W6 ⟨rfl, hE⟩
  replace HE := Lib.hid (HE.out.tr hE)
  replace HB := Bx.hext HB hE
  clear hE
  obtain ⟨pHB0, pHB1, -, -⟩ := HB.out.e2
  go_wp2_with fail
  clear pHB0 pHB1
  refine (HC1.out _ HE.out).mono ?_
  rintro e W7 ⟨rfl, hE⟩
  replace HE := Lib.hid (HE.out.tr hE)
  replace HB := Bx.hext HB hE
  clear hE
  obtain ⟨pHB0, pHB1, -, -⟩ := HB.out.e2
  go_wp2_with fail
  clear pHB0 pHB1
  refine (HC2.out _ HE.out).mono ?_
  rintro e W8 ⟨rfl, hE⟩
  replace HE := Lib.hid (HE.out.tr hE)
  replace HB := Bx.hext HB hE
  clear hE
  go_wp2_with fail
  refine (HV.out _ HE.out).mono ?_
  rintro e W9 ⟨rfl, hE⟩
  replace HE := Lib.hid (HE.out.tr hE)
  replace HB := Bx.hext HB hE
  clear hE
  go_wp2_with fail
  go_ret
  exact ⟨rfl, HE.out⟩
end Go.Proofs.YtadimepmoljnpaaGreatDoor.GB

namespace Go.Proofs.YtadimepmoljnpaaGreatDoor.GB
set_option linter.unusedVariables false
set_option linter.unusedSimpArgs false
open Go.RowKit Go.Shelf
attribute [local go_sem ↓] Go.wp_at_zero Go.wp_at_succ
attribute [local go_sem] Oper.semAt_some
set_option maxHeartbeats 4000000 in
set_option maxRecDepth 100000 in
theorem has_iv (s t x : ByteArray) (w : World) (hv : IVA (.agg #[.string s, .string t]) false w) : Calls Tryz.prog 27 #[.agg #[.string s, .string t], .string x] w fun e w' => e = .returned (.bool false) ∧ Ext w w' := by
  have b3 := Bx.new w #[.string s, .string t] 26
  have E0 := (Ext.rfl' w).al (.cells #[.string s, .string t] 26)
  obtain ⟨c0, c1, -, -⟩ := b3.e2
  go_enter Tryz.func27, Tryz.ntmps27
  go_wp2_with fail
  generalize w.alloc (.cells #[.string s, .string t] 26) = W0 at *
  refine (hv _ E0).mono ?_
  rintro e w1 ⟨rfl, hE⟩
  replace b3 := b3.ext hE
  have E1 := E0.tr hE
  clear hE c0 c1
  obtain ⟨c0, c1, -, -⟩ := b3.e2
  go_wp2_with fail
  go_ret
  exact ⟨rfl, E1⟩
theorem sch_len2 : ∀ (f : Nat) (a b : Pl), Tr b → b.length < a.length → (sch f a b).length ≤ a.length
  | 0, a, b, _, _ => Nat.zero_le _
  | f + 1, a, b, tb, h => by
    have ha : a ≠ [] := fun e => by rw [e] at h; exact absurd h (Nat.not_lt_zero _)
    by_cases hb : b = []
    · subst hb
      rw [sch_last ha]
      show 1 ≤ a.length
      omega
    · obtain ⟨q, t, hd⟩ := div_ex (p := a) tb hb
      rw [sch_step ha tb hd, List.length_cons]
      have h2 : (pneg t).length < b.length := by rw [show (pneg t).length = t.length by simp [pneg, psc]]; exact hd.lt
      have h3 : Tr (pneg t) := tr_pneg hd.trt
      have := sch_len2 f b (pneg t) h3 h2
      omega
theorem chgs_lt (l : List Pl) (x : Rat) (h : l ≠ []) : (chgs l x).2 < l.length := by
  obtain ⟨a, l, rfl⟩ := List.exists_cons_of_ne_nil h
  have h1 : ∀ (m : List Int) (s : Int × Int), (m.foldl chg s).2 ≤ s.2 + m.length := by
    intro m
    induction m with
    | nil => intro s; simp
    | cons y m ih =>
      intro s
      have := ih (chg s y)
      have h2 : (chg s y).2 ≤ s.2 + 1 := by
        unfold chg
        split
        · omega
        · dsimp only; split <;> omega
      simp only [List.foldl_cons, List.length_cons]
      push_cast
      omega
  unfold chgs
  have h3 := h1 (l.map (sgnAt x)) (chg (0, 0) (sgnAt x a))
  have h4 : (chg (0, 0) (sgnAt x a)).2 = 0 := by
    unfold chg
    by_cases h0 : sgnAt x a = 0
    · rw [if_pos h0]
    · rw [if_neg h0]
      show (if sgnAt x a = -0 then _ else _) = _
      rw [if_neg (by omega)]
  simp only [List.map_cons, List.foldl_cons, List.length_map, List.length_cons] at h3 ⊢
  push_cast
  omega
theorem cnt_lt {s : Pl} (ts : Tr s) (hs : s ≠ []) (a b : Rat) : cntP s a b < s.length := by
  have hl : (chainP s).length ≤ s.length := by
    unfold chainP
    refine sch_len2 _ _ _ (pder_tr ts) ?_
    rw [pder_len]
    have := List.length_pos_iff.2 hs
    omega
  have h1 := chgs_lt (chainP s) a (fun e => by have := chain_ne hs; rw [e] at this; exact absurd this (by decide))
  have h2 := chgs_le (chainP s) b
  unfold cntP
  omega
theorem few9_txt {l : List ByteArray} (h : few9 l = true) : ∀ s ∈ l, s.size ≤ 8 := by
  unfold few9 at h
  rw [Bool.and_eq_true] at h
  intro s hs
  have := List.all_eq_true.1 h.1 s hs
  simpa using this
theorem few9_len {l : List ByteArray} (h : few9 l = true) (h2 : l.length ≤ 17) : l.length ≤ 6 := by
  unfold few9 at h
  rw [Bool.and_eq_true] at h
  have := h.2
  simp at this
  omega
theorem po_few9 {w : World} {v : Value} {p : Pl} (h : SlS w v (p.map rb)) (tp : Tr p) (hl : p.length ≤ 17) (hs : few9 (p.map rb) = true) : PO w v p 32 := by
  refine ⟨h, fun q hq => ?_, tp, hl⟩
  exact bd_size q 8 (few9_txt hs (rb q) (List.mem_map_of_mem hq))
/-- What the checks of the laws lead to. -/
theorem sb_few9 {l : List ByteArray} (h : few9 l = true) : SB l := fun s hs => Nat.le_trans (few9_txt h s hs) (by decide)
end Go.Proofs.YtadimepmoljnpaaGreatDoor.GB

namespace Go.Proofs.YtadimepmoljnpaaGreatDoor.GB
set_option linter.unusedVariables false
set_option linter.unusedSimpArgs false
open Go.RowKit Go.Shelf
attribute [local go_sem ↓] Go.wp_at_zero Go.wp_at_succ
/-- What a law knows of its polynomial and its range, where the checks are passed. -/
theorem sc_few {v : Value} {p : Pl} {x y : Rat} {w : World} (hW : Wd w) (h : SlS w v (p.map rb)) (tp : Tr p) (hl : p.length ≤ 17) (hf : few9 (p.map rb) = true) (hp : p ≠ []) (hxy : x < y) (hx : (rb x).size ≤ 10000) (hy : (rb y).size ≤ 10000) : ∃ s, SQ p s ∧ ∀ W, Ext w W → ∀ X Y : Rat, X < Y → (rb X).size ≤ 10000 → (rb Y).size ≤ 10000 → SC v p s X Y 40000 W := by
  have h6 : p.length ≤ 6 := by have := few9_len hf (by simpa using hl); simpa using this
  have hpo := po_few9 h tp hl hf
  obtain ⟨s, hs⟩ := sq_ex v p w hW hpo h6 hp
  refine ⟨s, hs, fun W hE X Y hXY hX hY => ?_⟩
  exact ⟨hW.ext hE, hpo.ext hE, h6, hp, hs.sp', hXY, bd_size X 10000 hX, bd_size Y 10000 hY, by decide, ck_ok v p W (hW.ext hE) (hpo.ext hE) (sb_few9 hf) X Y hXY hX hY⟩
theorem SC.cnt {v : Value} {p s : Pl} {x y : Rat} {n : Nat} {w : World} (c : SC v p s x y n w) (hl : s.length ≤ p.length) (a b : Rat) : cntP s a b < p.length := by
  obtain ⟨-, -, -, -, h1, h2⟩ := simp_all c.h.2.2.1 c.hp c.hS
  have := cnt_lt h2 h1 a b
  omega
theorem few_1 (v : Value) (l : List ByteArray) (a b : ByteArray) (w : World) (h1 : SlS w v l) (za : a.size ≤ 140737488351232) (zb : b.size ≤ 140737488351232) (r : Bool) (hr : (few9 l && decide (a.size + b.size ≤ 24)) = r) :
    Hid (∀ W g, Ext w W → Bx W g #[.string a, .string b] 26 → Calls Tryz.prog 11 #[v, .slice (some ⟨g, 0, none⟩) 1 1] W fun e w' => e = .returned (.bool r) ∧ Ext W w') := fun W g hE hB => by
  obtain ⟨c0, c1, -, -⟩ := hB.e2
  have h := few_v9 v l g 1 a b W (h1.ext hE) c0 c1 za zb
  rwa [hr] at h
theorem adds_v (v : Value) (l : List ByteArray) (a b x : ByteArray) (w : World) (hW : Wd w) (h1 : SlS w v l) (za : a.size ≤ 140737488351232) (zb : b.size ≤ 140737488351232) : Calls Tryz.prog 6 #[v, .agg #[.string a, .string b], .string x] w fun e w' => e = .returned (.bool true) ∧ Ext w w' := by
  obtain ⟨A, c, rfl⟩ := h1.slc
  have HA : Hid (∀ W, Ext w W → Calls Tryz.prog 10 #[] W fun e w' => e = .returned (.bool true) ∧ Ext W w') := fun W hE => awake_v W (hW.ext hE)
  have HF := few_1 _ l a b w h1 za zb
  cases hf : (few9 l && decide (a.size + b.size ≤ 24))
  · exact adds_few A _ c a b x w HA (HF _ hf)
  · have HF := HF _ hf
    rw [Bool.and_eq_true, decide_eq_true_eq] at hf
    obtain ⟨hf, hab⟩ := hf
    by_cases hx : 12 < x.size
    · exact adds_long A _ c a b x w HA HF hx
    · have hx := Nat.not_lt.1 hx
      cases hi : ivB a b
      · exact adds_has A _ c a b x w HA HF hx fun W hE => has_iv a b x W (by have := iva_any a b W (hW.ext hE) (by omega) (by omega); rwa [hi] at this)
      · obtain ⟨I1, I2, rfl, rfl, hI⟩ := ivB_yes hi
        have d1 := bd_size I1 10000 (by omega)
        have d2 := bd_size I2 10000 (by omega)
        cases hr : ratB x.data.toList
        · exact adds_has A _ c _ _ x w HA HF hx fun W hE => has_no I1 I2 x W (hW.ext hE) d1 d2 hI (by omega) hr
        · obtain ⟨X, hX⟩ := ratB_t hr
          obtain rfl : x = rb X := list_of hX
          have dX := bd_size X 10000 (by omega)
          by_cases hin : I1 ≤ X ∧ X ≤ I2
          · have HH : Hid (∀ W, Ext w W → Calls Tryz.prog 27 #[.agg #[.string (rb I1), .string (rb I2)], .string (rb X)] W fun e w' => e = .returned (.bool true) ∧ Ext W w') := fun W hE => by have h := has_q I1 I2 X W (hW.ext hE) d1 d2 dX hI; rwa [decide_eq_true hin] at h
            by_cases e1 : rb X = rb I1
            · exact adds_xa A _ c _ _ _ w HA HF hx HH e1
            · by_cases e2 : rb X = rb I2
              · exact adds_xb A _ c _ _ _ w HA HF hx HH e1 e2
              · have l1 : I1 < X := by
                  have : I1 ≠ X := fun e => e1 (by rw [e])
                  grind
                have l2 : X < I2 := by
                  have : I2 ≠ X := fun e => e2 (by rw [e])
                  grind
                have hCK := ck_v (.slice A l.length c) l (rb I1) (rb I2) w hW h1 (sb_few9 hf) (by omega) (by omega)
                cases hb : polB l
                · have e : chk l (rb I1) (rb I2) = 1 := by unfold chk; rw [hb]; rfl
                  rw [e] at hCK
                  exact adds_err A _ c _ _ _ w HA HF hx HH e1 e2 1 (by decide) fun W hE => sCount_no _ _ _ 1 W (fun W' hE' => hCK W' (hE.tr hE')) (by decide)
                · obtain ⟨p, rfl, tp, lp⟩ := (polB_iff l).1 hb
                  rw [chk_ok tp lp (by grind)] at hCK
                  by_cases hp : p = []
                  · subst hp
                    exact adds_err A _ c _ _ _ w HA HF hx HH e1 e2 16 (by decide) fun W hE => sCount_zero _ _ _ _ W (fun W' hE' => hCK W' (hE.tr hE'))
                  · obtain ⟨s, hs, hsc⟩ := sc_few hW h1 tp lp hf hp (show I1 < I2 by grind) (by omega) (by omega)
                    have S0 := hsc w (Ext.rfl' w) I1 I2 (by grind) (by omega) (by omega)
                    obtain ⟨ta, hz, -⟩ := simp_all tp hp hs.sp'
                    have e12 : cntP s I1 I2 = cntP s I1 X + cntP s X I2 := by simp only [cntP_v]; omega
                    have c1 : 0 ≤ cntP s I1 X := by have := ta.mono (show I1 ≤ X by grind); rw [cntP_v]; omega
                    have c2 : 0 ≤ cntP s X I2 := by have := ta.mono (show X ≤ I2 by grind); rw [cntP_v]; omega
                    have hlt := S0.cnt hs.len I1 I2
                    have h6 := S0.hl
                    have HC0 : Hid (∀ W, Ext w W → Calls Tryz.prog 15 #[.slice A (p.map rb).length c, .agg #[.string (rb I1), .string (rb I2)]] W fun e w' => e = .returned (.tuple #[.int .i64 (cntP s I1 X + cntP s X I2), .int .i64 0]) ∧ Ext W w') := fun W hE => by
                      have h := (hsc W hE I1 I2 (by grind) (by omega) (by omega)).Count_s
                      rw [e12] at h
                      exact h
                    have HC1 : Hid (∀ W, Ext w W → Calls Tryz.prog 15 #[.slice A (p.map rb).length c, .agg #[.string (rb I1), .string (rb X)]] W fun e w' => e = .returned (.tuple #[.int .i64 (cntP s I1 X), .int .i64 0]) ∧ Ext W w') := fun W hE => (hsc W hE I1 X l1 (by omega) (by omega)).Count_s
                    have HC2 : Hid (∀ W, Ext w W → Calls Tryz.prog 15 #[.slice A (p.map rb).length c, .agg #[.string (rb X), .string (rb I2)]] W fun e w' => e = .returned (.tuple #[.int .i64 (cntP s X I2), .int .i64 0]) ∧ Ext W w') := fun W hE => (hsc W hE X I2 l2 (by omega) (by omega)).Count_s
                    have HV : Hid (∀ W, Ext w W → Calls Tryz.prog 28 #[.slice A (p.map rb).length c, .string (rb X)] W fun e w' => e = .returned (.tuple #[.string (rb (pev p X)), .int .i64 0]) ∧ Ext W w') := fun W hE => (Eval_w _ p X 40000 W (hW.ext hE) (S0.h.ext hE) dX (by decide)).out W (Ext.rfl' W)
                    by_cases hs0 : rb (pev p X) = ⟨#[48]⟩
                    · refine adds_yesz A _ c _ _ _ w HA HF hx HH e1 e2 _ _ c1 c2 (by rw [List.length_map]; omega) (by rw [List.length_map]; exact h6) _ hs0 (fun _ => ?_) HC0 HC1 HC2 HV
                      have hv : pev p X = 0 := by
                        rw [← rb0] at hs0
                        exact rtext_inj (by have := congrArg (fun s : ByteArray => s.data.toList) hs0; simpa [rb] using this)
                      have := ta.root l1 ((hz X).1 hv)
                      rw [cntP_v]; omega
                    · exact adds_yess A _ c _ _ _ w HA HF hx HH e1 e2 _ _ c1 c2 (by rw [List.length_map]; omega) (by rw [List.length_map]; exact h6) _ hs0 HC0 HC1 HC2 HV
          · exact adds_has A _ c _ _ _ w HA HF hx fun W hE => by have h := has_q I1 I2 X W (hW.ext hE) d1 d2 dX hI; rwa [decide_eq_false hin] at h
end Go.Proofs.YtadimepmoljnpaaGreatDoor.GB
