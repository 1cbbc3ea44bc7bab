import Derived.Test.YtadimepmoljnpaaGreatDoorCUm
namespace Go.Proofs.YtadimepmoljnpaaGreatDoor.GB
set_option linter.unusedVariables false
set_option linter.unusedSimpArgs false
open Go.RowKit Go.Shelf
attribute [local go_sem ↓] Go.wp_at_zero Go.wp_at_succ
/-- The error of a number of halvings. -/
def hvE (k : Int) : Int := if 0 ≤ k ∧ k ≤ 24 then 0 else 2
def RetIL (k : Int) (l : List V2) (w : World) (e : Ending) (w' : World) : Prop := ∃ v, e = .returned (.tuple #[v, .int .i64 k]) ∧ LI w' v l ∧ Ext w w'
theorem LI.nil (w : World) : LI w (.slice none 0 0) [] := ⟨none, 0, rfl, Nat.le_refl _, by decide, fun j h => by cases h⟩
set_option maxHeartbeats 8000000 in
set_option maxRecDepth 200000 in
theorem sIso_range (A : Option Addr) (n cc : Nat) (a b : ByteArray) (k : Int) (w : World) (h : CK (.slice A n cc) a b 0 w) (hn : n ≠ 0) (hk : hvE k = 2) : Calls Tryz.prog 20 #[.slice A n cc, .agg #[.string a, .string b], .int .i64 k] w (RetIL 2 [] w) := by
  have HC := Lib.hid h
  have z : ((n : Int) == 0) = false := beq_eq_false_iff_ne.2 (by omega)
  have HH : Hid (∀ W, Calls Tryz.prog 55 #[.int .i64 k] W fun e w' => e = .returned (.int .i64 (hvE k)) ∧ Ext W w') := fun W => shalv_v k W
  rw [hk] at HH
  clear h hn hk
  have b1 := (Bx.new w #[.string a, .string b] 26)
  have E0 := (Ext.rfl' w).al (.cells #[.string a, .string b] 26)
  go_enter Tryz.func20, Tryz.ntmps20
  go_wp2_with fail
  generalize (w.alloc (.cells #[.string a, .string b] 26)) = W0 at *
  refine (HC.out _ E0).mono ?_
  rintro e w1 ⟨rfl, hE⟩
  replace b1 := b1.ext hE
  replace E0 := E0.tr hE
  obtain ⟨c0, c1, -, -⟩ := b1.e2
  clear hE HC
  go_wp2_with fail
  refine (HH.out _).mono ?_
  rintro e w2 ⟨rfl, hE⟩
  replace b1 := b1.ext hE
  replace E0 := E0.tr hE
  obtain ⟨c0, c1, -, -⟩ := b1.e2
  clear hE HH
  go_wp2_with fail
  go_ret2
  exact ⟨_, rfl, LI.nil _, E0⟩
set_option maxHeartbeats 8000000 in
set_option maxRecDepth 200000 in
theorem sIso_bt (A : Option Addr) (n cc : Nat) (a b : ByteArray) (k : Int) (s : Pl) (l : List V2) (w : World) (h : CK (.slice A n cc) a b 0 w) (hn : n ≠ 0) (hk : hvE k = 0)
    (HS : Hid (∀ W, Ext w W → Calls Tryz.prog 44 #[.slice A n cc] W fun e w' => ∃ v, e = .returned v ∧ PS w' v s ∧ Ext W w'))
    (HI : Hid (∀ W u, Ext w W → PS W u s → Calls Tryz.prog 56 #[u, .agg #[.string a, .string b], .int .i64 k] W fun e w' => ∃ v, e = .returned (.tuple #[v, .bool true]) ∧ OwnI w' W.heap.size v l ∧ Ext W w')) :
    Calls Tryz.prog 20 #[.slice A n cc, .agg #[.string a, .string b], .int .i64 k] w (RetIL 0 l w) := by
  have HC := Lib.hid h
  have z : ((n : Int) == 0) = false := beq_eq_false_iff_ne.2 (by omega)
  have HH : Hid (∀ W, Calls Tryz.prog 55 #[.int .i64 k] W fun e w' => e = .returned (.int .i64 (hvE k)) ∧ Ext W w') := fun W => shalv_v k W
  rw [hk] at HH
  clear h hn hk
  have b1 := (Bx.new w #[.string a, .string b] 26)
  have E0 := (Ext.rfl' w).al (.cells #[.string a, .string b] 26)
  go_enter Tryz.func20, Tryz.ntmps20
  go_wp2_with fail
  generalize (w.alloc (.cells #[.string a, .string b] 26)) = W0 at *
  refine (HC.out _ E0).mono ?_
  rintro e w1 ⟨rfl, hE⟩
  replace b1 := b1.ext hE
  replace E0 := E0.tr hE
  obtain ⟨c0, c1, -, -⟩ := b1.e2
  clear hE HC
  go_wp2_with fail
  refine (HH.out _).mono ?_
  rintro e w2 ⟨rfl, hE⟩
  replace b1 := b1.ext hE
  replace E0 := E0.tr hE
  obtain ⟨c0, c1, -, -⟩ := b1.e2
  clear hE HH
  go_wp2_with fail
  have d0 : w2.drew.cell? ⟨w.heap.size, 0, none⟩ = some (.string a) := c0
  have d1 : w2.drew.cell? ⟨w.heap.size, 1, none⟩ = some (.string b) := c1
  go_region_held3 (fun w' => w'.cell? ⟨w.heap.size, 0, none⟩ = some (.string a) ∧ w'.cell? ⟨w.heap.size, 1, none⟩ = some (.string b)) (((try dsimp only); (repeat' apply And.intro) <;> (first | (with_reducible assumption) | ((go_keep); done))))
    (first
      | (go_at_call 44; (with_reducible refine (HS.out _ E0.dr).mono ?_); rintro e w3 ⟨u, rfl, hu, hE⟩; have HU := Lib.hid hu; have E3 := E0.dr.tr hE; have k0 := Ext.cell hE d0; have k1 := Ext.cell hE d1; clear hu hE)
      | (go_at_call 56; (with_reducible refine (HI.out _ _ E3 HU.out).mono ?_); rintro e w4 ⟨vl, rfl, hl, hE⟩; have HL := Lib.hid hl; have E4 := E3.tr hE; have r0 := Ext.cell hE k0; have r1 := Ext.cell hE k1; clear hE hl))
  all_goals
    go_wp2_with fail
    go_ret2
    exact ⟨_, rfl, HL.out.li, E4⟩
set_option maxHeartbeats 8000000 in
set_option maxRecDepth 200000 in
theorem sIso_bf (A : Option Addr) (n cc : Nat) (a b : ByteArray) (k : Int) (s : Pl) (l : List V2) (w : World) (h : CK (.slice A n cc) a b 0 w) (hn : n ≠ 0) (hk : hvE k = 0)
    (HS : Hid (∀ W, Ext w W → Calls Tryz.prog 44 #[.slice A n cc] W fun e w' => ∃ v, e = .returned v ∧ PS w' v s ∧ Ext W w'))
    (HI : Hid (∀ W u, Ext w W → PS W u s → Calls Tryz.prog 56 #[u, .agg #[.string a, .string b], .int .i64 k] W fun e w' => ∃ v, e = .returned (.tuple #[v, .bool false]) ∧ OwnI w' W.heap.size v l ∧ Ext W w')) :
    Calls Tryz.prog 20 #[.slice A n cc, .agg #[.string a, .string b], .int .i64 k] w (RetIL 15 [] w) := by
  have HC := Lib.hid h
  have z : ((n : Int) == 0) = false := beq_eq_false_iff_ne.2 (by omega)
  have HH : Hid (∀ W, Calls Tryz.prog 55 #[.int .i64 k] W fun e w' => e = .returned (.int .i64 (hvE k)) ∧ Ext W w') := fun W => shalv_v k W
  rw [hk] at HH
  clear h hn hk
  have b1 := (Bx.new w #[.string a, .string b] 26)
  have E0 := (Ext.rfl' w).al (.cells #[.string a, .string b] 26)
  go_enter Tryz.func20, Tryz.ntmps20
  go_wp2_with fail
  generalize (w.alloc (.cells #[.string a, .string b] 26)) = W0 at *
  refine (HC.out _ E0).mono ?_
  rintro e w1 ⟨rfl, hE⟩
  replace b1 := b1.ext hE
  replace E0 := E0.tr hE
  obtain ⟨c0, c1, -, -⟩ := b1.e2
  clear hE HC
  go_wp2_with fail
  refine (HH.out _).mono ?_
  rintro e w2 ⟨rfl, hE⟩
  replace b1 := b1.ext hE
  replace E0 := E0.tr hE
  obtain ⟨c0, c1, -, -⟩ := b1.e2
  clear hE HH
  go_wp2_with fail
  have d0 : w2.drew.cell? ⟨w.heap.size, 0, none⟩ = some (.string a) := c0
  have d1 : w2.drew.cell? ⟨w.heap.size, 1, none⟩ = some (.string b) := c1
  go_region_held3 (fun w' => w'.cell? ⟨w.heap.size, 0, none⟩ = some (.string a) ∧ w'.cell? ⟨w.heap.size, 1, none⟩ = some (.string b)) (((try dsimp only); (repeat' apply And.intro) <;> (first | (with_reducible assumption) | ((go_keep); done))))
    (first
      | (go_at_call 44; (with_reducible refine (HS.out _ E0.dr).mono ?_); rintro e w3 ⟨u, rfl, hu, hE⟩; have HU := Lib.hid hu; have E3 := E0.dr.tr hE; have k0 := Ext.cell hE d0; have k1 := Ext.cell hE d1; clear hu hE)
      | (go_at_call 56; (with_reducible refine (HI.out _ _ E3 HU.out).mono ?_); rintro e w4 ⟨vl, rfl, hl, hE⟩; have HL := Lib.hid hl; have E4 := E3.tr hE; have r0 := Ext.cell hE k0; have r1 := Ext.cell hE k1; clear hE hl))
  all_goals
    go_wp2_with fail
    go_ret2
    exact ⟨_, rfl, LI.nil _, E4⟩
def RetIv0 (k : Int) (x y : ByteArray) (w : World) (e : Ending) (w' : World) : Prop := e = .returned (.tuple #[.agg #[.string x, .string y], .int .i64 k]) ∧ Ext w w'
set_option maxHeartbeats 8000000 in
set_option maxRecDepth 200000 in
theorem sNar_no (v : Value) (a b : ByteArray) (k : Int) (c : Int) (w : World) (h : CK v a b c w) (hc : c ≠ 0) : Calls Tryz.prog 22 #[v, .agg #[.string a, .string b], .int .i64 k] w (RetIv0 c ⟨#[]⟩ ⟨#[]⟩ w) := by
  have HC := Lib.hid h
  have z : (c == 0) = false := beq_eq_false_iff_ne.2 hc
  clear h hc
  obtain ⟨X1, X2, E0⟩ := boxes2 w #[.string a, .string b] #[.string ⟨#[]⟩, .string ⟨#[]⟩] 26
  go_enter Tryz.func22, Tryz.ntmps22
  go_wp2_with fail
  generalize (w.alloc (.cells #[.string a, .string b] 26)).alloc (.cells #[.string ⟨#[]⟩, .string ⟨#[]⟩] 26) = W0 at *
  refine (HC.out _ E0).mono ?_
  rintro e w1 ⟨rfl, hE⟩
  replace X1 := X1.ext hE
  replace X2 := X2.ext hE
  replace E0 := E0.tr hE
  have c0 := X1.c0
  have c1 := X1.c1
  have g0 := X2.c0
  have g1 := X2.c1
  have f0 := X2.f 0
  have f1 := X2.f 1
  clear hE HC
  go_wp2_with fail
  obtain ⟨d0', d1'⟩ := set2 X2 (.string ⟨#[]⟩) (.string ⟨#[]⟩)
  refine bodyPost_ret (v := .tuple #[.agg #[(.string ⟨#[]⟩), (.string ⟨#[]⟩)], .int .i64 c]) ?_ rfl ⟨rfl, ext_set2 (b := w.heap.size + 1) E0 (by omega) _ _⟩
  simp [results, Tryz.f22, go_sem, d0', d1']
set_option maxHeartbeats 8000000 in
set_option maxRecDepth 200000 in
theorem sNar_bt (A : Option Addr) (n cc : Nat) (a b : ByteArray) (k : Int) (s : Pl) (x y : ByteArray) (w : World) (h : CK (.slice A n cc) a b 0 w) (hn : n ≠ 0) (hk : hvE k = 0) 
    (HS : Hid (∀ W, Ext w W → Calls Tryz.prog 44 #[.slice A n cc] W fun e w' => ∃ v, e = .returned v ∧ PS w' v s ∧ Ext W w'))
    (HN : Hid (∀ W u, Ext w W → PS W u s → Calls Tryz.prog 49 #[u, .string a, .string b] W fun e w' => e = .returned (.int .i64 1) ∧ Ext W w'))
    (HW : Hid (∀ W u, Ext w W → PS W u s → Calls Tryz.prog 60 #[u, .agg #[.string a, .string b], .int .i64 k] W fun e w' => e = .returned (.agg #[.string x, .string y]) ∧ Ext W w')) :
    Calls Tryz.prog 22 #[.slice A n cc, .agg #[.string a, .string b], .int .i64 k] w (RetIv0 0 x y w) := by
  have HC := Lib.hid h
  have z : ((n : Int) == 0) = false := beq_eq_false_iff_ne.2 (by omega)
  have HH : Hid (∀ W, Calls Tryz.prog 55 #[.int .i64 k] W fun e w' => e = .returned (.int .i64 (hvE k)) ∧ Ext W w') := fun W => shalv_v k W
  rw [hk] at HH
  clear h hn hk
  obtain ⟨X1, X2, E0⟩ := boxes2 w #[.string a, .string b] #[.string ⟨#[]⟩, .string ⟨#[]⟩] 26
  go_enter Tryz.func22, Tryz.ntmps22
  go_wp2_with fail
  generalize (w.alloc (.cells #[.string a, .string b] 26)).alloc (.cells #[.string ⟨#[]⟩, .string ⟨#[]⟩] 26) = W0 at *
  refine (HC.out _ E0).mono ?_
  rintro e w1 ⟨rfl, hE⟩
  replace X1 := X1.ext hE
  replace X2 := X2.ext hE
  replace E0 := E0.tr hE
  have c0 := X1.c0
  have c1 := X1.c1
  have g0 := X2.c0
  have g1 := X2.c1
  have f0 := X2.f 0
  have f1 := X2.f 1
  clear hE HC
  go_wp2_with fail
  refine (HH.out _).mono ?_
  rintro e w2 ⟨rfl, hE⟩
  replace X1 := X1.ext hE
  replace X2 := X2.ext hE
  replace E0 := E0.tr hE
  have c0 := X1.c0
  have c1 := X1.c1
  have g0 := X2.c0
  have g1 := X2.c1
  have f0 := X2.f 0
  have f1 := X2.f 1
  clear hE HH
  go_wp2_with fail
  refine (HS.out _ E0).mono ?_
  rintro e w3 ⟨u, rfl, hu, hE⟩
  replace X1 := X1.ext hE
  replace X2 := X2.ext hE
  replace E0 := E0.tr hE
  have c0 := X1.c0
  have c1 := X1.c1
  have g0 := X2.c0
  have g1 := X2.c1
  have f0 := X2.f 0
  have f1 := X2.f 1
  have HU := Lib.hid hu
  clear hE HS hu
  go_wp2_with fail
  refine (HN.out _ _ E0 HU.out).mono ?_
  rintro e w4 ⟨rfl, hE⟩
  replace X1 := X1.ext hE
  replace X2 := X2.ext hE
  replace E0 := E0.tr hE
  have c0 := X1.c0
  have c1 := X1.c1
  have g0 := X2.c0
  have g1 := X2.c1
  have f0 := X2.f 0
  have f1 := X2.f 1
  replace HU := Lib.hid (HU.out.ext hE)
  clear hE HN
  go_wp2_with fail
  refine (HW.out _ _ E0 HU.out).mono ?_
  rintro e w5 ⟨rfl, hE⟩
  replace X1 := X1.ext hE
  replace X2 := X2.ext hE
  replace E0 := E0.tr hE
  have c0 := X1.c0
  have c1 := X1.c1
  have g0 := X2.c0
  have g1 := X2.c1
  have f0 := X2.f 0
  have f1 := X2.f 1
  clear hE HW
  go_wp2_with fail
  obtain ⟨d0', d1'⟩ := set2 X2 (.string x) (.string y)
  refine bodyPost_ret (v := .tuple #[.agg #[(.string x), (.string y)], .int .i64 0]) ?_ rfl ⟨rfl, ext_set2 (b := w.heap.size + 1) E0 (by omega) _ _⟩
  simp [results, Tryz.f22, go_sem, d0', d1']
set_option maxHeartbeats 8000000 in
set_option maxRecDepth 200000 in
theorem sNar_bf (A : Option Addr) (n cc : Nat) (a b : ByteArray) (k : Int) (s : Pl) (m : Int) (w : World) (h : CK (.slice A n cc) a b 0 w) (hn : n ≠ 0) (hk : hvE k = 0) (hm : m ≠ 1)
    (HS : Hid (∀ W, Ext w W → Calls Tryz.prog 44 #[.slice A n cc] W fun e w' => ∃ v, e = .returned v ∧ PS w' v s ∧ Ext W w'))
    (HN : Hid (∀ W u, Ext w W → PS W u s → Calls Tryz.prog 49 #[u, .string a, .string b] W fun e w' => e = .returned (.int .i64 m) ∧ Ext W w'))
     :
    Calls Tryz.prog 22 #[.slice A n cc, .agg #[.string a, .string b], .int .i64 k] w (RetIv0 11 ⟨#[]⟩ ⟨#[]⟩ w) := by
  have HC := Lib.hid h
  have z : ((n : Int) == 0) = false := beq_eq_false_iff_ne.2 (by omega)
  have HH : Hid (∀ W, Calls Tryz.prog 55 #[.int .i64 k] W fun e w' => e = .returned (.int .i64 (hvE k)) ∧ Ext W w') := fun W => shalv_v k W
  rw [hk] at HH
  have zm : (m == 1) = false := beq_eq_false_iff_ne.2 hm
  clear h hn hk
  obtain ⟨X1, X2, E0⟩ := boxes2 w #[.string a, .string b] #[.string ⟨#[]⟩, .string ⟨#[]⟩] 26
  go_enter Tryz.func22, Tryz.ntmps22
  go_wp2_with fail
  generalize (w.alloc (.cells #[.string a, .string b] 26)).alloc (.cells #[.string ⟨#[]⟩, .string ⟨#[]⟩] 26) = W0 at *
  refine (HC.out _ E0).mono ?_
  rintro e w1 ⟨rfl, hE⟩
  replace X1 := X1.ext hE
  replace X2 := X2.ext hE
  replace E0 := E0.tr hE
  have c0 := X1.c0
  have c1 := X1.c1
  have g0 := X2.c0
  have g1 := X2.c1
  have f0 := X2.f 0
  have f1 := X2.f 1
  clear hE HC
  go_wp2_with fail
  refine (HH.out _).mono ?_
  rintro e w2 ⟨rfl, hE⟩
  replace X1 := X1.ext hE
  replace X2 := X2.ext hE
  replace E0 := E0.tr hE
  have c0 := X1.c0
  have c1 := X1.c1
  have g0 := X2.c0
  have g1 := X2.c1
  have f0 := X2.f 0
  have f1 := X2.f 1
  clear hE HH
  go_wp2_with fail
  refine (HS.out _ E0).mono ?_
  rintro e w3 ⟨u, rfl, hu, hE⟩
  replace X1 := X1.ext hE
  replace X2 := X2.ext hE
  replace E0 := E0.tr hE
  have c0 := X1.c0
  have c1 := X1.c1
  have g0 := X2.c0
  have g1 := X2.c1
  have f0 := X2.f 0
  have f1 := X2.f 1
  have HU := Lib.hid hu
  clear hE HS hu
  go_wp2_with fail
  refine (HN.out _ _ E0 HU.out).mono ?_
  rintro e w4 ⟨rfl, hE⟩
  replace X1 := X1.ext hE
  replace X2 := X2.ext hE
  replace E0 := E0.tr hE
  have c0 := X1.c0
  have c1 := X1.c1
  have g0 := X2.c0
  have g1 := X2.c1
  have f0 := X2.f 0
  have f1 := X2.f 1
  replace HU := Lib.hid (HU.out.ext hE)
  clear hE HN
  go_wp2_with fail
  obtain ⟨d0', d1'⟩ := set2 X2 (.string ⟨#[]⟩) (.string ⟨#[]⟩)
  refine bodyPost_ret (v := .tuple #[.agg #[(.string ⟨#[]⟩), (.string ⟨#[]⟩)], .int .i64 11]) ?_ rfl ⟨rfl, ext_set2 (b := w.heap.size + 1) E0 (by omega) _ _⟩
  simp [results, Tryz.f22, go_sem, d0', d1']
def RetBE (r : Bool) (k : Int) (w : World) (e : Ending) (w' : World) : Prop := e = .returned (.tuple #[.bool r, .int .i64 k]) ∧ Ext w w'
set_option maxHeartbeats 8000000 in
set_option maxRecDepth 200000 in
theorem sPos_f (v : Value) (a b x : ByteArray) (w : World) (h : CK v a b 0 w) (HE : Hid (∀ W, Ext w W → Calls Tryz.prog 28 #[v, .string a] W fun e w' => e = .returned (.tuple #[.string x, .int .i64 0]) ∧ Ext W w')) (HL : Hid (∀ W, Ext w W → Calls Tryz.prog 53 #[.string ⟨#[48]⟩, .string x] W fun e w' => e = .returned (.bool false) ∧ Ext W w')) : Calls Tryz.prog 17 #[v, .agg #[.string a, .string b]] w (RetBE false 0 w) := by
  have HC := Lib.hid h
  clear h
  have b1 := (Bx.new w #[.string a, .string b] 26)
  have E0 := (Ext.rfl' w).al (.cells #[.string a, .string b] 26)
  go_enter Tryz.func17, Tryz.ntmps17
  go_wp2_with fail
  generalize (w.alloc (.cells #[.string a, .string b] 26)) = W0 at *
  refine (HC.out _ E0).mono ?_
  rintro e w1 ⟨rfl, hE⟩
  replace b1 := b1.ext hE
  replace E0 := E0.tr hE
  obtain ⟨c0, c1, -, -⟩ := b1.e2
  clear hE HC
  go_wp2_with fail
  refine (HE.out _ E0).mono ?_
  rintro e w2 ⟨rfl, hE⟩
  replace b1 := b1.ext hE
  replace E0 := E0.tr hE
  obtain ⟨c0, c1, -, -⟩ := b1.e2
  clear hE HE
  have d0 : w2.drew.cell? ⟨w.heap.size, 0, none⟩ = some (.string a) := c0
  have d1 : w2.drew.cell? ⟨w.heap.size, 1, none⟩ = some (.string b) := c1
  go_wp2_with fail
  refine wp_region_held_drew (S := (fun w' => w'.cell? ⟨w.heap.size, 0, none⟩ = some (.string a) ∧ w'.cell? ⟨w.heap.size, 1, none⟩ = some (.string b))) (by kernel_rfl) (by exact ⟨d0, d1⟩) (fun hHeld => ?_)
  refine wpAnyH_take (i := 0) (oi := { dst := some 22, op := Go.Op.move (Go.Operand.tmp 7), type := 24, pos := "sturm.go:192", after := #[], guard := none }) (v := ?_) rfl (by kernel_rfl) (by kernel_rfl) (by kernel_rfl) (fun _ _ _ h => h) (Or.inl ⟨by rfl, ?_⟩) hHeld ?_
  rotate_left
  · intro w' hSw; (try dsimp only at hSw); go_simp; (try with_reducible rfl)
  try simp only [Act.put, List.setIfInBounds_toArray, List.set_cons_zero, List.set_cons_succ]
  refine wpAnyH_ready (rs := [1]) (by kernel_rfl) (by simp) ?_
  refine AllReadyH.cons (o := { dst := some 23, op := Go.Op.call { callee := Go.Callee.value (Go.Operand.func 53), args := #[Go.Operand.const (Go.Value.string { data := #[48] }), Go.Operand.tmp 22], argTypes := #[24, 24] }, type := 4, pos := "sturm.go:192", after := #[{ on := 0, ground := Go.Ground.data }], guard := none }) rfl (fun K hK => ?_) AllReadyH.nil
  go_simp
  refine (HL.out _ E0.dr).mono ?_
  rintro e w3 ⟨rfl, hE⟩
  have E3 := E0.dr.tr hE
  replace d0 := Ext.cell hE d0
  replace d1 := Ext.cell hE d1
  clear hE
  refine hK.out _ _ (by exact ⟨d0, d1⟩) (fun hHeld2 => ?_)
  clear hK K hHeld
  have hHeld := hHeld2
  clear hHeld2
  try simp only [Act.put, List.setIfInBounds_toArray, List.set_cons_zero, List.set_cons_succ]
  refine wpAnyH_take (i := 2) (oi := { dst := some 24, op := Go.Op.move (Go.Operand.tmp 23), type := 4, pos := "sturm.go:192", after := #[{ on := 1, ground := Go.Ground.data }, { on := 1, ground := Go.Ground.chain }], guard := none }) (v := ?_) rfl (by kernel_rfl) (by kernel_rfl) (by kernel_rfl) (fun _ _ _ h => h) (Or.inl ⟨by rfl, ?_⟩) hHeld ?_
  rotate_left
  · intro w' hSw; (try dsimp only at hSw); go_simp; (try with_reducible rfl)
  try simp only [Act.put, List.setIfInBounds_toArray, List.set_cons_zero, List.set_cons_succ]
  refine wpAnyH_take (i := 3) (oi := { dst := some 25, op := Go.Op.move (Go.Operand.tmp 0), type := 23, pos := "sturm.go:192", after := #[{ on := 2, ground := Go.Ground.guard }], guard := some (2, true) }) rfl (by kernel_rfl) (by kernel_rfl) (by kernel_rfl) (fun _ _ _ h => h) (Or.inr ⟨by rfl, rfl⟩) hHeld ?_
  try simp only [Act.put, List.setIfInBounds_toArray, List.set_cons_zero, List.set_cons_succ]
  refine wpAnyH_take (i := 4) (oi := { dst := some 26, op := Go.Op.call { callee := Go.Callee.value (Go.Operand.func 44), args := #[Go.Operand.tmp 25], argTypes := #[23] }, type := 23, pos := "sturm.go:192", after := #[{ on := 3, ground := Go.Ground.data }, { on := 2, ground := Go.Ground.chain }, { on := 2, ground := Go.Ground.guard }], guard := some (2, true) }) rfl (by kernel_rfl) (by kernel_rfl) (by kernel_rfl) (fun _ _ _ h => h) (Or.inr ⟨by rfl, rfl⟩) hHeld ?_
  try simp only [Act.put, List.setIfInBounds_toArray, List.set_cons_zero, List.set_cons_succ]
  refine wpAnyH_take (i := 5) (oi := { dst := some 27, op := Go.Op.fieldAddr 26 (Go.Operand.tmp 3) 0, type := 0, pos := "sturm.go:192", after := #[{ on := 2, ground := Go.Ground.guard }], guard := some (2, true) }) rfl (by kernel_rfl) (by kernel_rfl) (by kernel_rfl) (fun _ _ _ h => h) (Or.inr ⟨by rfl, rfl⟩) hHeld ?_
  try simp only [Act.put, List.setIfInBounds_toArray, List.set_cons_zero, List.set_cons_succ]
  refine wpAnyH_take (i := 6) (oi := { dst := some 28, op := Go.Op.load 24 (Go.Operand.tmp 27), type := 24, pos := "sturm.go:192", after := #[{ on := 5, ground := Go.Ground.data }, { on := 2, ground := Go.Ground.guard }], guard := some (2, true) }) rfl (by kernel_rfl) (by kernel_rfl) (by kernel_rfl) (fun _ _ _ h => h) (Or.inr ⟨by rfl, rfl⟩) hHeld ?_
  try simp only [Act.put, List.setIfInBounds_toArray, List.set_cons_zero, List.set_cons_succ]
  refine wpAnyH_take (i := 7) (oi := { dst := some 29, op := Go.Op.fieldAddr 26 (Go.Operand.tmp 3) 1, type := 0, pos := "sturm.go:192", after := #[{ on := 2, ground := Go.Ground.guard }], guard := some (2, true) }) rfl (by kernel_rfl) (by kernel_rfl) (by kernel_rfl) (fun _ _ _ h => h) (Or.inr ⟨by rfl, rfl⟩) hHeld ?_
  try simp only [Act.put, List.setIfInBounds_toArray, List.set_cons_zero, List.set_cons_succ]
  refine wpAnyH_take (i := 8) (oi := { dst := some 30, op := Go.Op.load 24 (Go.Operand.tmp 29), type := 24, pos := "sturm.go:192", after := #[{ on := 7, ground := Go.Ground.data }, { on := 2, ground := Go.Ground.guard }], guard := some (2, true) }) rfl (by kernel_rfl) (by kernel_rfl) (by kernel_rfl) (fun _ _ _ h => h) (Or.inr ⟨by rfl, rfl⟩) hHeld ?_
  try simp only [Act.put, List.setIfInBounds_toArray, List.set_cons_zero, List.set_cons_succ]
  refine wpAnyH_take (i := 9) (oi := { dst := some 31, op := Go.Op.call { callee := Go.Callee.value (Go.Operand.func 49), args := #[Go.Operand.tmp 26, Go.Operand.tmp 28, Go.Operand.tmp 30], argTypes := #[23, 24, 24] }, type := 3, pos := "sturm.go:192", after := #[{ on := 4, ground := Go.Ground.data }, { on := 6, ground := Go.Ground.data }, { on := 8, ground := Go.Ground.data }, { on := 4, ground := Go.Ground.chain }, { on := 2, ground := Go.Ground.guard }], guard := some (2, true) }) rfl (by kernel_rfl) (by kernel_rfl) (by kernel_rfl) (fun _ _ _ h => h) (Or.inr ⟨by rfl, rfl⟩) hHeld ?_
  try simp only [Act.put, List.setIfInBounds_toArray, List.set_cons_zero, List.set_cons_succ]
  refine wpAnyH_take (i := 10) (oi := { dst := some 32, op := Go.Op.binOp Go.BinOp.eql 3 (Go.Operand.tmp 31) (Go.Operand.const (Go.Value.int Go.IntKind.i64 0)) 3, type := 4, pos := "sturm.go:192", after := #[{ on := 9, ground := Go.Ground.data }, { on := 2, ground := Go.Ground.guard }], guard := some (2, true) }) rfl (by kernel_rfl) (by kernel_rfl) (by kernel_rfl) (fun _ _ _ h => h) (Or.inr ⟨by rfl, rfl⟩) hHeld ?_
  try simp only [Act.put, List.setIfInBounds_toArray, List.set_cons_zero, List.set_cons_succ]
  refine wpAnyH_take (i := 11) (oi := { dst := some 33, op := Go.Op.pick (Go.Operand.tmp 24) (Go.Operand.tmp 32) (Go.Operand.const (Go.Value.bool false)), type := 4, pos := "sturm.go:192", after := #[{ on := 2, ground := Go.Ground.data }, { on := 10, ground := Go.Ground.data }], guard := none }) (v := ?_) rfl (by kernel_rfl) (by kernel_rfl) (by kernel_rfl) (fun _ _ _ h => h) (Or.inl ⟨by rfl, ?_⟩) hHeld ?_
  rotate_left
  · intro w' hSw; (try dsimp only at hSw); go_simp; (try with_reducible rfl)
  try simp only [Act.put, List.setIfInBounds_toArray, List.set_cons_zero, List.set_cons_succ]
  refine wpAnyH_take (i := 12) (oi := { dst := some 4, op := Go.Op.assign (Go.Operand.tmp 33), type := 4, pos := "sturm.go:192", after := #[{ on := 11, ground := Go.Ground.data }, { on := 9, ground := Go.Ground.chain }, { on := 0, ground := Go.Ground.phase }, { on := 1, ground := Go.Ground.phase }, { on := 2, ground := Go.Ground.phase }, { on := 3, ground := Go.Ground.phase }, { on := 4, ground := Go.Ground.phase }, { on := 5, ground := Go.Ground.phase }, { on := 6, ground := Go.Ground.phase }, { on := 7, ground := Go.Ground.phase }, { on := 8, ground := Go.Ground.phase }, { on := 9, ground := Go.Ground.phase }, { on := 10, ground := Go.Ground.phase }, { on := 11, ground := Go.Ground.phase }], guard := none }) (v := ?_) rfl (by kernel_rfl) (by kernel_rfl) (by kernel_rfl) (fun _ _ _ h => h) (Or.inl ⟨by rfl, ?_⟩) hHeld ?_
  rotate_left
  · intro w' hSw; (try dsimp only at hSw); go_simp; (try with_reducible rfl)
  try simp only [Act.put, List.setIfInBounds_toArray, List.set_cons_zero, List.set_cons_succ]
  refine wpAnyH_take (i := 13) (oi := { dst := some 5, op := Go.Op.assign (Go.Operand.const (Go.Value.int Go.IntKind.i64 0)), type := 29, pos := "sturm.go:192", after := #[{ on := 12, ground := Go.Ground.chain }, { on := 0, ground := Go.Ground.phase }, { on := 1, ground := Go.Ground.phase }, { on := 2, ground := Go.Ground.phase }, { on := 3, ground := Go.Ground.phase }, { on := 4, ground := Go.Ground.phase }, { on := 5, ground := Go.Ground.phase }, { on := 6, ground := Go.Ground.phase }, { on := 7, ground := Go.Ground.phase }, { on := 8, ground := Go.Ground.phase }, { on := 9, ground := Go.Ground.phase }, { on := 10, ground := Go.Ground.phase }, { on := 11, ground := Go.Ground.phase }, { on := 12, ground := Go.Ground.phase }], guard := none }) (v := ?_) rfl (by kernel_rfl) (by kernel_rfl) (by kernel_rfl) (fun _ _ _ h => h) (Or.inl ⟨by rfl, ?_⟩) hHeld ?_
  rotate_left
  · intro w' hSw; (try dsimp only at hSw); go_simp; (try with_reducible rfl)
  try simp only [Act.put, List.setIfInBounds_toArray, List.set_cons_zero, List.set_cons_succ]
  refine wpAnyH_done (by kernel_rfl) ?_ _
  all_goals
    clear hHeld
    go_wp2_with fail
    go_ret2
    exact ⟨rfl, E3⟩
set_option maxHeartbeats 8000000 in
set_option maxRecDepth 200000 in
theorem sPos_t (v : Value) (a b x : ByteArray) (s : Pl) (c : Int) (r : Bool) (hr : (c == 0) = r) (w : World) (h : CK v a b 0 w) (HE : Hid (∀ W, Ext w W → Calls Tryz.prog 28 #[v, .string a] W fun e w' => e = .returned (.tuple #[.string x, .int .i64 0]) ∧ Ext W w')) (HL : Hid (∀ W, Ext w W → Calls Tryz.prog 53 #[.string ⟨#[48]⟩, .string x] W fun e w' => e = .returned (.bool true) ∧ Ext W w'))
    (HS : Hid (∀ W, Ext w W → Calls Tryz.prog 44 #[v] W fun e w' => ∃ v, e = .returned v ∧ PS w' v s ∧ Ext W w'))
    (HN : Hid (∀ W u, Ext w W → PS W u s → Calls Tryz.prog 49 #[u, .string a, .string b] W fun e w' => e = .returned (.int .i64 c) ∧ Ext W w')) : Calls Tryz.prog 17 #[v, .agg #[.string a, .string b]] w (RetBE r 0 w) := by
  have HC := Lib.hid h
  clear h
  have b1 := (Bx.new w #[.string a, .string b] 26)
  have E0 := (Ext.rfl' w).al (.cells #[.string a, .string b] 26)
  go_enter Tryz.func17, Tryz.ntmps17
  go_wp2_with fail
  generalize (w.alloc (.cells #[.string a, .string b] 26)) = W0 at *
  refine (HC.out _ E0).mono ?_
  rintro e w1 ⟨rfl, hE⟩
  replace b1 := b1.ext hE
  replace E0 := E0.tr hE
  obtain ⟨c0, c1, -, -⟩ := b1.e2
  clear hE HC
  go_wp2_with fail
  refine (HE.out _ E0).mono ?_
  rintro e w2 ⟨rfl, hE⟩
  replace b1 := b1.ext hE
  replace E0 := E0.tr hE
  obtain ⟨c0, c1, -, -⟩ := b1.e2
  clear hE HE
  have d0 : w2.drew.cell? ⟨w.heap.size, 0, none⟩ = some (.string a) := c0
  have d1 : w2.drew.cell? ⟨w.heap.size, 1, none⟩ = some (.string b) := c1
  go_wp2_with fail
  refine wp_region_held_drew (S := (fun w' => w'.cell? ⟨w.heap.size, 0, none⟩ = some (.string a) ∧ w'.cell? ⟨w.heap.size, 1, none⟩ = some (.string b))) (by kernel_rfl) (by exact ⟨d0, d1⟩) (fun hHeld => ?_)
  refine wpAnyH_take (i := 0) (oi := { dst := some 22, op := Go.Op.move (Go.Operand.tmp 7), type := 24, pos := "sturm.go:192", after := #[], guard := none }) (v := ?_) rfl (by kernel_rfl) (by kernel_rfl) (by kernel_rfl) (fun _ _ _ h => h) (Or.inl ⟨by rfl, ?_⟩) hHeld ?_
  rotate_left
  · intro w' hSw; (try dsimp only at hSw); go_simp; (try with_reducible rfl)
  try simp only [Act.put, List.setIfInBounds_toArray, List.set_cons_zero, List.set_cons_succ]
  refine wpAnyH_ready (rs := [1]) (by kernel_rfl) (by simp) ?_
  refine AllReadyH.cons (o := { dst := some 23, op := Go.Op.call { callee := Go.Callee.value (Go.Operand.func 53), args := #[Go.Operand.const (Go.Value.string { data := #[48] }), Go.Operand.tmp 22], argTypes := #[24, 24] }, type := 4, pos := "sturm.go:192", after := #[{ on := 0, ground := Go.Ground.data }], guard := none }) rfl (fun K hK => ?_) AllReadyH.nil
  go_simp
  refine (HL.out _ E0.dr).mono ?_
  rintro e w3 ⟨rfl, hE⟩
  have E3 := E0.dr.tr hE
  replace d0 := Ext.cell hE d0
  replace d1 := Ext.cell hE d1
  clear hE
  refine hK.out _ _ (by exact ⟨d0, d1⟩) (fun hHeld2 => ?_)
  clear hK K hHeld
  have hHeld := hHeld2
  clear hHeld2
  try simp only [Act.put, List.setIfInBounds_toArray, List.set_cons_zero, List.set_cons_succ]
  refine wpAnyH_take (i := 2) (oi := { dst := some 24, op := Go.Op.move (Go.Operand.tmp 23), type := 4, pos := "sturm.go:192", after := #[{ on := 1, ground := Go.Ground.data }, { on := 1, ground := Go.Ground.chain }], guard := none }) (v := ?_) rfl (by kernel_rfl) (by kernel_rfl) (by kernel_rfl) (fun _ _ _ h => h) (Or.inl ⟨by rfl, ?_⟩) hHeld ?_
  rotate_left
  · intro w' hSw; (try dsimp only at hSw); go_simp; (try with_reducible rfl)
  try simp only [Act.put, List.setIfInBounds_toArray, List.set_cons_zero, List.set_cons_succ]
  refine wpAnyH_take (i := 3) (oi := { dst := some 25, op := Go.Op.move (Go.Operand.tmp 0), type := 23, pos := "sturm.go:192", after := #[{ on := 2, ground := Go.Ground.guard }], guard := some (2, true) }) (v := ?_) rfl (by kernel_rfl) (by kernel_rfl) (by kernel_rfl) (fun _ _ _ h => h) (Or.inl ⟨by rfl, ?_⟩) hHeld ?_
  rotate_left
  · intro w' hSw; (try dsimp only at hSw); go_simp; (try with_reducible rfl)
  try simp only [Act.put, List.setIfInBounds_toArray, List.set_cons_zero, List.set_cons_succ]
  refine wpAnyH_take (i := 5) (oi := { dst := some 27, op := Go.Op.fieldAddr 26 (Go.Operand.tmp 3) 0, type := 0, pos := "sturm.go:192", after := #[{ on := 2, ground := Go.Ground.guard }], guard := some (2, true) }) (v := ?_) rfl (by kernel_rfl) (by kernel_rfl) (by kernel_rfl) (fun _ _ _ h => h) (Or.inl ⟨by rfl, ?_⟩) hHeld ?_
  rotate_left
  · intro w' hSw; (try dsimp only at hSw); go_simp; (try with_reducible rfl)
  try simp only [Act.put, List.setIfInBounds_toArray, List.set_cons_zero, List.set_cons_succ]
  refine wpAnyH_take (i := 6) (oi := { dst := some 28, op := Go.Op.load 24 (Go.Operand.tmp 27), type := 24, pos := "sturm.go:192", after := #[{ on := 5, ground := Go.Ground.data }, { on := 2, ground := Go.Ground.guard }], guard := some (2, true) }) (v := ?_) rfl (by kernel_rfl) (by kernel_rfl) (by kernel_rfl) (fun _ _ _ h => h) (Or.inl ⟨by rfl, ?_⟩) hHeld ?_
  rotate_left
  · intro w' hSw; (try dsimp only at hSw); go_simp; (try with_reducible rfl)
  try simp only [Act.put, List.setIfInBounds_toArray, List.set_cons_zero, List.set_cons_succ]
  refine wpAnyH_take (i := 7) (oi := { dst := some 29, op := Go.Op.fieldAddr 26 (Go.Operand.tmp 3) 1, type := 0, pos := "sturm.go:192", after := #[{ on := 2, ground := Go.Ground.guard }], guard := some (2, true) }) (v := ?_) rfl (by kernel_rfl) (by kernel_rfl) (by kernel_rfl) (fun _ _ _ h => h) (Or.inl ⟨by rfl, ?_⟩) hHeld ?_
  rotate_left
  · intro w' hSw; (try dsimp only at hSw); go_simp; (try with_reducible rfl)
  try simp only [Act.put, List.setIfInBounds_toArray, List.set_cons_zero, List.set_cons_succ]
  refine wpAnyH_take (i := 8) (oi := { dst := some 30, op := Go.Op.load 24 (Go.Operand.tmp 29), type := 24, pos := "sturm.go:192", after := #[{ on := 7, ground := Go.Ground.data }, { on := 2, ground := Go.Ground.guard }], guard := some (2, true) }) (v := ?_) rfl (by kernel_rfl) (by kernel_rfl) (by kernel_rfl) (fun _ _ _ h => h) (Or.inl ⟨by rfl, ?_⟩) hHeld ?_
  rotate_left
  · intro w' hSw; (try dsimp only at hSw); go_simp; (try with_reducible rfl)
  try simp only [Act.put, List.setIfInBounds_toArray, List.set_cons_zero, List.set_cons_succ]
  refine wpAnyH_ready (rs := [4]) (by kernel_rfl) (by simp) ?_
  refine AllReadyH.cons (o := { dst := some 26, op := Go.Op.call { callee := Go.Callee.value (Go.Operand.func 44), args := #[Go.Operand.tmp 25], argTypes := #[23] }, type := 23, pos := "sturm.go:192", after := #[{ on := 3, ground := Go.Ground.data }, { on := 2, ground := Go.Ground.chain }, { on := 2, ground := Go.Ground.guard }], guard := some (2, true) }) rfl (fun K hK => ?_) AllReadyH.nil
  go_simp
  refine (HS.out _ E3).mono ?_
  rintro e w4 ⟨u, rfl, hu, hE⟩
  have HU := Lib.hid hu
  have E4 := E3.tr hE
  replace d0 := Ext.cell hE d0
  replace d1 := Ext.cell hE d1
  clear hE hu
  refine hK.out _ _ (by exact ⟨d0, d1⟩) (fun hHeld2 => ?_)
  clear hK K hHeld
  have hHeld := hHeld2
  clear hHeld2
  try simp only [Act.put, List.setIfInBounds_toArray, List.set_cons_zero, List.set_cons_succ]
  refine wpAnyH_ready (rs := [9]) (by kernel_rfl) (by simp) ?_
  refine AllReadyH.cons (o := { dst := some 31, op := Go.Op.call { callee := Go.Callee.value (Go.Operand.func 49), args := #[Go.Operand.tmp 26, Go.Operand.tmp 28, Go.Operand.tmp 30], argTypes := #[23, 24, 24] }, type := 3, pos := "sturm.go:192", after := #[{ on := 4, ground := Go.Ground.data }, { on := 6, ground := Go.Ground.data }, { on := 8, ground := Go.Ground.data }, { on := 4, ground := Go.Ground.chain }, { on := 2, ground := Go.Ground.guard }], guard := some (2, true) }) rfl (fun K hK => ?_) AllReadyH.nil
  go_simp
  refine (HN.out _ _ E4 HU.out).mono ?_
  rintro e w5 ⟨rfl, hE⟩
  have E5 := E4.tr hE
  replace d0 := Ext.cell hE d0
  replace d1 := Ext.cell hE d1
  clear hE
  refine hK.out _ _ (by exact ⟨d0, d1⟩) (fun hHeld2 => ?_)
  clear hK K hHeld
  have hHeld := hHeld2
  clear hHeld2
  try simp only [Act.put, List.setIfInBounds_toArray, List.set_cons_zero, List.set_cons_succ]
  refine wpAnyH_take (i := 10) (oi := { dst := some 32, op := Go.Op.binOp Go.BinOp.eql 3 (Go.Operand.tmp 31) (Go.Operand.const (Go.Value.int Go.IntKind.i64 0)) 3, type := 4, pos := "sturm.go:192", after := #[{ on := 9, ground := Go.Ground.data }, { on := 2, ground := Go.Ground.guard }], guard := some (2, true) }) (v := ?_) rfl (by kernel_rfl) (by kernel_rfl) (by kernel_rfl) (fun _ _ _ h => h) (Or.inl ⟨by rfl, ?_⟩) hHeld ?_
  rotate_left
  · intro w' hSw; (try dsimp only at hSw); go_simp; (try with_reducible rfl)
  try simp only [Act.put, List.setIfInBounds_toArray, List.set_cons_zero, List.set_cons_succ]
  refine wpAnyH_take (i := 11) (oi := { dst := some 33, op := Go.Op.pick (Go.Operand.tmp 24) (Go.Operand.tmp 32) (Go.Operand.const (Go.Value.bool false)), type := 4, pos := "sturm.go:192", after := #[{ on := 2, ground := Go.Ground.data }, { on := 10, ground := Go.Ground.data }], guard := none }) (v := ?_) rfl (by kernel_rfl) (by kernel_rfl) (by kernel_rfl) (fun _ _ _ h => h) (Or.inl ⟨by rfl, ?_⟩) hHeld ?_
  rotate_left
  · intro w' hSw; (try dsimp only at hSw); go_simp; (try with_reducible rfl)
  try simp only [Act.put, List.setIfInBounds_toArray, List.set_cons_zero, List.set_cons_succ]
  refine wpAnyH_take (i := 12) (oi := { dst := some 4, op := Go.Op.assign (Go.Operand.tmp 33), type := 4, pos := "sturm.go:192", after := #[{ on := 11, ground := Go.Ground.data }, { on := 9, ground := Go.Ground.chain }, { on := 0, ground := Go.Ground.phase }, { on := 1, ground := Go.Ground.phase }, { on := 2, ground := Go.Ground.phase }, { on := 3, ground := Go.Ground.phase }, { on := 4, ground := Go.Ground.phase }, { on := 5, ground := Go.Ground.phase }, { on := 6, ground := Go.Ground.phase }, { on := 7, ground := Go.Ground.phase }, { on := 8, ground := Go.Ground.phase }, { on := 9, ground := Go.Ground.phase }, { on := 10, ground := Go.Ground.phase }, { on := 11, ground := Go.Ground.phase }], guard := none }) (v := ?_) rfl (by kernel_rfl) (by kernel_rfl) (by kernel_rfl) (fun _ _ _ h => h) (Or.inl ⟨by rfl, ?_⟩) hHeld ?_
  rotate_left
  · intro w' hSw; (try dsimp only at hSw); go_simp; (try with_reducible rfl)
  try simp only [Act.put, List.setIfInBounds_toArray, List.set_cons_zero, List.set_cons_succ]
  refine wpAnyH_take (i := 13) (oi := { dst := some 5, op := Go.Op.assign (Go.Operand.const (Go.Value.int Go.IntKind.i64 0)), type := 29, pos := "sturm.go:192", after := #[{ on := 12, ground := Go.Ground.chain }, { on := 0, ground := Go.Ground.phase }, { on := 1, ground := Go.Ground.phase }, { on := 2, ground := Go.Ground.phase }, { on := 3, ground := Go.Ground.phase }, { on := 4, ground := Go.Ground.phase }, { on := 5, ground := Go.Ground.phase }, { on := 6, ground := Go.Ground.phase }, { on := 7, ground := Go.Ground.phase }, { on := 8, ground := Go.Ground.phase }, { on := 9, ground := Go.Ground.phase }, { on := 10, ground := Go.Ground.phase }, { on := 11, ground := Go.Ground.phase }, { on := 12, ground := Go.Ground.phase }], guard := none }) (v := ?_) rfl (by kernel_rfl) (by kernel_rfl) (by kernel_rfl) (fun _ _ _ h => h) (Or.inl ⟨by rfl, ?_⟩) hHeld ?_
  rotate_left
  · intro w' hSw; (try dsimp only at hSw); go_simp; (try with_reducible rfl)
  try simp only [Act.put, List.setIfInBounds_toArray, List.set_cons_zero, List.set_cons_succ]
  refine wpAnyH_done (by kernel_rfl) ?_ _
  all_goals
    clear hHeld
    go_wp2_with fail
    go_ret2
    exact ⟨rfl, E5⟩
end Go.Proofs.YtadimepmoljnpaaGreatDoor.GB
