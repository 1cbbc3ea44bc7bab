import Derived.Test.YtadimepmoljnpaaGreatDoorMGc
import Derived.Test.YtadimepmoljnpaaGreatDoorMNum
import Derived.Deep.RegionHeld3
namespace Go.Proofs.YtadimepmoljnpaaGreatDoor.GB
set_option linter.unusedVariables false
set_option linter.unusedSimpArgs false
open Go.RowKit Go.Shelf

theorem dtx_zero (n : Nat) : ((⟨(Lib.decDigits n).toArray⟩ : ByteArray).toList == [48]) = decide (n = 0) := by
  rw [ByteArray.toList_eq]
  show (Lib.decDigits n == [48]) = _
  have h0 : Lib.decDigits 0 = [48] := by rw [Lib.decDigits]; rfl
  by_cases h : n = 0
  · subst h; rw [h0]; rfl
  · rw [decide_eq_false h, beq_eq_false_iff_ne]
    intro e; rw [← h0] at e; exact h (dec_inj e)
theorem dtx0 : dtx 0 = .string ⟨#[48]⟩ := by
  have h0 : Lib.decDigits 0 = [48] := by rw [Lib.decDigits]; rfl
  show Value.string _ = _
  rw [h0]
theorem dtx1 : dtx 1 = .string ⟨#[49]⟩ := by
  have h0 : Lib.decDigits 1 = [49] := by rw [Lib.decDigits]; rfl
  show Value.string _ = _
  rw [h0]
/-- A number with a sign, as the package keeps it. -/
abbrev IV (z : Int) : Value := .agg #[.bool (decide (z < 0)), dtx z.natAbs]
/-- The text of a number with a sign. -/
abbrev itx (z : Int) : Value := .string ⟨(Lib.itoa z).toArray⟩
/-- A box of cells. -/
def Bx (w : World) (b : Nat) (cs : Array Value) (T : TypeId) : Prop := w.heap[b]? = some (.cells cs T (0, 0))
theorem Bx.lt {w : World} {b : Nat} {cs : Array Value} {T : TypeId} (h : Bx w b cs T) : b < w.heap.size := (Array.getElem?_eq_some_iff.1 h).1
theorem Bx.ext {w w' : World} {b : Nat} {cs : Array Value} {T : TypeId} (h : Bx w b cs T) (hE : Ext w w') : Bx w' b cs T := (hE.block b h.lt).trans h
theorem Bx.new (w : World) (cs : Array Value) (T : TypeId) : Bx (w.alloc (.cells cs T)) w.heap.size cs T := World.alloc_heap_new w _
theorem Bx.al {w : World} {b : Nat} {cs : Array Value} {T : TypeId} (h : Bx w b cs T) (o : Obj) : Bx (w.alloc o) b cs T := (Below.heap_alloc _ _ _ h.lt).trans h
theorem Bx.c {w : World} {b : Nat} {cs : Array Value} {T : TypeId} (h : Bx w b cs T) (j : Nat) : w.cell? ⟨b, j, none⟩ = cs[j]? := Lib.cell_of_heap h j
theorem Bx.f {w : World} {b : Nat} {cs : Array Value} {T : TypeId} (h : Bx w b cs T) (j : Nat) : w.frozen? ⟨b, j, none⟩ = false := Lib.frozen_of_heap h j
theorem Bx.c0 {w : World} {b : Nat} {x y : Value} {T : TypeId} (h : Bx w b #[x, y] T) : w.cell? ⟨b, 0, none⟩ = some x := h.c 0
theorem Bx.c1 {w : World} {b : Nat} {x y : Value} {T : TypeId} (h : Bx w b #[x, y] T) : w.cell? ⟨b, 1, none⟩ = some y := h.c 1
theorem IV_with (x : Bool) (n : Nat) : Value.agg #[.bool (x && !decide (n = 0)), dtx n] = IV (if x then -(n : Int) else n) := by
  cases x
  · have : (decide (((n : Nat) : Int) < 0)) = false := by simp
    simp [IV, this]
  · by_cases h : n = 0
    · subst h; simp [IV]
    · have : (decide (-(n : Int) < 0)) = true := by simp; omega
      simp only [IV, if_true, this, Int.natAbs_neg, Int.natAbs_natCast, h]
      rfl
theorem set2 {w : World} {b : Nat} {x y : Value} {T : TypeId} (h : Bx w b #[x, y] T) (u v : Value) :
    ((w.setCell ⟨b, 0, none⟩ u).setCell ⟨b, 1, none⟩ v).cell? ⟨b, 0, none⟩ = some u ∧ ((w.setCell ⟨b, 0, none⟩ u).setCell ⟨b, 1, none⟩ v).cell? ⟨b, 1, none⟩ = some v := by
  have h0 := h.c0
  have h1 := h.c1
  constructor
  · rw [World.cell?_setCell_other _ _ _ _ (by simp)]
    exact World.cell?_setCell_same _ _ _ h0
  · exact World.cell?_setCell_same (w.setCell ⟨b, 0, none⟩ u) ⟨b, 1, none⟩ v (by rw [World.cell?_setCell_other _ _ _ _ (by simp)]; exact h1)
theorem ext_set2 {w w1 : World} {b : Nat} (h : Ext w w1) (hb : w.heap.size ≤ b) (u v : Value) : Ext w ((w1.setCell ⟨b, 0, none⟩ u).setCell ⟨b, 1, none⟩ v) :=
  (Below.setCell (p := ⟨b, 0, none⟩) h hb u).setCell (p := ⟨b, 1, none⟩) hb v

set_option maxHeartbeats 1000000 in
set_option maxRecDepth 100000 in
theorem with_any (x : Bool) (n : Nat) (w : World) : Calls Tryz.prog 159 #[.bool x, dtx n] w fun e w' => e = .returned (IV (if x then -(n : Int) else n)) ∧ Ext w w' := by
  rw [← IV_with]
  have hz := dtx_zero n
  have hz2 : (Lib.decDigits n == [48]) = decide (n = 0) := by rw [← hz, ByteArray.toList_eq]
  cases x
  · go_enter Tryz.func159, Tryz.ntmps159
    go_wp2_with fail
    refine bodyPost_ret (v := .agg #[.bool false, dtx n]) (by simp [results, Tryz.f159, go_sem]) rfl ⟨rfl, (Ext.rfl' _).al _⟩
  · go_enter Tryz.func159, Tryz.ntmps159
    go_wp2_with fail
    refine bodyPost_ret (v := .agg #[.bool (!decide (n = 0)), dtx n]) (by simp [results, Tryz.f159, go_sem, hz, hz2]) rfl ⟨rfl, (Ext.rfl' _).al _⟩
set_option maxHeartbeats 1000000 in
set_option maxRecDepth 100000 in
theorem zero_any (w : World) : Calls Tryz.prog 157 #[] w fun e w' => e = .returned (.agg #[.bool false, .string ⟨#[48]⟩]) ∧ Ext w w' := by
  go_enter Tryz.func157, Tryz.ntmps157
  go_wp2_with fail
  refine bodyPost_ret (v := .agg #[.bool false, .string ⟨#[48]⟩]) (by simp [results, Tryz.f157, go_sem]) rfl ⟨rfl, (Ext.rfl' _).al _⟩
theorem bit_any (x : Bool) (w : World) : Calls Tryz.prog 162 #[.bool x] w fun e w' => e = .returned (.int .i64 (if x then 1 else 0)) ∧ w = w' := by
  cases x
  · go_enter Tryz.func162, Tryz.ntmps162
    go_wp2_with fail
    go_ret
    exact ⟨rfl, rfl⟩
  · go_enter Tryz.func162, Tryz.ntmps162
    go_wp2_with fail
    go_ret
    exact ⟨rfl, rfl⟩
theorem cat45 (n : Nat) : ((⟨#[45]⟩ : ByteArray) ++ ⟨(Lib.decDigits n).toArray⟩) = ⟨(45 :: Lib.decDigits n).toArray⟩ := by
  apply ByteArray.ext
  simp
set_option maxHeartbeats 1000000 in
set_option maxRecDepth 100000 in
theorem itext_any (z : Int) (w : World) (hz : Fit z.natAbs) : Calls Tryz.prog 120 #[IV z] w fun e w' => e = .returned (itx z) ∧ Ext w w' := by
  have hl := hz.dec
  have hs : ¬ 9223372036854775807 < 1 + (⟨(Lib.decDigits z.natAbs).toArray⟩ : ByteArray).size := by rw [dtx_size]; omega
  rcases (by omega : z < 0 ∨ 0 ≤ z) with h | h
  · have hd : decide (z < 0) = true := decide_eq_true h
    have hr : Lib.itoa z = 45 :: Lib.decDigits z.natAbs := itoa_of_neg h
    have hc := cat45 z.natAbs
    unfold IV itx
    rw [hd, hr]
    generalize z.natAbs = n at *
    clear h hd hr
    go_enter Tryz.func120, Tryz.ntmps120
    go_wp2_with fail
    go_ret
    exact ⟨rfl, (Ext.rfl' _).al _⟩
  · have hd : decide (z < 0) = false := decide_eq_false (by omega)
    have hr : Lib.itoa z = Lib.decDigits z.natAbs := itoa_of_nonneg h
    unfold IV itx
    rw [hd, hr]
    generalize z.natAbs = n at *
    clear h hd hr
    go_enter Tryz.func120, Tryz.ntmps120
    go_wp2_with fail
    go_ret
    exact ⟨rfl, (Ext.rfl' _).al _⟩
set_option maxHeartbeats 1000000 in
set_option maxRecDepth 100000 in
theorem opposite_any (z : Int) (w : World) : Calls Tryz.prog 122 #[IV z] w fun e w' => e = .returned (IV (-z)) ∧ Ext w w' := by
  generalize hy : -z = y
  go_enter Tryz.func122, Tryz.ntmps122
  go_wp2_with fail
  refine (with_any _ _ _).mono ?_
  rintro e w1 ⟨rfl, hE⟩
  have E1 : Ext w w1 := (((Ext.rfl' w).al _).al _).tr hE
  have B1 := ((Bx.new (w.alloc (.cells #[.bool (decide (z < 0)), dtx z.natAbs] 162)) #[.bool false, .string ⟨#[]⟩] 162)).ext hE
  rw [World.size_alloc] at B1
  have c0 := B1.c0
  have c1 := B1.c1
  have f0 := B1.f 0
  have f1 := B1.f 1
  have hz : (if (!decide (z < 0)) = true then -((z.natAbs : Nat) : Int) else (z.natAbs : Int)) = y := by
    by_cases h : z < 0
    · simp [h]; omega
    · simp [h]; omega
  rw [hz]
  go_wp2_with fail
  obtain ⟨d0, d1⟩ := set2 B1 (.bool (decide (y < 0))) (dtx y.natAbs)
  have E2 := ext_set2 (b := w.heap.size + 1) E1 (by omega) (.bool (decide (y < 0))) (dtx y.natAbs)
  refine bodyPost_ret (v := IV y) ?_ rfl ⟨rfl, E2⟩
  simp [results, Tryz.f122, go_sem, d0, d1]
theorem Bx.set {w : World} {b : Nat} {cs : Array Value} {T : TypeId} (h : Bx w b cs T) {p : Addr} (hp : b ≠ p.block) (u : Value) : Bx (w.setCell p u) b cs T := (Below.heap_setCell w p u b hp).trans h
theorem boxes2 (w : World) (A B : Array Value) (T : TypeId) : Bx ((w.alloc (.cells A T)).alloc (.cells B T)) w.heap.size A T ∧ Bx ((w.alloc (.cells A T)).alloc (.cells B T)) (w.heap.size + 1) B T ∧ Ext w ((w.alloc (.cells A T)).alloc (.cells B T)) := by
  refine ⟨(Bx.new w A T).al _, ?_, ((Ext.rfl' w).al _).al _⟩
  have := Bx.new (w.alloc (.cells A T)) B T
  rwa [World.size_alloc] at this
theorem boxes3 (w : World) (A B C : Array Value) (T : TypeId) : Bx (((w.alloc (.cells A T)).alloc (.cells B T)).alloc (.cells C T)) w.heap.size A T ∧ Bx (((w.alloc (.cells A T)).alloc (.cells B T)).alloc (.cells C T)) (w.heap.size + 1) B T ∧ Bx (((w.alloc (.cells A T)).alloc (.cells B T)).alloc (.cells C T)) (w.heap.size + 1 + 1) C T ∧ Ext w (((w.alloc (.cells A T)).alloc (.cells B T)).alloc (.cells C T)) := by
  obtain ⟨h1, h2, h3⟩ := boxes2 w A B T
  refine ⟨h1.al _, h2.al _, ?_, h3.al _⟩
  have := Bx.new ((w.alloc (.cells A T)).alloc (.cells B T)) C T
  rw [World.size_alloc, World.size_alloc] at this
  exact this
theorem sign_mul (a b : Int) : (if (!(decide (a < 0) == decide (b < 0))) = true then -((a.natAbs * b.natAbs : Nat) : Int) else ((a.natAbs * b.natAbs : Nat) : Int)) = a * b := by
  rw [Int.natCast_mul]
  by_cases h : a < 0
  · have ha : (a.natAbs : Int) = -a := by omega
    by_cases k : b < 0
    · have hb : (b.natAbs : Int) = -b := by omega
      rw [ha, hb, decide_eq_true h, decide_eq_true k]
      simp [Int.neg_mul_neg]
    · have hb : (b.natAbs : Int) = b := by omega
      rw [ha, hb, decide_eq_true h, decide_eq_false k]
      simp [Int.neg_mul]
  · have ha : (a.natAbs : Int) = a := by omega
    by_cases k : b < 0
    · have hb : (b.natAbs : Int) = -b := by omega
      rw [ha, hb, decide_eq_false h, decide_eq_true k]
      simp [Int.mul_neg]
    · have hb : (b.natAbs : Int) = b := by omega
      rw [ha, hb, decide_eq_false h, decide_eq_false k]
      simp

set_option maxHeartbeats 1000000 in
set_option maxRecDepth 100000 in
theorem times_i (a b : Int) (w : World) (hW : Wd w) (ha : Fit a.natAbs) (hb : Fit b.natAbs) (hr : Fit (a.natAbs * b.natAbs)) : Calls Tryz.prog 119 #[IV a, IV b] w fun e w' => e = .returned (IV (a * b)) ∧ Ext w w' := by
  have hs := sign_mul a b
  generalize a * b = y at hs ⊢
  go_enter Tryz.func119, Tryz.ntmps119
  go_wp2_with fail
  obtain ⟨X1, X2, X3, E0⟩ := boxes3 w #[.bool (decide (a < 0)), dtx a.natAbs] #[.bool (decide (b < 0)), dtx b.natAbs] #[.bool false, .string ⟨#[]⟩] 162
  refine (Mul_n _ _ _ (hW.ext E0) ha hb hr).mono ?_
  rintro e w1 ⟨rfl, hE1⟩
  have E1 := E0.tr hE1
  have Y1 := X1.ext hE1
  have Y2 := X2.ext hE1
  have Y3 := X3.ext hE1
  have c1 := Y1.c0
  have c2 := Y2.c0
  clear X1 X2 X3 hE1 E0
  go_wp2_with fail
  refine (with_any _ _ _).mono ?_
  rintro e w9 ⟨rfl, hE9⟩
  rw [hs]
  have E9 := E1.tr hE9
  have Y9 := Y3.ext hE9
  have f0 := Y9.f 0
  have f1 := Y9.f 1
  have g0 := Y9.c0
  have g1 := Y9.c1
  go_wp2_with fail
  obtain ⟨d0, d1⟩ := set2 Y9 (.bool (decide (y < 0))) (dtx y.natAbs)
  refine bodyPost_ret (v := IV y) ?_ rfl ⟨rfl, ext_set2 (b := w.heap.size + 1 + 1) E9 (by omega) _ _⟩
  simp [results, Tryz.f119, go_sem, d0, d1]

/-- Signs that agree: the sum of the sizes. -/
theorem sign_sum (a b : Int) (h : decide (a < 0) = decide (b < 0)) : (if decide (a < 0) = true then -((a.natAbs + b.natAbs : Nat) : Int) else ((a.natAbs + b.natAbs : Nat) : Int)) = a + b := by
  by_cases h1 : a < 0
  · rw [decide_eq_true h1] at h; have := of_decide_eq_true h.symm
    simp [h1]; omega
  · rw [decide_eq_false h1] at h; have := of_decide_eq_false h.symm
    simp [h1]; omega
set_option maxHeartbeats 1000000 in
set_option maxRecDepth 100000 in
theorem sum_i (a b : Int) (w : World) (hW : Wd w) (ha : Fit a.natAbs) (hb : Fit b.natAbs) (hr : Fit (a.natAbs + b.natAbs)) (hsg : decide (a < 0) = decide (b < 0)) : Calls Tryz.prog 160 #[IV a, IV b] w fun e w' => e = .returned (IV (a + b)) ∧ Ext w w' := by
  have hs := sign_sum a b hsg
  clear hsg
  generalize a + b = y at hs ⊢
  go_enter Tryz.func160, Tryz.ntmps160
  go_wp2_with fail
  obtain ⟨X1, X2, X3, E0⟩ := boxes3 w #[.bool (decide (a < 0)), dtx a.natAbs] #[.bool (decide (b < 0)), dtx b.natAbs] #[.bool false, .string ⟨#[]⟩] 162
  refine (Add_n _ _ _ (hW.ext E0) ha hb hr).mono ?_
  rintro e w1 ⟨rfl, hE1⟩
  have E1 := E0.tr hE1
  have Y1 := X1.ext hE1
  have Y3 := X3.ext hE1
  have c1 := Y1.c0
  clear X1 X2 X3 hE1 E0
  go_wp2_with fail
  refine (with_any _ _ _).mono ?_
  rintro e w9 ⟨rfl, hE9⟩
  rw [hs]
  have E9 := E1.tr hE9
  have Y9 := Y3.ext hE9
  have f0 := Y9.f 0
  have f1 := Y9.f 1
  have g0 := Y9.c0
  have g1 := Y9.c1
  go_wp2_with fail
  obtain ⟨d0, d1⟩ := set2 Y9 (.bool (decide (y < 0))) (dtx y.natAbs)
  refine bodyPost_ret (v := IV y) ?_ rfl ⟨rfl, ext_set2 (b := w.heap.size + 1 + 1) E9 (by omega) _ _⟩
  simp [results, Tryz.f160, go_sem, d0, d1]

/-- Signs that differ: the greater size less the other, with its sign. -/
theorem sign_dif (a b : Int) (h : decide (a < 0) ≠ decide (b < 0)) (hle : b.natAbs ≤ a.natAbs) : (if decide (a < 0) = true then -((a.natAbs - b.natAbs : Nat) : Int) else ((a.natAbs - b.natAbs : Nat) : Int)) = a + b := by
  by_cases h1 : a < 0
  · rw [decide_eq_true h1] at h
    have : ¬ b < 0 := fun k => h (decide_eq_true k).symm
    simp [h1]; omega
  · rw [decide_eq_false h1] at h
    have : b < 0 := by
      rcases (by omega : b < 0 ∨ 0 ≤ b) with k | k
      · exact k
      · exact absurd (decide_eq_false (by omega)).symm h
    simp [h1]; omega
set_option maxHeartbeats 1000000 in
set_option maxRecDepth 100000 in
theorem dif_ge (a b : Int) (w : World) (hW : Wd w) (ha : Fit a.natAbs) (hb : Fit b.natAbs) (hsg : decide (a < 0) ≠ decide (b < 0)) (hle : b.natAbs ≤ a.natAbs) : Calls Tryz.prog 161 #[IV a, IV b] w fun e w' => e = .returned (IV (a + b)) ∧ Ext w w' := by
  have hs := sign_dif a b hsg hle
  have hc := cmpZ_geb hle
  clear hsg
  generalize a + b = y at hs ⊢
  go_enter Tryz.func161, Tryz.ntmps161
  go_wp2_with fail
  obtain ⟨X1, X2, X3, E0⟩ := boxes3 w #[.bool (decide (a < 0)), dtx a.natAbs] #[.bool (decide (b < 0)), dtx b.natAbs] #[.bool false, .string ⟨#[]⟩] 162
  refine (Compare_n _ _ _ ha hb).mono ?_
  rintro e w1 ⟨rfl, hE1⟩
  have E1 := E0.tr hE1
  have Y1 := X1.ext hE1
  have Y2 := X2.ext hE1
  have Y3 := X3.ext hE1
  have c1 := Y1.c1
  have c2 := Y2.c1
  clear X1 X2 X3 hE1 E0
  go_wp2_with fail
  refine (Sub_n _ _ _ (hW.ext E1) ha hb hle).mono ?_
  rintro e w2 ⟨rfl, hE2⟩
  have E2 := E1.tr hE2
  have Z1 := Y1.ext hE2
  have Z3 := Y3.ext hE2
  have c3 := Z1.c0
  clear hE2
  go_wp2_with fail
  refine (with_any _ _ _).mono ?_
  rintro e w9 ⟨rfl, hE9⟩
  rw [hs]
  have E9 := E2.tr hE9
  have Y9 := Z3.ext hE9
  have f0 := Y9.f 0
  have f1 := Y9.f 1
  have g0 := Y9.c0
  have g1 := Y9.c1
  go_wp2_with fail
  obtain ⟨d0, d1⟩ := set2 Y9 (.bool (decide (y < 0))) (dtx y.natAbs)
  refine bodyPost_ret (v := IV y) ?_ rfl ⟨rfl, ext_set2 (b := w.heap.size + 1 + 1) E9 (by omega) _ _⟩
  simp [results, Tryz.f161, go_sem, d0, d1]

set_option maxHeartbeats 1000000 in
set_option maxRecDepth 100000 in
theorem dif_lt (a b : Int) (w : World) (hW : Wd w) (ha : Fit a.natAbs) (hb : Fit b.natAbs) (hsg : decide (a < 0) ≠ decide (b < 0)) (hlt : a.natAbs < b.natAbs) : Calls Tryz.prog 161 #[IV a, IV b] w fun e w' => e = .returned (IV (a + b)) ∧ Ext w w' := by
  have hs := sign_dif b a hsg.symm (by omega)
  rw [Int.add_comm] at hs
  have hc := cmpZ_ltb hlt
  clear hsg
  generalize a + b = y at hs ⊢
  go_enter Tryz.func161, Tryz.ntmps161
  go_wp2_with fail
  obtain ⟨X1, X2, X3, E0⟩ := boxes3 w #[.bool (decide (a < 0)), dtx a.natAbs] #[.bool (decide (b < 0)), dtx b.natAbs] #[.bool false, .string ⟨#[]⟩] 162
  refine (Compare_n _ _ _ ha hb).mono ?_
  rintro e w1 ⟨rfl, hE1⟩
  have E1 := E0.tr hE1
  have Y1 := X1.ext hE1
  have Y2 := X2.ext hE1
  have Y3 := X3.ext hE1
  have c1 := Y1.c1
  have c2 := Y2.c1
  have c3 := Y1.c0
  have c4 := Y2.c0
  have p1 := Y1.f 0
  have p2 := Y1.f 1
  have p3 := Y2.f 0
  have p4 := Y2.f 1
  clear X1 X2 X3 hE1 E0
  go_wp2_with fail
  have Z3 := (((Y3.set (p := ⟨w.heap.size, 0, none⟩) (by simp; omega) (.bool (decide (b < 0)))).set (p := ⟨w.heap.size, 1, none⟩) (by simp; omega) (dtx b.natAbs)).set (p := ⟨w.heap.size + 1, 0, none⟩) (by simp) (.bool (decide (a < 0)))).set (p := ⟨w.heap.size + 1, 1, none⟩) (by simp) (dtx a.natAbs)
  have E2 := ext_set2 (b := w.heap.size + 1) (ext_set2 (b := w.heap.size) E1 (Nat.le_refl _) (.bool (decide (b < 0))) (dtx b.natAbs)) (by omega) (.bool (decide (a < 0))) (dtx a.natAbs)
  have k0 := (set2 Y1 (.bool (decide (b < 0))) (dtx b.natAbs)).1
  have k1 : (((((w1.setCell ⟨w.heap.size, 0, none⟩ (.bool (decide (b < 0)))).setCell ⟨w.heap.size, 1, none⟩ (dtx b.natAbs)).setCell ⟨w.heap.size + 1, 0, none⟩ (.bool (decide (a < 0)))).setCell ⟨w.heap.size + 1, 1, none⟩ (dtx a.natAbs))).cell? ⟨w.heap.size, 0, none⟩ = some (.bool (decide (b < 0))) := by
    rw [World.cell?_setCell_other _ _ _ _ (by simp), World.cell?_setCell_other _ _ _ _ (by simp)]; exact k0
  clear c1 c2 c3 c4 p1 p2 p3 p4 Y1 Y2 Y3 E1 k0
  generalize (((((w1.setCell ⟨w.heap.size, 0, none⟩ (.bool (decide (b < 0)))).setCell ⟨w.heap.size, 1, none⟩ (dtx b.natAbs)).setCell ⟨w.heap.size + 1, 0, none⟩ (.bool (decide (a < 0)))).setCell ⟨w.heap.size + 1, 1, none⟩ (dtx a.natAbs))) = w2 at *
  refine (Sub_n _ _ _ (hW.ext E2) hb ha (Nat.le_of_lt hlt)).mono ?_
  rintro e w3 ⟨rfl, hE3⟩
  have E3 := E2.tr hE3
  have Q3 := Z3.ext hE3
  have k2 := hE3.cell k1
  clear hE3 k1
  go_wp2_with fail
  refine (with_any _ _ _).mono ?_
  rintro e w9 ⟨rfl, hE9⟩
  rw [hs]
  have E9 := E3.tr hE9
  have Y9 := Q3.ext hE9
  have f0 := Y9.f 0
  have f1 := Y9.f 1
  have g0 := Y9.c0
  have g1 := Y9.c1
  go_wp2_with fail
  obtain ⟨d0, d1⟩ := set2 Y9 (.bool (decide (y < 0))) (dtx y.natAbs)
  refine bodyPost_ret (v := IV y) ?_ rfl ⟨rfl, ext_set2 (b := w.heap.size + 1 + 1) E9 (by omega) _ _⟩
  simp [results, Tryz.f161, go_sem, d0, d1]

theorem dif_i (a b : Int) (w : World) (hW : Wd w) (ha : Fit a.natAbs) (hb : Fit b.natAbs) (hsg : decide (a < 0) ≠ decide (b < 0)) : Calls Tryz.prog 161 #[IV a, IV b] w fun e w' => e = .returned (IV (a + b)) ∧ Ext w w' := by
  rcases Nat.lt_or_ge a.natAbs b.natAbs with h | h
  · exact dif_lt a b w hW ha hb hsg h
  · exact dif_ge a b w hW ha hb hsg h
end Go.Proofs.YtadimepmoljnpaaGreatDoor.GB
