import Derived.Test.YtadimepmoljnpaaGreatDoorMUa
import Derived.Laws.EntriesVeiled
namespace Go.Proofs.YtadimepmoljnpaaGreatDoor.GB
set_option linter.unusedVariables false
set_option linter.unusedSimpArgs false
open Go.RowKit Go.Shelf
attribute [local go_sem] Oper.semAt_some
/-- The boxes of count: the range, the two counters, the functions, the number, the chain's polynomial. -/
structure St (w : World) (g : Nat) (v lo hi : Value) (A B : Int × Int) (k : Int) (W : World) : Prop where
  b0 : Bx W g #[lo] 24
  b1 : Bx W (g + 1) #[hi] 24
  b2 : Bx W (g + 2) #[.int .i64 A.1] 3
  b3 : Bx W (g + 3) #[.int .i64 A.2] 3
  b4 : Bx W (g + 4) #[.int .i64 B.1] 3
  b5 : Bx W (g + 5) #[.int .i64 B.2] 3
  b6 : Bx W (g + 6) #[cnt0 (g + 2)] 134
  b7 : Bx W (g + 7) #[cnt0 (g + 4)] 134
  b8 : Bx W (g + 8) #[.int .i64 k] 3
  b9 : Bx W (g + 9) #[v] 23
  bl : Below g w W
theorem St.ext {w : World} {g : Nat} {v lo hi : Value} {A B : Int × Int} {k : Int} {W W' : World} (h : St w g v lo hi A B k W) (hE : Ext W W') : St w g v lo hi A B k W' :=
  ⟨h.b0.ext hE, h.b1.ext hE, h.b2.ext hE, h.b3.ext hE, h.b4.ext hE, h.b5.ext hE, h.b6.ext hE, h.b7.ext hE, h.b8.ext hE, h.b9.ext hE, h.bl.trans (hE.mono (Nat.le_of_lt h.b0.lt))⟩
theorem St.kept {w : World} {g : Nat} {v lo hi : Value} {A B : Int × Int} {k : Int} {W W' : World} {row : Option Nat} (h : St w g v lo hi A B k W) (hg : W.grownBy W' row) (hr : ∀ r, row = some r → g ≤ r ∧ ∃ o : Obj, W.heap[r]? = some o ∧ o.isCells = false) : St w g v lo hi A B k W' :=
  have hr' : ∀ r, row = some r → ∃ o : Obj, W.heap[r]? = some o ∧ o.isCells = false := fun r e => (hr r e).2
  ⟨h.b0.kept hg hr', h.b1.kept hg hr', h.b2.kept hg hr', h.b3.kept hg hr', h.b4.kept hg hr', h.b5.kept hg hr', h.b6.kept hg hr', h.b7.kept hg hr', h.b8.kept hg hr', h.b9.kept hg hr', h.bl.grown hg (Nat.le_of_lt h.b0.lt) (fun r e => (hr r e).1)⟩
theorem Bx.far {s0 a b j : Nat} {w w' : World} {cs : Array Value} {T : TypeId} (h : Bx w j cs T) (hF : Far s0 a b w w') (h1 : j ≠ a) (h2 : j ≠ b) : Bx w' j cs T := (hF.o j h.lt h1 h2).trans h
theorem Far.keeps {s0 a b : Nat} {w w' : World} (hF : Far s0 a b w w') {cs cs' : Array Value} {T T' : TypeId} (h1 : Bx w a cs T) (h2 : Bx w b cs' T') : KeepsOthers w w' := ⟨hF.s, fun i o hi ho => by
  refine (hF.o i (Array.getElem?_eq_some_iff.1 hi).1 ?_ ?_).trans hi
  · intro e; subst e; rw [h1] at hi; cases hi; simp [Obj.isCells] at ho
  · intro e; subst e; rw [h2] at hi; cases hi; simp [Obj.isCells] at ho⟩
theorem Far.ik {s0 a b : Nat} {w w' : World} (hF : Far s0 a b w w') {x y x' y' : Int} {T T' : TypeId} (h1 : Bx w a #[.int .i64 x] T) (h2 : Bx w b #[.int .i64 y] T') (k1 : Bx w' a #[.int .i64 x'] T) (k2 : Bx w' b #[.int .i64 y'] T') : IK s0 w w' := ⟨hF.b, hF.s, fun i cs U fr e => by
  by_cases e1 : i = a
  · subst e1; rw [h1] at e; cases e; exact .inr ⟨x, x', rfl, k1⟩
  · by_cases e2 : i = b
    · subst e2; rw [h2] at e; cases e; exact .inr ⟨y, y', rfl, k2⟩
    · exact .inl ((hF.o i (Array.getElem?_eq_some_iff.1 e).1 e1 e2).trans e)⟩
/-- What a step of the body does: it keeps all but the boxes of numbers. -/
def Stp (g : Nat) (W W' : World) : Prop := KeepsOthers W W' ∧ IK g W W'
theorem Stp.tr {g : Nat} {A B C : World} (h : Stp g A B) (k : Stp g B C) : Stp g A C := ⟨h.1.trans k.1, h.2.tr k.2⟩
theorem Stp.ext {g : Nat} {A B : World} (h : Ext A B) (hs : g ≤ A.heap.size) : Stp g A B := ⟨ext_keeps h, IK.ext h hs⟩
section
variable {w : World} {g : Nat} {v lo hi : Value} {A B : Int × Int} {k : Int}
theorem St.callA (hg : w.heap.size = g) (x : Rat) (n : Nat) (hx : Bd x n) (hk : n + 4 ≤ KK) (hA1 : -1 ≤ A.1 ∧ A.1 ≤ 1) (hA2 : 0 ≤ A.2 ∧ A.2 ≤ 1000) (hW : Wd w) (W : World) (h : St w g v lo hi A B k W) :
    Calls Tryz.prog 137 #[rtx x, .pointer (some ⟨g + 2, 0, none⟩), .pointer (some ⟨g + 3, 0, none⟩)] W fun e W' => e = .returned (.int .i64 (chg A (sgq x.num)).2) ∧ St w g v lo hi (chg A (sgq x.num)) B k W' ∧ Stp g W W' := by
  refine (chg_one x n W (hW.ext (by unfold Ext; rw [hg]; exact h.bl)) hx hk (g + 2) (g + 3) g (by omega) (by omega) (by omega) A.1 A.2 hA1 hA2 h.b2 h.b3).mono ?_
  rintro e W' ⟨rfl, k1, k2, hF⟩
  exact ⟨rfl, ⟨h.b0.far hF (by omega) (by omega), h.b1.far hF (by omega) (by omega), k1, k2, h.b4.far hF (by omega) (by omega), h.b5.far hF (by omega) (by omega), h.b6.far hF (by omega) (by omega), h.b7.far hF (by omega) (by omega), h.b8.far hF (by omega) (by omega), h.b9.far hF (by omega) (by omega), h.bl.trans hF.b⟩, hF.keeps h.b2 h.b3, hF.ik h.b2 h.b3 k1 k2⟩
theorem St.callB (hg : w.heap.size = g) (x : Rat) (n : Nat) (hx : Bd x n) (hk : n + 4 ≤ KK) (hA1 : -1 ≤ B.1 ∧ B.1 ≤ 1) (hA2 : 0 ≤ B.2 ∧ B.2 ≤ 1000) (hW : Wd w) (W : World) (h : St w g v lo hi A B k W) :
    Calls Tryz.prog 137 #[rtx x, .pointer (some ⟨g + 4, 0, none⟩), .pointer (some ⟨g + 4 + 1, 0, none⟩)] W fun e W' => e = .returned (.int .i64 (chg B (sgq x.num)).2) ∧ St w g v lo hi A (chg B (sgq x.num)) k W' ∧ Stp g W W' := by
  refine (chg_one x n W (hW.ext (by unfold Ext; rw [hg]; exact h.bl)) hx hk (g + 4) (g + 5) g (by omega) (by omega) (by omega) B.1 B.2 hA1 hA2 h.b4 h.b5).mono ?_
  rintro e W' ⟨rfl, k1, k2, hF⟩
  exact ⟨rfl, ⟨h.b0.far hF (by omega) (by omega), h.b1.far hF (by omega) (by omega), h.b2.far hF (by omega) (by omega), h.b3.far hF (by omega) (by omega), k1, k2, h.b6.far hF (by omega) (by omega), h.b7.far hF (by omega) (by omega), h.b8.far hF (by omega) (by omega), h.b9.far hF (by omega) (by omega), h.bl.trans hF.b⟩, hF.keeps h.b4 h.b5, hF.ik h.b4 h.b5 k1 k2⟩
theorem St.put (hg : w.heap.size = g) (W : World) (h : St w g v lo hi A B k W) (k' : Int) : St w g v lo hi A B k' (W.setCell ⟨g + 8, 0, none⟩ (.int .i64 k')) ∧ Stp g W (W.setCell ⟨g + 8, 0, none⟩ (.int .i64 k')) :=
  have q := IK.set (s0 := g) h.b8 (by omega) k'
  ⟨⟨h.b0.set (by simp) _, h.b1.set (by simp) _, h.b2.set (by simp) _, h.b3.set (by simp) _, h.b4.set (by simp) _, h.b5.set (by simp) _, h.b6.set (by simp) _, h.b7.set (by simp) _, h.b8.put 0 _, h.b9.set (by simp) _, h.bl.trans q.1⟩, KeepsOthers.setCell _ _ _, q⟩
theorem St.cells {W : World} (h : St w g v lo hi A B k W) : W.cell? ⟨g, 0, none⟩ = some lo ∧ W.cell? ⟨g + 1, 0, none⟩ = some hi ∧ W.cell? ⟨g + 6, 0, none⟩ = some (cnt0 (g + 2)) ∧ W.cell? ⟨g + 7, 0, none⟩ = some (cnt0 (g + 4)) ∧ W.cell? ⟨g + 8, 0, none⟩ = some (.int .i64 k) ∧ W.frozen? ⟨g + 8, 0, none⟩ = false := ⟨h.b0.c 0, h.b1.c 0, h.b6.c 0, h.b7.c 0, h.b8.c 0, h.b8.f 0⟩
theorem St.dr {W : World} (h : St w g v lo hi A B k W) : St w g v lo hi A B k W.drew := h.ext (Ext.rfl' _).dr
end
theorem St.start (w : World) (v lo hi : Value) : St w w.heap.size v lo hi (0, 0) (0, 0) 0 (((((((((((w).alloc (.cells #[lo] 24)).alloc (.cells #[hi] 24)).alloc (.cells #[.int .i64 0] 3)).alloc (.cells #[.int .i64 0] 3)).alloc (.cells #[.int .i64 0] 3)).alloc (.cells #[.int .i64 0] 3)).alloc (.cells #[cnt0 (w.heap.size + 2)] 134)).alloc (.cells #[cnt0 (w.heap.size + 4)] 134)).alloc (.cells #[.int .i64 0] 3)).alloc (.cells #[v] 23)) := by
  have b0 := ((((((((((Bx.new (w) #[lo] 24).al (.cells #[hi] 24)).al (.cells #[.int .i64 0] 3)).al (.cells #[.int .i64 0] 3)).al (.cells #[.int .i64 0] 3)).al (.cells #[.int .i64 0] 3)).al (.cells #[cnt0 (w.heap.size + 2)] 134)).al (.cells #[cnt0 (w.heap.size + 4)] 134)).al (.cells #[.int .i64 0] 3)).al (.cells #[v] 23))
  have b1 := (((((((((Bx.new ((w).alloc (.cells #[lo] 24)) #[hi] 24).al (.cells #[.int .i64 0] 3)).al (.cells #[.int .i64 0] 3)).al (.cells #[.int .i64 0] 3)).al (.cells #[.int .i64 0] 3)).al (.cells #[cnt0 (w.heap.size + 2)] 134)).al (.cells #[cnt0 (w.heap.size + 4)] 134)).al (.cells #[.int .i64 0] 3)).al (.cells #[v] 23))
  have b2 := ((((((((Bx.new (((w).alloc (.cells #[lo] 24)).alloc (.cells #[hi] 24)) #[.int .i64 0] 3).al (.cells #[.int .i64 0] 3)).al (.cells #[.int .i64 0] 3)).al (.cells #[.int .i64 0] 3)).al (.cells #[cnt0 (w.heap.size + 2)] 134)).al (.cells #[cnt0 (w.heap.size + 4)] 134)).al (.cells #[.int .i64 0] 3)).al (.cells #[v] 23))
  have b3 := (((((((Bx.new ((((w).alloc (.cells #[lo] 24)).alloc (.cells #[hi] 24)).alloc (.cells #[.int .i64 0] 3)) #[.int .i64 0] 3).al (.cells #[.int .i64 0] 3)).al (.cells #[.int .i64 0] 3)).al (.cells #[cnt0 (w.heap.size + 2)] 134)).al (.cells #[cnt0 (w.heap.size + 4)] 134)).al (.cells #[.int .i64 0] 3)).al (.cells #[v] 23))
  have b4 := ((((((Bx.new (((((w).alloc (.cells #[lo] 24)).alloc (.cells #[hi] 24)).alloc (.cells #[.int .i64 0] 3)).alloc (.cells #[.int .i64 0] 3)) #[.int .i64 0] 3).al (.cells #[.int .i64 0] 3)).al (.cells #[cnt0 (w.heap.size + 2)] 134)).al (.cells #[cnt0 (w.heap.size + 4)] 134)).al (.cells #[.int .i64 0] 3)).al (.cells #[v] 23))
  have b5 := (((((Bx.new ((((((w).alloc (.cells #[lo] 24)).alloc (.cells #[hi] 24)).alloc (.cells #[.int .i64 0] 3)).alloc (.cells #[.int .i64 0] 3)).alloc (.cells #[.int .i64 0] 3)) #[.int .i64 0] 3).al (.cells #[cnt0 (w.heap.size + 2)] 134)).al (.cells #[cnt0 (w.heap.size + 4)] 134)).al (.cells #[.int .i64 0] 3)).al (.cells #[v] 23))
  have b6 := ((((Bx.new (((((((w).alloc (.cells #[lo] 24)).alloc (.cells #[hi] 24)).alloc (.cells #[.int .i64 0] 3)).alloc (.cells #[.int .i64 0] 3)).alloc (.cells #[.int .i64 0] 3)).alloc (.cells #[.int .i64 0] 3)) #[cnt0 (w.heap.size + 2)] 134).al (.cells #[cnt0 (w.heap.size + 4)] 134)).al (.cells #[.int .i64 0] 3)).al (.cells #[v] 23))
  have b7 := (((Bx.new ((((((((w).alloc (.cells #[lo] 24)).alloc (.cells #[hi] 24)).alloc (.cells #[.int .i64 0] 3)).alloc (.cells #[.int .i64 0] 3)).alloc (.cells #[.int .i64 0] 3)).alloc (.cells #[.int .i64 0] 3)).alloc (.cells #[cnt0 (w.heap.size + 2)] 134)) #[cnt0 (w.heap.size + 4)] 134).al (.cells #[.int .i64 0] 3)).al (.cells #[v] 23))
  have b8 := ((Bx.new (((((((((w).alloc (.cells #[lo] 24)).alloc (.cells #[hi] 24)).alloc (.cells #[.int .i64 0] 3)).alloc (.cells #[.int .i64 0] 3)).alloc (.cells #[.int .i64 0] 3)).alloc (.cells #[.int .i64 0] 3)).alloc (.cells #[cnt0 (w.heap.size + 2)] 134)).alloc (.cells #[cnt0 (w.heap.size + 4)] 134)) #[.int .i64 0] 3).al (.cells #[v] 23))
  have b9 := (Bx.new ((((((((((w).alloc (.cells #[lo] 24)).alloc (.cells #[hi] 24)).alloc (.cells #[.int .i64 0] 3)).alloc (.cells #[.int .i64 0] 3)).alloc (.cells #[.int .i64 0] 3)).alloc (.cells #[.int .i64 0] 3)).alloc (.cells #[cnt0 (w.heap.size + 2)] 134)).alloc (.cells #[cnt0 (w.heap.size + 4)] 134)).alloc (.cells #[.int .i64 0] 3)) #[v] 23)
  simp only [World.size_alloc, Nat.add_assoc, Nat.reduceAdd] at b1 b2 b3 b4 b5 b6 b7 b8 b9
  refine ⟨b0, b1, b2, b3, b4, b5, b6, b7, b8, b9, ?_⟩
  exact (((((((((((Ext.rfl' w).al (.cells #[lo] 24)).al (.cells #[hi] 24)).al (.cells #[.int .i64 0] 3)).al (.cells #[.int .i64 0] 3)).al (.cells #[.int .i64 0] 3)).al (.cells #[.int .i64 0] 3)).al (.cells #[cnt0 (w.heap.size + 2)] 134)).al (.cells #[cnt0 (w.heap.size + 4)] 134)).al (.cells #[.int .i64 0] 3)).al (.cells #[v] 23))
theorem PS.putObj {W : World} {v : Value} {p : Pl} (h : PS W v p) {l : Nat} {o : Obj} (o' : Obj) (hl : W.heap[l]? = some o) (ho : o.isCells = false) : PS (W.putObj l o') v p := by
  obtain ⟨A, c, rfl, h1, h2, h3⟩ := h
  refine ⟨A, c, rfl, h1, h2, fun j hj => ?_⟩
  obtain ⟨b, off, e, hb, hc⟩ := h3 j hj
  obtain ⟨cs, T, fr, e2, -⟩ := cell_block hc
  have hbl : b ≠ l := by
    intro e3; subst e3
    rw [hl] at e2; cases e2; simp [Obj.isCells] at ho
  exact ⟨b, off, e, by have := (grownBy_putObj' W l o').size; omega, (World.cell?_of_block (w := W) (w' := W.putObj l o') (a := ⟨b, off + j, none⟩) (World.putObj_heap_other hbl)).trans hc⟩
theorem bd_eval9 {q : Pl} {X : Rat} {n N k : Nat} (hp : PB q k) (hl : q.length ≤ 17) (hX : Bd X n) (h : 17 * (n + k + 1) ≤ N) : Bd (pev q X) N := (pev_bd hp hX).mono (by
  have := Nat.mul_le_mul_right (n + k + 1) hl; omega)
theorem kk_eval {n : Nat} (h : n ≤ 1000000000) : 20 * (n + 1000000000 + 1) + 20 ≤ KK := Nat.le_trans (by omega : 20 * (n + 1000000000 + 1) + 20 ≤ 100000000000) kk10
theorem le_help {n a b N : Nat} (h : n ≤ a) (h2 : 17 * (a + b + 1) = N) : 17 * (n + b + 1) ≤ N := by
  subst h2; exact Nat.mul_le_mul_left 17 (by omega)
theorem kk_eval2 {n : Nat} (h : n ≤ 1000000000) : 17 * (n + 1000000000 + 1) ≤ 40000000000 := Nat.le_trans (le_help h (by simp : 17 * (1000000000 + 1000000000 + 1) = 34000000017)) (by simp)
def YPs (pre : List YP) : List Pl := pre.map Prod.snd
theorem YPs_snoc (pre : List YP) (x : YP) : YPs (pre ++ [x]) = YPs pre ++ [x.2] := by simp [YPs]
theorem YPs_len (pre : List YP) : (YPs pre).length = pre.length := by simp [YPs]
theorem sgn_eval (x : Rat) (q : Pl) : sgnAt x q = sgq (pev q x).num := rfl
set_option maxHeartbeats 8000000 in
set_option maxRecDepth 200000 in
theorem scount_v (v : Value) (p : Pl) (lo hi : Rat) (n : Nat) (w : World) (hW : Wd w) (hps : PS w v p) (hp0 : p ≠ []) (hl : p.length ≤ 6) (hsi : SI p (pder p) 5000000 5000000 6 1000000000) (hlo : Bd lo n) (hhi : Bd hi n) (hn : n ≤ 1000000000) :
    Calls Tryz.prog 49 #[v, rtx lo, rtx hi] w fun e w' => e = .returned (.int .i64 (cntP p lo hi)) ∧ Ext w w' := by
  refine (callsIn_wide (n := 5)).1 ?_
  have kk := kk10
  obtain ⟨Av, cv, rfl⟩ := hps.sl
  have HPS := Lib.hid hps
  have HSI := Lib.hid hsi
  have HP0 := Lib.hid hp0
  have HW := Lib.hid hW
  have HLo := Lib.hid hlo
  have HHi := Lib.hid hhi
  have HN := Lib.hid hn
  have HL := Lib.hid hl
  clear hps hsi hp0 hW hlo hhi hn hl
  have HS0 := Lib.hid (St.start w (.slice Av p.length cv) (rtx lo) (rtx hi))
  unfold cnt0 at HS0
  refine callsIn_of_wp_marks Tryz.func49 rfl trivial ?_ rfl
  simp only [Tryz.ntmps49, List.size_toArray, List.length_cons, List.length_nil, Nat.reduceAdd, Nat.reduceSub, Array.replicate_succ, Array.replicate_zero, List.push_toArray, List.append_toArray, List.nil_append, List.cons_append]
  gi_wp2
  refine ⟨trivial, ?_⟩
  refine (callsIn_wide.2 (chg_new _)).mono ?_
  rintro e w1 ⟨rfl, rfl⟩
  gi_wp2
  refine ⟨trivial, ?_⟩
  refine (callsIn_wide.2 (chg_new _)).mono ?_
  rintro e w1 ⟨rfl, rfl⟩
  unfold cnt0
  simp only [World.size_alloc, Nat.add_assoc, Nat.reduceAdd]
  gi_wp2
  refine ⟨trivial, ?_⟩
  refine (callsIn_wide.2 (schain_v Av p.length cv _)).mono ?_
  rintro e w1 ⟨rfl, rfl⟩
  simp only [World.size_alloc, Nat.add_assoc, Nat.reduceAdd]
  gi_wp2
  (try simp only [World.size_alloc, Nat.add_assoc, Nat.reduceAdd] at HS0)
  (try simp only [World.size_alloc, Nat.add_assoc, Nat.reduceAdd])
  obtain ⟨g, hg⟩ : ∃ g, w.heap.size = g := ⟨_, rfl⟩
  rw [hg] at HS0 ⊢
  obtain ⟨V, hV⟩ : ∃ V, V = ((((((((((w).alloc (.cells #[rtx lo] 24)).alloc (.cells #[rtx hi] 24)).alloc (.cells #[.int .i64 0] 3)).alloc (.cells #[.int .i64 0] 3)).alloc (.cells #[.int .i64 0] 3)).alloc (.cells #[.int .i64 0] 3)).alloc (.cells #[.func (.func 137) #[] #[.pointer (some ⟨g + 2, 0, none⟩), .pointer (some ⟨g + 3, 0, none⟩)]] 134)).alloc (.cells #[.func (.func 137) #[] #[.pointer (some ⟨g + 4, 0, none⟩), .pointer (some ⟨g + 5, 0, none⟩)]] 134)).alloc (.cells #[.int .i64 0] 3)).alloc (.cells #[.slice Av p.length cv] 23) := ⟨_, rfl⟩
  rw [← hV] at HS0 ⊢
  have HG := Lib.hid hg
  clear hV hg
  obtain ⟨Q, hQ⟩ : ∃ Q : World → Prop, Q = fun W => Below g w W ∧ PS W (.slice Av p.length cv) p := ⟨_, rfl⟩
  have hb9 := HS0.out.b9
  have hEV : Ext w V := by unfold Ext; rw [HG.out]; exact HS0.out.bl
  have hst := chain_R (5 - 1) (by omega) (g + 9) g (.slice Av p.length cv) p w V HG.out HS0.out.bl hb9.lt (hb9.c 0) HW.out (HPS.out.ext hEV) HP0.out HL.out HSI.out
  have hgV : g ≤ V.heap.size := Nat.le_of_lt HS0.out.b0.lt
  refine wpIn_range_R (F := Fence.wide) rfl (by omega) (gf := 138) (lb := #[.pointer (some ⟨g + 9, 0, none⟩)]) rfl trivial (enters_of Tryz.func138 (by kernel_rfl) rfl)
    hst IK.tr (fun W l o o' h1 h2 h3 h4 => IK.b hgV W l o o' h1 h2 h3 h4) (fun x W l o o' h1 h2 h3 h => ⟨h.1.putObj o' h2 h3, h.2⟩) (Below.refl _ _) (fun _ => rfl)
    (fun pre W => St w g (.slice Av p.length cv) (rtx lo) (rtx hi) (chgs (YPs pre) lo) (chgs (YPs pre) hi) ((chgs (YPs pre) lo).2 - (chgs (YPs pre) hi).2) W)
    (fun pre X Y row hs hx hr => St.kept hs hx fun r e => ⟨Nat.le_trans hgV (hr r e).1, (hr r e).2⟩)
    HS0.out
    (fun x => { tmps := #[.slice Av p.length cv, rtx lo, rtx hi, undef, .pointer (some ⟨g, 0, none⟩), .pointer (some ⟨g + 1, 0, none⟩), .int .i64 0, .pointer (some ⟨g + 6, 0, none⟩), .pointer (some ⟨g + 7, 0, none⟩), .pointer (some ⟨g + 8, 0, none⟩), x.1, undef, undef, undef, undef, .func (.func 137) #[] #[.pointer (some ⟨g + 2, 0, none⟩), .pointer (some ⟨g + 3, 0, none⟩)], .func (.func 137) #[] #[.pointer (some ⟨g + 4, 0, none⟩), .pointer (some ⟨g + 5, 0, none⟩)], .slice Av p.length cv, .func (.func 138) #[] #[.pointer (some ⟨g + 9, 0, none⟩)], x.1, undef, undef, undef, undef, undef, undef, undef, undef, undef, undef, undef, undef, undef, undef, undef, undef, undef, undef, undef, undef], defers := [] }) ?assign ?body ?done
  case assign =>
    rintro l ⟨u, q⟩ W K hK
    simp only [encY] at hK ⊢
    gi_wp2
    exact hK
  case body =>
    rintro l pre ⟨u, q⟩ W hst hx hlen
    have hpo : PO W u q 1000000000 := hx
    have HSt := Lib.hid hst
    have HWW : Hid (Wd W) := HW.out.ext (by unfold Ext; rw [HG.out]; exact hst.bl)
    have hgW : g ≤ W.heap.size := Nat.le_of_lt hst.b0.lt
    have HEv : Hid (∀ W' X, Ext W W' → Bd X n → Calls Tryz.prog 28 #[u, rtx X] W' (RetR W' (pev q X))) := fun W' X hE hX =>
      Eval_p u q 1000000000 W' (HWW.out.ext hE) (hpo.ext hE) X n hX (kk_eval HN.out)
    have HBd : Hid (∀ X, Bd X n → Bd (pev q X) 40000000000) := fun X hX => bd_eval9 hpo.2.1 hpo.2.2.2 hX (kk_eval2 HN.out)
    have hla := chgs_le (YPs pre) lo
    have hlb := chgs_le (YPs pre) hi
    have hlen2 : (YPs pre).length ≤ 7 := by rw [YPs_len]; omega
    have HA : Hid ((-1 ≤ (chgs (YPs pre) lo).1 ∧ (chgs (YPs pre) lo).1 ≤ 1) ∧ (0 ≤ (chgs (YPs pre) lo).2 ∧ (chgs (YPs pre) lo).2 ≤ 1000)) := ⟨chgs_b _ _, by omega⟩
    have HB : Hid ((-1 ≤ (chgs (YPs pre) hi).1 ∧ (chgs (YPs pre) hi).1 ≤ 1) ∧ (0 ≤ (chgs (YPs pre) hi).2 ∧ (chgs (YPs pre) hi).2 ≤ 1000)) := ⟨chgs_b _ _, by omega⟩
    have nla := chgs_le (YPs pre ++ [q]) lo
    have nlb := chgs_le (YPs pre ++ [q]) hi
    rw [chgs_snoc, sgn_eval] at nla nlb
    rw [List.length_append, List.length_singleton] at nla nlb
    have HCA : Hid (∀ W', St w g (.slice Av p.length cv) (rtx lo) (rtx hi) (chgs (YPs pre) lo) (chgs (YPs pre) hi) ((chgs (YPs pre) lo).2 - (chgs (YPs pre) hi).2) W' →
        Calls Tryz.prog 137 #[rtx (pev q lo), .pointer (some ⟨g + 2, 0, none⟩), .pointer (some ⟨g + 3, 0, none⟩)] W' fun e W'' => e = .returned (.int .i64 (chg (chgs (YPs pre) lo) (sgq (pev q lo).num)).2) ∧ St w g (.slice Av p.length cv) (rtx lo) (rtx hi) (chg (chgs (YPs pre) lo) (sgq (pev q lo).num)) (chgs (YPs pre) hi) ((chgs (YPs pre) lo).2 - (chgs (YPs pre) hi).2) W'' ∧ Stp g W' W'') := fun W' h =>
      St.callA HG.out (pev q lo) 40000000000 (HBd.out lo HLo.out) (by omega) HA.out.1 HA.out.2 HW.out W' h
    have HCB : Hid (∀ W', St w g (.slice Av p.length cv) (rtx lo) (rtx hi) (chg (chgs (YPs pre) lo) (sgq (pev q lo).num)) (chgs (YPs pre) hi) ((chgs (YPs pre) lo).2 - (chgs (YPs pre) hi).2) W' →
        Calls Tryz.prog 137 #[rtx (pev q hi), .pointer (some ⟨g + 4, 0, none⟩), .pointer (some ⟨g + 5, 0, none⟩)] W' fun e W'' => e = .returned (.int .i64 (chg (chgs (YPs pre) hi) (sgq (pev q hi).num)).2) ∧ St w g (.slice Av p.length cv) (rtx lo) (rtx hi) (chg (chgs (YPs pre) lo) (sgq (pev q lo).num)) (chg (chgs (YPs pre) hi) (sgq (pev q hi).num)) ((chgs (YPs pre) lo).2 - (chgs (YPs pre) hi).2) W'' ∧ Stp g W' W'') := fun W' h =>
      St.callB HG.out (pev q hi) 40000000000 (HBd.out hi HHi.out) (by omega) HB.out.1 HB.out.2 HW.out W' h
    have HEl := Lib.hid fun W' hE => HEv.out W' lo hE HLo.out
    have HEh := Lib.hid fun W' hE => HEv.out W' hi hE HHi.out
    have HSn : Hid (chgs (YPs (pre ++ [(u, q)])) lo = chg (chgs (YPs pre) lo) (sgq (pev q lo).num) ∧ chgs (YPs (pre ++ [(u, q)])) hi = chg (chgs (YPs pre) hi) (sgq (pev q hi).num)) := by
      unfold Hid; rw [YPs_snoc, chgs_snoc, chgs_snoc]; exact ⟨rfl, rfl⟩
    obtain ⟨c0, c1, -, -, -, -⟩ := hst.cells
    clear hst hx hla hlb HA HB HBd HEv hpo
    generalize chg (chgs (YPs pre) lo) (sgq (pev q lo).num) = A2 at *
    generalize chg (chgs (YPs pre) hi) (sgq (pev q hi).num) = B2 at *
    generalize chgs (YPs pre) lo = A1 at *
    generalize chgs (YPs pre) hi = B1 at *
    generalize pev q lo = x1 at *
    generalize pev q hi = x2 at *
    have hwr : IntKind.i64.wrap (A2.2 - B2.2) = A2.2 - B2.2 := by rw [IntKind.wrap_i64]; omega
    clear nla nlb hlen2
    gi_wp2
    refine ⟨trivial, ?_⟩
    refine (CallsIn.inRound l (callsIn_wide.2 (HEl.out W (Ext.rfl' W)))).mono ?_
    rintro e W1 ⟨rfl, hE1⟩
    have HS1 := Lib.hid (HSt.out.ext hE1)
    have HT1 := Lib.hid (Stp.ext hE1 hgW)
    have HE1 := Lib.hid hE1
    obtain ⟨-, d1, -, -, -, -⟩ := HS1.out.cells
    clear hE1 c0 c1 HSt HEl
    gi_wp2
    refine ⟨trivial, ?_⟩
    refine (CallsIn.inRound l (callsIn_wide.2 (HEh.out W1 HE1.out))).mono ?_
    rintro e W2 ⟨rfl, hE2⟩
    have HS2 := Lib.hid (HS1.out.ext hE2).dr
    have hg1 : g ≤ W1.heap.size := Nat.le_of_lt HS1.out.b0.lt
    have HT2 := Lib.hid ((HT1.out.tr (Stp.ext hE2 hg1)).tr (Stp.ext (Ext.rfl' W2).dr (Nat.le_of_lt (HS1.out.ext hE2).b0.lt)))
    obtain ⟨-, -, e6, e7, -, -⟩ := HS2.out.cells
    clear hE2 d1 HS1 HT1 HEh HE1
    simp only [cnt0, Nat.add_assoc, Nat.reduceAdd] at e6 e7
    gi_wp2
    refine wpIn_region_round rfl (by kernel_rfl) (by kernel_rfl) ?_
    refine wpAnyIn_take (i := 1) (oi := { dst := some 33, op := Go.Op.move (Go.Operand.tmp 11), type := 24, pos := "sturm.go:85", after := #[], guard := none }) (v := ?_) rfl rfl (by kernel_rfl) (by kernel_rfl) (by kernel_rfl) (fun _ _ _ h => h) ⟨Or.inl ⟨by rfl, ?_⟩, fun _ => rfl⟩ ?_
    rotate_left
    · intro w'; go_simp; (try with_reducible rfl)
    try simp only [Act.put, List.setIfInBounds_toArray, List.set_cons_zero, List.set_cons_succ]
    refine wpAnyIn_take (i := 4) (oi := { dst := some 36, op := Go.Op.move (Go.Operand.tmp 13), type := 24, pos := "sturm.go:85", after := #[], guard := none }) (v := ?_) rfl rfl (by kernel_rfl) (by kernel_rfl) (by kernel_rfl) (fun _ _ _ h => h) ⟨Or.inl ⟨by rfl, ?_⟩, fun _ => rfl⟩ ?_
    rotate_left
    · intro w'; go_simp; (try with_reducible rfl)
    try simp only [Act.put, List.setIfInBounds_toArray, List.set_cons_zero, List.set_cons_succ]
    refine wpAnyIn_ready (rs := [0, 3]) (by kernel_rfl) (by simp) ?_
    refine (AllReadyIn.cons (o := { dst := some 32, op := Go.Op.load 134 (Go.Operand.tmp 7), type := 134, pos := "sturm.go:85", after := #[], guard := none }) rfl (fun K hK => ?_) (AllReadyIn.cons (o := { dst := some 35, op := Go.Op.load 134 (Go.Operand.tmp 8), type := 134, pos := "sturm.go:85", after := #[], guard := none }) rfl (fun K hK => ?_) AllReadyIn.nil))
    · skip
      go_simp
      refine hK _ _ ?_
      clear hK K
      try simp only [Act.put, List.setIfInBounds_toArray, List.set_cons_zero, List.set_cons_succ]
      refine wpAnyIn_ready (rs := [2, 3]) (by kernel_rfl) (by simp) ?_
      refine (AllReadyIn.cons (o := { dst := some 34, op := Go.Op.call { callee := Go.Callee.value (Go.Operand.tmp 32), args := #[Go.Operand.tmp 33], argTypes := #[24] }, type := 3, pos := "sturm.go:85", after := #[{ on := 0, ground := Go.Ground.data }, { on := 1, ground := Go.Ground.data }], guard := none }) rfl (fun K hK => ?_) (AllReadyIn.cons (o := { dst := some 35, op := Go.Op.load 134 (Go.Operand.tmp 8), type := 134, pos := "sturm.go:85", after := #[], guard := none }) rfl (fun K hK => ?_) AllReadyIn.nil))
      · skip
        go_simp
        refine ⟨trivial, ?_⟩
        refine (callsIn_wide.2 (HCA.out _ HS2.out)).mono ?_
        rintro e W3 ⟨rfl, h, k⟩
        have HS3 := Lib.hid h
        have HT3 := Lib.hid (HT2.out.tr k)
        obtain ⟨-, -, -, e7b, -, -⟩ := h.cells
        simp only [cnt0, Nat.add_assoc, Nat.reduceAdd] at e7b
        clear h k
        refine hK _ _ ?_
        clear hK K
        try simp only [Act.put, List.setIfInBounds_toArray, List.set_cons_zero, List.set_cons_succ]
        refine wpAnyIn_ready (rs := [3]) (by kernel_rfl) (by simp) ?_
        refine (AllReadyIn.cons (o := { dst := some 35, op := Go.Op.load 134 (Go.Operand.tmp 8), type := 134, pos := "sturm.go:85", after := #[], guard := none }) rfl (fun K hK => ?_) AllReadyIn.nil)
        go_simp
        refine hK _ _ ?_
        clear hK K
        try simp only [Act.put, List.setIfInBounds_toArray, List.set_cons_zero, List.set_cons_succ]
        refine wpAnyIn_ready (rs := [5]) (by kernel_rfl) (by simp) ?_
        refine (AllReadyIn.cons (o := { dst := some 37, op := Go.Op.call { callee := Go.Callee.value (Go.Operand.tmp 35), args := #[Go.Operand.tmp 36], argTypes := #[24] }, type := 3, pos := "sturm.go:85", after := #[{ on := 3, ground := Go.Ground.data }, { on := 4, ground := Go.Ground.data }, { on := 2, ground := Go.Ground.chain }], guard := none }) rfl (fun K hK => ?_) AllReadyIn.nil)
        go_simp
        refine ⟨trivial, ?_⟩
        refine (callsIn_wide.2 (HCB.out _ HS3.out)).mono ?_
        rintro e W4 ⟨rfl, h, k⟩
        have HS4 := Lib.hid h
        have HT4 := Lib.hid (HT3.out.tr k)
        obtain ⟨-, -, -, -, e8, f8⟩ := h.cells
        clear h k
        refine hK _ _ ?_
        clear hK K
        try simp only [Act.put, List.setIfInBounds_toArray, List.set_cons_zero, List.set_cons_succ]
        refine wpAnyIn_take (i := 6) (oi := { dst := some 38, op := Go.Op.binOp Go.BinOp.sub 3 (Go.Operand.tmp 34) (Go.Operand.tmp 37) 3, type := 3, pos := "sturm.go:85", after := #[{ on := 2, ground := Go.Ground.data }, { on := 5, ground := Go.Ground.data }], guard := none }) (v := ?_) rfl rfl (by kernel_rfl) (by kernel_rfl) (by kernel_rfl) (fun _ _ _ h => h) ⟨Or.inl ⟨by rfl, ?_⟩, fun _ => rfl⟩ ?_
        rotate_left
        · intro w'; go_simp; (try with_reducible rfl)
        try simp only [Act.put, List.setIfInBounds_toArray, List.set_cons_zero, List.set_cons_succ]
        refine wpAnyIn_ready (rs := [7]) (by kernel_rfl) (by simp) ?_
        refine (AllReadyIn.cons (o := { dst := none, op := Go.Op.store 3 (Go.Operand.tmp 9) (Go.Operand.tmp 38), type := 0, pos := "sturm.go:85", after := #[{ on := 6, ground := Go.Ground.data }, { on := 5, ground := Go.Ground.chain }, { on := 0, ground := Go.Ground.phase }, { on := 1, ground := Go.Ground.phase }, { on := 2, ground := Go.Ground.phase }, { on := 3, ground := Go.Ground.phase }, { on := 4, ground := Go.Ground.phase }, { on := 5, ground := Go.Ground.phase }, { on := 6, ground := Go.Ground.phase }], guard := none }) rfl (fun K hK => ?_) AllReadyIn.nil)
        go_simp
        refine hK _ _ ?_
        clear hK K
        try simp only [Act.put, List.setIfInBounds_toArray, List.set_cons_zero, List.set_cons_succ]
        refine wpAnyIn_done (by kernel_rfl) ?_ _
        obtain ⟨k1, k2⟩ := St.put HG.out _ HS4.out (A2.2 - B2.2)
        have k3 := HT4.out.tr k2
        refine ⟨rfl, k3.1, k3.2, ?_⟩
        rw [HSn.out.1, HSn.out.2]
        exact k1
      · skip
        go_simp
        refine hK _ _ ?_
        clear hK K
        try simp only [Act.put, List.setIfInBounds_toArray, List.set_cons_zero, List.set_cons_succ]
        refine wpAnyIn_ready (rs := [2]) (by kernel_rfl) (by simp) ?_
        refine (AllReadyIn.cons (o := { dst := some 34, op := Go.Op.call { callee := Go.Callee.value (Go.Operand.tmp 32), args := #[Go.Operand.tmp 33], argTypes := #[24] }, type := 3, pos := "sturm.go:85", after := #[{ on := 0, ground := Go.Ground.data }, { on := 1, ground := Go.Ground.data }], guard := none }) rfl (fun K hK => ?_) AllReadyIn.nil)
        go_simp
        refine ⟨trivial, ?_⟩
        refine (callsIn_wide.2 (HCA.out _ HS2.out)).mono ?_
        rintro e W3 ⟨rfl, h, k⟩
        have HS3 := Lib.hid h
        have HT3 := Lib.hid (HT2.out.tr k)
        obtain ⟨-, -, -, e7b, -, -⟩ := h.cells
        simp only [cnt0, Nat.add_assoc, Nat.reduceAdd] at e7b
        clear h k
        refine hK _ _ ?_
        clear hK K
        try simp only [Act.put, List.setIfInBounds_toArray, List.set_cons_zero, List.set_cons_succ]
        refine wpAnyIn_ready (rs := [5]) (by kernel_rfl) (by simp) ?_
        refine (AllReadyIn.cons (o := { dst := some 37, op := Go.Op.call { callee := Go.Callee.value (Go.Operand.tmp 35), args := #[Go.Operand.tmp 36], argTypes := #[24] }, type := 3, pos := "sturm.go:85", after := #[{ on := 3, ground := Go.Ground.data }, { on := 4, ground := Go.Ground.data }, { on := 2, ground := Go.Ground.chain }], guard := none }) rfl (fun K hK => ?_) AllReadyIn.nil)
        go_simp
        refine ⟨trivial, ?_⟩
        refine (callsIn_wide.2 (HCB.out _ HS3.out)).mono ?_
        rintro e W4 ⟨rfl, h, k⟩
        have HS4 := Lib.hid h
        have HT4 := Lib.hid (HT3.out.tr k)
        obtain ⟨-, -, -, -, e8, f8⟩ := h.cells
        clear h k
        refine hK _ _ ?_
        clear hK K
        try simp only [Act.put, List.setIfInBounds_toArray, List.set_cons_zero, List.set_cons_succ]
        refine wpAnyIn_take (i := 6) (oi := { dst := some 38, op := Go.Op.binOp Go.BinOp.sub 3 (Go.Operand.tmp 34) (Go.Operand.tmp 37) 3, type := 3, pos := "sturm.go:85", after := #[{ on := 2, ground := Go.Ground.data }, { on := 5, ground := Go.Ground.data }], guard := none }) (v := ?_) rfl rfl (by kernel_rfl) (by kernel_rfl) (by kernel_rfl) (fun _ _ _ h => h) ⟨Or.inl ⟨by rfl, ?_⟩, fun _ => rfl⟩ ?_
        rotate_left
        · intro w'; go_simp; (try with_reducible rfl)
        try simp only [Act.put, List.setIfInBounds_toArray, List.set_cons_zero, List.set_cons_succ]
        refine wpAnyIn_ready (rs := [7]) (by kernel_rfl) (by simp) ?_
        refine (AllReadyIn.cons (o := { dst := none, op := Go.Op.store 3 (Go.Operand.tmp 9) (Go.Operand.tmp 38), type := 0, pos := "sturm.go:85", after := #[{ on := 6, ground := Go.Ground.data }, { on := 5, ground := Go.Ground.chain }, { on := 0, ground := Go.Ground.phase }, { on := 1, ground := Go.Ground.phase }, { on := 2, ground := Go.Ground.phase }, { on := 3, ground := Go.Ground.phase }, { on := 4, ground := Go.Ground.phase }, { on := 5, ground := Go.Ground.phase }, { on := 6, ground := Go.Ground.phase }], guard := none }) rfl (fun K hK => ?_) AllReadyIn.nil)
        go_simp
        refine hK _ _ ?_
        clear hK K
        try simp only [Act.put, List.setIfInBounds_toArray, List.set_cons_zero, List.set_cons_succ]
        refine wpAnyIn_done (by kernel_rfl) ?_ _
        obtain ⟨k1, k2⟩ := St.put HG.out _ HS4.out (A2.2 - B2.2)
        have k3 := HT4.out.tr k2
        refine ⟨rfl, k3.1, k3.2, ?_⟩
        rw [HSn.out.1, HSn.out.2]
        exact k1
    · skip
      go_simp
      refine hK _ _ ?_
      clear hK K
      try simp only [Act.put, List.setIfInBounds_toArray, List.set_cons_zero, List.set_cons_succ]
      refine wpAnyIn_ready (rs := [0]) (by kernel_rfl) (by simp) ?_
      refine (AllReadyIn.cons (o := { dst := some 32, op := Go.Op.load 134 (Go.Operand.tmp 7), type := 134, pos := "sturm.go:85", after := #[], guard := none }) rfl (fun K hK => ?_) AllReadyIn.nil)
      go_simp
      refine hK _ _ ?_
      clear hK K
      try simp only [Act.put, List.setIfInBounds_toArray, List.set_cons_zero, List.set_cons_succ]
      refine wpAnyIn_ready (rs := [2]) (by kernel_rfl) (by simp) ?_
      refine (AllReadyIn.cons (o := { dst := some 34, op := Go.Op.call { callee := Go.Callee.value (Go.Operand.tmp 32), args := #[Go.Operand.tmp 33], argTypes := #[24] }, type := 3, pos := "sturm.go:85", after := #[{ on := 0, ground := Go.Ground.data }, { on := 1, ground := Go.Ground.data }], guard := none }) rfl (fun K hK => ?_) AllReadyIn.nil)
      go_simp
      refine ⟨trivial, ?_⟩
      refine (callsIn_wide.2 (HCA.out _ HS2.out)).mono ?_
      rintro e W3 ⟨rfl, h, k⟩
      have HS3 := Lib.hid h
      have HT3 := Lib.hid (HT2.out.tr k)
      obtain ⟨-, -, -, e7b, -, -⟩ := h.cells
      simp only [cnt0, Nat.add_assoc, Nat.reduceAdd] at e7b
      clear h k
      refine hK _ _ ?_
      clear hK K
      try simp only [Act.put, List.setIfInBounds_toArray, List.set_cons_zero, List.set_cons_succ]
      refine wpAnyIn_ready (rs := [5]) (by kernel_rfl) (by simp) ?_
      refine (AllReadyIn.cons (o := { dst := some 37, op := Go.Op.call { callee := Go.Callee.value (Go.Operand.tmp 35), args := #[Go.Operand.tmp 36], argTypes := #[24] }, type := 3, pos := "sturm.go:85", after := #[{ on := 3, ground := Go.Ground.data }, { on := 4, ground := Go.Ground.data }, { on := 2, ground := Go.Ground.chain }], guard := none }) rfl (fun K hK => ?_) AllReadyIn.nil)
      go_simp
      refine ⟨trivial, ?_⟩
      refine (callsIn_wide.2 (HCB.out _ HS3.out)).mono ?_
      rintro e W4 ⟨rfl, h, k⟩
      have HS4 := Lib.hid h
      have HT4 := Lib.hid (HT3.out.tr k)
      obtain ⟨-, -, -, -, e8, f8⟩ := h.cells
      clear h k
      refine hK _ _ ?_
      clear hK K
      try simp only [Act.put, List.setIfInBounds_toArray, List.set_cons_zero, List.set_cons_succ]
      refine wpAnyIn_take (i := 6) (oi := { dst := some 38, op := Go.Op.binOp Go.BinOp.sub 3 (Go.Operand.tmp 34) (Go.Operand.tmp 37) 3, type := 3, pos := "sturm.go:85", after := #[{ on := 2, ground := Go.Ground.data }, { on := 5, ground := Go.Ground.data }], guard := none }) (v := ?_) rfl rfl (by kernel_rfl) (by kernel_rfl) (by kernel_rfl) (fun _ _ _ h => h) ⟨Or.inl ⟨by rfl, ?_⟩, fun _ => rfl⟩ ?_
      rotate_left
      · intro w'; go_simp; (try with_reducible rfl)
      try simp only [Act.put, List.setIfInBounds_toArray, List.set_cons_zero, List.set_cons_succ]
      refine wpAnyIn_ready (rs := [7]) (by kernel_rfl) (by simp) ?_
      refine (AllReadyIn.cons (o := { dst := none, op := Go.Op.store 3 (Go.Operand.tmp 9) (Go.Operand.tmp 38), type := 0, pos := "sturm.go:85", after := #[{ on := 6, ground := Go.Ground.data }, { on := 5, ground := Go.Ground.chain }, { on := 0, ground := Go.Ground.phase }, { on := 1, ground := Go.Ground.phase }, { on := 2, ground := Go.Ground.phase }, { on := 3, ground := Go.Ground.phase }, { on := 4, ground := Go.Ground.phase }, { on := 5, ground := Go.Ground.phase }, { on := 6, ground := Go.Ground.phase }], guard := none }) rfl (fun K hK => ?_) AllReadyIn.nil)
      go_simp
      refine hK _ _ ?_
      clear hK K
      try simp only [Act.put, List.setIfInBounds_toArray, List.set_cons_zero, List.set_cons_succ]
      refine wpAnyIn_done (by kernel_rfl) ?_ _
      obtain ⟨k1, k2⟩ := St.put HG.out _ HS4.out (A2.2 - B2.2)
      have k3 := HT4.out.tr k2
      refine ⟨rfl, k3.1, k3.2, ?_⟩
      rw [HSn.out.1, HSn.out.2]
      exact k1
  case done =>
    rintro D xs W hD hS hI hK
    have hc : St w g (.slice Av p.length cv) (rtx lo) (rtx hi) (chgs (YPs xs) lo) (chgs (YPs xs) hi) (cntP p lo hi) W := by
      have e : YPs xs = chainP p := hS
      have h := hI
      rw [e] at h ⊢
      exact h
    obtain ⟨-, -, -, -, e8, -⟩ := hc.cells
    have hbl := hc.bl
    clear hI hc
    gi_wp2
    refine ⟨by simp, .inl ⟨_, _, rfl, run_takeDeferred hK, ?_⟩⟩
    refine ⟨_, results_tmp rfl _ _ _, rfl, ?_⟩
    unfold Ext
    rw [HG.out]
    exact hbl.trans (belowK_b (w := w) (by rw [HG.out]; exact Nat.le_refl _) W D _ _ (by have := HG.out; omega) hK rfl rfl)
end Go.Proofs.YtadimepmoljnpaaGreatDoor.GB
