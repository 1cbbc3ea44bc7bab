import Derived.Test.YtbldlibijojbjaaGreatDoorCJq
namespace Go.Proofs.YtbldlibijojbjaaGreatDoor.GB
set_option linter.unusedVariables false
set_option linter.unusedSimpArgs false
open Go.RowKit Go.Shelf
attribute [local go_sem ↓] Go.wp_at_zero Go.wp_at_succ
/-- The less and the greater one. -/
def mnR (x y : Rat) : Rat := if x ≤ y then x else y
def mxR (x y : Rat) : Rat := if y ≤ x then x else y
theorem nou96 : 96 ≠ 124 := by decide
theorem set6 {w : World} {b : Nat} {x0 x1 x2 x3 x4 x5 : Value} {T : TypeId} (h : Bx w b #[x0, x1, x2, x3, x4, x5] T) (u0 u1 u2 u3 u4 u5 : Value) :
    ((((((w.setCell ⟨b, 0, none⟩ u0).setCell ⟨b, 1, none⟩ u1).setCell ⟨b, 2, none⟩ u2).setCell ⟨b, 3, none⟩ u3).setCell ⟨b, 4, none⟩ u4).setCell ⟨b, 5, none⟩ u5).cell? ⟨b, 0, none⟩ = some u0 ∧ ((((((w.setCell ⟨b, 0, none⟩ u0).setCell ⟨b, 1, none⟩ u1).setCell ⟨b, 2, none⟩ u2).setCell ⟨b, 3, none⟩ u3).setCell ⟨b, 4, none⟩ u4).setCell ⟨b, 5, none⟩ u5).cell? ⟨b, 1, none⟩ = some u1 ∧ ((((((w.setCell ⟨b, 0, none⟩ u0).setCell ⟨b, 1, none⟩ u1).setCell ⟨b, 2, none⟩ u2).setCell ⟨b, 3, none⟩ u3).setCell ⟨b, 4, none⟩ u4).setCell ⟨b, 5, none⟩ u5).cell? ⟨b, 2, none⟩ = some u2 ∧ ((((((w.setCell ⟨b, 0, none⟩ u0).setCell ⟨b, 1, none⟩ u1).setCell ⟨b, 2, none⟩ u2).setCell ⟨b, 3, none⟩ u3).setCell ⟨b, 4, none⟩ u4).setCell ⟨b, 5, none⟩ u5).cell? ⟨b, 3, none⟩ = some u3 ∧ ((((((w.setCell ⟨b, 0, none⟩ u0).setCell ⟨b, 1, none⟩ u1).setCell ⟨b, 2, none⟩ u2).setCell ⟨b, 3, none⟩ u3).setCell ⟨b, 4, none⟩ u4).setCell ⟨b, 5, none⟩ u5).cell? ⟨b, 4, none⟩ = some u4 ∧ ((((((w.setCell ⟨b, 0, none⟩ u0).setCell ⟨b, 1, none⟩ u1).setCell ⟨b, 2, none⟩ u2).setCell ⟨b, 3, none⟩ u3).setCell ⟨b, 4, none⟩ u4).setCell ⟨b, 5, none⟩ u5).cell? ⟨b, 5, none⟩ = some u5 := by
  have h0 : w.cell? ⟨b, 0, none⟩ = some x0 := h.c 0
  have h1 : w.cell? ⟨b, 1, none⟩ = some x1 := h.c 1
  have h2 : w.cell? ⟨b, 2, none⟩ = some x2 := h.c 2
  have h3 : w.cell? ⟨b, 3, none⟩ = some x3 := h.c 3
  have h4 : w.cell? ⟨b, 4, none⟩ = some x4 := h.c 4
  have h5 : w.cell? ⟨b, 5, none⟩ = some x5 := h.c 5
  refine ⟨?_, ?_, ?_, ?_, ?_, ?_⟩
  · rw [World.cell?_setCell_other _ _ _ _ (by simp), World.cell?_setCell_other _ _ _ _ (by simp), World.cell?_setCell_other _ _ _ _ (by simp), World.cell?_setCell_other _ _ _ _ (by simp), World.cell?_setCell_other _ _ _ _ (by simp)]; exact World.cell?_setCell_same w ⟨b, 0, none⟩ u0 (h0)
  · rw [World.cell?_setCell_other _ _ _ _ (by simp), World.cell?_setCell_other _ _ _ _ (by simp), World.cell?_setCell_other _ _ _ _ (by simp), World.cell?_setCell_other _ _ _ _ (by simp)]; exact World.cell?_setCell_same (w.setCell ⟨b, 0, none⟩ u0) ⟨b, 1, none⟩ u1 (by rw [World.cell?_setCell_other _ _ _ _ (by simp)]; exact h1)
  · rw [World.cell?_setCell_other _ _ _ _ (by simp), World.cell?_setCell_other _ _ _ _ (by simp), World.cell?_setCell_other _ _ _ _ (by simp)]; exact World.cell?_setCell_same ((w.setCell ⟨b, 0, none⟩ u0).setCell ⟨b, 1, none⟩ u1) ⟨b, 2, none⟩ u2 (by rw [World.cell?_setCell_other _ _ _ _ (by simp), World.cell?_setCell_other _ _ _ _ (by simp)]; exact h2)
  · rw [World.cell?_setCell_other _ _ _ _ (by simp), World.cell?_setCell_other _ _ _ _ (by simp)]; exact World.cell?_setCell_same (((w.setCell ⟨b, 0, none⟩ u0).setCell ⟨b, 1, none⟩ u1).setCell ⟨b, 2, none⟩ u2) ⟨b, 3, none⟩ u3 (by rw [World.cell?_setCell_other _ _ _ _ (by simp), World.cell?_setCell_other _ _ _ _ (by simp), World.cell?_setCell_other _ _ _ _ (by simp)]; exact h3)
  · rw [World.cell?_setCell_other _ _ _ _ (by simp)]; exact World.cell?_setCell_same ((((w.setCell ⟨b, 0, none⟩ u0).setCell ⟨b, 1, none⟩ u1).setCell ⟨b, 2, none⟩ u2).setCell ⟨b, 3, none⟩ u3) ⟨b, 4, none⟩ u4 (by rw [World.cell?_setCell_other _ _ _ _ (by simp), World.cell?_setCell_other _ _ _ _ (by simp), World.cell?_setCell_other _ _ _ _ (by simp), World.cell?_setCell_other _ _ _ _ (by simp)]; exact h4)
  · exact World.cell?_setCell_same (((((w.setCell ⟨b, 0, none⟩ u0).setCell ⟨b, 1, none⟩ u1).setCell ⟨b, 2, none⟩ u2).setCell ⟨b, 3, none⟩ u3).setCell ⟨b, 4, none⟩ u4) ⟨b, 5, none⟩ u5 (by rw [World.cell?_setCell_other _ _ _ _ (by simp), World.cell?_setCell_other _ _ _ _ (by simp), World.cell?_setCell_other _ _ _ _ (by simp), World.cell?_setCell_other _ _ _ _ (by simp), World.cell?_setCell_other _ _ _ _ (by simp)]; exact h5)
theorem keep6 {w : World} {b : Nat} (u0 u1 u2 u3 u4 u5 : Value) : ∀ k, k ≠ b → ((((((w.setCell ⟨b, 0, none⟩ u0).setCell ⟨b, 1, none⟩ u1).setCell ⟨b, 2, none⟩ u2).setCell ⟨b, 3, none⟩ u3).setCell ⟨b, 4, none⟩ u4).setCell ⟨b, 5, none⟩ u5).heap[k]? = w.heap[k]? := fun k hk => (Below.heap_setCell (((((w.setCell ⟨b, 0, none⟩ u0).setCell ⟨b, 1, none⟩ u1).setCell ⟨b, 2, none⟩ u2).setCell ⟨b, 3, none⟩ u3).setCell ⟨b, 4, none⟩ u4) ⟨b, 5, none⟩ u5 k hk).trans ((Below.heap_setCell ((((w.setCell ⟨b, 0, none⟩ u0).setCell ⟨b, 1, none⟩ u1).setCell ⟨b, 2, none⟩ u2).setCell ⟨b, 3, none⟩ u3) ⟨b, 4, none⟩ u4 k hk).trans ((Below.heap_setCell (((w.setCell ⟨b, 0, none⟩ u0).setCell ⟨b, 1, none⟩ u1).setCell ⟨b, 2, none⟩ u2) ⟨b, 3, none⟩ u3 k hk).trans ((Below.heap_setCell ((w.setCell ⟨b, 0, none⟩ u0).setCell ⟨b, 1, none⟩ u1) ⟨b, 2, none⟩ u2 k hk).trans ((Below.heap_setCell (w.setCell ⟨b, 0, none⟩ u0) ⟨b, 1, none⟩ u1 k hk).trans ((Below.heap_setCell w ⟨b, 0, none⟩ u0 k hk))))))
theorem size6 {w : World} {b : Nat} (u0 u1 u2 u3 u4 u5 : Value) : w.heap.size ≤ ((((((w.setCell ⟨b, 0, none⟩ u0).setCell ⟨b, 1, none⟩ u1).setCell ⟨b, 2, none⟩ u2).setCell ⟨b, 3, none⟩ u3).setCell ⟨b, 4, none⟩ u4).setCell ⟨b, 5, none⟩ u5).heap.size := by simp
theorem ext_set6 {w w1 : World} {b : Nat} (h : Ext w w1) (hb : w.heap.size ≤ b) (u0 u1 u2 u3 u4 u5 : Value) : Ext w ((((((w1.setCell ⟨b, 0, none⟩ u0).setCell ⟨b, 1, none⟩ u1).setCell ⟨b, 2, none⟩ u2).setCell ⟨b, 3, none⟩ u3).setCell ⟨b, 4, none⟩ u4).setCell ⟨b, 5, none⟩ u5) :=
  (Below.setCell (p := ⟨b, 5, none⟩) (Below.setCell (p := ⟨b, 4, none⟩) (Below.setCell (p := ⟨b, 3, none⟩) (Below.setCell (p := ⟨b, 2, none⟩) (Below.setCell (p := ⟨b, 1, none⟩) (Below.setCell (p := ⟨b, 0, none⟩) h hb u0) hb u1) hb u2) hb u3) hb u4) hb u5)
/-- An interval of the reference: two numbers, six cells. -/
def JV (w : World) (v : Value) (a b : Rat) : Prop := ∃ u0 u1 u2 u3 u4 u5, v = .agg #[u0, u1, u2, u3, u4, u5] ∧ QV w (.agg #[u0, u1, u2]) a ∧ QV w (.agg #[u3, u4, u5]) b
theorem JV.ext {w w' : World} {v : Value} {a b : Rat} (h : JV w v a b) (hE : Ext w w') : JV w' v a b := by
  obtain ⟨u0, u1, u2, u3, u4, u5, e, h1, h2⟩ := h; exact ⟨u0, u1, u2, u3, u4, u5, e, h1.ext hE, h2.ext hE⟩
theorem JV.hext {w w' : World} {v : Value} {a b : Rat} (h : Hid (JV w v a b)) (hE : Ext w w') : Hid (JV w' v a b) := h.out.ext hE
theorem JV.off {w w' : World} {v : Value} {a c : Rat} {g : Nat} {cs : Array Value} {T : TypeId} (h : JV w v a c) (hB : Bx w g cs T) (hc : T ≠ 124) (hs : w.heap.size ≤ w'.heap.size)
    (hk : ∀ b, b ≠ g → w'.heap[b]? = w.heap[b]?) : JV w' v a c := by
  obtain ⟨u0, u1, u2, u3, u4, u5, e, h1, h2⟩ := h; exact ⟨u0, u1, u2, u3, u4, u5, e, QV.off h1 hB hc hs hk, QV.off h2 hB hc hs hk⟩
theorem JV.mk {w : World} {u0 u1 u2 u3 u4 u5 : Value} {a b : Rat} (h1 : QV w (.agg #[u0, u1, u2]) a) (h2 : QV w (.agg #[u3, u4, u5]) b) : JV w (.agg #[u0, u1, u2, u3, u4, u5]) a b := ⟨u0, u1, u2, u3, u4, u5, rfl, h1, h2⟩
theorem JV.two {w : World} {u0 u1 u2 u3 u4 u5 : Value} {a b : Rat} (h : JV w (.agg #[u0, u1, u2, u3, u4, u5]) a b) : QV w (.agg #[u0, u1, u2]) a ∧ QV w (.agg #[u3, u4, u5]) b := by
  obtain ⟨_, _, _, _, _, _, e, h1, h2⟩ := h
  simp only [Value.agg.injEq, Array.mk.injEq, List.cons.injEq, and_true] at e
  obtain ⟨e0, e1, e2, e3, e4, e5⟩ := e
  subst e0 e1 e2 e3 e4 e5
  exact ⟨h1, h2⟩
theorem JV.ex {w : World} {v : Value} {a b : Rat} (h : JV w v a b) : ∃ sx Zx lx cx Yx mx dx sy Zy ly cy Yy my dy, v = .agg #[.bool sx, .slice Zx lx cx, .slice Yx mx dx, .bool sy, .slice Zy ly cy, .slice Yy my dy] := by
  obtain ⟨u0, u1, u2, u3, u4, u5, rfl, h1, h2⟩ := h
  obtain ⟨s1, Z1, l1, c1, Y1, m1, d1, e1, -, -, -⟩ := h1.ex
  obtain ⟨s2, Z2, l2, c2, Y2, m2, d2, e2, -, -, -⟩ := h2.ex
  simp only [Value.agg.injEq, Array.mk.injEq, List.cons.injEq, and_true] at e1 e2
  obtain ⟨rfl, rfl, rfl⟩ := e1
  obtain ⟨rfl, rfl, rfl⟩ := e2
  exact ⟨_, _, _, _, _, _, _, _, _, _, _, _, _, _, rfl⟩
def RetJ (a b : Rat) (w : World) (e : Ending) (w' : World) : Prop := ∃ v, e = .returned v ∧ JV w' v a b ∧ Ext w w'
theorem boxes3g (w : World) (A B C : Array Value) (T U V : TypeId) : Bx (((w.alloc (.cells A T)).alloc (.cells B U)).alloc (.cells C V)) w.heap.size A T ∧ Bx (((w.alloc (.cells A T)).alloc (.cells B U)).alloc (.cells C V)) (w.heap.size + 1) B U ∧ Bx (((w.alloc (.cells A T)).alloc (.cells B U)).alloc (.cells C V)) (w.heap.size + 1 + 1) C V ∧ Ext w (((w.alloc (.cells A T)).alloc (.cells B U)).alloc (.cells C V)) := by
  obtain ⟨h1, h2, h3⟩ := boxes2g w A B T U
  refine ⟨h1.al _, h2.al _, ?_, h3.al _⟩
  have := Bx.new ((w.alloc (.cells A T)).alloc (.cells B U)) C V
  rw [World.size_alloc, World.size_alloc] at this
  exact this
set_option maxHeartbeats 8000000 in
set_option maxRecDepth 200000 in
theorem jJust_v (v : Value) (x : Rat) (w : World) (h : QV w v x) : Calls Tryz.prog 122 #[v] w (RetJ x x w) := by
  obtain ⟨sp, Zp, lp, cp, Yp, mp, dp, rfl, -, -, -⟩ := h.ex
  obtain ⟨X1, X2, E0⟩ := boxes2g w #[.bool sp, .slice Zp lp cp, .slice Yp mp dp] #[.bool sp, .slice Zp lp cp, .slice Yp mp dp, .bool sp, .slice Zp lp cp, .slice Yp mp dp] 86 96
  have d0' : ((w.alloc (.cells #[.bool sp, .slice Zp lp cp, .slice Yp mp dp] 86)).alloc (.cells #[.bool sp, .slice Zp lp cp, .slice Yp mp dp, .bool sp, .slice Zp lp cp, .slice Yp mp dp] 96)).cell? ⟨w.heap.size + 1, 0, none⟩ = some (.bool sp) := X2.c 0
  have d1' : ((w.alloc (.cells #[.bool sp, .slice Zp lp cp, .slice Yp mp dp] 86)).alloc (.cells #[.bool sp, .slice Zp lp cp, .slice Yp mp dp, .bool sp, .slice Zp lp cp, .slice Yp mp dp] 96)).cell? ⟨w.heap.size + 1, 1, none⟩ = some (.slice Zp lp cp) := X2.c 1
  have d2' : ((w.alloc (.cells #[.bool sp, .slice Zp lp cp, .slice Yp mp dp] 86)).alloc (.cells #[.bool sp, .slice Zp lp cp, .slice Yp mp dp, .bool sp, .slice Zp lp cp, .slice Yp mp dp] 96)).cell? ⟨w.heap.size + 1, 2, none⟩ = some (.slice Yp mp dp) := X2.c 2
  have d3' : ((w.alloc (.cells #[.bool sp, .slice Zp lp cp, .slice Yp mp dp] 86)).alloc (.cells #[.bool sp, .slice Zp lp cp, .slice Yp mp dp, .bool sp, .slice Zp lp cp, .slice Yp mp dp] 96)).cell? ⟨w.heap.size + 1, 3, none⟩ = some (.bool sp) := X2.c 3
  have d4' : ((w.alloc (.cells #[.bool sp, .slice Zp lp cp, .slice Yp mp dp] 86)).alloc (.cells #[.bool sp, .slice Zp lp cp, .slice Yp mp dp, .bool sp, .slice Zp lp cp, .slice Yp mp dp] 96)).cell? ⟨w.heap.size + 1, 4, none⟩ = some (.slice Zp lp cp) := X2.c 4
  have d5' : ((w.alloc (.cells #[.bool sp, .slice Zp lp cp, .slice Yp mp dp] 86)).alloc (.cells #[.bool sp, .slice Zp lp cp, .slice Yp mp dp, .bool sp, .slice Zp lp cp, .slice Yp mp dp] 96)).cell? ⟨w.heap.size + 1, 5, none⟩ = some (.slice Yp mp dp) := X2.c 5
  have HE := Lib.hid E0
  have HJ := Lib.hid (JV.mk (h.ext E0) (h.ext E0))
  clear X1 X2 E0 h
  go_enter Tryz.func122, Tryz.ntmps122
  go_wp2_with fail
  refine bodyPost_ret (v := .agg #[.bool sp, .slice Zp lp cp, .slice Yp mp dp, .bool sp, .slice Zp lp cp, .slice Yp mp dp]) ?_ rfl ⟨_, rfl, HJ.out, HE.out⟩
  simp [results, Tryz.f122, go_sem, d0', d1', d2', d3', d4', d5']
set_option maxHeartbeats 8000000 in
set_option maxRecDepth 200000 in
theorem jPlus_v (v1 v2 : Value) (a1 a2 b1 b2 : Rat) (n m : Nat) (w : World) (h1 : JV w v1 a1 a2) (h2 : JV w v2 b1 b2) (ha : Bd a1 n ∧ Bd a2 n) (hb : Bd b1 m ∧ Bd b2 m) (hk : n + m + 2 ≤ KK) :
    Calls Tryz.prog 123 #[v1, v2] w (RetJ (a1 + b1) (a2 + b2) w) := by
  obtain ⟨spx, Zpx, lpx, cpx, Ypx, mpx, dpx, spy, Zpy, lpy, cpy, Ypy, mpy, dpy, rfl⟩ := h1.ex
  obtain ⟨sqx, Zqx, lqx, cqx, Yqx, mqx, dqx, sqy, Zqy, lqy, cqy, Yqy, mqy, dqy, rfl⟩ := h2.ex
  have HT1 : Hid (∀ W, Ext w W → Calls Tryz.prog 93 #[.agg #[.bool spx, .slice Zpx lpx cpx, .slice Ypx mpx dpx], .agg #[.bool sqx, .slice Zqx lqx cqx, .slice Yqx mqx dqx]] W (RetQ3 (a1 + b1) W)) := fun W hE => q3Add_v _ _ _ _ n m W (h1.two.1.ext hE) (h2.two.1.ext hE) ha.1 hb.1 hk
  have HT2 : Hid (∀ W, Ext w W → Calls Tryz.prog 93 #[.agg #[.bool spy, .slice Zpy lpy cpy, .slice Ypy mpy dpy], .agg #[.bool sqy, .slice Zqy lqy cqy, .slice Yqy mqy dqy]] W (RetQ3 (a2 + b2) W)) := fun W hE => q3Add_v _ _ _ _ n m W (h1.two.2.ext hE) (h2.two.2.ext hE) ha.2 hb.2 hk
  clear h1 h2 ha hb hk
  go_enter Tryz.func123, Tryz.ntmps123
  go_wp2_with fail
  obtain ⟨X1, X2, X3, E0⟩ := boxes3g w #[.bool spx, .slice Zpx lpx cpx, .slice Ypx mpx dpx, .bool spy, .slice Zpy lpy cpy, .slice Ypy mpy dpy] #[.bool sqx, .slice Zqx lqx cqx, .slice Yqx mqx dqx, .bool sqy, .slice Zqy lqy cqy, .slice Yqy mqy dqy] #[.bool false, .slice none 0 0, .slice none 0 0, .bool false, .slice none 0 0, .slice none 0 0] 96 96 96
  generalize ((w.alloc (.cells #[.bool spx, .slice Zpx lpx cpx, .slice Ypx mpx dpx, .bool spy, .slice Zpy lpy cpy, .slice Ypy mpy dpy] 96)).alloc (.cells #[.bool sqx, .slice Zqx lqx cqx, .slice Yqx mqx dqx, .bool sqy, .slice Zqy lqy cqy, .slice Yqy mqy dqy] 96)).alloc (.cells #[.bool false, .slice none 0 0, .slice none 0 0, .bool false, .slice none 0 0, .slice none 0 0] 96) = W0 at *
  have a0 : W0.cell? ⟨w.heap.size, 0, none⟩ = some (.bool spx) := X1.c 0
  have a1 : W0.cell? ⟨w.heap.size, 1, none⟩ = some (.slice Zpx lpx cpx) := X1.c 1
  have a2 : W0.cell? ⟨w.heap.size, 2, none⟩ = some (.slice Ypx mpx dpx) := X1.c 2
  have a3 : W0.cell? ⟨w.heap.size, 3, none⟩ = some (.bool spy) := X1.c 3
  have a4 : W0.cell? ⟨w.heap.size, 4, none⟩ = some (.slice Zpy lpy cpy) := X1.c 4
  have a5 : W0.cell? ⟨w.heap.size, 5, none⟩ = some (.slice Ypy mpy dpy) := X1.c 5
  have b0 : W0.cell? ⟨w.heap.size + 1, 0, none⟩ = some (.bool sqx) := X2.c 0
  have b1 : W0.cell? ⟨w.heap.size + 1, 1, none⟩ = some (.slice Zqx lqx cqx) := X2.c 1
  have b2 : W0.cell? ⟨w.heap.size + 1, 2, none⟩ = some (.slice Yqx mqx dqx) := X2.c 2
  have b3 : W0.cell? ⟨w.heap.size + 1, 3, none⟩ = some (.bool sqy) := X2.c 3
  have b4 : W0.cell? ⟨w.heap.size + 1, 4, none⟩ = some (.slice Zqy lqy cqy) := X2.c 4
  have b5 : W0.cell? ⟨w.heap.size + 1, 5, none⟩ = some (.slice Yqy mqy dqy) := X2.c 5
  have HX := Lib.hid X3
  have HE := Lib.hid E0
  clear X1 X2 X3 E0
  go_region_held3 (fun w' => w'.cell? ⟨w.heap.size, 0, none⟩ = some (.bool spx) ∧ w'.cell? ⟨w.heap.size, 1, none⟩ = some (.slice Zpx lpx cpx) ∧ w'.cell? ⟨w.heap.size, 2, none⟩ = some (.slice Ypx mpx dpx) ∧ w'.cell? ⟨w.heap.size, 3, none⟩ = some (.bool spy) ∧ w'.cell? ⟨w.heap.size, 4, none⟩ = some (.slice Zpy lpy cpy) ∧ w'.cell? ⟨w.heap.size, 5, none⟩ = some (.slice Ypy mpy dpy) ∧ w'.cell? ⟨w.heap.size + 1, 0, none⟩ = some (.bool sqx) ∧ w'.cell? ⟨w.heap.size + 1, 1, none⟩ = some (.slice Zqx lqx cqx) ∧ w'.cell? ⟨w.heap.size + 1, 2, none⟩ = some (.slice Yqx mqx dqx) ∧ w'.cell? ⟨w.heap.size + 1, 3, none⟩ = some (.bool sqy) ∧ w'.cell? ⟨w.heap.size + 1, 4, none⟩ = some (.slice Zqy lqy cqy) ∧ w'.cell? ⟨w.heap.size + 1, 5, none⟩ = some (.slice Yqy mqy dqy)) (((try dsimp only); (repeat' apply And.intro) <;> (first | (with_reducible assumption) | (rw [neC (by omega), neC (by omega), neC (by omega), neC (by omega), neC (by omega), neC (by omega)]; with_reducible assumption) | (rw [neC (by omega), neC (by omega), neC (by omega)]; with_reducible assumption) | ((go_keep); done))))
    (first
      | (go_at_call 93; (with_reducible refine (HT1.out _ (Ext.dr' HE)).mono ?_); rintro e w1 ⟨v1, rfl, hv, hE⟩; replace hE := ((Ext.rfl' _).dr).tr hE; obtain ⟨s1, Z1, l1, c1, Y1, m1, d1, rfl, -, -, -⟩ := hv.ex; replace a0 := Ext.cellH hE a0; replace a1 := Ext.cellH hE a1; replace a2 := Ext.cellH hE a2; replace a3 := Ext.cellH hE a3; replace a4 := Ext.cellH hE a4; replace a5 := Ext.cellH hE a5; replace b0 := Ext.cellH hE b0; replace b1 := Ext.cellH hE b1; replace b2 := Ext.cellH hE b2; replace b3 := Ext.cellH hE b3; replace b4 := Ext.cellH hE b4; replace b5 := Ext.cellH hE b5; replace HX := Bx.hext HX hE; replace HE := Lib.hid (HE.out.tr hE); have HV1 := Lib.hid hv; clear hE hv)
      | (go_at_call 93; (with_reducible refine (HT2.out _ HE.out).mono ?_); rintro e w2 ⟨v2, rfl, hv, hE⟩; obtain ⟨s2, Z2, l2, c2, Y2, m2, d2, rfl, -, -, -⟩ := hv.ex; replace a0 := Ext.cellH hE a0; replace a1 := Ext.cellH hE a1; replace a2 := Ext.cellH hE a2; replace a3 := Ext.cellH hE a3; replace a4 := Ext.cellH hE a4; replace a5 := Ext.cellH hE a5; replace b0 := Ext.cellH hE b0; replace b1 := Ext.cellH hE b1; replace b2 := Ext.cellH hE b2; replace b3 := Ext.cellH hE b3; replace b4 := Ext.cellH hE b4; replace b5 := Ext.cellH hE b5; replace HX := Bx.hext HX hE; replace HV1 := QV.hext HV1 hE; replace HE := Lib.hid (HE.out.tr hE); have HV2 := Lib.hid hv; have y0 : w2.cell? ⟨w.heap.size + 1 + 1, 0, none⟩ = some (.bool false) := HX.out.c 0; have y1 : w2.cell? ⟨w.heap.size + 1 + 1, 1, none⟩ = some (.slice none 0 0) := HX.out.c 1; have y2 : w2.cell? ⟨w.heap.size + 1 + 1, 2, none⟩ = some (.slice none 0 0) := HX.out.c 2; have y3 : w2.cell? ⟨w.heap.size + 1 + 1, 3, none⟩ = some (.bool false) := HX.out.c 3; have y4 : w2.cell? ⟨w.heap.size + 1 + 1, 4, none⟩ = some (.slice none 0 0) := HX.out.c 4; have y5 : w2.cell? ⟨w.heap.size + 1 + 1, 5, none⟩ = some (.slice none 0 0) := HX.out.c 5; have f0 := HX.out.f 0; have f1 := HX.out.f 1; have f2 := HX.out.f 2; have f3 := HX.out.f 3; have f4 := HX.out.f 4; have f5 := HX.out.f 5; clear hE hv))
  all_goals
    clear a0 a1 a2 a3 a4 a5 b0 b1 b2 b3 b4 b5
    go_wp2_with fail
    obtain ⟨d0', d1', d2', d3', d4', d5'⟩ := set6 HX.out (.bool s1) (.slice Z1 l1 c1) (.slice Y1 m1 d1) (.bool s2) (.slice Z2 l2 c2) (.slice Y2 m2 d2)
    have HZ := JV.off (JV.mk HV1.out HV2.out) HX.out nou96 (size6 (.bool s1) (.slice Z1 l1 c1) (.slice Y1 m1 d1) (.bool s2) (.slice Z2 l2 c2) (.slice Y2 m2 d2)) (keep6 (b := w.heap.size + 1 + 1) (.bool s1) (.slice Z1 l1 c1) (.slice Y1 m1 d1) (.bool s2) (.slice Z2 l2 c2) (.slice Y2 m2 d2))
    refine bodyPost_ret (v := .agg #[.bool s1, .slice Z1 l1 c1, .slice Y1 m1 d1, .bool s2, .slice Z2 l2 c2, .slice Y2 m2 d2]) ?_ rfl ⟨_, rfl, HZ, ext_set6 (b := w.heap.size + 1 + 1) HE.out (by omega) _ _ _ _ _ _⟩
    simp [results, Tryz.f123, go_sem, d0', d1', d2', d3', d4', d5']
set_option maxHeartbeats 8000000 in
set_option maxRecDepth 200000 in
theorem jJoin_v (v1 v2 : Value) (a1 a2 b1 b2 : Rat) (n m : Nat) (w : World) (h1 : JV w v1 a1 a2) (h2 : JV w v2 b1 b2) (ha : Bd a1 n ∧ Bd a2 n) (hb : Bd b1 m ∧ Bd b2 m) (hk : n + m + 2 ≤ KK) :
    Calls Tryz.prog 148 #[v1, v2] w (RetJ (mnR a1 b1) (mxR a2 b2) w) := by
  obtain ⟨spx, Zpx, lpx, cpx, Ypx, mpx, dpx, spy, Zpy, lpy, cpy, Ypy, mpy, dpy, rfl⟩ := h1.ex
  obtain ⟨sqx, Zqx, lqx, cqx, Yqx, mqx, dqx, sqy, Zqy, lqy, cqy, Yqy, mqy, dqy, rfl⟩ := h2.ex
  have HT1 : Hid (∀ W, Ext w W → Calls Tryz.prog 168 #[.agg #[.bool spx, .slice Zpx lpx cpx, .slice Ypx mpx dpx], .agg #[.bool sqx, .slice Zqx lqx cqx, .slice Yqx mqx dqx]] W (RetQ3 (mnR a1 b1) W)) := fun W hE => q3Least_v _ _ _ _ n m W (h1.two.1.ext hE) (h2.two.1.ext hE) ha.1 hb.1 hk
  have HT2 : Hid (∀ W, Ext w W → Calls Tryz.prog 169 #[.agg #[.bool spy, .slice Zpy lpy cpy, .slice Ypy mpy dpy], .agg #[.bool sqy, .slice Zqy lqy cqy, .slice Yqy mqy dqy]] W (RetQ3 (mxR a2 b2) W)) := fun W hE => q3Most_v _ _ _ _ n m W (h1.two.2.ext hE) (h2.two.2.ext hE) ha.2 hb.2 hk
  clear h1 h2 ha hb hk
  go_enter Tryz.func148, Tryz.ntmps148
  go_wp2_with fail
  obtain ⟨X1, X2, X3, E0⟩ := boxes3g w #[.bool spx, .slice Zpx lpx cpx, .slice Ypx mpx dpx, .bool spy, .slice Zpy lpy cpy, .slice Ypy mpy dpy] #[.bool sqx, .slice Zqx lqx cqx, .slice Yqx mqx dqx, .bool sqy, .slice Zqy lqy cqy, .slice Yqy mqy dqy] #[.bool false, .slice none 0 0, .slice none 0 0, .bool false, .slice none 0 0, .slice none 0 0] 96 96 96
  generalize ((w.alloc (.cells #[.bool spx, .slice Zpx lpx cpx, .slice Ypx mpx dpx, .bool spy, .slice Zpy lpy cpy, .slice Ypy mpy dpy] 96)).alloc (.cells #[.bool sqx, .slice Zqx lqx cqx, .slice Yqx mqx dqx, .bool sqy, .slice Zqy lqy cqy, .slice Yqy mqy dqy] 96)).alloc (.cells #[.bool false, .slice none 0 0, .slice none 0 0, .bool false, .slice none 0 0, .slice none 0 0] 96) = W0 at *
  have a0 : W0.cell? ⟨w.heap.size, 0, none⟩ = some (.bool spx) := X1.c 0
  have a1 : W0.cell? ⟨w.heap.size, 1, none⟩ = some (.slice Zpx lpx cpx) := X1.c 1
  have a2 : W0.cell? ⟨w.heap.size, 2, none⟩ = some (.slice Ypx mpx dpx) := X1.c 2
  have a3 : W0.cell? ⟨w.heap.size, 3, none⟩ = some (.bool spy) := X1.c 3
  have a4 : W0.cell? ⟨w.heap.size, 4, none⟩ = some (.slice Zpy lpy cpy) := X1.c 4
  have a5 : W0.cell? ⟨w.heap.size, 5, none⟩ = some (.slice Ypy mpy dpy) := X1.c 5
  have b0 : W0.cell? ⟨w.heap.size + 1, 0, none⟩ = some (.bool sqx) := X2.c 0
  have b1 : W0.cell? ⟨w.heap.size + 1, 1, none⟩ = some (.slice Zqx lqx cqx) := X2.c 1
  have b2 : W0.cell? ⟨w.heap.size + 1, 2, none⟩ = some (.slice Yqx mqx dqx) := X2.c 2
  have b3 : W0.cell? ⟨w.heap.size + 1, 3, none⟩ = some (.bool sqy) := X2.c 3
  have b4 : W0.cell? ⟨w.heap.size + 1, 4, none⟩ = some (.slice Zqy lqy cqy) := X2.c 4
  have b5 : W0.cell? ⟨w.heap.size + 1, 5, none⟩ = some (.slice Yqy mqy dqy) := X2.c 5
  have HX := Lib.hid X3
  have HE := Lib.hid E0
  clear X1 X2 X3 E0
  go_region_held3 (fun w' => w'.cell? ⟨w.heap.size, 0, none⟩ = some (.bool spx) ∧ w'.cell? ⟨w.heap.size, 1, none⟩ = some (.slice Zpx lpx cpx) ∧ w'.cell? ⟨w.heap.size, 2, none⟩ = some (.slice Ypx mpx dpx) ∧ w'.cell? ⟨w.heap.size, 3, none⟩ = some (.bool spy) ∧ w'.cell? ⟨w.heap.size, 4, none⟩ = some (.slice Zpy lpy cpy) ∧ w'.cell? ⟨w.heap.size, 5, none⟩ = some (.slice Ypy mpy dpy) ∧ w'.cell? ⟨w.heap.size + 1, 0, none⟩ = some (.bool sqx) ∧ w'.cell? ⟨w.heap.size + 1, 1, none⟩ = some (.slice Zqx lqx cqx) ∧ w'.cell? ⟨w.heap.size + 1, 2, none⟩ = some (.slice Yqx mqx dqx) ∧ w'.cell? ⟨w.heap.size + 1, 3, none⟩ = some (.bool sqy) ∧ w'.cell? ⟨w.heap.size + 1, 4, none⟩ = some (.slice Zqy lqy cqy) ∧ w'.cell? ⟨w.heap.size + 1, 5, none⟩ = some (.slice Yqy mqy dqy)) (((try dsimp only); (repeat' apply And.intro) <;> (first | (with_reducible assumption) | (rw [neC (by omega), neC (by omega), neC (by omega), neC (by omega), neC (by omega), neC (by omega)]; with_reducible assumption) | (rw [neC (by omega), neC (by omega), neC (by omega)]; with_reducible assumption) | ((go_keep); done))))
    (first
      | (go_at_call 168; (with_reducible refine (HT1.out _ (Ext.dr' HE)).mono ?_); rintro e w1 ⟨v1, rfl, hv, hE⟩; replace hE := ((Ext.rfl' _).dr).tr hE; obtain ⟨s1, Z1, l1, c1, Y1, m1, d1, rfl, -, -, -⟩ := hv.ex; replace a0 := Ext.cellH hE a0; replace a1 := Ext.cellH hE a1; replace a2 := Ext.cellH hE a2; replace a3 := Ext.cellH hE a3; replace a4 := Ext.cellH hE a4; replace a5 := Ext.cellH hE a5; replace b0 := Ext.cellH hE b0; replace b1 := Ext.cellH hE b1; replace b2 := Ext.cellH hE b2; replace b3 := Ext.cellH hE b3; replace b4 := Ext.cellH hE b4; replace b5 := Ext.cellH hE b5; replace HX := Bx.hext HX hE; replace HE := Lib.hid (HE.out.tr hE); have HV1 := Lib.hid hv; clear hE hv)
      | (go_at_call 169; (with_reducible refine (HT2.out _ HE.out).mono ?_); rintro e w2 ⟨v2, rfl, hv, hE⟩; obtain ⟨s2, Z2, l2, c2, Y2, m2, d2, rfl, -, -, -⟩ := hv.ex; replace a0 := Ext.cellH hE a0; replace a1 := Ext.cellH hE a1; replace a2 := Ext.cellH hE a2; replace a3 := Ext.cellH hE a3; replace a4 := Ext.cellH hE a4; replace a5 := Ext.cellH hE a5; replace b0 := Ext.cellH hE b0; replace b1 := Ext.cellH hE b1; replace b2 := Ext.cellH hE b2; replace b3 := Ext.cellH hE b3; replace b4 := Ext.cellH hE b4; replace b5 := Ext.cellH hE b5; replace HX := Bx.hext HX hE; replace HV1 := QV.hext HV1 hE; replace HE := Lib.hid (HE.out.tr hE); have HV2 := Lib.hid hv; have y0 : w2.cell? ⟨w.heap.size + 1 + 1, 0, none⟩ = some (.bool false) := HX.out.c 0; have y1 : w2.cell? ⟨w.heap.size + 1 + 1, 1, none⟩ = some (.slice none 0 0) := HX.out.c 1; have y2 : w2.cell? ⟨w.heap.size + 1 + 1, 2, none⟩ = some (.slice none 0 0) := HX.out.c 2; have y3 : w2.cell? ⟨w.heap.size + 1 + 1, 3, none⟩ = some (.bool false) := HX.out.c 3; have y4 : w2.cell? ⟨w.heap.size + 1 + 1, 4, none⟩ = some (.slice none 0 0) := HX.out.c 4; have y5 : w2.cell? ⟨w.heap.size + 1 + 1, 5, none⟩ = some (.slice none 0 0) := HX.out.c 5; have f0 := HX.out.f 0; have f1 := HX.out.f 1; have f2 := HX.out.f 2; have f3 := HX.out.f 3; have f4 := HX.out.f 4; have f5 := HX.out.f 5; clear hE hv))
  all_goals
    clear a0 a1 a2 a3 a4 a5 b0 b1 b2 b3 b4 b5
    go_wp2_with fail
    obtain ⟨d0', d1', d2', d3', d4', d5'⟩ := set6 HX.out (.bool s1) (.slice Z1 l1 c1) (.slice Y1 m1 d1) (.bool s2) (.slice Z2 l2 c2) (.slice Y2 m2 d2)
    have HZ := JV.off (JV.mk HV1.out HV2.out) HX.out nou96 (size6 (.bool s1) (.slice Z1 l1 c1) (.slice Y1 m1 d1) (.bool s2) (.slice Z2 l2 c2) (.slice Y2 m2 d2)) (keep6 (b := w.heap.size + 1 + 1) (.bool s1) (.slice Z1 l1 c1) (.slice Y1 m1 d1) (.bool s2) (.slice Z2 l2 c2) (.slice Y2 m2 d2))
    refine bodyPost_ret (v := .agg #[.bool s1, .slice Z1 l1 c1, .slice Y1 m1 d1, .bool s2, .slice Z2 l2 c2, .slice Y2 m2 d2]) ?_ rfl ⟨_, rfl, HZ, ext_set6 (b := w.heap.size + 1 + 1) HE.out (by omega) _ _ _ _ _ _⟩
    simp [results, Tryz.f148, go_sem, d0', d1', d2', d3', d4', d5']
set_option maxHeartbeats 8000000 in
set_option maxRecDepth 200000 in
theorem jScale_v (v1 v2 : Value) (a1 a2 x : Rat) (n m : Nat) (w : World) (h1 : JV w v1 a1 a2) (h2 : QV w v2 x) (ha : Bd a1 n ∧ Bd a2 n) (hx : Bd x m) (hk : 2 * (n + m) + 6 ≤ KK) :
    Calls Tryz.prog 149 #[v1, v2] w (RetJ (mnR (a1 * x) (a2 * x)) (mxR (a1 * x) (a2 * x)) w) := by
  obtain ⟨spx, Zpx, lpx, cpx, Ypx, mpx, dpx, spy, Zpy, lpy, cpy, Ypy, mpy, dpy, rfl⟩ := h1.ex
  obtain ⟨sq, Zq, lq, cq, Yq, mq, dq, rfl, -, -, -⟩ := h2.ex
  have HT1 : Hid (∀ W, Ext w W → Calls Tryz.prog 115 #[.agg #[.bool spx, .slice Zpx lpx cpx, .slice Ypx mpx dpx], .agg #[.bool sq, .slice Zq lq cq, .slice Yq mq dq]] W (RetQ3 (a1 * x) W)) := fun W hE => q3Mul_v _ _ _ _ n m W (h1.two.1.ext hE) (h2.ext hE) ha.1 hx (by omega)
  have HT2 : Hid (∀ W, Ext w W → Calls Tryz.prog 115 #[.agg #[.bool spy, .slice Zpy lpy cpy, .slice Ypy mpy dpy], .agg #[.bool sq, .slice Zq lq cq, .slice Yq mq dq]] W (RetQ3 (a2 * x) W)) := fun W hE => q3Mul_v _ _ _ _ n m W (h1.two.2.ext hE) (h2.ext hE) ha.2 hx (by omega)
  have HJ : Hid (∀ W v y, QV W v y → Calls Tryz.prog 122 #[v] W (RetJ y y W)) := fun W v y h => jJust_v v y W h
  have HK : Hid (∀ W u v, JV W u (a1 * x) (a1 * x) → JV W v (a2 * x) (a2 * x) → Calls Tryz.prog 148 #[u, v] W (RetJ (mnR (a1 * x) (a2 * x)) (mxR (a1 * x) (a2 * x)) W)) := fun W u v hu hv => by
    have e1 := (ha.1.mul hx).mono (n := n + m + 1) (by omega)
    have e2 := (ha.2.mul hx).mono (n := n + m + 1) (by omega)
    have := jJoin_v u v _ _ _ _ (n + m + 1) (n + m + 1) W hu hv ⟨e1, e1⟩ ⟨e2, e2⟩ (by omega)
    exact this
  clear h1 h2 ha hx hk
  go_enter Tryz.func149, Tryz.ntmps149
  go_wp2_with fail
  obtain ⟨X1, X2, X3, E0⟩ := boxes3g w #[.bool spx, .slice Zpx lpx cpx, .slice Ypx mpx dpx, .bool spy, .slice Zpy lpy cpy, .slice Ypy mpy dpy] #[.bool sq, .slice Zq lq cq, .slice Yq mq dq] #[.bool false, .slice none 0 0, .slice none 0 0, .bool false, .slice none 0 0, .slice none 0 0] 96 86 96
  generalize ((w.alloc (.cells #[.bool spx, .slice Zpx lpx cpx, .slice Ypx mpx dpx, .bool spy, .slice Zpy lpy cpy, .slice Ypy mpy dpy] 96)).alloc (.cells #[.bool sq, .slice Zq lq cq, .slice Yq mq dq] 86)).alloc (.cells #[.bool false, .slice none 0 0, .slice none 0 0, .bool false, .slice none 0 0, .slice none 0 0] 96) = W0 at *
  have a0 : W0.cell? ⟨w.heap.size, 0, none⟩ = some (.bool spx) := X1.c 0
  have a1 : W0.cell? ⟨w.heap.size, 1, none⟩ = some (.slice Zpx lpx cpx) := X1.c 1
  have a2 : W0.cell? ⟨w.heap.size, 2, none⟩ = some (.slice Ypx mpx dpx) := X1.c 2
  have a3 : W0.cell? ⟨w.heap.size, 3, none⟩ = some (.bool spy) := X1.c 3
  have a4 : W0.cell? ⟨w.heap.size, 4, none⟩ = some (.slice Zpy lpy cpy) := X1.c 4
  have a5 : W0.cell? ⟨w.heap.size, 5, none⟩ = some (.slice Ypy mpy dpy) := X1.c 5
  have b0 : W0.cell? ⟨w.heap.size + 1, 0, none⟩ = some (.bool sq) := X2.c 0
  have b1 : W0.cell? ⟨w.heap.size + 1, 1, none⟩ = some (.slice Zq lq cq) := X2.c 1
  have b2 : W0.cell? ⟨w.heap.size + 1, 2, none⟩ = some (.slice Yq mq dq) := X2.c 2
  have HX := Lib.hid X3
  have HE := Lib.hid E0
  clear X1 X2 X3 E0
  go_region_held3 (fun w' => w'.cell? ⟨w.heap.size, 0, none⟩ = some (.bool spx) ∧ w'.cell? ⟨w.heap.size, 1, none⟩ = some (.slice Zpx lpx cpx) ∧ w'.cell? ⟨w.heap.size, 2, none⟩ = some (.slice Ypx mpx dpx) ∧ w'.cell? ⟨w.heap.size, 3, none⟩ = some (.bool spy) ∧ w'.cell? ⟨w.heap.size, 4, none⟩ = some (.slice Zpy lpy cpy) ∧ w'.cell? ⟨w.heap.size, 5, none⟩ = some (.slice Ypy mpy dpy) ∧ w'.cell? ⟨w.heap.size + 1, 0, none⟩ = some (.bool sq) ∧ w'.cell? ⟨w.heap.size + 1, 1, none⟩ = some (.slice Zq lq cq) ∧ w'.cell? ⟨w.heap.size + 1, 2, none⟩ = some (.slice Yq mq dq)) (((try dsimp only); (repeat' apply And.intro) <;> (first | (with_reducible assumption) | (rw [neC (by omega), neC (by omega), neC (by omega), neC (by omega), neC (by omega), neC (by omega)]; with_reducible assumption) | (rw [neC (by omega), neC (by omega), neC (by omega)]; with_reducible assumption) | ((go_keep); done))))
    (first
      | (go_at_call 115; (with_reducible refine (HT1.out _ (Ext.dr' HE)).mono ?_); rintro e w1 ⟨v1, rfl, hv, hE⟩; replace hE := ((Ext.rfl' _).dr).tr hE; obtain ⟨s1, Z1, l1, c1, Y1, m1, d1, rfl, -, -, -⟩ := hv.ex; replace a0 := Ext.cellH hE a0; replace a1 := Ext.cellH hE a1; replace a2 := Ext.cellH hE a2; replace a3 := Ext.cellH hE a3; replace a4 := Ext.cellH hE a4; replace a5 := Ext.cellH hE a5; replace b0 := Ext.cellH hE b0; replace b1 := Ext.cellH hE b1; replace b2 := Ext.cellH hE b2; replace HX := Bx.hext HX hE; replace HE := Lib.hid (HE.out.tr hE); have HV1 := Lib.hid hv; clear hE hv)
      | (go_at_call 122; (with_reducible refine (HJ.out _ _ _ HV1.out).mono ?_); rintro e w2 ⟨v2, rfl, hv, hE⟩; obtain ⟨s2x, Z2x, l2x, c2x, Y2x, m2x, d2x, s2y, Z2y, l2y, c2y, Y2y, m2y, d2y, rfl⟩ := hv.ex; replace a0 := Ext.cellH hE a0; replace a1 := Ext.cellH hE a1; replace a2 := Ext.cellH hE a2; replace a3 := Ext.cellH hE a3; replace a4 := Ext.cellH hE a4; replace a5 := Ext.cellH hE a5; replace b0 := Ext.cellH hE b0; replace b1 := Ext.cellH hE b1; replace b2 := Ext.cellH hE b2; replace HX := Bx.hext HX hE; replace HV1 := QV.hext HV1 hE; replace HE := Lib.hid (HE.out.tr hE); have HV2 := Lib.hid hv; clear hE hv)
      | (go_at_call 115; (with_reducible refine (HT2.out _ HE.out).mono ?_); rintro e w3 ⟨v3, rfl, hv, hE⟩; obtain ⟨s3, Z3, l3, c3, Y3, m3, d3, rfl, -, -, -⟩ := hv.ex; replace a0 := Ext.cellH hE a0; replace a1 := Ext.cellH hE a1; replace a2 := Ext.cellH hE a2; replace a3 := Ext.cellH hE a3; replace a4 := Ext.cellH hE a4; replace a5 := Ext.cellH hE a5; replace b0 := Ext.cellH hE b0; replace b1 := Ext.cellH hE b1; replace b2 := Ext.cellH hE b2; replace HX := Bx.hext HX hE; replace HV1 := QV.hext HV1 hE; replace HV2 := JV.hext HV2 hE; replace HE := Lib.hid (HE.out.tr hE); have HV3 := Lib.hid hv; clear hE hv)
      | (go_at_call 122; (with_reducible refine (HJ.out _ _ _ HV3.out).mono ?_); rintro e w4 ⟨v4, rfl, hv, hE⟩; obtain ⟨s4x, Z4x, l4x, c4x, Y4x, m4x, d4x, s4y, Z4y, l4y, c4y, Y4y, m4y, d4y, rfl⟩ := hv.ex; replace a0 := Ext.cellH hE a0; replace a1 := Ext.cellH hE a1; replace a2 := Ext.cellH hE a2; replace a3 := Ext.cellH hE a3; replace a4 := Ext.cellH hE a4; replace a5 := Ext.cellH hE a5; replace b0 := Ext.cellH hE b0; replace b1 := Ext.cellH hE b1; replace b2 := Ext.cellH hE b2; replace HX := Bx.hext HX hE; replace HV1 := QV.hext HV1 hE; replace HV2 := JV.hext HV2 hE; replace HV3 := QV.hext HV3 hE; replace HE := Lib.hid (HE.out.tr hE); have HV4 := Lib.hid hv; clear hE hv)
      | (go_at_call 148; (with_reducible refine (HK.out _ _ _ HV2.out HV4.out).mono ?_); rintro e w5 ⟨v5, rfl, hv, hE⟩; obtain ⟨s5x, Z5x, l5x, c5x, Y5x, m5x, d5x, s5y, Z5y, l5y, c5y, Y5y, m5y, d5y, rfl⟩ := hv.ex; replace a0 := Ext.cellH hE a0; replace a1 := Ext.cellH hE a1; replace a2 := Ext.cellH hE a2; replace a3 := Ext.cellH hE a3; replace a4 := Ext.cellH hE a4; replace a5 := Ext.cellH hE a5; replace b0 := Ext.cellH hE b0; replace b1 := Ext.cellH hE b1; replace b2 := Ext.cellH hE b2; replace HX := Bx.hext HX hE; replace HV1 := QV.hext HV1 hE; replace HV2 := JV.hext HV2 hE; replace HV3 := QV.hext HV3 hE; replace HV4 := JV.hext HV4 hE; replace HE := Lib.hid (HE.out.tr hE); have HV5 := Lib.hid hv; have y0 : w5.cell? ⟨w.heap.size + 1 + 1, 0, none⟩ = some (.bool false) := HX.out.c 0; have y1 : w5.cell? ⟨w.heap.size + 1 + 1, 1, none⟩ = some (.slice none 0 0) := HX.out.c 1; have y2 : w5.cell? ⟨w.heap.size + 1 + 1, 2, none⟩ = some (.slice none 0 0) := HX.out.c 2; have y3 : w5.cell? ⟨w.heap.size + 1 + 1, 3, none⟩ = some (.bool false) := HX.out.c 3; have y4 : w5.cell? ⟨w.heap.size + 1 + 1, 4, none⟩ = some (.slice none 0 0) := HX.out.c 4; have y5 : w5.cell? ⟨w.heap.size + 1 + 1, 5, none⟩ = some (.slice none 0 0) := HX.out.c 5; have f0 := HX.out.f 0; have f1 := HX.out.f 1; have f2 := HX.out.f 2; have f3 := HX.out.f 3; have f4 := HX.out.f 4; have f5 := HX.out.f 5; clear hE hv))
  all_goals
    clear a0 a1 a2 a3 a4 a5 b0 b1 b2
    go_wp2_with fail
    obtain ⟨d0', d1', d2', d3', d4', d5'⟩ := set6 HX.out (.bool s5x) (.slice Z5x l5x c5x) (.slice Y5x m5x d5x) (.bool s5y) (.slice Z5y l5y c5y) (.slice Y5y m5y d5y)
    have HZ := JV.off (HV5.out) HX.out nou96 (size6 (.bool s5x) (.slice Z5x l5x c5x) (.slice Y5x m5x d5x) (.bool s5y) (.slice Z5y l5y c5y) (.slice Y5y m5y d5y)) (keep6 (b := w.heap.size + 1 + 1) (.bool s5x) (.slice Z5x l5x c5x) (.slice Y5x m5x d5x) (.bool s5y) (.slice Z5y l5y c5y) (.slice Y5y m5y d5y))
    refine bodyPost_ret (v := .agg #[.bool s5x, .slice Z5x l5x c5x, .slice Y5x m5x d5x, .bool s5y, .slice Z5y l5y c5y, .slice Y5y m5y d5y]) ?_ rfl ⟨_, rfl, HZ, ext_set6 (b := w.heap.size + 1 + 1) HE.out (by omega) _ _ _ _ _ _⟩
    simp [results, Tryz.f149, go_sem, d0', d1', d2', d3', d4', d5']
theorem ite_bd {x y : Rat} {n : Nat} (h1 : Bd x n) (h2 : Bd y n) : Bd (mnR x y) n ∧ Bd (mxR x y) n := by
  unfold mnR mxR
  constructor <;> split <;> assumption
set_option maxHeartbeats 8000000 in
set_option maxRecDepth 200000 in
theorem jTimes_v (v1 v2 : Value) (a1 a2 b1 b2 : Rat) (n m : Nat) (w : World) (h1 : JV w v1 a1 a2) (h2 : JV w v2 b1 b2) (ha : Bd a1 n ∧ Bd a2 n) (hb : Bd b1 m ∧ Bd b2 m) (hk : 2 * (n + m) + 6 ≤ KK) :
    Calls Tryz.prog 124 #[v1, v2] w (RetJ (mnR (mnR (a1 * b1) (a2 * b1)) (mnR (a1 * b2) (a2 * b2))) (mxR (mxR (a1 * b1) (a2 * b1)) (mxR (a1 * b2) (a2 * b2))) w) := by
  obtain ⟨spx, Zpx, lpx, cpx, Ypx, mpx, dpx, spy, Zpy, lpy, cpy, Ypy, mpy, dpy, rfl⟩ := h1.ex
  obtain ⟨sqx, Zqx, lqx, cqx, Yqx, mqx, dqx, sqy, Zqy, lqy, cqy, Yqy, mqy, dqy, rfl⟩ := h2.ex
  have HT1 : Hid (∀ W, Ext w W → Calls Tryz.prog 149 #[.agg #[.bool spx, .slice Zpx lpx cpx, .slice Ypx mpx dpx, .bool spy, .slice Zpy lpy cpy, .slice Ypy mpy dpy], .agg #[.bool sqx, .slice Zqx lqx cqx, .slice Yqx mqx dqx]] W (RetJ (mnR (a1 * b1) (a2 * b1)) (mxR (a1 * b1) (a2 * b1)) W)) := fun W hE => jScale_v _ _ _ _ _ n m W (h1.ext hE) (h2.two.1.ext hE) ha hb.1 (by omega)
  have HT2 : Hid (∀ W, Ext w W → Calls Tryz.prog 149 #[.agg #[.bool spx, .slice Zpx lpx cpx, .slice Ypx mpx dpx, .bool spy, .slice Zpy lpy cpy, .slice Ypy mpy dpy], .agg #[.bool sqy, .slice Zqy lqy cqy, .slice Yqy mqy dqy]] W (RetJ (mnR (a1 * b2) (a2 * b2)) (mxR (a1 * b2) (a2 * b2)) W)) := fun W hE => jScale_v _ _ _ _ _ n m W (h1.ext hE) (h2.two.2.ext hE) ha hb.2 (by omega)
  have HK : Hid (∀ W u v, JV W u (mnR (a1 * b1) (a2 * b1)) (mxR (a1 * b1) (a2 * b1)) → JV W v (mnR (a1 * b2) (a2 * b2)) (mxR (a1 * b2) (a2 * b2)) → Calls Tryz.prog 148 #[u, v] W (RetJ (mnR (mnR (a1 * b1) (a2 * b1)) (mnR (a1 * b2) (a2 * b2))) (mxR (mxR (a1 * b1) (a2 * b1)) (mxR (a1 * b2) (a2 * b2))) W)) := fun W u v hu hv => by
    have e1 := ite_bd ((ha.1.mul hb.1).mono (n := n + m + 1) (by omega)) ((ha.2.mul hb.1).mono (n := n + m + 1) (by omega))
    have e2 := ite_bd ((ha.1.mul hb.2).mono (n := n + m + 1) (by omega)) ((ha.2.mul hb.2).mono (n := n + m + 1) (by omega))
    exact jJoin_v u v _ _ _ _ (n + m + 1) (n + m + 1) W hu hv e1 e2 (by omega)
  clear h1 h2 ha hb hk
  go_enter Tryz.func124, Tryz.ntmps124
  go_wp2_with fail
  obtain ⟨X1, X2, X3, E0⟩ := boxes3g w #[.bool spx, .slice Zpx lpx cpx, .slice Ypx mpx dpx, .bool spy, .slice Zpy lpy cpy, .slice Ypy mpy dpy] #[.bool sqx, .slice Zqx lqx cqx, .slice Yqx mqx dqx, .bool sqy, .slice Zqy lqy cqy, .slice Yqy mqy dqy] #[.bool false, .slice none 0 0, .slice none 0 0, .bool false, .slice none 0 0, .slice none 0 0] 96 96 96
  generalize ((w.alloc (.cells #[.bool spx, .slice Zpx lpx cpx, .slice Ypx mpx dpx, .bool spy, .slice Zpy lpy cpy, .slice Ypy mpy dpy] 96)).alloc (.cells #[.bool sqx, .slice Zqx lqx cqx, .slice Yqx mqx dqx, .bool sqy, .slice Zqy lqy cqy, .slice Yqy mqy dqy] 96)).alloc (.cells #[.bool false, .slice none 0 0, .slice none 0 0, .bool false, .slice none 0 0, .slice none 0 0] 96) = W0 at *
  have a0 : W0.cell? ⟨w.heap.size, 0, none⟩ = some (.bool spx) := X1.c 0
  have a1 : W0.cell? ⟨w.heap.size, 1, none⟩ = some (.slice Zpx lpx cpx) := X1.c 1
  have a2 : W0.cell? ⟨w.heap.size, 2, none⟩ = some (.slice Ypx mpx dpx) := X1.c 2
  have a3 : W0.cell? ⟨w.heap.size, 3, none⟩ = some (.bool spy) := X1.c 3
  have a4 : W0.cell? ⟨w.heap.size, 4, none⟩ = some (.slice Zpy lpy cpy) := X1.c 4
  have a5 : W0.cell? ⟨w.heap.size, 5, none⟩ = some (.slice Ypy mpy dpy) := X1.c 5
  have b0 : W0.cell? ⟨w.heap.size + 1, 0, none⟩ = some (.bool sqx) := X2.c 0
  have b1 : W0.cell? ⟨w.heap.size + 1, 1, none⟩ = some (.slice Zqx lqx cqx) := X2.c 1
  have b2 : W0.cell? ⟨w.heap.size + 1, 2, none⟩ = some (.slice Yqx mqx dqx) := X2.c 2
  have b3 : W0.cell? ⟨w.heap.size + 1, 3, none⟩ = some (.bool sqy) := X2.c 3
  have b4 : W0.cell? ⟨w.heap.size + 1, 4, none⟩ = some (.slice Zqy lqy cqy) := X2.c 4
  have b5 : W0.cell? ⟨w.heap.size + 1, 5, none⟩ = some (.slice Yqy mqy dqy) := X2.c 5
  have HX := Lib.hid X3
  have HE := Lib.hid E0
  clear X1 X2 X3 E0
  go_region_held3 (fun w' => w'.cell? ⟨w.heap.size, 0, none⟩ = some (.bool spx) ∧ w'.cell? ⟨w.heap.size, 1, none⟩ = some (.slice Zpx lpx cpx) ∧ w'.cell? ⟨w.heap.size, 2, none⟩ = some (.slice Ypx mpx dpx) ∧ w'.cell? ⟨w.heap.size, 3, none⟩ = some (.bool spy) ∧ w'.cell? ⟨w.heap.size, 4, none⟩ = some (.slice Zpy lpy cpy) ∧ w'.cell? ⟨w.heap.size, 5, none⟩ = some (.slice Ypy mpy dpy) ∧ w'.cell? ⟨w.heap.size + 1, 0, none⟩ = some (.bool sqx) ∧ w'.cell? ⟨w.heap.size + 1, 1, none⟩ = some (.slice Zqx lqx cqx) ∧ w'.cell? ⟨w.heap.size + 1, 2, none⟩ = some (.slice Yqx mqx dqx) ∧ w'.cell? ⟨w.heap.size + 1, 3, none⟩ = some (.bool sqy) ∧ w'.cell? ⟨w.heap.size + 1, 4, none⟩ = some (.slice Zqy lqy cqy) ∧ w'.cell? ⟨w.heap.size + 1, 5, none⟩ = some (.slice Yqy mqy dqy)) (((try dsimp only); (repeat' apply And.intro) <;> (first | (with_reducible assumption) | (rw [neC (by omega), neC (by omega), neC (by omega), neC (by omega), neC (by omega), neC (by omega)]; with_reducible assumption) | (rw [neC (by omega), neC (by omega), neC (by omega)]; with_reducible assumption) | ((go_keep); done))))
    (first
      | (go_at_call 149; (with_reducible refine (HT1.out _ (Ext.dr' HE)).mono ?_); rintro e w1 ⟨v1, rfl, hv, hE⟩; replace hE := ((Ext.rfl' _).dr).tr hE; obtain ⟨s1x, Z1x, l1x, c1x, Y1x, m1x, d1x, s1y, Z1y, l1y, c1y, Y1y, m1y, d1y, rfl⟩ := hv.ex; replace a0 := Ext.cellH hE a0; replace a1 := Ext.cellH hE a1; replace a2 := Ext.cellH hE a2; replace a3 := Ext.cellH hE a3; replace a4 := Ext.cellH hE a4; replace a5 := Ext.cellH hE a5; replace b0 := Ext.cellH hE b0; replace b1 := Ext.cellH hE b1; replace b2 := Ext.cellH hE b2; replace b3 := Ext.cellH hE b3; replace b4 := Ext.cellH hE b4; replace b5 := Ext.cellH hE b5; replace HX := Bx.hext HX hE; replace HE := Lib.hid (HE.out.tr hE); have HV1 := Lib.hid hv; clear hE hv)
      | (go_at_call 149; (with_reducible refine (HT2.out _ HE.out).mono ?_); rintro e w2 ⟨v2, rfl, hv, hE⟩; obtain ⟨s2x, Z2x, l2x, c2x, Y2x, m2x, d2x, s2y, Z2y, l2y, c2y, Y2y, m2y, d2y, rfl⟩ := hv.ex; replace a0 := Ext.cellH hE a0; replace a1 := Ext.cellH hE a1; replace a2 := Ext.cellH hE a2; replace a3 := Ext.cellH hE a3; replace a4 := Ext.cellH hE a4; replace a5 := Ext.cellH hE a5; replace b0 := Ext.cellH hE b0; replace b1 := Ext.cellH hE b1; replace b2 := Ext.cellH hE b2; replace b3 := Ext.cellH hE b3; replace b4 := Ext.cellH hE b4; replace b5 := Ext.cellH hE b5; replace HX := Bx.hext HX hE; replace HV1 := JV.hext HV1 hE; replace HE := Lib.hid (HE.out.tr hE); have HV2 := Lib.hid hv; clear hE hv)
      | (go_at_call 148; (with_reducible refine (HK.out _ _ _ HV1.out HV2.out).mono ?_); rintro e w3 ⟨v3, rfl, hv, hE⟩; obtain ⟨s3x, Z3x, l3x, c3x, Y3x, m3x, d3x, s3y, Z3y, l3y, c3y, Y3y, m3y, d3y, rfl⟩ := hv.ex; replace a0 := Ext.cellH hE a0; replace a1 := Ext.cellH hE a1; replace a2 := Ext.cellH hE a2; replace a3 := Ext.cellH hE a3; replace a4 := Ext.cellH hE a4; replace a5 := Ext.cellH hE a5; replace b0 := Ext.cellH hE b0; replace b1 := Ext.cellH hE b1; replace b2 := Ext.cellH hE b2; replace b3 := Ext.cellH hE b3; replace b4 := Ext.cellH hE b4; replace b5 := Ext.cellH hE b5; replace HX := Bx.hext HX hE; replace HV1 := JV.hext HV1 hE; replace HV2 := JV.hext HV2 hE; replace HE := Lib.hid (HE.out.tr hE); have HV3 := Lib.hid hv; have y0 : w3.cell? ⟨w.heap.size + 1 + 1, 0, none⟩ = some (.bool false) := HX.out.c 0; have y1 : w3.cell? ⟨w.heap.size + 1 + 1, 1, none⟩ = some (.slice none 0 0) := HX.out.c 1; have y2 : w3.cell? ⟨w.heap.size + 1 + 1, 2, none⟩ = some (.slice none 0 0) := HX.out.c 2; have y3 : w3.cell? ⟨w.heap.size + 1 + 1, 3, none⟩ = some (.bool false) := HX.out.c 3; have y4 : w3.cell? ⟨w.heap.size + 1 + 1, 4, none⟩ = some (.slice none 0 0) := HX.out.c 4; have y5 : w3.cell? ⟨w.heap.size + 1 + 1, 5, none⟩ = some (.slice none 0 0) := HX.out.c 5; have f0 := HX.out.f 0; have f1 := HX.out.f 1; have f2 := HX.out.f 2; have f3 := HX.out.f 3; have f4 := HX.out.f 4; have f5 := HX.out.f 5; clear hE hv))
  all_goals
    clear a0 a1 a2 a3 a4 a5 b0 b1 b2 b3 b4 b5
    go_wp2_with fail
    obtain ⟨d0', d1', d2', d3', d4', d5'⟩ := set6 HX.out (.bool s3x) (.slice Z3x l3x c3x) (.slice Y3x m3x d3x) (.bool s3y) (.slice Z3y l3y c3y) (.slice Y3y m3y d3y)
    have HZ := JV.off (HV3.out) HX.out nou96 (size6 (.bool s3x) (.slice Z3x l3x c3x) (.slice Y3x m3x d3x) (.bool s3y) (.slice Z3y l3y c3y) (.slice Y3y m3y d3y)) (keep6 (b := w.heap.size + 1 + 1) (.bool s3x) (.slice Z3x l3x c3x) (.slice Y3x m3x d3x) (.bool s3y) (.slice Z3y l3y c3y) (.slice Y3y m3y d3y))
    refine bodyPost_ret (v := .agg #[.bool s3x, .slice Z3x l3x c3x, .slice Y3x m3x d3x, .bool s3y, .slice Z3y l3y c3y, .slice Y3y m3y d3y]) ?_ rfl ⟨_, rfl, HZ, ext_set6 (b := w.heap.size + 1 + 1) HE.out (by omega) _ _ _ _ _ _⟩
    simp [results, Tryz.f124, go_sem, d0', d1', d2', d3', d4', d5']
end Go.Proofs.YtbldlibijojbjaaGreatDoor.GB
