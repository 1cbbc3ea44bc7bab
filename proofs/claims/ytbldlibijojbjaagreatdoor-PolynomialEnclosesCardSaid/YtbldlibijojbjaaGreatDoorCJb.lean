import Derived.Test.YtbldlibijojbjaaGreatDoorCJa
import Derived.Test.YtbldlibijojbjaaGreatDoorMYe
import Derived.Test.YtbldlibijojbjaaGreatDoorMHm
import Derived.Test.YtbldlibijojbjaaGreatDoorMZl
namespace Go.Proofs.YtbldlibijojbjaaGreatDoor.GB
set_option linter.unusedVariables false
set_option linter.unusedSimpArgs false
open Go.RowKit Go.Shelf
attribute [local go_sem ↓] Go.wp_at_zero Go.wp_at_succ
theorem cell_drew (w : World) (p : Addr) : w.drew.cell? p = w.cell? p := rfl
theorem ivB_and {s t : ByteArray} {q r : Rat} (h1 : ∀ x, s.data.toList = rtext x → q = x) (h2 : ∀ x, t.data.toList = rtext x → r = x) : ivB s t = (ratB s.data.toList && ratB t.data.toList && decide (q ≤ r)) := by
  cases hi : ivB s t
  · symm
    cases hs : ratB s.data.toList
    · simp
    · cases ht : ratB t.data.toList
      · simp
      · obtain ⟨a, ha⟩ := ratB_t hs
        obtain ⟨b, hb⟩ := ratB_t ht
        have e1 := h1 a ha
        have e2 := h2 b hb
        subst e1 e2
        have ea : s = rb q := list_of ha
        have eb : t = rb r := list_of hb
        subst ea eb
        rw [ivB_of] at hi
        simp [hi]
  · obtain ⟨a, b, rfl, rfl, hab⟩ := ivB_yes hi
    have e1 := h1 a rfl
    have e2 := h2 b rfl
    subst e1 e2
    rw [show ratB (rb q).data.toList = true from ratB_of ⟨q, rfl⟩, show ratB (rb r).data.toList = true from ratB_of ⟨r, rfl⟩, decide_eq_true hab]; rfl
set_option maxHeartbeats 8000000 in
set_option maxRecDepth 200000 in
theorem jTo_v (v : Value) (a b : Rat) (n : Nat) (w : World) (h : JV w v a b) (hb : Bd a n ∧ Bd b n) (hk : n + 1 ≤ KK) : Calls Tryz.prog 83 #[v] w fun e w' => e = .returned (.agg #[rtx a, rtx b]) ∧ Ext w w' := by
  obtain ⟨spx, Zpx, lpx, cpx, Ypx, mpx, dpx, spy, Zpy, lpy, cpy, Ypy, mpy, dpy, rfl⟩ := h.ex
  have f1 := bd_fit hb.1 hk
  have f2 := bd_fit hb.2 hk
  have HT1 : Hid (∀ W, Ext w W → Calls Tryz.prog 72 #[.agg #[.bool spx, .slice Zpx lpx cpx, .slice Ypx mpx dpx]] W fun e w' => e = .returned (rtx a) ∧ Ext W w') := fun W hE => q3To_any _ _ W (h.two.1.ext hE) f1.1 f1.2
  have HT2 : Hid (∀ W, Ext w W → Calls Tryz.prog 72 #[.agg #[.bool spy, .slice Zpy lpy cpy, .slice Ypy mpy dpy]] W fun e w' => e = .returned (rtx b) ∧ Ext W w') := fun W hE => q3To_any _ _ W (h.two.2.ext hE) f2.1 f2.2
  clear h hb hk f1 f2
  go_enter Tryz.func83, Tryz.ntmps83
  go_wp2_with fail
  obtain ⟨X1, X2, E0⟩ := boxes2g w #[.bool spx, .slice Zpx lpx cpx, .slice Ypx mpx dpx, .bool spy, .slice Zpy lpy cpy, .slice Ypy mpy dpy] #[.string ⟨#[]⟩, .string ⟨#[]⟩] 96 44
  generalize (w.alloc (.cells #[.bool spx, .slice Zpx lpx cpx, .slice Ypx mpx dpx, .bool spy, .slice Zpy lpy cpy, .slice Ypy mpy dpy] 96)).alloc (.cells #[.string ⟨#[]⟩, .string ⟨#[]⟩] 44) = W0 at *
  have a0 : W0.cell? ⟨w.heap.size, 0, none⟩ = some (.bool spx) := X1.c 0
  have a1 : W0.cell? ⟨w.heap.size, 1, none⟩ = some (.slice Zpx lpx cpx) := X1.c 1
  have a2 : W0.cell? ⟨w.heap.size, 2, none⟩ = some (.slice Ypx mpx dpx) := X1.c 2
  have a3 : W0.cell? ⟨w.heap.size, 3, none⟩ = some (.bool spy) := X1.c 3
  have a4 : W0.cell? ⟨w.heap.size, 4, none⟩ = some (.slice Zpy lpy cpy) := X1.c 4
  have a5 : W0.cell? ⟨w.heap.size, 5, none⟩ = some (.slice Ypy mpy dpy) := X1.c 5
  have HX := Lib.hid X2
  have HE := Lib.hid E0
  clear X1 X2 E0
  go_region_held3 (fun w' => w'.cell? ⟨w.heap.size, 0, none⟩ = some (.bool spx) ∧ w'.cell? ⟨w.heap.size, 1, none⟩ = some (.slice Zpx lpx cpx) ∧ w'.cell? ⟨w.heap.size, 2, none⟩ = some (.slice Ypx mpx dpx) ∧ w'.cell? ⟨w.heap.size, 3, none⟩ = some (.bool spy) ∧ w'.cell? ⟨w.heap.size, 4, none⟩ = some (.slice Zpy lpy cpy) ∧ w'.cell? ⟨w.heap.size, 5, none⟩ = some (.slice Ypy mpy dpy)) (((try dsimp only); (repeat' apply And.intro) <;> (first | (with_reducible assumption) | (rw [neC (by omega), neC (by omega), neC (by omega)]; with_reducible assumption) | (rw [neC (by omega), neC (by omega)]; with_reducible assumption) | ((go_keep); done))))
    (first
      | (go_at_call 72; (with_reducible refine (HT1.out _ (Ext.dr' HE)).mono ?_); rintro e w1 ⟨rfl, hE⟩; replace hE := ((Ext.rfl' _).dr).tr hE; replace a0 := Ext.cellH hE a0; replace a1 := Ext.cellH hE a1; replace a2 := Ext.cellH hE a2; replace a3 := Ext.cellH hE a3; replace a4 := Ext.cellH hE a4; replace a5 := Ext.cellH hE a5; replace HX := Bx.hext HX hE; replace HE := Lib.hid (HE.out.tr hE); clear hE)
      | (go_at_call 72; (with_reducible refine (HT2.out _ HE.out).mono ?_); rintro e w2 ⟨rfl, hE⟩; replace a0 := Ext.cellH hE a0; replace a1 := Ext.cellH hE a1; replace a2 := Ext.cellH hE a2; replace a3 := Ext.cellH hE a3; replace a4 := Ext.cellH hE a4; replace a5 := Ext.cellH hE a5; replace HX := Bx.hext HX hE; replace HE := Lib.hid (HE.out.tr hE); have y0 : w2.cell? ⟨w.heap.size + 1, 0, none⟩ = some (.string ⟨#[]⟩) := HX.out.c 0; have y1 : w2.cell? ⟨w.heap.size + 1, 1, none⟩ = some (.string ⟨#[]⟩) := HX.out.c 1; have f0 := HX.out.f 0; have f1 := HX.out.f 1; clear hE))
  all_goals
    clear a0 a1 a2 a3 a4 a5
    go_wp2_with fail
    obtain ⟨d0', d1'⟩ := set2 HX.out (rtx a) (rtx b)
    refine bodyPost_ret (v := .agg #[rtx a, rtx b]) ?_ rfl ⟨rfl, ext_set2 (b := w.heap.size + 1) HE.out (by omega) _ _⟩
    simp [results, Tryz.f83, go_sem, d0', d1']
/-- What an interval of the reference is read from. -/
def JF (s t : ByteArray) (w : World) (e : Ending) (w' : World) : Prop := ∃ v a b, e = .returned (.tuple #[v, .bool (ivB s t)]) ∧ JV w' v a b ∧ (∀ x, s.data.toList = rtext x → a = x) ∧ (∀ x, t.data.toList = rtext x → b = x) ∧ Ext w w'
set_option maxHeartbeats 8000000 in
set_option maxRecDepth 200000 in
theorem jFrom_no1 (s t : ByteArray) (w : World) (hs : s.size ≤ 40) (ht : t.size ≤ 40) (h1 : ratB s.data.toList = false) :
    Calls Tryz.prog 82 #[.agg #[.string s, .string t]] w (JF s t w) := by
  have HF1 : Hid (∀ W, Calls Tryz.prog 71 #[.string s] W fun e w' => ∃ v q, e = .returned (.tuple #[v, .bool false]) ∧ QV w' v q ∧ (∀ x, s.data.toList = rtext x → q = x) ∧ Ext W w') := fun W => h1 ▸ q3From_20 s W hs
  obtain ⟨r, hr⟩ : ∃ r, ratB t.data.toList = r := ⟨_, rfl⟩
  have HF2 : Hid (∀ W, Calls Tryz.prog 71 #[.string t] W fun e w' => ∃ v q, e = .returned (.tuple #[v, .bool r]) ∧ QV w' v q ∧ (∀ x, t.data.toList = rtext x → q = x) ∧ Ext W w') := fun W => hr ▸ q3From_20 t W ht
  have HR : Hid (ivB s t = false) := by
    unfold Hid
    cases hi : ivB s t
    · rfl
    · obtain ⟨a, b, rfl, rfl, -⟩ := ivB_yes hi
      rw [show ratB (rb a).data.toList = true from ratB_of ⟨a, rfl⟩] at h1; cases h1
  clear hs ht h1 hr
  go_enter Tryz.func82, Tryz.ntmps82
  go_wp2_with fail
  obtain ⟨X1, X2, E0⟩ := boxes2g w #[.string s, .string t] #[.bool false, .slice none 0 0, .slice none 0 0, .bool false, .slice none 0 0, .slice none 0 0] 44 96
  have a0 : ((w.alloc (.cells #[.string s, .string t] 44)).alloc (.cells #[.bool false, .slice none 0 0, .slice none 0 0, .bool false, .slice none 0 0, .slice none 0 0] 96)).cell? ⟨w.heap.size, 0, none⟩ = some (.string s) := X1.c 0
  have a1 : ((w.alloc (.cells #[.string s, .string t] 44)).alloc (.cells #[.bool false, .slice none 0 0, .slice none 0 0, .bool false, .slice none 0 0, .slice none 0 0] 96)).cell? ⟨w.heap.size, 1, none⟩ = some (.string t) := X1.c 1
  have HX := Lib.hid X2
  have HX0 := Lib.hid X2
  have HE := Lib.hid E0
  clear X1 X2 E0
  generalize (w.alloc (.cells #[.string s, .string t] 44)).alloc (.cells #[.bool false, .slice none 0 0, .slice none 0 0, .bool false, .slice none 0 0, .slice none 0 0] 96) = W0 at *
  refine (HF1.out _).mono ?_
  rintro e w1 ⟨v, q, rfl, hv, hq, hE⟩
  obtain ⟨s1, Z1, l1, c1, Y1, m1, d1, rfl, -, -, -⟩ := hv.ex
  have e1 : Ext w1 (w1.alloc (.cells #[.bool s1, .slice Z1 l1 c1, .slice Y1 m1 d1] 86)) := (Ext.rfl' w1).al _
  replace a1 := e1.cell (Ext.cellH hE a1)
  replace HX := Bx.hext (Bx.hext HX hE) e1
  replace HE := Lib.hid ((HE.out.tr hE).tr e1)
  have HV1 := Lib.hid (hv.ext e1)
  have HQ1 := Lib.hid hq
  have B1 := Lib.hid (Bx.new w1 #[.bool s1, .slice Z1 l1 c1, .slice Y1 m1 d1] 86)
  have hs1 : w.heap.size + 1 < w1.heap.size := by have := HX.out.lt; have := hE.size; exact Nat.lt_of_lt_of_le HX0.out.lt hE.size
  clear hE hv hq a0 e1 HX0
  go_wp2_with fail
  refine (HF2.out _).mono ?_
  rintro e w2 ⟨v, q2, rfl, hv, hq, hE⟩
  obtain ⟨s2, Z2, l2, c2, Y2, m2, d2, rfl, -, -, -⟩ := hv.ex
  have e2 : Ext w2 (w2.alloc (.cells #[.bool s2, .slice Z2 l2 c2, .slice Y2 m2 d2] 86)) := (Ext.rfl' w2).al _
  replace HX := Bx.hext (Bx.hext HX hE) e2
  replace HE := Lib.hid ((HE.out.tr hE).tr e2)
  replace HV1 := QV.hext (QV.hext HV1 hE) e2
  have HV2 := Lib.hid (hv.ext e2)
  have HQ2 := Lib.hid hq
  replace B1 := Bx.hext (Bx.hext B1 hE) e2
  have B2 := Lib.hid (Bx.new w2 #[.bool s2, .slice Z2 l2 c2, .slice Y2 m2 d2] 86)
  have hs2 : w.heap.size + 1 < w2.heap.size := Nat.lt_of_lt_of_le (Nat.lt_of_lt_of_le hs1 (by simp)) hE.size
  clear hE hv hq a1 e2
  go_wp2_with fail
  generalize (w2.alloc (.cells #[.bool s2, .slice Z2 l2 c2, .slice Y2 m2 d2] 86)) = W3 at *
  generalize w1.heap.size = g1 at *
  generalize w2.heap.size = g2 at *
  have b0 : W3.cell? ⟨g1, 0, none⟩ = some (.bool s1) := B1.out.c 0
  have b1 : W3.cell? ⟨g1, 1, none⟩ = some (.slice Z1 l1 c1) := B1.out.c 1
  have b2 : W3.cell? ⟨g1, 2, none⟩ = some (.slice Y1 m1 d1) := B1.out.c 2
  have c0q : W3.cell? ⟨g2, 0, none⟩ = some (.bool s2) := B2.out.c 0
  have c1q : W3.cell? ⟨g2, 1, none⟩ = some (.slice Z2 l2 c2) := B2.out.c 1
  have c2q : W3.cell? ⟨g2, 2, none⟩ = some (.slice Y2 m2 d2) := B2.out.c 2
  have y0 : W3.cell? ⟨w.heap.size + 1, 0, none⟩ = some (.bool false) := HX.out.c 0; have y1 : W3.cell? ⟨w.heap.size + 1, 1, none⟩ = some (.slice none 0 0) := HX.out.c 1; have y2 : W3.cell? ⟨w.heap.size + 1, 2, none⟩ = some (.slice none 0 0) := HX.out.c 2; have y3 : W3.cell? ⟨w.heap.size + 1, 3, none⟩ = some (.bool false) := HX.out.c 3; have y4 : W3.cell? ⟨w.heap.size + 1, 4, none⟩ = some (.slice none 0 0) := HX.out.c 4; have y5 : W3.cell? ⟨w.heap.size + 1, 5, none⟩ = some (.slice none 0 0) := HX.out.c 5; have f0 := HX.out.f 0; have f1 := HX.out.f 1; have f2 := HX.out.f 2; have f3 := HX.out.f 3; have f4 := HX.out.f 4; have f5 := HX.out.f 5
  have b0d : W3.drew.cell? ⟨g1, 0, none⟩ = some (.bool s1) := b0
  have b1d : W3.drew.cell? ⟨g1, 1, none⟩ = some (.slice Z1 l1 c1) := b1
  have b2d : W3.drew.cell? ⟨g1, 2, none⟩ = some (.slice Y1 m1 d1) := b2
  have c0qd : W3.drew.cell? ⟨g2, 0, none⟩ = some (.bool s2) := c0q
  have c1qd : W3.drew.cell? ⟨g2, 1, none⟩ = some (.slice Z2 l2 c2) := c1q
  have c2qd : W3.drew.cell? ⟨g2, 2, none⟩ = some (.slice Y2 m2 d2) := c2q
  refine wp_region_held_drew (S := (fun w' => w'.cell? ⟨g1, 0, none⟩ = some (.bool s1) ∧ w'.cell? ⟨g1, 1, none⟩ = some (.slice Z1 l1 c1) ∧ w'.cell? ⟨g1, 2, none⟩ = some (.slice Y1 m1 d1) ∧ w'.cell? ⟨g2, 0, none⟩ = some (.bool s2) ∧ w'.cell? ⟨g2, 1, none⟩ = some (.slice Z2 l2 c2) ∧ w'.cell? ⟨g2, 2, none⟩ = some (.slice Y2 m2 d2))) (by kernel_rfl) (by exact ⟨b0d, b1d, b2d, c0qd, c1qd, c2qd⟩) (fun hHeld => ?_)
  refine wpAnyH_take (i := 0) (oi := { dst := some 20, op := Go.Op.load 86 (Go.Operand.tmp 4), type := 86, pos := "ref.go:18", after := #[], guard := none }) (v := ?_) rfl (by kernel_rfl) (by kernel_rfl) (by kernel_rfl) (fun _ _ _ h => h) (Or.inl ⟨by rfl, ?_⟩) hHeld ?_
  rotate_left
  · intro w' hSw; (try dsimp only at hSw); go_simp; (try with_reducible rfl)
  try simp only [Act.put, List.setIfInBounds_toArray, List.set_cons_zero, List.set_cons_succ]
  refine wpAnyH_take (i := 1) (oi := { dst := some 21, op := Go.Op.load 86 (Go.Operand.tmp 6), type := 86, pos := "ref.go:18", after := #[], guard := none }) (v := ?_) rfl (by kernel_rfl) (by kernel_rfl) (by kernel_rfl) (fun _ _ _ h => h) (Or.inl ⟨by rfl, ?_⟩) hHeld ?_
  rotate_left
  · intro w' hSw; (try dsimp only at hSw); go_simp; (try with_reducible rfl)
  try simp only [Act.put, List.setIfInBounds_toArray, List.set_cons_zero, List.set_cons_succ]
  refine wpAnyH_take (i := 2) (oi := { dst := some 22, op := Go.Op.build 96 #[(0, Go.Operand.tmp 20), (1, Go.Operand.tmp 21)], type := 96, pos := "ref.go:18", after := #[{ on := 0, ground := Go.Ground.data }, { on := 1, ground := Go.Ground.data }], guard := none }) (v := ?_) rfl (by kernel_rfl) (by kernel_rfl) (by kernel_rfl) (fun _ _ _ h => h) (Or.inl ⟨by rfl, ?_⟩) hHeld ?_
  rotate_left
  · intro w' hSw; (try dsimp only at hSw); go_simp; (try with_reducible rfl)
  try simp only [Act.put, List.setIfInBounds_toArray, List.set_cons_zero, List.set_cons_succ]
  refine wpAnyH_take (i := 3) (oi := { dst := some 23, op := Go.Op.move (Go.Operand.tmp 5), type := 4, pos := "ref.go:18", after := #[], guard := none }) (v := ?_) rfl (by kernel_rfl) (by kernel_rfl) (by kernel_rfl) (fun _ _ _ h => h) (Or.inl ⟨by rfl, ?_⟩) hHeld ?_
  rotate_left
  · intro w' hSw; (try dsimp only at hSw); go_simp; (try with_reducible rfl)
  try simp only [Act.put, List.setIfInBounds_toArray, List.set_cons_zero, List.set_cons_succ]
  refine wpAnyH_take (i := 4) (oi := { dst := some 24, op := Go.Op.move (Go.Operand.tmp 23), type := 4, pos := "ref.go:18", after := #[{ on := 3, ground := Go.Ground.data }], guard := none }) (v := ?_) rfl (by kernel_rfl) (by kernel_rfl) (by kernel_rfl) (fun _ _ _ h => h) (Or.inl ⟨by rfl, ?_⟩) hHeld ?_
  rotate_left
  · intro w' hSw; (try dsimp only at hSw); go_simp; (try with_reducible rfl)
  try simp only [Act.put, List.setIfInBounds_toArray, List.set_cons_zero, List.set_cons_succ]
  refine wpAnyH_take (i := 5) (oi := { dst := some 25, op := Go.Op.move (Go.Operand.tmp 7), type := 4, pos := "ref.go:18", after := #[{ on := 4, ground := Go.Ground.guard }], guard := some (4, true) }) rfl (by kernel_rfl) (by kernel_rfl) (by kernel_rfl) (fun _ _ _ h => h) (Or.inr ⟨by rfl, rfl⟩) hHeld ?_
  try simp only [Act.put, List.setIfInBounds_toArray, List.set_cons_zero, List.set_cons_succ]
  refine wpAnyH_take (i := 6) (oi := { dst := some 26, op := Go.Op.pick (Go.Operand.tmp 24) (Go.Operand.tmp 25) (Go.Operand.const (Go.Value.bool false)), type := 4, pos := "ref.go:18", after := #[{ on := 4, ground := Go.Ground.data }, { on := 5, ground := Go.Ground.data }], guard := none }) (v := ?_) rfl (by kernel_rfl) (by kernel_rfl) (by kernel_rfl) (fun _ _ _ h => h) (Or.inl ⟨by rfl, ?_⟩) hHeld ?_
  rotate_left
  · intro w' hSw; (try dsimp only at hSw); go_simp; (try with_reducible rfl)
  try simp only [Act.put, List.setIfInBounds_toArray, List.set_cons_zero, List.set_cons_succ]
  refine wpAnyH_take (i := 7) (oi := { dst := some 27, op := Go.Op.move (Go.Operand.tmp 26), type := 4, pos := "ref.go:18", after := #[{ on := 6, ground := Go.Ground.data }, { on := 4, ground := Go.Ground.chain }], guard := none }) (v := ?_) rfl (by kernel_rfl) (by kernel_rfl) (by kernel_rfl) (fun _ _ _ h => h) (Or.inl ⟨by rfl, ?_⟩) hHeld ?_
  rotate_left
  · intro w' hSw; (try dsimp only at hSw); go_simp; (try with_reducible rfl)
  try simp only [Act.put, List.setIfInBounds_toArray, List.set_cons_zero, List.set_cons_succ]
  refine wpAnyH_take (i := 8) (oi := { dst := some 28, op := Go.Op.load 86 (Go.Operand.tmp 4), type := 86, pos := "ref.go:18", after := #[{ on := 7, ground := Go.Ground.guard }], guard := some (7, true) }) rfl (by kernel_rfl) (by kernel_rfl) (by kernel_rfl) (fun _ _ _ h => h) (Or.inr ⟨by rfl, rfl⟩) hHeld ?_
  try simp only [Act.put, List.setIfInBounds_toArray, List.set_cons_zero, List.set_cons_succ]
  refine wpAnyH_take (i := 9) (oi := { dst := some 29, op := Go.Op.load 86 (Go.Operand.tmp 6), type := 86, pos := "ref.go:18", after := #[{ on := 7, ground := Go.Ground.guard }], guard := some (7, true) }) rfl (by kernel_rfl) (by kernel_rfl) (by kernel_rfl) (fun _ _ _ h => h) (Or.inr ⟨by rfl, rfl⟩) hHeld ?_
  try simp only [Act.put, List.setIfInBounds_toArray, List.set_cons_zero, List.set_cons_succ]
  refine wpAnyH_take (i := 10) (oi := { dst := some 30, op := Go.Op.call { callee := Go.Callee.value (Go.Operand.func 121), args := #[Go.Operand.tmp 28, Go.Operand.tmp 29], argTypes := #[86, 86] }, type := 3, pos := "ref.go:18", after := #[{ on := 8, ground := Go.Ground.data }, { on := 9, ground := Go.Ground.data }, { on := 7, ground := Go.Ground.chain }, { on := 7, ground := Go.Ground.guard }], guard := some (7, true) }) rfl (by kernel_rfl) (by kernel_rfl) (by kernel_rfl) (fun _ _ _ h => h) (Or.inr ⟨by rfl, rfl⟩) hHeld ?_
  try simp only [Act.put, List.setIfInBounds_toArray, List.set_cons_zero, List.set_cons_succ]
  refine wpAnyH_take (i := 11) (oi := { dst := some 31, op := Go.Op.binOp Go.BinOp.leq 3 (Go.Operand.tmp 30) (Go.Operand.const (Go.Value.int Go.IntKind.i64 0)) 3, type := 4, pos := "ref.go:18", after := #[{ on := 10, ground := Go.Ground.data }, { on := 7, ground := Go.Ground.guard }, { on := 13, ground := Go.Ground.gcOnly Go.Departure.lateStores }], guard := some (7, true) }) rfl (by kernel_rfl) (by kernel_rfl) (by kernel_rfl) (fun _ _ _ h => h) (Or.inr ⟨by rfl, rfl⟩) hHeld ?_
  try simp only [Act.put, List.setIfInBounds_toArray, List.set_cons_zero, List.set_cons_succ]
  refine wpAnyH_take (i := 12) (oi := { dst := some 32, op := Go.Op.pick (Go.Operand.tmp 27) (Go.Operand.tmp 31) (Go.Operand.const (Go.Value.bool false)), type := 4, pos := "ref.go:18", after := #[{ on := 7, ground := Go.Ground.data }, { on := 11, ground := Go.Ground.data }, { on := 13, ground := Go.Ground.gcOnly Go.Departure.lateStores }], guard := none }) (v := ?_) rfl (by kernel_rfl) (by kernel_rfl) (by kernel_rfl) (fun _ _ _ h => h) (Or.inl ⟨by rfl, ?_⟩) hHeld ?_
  rotate_left
  · intro w' hSw; (try dsimp only at hSw); go_simp; (try with_reducible rfl)
  try simp only [Act.put, List.setIfInBounds_toArray, List.set_cons_zero, List.set_cons_succ]
  refine wpAnyH_ready (rs := [13]) (by kernel_rfl) (by simp) ?_
  refine AllReadyH.cons (o := { dst := none, op := Go.Op.store 96 (Go.Operand.tmp 2) (Go.Operand.tmp 22), type := 0, pos := "ref.go:18", after := #[{ on := 2, ground := Go.Ground.data }, { on := 10, ground := Go.Ground.chain }, { on := 0, ground := Go.Ground.phase }, { on := 1, ground := Go.Ground.phase }, { on := 2, ground := Go.Ground.phase }, { on := 3, ground := Go.Ground.textOnly Go.Departure.lateStores }, { on := 4, ground := Go.Ground.textOnly Go.Departure.lateStores }, { on := 5, ground := Go.Ground.textOnly Go.Departure.lateStores }, { on := 6, ground := Go.Ground.textOnly Go.Departure.lateStores }, { on := 7, ground := Go.Ground.textOnly Go.Departure.lateStores }, { on := 8, ground := Go.Ground.textOnly Go.Departure.lateStores }, { on := 9, ground := Go.Ground.textOnly Go.Departure.lateStores }, { on := 10, ground := Go.Ground.textOnly Go.Departure.lateStoresUnsure }, { on := 11, ground := Go.Ground.textOnly Go.Departure.lateStores }, { on := 12, ground := Go.Ground.textOnly Go.Departure.lateStores }], guard := none }) rfl (fun K hK => ?_) AllReadyH.nil
  go_simp
  refine hK.out _ _ ?_ (fun hHeld2 => ?_)
  · (repeat' apply And.intro) <;> (rw [cell_drew, neC (by omega), neC (by omega), neC (by omega), neC (by omega), neC (by omega), neC (by omega)]; with_reducible assumption)
  try simp only [Act.put, List.setIfInBounds_toArray, List.set_cons_zero, List.set_cons_succ]
  refine wpAnyH_take (i := 14) (oi := { dst := some 3, op := Go.Op.assign (Go.Operand.tmp 32), type := 4, pos := "ref.go:18", after := #[{ on := 12, ground := Go.Ground.data }, { on := 13, ground := Go.Ground.chain }, { on := 0, ground := Go.Ground.phase }, { on := 1, ground := Go.Ground.phase }, { on := 2, ground := Go.Ground.phase }, { on := 3, ground := Go.Ground.phase }, { on := 4, ground := Go.Ground.phase }, { on := 5, ground := Go.Ground.phase }, { on := 6, ground := Go.Ground.phase }, { on := 7, ground := Go.Ground.phase }, { on := 8, ground := Go.Ground.phase }, { on := 9, ground := Go.Ground.phase }, { on := 10, ground := Go.Ground.phase }, { on := 11, ground := Go.Ground.phase }, { on := 12, ground := Go.Ground.phase }, { on := 13, ground := Go.Ground.phase }], guard := none }) (v := ?_) rfl (by kernel_rfl) (by kernel_rfl) (by kernel_rfl) (fun _ _ _ h => h) (Or.inl ⟨by rfl, ?_⟩) hHeld2 ?_
  rotate_left
  · intro w' hSw; (try dsimp only at hSw); go_simp; (try with_reducible rfl)
  try simp only [Act.put, List.setIfInBounds_toArray, List.set_cons_zero, List.set_cons_succ]
  refine wpAnyH_done (by kernel_rfl) ?_ _
  clear hHeld hHeld2 hK K
  all_goals
    go_wp2_with fail
    obtain ⟨d0', d1', d2', d3', d4', d5'⟩ := set6 HX.out (.bool s1) (.slice Z1 l1 c1) (.slice Y1 m1 d1) (.bool s2) (.slice Z2 l2 c2) (.slice Y2 m2 d2)
    have HZ := JV.ext (JV.off (JV.mk HV1.out HV2.out) HX.out nou96 (size6 (.bool s1) (.slice Z1 l1 c1) (.slice Y1 m1 d1) (.bool s2) (.slice Z2 l2 c2) (.slice Y2 m2 d2)) (keep6 (b := w.heap.size + 1) (.bool s1) (.slice Z1 l1 c1) (.slice Y1 m1 d1) (.bool s2) (.slice Z2 l2 c2) (.slice Y2 m2 d2))) ((Ext.rfl' _).dr)
    refine bodyPost_ret (v := .tuple #[.agg #[.bool s1, .slice Z1 l1 c1, .slice Y1 m1 d1, .bool s2, .slice Z2 l2 c2, .slice Y2 m2 d2], .bool false]) ?_ rfl ⟨_, _, _, by rw [HR.out], HZ, HQ1.out, HQ2.out, Ext.dr (ext_set6 (b := w.heap.size + 1) HE.out (by omega) _ _ _ _ _ _)⟩
    simp [results, Tryz.f82, go_sem, cell_drew, d0', d1', d2', d3', d4', d5']
set_option maxHeartbeats 8000000 in
set_option maxRecDepth 200000 in
theorem jFrom_no2 (s t : ByteArray) (w : World) (hs : s.size ≤ 40) (ht : t.size ≤ 40) (h1 : ratB s.data.toList = true) (h2 : ratB t.data.toList = false) :
    Calls Tryz.prog 82 #[.agg #[.string s, .string t]] w (JF s t w) := by
  have HF1 : Hid (∀ W, Calls Tryz.prog 71 #[.string s] W fun e w' => ∃ v q, e = .returned (.tuple #[v, .bool true]) ∧ QV w' v q ∧ (∀ x, s.data.toList = rtext x → q = x) ∧ Ext W w') := fun W => h1 ▸ q3From_20 s W hs
  have HF2 : Hid (∀ W, Calls Tryz.prog 71 #[.string t] W fun e w' => ∃ v q, e = .returned (.tuple #[v, .bool false]) ∧ QV w' v q ∧ (∀ x, t.data.toList = rtext x → q = x) ∧ Ext W w') := fun W => h2 ▸ q3From_20 t W ht
  have HR : Hid (ivB s t = false) := by
    unfold Hid
    cases hi : ivB s t
    · rfl
    · obtain ⟨a, b, rfl, rfl, -⟩ := ivB_yes hi
      rw [show ratB (rb b).data.toList = true from ratB_of ⟨b, rfl⟩] at h2; cases h2
  clear hs ht h1 h2
  go_enter Tryz.func82, Tryz.ntmps82
  go_wp2_with fail
  obtain ⟨X1, X2, E0⟩ := boxes2g w #[.string s, .string t] #[.bool false, .slice none 0 0, .slice none 0 0, .bool false, .slice none 0 0, .slice none 0 0] 44 96
  have a0 : ((w.alloc (.cells #[.string s, .string t] 44)).alloc (.cells #[.bool false, .slice none 0 0, .slice none 0 0, .bool false, .slice none 0 0, .slice none 0 0] 96)).cell? ⟨w.heap.size, 0, none⟩ = some (.string s) := X1.c 0
  have a1 : ((w.alloc (.cells #[.string s, .string t] 44)).alloc (.cells #[.bool false, .slice none 0 0, .slice none 0 0, .bool false, .slice none 0 0, .slice none 0 0] 96)).cell? ⟨w.heap.size, 1, none⟩ = some (.string t) := X1.c 1
  have HX := Lib.hid X2
  have HX0 := Lib.hid X2
  have HE := Lib.hid E0
  clear X1 X2 E0
  generalize (w.alloc (.cells #[.string s, .string t] 44)).alloc (.cells #[.bool false, .slice none 0 0, .slice none 0 0, .bool false, .slice none 0 0, .slice none 0 0] 96) = W0 at *
  refine (HF1.out _).mono ?_
  rintro e w1 ⟨v, q, rfl, hv, hq, hE⟩
  obtain ⟨s1, Z1, l1, c1, Y1, m1, d1, rfl, -, -, -⟩ := hv.ex
  have e1 : Ext w1 (w1.alloc (.cells #[.bool s1, .slice Z1 l1 c1, .slice Y1 m1 d1] 86)) := (Ext.rfl' w1).al _
  replace a1 := e1.cell (Ext.cellH hE a1)
  replace HX := Bx.hext (Bx.hext HX hE) e1
  replace HE := Lib.hid ((HE.out.tr hE).tr e1)
  have HV1 := Lib.hid (hv.ext e1)
  have HQ1 := Lib.hid hq
  have B1 := Lib.hid (Bx.new w1 #[.bool s1, .slice Z1 l1 c1, .slice Y1 m1 d1] 86)
  have hs1 : w.heap.size + 1 < w1.heap.size := by have := HX.out.lt; have := hE.size; exact Nat.lt_of_lt_of_le HX0.out.lt hE.size
  clear hE hv hq a0 e1 HX0
  go_wp2_with fail
  refine (HF2.out _).mono ?_
  rintro e w2 ⟨v, q2, rfl, hv, hq, hE⟩
  obtain ⟨s2, Z2, l2, c2, Y2, m2, d2, rfl, -, -, -⟩ := hv.ex
  have e2 : Ext w2 (w2.alloc (.cells #[.bool s2, .slice Z2 l2 c2, .slice Y2 m2 d2] 86)) := (Ext.rfl' w2).al _
  replace HX := Bx.hext (Bx.hext HX hE) e2
  replace HE := Lib.hid ((HE.out.tr hE).tr e2)
  replace HV1 := QV.hext (QV.hext HV1 hE) e2
  have HV2 := Lib.hid (hv.ext e2)
  have HQ2 := Lib.hid hq
  replace B1 := Bx.hext (Bx.hext B1 hE) e2
  have B2 := Lib.hid (Bx.new w2 #[.bool s2, .slice Z2 l2 c2, .slice Y2 m2 d2] 86)
  have hs2 : w.heap.size + 1 < w2.heap.size := Nat.lt_of_lt_of_le (Nat.lt_of_lt_of_le hs1 (by simp)) hE.size
  clear hE hv hq a1 e2
  go_wp2_with fail
  generalize (w2.alloc (.cells #[.bool s2, .slice Z2 l2 c2, .slice Y2 m2 d2] 86)) = W3 at *
  generalize w1.heap.size = g1 at *
  generalize w2.heap.size = g2 at *
  have b0 : W3.cell? ⟨g1, 0, none⟩ = some (.bool s1) := B1.out.c 0
  have b1 : W3.cell? ⟨g1, 1, none⟩ = some (.slice Z1 l1 c1) := B1.out.c 1
  have b2 : W3.cell? ⟨g1, 2, none⟩ = some (.slice Y1 m1 d1) := B1.out.c 2
  have c0q : W3.cell? ⟨g2, 0, none⟩ = some (.bool s2) := B2.out.c 0
  have c1q : W3.cell? ⟨g2, 1, none⟩ = some (.slice Z2 l2 c2) := B2.out.c 1
  have c2q : W3.cell? ⟨g2, 2, none⟩ = some (.slice Y2 m2 d2) := B2.out.c 2
  have y0 : W3.cell? ⟨w.heap.size + 1, 0, none⟩ = some (.bool false) := HX.out.c 0; have y1 : W3.cell? ⟨w.heap.size + 1, 1, none⟩ = some (.slice none 0 0) := HX.out.c 1; have y2 : W3.cell? ⟨w.heap.size + 1, 2, none⟩ = some (.slice none 0 0) := HX.out.c 2; have y3 : W3.cell? ⟨w.heap.size + 1, 3, none⟩ = some (.bool false) := HX.out.c 3; have y4 : W3.cell? ⟨w.heap.size + 1, 4, none⟩ = some (.slice none 0 0) := HX.out.c 4; have y5 : W3.cell? ⟨w.heap.size + 1, 5, none⟩ = some (.slice none 0 0) := HX.out.c 5; have f0 := HX.out.f 0; have f1 := HX.out.f 1; have f2 := HX.out.f 2; have f3 := HX.out.f 3; have f4 := HX.out.f 4; have f5 := HX.out.f 5
  have b0d : W3.drew.cell? ⟨g1, 0, none⟩ = some (.bool s1) := b0
  have b1d : W3.drew.cell? ⟨g1, 1, none⟩ = some (.slice Z1 l1 c1) := b1
  have b2d : W3.drew.cell? ⟨g1, 2, none⟩ = some (.slice Y1 m1 d1) := b2
  have c0qd : W3.drew.cell? ⟨g2, 0, none⟩ = some (.bool s2) := c0q
  have c1qd : W3.drew.cell? ⟨g2, 1, none⟩ = some (.slice Z2 l2 c2) := c1q
  have c2qd : W3.drew.cell? ⟨g2, 2, none⟩ = some (.slice Y2 m2 d2) := c2q
  refine wp_region_held_drew (S := (fun w' => w'.cell? ⟨g1, 0, none⟩ = some (.bool s1) ∧ w'.cell? ⟨g1, 1, none⟩ = some (.slice Z1 l1 c1) ∧ w'.cell? ⟨g1, 2, none⟩ = some (.slice Y1 m1 d1) ∧ w'.cell? ⟨g2, 0, none⟩ = some (.bool s2) ∧ w'.cell? ⟨g2, 1, none⟩ = some (.slice Z2 l2 c2) ∧ w'.cell? ⟨g2, 2, none⟩ = some (.slice Y2 m2 d2))) (by kernel_rfl) (by exact ⟨b0d, b1d, b2d, c0qd, c1qd, c2qd⟩) (fun hHeld => ?_)
  refine wpAnyH_take (i := 0) (oi := { dst := some 20, op := Go.Op.load 86 (Go.Operand.tmp 4), type := 86, pos := "ref.go:18", after := #[], guard := none }) (v := ?_) rfl (by kernel_rfl) (by kernel_rfl) (by kernel_rfl) (fun _ _ _ h => h) (Or.inl ⟨by rfl, ?_⟩) hHeld ?_
  rotate_left
  · intro w' hSw; (try dsimp only at hSw); go_simp; (try with_reducible rfl)
  try simp only [Act.put, List.setIfInBounds_toArray, List.set_cons_zero, List.set_cons_succ]
  refine wpAnyH_take (i := 1) (oi := { dst := some 21, op := Go.Op.load 86 (Go.Operand.tmp 6), type := 86, pos := "ref.go:18", after := #[], guard := none }) (v := ?_) rfl (by kernel_rfl) (by kernel_rfl) (by kernel_rfl) (fun _ _ _ h => h) (Or.inl ⟨by rfl, ?_⟩) hHeld ?_
  rotate_left
  · intro w' hSw; (try dsimp only at hSw); go_simp; (try with_reducible rfl)
  try simp only [Act.put, List.setIfInBounds_toArray, List.set_cons_zero, List.set_cons_succ]
  refine wpAnyH_take (i := 2) (oi := { dst := some 22, op := Go.Op.build 96 #[(0, Go.Operand.tmp 20), (1, Go.Operand.tmp 21)], type := 96, pos := "ref.go:18", after := #[{ on := 0, ground := Go.Ground.data }, { on := 1, ground := Go.Ground.data }], guard := none }) (v := ?_) rfl (by kernel_rfl) (by kernel_rfl) (by kernel_rfl) (fun _ _ _ h => h) (Or.inl ⟨by rfl, ?_⟩) hHeld ?_
  rotate_left
  · intro w' hSw; (try dsimp only at hSw); go_simp; (try with_reducible rfl)
  try simp only [Act.put, List.setIfInBounds_toArray, List.set_cons_zero, List.set_cons_succ]
  refine wpAnyH_take (i := 3) (oi := { dst := some 23, op := Go.Op.move (Go.Operand.tmp 5), type := 4, pos := "ref.go:18", after := #[], guard := none }) (v := ?_) rfl (by kernel_rfl) (by kernel_rfl) (by kernel_rfl) (fun _ _ _ h => h) (Or.inl ⟨by rfl, ?_⟩) hHeld ?_
  rotate_left
  · intro w' hSw; (try dsimp only at hSw); go_simp; (try with_reducible rfl)
  try simp only [Act.put, List.setIfInBounds_toArray, List.set_cons_zero, List.set_cons_succ]
  refine wpAnyH_take (i := 4) (oi := { dst := some 24, op := Go.Op.move (Go.Operand.tmp 23), type := 4, pos := "ref.go:18", after := #[{ on := 3, ground := Go.Ground.data }], guard := none }) (v := ?_) rfl (by kernel_rfl) (by kernel_rfl) (by kernel_rfl) (fun _ _ _ h => h) (Or.inl ⟨by rfl, ?_⟩) hHeld ?_
  rotate_left
  · intro w' hSw; (try dsimp only at hSw); go_simp; (try with_reducible rfl)
  try simp only [Act.put, List.setIfInBounds_toArray, List.set_cons_zero, List.set_cons_succ]
  refine wpAnyH_take (i := 5) (oi := { dst := some 25, op := Go.Op.move (Go.Operand.tmp 7), type := 4, pos := "ref.go:18", after := #[{ on := 4, ground := Go.Ground.guard }], guard := some (4, true) }) (v := ?_) rfl (by kernel_rfl) (by kernel_rfl) (by kernel_rfl) (fun _ _ _ h => h) (Or.inl ⟨by rfl, ?_⟩) hHeld ?_
  rotate_left
  · intro w' hSw; (try dsimp only at hSw); go_simp; (try with_reducible rfl)
  try simp only [Act.put, List.setIfInBounds_toArray, List.set_cons_zero, List.set_cons_succ]
  refine wpAnyH_take (i := 6) (oi := { dst := some 26, op := Go.Op.pick (Go.Operand.tmp 24) (Go.Operand.tmp 25) (Go.Operand.const (Go.Value.bool false)), type := 4, pos := "ref.go:18", after := #[{ on := 4, ground := Go.Ground.data }, { on := 5, ground := Go.Ground.data }], guard := none }) (v := ?_) rfl (by kernel_rfl) (by kernel_rfl) (by kernel_rfl) (fun _ _ _ h => h) (Or.inl ⟨by rfl, ?_⟩) hHeld ?_
  rotate_left
  · intro w' hSw; (try dsimp only at hSw); go_simp; (try with_reducible rfl)
  try simp only [Act.put, List.setIfInBounds_toArray, List.set_cons_zero, List.set_cons_succ]
  refine wpAnyH_take (i := 7) (oi := { dst := some 27, op := Go.Op.move (Go.Operand.tmp 26), type := 4, pos := "ref.go:18", after := #[{ on := 6, ground := Go.Ground.data }, { on := 4, ground := Go.Ground.chain }], guard := none }) (v := ?_) rfl (by kernel_rfl) (by kernel_rfl) (by kernel_rfl) (fun _ _ _ h => h) (Or.inl ⟨by rfl, ?_⟩) hHeld ?_
  rotate_left
  · intro w' hSw; (try dsimp only at hSw); go_simp; (try with_reducible rfl)
  try simp only [Act.put, List.setIfInBounds_toArray, List.set_cons_zero, List.set_cons_succ]
  refine wpAnyH_take (i := 8) (oi := { dst := some 28, op := Go.Op.load 86 (Go.Operand.tmp 4), type := 86, pos := "ref.go:18", after := #[{ on := 7, ground := Go.Ground.guard }], guard := some (7, true) }) rfl (by kernel_rfl) (by kernel_rfl) (by kernel_rfl) (fun _ _ _ h => h) (Or.inr ⟨by rfl, rfl⟩) hHeld ?_
  try simp only [Act.put, List.setIfInBounds_toArray, List.set_cons_zero, List.set_cons_succ]
  refine wpAnyH_take (i := 9) (oi := { dst := some 29, op := Go.Op.load 86 (Go.Operand.tmp 6), type := 86, pos := "ref.go:18", after := #[{ on := 7, ground := Go.Ground.guard }], guard := some (7, true) }) rfl (by kernel_rfl) (by kernel_rfl) (by kernel_rfl) (fun _ _ _ h => h) (Or.inr ⟨by rfl, rfl⟩) hHeld ?_
  try simp only [Act.put, List.setIfInBounds_toArray, List.set_cons_zero, List.set_cons_succ]
  refine wpAnyH_take (i := 10) (oi := { dst := some 30, op := Go.Op.call { callee := Go.Callee.value (Go.Operand.func 121), args := #[Go.Operand.tmp 28, Go.Operand.tmp 29], argTypes := #[86, 86] }, type := 3, pos := "ref.go:18", after := #[{ on := 8, ground := Go.Ground.data }, { on := 9, ground := Go.Ground.data }, { on := 7, ground := Go.Ground.chain }, { on := 7, ground := Go.Ground.guard }], guard := some (7, true) }) rfl (by kernel_rfl) (by kernel_rfl) (by kernel_rfl) (fun _ _ _ h => h) (Or.inr ⟨by rfl, rfl⟩) hHeld ?_
  try simp only [Act.put, List.setIfInBounds_toArray, List.set_cons_zero, List.set_cons_succ]
  refine wpAnyH_take (i := 11) (oi := { dst := some 31, op := Go.Op.binOp Go.BinOp.leq 3 (Go.Operand.tmp 30) (Go.Operand.const (Go.Value.int Go.IntKind.i64 0)) 3, type := 4, pos := "ref.go:18", after := #[{ on := 10, ground := Go.Ground.data }, { on := 7, ground := Go.Ground.guard }, { on := 13, ground := Go.Ground.gcOnly Go.Departure.lateStores }], guard := some (7, true) }) rfl (by kernel_rfl) (by kernel_rfl) (by kernel_rfl) (fun _ _ _ h => h) (Or.inr ⟨by rfl, rfl⟩) hHeld ?_
  try simp only [Act.put, List.setIfInBounds_toArray, List.set_cons_zero, List.set_cons_succ]
  refine wpAnyH_take (i := 12) (oi := { dst := some 32, op := Go.Op.pick (Go.Operand.tmp 27) (Go.Operand.tmp 31) (Go.Operand.const (Go.Value.bool false)), type := 4, pos := "ref.go:18", after := #[{ on := 7, ground := Go.Ground.data }, { on := 11, ground := Go.Ground.data }, { on := 13, ground := Go.Ground.gcOnly Go.Departure.lateStores }], guard := none }) (v := ?_) rfl (by kernel_rfl) (by kernel_rfl) (by kernel_rfl) (fun _ _ _ h => h) (Or.inl ⟨by rfl, ?_⟩) hHeld ?_
  rotate_left
  · intro w' hSw; (try dsimp only at hSw); go_simp; (try with_reducible rfl)
  try simp only [Act.put, List.setIfInBounds_toArray, List.set_cons_zero, List.set_cons_succ]
  refine wpAnyH_ready (rs := [13]) (by kernel_rfl) (by simp) ?_
  refine AllReadyH.cons (o := { dst := none, op := Go.Op.store 96 (Go.Operand.tmp 2) (Go.Operand.tmp 22), type := 0, pos := "ref.go:18", after := #[{ on := 2, ground := Go.Ground.data }, { on := 10, ground := Go.Ground.chain }, { on := 0, ground := Go.Ground.phase }, { on := 1, ground := Go.Ground.phase }, { on := 2, ground := Go.Ground.phase }, { on := 3, ground := Go.Ground.textOnly Go.Departure.lateStores }, { on := 4, ground := Go.Ground.textOnly Go.Departure.lateStores }, { on := 5, ground := Go.Ground.textOnly Go.Departure.lateStores }, { on := 6, ground := Go.Ground.textOnly Go.Departure.lateStores }, { on := 7, ground := Go.Ground.textOnly Go.Departure.lateStores }, { on := 8, ground := Go.Ground.textOnly Go.Departure.lateStores }, { on := 9, ground := Go.Ground.textOnly Go.Departure.lateStores }, { on := 10, ground := Go.Ground.textOnly Go.Departure.lateStoresUnsure }, { on := 11, ground := Go.Ground.textOnly Go.Departure.lateStores }, { on := 12, ground := Go.Ground.textOnly Go.Departure.lateStores }], guard := none }) rfl (fun K hK => ?_) AllReadyH.nil
  go_simp
  refine hK.out _ _ ?_ (fun hHeld2 => ?_)
  · (repeat' apply And.intro) <;> (rw [cell_drew, neC (by omega), neC (by omega), neC (by omega), neC (by omega), neC (by omega), neC (by omega)]; with_reducible assumption)
  try simp only [Act.put, List.setIfInBounds_toArray, List.set_cons_zero, List.set_cons_succ]
  refine wpAnyH_take (i := 14) (oi := { dst := some 3, op := Go.Op.assign (Go.Operand.tmp 32), type := 4, pos := "ref.go:18", after := #[{ on := 12, ground := Go.Ground.data }, { on := 13, ground := Go.Ground.chain }, { on := 0, ground := Go.Ground.phase }, { on := 1, ground := Go.Ground.phase }, { on := 2, ground := Go.Ground.phase }, { on := 3, ground := Go.Ground.phase }, { on := 4, ground := Go.Ground.phase }, { on := 5, ground := Go.Ground.phase }, { on := 6, ground := Go.Ground.phase }, { on := 7, ground := Go.Ground.phase }, { on := 8, ground := Go.Ground.phase }, { on := 9, ground := Go.Ground.phase }, { on := 10, ground := Go.Ground.phase }, { on := 11, ground := Go.Ground.phase }, { on := 12, ground := Go.Ground.phase }, { on := 13, ground := Go.Ground.phase }], guard := none }) (v := ?_) rfl (by kernel_rfl) (by kernel_rfl) (by kernel_rfl) (fun _ _ _ h => h) (Or.inl ⟨by rfl, ?_⟩) hHeld2 ?_
  rotate_left
  · intro w' hSw; (try dsimp only at hSw); go_simp; (try with_reducible rfl)
  try simp only [Act.put, List.setIfInBounds_toArray, List.set_cons_zero, List.set_cons_succ]
  refine wpAnyH_done (by kernel_rfl) ?_ _
  clear hHeld hHeld2 hK K
  all_goals
    go_wp2_with fail
    obtain ⟨d0', d1', d2', d3', d4', d5'⟩ := set6 HX.out (.bool s1) (.slice Z1 l1 c1) (.slice Y1 m1 d1) (.bool s2) (.slice Z2 l2 c2) (.slice Y2 m2 d2)
    have HZ := JV.ext (JV.off (JV.mk HV1.out HV2.out) HX.out nou96 (size6 (.bool s1) (.slice Z1 l1 c1) (.slice Y1 m1 d1) (.bool s2) (.slice Z2 l2 c2) (.slice Y2 m2 d2)) (keep6 (b := w.heap.size + 1) (.bool s1) (.slice Z1 l1 c1) (.slice Y1 m1 d1) (.bool s2) (.slice Z2 l2 c2) (.slice Y2 m2 d2))) ((Ext.rfl' _).dr)
    refine bodyPost_ret (v := .tuple #[.agg #[.bool s1, .slice Z1 l1 c1, .slice Y1 m1 d1, .bool s2, .slice Z2 l2 c2, .slice Y2 m2 d2], .bool false]) ?_ rfl ⟨_, _, _, by rw [HR.out], HZ, HQ1.out, HQ2.out, Ext.dr (ext_set6 (b := w.heap.size + 1) HE.out (by omega) _ _ _ _ _ _)⟩
    simp [results, Tryz.f82, go_sem, cell_drew, d0', d1', d2', d3', d4', d5']
set_option maxHeartbeats 8000000 in
set_option maxRecDepth 200000 in
theorem jFrom_yes (s t : ByteArray) (w : World) (hs : s.size ≤ 40) (ht : t.size ≤ 40) (h1 : ratB s.data.toList = true) (h2 : ratB t.data.toList = true) :
    Calls Tryz.prog 82 #[.agg #[.string s, .string t]] w (JF s t w) := by
  have HF1 : Hid (∀ W, Calls Tryz.prog 71 #[.string s] W fun e w' => ∃ v q, e = .returned (.tuple #[v, .bool true]) ∧ QV w' v q ∧ (∀ x, s.data.toList = rtext x → q = x) ∧ Ext W w') := fun W => h1 ▸ q3From_20 s W hs
  have HF2 : Hid (∀ W, Calls Tryz.prog 71 #[.string t] W fun e w' => ∃ v q, e = .returned (.tuple #[v, .bool true]) ∧ QV w' v q ∧ (∀ x, t.data.toList = rtext x → q = x) ∧ Ext W w') := fun W => h2 ▸ q3From_20 t W ht
  have HR : Hid (∀ q r : Rat, (∀ x, s.data.toList = rtext x → q = x) → (∀ x, t.data.toList = rtext x → r = x) → ivB s t = decide (q ≤ r) ∧ Bd q 160 ∧ Bd r 160) := fun q r hq hr => by
    obtain ⟨a, ha⟩ := ratB_t h1
    obtain ⟨b, hb⟩ := ratB_t h2
    have e1 := hq a ha
    have e2 := hr b hb
    refine ⟨by rw [ivB_and hq hr, h1, h2]; rfl, ?_, ?_⟩
    · rw [e1]; exact bd_size a 40 (by have e : s = rb a := list_of ha; rw [← e]; exact hs)
    · rw [e2]; exact bd_size b 40 (by have e : t = rb b := list_of hb; rw [← e]; exact ht)
  clear hs ht h1 h2
  go_enter Tryz.func82, Tryz.ntmps82
  go_wp2_with fail
  obtain ⟨X1, X2, E0⟩ := boxes2g w #[.string s, .string t] #[.bool false, .slice none 0 0, .slice none 0 0, .bool false, .slice none 0 0, .slice none 0 0] 44 96
  have a0 : ((w.alloc (.cells #[.string s, .string t] 44)).alloc (.cells #[.bool false, .slice none 0 0, .slice none 0 0, .bool false, .slice none 0 0, .slice none 0 0] 96)).cell? ⟨w.heap.size, 0, none⟩ = some (.string s) := X1.c 0
  have a1 : ((w.alloc (.cells #[.string s, .string t] 44)).alloc (.cells #[.bool false, .slice none 0 0, .slice none 0 0, .bool false, .slice none 0 0, .slice none 0 0] 96)).cell? ⟨w.heap.size, 1, none⟩ = some (.string t) := X1.c 1
  have HX := Lib.hid X2
  have HX0 := Lib.hid X2
  have HE := Lib.hid E0
  clear X1 X2 E0
  generalize (w.alloc (.cells #[.string s, .string t] 44)).alloc (.cells #[.bool false, .slice none 0 0, .slice none 0 0, .bool false, .slice none 0 0, .slice none 0 0] 96) = W0 at *
  refine (HF1.out _).mono ?_
  rintro e w1 ⟨v, q, rfl, hv, hq, hE⟩
  obtain ⟨s1, Z1, l1, c1, Y1, m1, d1, rfl, -, -, -⟩ := hv.ex
  have e1 : Ext w1 (w1.alloc (.cells #[.bool s1, .slice Z1 l1 c1, .slice Y1 m1 d1] 86)) := (Ext.rfl' w1).al _
  replace a1 := e1.cell (Ext.cellH hE a1)
  replace HX := Bx.hext (Bx.hext HX hE) e1
  replace HE := Lib.hid ((HE.out.tr hE).tr e1)
  have HV1 := Lib.hid (hv.ext e1)
  have HQ1 := Lib.hid hq
  have B1 := Lib.hid (Bx.new w1 #[.bool s1, .slice Z1 l1 c1, .slice Y1 m1 d1] 86)
  have hs1 : w.heap.size + 1 < w1.heap.size := by have := HX.out.lt; have := hE.size; exact Nat.lt_of_lt_of_le HX0.out.lt hE.size
  clear hE hv hq a0 e1 HX0
  go_wp2_with fail
  refine (HF2.out _).mono ?_
  rintro e w2 ⟨v, q2, rfl, hv, hq, hE⟩
  obtain ⟨s2, Z2, l2, c2, Y2, m2, d2, rfl, -, -, -⟩ := hv.ex
  have e2 : Ext w2 (w2.alloc (.cells #[.bool s2, .slice Z2 l2 c2, .slice Y2 m2 d2] 86)) := (Ext.rfl' w2).al _
  replace HX := Bx.hext (Bx.hext HX hE) e2
  replace HE := Lib.hid ((HE.out.tr hE).tr e2)
  replace HV1 := QV.hext (QV.hext HV1 hE) e2
  have HV2 := Lib.hid (hv.ext e2)
  have HQ2 := Lib.hid hq
  replace B1 := Bx.hext (Bx.hext B1 hE) e2
  have B2 := Lib.hid (Bx.new w2 #[.bool s2, .slice Z2 l2 c2, .slice Y2 m2 d2] 86)
  have hs2 : w.heap.size + 1 < w2.heap.size := Nat.lt_of_lt_of_le (Nat.lt_of_lt_of_le hs1 (by simp)) hE.size
  clear hE hv hq a1 e2
  go_wp2_with fail
  generalize (w2.alloc (.cells #[.bool s2, .slice Z2 l2 c2, .slice Y2 m2 d2] 86)) = W3 at *
  generalize w1.heap.size = g1 at *
  generalize w2.heap.size = g2 at *
  have b0 : W3.cell? ⟨g1, 0, none⟩ = some (.bool s1) := B1.out.c 0
  have b1 : W3.cell? ⟨g1, 1, none⟩ = some (.slice Z1 l1 c1) := B1.out.c 1
  have b2 : W3.cell? ⟨g1, 2, none⟩ = some (.slice Y1 m1 d1) := B1.out.c 2
  have c0q : W3.cell? ⟨g2, 0, none⟩ = some (.bool s2) := B2.out.c 0
  have c1q : W3.cell? ⟨g2, 1, none⟩ = some (.slice Z2 l2 c2) := B2.out.c 1
  have c2q : W3.cell? ⟨g2, 2, none⟩ = some (.slice Y2 m2 d2) := B2.out.c 2
  obtain ⟨k, hk⟩ : ∃ k, cmpR q q2 = k := ⟨_, rfl⟩
  have HR2 := Lib.hid (HR.out q q2 HQ1.out HQ2.out)
  have HC : Hid (∀ W, Ext W3 W → Calls Tryz.prog 121 #[.agg #[.bool s1, .slice Z1 l1 c1, .slice Y1 m1 d1], .agg #[.bool s2, .slice Z2 l2 c2, .slice Y2 m2 d2]] W fun e w' => e = .returned (.int .i64 k) ∧ Ext W w') := fun W hE => hk ▸ q3Cmp_v _ _ q q2 160 160 W (HV1.out.ext hE) (HV2.out.ext hE) HR2.out.2.1 HR2.out.2.2 (by unfold KK; omega)
  obtain ⟨g, hg⟩ : ∃ g, decide (k ≤ 0) = g := ⟨_, rfl⟩
  have HG : Hid (ivB s t = g) := by
    unfold Hid; rw [HR2.out.1, ← hg, ← hk, cq_le]
  clear hk HR HF1 HF2
  cases g
  · go_region_held3 (fun w' => w'.cell? ⟨g1, 0, none⟩ = some (.bool s1) ∧ w'.cell? ⟨g1, 1, none⟩ = some (.slice Z1 l1 c1) ∧ w'.cell? ⟨g1, 2, none⟩ = some (.slice Y1 m1 d1) ∧ w'.cell? ⟨g2, 0, none⟩ = some (.bool s2) ∧ w'.cell? ⟨g2, 1, none⟩ = some (.slice Z2 l2 c2) ∧ w'.cell? ⟨g2, 2, none⟩ = some (.slice Y2 m2 d2)) (((try dsimp only); (repeat' apply And.intro) <;> (first | (with_reducible assumption) | (rw [neC (by omega), neC (by omega), neC (by omega), neC (by omega), neC (by omega), neC (by omega)]; with_reducible assumption) | (rw [neC (by omega), neC (by omega), neC (by omega)]; with_reducible assumption) | (rw [cell_drew, neC (by omega), neC (by omega), neC (by omega), neC (by omega), neC (by omega), neC (by omega)]; with_reducible assumption) | ((go_keep); done))))
      (first
        | (go_at_call 121; (with_reducible refine (HC.out _ ((Ext.rfl' W3).dr)).mono ?_); rintro e w1 ⟨rfl, hE⟩; replace hE := ((Ext.rfl' _).dr).tr hE; replace b0 := Ext.cellH hE b0; replace b1 := Ext.cellH hE b1; replace b2 := Ext.cellH hE b2; replace c0q := Ext.cellH hE c0q; replace c1q := Ext.cellH hE c1q; replace c2q := Ext.cellH hE c2q; replace HX := Bx.hext HX hE; replace HV1 := QV.hext HV1 hE; replace HV2 := QV.hext HV2 hE; replace HE := Lib.hid (HE.out.tr hE); have y0 : w1.cell? ⟨w.heap.size + 1, 0, none⟩ = some (.bool false) := HX.out.c 0; have y1 : w1.cell? ⟨w.heap.size + 1, 1, none⟩ = some (.slice none 0 0) := HX.out.c 1; have y2 : w1.cell? ⟨w.heap.size + 1, 2, none⟩ = some (.slice none 0 0) := HX.out.c 2; have y3 : w1.cell? ⟨w.heap.size + 1, 3, none⟩ = some (.bool false) := HX.out.c 3; have y4 : w1.cell? ⟨w.heap.size + 1, 4, none⟩ = some (.slice none 0 0) := HX.out.c 4; have y5 : w1.cell? ⟨w.heap.size + 1, 5, none⟩ = some (.slice none 0 0) := HX.out.c 5; have f0 := HX.out.f 0; have f1 := HX.out.f 1; have f2 := HX.out.f 2; have f3 := HX.out.f 3; have f4 := HX.out.f 4; have f5 := HX.out.f 5; clear hE))
    all_goals
      go_wp2_with fail
      obtain ⟨d0', d1', d2', d3', d4', d5'⟩ := set6 HX.out (.bool s1) (.slice Z1 l1 c1) (.slice Y1 m1 d1) (.bool s2) (.slice Z2 l2 c2) (.slice Y2 m2 d2)
      have HZ := JV.off (JV.mk HV1.out HV2.out) HX.out nou96 (size6 (.bool s1) (.slice Z1 l1 c1) (.slice Y1 m1 d1) (.bool s2) (.slice Z2 l2 c2) (.slice Y2 m2 d2)) (keep6 (b := w.heap.size + 1) (.bool s1) (.slice Z1 l1 c1) (.slice Y1 m1 d1) (.bool s2) (.slice Z2 l2 c2) (.slice Y2 m2 d2))
      refine bodyPost_ret (v := .tuple #[.agg #[.bool s1, .slice Z1 l1 c1, .slice Y1 m1 d1, .bool s2, .slice Z2 l2 c2, .slice Y2 m2 d2], .bool false]) ?_ rfl ⟨_, _, _, by rw [HG.out], HZ, HQ1.out, HQ2.out, ext_set6 (b := w.heap.size + 1) HE.out (by omega) _ _ _ _ _ _⟩
      simp [results, Tryz.f82, go_sem, d0', d1', d2', d3', d4', d5']
  · go_region_held3 (fun w' => w'.cell? ⟨g1, 0, none⟩ = some (.bool s1) ∧ w'.cell? ⟨g1, 1, none⟩ = some (.slice Z1 l1 c1) ∧ w'.cell? ⟨g1, 2, none⟩ = some (.slice Y1 m1 d1) ∧ w'.cell? ⟨g2, 0, none⟩ = some (.bool s2) ∧ w'.cell? ⟨g2, 1, none⟩ = some (.slice Z2 l2 c2) ∧ w'.cell? ⟨g2, 2, none⟩ = some (.slice Y2 m2 d2)) (((try dsimp only); (repeat' apply And.intro) <;> (first | (with_reducible assumption) | (rw [neC (by omega), neC (by omega), neC (by omega), neC (by omega), neC (by omega), neC (by omega)]; with_reducible assumption) | (rw [neC (by omega), neC (by omega), neC (by omega)]; with_reducible assumption) | (rw [cell_drew, neC (by omega), neC (by omega), neC (by omega), neC (by omega), neC (by omega), neC (by omega)]; with_reducible assumption) | ((go_keep); done))))
      (first
        | (go_at_call 121; (with_reducible refine (HC.out _ ((Ext.rfl' W3).dr)).mono ?_); rintro e w1 ⟨rfl, hE⟩; replace hE := ((Ext.rfl' _).dr).tr hE; replace b0 := Ext.cellH hE b0; replace b1 := Ext.cellH hE b1; replace b2 := Ext.cellH hE b2; replace c0q := Ext.cellH hE c0q; replace c1q := Ext.cellH hE c1q; replace c2q := Ext.cellH hE c2q; replace HX := Bx.hext HX hE; replace HV1 := QV.hext HV1 hE; replace HV2 := QV.hext HV2 hE; replace HE := Lib.hid (HE.out.tr hE); have y0 : w1.cell? ⟨w.heap.size + 1, 0, none⟩ = some (.bool false) := HX.out.c 0; have y1 : w1.cell? ⟨w.heap.size + 1, 1, none⟩ = some (.slice none 0 0) := HX.out.c 1; have y2 : w1.cell? ⟨w.heap.size + 1, 2, none⟩ = some (.slice none 0 0) := HX.out.c 2; have y3 : w1.cell? ⟨w.heap.size + 1, 3, none⟩ = some (.bool false) := HX.out.c 3; have y4 : w1.cell? ⟨w.heap.size + 1, 4, none⟩ = some (.slice none 0 0) := HX.out.c 4; have y5 : w1.cell? ⟨w.heap.size + 1, 5, none⟩ = some (.slice none 0 0) := HX.out.c 5; have f0 := HX.out.f 0; have f1 := HX.out.f 1; have f2 := HX.out.f 2; have f3 := HX.out.f 3; have f4 := HX.out.f 4; have f5 := HX.out.f 5; clear hE))
    all_goals
      go_wp2_with fail
      obtain ⟨d0', d1', d2', d3', d4', d5'⟩ := set6 HX.out (.bool s1) (.slice Z1 l1 c1) (.slice Y1 m1 d1) (.bool s2) (.slice Z2 l2 c2) (.slice Y2 m2 d2)
      have HZ := JV.off (JV.mk HV1.out HV2.out) HX.out nou96 (size6 (.bool s1) (.slice Z1 l1 c1) (.slice Y1 m1 d1) (.bool s2) (.slice Z2 l2 c2) (.slice Y2 m2 d2)) (keep6 (b := w.heap.size + 1) (.bool s1) (.slice Z1 l1 c1) (.slice Y1 m1 d1) (.bool s2) (.slice Z2 l2 c2) (.slice Y2 m2 d2))
      refine bodyPost_ret (v := .tuple #[.agg #[.bool s1, .slice Z1 l1 c1, .slice Y1 m1 d1, .bool s2, .slice Z2 l2 c2, .slice Y2 m2 d2], .bool true]) ?_ rfl ⟨_, _, _, by rw [HG.out], HZ, HQ1.out, HQ2.out, ext_set6 (b := w.heap.size + 1) HE.out (by omega) _ _ _ _ _ _⟩
      simp [results, Tryz.f82, go_sem, d0', d1', d2', d3', d4', d5']
theorem jFrom_v (s t : ByteArray) (w : World) (hs : s.size ≤ 40) (ht : t.size ≤ 40) : Calls Tryz.prog 82 #[.agg #[.string s, .string t]] w (JF s t w) := by
  cases h1 : ratB s.data.toList
  · exact jFrom_no1 s t w hs ht h1
  · cases h2 : ratB t.data.toList
    · exact jFrom_no2 s t w hs ht h1 h2
    · exact jFrom_yes s t w hs ht h1 h2
end Go.Proofs.YtbldlibijojbjaaGreatDoor.GB
