import Derived.Test.YtbldlibijojbjaaGreatDoorCIk
namespace Go.Proofs.YtbldlibijojbjaaGreatDoor.GB
set_option linter.unusedVariables false
set_option linter.unusedSimpArgs false
open Go.RowKit Go.Shelf
attribute [local go_sem ↓] Go.wp_at_zero Go.wp_at_succ

theorem endR_le {s : Rat × Rat} {a : Rat} (h : s.1 ≤ s.2) : (endR s a).1 ≤ (endR s a).2 := by
  unfold endR
  show (if _ then _ else _) ≤ (if _ then _ else _)
  split <;> split <;> grind
theorem foldl_endR_le (l : Pl) (s : Rat × Rat) (h : s.1 ≤ s.2) : (l.foldl endR s).1 ≤ (l.foldl endR s).2 := by
  induction l generalizing s with
  | nil => exact h
  | cons a l ih => exact ih _ (endR_le h)
theorem endsR_le (x : Rat) (l : Pl) : (endsR (x :: l)).1 ≤ (endsR (x :: l)).2 := foldl_endR_le l (x, x) Rat.le_refl
theorem foldl_endR_bd {n : Nat} (l : Pl) (s : Rat × Rat) (h : Bd s.1 n ∧ Bd s.2 n) (hl : PB l n) : Bd (l.foldl endR s).1 n ∧ Bd (l.foldl endR s).2 n := by
  induction l generalizing s with
  | nil => exact h
  | cons a l ih => exact ih _ (endR_bd h.1 h.2 (hl a (by simp))) (fun q hq => hl q (by simp [hq]))
theorem endsR_bd {n : Nat} (x : Rat) (l : Pl) (h : PB (x :: l) n) : Bd (endsR (x :: l)).1 n ∧ Bd (endsR (x :: l)).2 n :=
  foldl_endR_bd l (x, x) ⟨h x (by simp), h x (by simp)⟩ (fun q hq => h q (by simp [hq]))
/-- The products, the sums of two intervals. -/
def imulR (a b : Rat × Rat) : Rat × Rat := endsR [a.1 * b.1, a.1 * b.2, a.2 * b.1, a.2 * b.2]
def iaddR (a b : Rat × Rat) : Rat × Rat := endsR [a.1 + b.1, a.1 + b.2, a.2 + b.1, a.2 + b.2]
abbrev IQ (a : Rat × Rat) : Value := .agg #[rtx a.1, rtx a.2]
theorem pb4 {x y z t : Rat} {n : Nat} (h0 : Bd x n) (h1 : Bd y n) (h2 : Bd z n) (h3 : Bd t n) : PB [x, y, z, t] n := by
  intro q hq
  simp at hq
  rcases hq with rfl | rfl | rfl | rfl <;> assumption
theorem imulR_bd {a b : Rat × Rat} {m n : Nat} (ha : Bd a.1 m ∧ Bd a.2 m) (hb : Bd b.1 n ∧ Bd b.2 n) : Bd (imulR a b).1 (m + n) ∧ Bd (imulR a b).2 (m + n) :=
  endsR_bd _ _ (pb4 (ha.1.mul hb.1) (ha.1.mul hb.2) (ha.2.mul hb.1) (ha.2.mul hb.2))
theorem iaddR_bd {a b : Rat × Rat} {m n : Nat} (ha : Bd a.1 m ∧ Bd a.2 m) (hb : Bd b.1 n ∧ Bd b.2 n) : Bd (iaddR a b).1 (m + n + 1) ∧ Bd (iaddR a b).2 (m + n + 1) :=
  endsR_bd _ _ (pb4 (ha.1.add hb.1) (ha.1.add hb.2) (ha.2.add hb.1) (ha.2.add hb.2))
set_option maxHeartbeats 2000000 in
set_option maxRecDepth 100000 in
theorem iMul_g (a1 a2 b1 b2 s1 s2 : Rat) (w : World) (h : ∀ W, Ext w W → Calls Tryz.prog 120 #[.func (.func 44) #[] #[], .agg #[rtx a1, rtx a2], .agg #[rtx b1, rtx b2]] W fun e w' => e = .returned (.tuple #[.agg #[rtx s1, rtx s2], .int .i64 0]) ∧ Ext W w') :
    Calls Tryz.prog 80 #[.agg #[rtx a1, rtx a2], .agg #[rtx b1, rtx b2]] w fun e w' => e = .returned (.tuple #[.agg #[rtx s1, rtx s2], .int .i64 0]) ∧ Ext w w' := by
  obtain ⟨X1, X2, X3, E⟩ := boxes3 w #[rtx a1, rtx a2] #[rtx b1, rtx b2] #[.string ⟨#[]⟩, .string ⟨#[]⟩] 44
  go_enter Tryz.func80, Tryz.ntmps80
  go_wp2_with fail
  generalize ((w.alloc (.cells #[rtx a1, rtx a2] 44)).alloc (.cells #[rtx b1, rtx b2] 44)).alloc (.cells #[.string ⟨#[]⟩, .string ⟨#[]⟩] 44) = W0 at *
  refine (h _ E).mono ?_
  rintro e w1 ⟨rfl, hE⟩
  replace X3 := X3.ext hE
  replace E := E.tr hE
  clear hE h X1 X2
  obtain ⟨c0, c1, f0, f1⟩ := X3.e2
  go_wp2_with fail
  obtain ⟨m0, m1⟩ := set2 X3 (rtx s1) (rtx s2)
  refine bodyPost_ret (v := .tuple #[.agg #[rtx s1, rtx s2], .int .i64 0]) ?_ rfl ⟨rfl, ext_set2 (b := w.heap.size + 1 + 1) E (by omega) _ _⟩
  simp [results, Tryz.f80, go_sem, m0, m1]
theorem iMul_q (a b : Rat × Rat) (m n : Nat) (w : World) (hW : Wd w) (ha : Bd a.1 m ∧ Bd a.2 m) (hb : Bd b.1 n ∧ Bd b.2 n) (la : a.1 ≤ a.2) (lb : b.1 ≤ b.2) (hk : 2 * (m + n) + 10 ≤ KK) :
    Calls Tryz.prog 80 #[IQ a, IQ b] w fun e w' => e = .returned (.tuple #[IQ (imulR a b), .int .i64 0]) ∧ Ext w w' :=
  iMul_g _ _ _ _ _ _ w fun W hE => corn_mul a.1 a.2 b.1 b.2 (a.1 * b.1) (a.1 * b.2) (a.2 * b.1) (a.2 * b.2) _ _ W
    (fun W' hE' => by have h := iValid_q a.1 a.2 m m W' ((hW.ext hE).ext hE') ha.1 ha.2 (by omega); rwa [decide_eq_true la] at h)
    (fun W' hE' => by have h := iValid_q b.1 b.2 n n W' ((hW.ext hE).ext hE') hb.1 hb.2 (by omega); rwa [decide_eq_true lb] at h)
    (fun W' hE' => rMul_q _ _ m n W' ((hW.ext hE).ext hE') ha.1 hb.1 (by omega))
    (fun W' hE' => rMul_q _ _ m n W' ((hW.ext hE).ext hE') ha.1 hb.2 (by omega))
    (fun W' hE' => rMul_q _ _ m n W' ((hW.ext hE).ext hE') ha.2 hb.1 (by omega))
    (fun W' hE' => rMul_q _ _ m n W' ((hW.ext hE).ext hE') ha.2 hb.2 (by omega))
    (fun W' g hE' hps => ends_q g 4 (a.1 * b.1) [a.1 * b.2, a.2 * b.1, a.2 * b.2] 3 (m + n) W' rfl (by omega) (by omega) (by omega) (by omega) ((hW.ext hE).ext hE') hps (pb4 (ha.1.mul hb.1) (ha.1.mul hb.2) (ha.2.mul hb.1) (ha.2.mul hb.2)) (by omega))
set_option maxHeartbeats 2000000 in
set_option maxRecDepth 100000 in
theorem iAdd_g (a1 a2 b1 b2 s1 s2 : Rat) (w : World) (h : ∀ W, Ext w W → Calls Tryz.prog 120 #[.func (.func 42) #[] #[], .agg #[rtx a1, rtx a2], .agg #[rtx b1, rtx b2]] W fun e w' => e = .returned (.tuple #[.agg #[rtx s1, rtx s2], .int .i64 0]) ∧ Ext W w') :
    Calls Tryz.prog 81 #[.agg #[rtx a1, rtx a2], .agg #[rtx b1, rtx b2]] w fun e w' => e = .returned (.tuple #[.agg #[rtx s1, rtx s2], .int .i64 0]) ∧ Ext w w' := by
  obtain ⟨X1, X2, X3, E⟩ := boxes3 w #[rtx a1, rtx a2] #[rtx b1, rtx b2] #[.string ⟨#[]⟩, .string ⟨#[]⟩] 44
  go_enter Tryz.func81, Tryz.ntmps81
  go_wp2_with fail
  generalize ((w.alloc (.cells #[rtx a1, rtx a2] 44)).alloc (.cells #[rtx b1, rtx b2] 44)).alloc (.cells #[.string ⟨#[]⟩, .string ⟨#[]⟩] 44) = W0 at *
  refine (h _ E).mono ?_
  rintro e w1 ⟨rfl, hE⟩
  replace X3 := X3.ext hE
  replace E := E.tr hE
  clear hE h X1 X2
  obtain ⟨c0, c1, f0, f1⟩ := X3.e2
  go_wp2_with fail
  obtain ⟨m0, m1⟩ := set2 X3 (rtx s1) (rtx s2)
  refine bodyPost_ret (v := .tuple #[.agg #[rtx s1, rtx s2], .int .i64 0]) ?_ rfl ⟨rfl, ext_set2 (b := w.heap.size + 1 + 1) E (by omega) _ _⟩
  simp [results, Tryz.f81, go_sem, m0, m1]
theorem iAdd_q (a b : Rat × Rat) (m n : Nat) (w : World) (hW : Wd w) (ha : Bd a.1 m ∧ Bd a.2 m) (hb : Bd b.1 n ∧ Bd b.2 n) (la : a.1 ≤ a.2) (lb : b.1 ≤ b.2) (hk : 2 * (m + n) + 10 ≤ KK) :
    Calls Tryz.prog 81 #[IQ a, IQ b] w fun e w' => e = .returned (.tuple #[IQ (iaddR a b), .int .i64 0]) ∧ Ext w w' :=
  iAdd_g _ _ _ _ _ _ w fun W hE => corn_add a.1 a.2 b.1 b.2 (a.1 + b.1) (a.1 + b.2) (a.2 + b.1) (a.2 + b.2) _ _ W
    (fun W' hE' => by have h := iValid_q a.1 a.2 m m W' ((hW.ext hE).ext hE') ha.1 ha.2 (by omega); rwa [decide_eq_true la] at h)
    (fun W' hE' => by have h := iValid_q b.1 b.2 n n W' ((hW.ext hE).ext hE') hb.1 hb.2 (by omega); rwa [decide_eq_true lb] at h)
    (fun W' hE' => rAdd_q _ _ m n W' ((hW.ext hE).ext hE') ha.1 hb.1 (by omega))
    (fun W' hE' => rAdd_q _ _ m n W' ((hW.ext hE).ext hE') ha.1 hb.2 (by omega))
    (fun W' hE' => rAdd_q _ _ m n W' ((hW.ext hE).ext hE') ha.2 hb.1 (by omega))
    (fun W' hE' => rAdd_q _ _ m n W' ((hW.ext hE).ext hE') ha.2 hb.2 (by omega))
    (fun W' g hE' hps => ends_q g 4 (a.1 + b.1) [a.1 + b.2, a.2 + b.1, a.2 + b.2] 3 (m + n + 1) W' rfl (by omega) (by omega) (by omega) (by omega) ((hW.ext hE).ext hE') hps (pb4 (ha.1.add hb.1) (ha.1.add hb.2) (ha.2.add hb.1) (ha.2.add hb.2)) (by omega))
end Go.Proofs.YtbldlibijojbjaaGreatDoor.GB
