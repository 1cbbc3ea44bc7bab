import Derived.Test.YtbldlibijojbjaaGreatDoorCOb
namespace Go.Proofs.YtbldlibijojbjaaGreatDoor.GB
set_option linter.unusedVariables false
set_option linter.unusedSimpArgs false
open Go.RowKit Go.Shelf
attribute [local go_sem ↓] Go.wp_at_zero Go.wp_at_succ
/-- What the reference's division hands back. -/
def DivP8 (p r : Pl) (n m : Nat) (w : World) (e : Ending) (w' : World) : Prop := ∃ v1 v2 q t, e = .returned (.tuple #[v1, v2]) ∧ DivRel p r q t ∧ CB t (remB p.length n r.length m) ∧ PB q (p.length * (ovX p.length n r.length m + 1)) ∧ q.length ≤ p.length ∧ PQ w' v1 q ∧ PQ w' v2 t ∧ Ext w w'
set_option maxHeartbeats 8000000 in
set_option maxRecDepth 200000 in
theorem q8Over_v (v1 v2 : Value) (p r : Pl) (n m : Nat) (w : World) (h1 : PQ w v1 p) (h2 : PQ w v2 r) (hp : CB p n) (hr : CB r m) (tp : Tr p) (tr : Tr r) (hr0 : r ≠ []) (l1 : p.length ≤ 17) (l2 : r.length ≤ 17) (hk : 200 * (cdB n m (p.length - r.length + 1) + 2 * m + 10) ≤ KK) :
    Calls Tryz.prog 65 #[v1, v2] w (DivP8 p r n m w) := by
  obtain ⟨B, cB, rfl⟩ := h2.slc
  obtain ⟨X, hX⟩ : ∃ X, ovX p.length n r.length m = X := ⟨_, rfl⟩
  have hX2 : 200 * (X + m + 10) ≤ KK := by rw [← hX]; unfold ovX; omega
  have hlr := lead_ne tr hr0
  have l0 := List.length_pos_iff.2 hr0
  have hcb : ∀ P Q s, OVI p r P Q n m s → r.length ≤ P.length → PB P X := fun P Q s h hl => by
    have h1 := h.cb.pb
    have h2 := h.len
    refine h1.mono ?_
    rw [← hX]; unfold ovX
    have := cdB_mono (n := n) (m := m) (show s ≤ p.length - r.length + 1 by omega); omega
  have hpq : ∀ P Q s, OVI p r P Q n m s → PB Q (17 * (X + 1)) := fun P Q s h => by
    have h1 := h.pb
    rw [hX] at h1
    exact h1.mono (Nat.mul_le_mul_right _ (by have := h.len; omega))
  have HDv : Hid (∀ P Q s W u v, OVI p r P Q n m s → r.length ≤ P.length → QV W u (lead P) → QV W v (lead r) → Calls Tryz.prog 100 #[u, v] W (RetQ3 (lead P / lead r) W)) := fun P Q s W u v h hl hu hv =>
    q3Div_v u v _ _ X m W hu hv ((hcb P Q s h hl).cf _) (hr.pb.cf _) hlr (by omega)
  have HRa : Hid (∀ P W u, P.length ≤ 17 → PQ W u [(lead P / lead r)] → Calls Tryz.prog 98 #[u, .int .i64 (((P.length - r.length) : Nat) : Int)] W (RetPQ (pmono (P.length - r.length) (lead P / lead r)) W)) := fun P W u hl hu => by
    have := q8Raise_v u [(lead P / lead r)] (P.length - r.length) W hu (by simp) (by omega)
    rwa [prs_one] at this
  have hF : ∀ P Q s, OVI p r P Q n m s → r.length ≤ P.length → PB (pmono (P.length - r.length) (lead P / lead r)) X ∧ (pmono (P.length - r.length) (lead P / lead r)).length ≤ 17 := fun P Q s h hl => by
    have h1 := h.f hr tr hr0 hl
    rw [hX] at h1
    refine ⟨PB.of_cf fun x => ?_, ?_⟩
    · rw [cf_pmono]; split
      · exact h1
      · exact (Bd.of_int 0 0 (by decide)).mono (Nat.zero_le _)
    · have := h.len; simp [pmono]; omega
  have HPl : Hid (∀ P Q s W u v, OVI p r P Q n m s → r.length ≤ P.length → PQ W u Q → PQ W v (pmono (P.length - r.length) (lead P / lead r)) → Calls Tryz.prog 59 #[u, v] W (RetPQ (ptrim (padd Q (pmono (P.length - r.length) (lead P / lead r)))) W)) := fun P Q s W u v h hl hu hv =>
    q8Plus_v u v _ _ (17 * (X + 1)) X W hu hv (hpq P Q s h) (hF P Q s h hl).1 (by have := h.lenQ; omega) (by have := (hF P Q s h hl).2; omega) (by omega)
  have HTi : Hid (∀ P Q s W u v, OVI p r P Q n m s → r.length ≤ P.length → PQ W u (pmono (P.length - r.length) (lead P / lead r)) → PQ W v r → Calls Tryz.prog 63 #[u, v] W (RetPQ (ptrim (pmul (pmono (P.length - r.length) (lead P / lead r)) r)) W)) := fun P Q s W u v h hl hu hv =>
    q8Times_v u v _ _ X m W hu hv (hF P Q s h hl).1 hr.pb (by have := (hF P Q s h hl).2; omega) (by omega) (by omega)
  have HMi : Hid (∀ P Q s W u v, OVI p r P Q n m s → r.length ≤ P.length → PQ W u P → PQ W v (ptrim (pmul (pmono (P.length - r.length) (lead P / lead r)) r)) → Calls Tryz.prog 61 #[u, v] W (RetPQ (ptrim (padd P (pneg (ptrim (pmul (pmono (P.length - r.length) (lead P / lead r)) r))))) W)) := fun P Q s W u v h hl hu hv => by
    have hf := hF P Q s h hl
    have e := PB.tms hf.1 hr.pb (pmono (P.length - r.length) (lead P / lead r)).length
    have e2 := tms_len (pmono (P.length - r.length) (lead P / lead r)) r (pmono (P.length - r.length) (lead P / lead r)).length
    rw [List.take_length] at e e2
    have e3 : (pmono (P.length - r.length) (lead P / lead r)).length * (X + m + 1) ≤ 17 * (X + m + 1) := Nat.mul_le_mul_right _ hf.2
    exact q8Minus_v u v _ _ X (17 * (X + m + 1)) W hu hv (hcb P Q s h hl) (e.mono e3) (by have := h.len; omega) (by omega) (by omega)
  have HSt : Hid (∀ P Q s, OVI p r P Q n m s → r.length ≤ P.length → OVI p r (ptrim (padd P (pneg (ptrim (pmul (pmono (P.length - r.length) (lead P / lead r)) r))))) (ptrim (padd Q (pmono (P.length - r.length) (lead P / lead r)))) n m (s + 1)) := fun P Q s h hl => h.step hr tr hr0 hl
  have HDn : Hid (∀ P Q s, OVI p r P Q n m s → P.length < r.length → DivRel p r Q P ∧ CB P (remB p.length n r.length m) ∧ PB Q (p.length * (ovX p.length n r.length m + 1)) ∧ Q.length ≤ p.length) := fun P Q s h hl => ⟨h.done hl, h.rem.1, h.rem.2, h.lenQ⟩
  have HLt : Hid (∀ P : Pl, r.length ≤ P.length → (ptrim (padd P (pneg (ptrim (pmul (pmono (P.length - r.length) (lead P / lead r)) r))))).length < P.length) := fun P hl => over_lt tr hr0 hl
  have HI0 := Lib.hid (OVI.start (r := r) (m := m) tp hp)
  have HPQ := Lib.hid h1
  have HLe : Hid (∀ P Q s, OVI p r P Q n m s → P.length ≤ 17) := fun P Q s h => by have := h.len; omega
  have HR := Lib.hid h2.rd.2.2.2
  have HV2 := Lib.hid h2
  obtain ⟨lr, hlr2⟩ : ∃ k, r.length = k := ⟨_, rfl⟩
  have HLR := Lib.hid hlr2
  have hlr0 : 0 < lr := by omega
  have hlr17 : lr ≤ 17 := by omega
  rw [hlr2] at HV2 ⊢
  clear h1 h2 hp hr tp tr hr0 l1 l2 hk hX hX2 hlr l0 hcb hpq hF hlr2
  go_enter Tryz.func65, Tryz.ntmps65
  go_wp2_with fail
  go_loopw [0, 6] (fun vp vo wr => ∃ (P Q : Pl) (s : Nat), Hid (PQ wr vp P) ∧ Hid (PQ wr vo Q) ∧ Hid (OVI p r P Q n m s) ∧ Hid (Ext w wr)) (fun vp _ _ => match vp with | .slice _ l _ => l | _ => 0)
  case atStart => exact ⟨p, [], 0, HPQ, PQ.nil w, HI0, Ext.rfl' w⟩
  case round =>
    clear HPQ HI0
    obtain ⟨P, Q, s, HP, HQ, HO, HE⟩ := hrel
    obtain ⟨A, cA, hvp⟩ := HP.out.slc
    subst hvp
    have h17 := HLe.out P Q s HO.out
    obtain ⟨lp, hlp⟩ : ∃ k, P.length = k := ⟨_, rfl⟩
    have HLP := Lib.hid hlp
    have HRP : Hid (RdQ wr A P) := by have h := HP.out; rw [hlp] at h; exact h.rd.2.2.2
    rw [hlp] at HP h17 ⊢
    by_cases hlt : lr ≤ lp
    · have hge : r.length ≤ P.length := by rw [hlp, show r.length = lr from HLR.out]; exact hlt
      obtain ⟨bb, off, x, y, z, rfl, hbb, c0, c1, c2, hq⟩ := HRP.out (lp - 1) (by omega)
      obtain ⟨s1, A1, la, ca, B1, lb, cb, hv, -, -, -⟩ := hq.ex
      simp only [Value.agg.injEq, Array.mk.injEq, List.cons.injEq, and_true] at hv
      obtain ⟨rfl, rfl, rfl⟩ := hv
      obtain ⟨bc, ofc, x2, y2, z2, rfl, hbc, b0, b1, b2, hq2⟩ := HR.out (lr - 1) (by rw [show r.length = lr from HLR.out]; omega)
      obtain ⟨s2, A2, l2, c2z, B2, m2, d2, hv, -, -, -⟩ := hq2.ex
      simp only [Value.agg.injEq, Array.mk.injEq, List.cons.injEq, and_true] at hv
      obtain ⟨rfl, rfl, rfl⟩ := hv
      replace b0 := HE.out.cell b0
      replace b1 := HE.out.cell b1
      replace b2 := HE.out.cell b2
      have hP1 : cf P (lp - 1) = lead P := by unfold lead; rw [hlp]
      have hr1 : cf r (lr - 1) = lead r := by unfold lead; rw [show r.length = lr from HLR.out]
      rw [hP1] at hq
      rw [hr1] at hq2
      have hJ : (P.length - r.length) = lp - lr := by rw [hlp, show r.length = lr from HLR.out]
      have HJ := Lib.hid hJ
      have HD1 : Hid (∀ W, Ext wr W → Calls Tryz.prog 100 #[.agg #[.bool s1, .slice A1 la ca, .slice B1 lb cb], .agg #[.bool s2, .slice A2 l2 c2z, .slice B2 m2 d2]] W (RetQ3 (lead P / lead r) W)) := fun W hE => HDv.out P Q s W _ _ HO.out hge (hq.ext hE) ((hq2.ext HE.out).ext hE)
      have HR1 : Hid (∀ W u, PQ W u [(lead P / lead r)] → Calls Tryz.prog 98 #[u, .int .i64 ((lp : Int) - (lr : Int))] W (RetPQ (pmono (P.length - r.length) (lead P / lead r)) W)) := fun W u hu => by
        have h := HRa.out P W u (by omega) hu
        have e : (((P.length - r.length) : Nat) : Int) = (lp : Int) - (lr : Int) := by rw [hJ]; omega
        rw [e] at h; exact h
      have HP1 := Lib.hid (fun W u v hu hv => HPl.out P Q s W u v HO.out hge hu hv)
      have HT1 := Lib.hid (fun W u v hu hv => HTi.out P Q s W u v HO.out hge hu hv)
      have HM1 := Lib.hid (fun W u v hu hv => HMi.out P Q s W u v HO.out hge hu hv)
      have HS1 := Lib.hid (HSt.out P Q s HO.out hge)
      have HLn : Hid ((ptrim (padd P (pneg (ptrim (pmul (pmono (P.length - r.length) (lead P / lead r)) r))))).length < lp) := by
        have h := HLt.out P hge
        rw [hlp] at h; unfold Hid; rw [hlp]; exact h
      have z1 : (lr : Int) ≤ (lp : Int) := by omega
      have z2 : (0 : Int) ≤ (lp : Int) - 1 := by omega
      have z8 : (1 : Int) ≤ (lp : Int) := by omega
      have z9 : (1 : Int) ≤ (lr : Int) := by omega
      have z3 : (0 : Int) ≤ (lr : Int) - 1 := by omega
      have z4 : (lp : Int) - 1 < (lp : Int) := by omega
      have z5 : (lr : Int) - 1 < (lr : Int) := by omega
      have z6 : ((lp : Int) - 1).toNat = lp - 1 := by omega
      have z7 : ((lr : Int) - 1).toNat = lr - 1 := by omega
      have w1' : IntKind.i64.wrap ((lp : Int) - 1) = (lp : Int) - 1 := by rw [IntKind.wrap_i64]; omega
      have w2' : IntKind.i64.wrap ((lr : Int) - 1) = (lr : Int) - 1 := by rw [IntKind.wrap_i64]; omega
      have w3' : IntKind.i64.wrap ((lp : Int) - (lr : Int)) = (lp : Int) - (lr : Int) := by rw [IntKind.wrap_i64]; omega
      have a0 : off + 3 * (lp - 1) + 1 = off + (3 * (lp - 1) + 1) := by omega
      have a1 : off + 3 * (lp - 1) + 2 = off + (3 * (lp - 1) + 2) := by omega
      have a2 : off + (lp - 1) * 3 = off + 3 * (lp - 1) := by omega
      have a3 : ofc + 3 * (lr - 1) + 1 = ofc + (3 * (lr - 1) + 1) := by omega
      have a4 : ofc + 3 * (lr - 1) + 2 = ofc + (3 * (lr - 1) + 2) := by omega
      have a5 : ofc + (lr - 1) * 3 = ofc + 3 * (lr - 1) := by omega
      have c0d : wr.drew.cell? ⟨bb, off + 3 * (lp - 1), none⟩ = some (.bool s1) := c0
      have c1d : wr.drew.cell? ⟨bb, off + (3 * (lp - 1) + 1), none⟩ = some (.slice A1 la ca) := c1
      have c2d : wr.drew.cell? ⟨bb, off + (3 * (lp - 1) + 2), none⟩ = some (.slice B1 lb cb) := c2
      have b0d : wr.drew.cell? ⟨bc, ofc + 3 * (lr - 1), none⟩ = some (.bool s2) := b0
      have b1d : wr.drew.cell? ⟨bc, ofc + (3 * (lr - 1) + 1), none⟩ = some (.slice A2 l2 c2z) := b1
      have b2d : wr.drew.cell? ⟨bc, ofc + (3 * (lr - 1) + 2), none⟩ = some (.slice B2 m2 d2) := b2
      clear HLt hq hq2 hbb hbc hge hJ hP1 hr1 hlp HPl HTi HMi HSt HDv HRa HDn HLe
      generalize (ptrim (padd P (pneg (ptrim (pmul (pmono (P.length - r.length) (lead P / lead r)) r))))) = G1 at *
      generalize (ptrim (padd Q (pmono (P.length - r.length) (lead P / lead r)))) = G2 at *
      generalize ptrim (pmul (pmono (P.length - r.length) (lead P / lead r)) r) = G3 at *
      generalize (pmono (P.length - r.length) (lead P / lead r)) = G4 at *
      generalize (lead P / lead r) = G5 at *
      go_wp2_with fail
      refine wp_region_held_drew (S := (fun w' => w'.cell? ⟨bb, off + 3 * (lp - 1), none⟩ = some (.bool s1) ∧ w'.cell? ⟨bb, off + (3 * (lp - 1) + 1), none⟩ = some (.slice A1 la ca) ∧ w'.cell? ⟨bb, off + (3 * (lp - 1) + 2), none⟩ = some (.slice B1 lb cb) ∧ w'.cell? ⟨bc, ofc + 3 * (lr - 1), none⟩ = some (.bool s2) ∧ w'.cell? ⟨bc, ofc + (3 * (lr - 1) + 1), none⟩ = some (.slice A2 l2 c2z) ∧ w'.cell? ⟨bc, ofc + (3 * (lr - 1) + 2), none⟩ = some (.slice B2 m2 d2))) (by kernel_rfl) (by exact ⟨c0d, c1d, c2d, b0d, b1d, b2d⟩) (fun hHeld => ?_)
      refine wpAnyH_take (i := 0) (oi := { dst := some 13, op := Go.Op.move (Go.Operand.tmp 0), type := 58, pos := "ref.go:121", after := #[], guard := none }) (v := ?_) rfl (by kernel_rfl) (by kernel_rfl) (by kernel_rfl) (fun _ _ _ h => h) (Or.inl ⟨by rfl, ?_⟩) hHeld ?_
      rotate_left
      · intro w' hSw; (try dsimp only at hSw); go_simp; (try with_reducible rfl)
      try simp only [Act.put, List.setIfInBounds_toArray, List.set_cons_zero, List.set_cons_succ]
      refine wpAnyH_take (i := 1) (oi := { dst := some 14, op := Go.Op.move (Go.Operand.tmp 0), type := 58, pos := "ref.go:121", after := #[], guard := none }) (v := ?_) rfl (by kernel_rfl) (by kernel_rfl) (by kernel_rfl) (fun _ _ _ h => h) (Or.inl ⟨by rfl, ?_⟩) hHeld ?_
      rotate_left
      · intro w' hSw; (try dsimp only at hSw); go_simp; (try with_reducible rfl)
      try simp only [Act.put, List.setIfInBounds_toArray, List.set_cons_zero, List.set_cons_succ]
      refine wpAnyH_take (i := 2) (oi := { dst := some 15, op := Go.Op.call { callee := Go.Callee.builtin Go.Builtin.len, args := #[Go.Operand.tmp 14], argTypes := #[58] }, type := 3, pos := "ref.go:121", after := #[{ on := 1, ground := Go.Ground.data }], guard := none }) (v := ?_) rfl (by kernel_rfl) (by kernel_rfl) (by kernel_rfl) (fun _ _ _ h => h) (Or.inl ⟨by rfl, ?_⟩) hHeld ?_
      rotate_left
      · intro w' hSw; (try dsimp only at hSw); go_simp; (try with_reducible rfl)
      try simp only [Act.put, List.setIfInBounds_toArray, List.set_cons_zero, List.set_cons_succ]
      refine wpAnyH_take (i := 3) (oi := { dst := some 16, op := Go.Op.binOp Go.BinOp.sub 3 (Go.Operand.tmp 15) (Go.Operand.const (Go.Value.int Go.IntKind.i64 1)) 3, type := 3, pos := "ref.go:121", after := #[{ on := 2, ground := Go.Ground.data }], guard := none }) (v := ?_) rfl (by kernel_rfl) (by kernel_rfl) (by kernel_rfl) (fun _ _ _ h => h) (Or.inl ⟨by rfl, ?_⟩) hHeld ?_
      rotate_left
      · intro w' hSw; (try dsimp only at hSw); go_simp; (try with_reducible rfl)
      try simp only [Act.put, List.setIfInBounds_toArray, List.set_cons_zero, List.set_cons_succ]
      refine wpAnyH_take (i := 4) (oi := { dst := some 17, op := Go.Op.indexAddr 58 (Go.Operand.tmp 13) (Go.Operand.tmp 16), type := 0, pos := "ref.go:121", after := #[{ on := 0, ground := Go.Ground.data }, { on := 3, ground := Go.Ground.data }], guard := none }) (v := ?_) rfl (by kernel_rfl) (by kernel_rfl) (by kernel_rfl) (fun _ _ _ h => h) (Or.inl ⟨by rfl, ?_⟩) hHeld ?_
      rotate_left
      · intro w' hSw; (try dsimp only at hSw); go_simp; (try with_reducible rfl)
      try simp only [Act.put, List.setIfInBounds_toArray, List.set_cons_zero, List.set_cons_succ]
      refine wpAnyH_take (i := 5) (oi := { dst := some 18, op := Go.Op.load 86 (Go.Operand.tmp 17), type := 86, pos := "ref.go:121", after := #[{ on := 4, ground := Go.Ground.data }], guard := none }) (v := ?_) rfl (by kernel_rfl) (by kernel_rfl) (by kernel_rfl) (fun _ _ _ h => h) (Or.inl ⟨by rfl, ?_⟩) hHeld ?_
      rotate_left
      · intro w' hSw; (try dsimp only at hSw); go_simp; (try with_reducible rfl)
      try simp only [Act.put, List.setIfInBounds_toArray, List.set_cons_zero, List.set_cons_succ]
      refine wpAnyH_take (i := 6) (oi := { dst := some 19, op := Go.Op.move (Go.Operand.tmp 1), type := 58, pos := "ref.go:121", after := #[], guard := none }) (v := ?_) rfl (by kernel_rfl) (by kernel_rfl) (by kernel_rfl) (fun _ _ _ h => h) (Or.inl ⟨by rfl, ?_⟩) hHeld ?_
      rotate_left
      · intro w' hSw; (try dsimp only at hSw); go_simp; (try with_reducible rfl)
      try simp only [Act.put, List.setIfInBounds_toArray, List.set_cons_zero, List.set_cons_succ]
      refine wpAnyH_take (i := 7) (oi := { dst := some 20, op := Go.Op.move (Go.Operand.tmp 1), type := 58, pos := "ref.go:121", after := #[], guard := none }) (v := ?_) rfl (by kernel_rfl) (by kernel_rfl) (by kernel_rfl) (fun _ _ _ h => h) (Or.inl ⟨by rfl, ?_⟩) hHeld ?_
      rotate_left
      · intro w' hSw; (try dsimp only at hSw); go_simp; (try with_reducible rfl)
      try simp only [Act.put, List.setIfInBounds_toArray, List.set_cons_zero, List.set_cons_succ]
      refine wpAnyH_take (i := 8) (oi := { dst := some 21, op := Go.Op.call { callee := Go.Callee.builtin Go.Builtin.len, args := #[Go.Operand.tmp 20], argTypes := #[58] }, type := 3, pos := "ref.go:121", after := #[{ on := 7, ground := Go.Ground.data }], guard := none }) (v := ?_) rfl (by kernel_rfl) (by kernel_rfl) (by kernel_rfl) (fun _ _ _ h => h) (Or.inl ⟨by rfl, ?_⟩) hHeld ?_
      rotate_left
      · intro w' hSw; (try dsimp only at hSw); go_simp; (try with_reducible rfl)
      try simp only [Act.put, List.setIfInBounds_toArray, List.set_cons_zero, List.set_cons_succ]
      refine wpAnyH_take (i := 9) (oi := { dst := some 22, op := Go.Op.binOp Go.BinOp.sub 3 (Go.Operand.tmp 21) (Go.Operand.const (Go.Value.int Go.IntKind.i64 1)) 3, type := 3, pos := "ref.go:121", after := #[{ on := 8, ground := Go.Ground.data }], guard := none }) (v := ?_) rfl (by kernel_rfl) (by kernel_rfl) (by kernel_rfl) (fun _ _ _ h => h) (Or.inl ⟨by rfl, ?_⟩) hHeld ?_
      rotate_left
      · intro w' hSw; (try dsimp only at hSw); go_simp; (try with_reducible rfl)
      try simp only [Act.put, List.setIfInBounds_toArray, List.set_cons_zero, List.set_cons_succ]
      refine wpAnyH_take (i := 10) (oi := { dst := some 23, op := Go.Op.indexAddr 58 (Go.Operand.tmp 19) (Go.Operand.tmp 22), type := 0, pos := "ref.go:121", after := #[{ on := 6, ground := Go.Ground.data }, { on := 9, ground := Go.Ground.data }], guard := none }) (v := ?_) rfl (by kernel_rfl) (by kernel_rfl) (by kernel_rfl) (fun _ _ _ h => h) (Or.inl ⟨by rfl, ?_⟩) hHeld ?_
      rotate_left
      · intro w' hSw; (try dsimp only at hSw); go_simp; (try with_reducible rfl)
      try simp only [Act.put, List.setIfInBounds_toArray, List.set_cons_zero, List.set_cons_succ]
      refine wpAnyH_take (i := 11) (oi := { dst := some 24, op := Go.Op.load 86 (Go.Operand.tmp 23), type := 86, pos := "ref.go:121", after := #[{ on := 10, ground := Go.Ground.data }], guard := none }) (v := ?_) rfl (by kernel_rfl) (by kernel_rfl) (by kernel_rfl) (fun _ _ _ h => h) (Or.inl ⟨by rfl, ?_⟩) hHeld ?_
      rotate_left
      · intro w' hSw; (try dsimp only at hSw); go_simp; (try with_reducible rfl)
      try simp only [Act.put, List.setIfInBounds_toArray, List.set_cons_zero, List.set_cons_succ]
      refine wpAnyH_take (i := 14) (oi := { dst := some 27, op := Go.Op.move (Go.Operand.tmp 0), type := 58, pos := "ref.go:121", after := #[], guard := none }) (v := ?_) rfl (by kernel_rfl) (by kernel_rfl) (by kernel_rfl) (fun _ _ _ h => h) (Or.inl ⟨by rfl, ?_⟩) hHeld ?_
      rotate_left
      · intro w' hSw; (try dsimp only at hSw); go_simp; (try with_reducible rfl)
      try simp only [Act.put, List.setIfInBounds_toArray, List.set_cons_zero, List.set_cons_succ]
      refine wpAnyH_take (i := 15) (oi := { dst := some 28, op := Go.Op.call { callee := Go.Callee.builtin Go.Builtin.len, args := #[Go.Operand.tmp 27], argTypes := #[58] }, type := 3, pos := "ref.go:121", after := #[{ on := 14, ground := Go.Ground.data }], guard := none }) (v := ?_) rfl (by kernel_rfl) (by kernel_rfl) (by kernel_rfl) (fun _ _ _ h => h) (Or.inl ⟨by rfl, ?_⟩) hHeld ?_
      rotate_left
      · intro w' hSw; (try dsimp only at hSw); go_simp; (try with_reducible rfl)
      try simp only [Act.put, List.setIfInBounds_toArray, List.set_cons_zero, List.set_cons_succ]
      refine wpAnyH_take (i := 16) (oi := { dst := some 29, op := Go.Op.move (Go.Operand.tmp 1), type := 58, pos := "ref.go:121", after := #[], guard := none }) (v := ?_) rfl (by kernel_rfl) (by kernel_rfl) (by kernel_rfl) (fun _ _ _ h => h) (Or.inl ⟨by rfl, ?_⟩) hHeld ?_
      rotate_left
      · intro w' hSw; (try dsimp only at hSw); go_simp; (try with_reducible rfl)
      try simp only [Act.put, List.setIfInBounds_toArray, List.set_cons_zero, List.set_cons_succ]
      refine wpAnyH_take (i := 17) (oi := { dst := some 30, op := Go.Op.call { callee := Go.Callee.builtin Go.Builtin.len, args := #[Go.Operand.tmp 29], argTypes := #[58] }, type := 3, pos := "ref.go:121", after := #[{ on := 16, ground := Go.Ground.data }], guard := none }) (v := ?_) rfl (by kernel_rfl) (by kernel_rfl) (by kernel_rfl) (fun _ _ _ h => h) (Or.inl ⟨by rfl, ?_⟩) hHeld ?_
      rotate_left
      · intro w' hSw; (try dsimp only at hSw); go_simp; (try with_reducible rfl)
      try simp only [Act.put, List.setIfInBounds_toArray, List.set_cons_zero, List.set_cons_succ]
      refine wpAnyH_take (i := 18) (oi := { dst := some 31, op := Go.Op.binOp Go.BinOp.sub 3 (Go.Operand.tmp 28) (Go.Operand.tmp 30) 3, type := 3, pos := "ref.go:121", after := #[{ on := 15, ground := Go.Ground.data }, { on := 17, ground := Go.Ground.data }], guard := none }) (v := ?_) rfl (by kernel_rfl) (by kernel_rfl) (by kernel_rfl) (fun _ _ _ h => h) (Or.inl ⟨by rfl, ?_⟩) hHeld ?_
      rotate_left
      · intro w' hSw; (try dsimp only at hSw); go_simp; (try with_reducible rfl)
      try simp only [Act.put, List.setIfInBounds_toArray, List.set_cons_zero, List.set_cons_succ]
      refine wpAnyH_ready (rs := [12]) (by kernel_rfl) (by simp) ?_
      refine (AllReadyH.cons (o := { dst := some 25, op := Go.Op.call { callee := Go.Callee.value (Go.Operand.func 100), args := #[Go.Operand.tmp 18, Go.Operand.tmp 24], argTypes := #[86, 86] }, type := 86, pos := "ref.go:121", after := #[{ on := 5, ground := Go.Ground.data }, { on := 11, ground := Go.Ground.data }], guard := none }) rfl (fun K hK => ?_) AllReadyH.nil)
      go_simp
      (go_at_call 100; (with_reducible refine (HD1.out _ ((Ext.rfl' wr).dr)).mono ?_); rintro e wf ⟨vf, rfl, hv, hE⟩; obtain ⟨sf, Zf, lf, cf, Yf, mf, df, rfl, -, -, -⟩ := hv.ex; have HWf := Lib.hid ((((Ext.rfl' wr).dr)).tr hE); have HVf := Lib.hid hv; clear hE hv)
      refine hK.out _ _ (by exact ⟨HWf.out.cell c0, HWf.out.cell c1, HWf.out.cell c2, HWf.out.cell b0, HWf.out.cell b1, HWf.out.cell b2⟩) (fun hHeld2 => ?_)
      clear hK K hHeld
      have hHeld := hHeld2
      clear hHeld2
      try simp only [Act.put, List.setIfInBounds_toArray, List.set_cons_zero, List.set_cons_succ]
      refine wpAnyH_ready (rs := [13]) (by kernel_rfl) (by simp) ?_
      refine (AllReadyH.cons (o := { dst := some 26, op := Go.Op.buildSlice 58 1 #[(0, Go.Operand.tmp 25)], type := 58, pos := "ref.go:121", after := #[{ on := 12, ground := Go.Ground.data }], guard := none }) rfl (fun K hK => ?_) AllReadyH.nil)
      go_simp
      have HB := Lib.hid (OwnQ.uno (base := 0) (t := (.bool sf, .slice Zf lf cf, .slice Yf mf df)) (Nat.zero_le _) HVf.out).pq
      refine hK.out _ _ (by exact ⟨(HWf.out.al _).cell c0, (HWf.out.al _).cell c1, (HWf.out.al _).cell c2, (HWf.out.al _).cell b0, (HWf.out.al _).cell b1, (HWf.out.al _).cell b2⟩) (fun hHeld2 => ?_)
      clear hK K hHeld
      have hHeld := hHeld2
      clear hHeld2
      try simp only [Act.put, List.setIfInBounds_toArray, List.set_cons_zero, List.set_cons_succ]
      refine wpAnyH_ready (rs := [19]) (by kernel_rfl) (by simp) ?_
      refine (AllReadyH.cons (o := { dst := some 32, op := Go.Op.call { callee := Go.Callee.value (Go.Operand.func 98), args := #[Go.Operand.tmp 26, Go.Operand.tmp 31], argTypes := #[58, 3] }, type := 58, pos := "ref.go:121", after := #[{ on := 13, ground := Go.Ground.data }, { on := 18, ground := Go.Ground.data }, { on := 12, ground := Go.Ground.chain }], guard := none }) rfl (fun K hK => ?_) AllReadyH.nil)
      go_simp
      (go_at_call 98; (with_reducible refine (HR1.out _ _ HB.out).mono ?_); rintro e wg ⟨vg, rfl, hv, hE⟩; have HWg := Lib.hid (((HWf.out.al _)).tr hE); have HVg := Lib.hid hv; clear hE hv)
      refine hK.out _ _ (by exact ⟨HWg.out.cell c0, HWg.out.cell c1, HWg.out.cell c2, HWg.out.cell b0, HWg.out.cell b1, HWg.out.cell b2⟩) (fun hHeld2 => ?_)
      clear hK K hHeld
      have hHeld := hHeld2
      clear hHeld2
      try simp only [Act.put, List.setIfInBounds_toArray, List.set_cons_zero, List.set_cons_succ]
      refine wpAnyH_take (i := 20) (oi := { dst := some 7, op := Go.Op.assign (Go.Operand.tmp 32), type := 58, pos := "ref.go:121", after := #[{ on := 19, ground := Go.Ground.data }, { on := 19, ground := Go.Ground.chain }, { on := 0, ground := Go.Ground.phase }, { on := 1, ground := Go.Ground.phase }, { on := 2, ground := Go.Ground.phase }, { on := 3, ground := Go.Ground.phase }, { on := 4, ground := Go.Ground.phase }, { on := 5, ground := Go.Ground.phase }, { on := 6, ground := Go.Ground.phase }, { on := 7, ground := Go.Ground.phase }, { on := 8, ground := Go.Ground.phase }, { on := 9, ground := Go.Ground.phase }, { on := 10, ground := Go.Ground.phase }, { on := 11, ground := Go.Ground.phase }, { on := 12, ground := Go.Ground.phase }, { on := 13, ground := Go.Ground.phase }, { on := 14, ground := Go.Ground.phase }, { on := 15, ground := Go.Ground.phase }, { on := 16, ground := Go.Ground.phase }, { on := 17, ground := Go.Ground.phase }, { on := 18, ground := Go.Ground.phase }, { on := 19, ground := Go.Ground.phase }], guard := none }) (v := ?_) rfl (by kernel_rfl) (by kernel_rfl) (by kernel_rfl) (fun _ _ _ h => h) (Or.inl ⟨by rfl, ?_⟩) hHeld ?_
      rotate_left
      · intro w' hSw; (try dsimp only at hSw); go_simp; (try with_reducible rfl)
      try simp only [Act.put, List.setIfInBounds_toArray, List.set_cons_zero, List.set_cons_succ]
      refine wpAnyH_done (by kernel_rfl) ?_ _
      clear hHeld
      clear HB HVf HWf HD1 HR1 c0 c0d c1 c1d c2 c2d b0 b0d b1 b1d b2 b2d
      have HQ2 := PQ.hext HQ HWg.out
      have HP2 := PQ.hext HP HWg.out
      have HV3 := PQ.hext (PQ.hext HV2 HE.out) HWg.out
      have HE2 := Lib.hid (HE.out.tr HWg.out)
      clear HQ HP HWg
      go_wp2_with fail
      refine (HP1.out _ _ _ HQ2.out HVg.out).mono ?_
      rintro e w4 ⟨v4, rfl, hv, hE⟩
      have HQ3 := Lib.hid hv
      replace HP2 := PQ.hext HP2 hE
      replace HV3 := PQ.hext HV3 hE
      replace HVg := PQ.hext HVg hE
      replace HE2 := Lib.hid (HE2.out.tr hE)
      clear hv hE HQ2
      go_wp2_with fail
      refine (HT1.out _ _ _ HVg.out HV3.out).mono ?_
      rintro e w5 ⟨v5, rfl, hv, hE⟩
      have HT2 := Lib.hid hv
      replace HQ3 := PQ.hext HQ3 hE
      replace HP2 := PQ.hext HP2 hE
      replace HE2 := Lib.hid (HE2.out.tr hE)
      clear hv hE HVg HV3
      go_wp2_with fail
      refine (HM1.out _ _ _ HP2.out HT2.out).mono ?_
      rintro e w6 ⟨v6, rfl, hv, hE⟩
      have HP3 := Lib.hid hv
      replace HQ3 := PQ.hext HQ3 hE
      replace HE2 := Lib.hid (HE2.out.tr hE)
      obtain ⟨AN, cN, rfl⟩ := hv.slc
      clear hv hE HT2 HP2 HM1 HT1 HP1
      go_wp2
      go_roundw
      case rel => exact ⟨G1, G2, s + 1, HP3, HQ3, HS1, HE2⟩
      case measure => exact HLn.out
    · have hD := HDn.out P Q s HO.out (by rw [hlp, show r.length = lr from HLR.out]; omega)
      have HD := Lib.hid hD
      rw [← hlp] at HP
      have z1 : ¬ (lr : Int) ≤ (lp : Int) := by omega
      have HPx : Hid (PQ wr (.slice A lp cA) P) := by rw [hlp] at HP; exact HP
      clear hD hlp HPl HTi HMi HSt HDv HRa HDn HLe HRP HP
      go_wp2_with fail
      go_ret2
      exact ⟨_, _, Q, P, rfl, HD.out.1, HD.out.2.1, HD.out.2.2.1, HD.out.2.2.2, HQ.out, HPx.out, HE.out⟩
end Go.Proofs.YtbldlibijojbjaaGreatDoor.GB
