import Derived.Test.YtbldlibijojbjaaGreatDoorCJr
import Derived.Test.YtbldlibijojbjaaGreatDoorCJh
import Derived.Test.YtbldlibijojbjaaGreatDoorCJg
namespace Go.Proofs.YtbldlibijojbjaaGreatDoor.GB
set_option linter.unusedVariables false
set_option linter.unusedSimpArgs false
open Go.RowKit Go.Shelf
attribute [local go_sem ↓] Go.wp_at_zero Go.wp_at_succ
theorem PB.add {p r : Pl} {n m : Nat} (h : PB p n) (k : PB r m) : PB (padd p r) (n + m + 1) := PB.of_cf fun i => by rw [cf_padd]; exact (h.cf i).add (k.cf i)
theorem PB.sc {p : Pl} {n m : Nat} {a : Rat} (h : PB p n) (ha : Bd a m) : PB (psc a p) (m + n) := PB.of_cf fun i => by rw [cf_psc]; exact ha.mul (h.cf i)
/-- What the reference does in a step of Moved is what the program does. -/
theorem shr_ref (a c : Rat) (O : Pl) : ptrim (padd (ptrim (padd (prs 1 O) (ptrim (psc a O)))) (ptrim [c])) = shr a c O := by
  unfold shr
  have h : PE (padd (prs 1 O) (ptrim (psc a O))) (pmul O [a, 1]) := by
    intro i
    have h1 := pmul_cons_r O a [1] i
    have h2 := pmul_cons_r O 1 []
    rw [h1, cf_padd, cf_padd, cf_prs, cf_ptrim, cf_psc]
    cases i with
    | zero => simp [cf]; grind
    | succ i =>
      have e : cf (0 :: pmul O [1]) (i + 1) = cf (pmul O [1]) i := rfl
      have h3 := pmul_nil_r O
      rw [e, h2 i, cf_padd, cf_psc, if_neg (by omega)]
      have e2 : cf (0 :: pmul O []) i = 0 := by
        cases i with
        | zero => rfl
        | succ i => exact h3 i
      rw [e2, show i + 1 - 1 = i by omega]; grind
  rw [ptrim_eq h]
theorem pshf_step (a : Rat) (p : Pl) {k : Nat} (h : k < p.length) : pshf a (p.drop k) = shr a (cf p k) (pshf a (p.drop (k + 1))) := by
  rw [drop_cf h]; rfl
theorem tr_drop {p : Pl} (h : Tr p) (k : Nat) : Tr (p.drop k) := by
  induction k generalizing p with
  | zero => exact h
  | succ k ih =>
    cases p with
    | nil => exact h
    | cons x p => exact ih (tr_cons h)
set_option maxHeartbeats 8000000 in
set_option maxRecDepth 200000 in
theorem q8Moved_v (v1 v2 : Value) (p : Pl) (a : Rat) (n m : Nat) (w : World) (h1 : PQ w v1 p) (h2 : QV w v2 a) (hp : PB p n) (ha : Bd a m) (tp : Tr p) (l1 : p.length ≤ 17) (hk : 40 * (sfB n m 17 + m + n + 2) ≤ KK) :
    Calls Tryz.prog 78 #[v1, v2] w (RetPQ (pshf a p) w) := by
  obtain ⟨A, ca, rfl⟩ := h1.slc
  obtain ⟨sx, Zx, lx, cx, Yx, mx, dx, rfl, -, -, -⟩ := h2.ex
  obtain ⟨lp, hlp⟩ : ∃ k, p.length = k := ⟨_, rfl⟩
  have hsf : ∀ k, sfB n m (p.drop k).length ≤ sfB n m 17 := fun k => sfB_mono (by simp; omega)
  have HBd : Hid (∀ k, PB (pshf a (p.drop k)) (sfB n m 17)) := fun k q hq => (pshf_pb a (hp.drop k) ha q hq).mono (hsf k)
  have HLe : Hid (∀ k, (pshf a (p.drop k)).length ≤ 17) := fun k => by rw [pshf_len a (tr_drop tp k)]; simp; omega
  have HRa : Hid (∀ k W u, PQ W u (pshf a (p.drop (k + 1))) → Calls Tryz.prog 98 #[u, .int .i64 1] W (RetPQ (prs 1 (pshf a (p.drop (k + 1)))) W)) := fun k W u hu => q8Raise_v u _ 1 W hu (by have := HLe.out (k + 1); omega) (by omega)
  have HSc : Hid (∀ k W u v, PQ W u (pshf a (p.drop (k + 1))) → QV W v a → Calls Tryz.prog 96 #[u, v] W (RetPQ (ptrim (psc a (pshf a (p.drop (k + 1))))) W)) := fun k W u v hu hv => q8Scale_v u v _ a (sfB n m 17) m W hu hv (HBd.out (k + 1)) ha (by have := HLe.out (k + 1); omega) (by omega)
  have HSb : ∀ k, PB (ptrim (psc a (pshf a (p.drop (k + 1))))) (m + sfB n m 17) := fun k => PB.ptrim (PB.sc (HBd.out (k + 1)) ha)
  have HP1 : Hid (∀ k W u v, PQ W u (prs 1 (pshf a (p.drop (k + 1)))) → PQ W v (ptrim (psc a (pshf a (p.drop (k + 1))))) → Calls Tryz.prog 59 #[u, v] W (RetPQ (ptrim (padd (prs 1 (pshf a (p.drop (k + 1)))) (ptrim (psc a (pshf a (p.drop (k + 1))))))) W)) := fun k W u v hu hv =>
    q8Plus_v u v _ _ (sfB n m 17) (m + sfB n m 17) W hu hv ((HBd.out (k + 1)).prs 1) (HSb k) (by rw [prs_len]; have := HLe.out (k + 1); split <;> omega) (by have := ptrim_len (psc a (pshf a (p.drop (k + 1)))); have h2 := HLe.out (k + 1); simp only [psc, List.length_map] at this ⊢; omega) (by omega)
  have HT : Hid (∀ k W v, PQ W v [cf p k] → Calls Tryz.prog 50 #[v] W (RetPQ (ptrim [cf p k]) W)) := fun k W v hv => q8trim_any v _ W hv (by simp)
  have HP2 : Hid (∀ k W u v, k < lp → PQ W u (ptrim (padd (prs 1 (pshf a (p.drop (k + 1)))) (ptrim (psc a (pshf a (p.drop (k + 1))))))) → PQ W v (ptrim [cf p k]) → Calls Tryz.prog 59 #[u, v] W (RetPQ (pshf a (p.drop k)) W)) := fun k W u v hkl hu hv => by
    rw [pshf_step a p (by rw [hlp]; exact hkl), ← shr_ref]
    refine q8Plus_v u v _ _ (sfB n m 17 + (m + sfB n m 17) + 1) n W hu hv (PB.ptrim (PB.add ((HBd.out (k + 1)).prs 1) (HSb k))) (PB.ptrim fun q hq => by rw [List.mem_singleton.1 hq]; exact hp.cf k) ?_ (Nat.le_trans (ptrim_len _) (by simp)) (by omega)
    have h1 := ptrim_len (padd (prs 1 (pshf a (p.drop (k + 1)))) (ptrim (psc a (pshf a (p.drop (k + 1))))))
    have h2 := HLe.out (k + 1)
    have h3 := ptrim_len (psc a (pshf a (p.drop (k + 1))))
    have h4 := prs_len 1 (pshf a (p.drop (k + 1)))
    rw [padd_len] at h1
    simp only [psc, List.length_map] at h1 h3 ⊢
    split at h4 <;> omega
  have HF0 : Hid (pshf a (p.drop lp) = []) := by unfold Hid; rw [← hlp, List.drop_length]; rfl
  have HLN := Lib.hid hlp
  rw [hlp] at h1 l1 ⊢
  have hE0 := (Ext.rfl' w).al (.cells #[.bool sx, .slice Zx lx cx, .slice Yx mx dx] 86)
  have HR := Lib.hid (h1.ext hE0).rd.2.2.2
  have HX0 := Lib.hid (h2.ext hE0)
  have HB0 := Lib.hid (Bx.new w #[.bool sx, .slice Zx lx cx, .slice Yx mx dx] 86)
  have HE0 := Lib.hid hE0
  clear h1 h2 hp ha tp hlp hk hE0 hsf HSb HBd HLe
  go_enter Tryz.func78, Tryz.ntmps78
  go_wp2_with fail
  generalize w.alloc (.cells #[.bool sx, .slice Zx lx cx, .slice Yx mx dx] 86) = W0 at *
  have X0 : Hid (W0.cell? ⟨w.heap.size, 0, none⟩ = some (.bool sx)) := HB0.out.c 0
  have X1 : Hid (W0.cell? ⟨w.heap.size, 1, none⟩ = some (.slice Zx lx cx)) := HB0.out.c 1
  have X2 : Hid (W0.cell? ⟨w.heap.size, 2, none⟩ = some (.slice Yx mx dx)) := HB0.out.c 2
  clear HB0
  go_loopw [5, 6] (fun vo vi wr => ∃ (k : Nat), k ≤ lp ∧ vi = .int .i64 ((k : Int) - 1) ∧ Hid (PQ wr vo (pshf a (p.drop k))) ∧ Hid (Ext W0 wr)) (fun _ vi _ => (intOf vi + 1).toNat)
  case atStart => exact ⟨lp, Nat.le_refl _, rfl, by rw [HF0.out]; exact PQ.nil _, Ext.rfl' W0⟩
  case round =>
    obtain ⟨k, hk, rfl, HO, HE⟩ := hrel
    cases k with
    | zero =>
      have ee : ((0 : Nat) : Int) - 1 = -1 := by omega
      rw [ee]
      have HV : Hid (PQ wr u5 (pshf a p)) := HO
      have HEx := Lib.hid (HE0.out.tr HE.out)
      clear ee HRa HSc HP1 HT HP2 HR X0 X1 X2 HX0
      go_wp2_with fail
      go_ret
      exact ⟨_, rfl, HV.out, HEx.out⟩
    | succ k =>
      have ee : ((k + 1 : Nat) : Int) - 1 = (k : Int) := by omega
      rw [ee]
      have hkp : k < lp := by omega
      obtain ⟨bb, off, x, y, z, rfl, hbb, c0, c1, c2, hq⟩ := HR.out k (by rw [HLN.out]; omega)
      obtain ⟨s1, A1, la, ca, B1, lb, cb, hv, -, -, -⟩ := hq.ex
      simp only [Value.agg.injEq, Array.mk.injEq, List.cons.injEq, and_true] at hv
      obtain ⟨rfl, rfl, rfl⟩ := hv
      replace c0 := HE.out.cell c0
      replace c1 := HE.out.cell c1
      replace c2 := HE.out.cell c2
      have o0 : off + 3 * k + 1 = off + (3 * k + 1) := by omega
      have o1 : off + 3 * k + 2 = off + (3 * k + 2) := by omega
      have o2 : off + k * 3 = off + 3 * k := by omega
      have x0 := HE.out.cell X0.out
      have x1 := HE.out.cell X1.out
      have x2 := HE.out.cell X2.out
      have HVc := Lib.hid (hq.ext HE.out)
      have HVx := Lib.hid (HX0.out.ext HE.out)
      have c0d : wr.drew.cell? ⟨bb, off + 3 * k, none⟩ = some (.bool s1) := c0
      have c1d : wr.drew.cell? ⟨bb, off + (3 * k + 1), none⟩ = some (.slice A1 la ca) := c1
      have c2d : wr.drew.cell? ⟨bb, off + (3 * k + 2), none⟩ = some (.slice B1 lb cb) := c2
      have x0d : wr.drew.cell? ⟨w.heap.size, 0, none⟩ = some (.bool sx) := x0
      have x1d : wr.drew.cell? ⟨w.heap.size, 1, none⟩ = some (.slice Zx lx cx) := x1
      have x2d : wr.drew.cell? ⟨w.heap.size, 2, none⟩ = some (.slice Yx mx dx) := x2
      have hlz : (0 : Int) ≤ (k : Int) := by omega
      have hlz2 : (k : Int) < (lp : Int) := by omega
      have HRa1 : Hid (∀ W, Ext wr W → Calls Tryz.prog 98 #[u5, .int .i64 1] W (RetPQ (prs 1 (pshf a (p.drop (k + 1)))) W)) := fun W hE => HRa.out k W u5 (HO.out.ext hE)
      have HSc1 : Hid (∀ W, Ext wr W → Calls Tryz.prog 96 #[u5, .agg #[.bool sx, .slice Zx lx cx, .slice Yx mx dx]] W (RetPQ (ptrim (psc a (pshf a (p.drop (k + 1))))) W)) := fun W hE => HSc.out k W u5 _ (HO.out.ext hE) (HVx.out.ext hE)
      have HP11 := Lib.hid (HP1.out k)
      have HT1 := Lib.hid (HT.out k)
      have HP21 := Lib.hid (fun W u v hu hv => HP2.out k W u v hkp hu hv)
      clear hq hbb ee HRa HSc HP1 HT HP2 HF0 HR HX0 X0 X1 X2 HVx HO
      generalize prs 1 (pshf a (p.drop (k + 1))) = G1 at *
      generalize (ptrim (padd (prs 1 (pshf a (p.drop (k + 1)))) (ptrim (psc a (pshf a (p.drop (k + 1))))))) = G2 at *
      generalize ptrim (psc a (pshf a (p.drop (k + 1)))) = G3 at *
      generalize ptrim [cf p k] = G4 at *
      generalize cf p k = C at *
      go_wp2_with fail
      refine wp_region_held_drew (S := (fun w' => w'.cell? ⟨bb, off + 3 * k, none⟩ = some (.bool s1) ∧ w'.cell? ⟨bb, off + (3 * k + 1), none⟩ = some (.slice A1 la ca) ∧ w'.cell? ⟨bb, off + (3 * k + 2), none⟩ = some (.slice B1 lb cb) ∧ w'.cell? ⟨w.heap.size, 0, none⟩ = some (.bool sx) ∧ w'.cell? ⟨w.heap.size, 1, none⟩ = some (.slice Zx lx cx) ∧ w'.cell? ⟨w.heap.size, 2, none⟩ = some (.slice Yx mx dx))) (by kernel_rfl) (by exact ⟨c0d, c1d, c2d, x0d, x1d, x2d⟩) (fun hHeld => ?_)
      refine wpAnyH_take (i := 0) (oi := { dst := some 14, op := Go.Op.move (Go.Operand.tmp 5), type := 58, pos := "ref.go:171", after := #[], guard := none }) (v := ?_) rfl (by kernel_rfl) (by kernel_rfl) (by kernel_rfl) (fun _ _ _ h => h) (Or.inl ⟨by rfl, ?_⟩) hHeld ?_
      rotate_left
      · intro w' hSw; (try dsimp only at hSw); go_simp; (try with_reducible rfl)
      try simp only [Act.put, List.setIfInBounds_toArray, List.set_cons_zero, List.set_cons_succ]
      refine wpAnyH_take (i := 2) (oi := { dst := some 16, op := Go.Op.move (Go.Operand.tmp 5), type := 58, pos := "ref.go:171", after := #[], guard := none }) (v := ?_) rfl (by kernel_rfl) (by kernel_rfl) (by kernel_rfl) (fun _ _ _ h => h) (Or.inl ⟨by rfl, ?_⟩) hHeld ?_
      rotate_left
      · intro w' hSw; (try dsimp only at hSw); go_simp; (try with_reducible rfl)
      try simp only [Act.put, List.setIfInBounds_toArray, List.set_cons_zero, List.set_cons_succ]
      refine wpAnyH_take (i := 3) (oi := { dst := some 17, op := Go.Op.load 86 (Go.Operand.tmp 3), type := 86, pos := "ref.go:171", after := #[], guard := none }) (v := ?_) rfl (by kernel_rfl) (by kernel_rfl) (by kernel_rfl) (fun _ _ _ h => h) (Or.inl ⟨by rfl, ?_⟩) hHeld ?_
      rotate_left
      · intro w' hSw; (try dsimp only at hSw); go_simp; (try with_reducible rfl)
      try simp only [Act.put, List.setIfInBounds_toArray, List.set_cons_zero, List.set_cons_succ]
      refine wpAnyH_take (i := 6) (oi := { dst := some 20, op := Go.Op.move (Go.Operand.tmp 0), type := 58, pos := "ref.go:171", after := #[], guard := none }) (v := ?_) rfl (by kernel_rfl) (by kernel_rfl) (by kernel_rfl) (fun _ _ _ h => h) (Or.inl ⟨by rfl, ?_⟩) hHeld ?_
      rotate_left
      · intro w' hSw; (try dsimp only at hSw); go_simp; (try with_reducible rfl)
      try simp only [Act.put, List.setIfInBounds_toArray, List.set_cons_zero, List.set_cons_succ]
      refine wpAnyH_take (i := 7) (oi := { dst := some 21, op := Go.Op.move (Go.Operand.tmp 6), type := 3, pos := "ref.go:171", after := #[], guard := none }) (v := ?_) rfl (by kernel_rfl) (by kernel_rfl) (by kernel_rfl) (fun _ _ _ h => h) (Or.inl ⟨by rfl, ?_⟩) hHeld ?_
      rotate_left
      · intro w' hSw; (try dsimp only at hSw); go_simp; (try with_reducible rfl)
      try simp only [Act.put, List.setIfInBounds_toArray, List.set_cons_zero, List.set_cons_succ]
      refine wpAnyH_take (i := 8) (oi := { dst := some 22, op := Go.Op.indexAddr 58 (Go.Operand.tmp 20) (Go.Operand.tmp 21), type := 0, pos := "ref.go:171", after := #[{ on := 6, ground := Go.Ground.data }, { on := 7, ground := Go.Ground.data }], guard := none }) (v := ?_) rfl (by kernel_rfl) (by kernel_rfl) (by kernel_rfl) (fun _ _ _ h => h) (Or.inl ⟨by rfl, ?_⟩) hHeld ?_
      rotate_left
      · intro w' hSw; (try dsimp only at hSw); go_simp; (try with_reducible rfl)
      try simp only [Act.put, List.setIfInBounds_toArray, List.set_cons_zero, List.set_cons_succ]
      refine wpAnyH_take (i := 9) (oi := { dst := some 23, op := Go.Op.load 86 (Go.Operand.tmp 22), type := 86, pos := "ref.go:171", after := #[{ on := 8, ground := Go.Ground.data }], guard := none }) (v := ?_) rfl (by kernel_rfl) (by kernel_rfl) (by kernel_rfl) (fun _ _ _ h => h) (Or.inl ⟨by rfl, ?_⟩) hHeld ?_
      rotate_left
      · intro w' hSw; (try dsimp only at hSw); go_simp; (try with_reducible rfl)
      try simp only [Act.put, List.setIfInBounds_toArray, List.set_cons_zero, List.set_cons_succ]
      refine wpAnyH_ready (rs := [1, 10]) (by kernel_rfl) (by simp) ?_
      refine (AllReadyH.cons (o := { dst := some 15, op := Go.Op.call { callee := Go.Callee.value (Go.Operand.func 98), args := #[Go.Operand.tmp 14, Go.Operand.const (Go.Value.int Go.IntKind.i64 1)], argTypes := #[58, 3] }, type := 58, pos := "ref.go:171", after := #[{ on := 0, ground := Go.Ground.data }], guard := none }) rfl (fun K hK => ?_) (AllReadyH.cons (o := { dst := some 24, op := Go.Op.buildSlice 58 1 #[(0, Go.Operand.tmp 23)], type := 58, pos := "ref.go:171", after := #[{ on := 9, ground := Go.Ground.data }], guard := none }) rfl (fun K hK => ?_) AllReadyH.nil))
      · skip
        go_simp
        (go_at_call 98; (with_reducible refine (HRa1.out _ ((Ext.rfl' wr).dr)).mono ?_); rintro e wf ⟨vf, rfl, hv, hE⟩; have HWf := Lib.hid ((((Ext.rfl' wr).dr)).tr hE); have HVf := Lib.hid hv; clear hE hv)
        refine hK.out _ _ (by exact ⟨HWf.out.cell c0, HWf.out.cell c1, HWf.out.cell c2, HWf.out.cell x0, HWf.out.cell x1, HWf.out.cell x2⟩) (fun hHeld2 => ?_)
        clear hK K hHeld
        have hHeld := hHeld2
        clear hHeld2
        try simp only [Act.put, List.setIfInBounds_toArray, List.set_cons_zero, List.set_cons_succ]
        refine wpAnyH_ready (rs := [4, 10]) (by kernel_rfl) (by simp) ?_
        refine (AllReadyH.cons (o := { dst := some 18, op := Go.Op.call { callee := Go.Callee.value (Go.Operand.func 96), args := #[Go.Operand.tmp 16, Go.Operand.tmp 17], argTypes := #[58, 86] }, type := 58, pos := "ref.go:171", after := #[{ on := 2, ground := Go.Ground.data }, { on := 3, ground := Go.Ground.data }, { on := 1, ground := Go.Ground.chain }], guard := none }) rfl (fun K hK => ?_) (AllReadyH.cons (o := { dst := some 24, op := Go.Op.buildSlice 58 1 #[(0, Go.Operand.tmp 23)], type := 58, pos := "ref.go:171", after := #[{ on := 9, ground := Go.Ground.data }], guard := none }) rfl (fun K hK => ?_) AllReadyH.nil))
        · skip
          go_simp
          (go_at_call 96; (with_reducible refine (HSc1.out _ HWf.out).mono ?_); rintro e ws ⟨vs, rfl, hv, hE⟩; replace HVf := PQ.hext HVf hE; have HWs := Lib.hid ((HWf.out).tr hE); have HVs := Lib.hid hv; clear hE hv)
          refine hK.out _ _ (by exact ⟨HWs.out.cell c0, HWs.out.cell c1, HWs.out.cell c2, HWs.out.cell x0, HWs.out.cell x1, HWs.out.cell x2⟩) (fun hHeld2 => ?_)
          clear hK K hHeld
          have hHeld := hHeld2
          clear hHeld2
          try simp only [Act.put, List.setIfInBounds_toArray, List.set_cons_zero, List.set_cons_succ]
          refine wpAnyH_ready (rs := [5, 10]) (by kernel_rfl) (by simp) ?_
          refine (AllReadyH.cons (o := { dst := some 19, op := Go.Op.call { callee := Go.Callee.value (Go.Operand.func 59), args := #[Go.Operand.tmp 15, Go.Operand.tmp 18], argTypes := #[58, 58] }, type := 58, pos := "ref.go:171", after := #[{ on := 1, ground := Go.Ground.data }, { on := 4, ground := Go.Ground.data }, { on := 4, ground := Go.Ground.chain }], guard := none }) rfl (fun K hK => ?_) (AllReadyH.cons (o := { dst := some 24, op := Go.Op.buildSlice 58 1 #[(0, Go.Operand.tmp 23)], type := 58, pos := "ref.go:171", after := #[{ on := 9, ground := Go.Ground.data }], guard := none }) rfl (fun K hK => ?_) AllReadyH.nil))
          · skip
            go_simp
            (go_at_call 59; (with_reducible refine (HP11.out _ _ _ HVf.out HVs.out).mono ?_); rintro e wp ⟨vp, rfl, hv, hE⟩; replace HVf := PQ.hext HVf hE; replace HVs := PQ.hext HVs hE; have HWp := Lib.hid ((HWs.out).tr hE); have HVp := Lib.hid hv; clear hE hv)
            refine hK.out _ _ (by exact ⟨HWp.out.cell c0, HWp.out.cell c1, HWp.out.cell c2, HWp.out.cell x0, HWp.out.cell x1, HWp.out.cell x2⟩) (fun hHeld2 => ?_)
            clear hK K hHeld
            have hHeld := hHeld2
            clear hHeld2
            try simp only [Act.put, List.setIfInBounds_toArray, List.set_cons_zero, List.set_cons_succ]
            refine wpAnyH_ready (rs := [10]) (by kernel_rfl) (by simp) ?_
            refine (AllReadyH.cons (o := { dst := some 24, op := Go.Op.buildSlice 58 1 #[(0, Go.Operand.tmp 23)], type := 58, pos := "ref.go:171", after := #[{ on := 9, ground := Go.Ground.data }], guard := none }) rfl (fun K hK => ?_) AllReadyH.nil)
            go_simp
            have HB := Lib.hid (OwnQ.one (base := 0) (t := (.bool s1, .slice A1 la ca, .slice B1 lb cb)) (Nat.zero_le _) (QV.ext HVc.out HWp.out)).pq
            refine hK.out _ _ (by exact ⟨(HWp.out.al _).cell c0, (HWp.out.al _).cell c1, (HWp.out.al _).cell c2, (HWp.out.al _).cell x0, (HWp.out.al _).cell x1, (HWp.out.al _).cell x2⟩) (fun hHeld2 => ?_)
            clear hK K hHeld
            have hHeld := hHeld2
            clear hHeld2
            try simp only [Act.put, List.setIfInBounds_toArray, List.set_cons_zero, List.set_cons_succ]
            refine wpAnyH_ready (rs := [11]) (by kernel_rfl) (by simp) ?_
            refine (AllReadyH.cons (o := { dst := some 25, op := Go.Op.call { callee := Go.Callee.value (Go.Operand.func 50), args := #[Go.Operand.tmp 24], argTypes := #[58] }, type := 58, pos := "ref.go:171", after := #[{ on := 10, ground := Go.Ground.data }, { on := 5, ground := Go.Ground.chain }], guard := none }) rfl (fun K hK => ?_) AllReadyH.nil)
            go_simp
            (go_at_call 50; (with_reducible refine (HT1.out _ _ HB.out).mono ?_); rintro e wt ⟨vt, rfl, hv, hE⟩; replace HVf := PQ.hext HVf (((Ext.rfl' _).al _).tr hE); replace HVs := PQ.hext HVs (((Ext.rfl' _).al _).tr hE); replace HVp := PQ.hext HVp (((Ext.rfl' _).al _).tr hE); replace HB := PQ.hext HB hE; have HWt := Lib.hid (((HWp.out.al _)).tr hE); have HVt := Lib.hid hv; clear hE hv)
            refine hK.out _ _ (by exact ⟨HWt.out.cell c0, HWt.out.cell c1, HWt.out.cell c2, HWt.out.cell x0, HWt.out.cell x1, HWt.out.cell x2⟩) (fun hHeld2 => ?_)
            clear hK K hHeld
            have hHeld := hHeld2
            clear hHeld2
            try simp only [Act.put, List.setIfInBounds_toArray, List.set_cons_zero, List.set_cons_succ]
            refine wpAnyH_ready (rs := [12]) (by kernel_rfl) (by simp) ?_
            refine (AllReadyH.cons (o := { dst := some 26, op := Go.Op.call { callee := Go.Callee.value (Go.Operand.func 59), args := #[Go.Operand.tmp 19, Go.Operand.tmp 25], argTypes := #[58, 58] }, type := 58, pos := "ref.go:171", after := #[{ on := 5, ground := Go.Ground.data }, { on := 11, ground := Go.Ground.data }, { on := 11, ground := Go.Ground.chain }], guard := none }) rfl (fun K hK => ?_) AllReadyH.nil)
            go_simp
            (go_at_call 59; (with_reducible refine (HP21.out _ _ _ HVp.out HVt.out).mono ?_); rintro e wn ⟨vn, rfl, hv, hE⟩; replace HVf := PQ.hext HVf hE; replace HVs := PQ.hext HVs hE; replace HVp := PQ.hext HVp hE; replace HVt := PQ.hext HVt hE; replace HB := PQ.hext HB hE; have HWn := Lib.hid ((HWt.out).tr hE); have HVn := Lib.hid hv; clear hE hv)
            refine hK.out _ _ (by exact ⟨HWn.out.cell c0, HWn.out.cell c1, HWn.out.cell c2, HWn.out.cell x0, HWn.out.cell x1, HWn.out.cell x2⟩) (fun hHeld2 => ?_)
            clear hK K hHeld
            have hHeld := hHeld2
            clear hHeld2
            try simp only [Act.put, List.setIfInBounds_toArray, List.set_cons_zero, List.set_cons_succ]
            refine wpAnyH_take (i := 13) (oi := { dst := some 5, op := Go.Op.assign (Go.Operand.tmp 26), type := 58, pos := "ref.go:171", after := #[{ on := 12, ground := Go.Ground.data }, { on := 12, ground := Go.Ground.chain }, { on := 0, ground := Go.Ground.phase }, { on := 1, ground := Go.Ground.phase }, { on := 2, ground := Go.Ground.phase }, { on := 3, ground := Go.Ground.phase }, { on := 4, ground := Go.Ground.phase }, { on := 5, ground := Go.Ground.phase }, { on := 6, ground := Go.Ground.phase }, { on := 7, ground := Go.Ground.phase }, { on := 8, ground := Go.Ground.phase }, { on := 9, ground := Go.Ground.phase }, { on := 10, ground := Go.Ground.phase }, { on := 11, ground := Go.Ground.phase }, { on := 12, ground := Go.Ground.phase }], guard := none }) (v := ?_) rfl (by kernel_rfl) (by kernel_rfl) (by kernel_rfl) (fun _ _ _ h => h) (Or.inl ⟨by rfl, ?_⟩) hHeld ?_
            rotate_left
            · intro w' hSw; (try dsimp only at hSw); go_simp; (try with_reducible rfl)
            try simp only [Act.put, List.setIfInBounds_toArray, List.set_cons_zero, List.set_cons_succ]
            refine wpAnyH_done (by kernel_rfl) ?_ _
            clear hHeld
            have HEn := Lib.hid (HE.out.tr HWn.out)
            clear HVf HVs HVp HVt HB HRa1 HSc1 HP11 HT1 HP21 HVc HWf HWs HWp HWt HWn
            go_wp2
            go_roundw
            case rel => exact ⟨k, by omega, by go_num, HVn, HEn⟩
            case measure => simp [intOf]
          · skip
            go_simp
            have HB := Lib.hid (OwnQ.one (base := 0) (t := (.bool s1, .slice A1 la ca, .slice B1 lb cb)) (Nat.zero_le _) (QV.ext HVc.out HWs.out)).pq
            refine hK.out _ _ (by exact ⟨(HWs.out.al _).cell c0, (HWs.out.al _).cell c1, (HWs.out.al _).cell c2, (HWs.out.al _).cell x0, (HWs.out.al _).cell x1, (HWs.out.al _).cell x2⟩) (fun hHeld2 => ?_)
            clear hK K hHeld
            have hHeld := hHeld2
            clear hHeld2
            try simp only [Act.put, List.setIfInBounds_toArray, List.set_cons_zero, List.set_cons_succ]
            refine wpAnyH_ready (rs := [5]) (by kernel_rfl) (by simp) ?_
            refine (AllReadyH.cons (o := { dst := some 19, op := Go.Op.call { callee := Go.Callee.value (Go.Operand.func 59), args := #[Go.Operand.tmp 15, Go.Operand.tmp 18], argTypes := #[58, 58] }, type := 58, pos := "ref.go:171", after := #[{ on := 1, ground := Go.Ground.data }, { on := 4, ground := Go.Ground.data }, { on := 4, ground := Go.Ground.chain }], guard := none }) rfl (fun K hK => ?_) AllReadyH.nil)
            go_simp
            (go_at_call 59; (with_reducible refine (HP11.out _ _ _ (PQ.ext HVf.out ((Ext.rfl' _).al _)) (PQ.ext HVs.out ((Ext.rfl' _).al _))).mono ?_); rintro e wp ⟨vp, rfl, hv, hE⟩; replace HVf := PQ.hext HVf (((Ext.rfl' _).al _).tr hE); replace HVs := PQ.hext HVs (((Ext.rfl' _).al _).tr hE); replace HB := PQ.hext HB hE; have HWp := Lib.hid (((HWs.out.al _)).tr hE); have HVp := Lib.hid hv; clear hE hv)
            refine hK.out _ _ (by exact ⟨HWp.out.cell c0, HWp.out.cell c1, HWp.out.cell c2, HWp.out.cell x0, HWp.out.cell x1, HWp.out.cell x2⟩) (fun hHeld2 => ?_)
            clear hK K hHeld
            have hHeld := hHeld2
            clear hHeld2
            try simp only [Act.put, List.setIfInBounds_toArray, List.set_cons_zero, List.set_cons_succ]
            refine wpAnyH_ready (rs := [11]) (by kernel_rfl) (by simp) ?_
            refine (AllReadyH.cons (o := { dst := some 25, op := Go.Op.call { callee := Go.Callee.value (Go.Operand.func 50), args := #[Go.Operand.tmp 24], argTypes := #[58] }, type := 58, pos := "ref.go:171", after := #[{ on := 10, ground := Go.Ground.data }, { on := 5, ground := Go.Ground.chain }], guard := none }) rfl (fun K hK => ?_) AllReadyH.nil)
            go_simp
            (go_at_call 50; (with_reducible refine (HT1.out _ _ HB.out).mono ?_); rintro e wt ⟨vt, rfl, hv, hE⟩; replace HVf := PQ.hext HVf hE; replace HVs := PQ.hext HVs hE; replace HVp := PQ.hext HVp hE; replace HB := PQ.hext HB hE; have HWt := Lib.hid ((HWp.out).tr hE); have HVt := Lib.hid hv; clear hE hv)
            refine hK.out _ _ (by exact ⟨HWt.out.cell c0, HWt.out.cell c1, HWt.out.cell c2, HWt.out.cell x0, HWt.out.cell x1, HWt.out.cell x2⟩) (fun hHeld2 => ?_)
            clear hK K hHeld
            have hHeld := hHeld2
            clear hHeld2
            try simp only [Act.put, List.setIfInBounds_toArray, List.set_cons_zero, List.set_cons_succ]
            refine wpAnyH_ready (rs := [12]) (by kernel_rfl) (by simp) ?_
            refine (AllReadyH.cons (o := { dst := some 26, op := Go.Op.call { callee := Go.Callee.value (Go.Operand.func 59), args := #[Go.Operand.tmp 19, Go.Operand.tmp 25], argTypes := #[58, 58] }, type := 58, pos := "ref.go:171", after := #[{ on := 5, ground := Go.Ground.data }, { on := 11, ground := Go.Ground.data }, { on := 11, ground := Go.Ground.chain }], guard := none }) rfl (fun K hK => ?_) AllReadyH.nil)
            go_simp
            (go_at_call 59; (with_reducible refine (HP21.out _ _ _ HVp.out HVt.out).mono ?_); rintro e wn ⟨vn, rfl, hv, hE⟩; replace HVf := PQ.hext HVf hE; replace HVs := PQ.hext HVs hE; replace HVp := PQ.hext HVp hE; replace HVt := PQ.hext HVt hE; replace HB := PQ.hext HB hE; have HWn := Lib.hid ((HWt.out).tr hE); have HVn := Lib.hid hv; clear hE hv)
            refine hK.out _ _ (by exact ⟨HWn.out.cell c0, HWn.out.cell c1, HWn.out.cell c2, HWn.out.cell x0, HWn.out.cell x1, HWn.out.cell x2⟩) (fun hHeld2 => ?_)
            clear hK K hHeld
            have hHeld := hHeld2
            clear hHeld2
            try simp only [Act.put, List.setIfInBounds_toArray, List.set_cons_zero, List.set_cons_succ]
            refine wpAnyH_take (i := 13) (oi := { dst := some 5, op := Go.Op.assign (Go.Operand.tmp 26), type := 58, pos := "ref.go:171", after := #[{ on := 12, ground := Go.Ground.data }, { on := 12, ground := Go.Ground.chain }, { on := 0, ground := Go.Ground.phase }, { on := 1, ground := Go.Ground.phase }, { on := 2, ground := Go.Ground.phase }, { on := 3, ground := Go.Ground.phase }, { on := 4, ground := Go.Ground.phase }, { on := 5, ground := Go.Ground.phase }, { on := 6, ground := Go.Ground.phase }, { on := 7, ground := Go.Ground.phase }, { on := 8, ground := Go.Ground.phase }, { on := 9, ground := Go.Ground.phase }, { on := 10, ground := Go.Ground.phase }, { on := 11, ground := Go.Ground.phase }, { on := 12, ground := Go.Ground.phase }], guard := none }) (v := ?_) rfl (by kernel_rfl) (by kernel_rfl) (by kernel_rfl) (fun _ _ _ h => h) (Or.inl ⟨by rfl, ?_⟩) hHeld ?_
            rotate_left
            · intro w' hSw; (try dsimp only at hSw); go_simp; (try with_reducible rfl)
            try simp only [Act.put, List.setIfInBounds_toArray, List.set_cons_zero, List.set_cons_succ]
            refine wpAnyH_done (by kernel_rfl) ?_ _
            clear hHeld
            have HEn := Lib.hid (HE.out.tr HWn.out)
            clear HVf HVs HVp HVt HB HRa1 HSc1 HP11 HT1 HP21 HVc HWf HWs HWp HWt HWn
            go_wp2
            go_roundw
            case rel => exact ⟨k, by omega, by go_num, HVn, HEn⟩
            case measure => simp [intOf]
        · skip
          go_simp
          have HB := Lib.hid (OwnQ.one (base := 0) (t := (.bool s1, .slice A1 la ca, .slice B1 lb cb)) (Nat.zero_le _) (QV.ext HVc.out HWf.out)).pq
          refine hK.out _ _ (by exact ⟨(HWf.out.al _).cell c0, (HWf.out.al _).cell c1, (HWf.out.al _).cell c2, (HWf.out.al _).cell x0, (HWf.out.al _).cell x1, (HWf.out.al _).cell x2⟩) (fun hHeld2 => ?_)
          clear hK K hHeld
          have hHeld := hHeld2
          clear hHeld2
          try simp only [Act.put, List.setIfInBounds_toArray, List.set_cons_zero, List.set_cons_succ]
          refine wpAnyH_ready (rs := [4]) (by kernel_rfl) (by simp) ?_
          refine (AllReadyH.cons (o := { dst := some 18, op := Go.Op.call { callee := Go.Callee.value (Go.Operand.func 96), args := #[Go.Operand.tmp 16, Go.Operand.tmp 17], argTypes := #[58, 86] }, type := 58, pos := "ref.go:171", after := #[{ on := 2, ground := Go.Ground.data }, { on := 3, ground := Go.Ground.data }, { on := 1, ground := Go.Ground.chain }], guard := none }) rfl (fun K hK => ?_) AllReadyH.nil)
          go_simp
          (go_at_call 96; (with_reducible refine (HSc1.out _ (HWf.out.al _)).mono ?_); rintro e ws ⟨vs, rfl, hv, hE⟩; replace HVf := PQ.hext HVf (((Ext.rfl' _).al _).tr hE); replace HB := PQ.hext HB hE; have HWs := Lib.hid (((HWf.out.al _)).tr hE); have HVs := Lib.hid hv; clear hE hv)
          refine hK.out _ _ (by exact ⟨HWs.out.cell c0, HWs.out.cell c1, HWs.out.cell c2, HWs.out.cell x0, HWs.out.cell x1, HWs.out.cell x2⟩) (fun hHeld2 => ?_)
          clear hK K hHeld
          have hHeld := hHeld2
          clear hHeld2
          try simp only [Act.put, List.setIfInBounds_toArray, List.set_cons_zero, List.set_cons_succ]
          refine wpAnyH_ready (rs := [5]) (by kernel_rfl) (by simp) ?_
          refine (AllReadyH.cons (o := { dst := some 19, op := Go.Op.call { callee := Go.Callee.value (Go.Operand.func 59), args := #[Go.Operand.tmp 15, Go.Operand.tmp 18], argTypes := #[58, 58] }, type := 58, pos := "ref.go:171", after := #[{ on := 1, ground := Go.Ground.data }, { on := 4, ground := Go.Ground.data }, { on := 4, ground := Go.Ground.chain }], guard := none }) rfl (fun K hK => ?_) AllReadyH.nil)
          go_simp
          (go_at_call 59; (with_reducible refine (HP11.out _ _ _ HVf.out HVs.out).mono ?_); rintro e wp ⟨vp, rfl, hv, hE⟩; replace HVf := PQ.hext HVf hE; replace HVs := PQ.hext HVs hE; replace HB := PQ.hext HB hE; have HWp := Lib.hid ((HWs.out).tr hE); have HVp := Lib.hid hv; clear hE hv)
          refine hK.out _ _ (by exact ⟨HWp.out.cell c0, HWp.out.cell c1, HWp.out.cell c2, HWp.out.cell x0, HWp.out.cell x1, HWp.out.cell x2⟩) (fun hHeld2 => ?_)
          clear hK K hHeld
          have hHeld := hHeld2
          clear hHeld2
          try simp only [Act.put, List.setIfInBounds_toArray, List.set_cons_zero, List.set_cons_succ]
          refine wpAnyH_ready (rs := [11]) (by kernel_rfl) (by simp) ?_
          refine (AllReadyH.cons (o := { dst := some 25, op := Go.Op.call { callee := Go.Callee.value (Go.Operand.func 50), args := #[Go.Operand.tmp 24], argTypes := #[58] }, type := 58, pos := "ref.go:171", after := #[{ on := 10, ground := Go.Ground.data }, { on := 5, ground := Go.Ground.chain }], guard := none }) rfl (fun K hK => ?_) AllReadyH.nil)
          go_simp
          (go_at_call 50; (with_reducible refine (HT1.out _ _ HB.out).mono ?_); rintro e wt ⟨vt, rfl, hv, hE⟩; replace HVf := PQ.hext HVf hE; replace HVs := PQ.hext HVs hE; replace HVp := PQ.hext HVp hE; replace HB := PQ.hext HB hE; have HWt := Lib.hid ((HWp.out).tr hE); have HVt := Lib.hid hv; clear hE hv)
          refine hK.out _ _ (by exact ⟨HWt.out.cell c0, HWt.out.cell c1, HWt.out.cell c2, HWt.out.cell x0, HWt.out.cell x1, HWt.out.cell x2⟩) (fun hHeld2 => ?_)
          clear hK K hHeld
          have hHeld := hHeld2
          clear hHeld2
          try simp only [Act.put, List.setIfInBounds_toArray, List.set_cons_zero, List.set_cons_succ]
          refine wpAnyH_ready (rs := [12]) (by kernel_rfl) (by simp) ?_
          refine (AllReadyH.cons (o := { dst := some 26, op := Go.Op.call { callee := Go.Callee.value (Go.Operand.func 59), args := #[Go.Operand.tmp 19, Go.Operand.tmp 25], argTypes := #[58, 58] }, type := 58, pos := "ref.go:171", after := #[{ on := 5, ground := Go.Ground.data }, { on := 11, ground := Go.Ground.data }, { on := 11, ground := Go.Ground.chain }], guard := none }) rfl (fun K hK => ?_) AllReadyH.nil)
          go_simp
          (go_at_call 59; (with_reducible refine (HP21.out _ _ _ HVp.out HVt.out).mono ?_); rintro e wn ⟨vn, rfl, hv, hE⟩; replace HVf := PQ.hext HVf hE; replace HVs := PQ.hext HVs hE; replace HVp := PQ.hext HVp hE; replace HVt := PQ.hext HVt hE; replace HB := PQ.hext HB hE; have HWn := Lib.hid ((HWt.out).tr hE); have HVn := Lib.hid hv; clear hE hv)
          refine hK.out _ _ (by exact ⟨HWn.out.cell c0, HWn.out.cell c1, HWn.out.cell c2, HWn.out.cell x0, HWn.out.cell x1, HWn.out.cell x2⟩) (fun hHeld2 => ?_)
          clear hK K hHeld
          have hHeld := hHeld2
          clear hHeld2
          try simp only [Act.put, List.setIfInBounds_toArray, List.set_cons_zero, List.set_cons_succ]
          refine wpAnyH_take (i := 13) (oi := { dst := some 5, op := Go.Op.assign (Go.Operand.tmp 26), type := 58, pos := "ref.go:171", after := #[{ on := 12, ground := Go.Ground.data }, { on := 12, ground := Go.Ground.chain }, { on := 0, ground := Go.Ground.phase }, { on := 1, ground := Go.Ground.phase }, { on := 2, ground := Go.Ground.phase }, { on := 3, ground := Go.Ground.phase }, { on := 4, ground := Go.Ground.phase }, { on := 5, ground := Go.Ground.phase }, { on := 6, ground := Go.Ground.phase }, { on := 7, ground := Go.Ground.phase }, { on := 8, ground := Go.Ground.phase }, { on := 9, ground := Go.Ground.phase }, { on := 10, ground := Go.Ground.phase }, { on := 11, ground := Go.Ground.phase }, { on := 12, ground := Go.Ground.phase }], guard := none }) (v := ?_) rfl (by kernel_rfl) (by kernel_rfl) (by kernel_rfl) (fun _ _ _ h => h) (Or.inl ⟨by rfl, ?_⟩) hHeld ?_
          rotate_left
          · intro w' hSw; (try dsimp only at hSw); go_simp; (try with_reducible rfl)
          try simp only [Act.put, List.setIfInBounds_toArray, List.set_cons_zero, List.set_cons_succ]
          refine wpAnyH_done (by kernel_rfl) ?_ _
          clear hHeld
          have HEn := Lib.hid (HE.out.tr HWn.out)
          clear HVf HVs HVp HVt HB HRa1 HSc1 HP11 HT1 HP21 HVc HWf HWs HWp HWt HWn
          go_wp2
          go_roundw
          case rel => exact ⟨k, by omega, by go_num, HVn, HEn⟩
          case measure => simp [intOf]
      · skip
        go_simp
        have HB := Lib.hid (show PQ (World.drew (wr.alloc (.cells #[.bool s1, .slice A1 la ca, .slice B1 lb cb] 86))) _ _ from PQ.ext (OwnQ.one (base := 0) (t := (.bool s1, .slice A1 la ca, .slice B1 lb cb)) (Nat.zero_le _) HVc.out).pq ((Ext.rfl' _).dr))
        refine hK.out _ _ (by exact ⟨(((Ext.rfl' wr).al _).dr).cell c0, (((Ext.rfl' wr).al _).dr).cell c1, (((Ext.rfl' wr).al _).dr).cell c2, (((Ext.rfl' wr).al _).dr).cell x0, (((Ext.rfl' wr).al _).dr).cell x1, (((Ext.rfl' wr).al _).dr).cell x2⟩) (fun hHeld2 => ?_)
        clear hK K hHeld
        have hHeld := hHeld2
        clear hHeld2
        try simp only [Act.put, List.setIfInBounds_toArray, List.set_cons_zero, List.set_cons_succ]
        refine wpAnyH_ready (rs := [1]) (by kernel_rfl) (by simp) ?_
        refine (AllReadyH.cons (o := { dst := some 15, op := Go.Op.call { callee := Go.Callee.value (Go.Operand.func 98), args := #[Go.Operand.tmp 14, Go.Operand.const (Go.Value.int Go.IntKind.i64 1)], argTypes := #[58, 3] }, type := 58, pos := "ref.go:171", after := #[{ on := 0, ground := Go.Ground.data }], guard := none }) rfl (fun K hK => ?_) AllReadyH.nil)
        go_simp
        (go_at_call 98; (with_reducible refine (HRa1.out _ (((Ext.rfl' wr).al _).dr)).mono ?_); rintro e wf ⟨vf, rfl, hv, hE⟩; replace HB := PQ.hext HB hE; have HWf := Lib.hid (((((Ext.rfl' wr).al _).dr)).tr hE); have HVf := Lib.hid hv; clear hE hv)
        refine hK.out _ _ (by exact ⟨HWf.out.cell c0, HWf.out.cell c1, HWf.out.cell c2, HWf.out.cell x0, HWf.out.cell x1, HWf.out.cell x2⟩) (fun hHeld2 => ?_)
        clear hK K hHeld
        have hHeld := hHeld2
        clear hHeld2
        try simp only [Act.put, List.setIfInBounds_toArray, List.set_cons_zero, List.set_cons_succ]
        refine wpAnyH_ready (rs := [4]) (by kernel_rfl) (by simp) ?_
        refine (AllReadyH.cons (o := { dst := some 18, op := Go.Op.call { callee := Go.Callee.value (Go.Operand.func 96), args := #[Go.Operand.tmp 16, Go.Operand.tmp 17], argTypes := #[58, 86] }, type := 58, pos := "ref.go:171", after := #[{ on := 2, ground := Go.Ground.data }, { on := 3, ground := Go.Ground.data }, { on := 1, ground := Go.Ground.chain }], guard := none }) rfl (fun K hK => ?_) AllReadyH.nil)
        go_simp
        (go_at_call 96; (with_reducible refine (HSc1.out _ HWf.out).mono ?_); rintro e ws ⟨vs, rfl, hv, hE⟩; replace HVf := PQ.hext HVf hE; replace HB := PQ.hext HB hE; have HWs := Lib.hid ((HWf.out).tr hE); have HVs := Lib.hid hv; clear hE hv)
        refine hK.out _ _ (by exact ⟨HWs.out.cell c0, HWs.out.cell c1, HWs.out.cell c2, HWs.out.cell x0, HWs.out.cell x1, HWs.out.cell x2⟩) (fun hHeld2 => ?_)
        clear hK K hHeld
        have hHeld := hHeld2
        clear hHeld2
        try simp only [Act.put, List.setIfInBounds_toArray, List.set_cons_zero, List.set_cons_succ]
        refine wpAnyH_ready (rs := [5]) (by kernel_rfl) (by simp) ?_
        refine (AllReadyH.cons (o := { dst := some 19, op := Go.Op.call { callee := Go.Callee.value (Go.Operand.func 59), args := #[Go.Operand.tmp 15, Go.Operand.tmp 18], argTypes := #[58, 58] }, type := 58, pos := "ref.go:171", after := #[{ on := 1, ground := Go.Ground.data }, { on := 4, ground := Go.Ground.data }, { on := 4, ground := Go.Ground.chain }], guard := none }) rfl (fun K hK => ?_) AllReadyH.nil)
        go_simp
        (go_at_call 59; (with_reducible refine (HP11.out _ _ _ HVf.out HVs.out).mono ?_); rintro e wp ⟨vp, rfl, hv, hE⟩; replace HVf := PQ.hext HVf hE; replace HVs := PQ.hext HVs hE; replace HB := PQ.hext HB hE; have HWp := Lib.hid ((HWs.out).tr hE); have HVp := Lib.hid hv; clear hE hv)
        refine hK.out _ _ (by exact ⟨HWp.out.cell c0, HWp.out.cell c1, HWp.out.cell c2, HWp.out.cell x0, HWp.out.cell x1, HWp.out.cell x2⟩) (fun hHeld2 => ?_)
        clear hK K hHeld
        have hHeld := hHeld2
        clear hHeld2
        try simp only [Act.put, List.setIfInBounds_toArray, List.set_cons_zero, List.set_cons_succ]
        refine wpAnyH_ready (rs := [11]) (by kernel_rfl) (by simp) ?_
        refine (AllReadyH.cons (o := { dst := some 25, op := Go.Op.call { callee := Go.Callee.value (Go.Operand.func 50), args := #[Go.Operand.tmp 24], argTypes := #[58] }, type := 58, pos := "ref.go:171", after := #[{ on := 10, ground := Go.Ground.data }, { on := 5, ground := Go.Ground.chain }], guard := none }) rfl (fun K hK => ?_) AllReadyH.nil)
        go_simp
        (go_at_call 50; (with_reducible refine (HT1.out _ _ HB.out).mono ?_); rintro e wt ⟨vt, rfl, hv, hE⟩; replace HVf := PQ.hext HVf hE; replace HVs := PQ.hext HVs hE; replace HVp := PQ.hext HVp hE; replace HB := PQ.hext HB hE; have HWt := Lib.hid ((HWp.out).tr hE); have HVt := Lib.hid hv; clear hE hv)
        refine hK.out _ _ (by exact ⟨HWt.out.cell c0, HWt.out.cell c1, HWt.out.cell c2, HWt.out.cell x0, HWt.out.cell x1, HWt.out.cell x2⟩) (fun hHeld2 => ?_)
        clear hK K hHeld
        have hHeld := hHeld2
        clear hHeld2
        try simp only [Act.put, List.setIfInBounds_toArray, List.set_cons_zero, List.set_cons_succ]
        refine wpAnyH_ready (rs := [12]) (by kernel_rfl) (by simp) ?_
        refine (AllReadyH.cons (o := { dst := some 26, op := Go.Op.call { callee := Go.Callee.value (Go.Operand.func 59), args := #[Go.Operand.tmp 19, Go.Operand.tmp 25], argTypes := #[58, 58] }, type := 58, pos := "ref.go:171", after := #[{ on := 5, ground := Go.Ground.data }, { on := 11, ground := Go.Ground.data }, { on := 11, ground := Go.Ground.chain }], guard := none }) rfl (fun K hK => ?_) AllReadyH.nil)
        go_simp
        (go_at_call 59; (with_reducible refine (HP21.out _ _ _ HVp.out HVt.out).mono ?_); rintro e wn ⟨vn, rfl, hv, hE⟩; replace HVf := PQ.hext HVf hE; replace HVs := PQ.hext HVs hE; replace HVp := PQ.hext HVp hE; replace HVt := PQ.hext HVt hE; replace HB := PQ.hext HB hE; have HWn := Lib.hid ((HWt.out).tr hE); have HVn := Lib.hid hv; clear hE hv)
        refine hK.out _ _ (by exact ⟨HWn.out.cell c0, HWn.out.cell c1, HWn.out.cell c2, HWn.out.cell x0, HWn.out.cell x1, HWn.out.cell x2⟩) (fun hHeld2 => ?_)
        clear hK K hHeld
        have hHeld := hHeld2
        clear hHeld2
        try simp only [Act.put, List.setIfInBounds_toArray, List.set_cons_zero, List.set_cons_succ]
        refine wpAnyH_take (i := 13) (oi := { dst := some 5, op := Go.Op.assign (Go.Operand.tmp 26), type := 58, pos := "ref.go:171", after := #[{ on := 12, ground := Go.Ground.data }, { on := 12, ground := Go.Ground.chain }, { on := 0, ground := Go.Ground.phase }, { on := 1, ground := Go.Ground.phase }, { on := 2, ground := Go.Ground.phase }, { on := 3, ground := Go.Ground.phase }, { on := 4, ground := Go.Ground.phase }, { on := 5, ground := Go.Ground.phase }, { on := 6, ground := Go.Ground.phase }, { on := 7, ground := Go.Ground.phase }, { on := 8, ground := Go.Ground.phase }, { on := 9, ground := Go.Ground.phase }, { on := 10, ground := Go.Ground.phase }, { on := 11, ground := Go.Ground.phase }, { on := 12, ground := Go.Ground.phase }], guard := none }) (v := ?_) rfl (by kernel_rfl) (by kernel_rfl) (by kernel_rfl) (fun _ _ _ h => h) (Or.inl ⟨by rfl, ?_⟩) hHeld ?_
        rotate_left
        · intro w' hSw; (try dsimp only at hSw); go_simp; (try with_reducible rfl)
        try simp only [Act.put, List.setIfInBounds_toArray, List.set_cons_zero, List.set_cons_succ]
        refine wpAnyH_done (by kernel_rfl) ?_ _
        clear hHeld
        have HEn := Lib.hid (HE.out.tr HWn.out)
        clear HVf HVs HVp HVt HB HRa1 HSc1 HP11 HT1 HP21 HVc HWf HWs HWp HWt HWn
        go_wp2
        go_roundw
        case rel => exact ⟨k, by omega, by go_num, HVn, HEn⟩
        case measure => simp [intOf]
end Go.Proofs.YtbldlibijojbjaaGreatDoor.GB
