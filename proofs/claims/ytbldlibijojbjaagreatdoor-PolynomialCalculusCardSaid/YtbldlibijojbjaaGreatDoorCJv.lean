import Derived.Test.YtbldlibijojbjaaGreatDoorCJq
import Derived.Test.YtbldlibijojbjaaGreatDoorMYg
namespace Go.Proofs.YtbldlibijojbjaaGreatDoor.GB
set_option linter.unusedVariables false
set_option linter.unusedSimpArgs false
open Go.RowKit Go.Shelf
attribute [local go_sem ↓] Go.wp_at_zero Go.wp_at_succ
set_option maxHeartbeats 8000000 in
set_option maxRecDepth 200000 in
theorem q8Value_v (v1 v2 : Value) (p : Pl) (t : Rat) (n m : Nat) (w : World) (h1 : PQ w v1 p) (h2 : QV w v2 t) (hp : PB p n) (ht : Bd t m) (l1 : p.length ≤ 500) (hk : 1000 * (n + m + 1) + 20 ≤ KK) :
    Calls Tryz.prog 73 #[v1, v2] w (RetQ3 (pev p t) w) := by
  obtain ⟨A, ca, rfl⟩ := h1.slc
  obtain ⟨si, Zi, li, ci, Yi, mi, di, rfl, -, -, -⟩ := h2.ex
  obtain ⟨lp, hlp⟩ : ∃ k, p.length = k := ⟨_, rfl⟩
  rw [hlp] at h1 l1 ⊢
  have HLN := Lib.hid hlp
  have HI0 : Hid (∀ W, Calls Tryz.prog 97 #[.int .i64 0] W (RetQ3 0 W)) := fun W => q3Int_any 0 W (by omega) (by omega)
  have HB : Hid (∀ k, k ≤ lp → Bd (pev (p.drop k) t) (500 * (n + m + 1))) := fun k hk => by
    have h := pev_bd (hp.drop k) ht
    have e : (p.drop k).length * (m + n + 1) ≤ 500 * (n + m + 1) := by rw [Nat.add_comm m n]; exact Nat.mul_le_mul_right _ (by simp; omega)
    exact h.mono e
  have HT : Hid (∀ k W u v, k < lp → QV W u (pev (p.drop (k + 1)) t) → QV W v t → Calls Tryz.prog 115 #[u, v] W (RetQ3 (pev (p.drop (k + 1)) t * t) W)) := fun k W u v hk2 hu hv =>
    q3Mul_v u v _ _ (500 * (n + m + 1)) m W hu hv (HB.out (k + 1) hk2) ht (by omega)
  have HPl : Hid (∀ k W u v, k < lp → QV W u (pev (p.drop (k + 1)) t * t) → QV W v (cf p k) → Calls Tryz.prog 93 #[u, v] W (RetQ3 (pev (p.drop k) t) W)) := fun k W u v hk2 hu hv => by
    rw [drop_cf (by rw [hlp]; exact hk2), pev_step]
    exact q3Add_v u v _ _ (500 * (n + m + 1) + m) n W hu hv ((HB.out (k + 1) hk2).mul ht) (hp.cf k) (by omega)
  have HF0 : Hid (pev (p.drop lp) t = 0) := by unfold Hid; rw [← hlp, List.drop_length]; rfl
  go_enter Tryz.func73, Tryz.ntmps73
  go_wp2_with fail
  obtain ⟨X1, X2, E0⟩ := boxes2g w #[.bool si, .slice Zi li ci, .slice Yi mi di] #[.bool false, .slice none 0 0, .slice none 0 0] 86 86
  have HR := Lib.hid (h1.ext E0).rd.2.2.2
  have HIV := Lib.hid (h2.ext E0)
  have HX1 := Lib.hid X1
  have HX2 := Lib.hid X2
  have HE0 := Lib.hid E0
  clear h1 h2 hp ht hk hlp X1 X2 E0
  generalize (w.alloc (.cells #[.bool si, .slice Zi li ci, .slice Yi mi di] 86)).alloc (.cells #[.bool false, .slice none 0 0, .slice none 0 0] 86) = W0 at *
  refine (HI0.out _).mono ?_
  rintro e w2 ⟨v, rfl, hv, hE⟩
  obtain ⟨sa, Za, la, ca, Ya, ma, da, rfl, -, -, -⟩ := hv.ex
  have HE1 := Lib.hid hE
  have HV1 := Lib.hid hv
  clear hE hv HI0
  go_wp2_with fail
  replace HX1 := Bx.hext HX1 HE1.out
  replace HX2 := Bx.hext HX2 HE1.out
  replace HIV := QV.hext HIV HE1.out
  have HR1 := Lib.hid (RdQ.ext HR.out HE1.out)
  replace HE0 := Lib.hid (HE0.out.tr HE1.out)
  have HBg := Lib.hid (Bx.new w2 #[.bool sa, .slice Za la ca, .slice Ya ma da] 86)
  have HEg := Lib.hid ((Ext.rfl' w2).al (.cells #[.bool sa, .slice Za la ca, .slice Ya ma da] 86))
  replace HV1 := QV.hext HV1 HEg.out
  have hgs : w2.heap.size ≤ w2.heap.size := Nat.le_refl _
  have hg3 : w.heap.size < w2.heap.size := HX1.out.lt
  have hg4 : w.heap.size + 1 < w2.heap.size := HX2.out.lt
  clear HE1 HR
  generalize w2.alloc (.cells #[.bool sa, .slice Za la ca, .slice Ya ma da] 86) = W3 at *
  obtain ⟨g, hg⟩ : ∃ g, w2.heap.size = g := ⟨_, rfl⟩
  rw [hg] at HBg hg3 hg4 ⊢
  replace hgs : w2.heap.size ≤ g := by omega
  clear hg
  go_loopw [6] (fun vi wr => ∃ (k : Nat) (se : Bool) (Ze : Option Addr) (le ce : Nat) (Ye : Option Addr) (me de : Nat), k ≤ lp ∧ vi = .int .i64 ((k : Int) - 1) ∧ Hid (Bx wr g #[.bool se, .slice Ze le ce, .slice Ye me de] 86) ∧ Hid (QV wr (.agg #[.bool se, .slice Ze le ce, .slice Ye me de]) (pev (p.drop k) t)) ∧ Hid (Ext w2 wr)) (fun vi _ => (intOf vi + 1).toNat)
  case atStart => exact ⟨lp, sa, Za, la, ca, Ya, ma, da, Nat.le_refl _, rfl, HBg, by rw [HF0.out]; exact HV1, HEg⟩
  case round =>
    clear HV1 HBg HEg
    obtain ⟨k, se, Ze, le, ce, Ye, me, de, hk, rfl, HBg, HA, HE⟩ := hrel
    have a0 : wr.cell? ⟨g, 0, none⟩ = some (.bool se) := HBg.out.c 0
    have a1 : wr.cell? ⟨g, 1, none⟩ = some (.slice Ze le ce) := HBg.out.c 1
    have a2 : wr.cell? ⟨g, 2, none⟩ = some (.slice Ye me de) := HBg.out.c 2
    cases k with
    | zero =>
      have ee : ((0 : Nat) : Int) - 1 = -1 := by omega
      rw [ee]
      replace HA : Hid (QV wr (.agg #[.bool se, .slice Ze le ce, .slice Ye me de]) (pev p t)) := HA
      have HX := Bx.hext HX2 HE.out
      replace HE := Lib.hid (HE0.out.tr HE.out)
      have y0 : wr.cell? ⟨w.heap.size + 1, 0, none⟩ = some (.bool false) := HX.out.c 0; have y1 : wr.cell? ⟨w.heap.size + 1, 1, none⟩ = some (.slice none 0 0) := HX.out.c 1; have y2 : wr.cell? ⟨w.heap.size + 1, 2, none⟩ = some (.slice none 0 0) := HX.out.c 2; have f0 := HX.out.f 0; have f1 := HX.out.f 1; have f2 := HX.out.f 2
      clear ee HX1 HX2 HIV HR1 HE0 HT HPl HB
      go_wp2_with fail
      obtain ⟨d0', d1', d2'⟩ := set3 HX.out (.bool se) (.slice Ze le ce) (.slice Ye me de)
      have HZ := QV.off HA.out HX.out nou3 (size3 (.bool se) (.slice Ze le ce) (.slice Ye me de)) (keep3 (g := w.heap.size + 1) (.bool se) (.slice Ze le ce) (.slice Ye me de))
      refine bodyPost_ret (v := .agg #[.bool se, .slice Ze le ce, .slice Ye me de]) ?_ rfl ⟨_, rfl, HZ, ext_set3 (b := w.heap.size + 1) HE.out (by omega) _ _ _⟩
      simp [results, Tryz.f73, go_sem, d0', d1', d2']
    | succ k =>
      have ee : ((k + 1 : Nat) : Int) - 1 = (k : Int) := by omega
      rw [ee]
      have hkp : k < lp := by omega
      obtain ⟨bb, off, x, y, z, rfl, hbb, c0, c1, c2, hq⟩ := HR1.out k (by rw [HLN.out]; omega)
      obtain ⟨s1, A1, la, ca, B1, lb, cb, hv, -, -, -⟩ := hq.ex
      simp only [Value.agg.injEq, Array.mk.injEq, List.cons.injEq, and_true] at hv
      obtain ⟨rfl, rfl, rfl⟩ := hv
      have hgb : bb ≠ g := by omega
      replace c0 := HE.out.cell c0
      replace c1 := HE.out.cell c1
      replace c2 := HE.out.cell c2
      have HVc := Lib.hid (hq.ext HE.out)
      have HVi := QV.hext HIV HE.out
      have HXi := Bx.hext HX1 HE.out
      have o0 : off + 3 * k + 1 = off + (3 * k + 1) := by omega
      have o1 : off + 3 * k + 2 = off + (3 * k + 2) := by omega
      have o2 : off + k * 3 = off + 3 * k := by omega
      have b0 : wr.cell? ⟨w.heap.size, 0, none⟩ = some (.bool si) := HXi.out.c 0
      have b1 : wr.cell? ⟨w.heap.size, 1, none⟩ = some (.slice Zi li ci) := HXi.out.c 1
      have b2 : wr.cell? ⟨w.heap.size, 2, none⟩ = some (.slice Yi mi di) := HXi.out.c 2
      have hlz : (0 : Int) ≤ (k : Int) := by omega
      have hlz2 : (k : Int) < (lp : Int) := by omega
      have HT1 := Lib.hid (fun W u v hu hv => HT.out k W u v hkp hu hv)
      have HP1 := Lib.hid (fun W u v hu hv => HPl.out k W u v hkp hu hv)
      clear hq hbb ee HT HPl HX2 HE0 HF0 HB HR1 HXi
      have a0d : wr.drew.cell? ⟨g, 0, none⟩ = some (.bool se) := a0
      have a1d : wr.drew.cell? ⟨g, 1, none⟩ = some (.slice Ze le ce) := a1
      have a2d : wr.drew.cell? ⟨g, 2, none⟩ = some (.slice Ye me de) := a2
      have b0d : wr.drew.cell? ⟨w.heap.size, 0, none⟩ = some (.bool si) := b0
      have b1d : wr.drew.cell? ⟨w.heap.size, 1, none⟩ = some (.slice Zi li ci) := b1
      have b2d : wr.drew.cell? ⟨w.heap.size, 2, none⟩ = some (.slice Yi mi di) := b2
      have c0d : wr.drew.cell? ⟨bb, off + 3 * k, none⟩ = some (.bool s1) := c0
      have c1d : wr.drew.cell? ⟨bb, off + (3 * k + 1), none⟩ = some (.slice A1 la ca) := c1
      have c2d : wr.drew.cell? ⟨bb, off + (3 * k + 2), none⟩ = some (.slice B1 lb cb) := c2
      go_wp2_with fail
      refine wp_region_held_drew (S := (fun w' => w'.cell? ⟨w.heap.size, 0, none⟩ = some (.bool si) ∧ w'.cell? ⟨w.heap.size, 1, none⟩ = some (.slice Zi li ci) ∧ w'.cell? ⟨w.heap.size, 2, none⟩ = some (.slice Yi mi di) ∧ w'.cell? ⟨bb, off + 3 * k, none⟩ = some (.bool s1) ∧ w'.cell? ⟨bb, off + (3 * k + 1), none⟩ = some (.slice A1 la ca) ∧ w'.cell? ⟨bb, off + (3 * k + 2), none⟩ = some (.slice B1 lb cb))) (by kernel_rfl) (by exact ⟨b0d, b1d, b2d, c0d, c1d, c2d⟩) (fun hHeld => ?_)
      refine wpAnyH_take (i := 1) (oi := { dst := some 16, op := Go.Op.load 86 (Go.Operand.tmp 3), type := 86, pos := "ref.go:144", after := #[], guard := none }) (v := ?_) rfl (by kernel_rfl) (by kernel_rfl) (by kernel_rfl) (fun _ _ _ h => h) (Or.inl ⟨by rfl, ?_⟩) hHeld ?_
      rotate_left
      · intro w' hSw; (try dsimp only at hSw); go_simp; (try with_reducible rfl)
      try simp only [Act.put, List.setIfInBounds_toArray, List.set_cons_zero, List.set_cons_succ]
      refine wpAnyH_take (i := 3) (oi := { dst := some 18, op := Go.Op.move (Go.Operand.tmp 0), type := 58, pos := "ref.go:144", after := #[], guard := none }) (v := ?_) rfl (by kernel_rfl) (by kernel_rfl) (by kernel_rfl) (fun _ _ _ h => h) (Or.inl ⟨by rfl, ?_⟩) hHeld ?_
      rotate_left
      · intro w' hSw; (try dsimp only at hSw); go_simp; (try with_reducible rfl)
      try simp only [Act.put, List.setIfInBounds_toArray, List.set_cons_zero, List.set_cons_succ]
      refine wpAnyH_take (i := 4) (oi := { dst := some 19, op := Go.Op.move (Go.Operand.tmp 6), type := 3, pos := "ref.go:144", after := #[], guard := none }) (v := ?_) rfl (by kernel_rfl) (by kernel_rfl) (by kernel_rfl) (fun _ _ _ h => h) (Or.inl ⟨by rfl, ?_⟩) hHeld ?_
      rotate_left
      · intro w' hSw; (try dsimp only at hSw); go_simp; (try with_reducible rfl)
      try simp only [Act.put, List.setIfInBounds_toArray, List.set_cons_zero, List.set_cons_succ]
      refine wpAnyH_take (i := 5) (oi := { dst := some 20, op := Go.Op.indexAddr 58 (Go.Operand.tmp 18) (Go.Operand.tmp 19), type := 0, pos := "ref.go:144", after := #[{ on := 3, ground := Go.Ground.data }, { on := 4, ground := Go.Ground.data }], guard := none }) (v := ?_) rfl (by kernel_rfl) (by kernel_rfl) (by kernel_rfl) (fun _ _ _ h => h) (Or.inl ⟨by rfl, ?_⟩) hHeld ?_
      rotate_left
      · intro w' hSw; (try dsimp only at hSw); go_simp; (try with_reducible rfl)
      try simp only [Act.put, List.setIfInBounds_toArray, List.set_cons_zero, List.set_cons_succ]
      refine wpAnyH_take (i := 6) (oi := { dst := some 21, op := Go.Op.load 86 (Go.Operand.tmp 20), type := 86, pos := "ref.go:144", after := #[{ on := 5, ground := Go.Ground.data }], guard := none }) (v := ?_) rfl (by kernel_rfl) (by kernel_rfl) (by kernel_rfl) (fun _ _ _ h => h) (Or.inl ⟨by rfl, ?_⟩) hHeld ?_
      rotate_left
      · intro w' hSw; (try dsimp only at hSw); go_simp; (try with_reducible rfl)
      try simp only [Act.put, List.setIfInBounds_toArray, List.set_cons_zero, List.set_cons_succ]
      refine wpAnyH_ready (rs := [0]) (by kernel_rfl) (by simp) ?_
      refine AllReadyH.cons (o := { dst := some 15, op := Go.Op.load 86 (Go.Operand.tmp 5), type := 86, pos := "ref.go:144", after := #[], guard := none }) rfl (fun K hK => ?_) AllReadyH.nil
      go_simp
      refine hK.out _ _ (hHeld) (fun hHeld2 => ?_)
      clear hK K hHeld
      have hHeld := hHeld2
      clear hHeld2
      try simp only [Act.put, List.setIfInBounds_toArray, List.set_cons_zero, List.set_cons_succ]
      refine wpAnyH_ready (rs := [2]) (by kernel_rfl) (by simp) ?_
      refine AllReadyH.cons (o := { dst := some 17, op := Go.Op.call { callee := Go.Callee.value (Go.Operand.func 115), args := #[Go.Operand.tmp 15, Go.Operand.tmp 16], argTypes := #[86, 86] }, type := 86, pos := "ref.go:144", after := #[{ on := 0, ground := Go.Ground.data }, { on := 1, ground := Go.Ground.data }], guard := none }) rfl (fun K hK => ?_) AllReadyH.nil
      go_simp
      (go_at_call 115; (with_reducible refine (HT1.out _ _ _ (QV.ext HA.out ((Ext.rfl' wr).dr)) (QV.ext HVi.out ((Ext.rfl' wr).dr))).mono ?_); rintro e w1 ⟨vt, rfl, hv, hE⟩; replace hE := ((Ext.rfl' _).dr).tr hE; obtain ⟨st, Zt, lt, ct, Yt, mt, dt, rfl, -, -, -⟩ := hv.ex; replace a0 := Ext.cellH hE a0; replace a1 := Ext.cellH hE a1; replace a2 := Ext.cellH hE a2; replace b0 := Ext.cellH hE b0; replace b1 := Ext.cellH hE b1; replace b2 := Ext.cellH hE b2; replace c0 := Ext.cellH hE c0; replace c1 := Ext.cellH hE c1; replace c2 := Ext.cellH hE c2; replace HBg := Bx.hext HBg hE; replace HVc := QV.hext HVc hE; replace HVi := QV.hext HVi hE; replace HE := Lib.hid (HE.out.tr hE); have HVt := Lib.hid hv; clear hE hv)
      refine hK.out _ _ (by exact ⟨b0, b1, b2, c0, c1, c2⟩) (fun hHeld2 => ?_)
      clear hK K hHeld
      have hHeld := hHeld2
      clear hHeld2
      try simp only [Act.put, List.setIfInBounds_toArray, List.set_cons_zero, List.set_cons_succ]
      refine wpAnyH_ready (rs := [7]) (by kernel_rfl) (by simp) ?_
      refine AllReadyH.cons (o := { dst := some 22, op := Go.Op.call { callee := Go.Callee.value (Go.Operand.func 93), args := #[Go.Operand.tmp 17, Go.Operand.tmp 21], argTypes := #[86, 86] }, type := 86, pos := "ref.go:144", after := #[{ on := 2, ground := Go.Ground.data }, { on := 6, ground := Go.Ground.data }, { on := 2, ground := Go.Ground.chain }], guard := none }) rfl (fun K hK => ?_) AllReadyH.nil
      go_simp
      (go_at_call 93; (with_reducible refine (HP1.out _ _ _ HVt.out HVc.out).mono ?_); rintro e w2 ⟨vn, rfl, hv, hE⟩; obtain ⟨sn, Zn, ln, cn, Yn, mn, dn, rfl, -, -, -⟩ := hv.ex; replace a0 := Ext.cellH hE a0; replace a1 := Ext.cellH hE a1; replace a2 := Ext.cellH hE a2; replace b0 := Ext.cellH hE b0; replace b1 := Ext.cellH hE b1; replace b2 := Ext.cellH hE b2; replace c0 := Ext.cellH hE c0; replace c1 := Ext.cellH hE c1; replace c2 := Ext.cellH hE c2; replace HBg := Bx.hext HBg hE; replace HVc := QV.hext HVc hE; replace HVi := QV.hext HVi hE; replace HVt := QV.hext HVt hE; replace HE := Lib.hid (HE.out.tr hE); have HVn := Lib.hid hv; have f0 := HBg.out.f 0; have f1 := HBg.out.f 1; have f2 := HBg.out.f 2; clear hE hv)
      refine hK.out _ _ (by exact ⟨b0, b1, b2, c0, c1, c2⟩) (fun hHeld2 => ?_)
      clear hK K hHeld
      have hHeld := hHeld2
      clear hHeld2
      try simp only [Act.put, List.setIfInBounds_toArray, List.set_cons_zero, List.set_cons_succ]
      refine wpAnyH_ready (rs := [8]) (by kernel_rfl) (by simp) ?_
      refine AllReadyH.cons (o := { dst := none, op := Go.Op.store 86 (Go.Operand.tmp 5) (Go.Operand.tmp 22), type := 0, pos := "ref.go:144", after := #[{ on := 7, ground := Go.Ground.data }, { on := 7, ground := Go.Ground.chain }, { on := 0, ground := Go.Ground.phase }, { on := 1, ground := Go.Ground.phase }, { on := 2, ground := Go.Ground.phase }, { on := 3, ground := Go.Ground.phase }, { on := 4, ground := Go.Ground.phase }, { on := 5, ground := Go.Ground.phase }, { on := 6, ground := Go.Ground.phase }, { on := 7, ground := Go.Ground.phase }], guard := none }) rfl (fun K hK => ?_) AllReadyH.nil
      go_simp
      refine hK.out _ _ (by (try dsimp only); (repeat' apply And.intro) <;> (rw [neC (by omega), neC (by omega), neC (by omega)]; with_reducible assumption)) (fun hHeld2 => ?_)
      clear hK K hHeld
      have hHeld := hHeld2
      clear hHeld2
      try simp only [Act.put, List.setIfInBounds_toArray, List.set_cons_zero, List.set_cons_succ]
      refine wpAnyH_done (by kernel_rfl) ?_ _
      all_goals
        have hN := Lib.hid (bx_set3 HBg.out (.bool sn) (.slice Zn ln cn) (.slice Yn mn dn))
        have hV := Lib.hid (QV.off HVn.out HBg.out nou3 (size3 (.bool sn) (.slice Zn ln cn) (.slice Yn mn dn)) (keep3 (g := g) (.bool sn) (.slice Zn ln cn) (.slice Yn mn dn)))
        have hX := Lib.hid (ext_set3 (b := g) HE.out hgs (.bool sn) (.slice Zn ln cn) (.slice Yn mn dn))
        clear HVn HVt HVc HVi HT1 HP1 HIV HX1 HBg HA
        go_wp2
        go_roundw
        case rel => exact ⟨k, sn, Zn, ln, cn, Yn, mn, dn, by omega, by go_num, hN, hV, hX⟩
        case measure => simp [intOf]
end Go.Proofs.YtbldlibijojbjaaGreatDoor.GB
