import Derived.Test.YtbldlibijojbjaaGreatDoorCJb
import Derived.Test.YtbldlibijojbjaaGreatDoorCJp
import Derived.Test.YtbldlibijojbjaaGreatDoorMYg
namespace Go.Proofs.YtbldlibijojbjaaGreatDoor.GB
set_option linter.unusedVariables false
set_option linter.unusedSimpArgs false
open Go.RowKit Go.Shelf
attribute [local go_sem ↓] Go.wp_at_zero Go.wp_at_succ
theorem bx_set6 {w : World} {b : Nat} {x0 x1 x2 x3 x4 x5 : Value} {T : TypeId} (h : Bx w b #[x0, x1, x2, x3, x4, x5] T) (u0 u1 u2 u3 u4 u5 : Value) : Bx ((((((w.setCell ⟨b, 0, none⟩ u0).setCell ⟨b, 1, none⟩ u1).setCell ⟨b, 2, none⟩ u2).setCell ⟨b, 3, none⟩ u3).setCell ⟨b, 4, none⟩ u4).setCell ⟨b, 5, none⟩ u5) b #[u0, u1, u2, u3, u4, u5] T := ((((((h.put 0 u0).put 1 u1).put 2 u2).put 3 u3).put 4 u4).put 5 u5)
set_option maxHeartbeats 8000000 in
set_option maxRecDepth 200000 in
theorem q8In_v (v1 v2 : Value) (p : Pl) (I : Rat × Rat) (n m : Nat) (w : World) (h1 : PQ w v1 p) (h2 : JV w v2 I.1 I.2) (hp : PB p n) (hI : Bd I.1 m ∧ Bd I.2 m) (l1 : p.length ≤ 500) (hk : 2000 * (n + m + 1) + 20 ≤ KK) :
    Calls Tryz.prog 84 #[v1, v2] w (RetJ (penc I p).1 (penc I p).2 w) := by
  obtain ⟨A, ca, rfl⟩ := h1.slc
  obtain ⟨six, Zix, lix, cix, Yix, mix, dix, siy, Ziy, liy, ciy, Yiy, miy, diy, rfl⟩ := h2.ex
  obtain ⟨lp, hlp⟩ : ∃ k, p.length = k := ⟨_, rfl⟩
  rw [hlp] at h1 l1 ⊢
  have HLN := Lib.hid hlp
  have HI0 : Hid (∀ W, Calls Tryz.prog 97 #[.int .i64 0] W (RetQ3 0 W)) := fun W => q3Int_any 0 W (by omega) (by omega)
  have HJ : Hid (∀ W v y, QV W v y → Calls Tryz.prog 122 #[v] W (RetJ y y W)) := fun W v y h => jJust_v v y W h
  have HB : Hid (∀ k, k ≤ lp → Bd (penc I (p.drop k)).1 (500 * (n + m + 1)) ∧ Bd (penc I (p.drop k)).2 (500 * (n + m + 1))) := fun k hk => by
    have h := penc_bd (hp.drop k) hI
    have e : (p.drop k).length * (m + n + 1) ≤ 500 * (n + m + 1) := by rw [Nat.add_comm m n]; exact Nat.mul_le_mul_right _ (by simp; omega)
    exact ⟨h.1.mono e, h.2.mono e⟩
  have HT : Hid (∀ k W u v, k < lp → JV W u (penc I (p.drop (k + 1))).1 (penc I (p.drop (k + 1))).2 → JV W v I.1 I.2 → Calls Tryz.prog 124 #[u, v] W (RetJ (jtimes (penc I (p.drop (k + 1))) I).1 (jtimes (penc I (p.drop (k + 1))) I).2 W)) := fun k W u v hk2 hu hv =>
    jTimes_v u v _ _ _ _ (500 * (n + m + 1)) m W hu hv (HB.out (k + 1) hk2) hI (by omega)
  have HPl : Hid (∀ k W u v, k < lp → JV W u (jtimes (penc I (p.drop (k + 1))) I).1 (jtimes (penc I (p.drop (k + 1))) I).2 → JV W v (cf p k) (cf p k) → Calls Tryz.prog 123 #[u, v] W (RetJ (penc I (p.drop k)).1 (penc I (p.drop k)).2 W)) := fun k W u v hk2 hu hv => by
    have hb := HB.out (k + 1) hk2
    rw [drop_cf (by rw [hlp]; exact hk2), penc_step]
    refine jPlus_v u v _ _ _ _ (500 * (n + m + 1) + m + 1) n W hu hv ?_ ⟨hp.cf k, hp.cf k⟩ (by omega)
    have e1 := ite_bd ((hb.1.mul hI.1).mono (n := 500 * (n + m + 1) + m + 1) (by omega)) ((hb.2.mul hI.1).mono (n := 500 * (n + m + 1) + m + 1) (by omega))
    have e2 := ite_bd ((hb.1.mul hI.2).mono (n := 500 * (n + m + 1) + m + 1) (by omega)) ((hb.2.mul hI.2).mono (n := 500 * (n + m + 1) + m + 1) (by omega))
    exact ⟨(ite_bd e1.1 e2.1).1, (ite_bd e1.2 e2.2).2⟩
  have HF0 : Hid (penc I (p.drop lp) = (0, 0)) := by unfold Hid; rw [← hlp, List.drop_length]; rfl
  have HF1 : Hid (penc I (p.drop 0) = penc I p) := rfl
  go_enter Tryz.func84, Tryz.ntmps84
  go_wp2_with fail
  obtain ⟨X1, X2, E0⟩ := boxes2g w #[.bool six, .slice Zix lix cix, .slice Yix mix dix, .bool siy, .slice Ziy liy ciy, .slice Yiy miy diy] #[.bool false, .slice none 0 0, .slice none 0 0, .bool false, .slice none 0 0, .slice none 0 0] 96 96
  have HR := Lib.hid (h1.ext E0).rd.2.2.2
  have HIV := Lib.hid (h2.ext E0)
  have HX1 := Lib.hid X1
  have HX2 := Lib.hid X2
  have HE0 := Lib.hid E0
  have hg1 := X1.lt
  have hg2 := X2.lt
  clear h1 h2 hp hI hk hlp X1 X2 E0
  generalize (w.alloc (.cells #[.bool six, .slice Zix lix cix, .slice Yix mix dix, .bool siy, .slice Ziy liy ciy, .slice Yiy miy diy] 96)).alloc (.cells #[.bool false, .slice none 0 0, .slice none 0 0, .bool false, .slice none 0 0, .slice none 0 0] 96) = W0 at *
  refine (HI0.out _).mono ?_
  rintro e w1 ⟨v, rfl, hv, hE⟩
  obtain ⟨s0, Z0, l0, c0, Y0, m0, d0, rfl, -, -, -⟩ := hv.ex
  have HE1 := Lib.hid hE
  have HV0 := Lib.hid hv
  clear hE hv HI0
  go_wp2_with fail
  refine (HJ.out _ _ _ HV0.out).mono ?_
  rintro e w2 ⟨v, rfl, hv, hE⟩
  obtain ⟨sax, Zax, lax, cax, Yax, max, dax, say, Zay, lay, cay, Yay, may, day, rfl⟩ := hv.ex
  replace HE1 := Lib.hid (HE1.out.tr hE)
  have HV1 := Lib.hid hv
  clear hE hv HV0
  go_wp2_with fail
  replace HX1 := Bx.hext HX1 HE1.out
  replace HX2 := Bx.hext HX2 HE1.out
  replace HIV := JV.hext HIV HE1.out
  have HR1 := Lib.hid (RdQ.ext HR.out HE1.out)
  replace HE0 := Lib.hid (HE0.out.tr HE1.out)
  have HBg := Lib.hid (Bx.new w2 #[.bool sax, .slice Zax lax cax, .slice Yax max dax, .bool say, .slice Zay lay cay, .slice Yay may day] 96)
  have HEg := Lib.hid ((Ext.rfl' w2).al (.cells #[.bool sax, .slice Zax lax cax, .slice Yax max dax, .bool say, .slice Zay lay cay, .slice Yay may day] 96))
  replace HV1 := JV.hext HV1 HEg.out
  have hgs : w2.heap.size ≤ w2.heap.size := Nat.le_refl _
  have hg3 : w.heap.size < w2.heap.size := HX1.out.lt
  have hg4 : w.heap.size + 1 < w2.heap.size := HX2.out.lt
  clear hg1 hg2 HE1 HR
  generalize w2.alloc (.cells #[.bool sax, .slice Zax lax cax, .slice Yax max dax, .bool say, .slice Zay lay cay, .slice Yay may day] 96) = W3 at *
  obtain ⟨g, hg⟩ : ∃ g, w2.heap.size = g := ⟨_, rfl⟩
  rw [hg] at HBg hg3 hg4 ⊢
  replace hgs : w2.heap.size ≤ g := by omega
  clear hg
  go_loopw [6] (fun vi wr => ∃ (k : Nat) (sbx : Bool) (Zbx : Option Addr) (lbx cbx : Nat) (Ybx : Option Addr) (mbx dbx : Nat) (sby : Bool) (Zby : Option Addr) (lby cby : Nat) (Yby : Option Addr) (mby dby : Nat), k ≤ lp ∧ vi = .int .i64 ((k : Int) - 1) ∧ Hid (Bx wr g #[.bool sbx, .slice Zbx lbx cbx, .slice Ybx mbx dbx, .bool sby, .slice Zby lby cby, .slice Yby mby dby] 96) ∧ Hid (JV wr (.agg #[.bool sbx, .slice Zbx lbx cbx, .slice Ybx mbx dbx, .bool sby, .slice Zby lby cby, .slice Yby mby dby]) (penc I (p.drop k)).1 (penc I (p.drop k)).2) ∧ Hid (Ext w2 wr)) (fun vi _ => (intOf vi + 1).toNat)
  case atStart => exact ⟨lp, sax, Zax, lax, cax, Yax, max, dax, say, Zay, lay, cay, Yay, may, day, Nat.le_refl _, rfl, HBg, by rw [HF0.out]; exact HV1, HEg⟩
  case round =>
    clear HV1 HBg HEg
    obtain ⟨k, sbx, Zbx, lbx, cbx, Ybx, mbx, dbx, sby, Zby, lby, cby, Yby, mby, dby, hk, rfl, HBg, HA, HE⟩ := hrel
    have a0 : wr.cell? ⟨g, 0, none⟩ = some (.bool sbx) := HBg.out.c 0
    have a1 : wr.cell? ⟨g, 1, none⟩ = some (.slice Zbx lbx cbx) := HBg.out.c 1
    have a2 : wr.cell? ⟨g, 2, none⟩ = some (.slice Ybx mbx dbx) := HBg.out.c 2
    have a3 : wr.cell? ⟨g, 3, none⟩ = some (.bool sby) := HBg.out.c 3
    have a4 : wr.cell? ⟨g, 4, none⟩ = some (.slice Zby lby cby) := HBg.out.c 4
    have a5 : wr.cell? ⟨g, 5, none⟩ = some (.slice Yby mby dby) := HBg.out.c 5
    cases k with
    | zero =>
      have e : ((0 : Nat) : Int) - 1 = -1 := by omega
      rw [e]
      replace HA : Hid (JV wr (.agg #[.bool sbx, .slice Zbx lbx cbx, .slice Ybx mbx dbx, .bool sby, .slice Zby lby cby, .slice Yby mby dby]) (penc I p).1 (penc I p).2) := HA
      have HX := Bx.hext HX2 HE.out
      replace HE := Lib.hid (HE0.out.tr HE.out)
      have y0 : wr.cell? ⟨w.heap.size + 1, 0, none⟩ = some (.bool false) := HX.out.c 0; have y1 : wr.cell? ⟨w.heap.size + 1, 1, none⟩ = some (.slice none 0 0) := HX.out.c 1; have y2 : wr.cell? ⟨w.heap.size + 1, 2, none⟩ = some (.slice none 0 0) := HX.out.c 2; have y3 : wr.cell? ⟨w.heap.size + 1, 3, none⟩ = some (.bool false) := HX.out.c 3; have y4 : wr.cell? ⟨w.heap.size + 1, 4, none⟩ = some (.slice none 0 0) := HX.out.c 4; have y5 : wr.cell? ⟨w.heap.size + 1, 5, none⟩ = some (.slice none 0 0) := HX.out.c 5; have f0 := HX.out.f 0; have f1 := HX.out.f 1; have f2 := HX.out.f 2; have f3 := HX.out.f 3; have f4 := HX.out.f 4; have f5 := HX.out.f 5
      clear e HX1 HX2 HIV HR1 HE0 HT HPl HJ HB
      go_wp2_with fail
      obtain ⟨d0', d1', d2', d3', d4', d5'⟩ := set6 HX.out (.bool sbx) (.slice Zbx lbx cbx) (.slice Ybx mbx dbx) (.bool sby) (.slice Zby lby cby) (.slice Yby mby dby)
      have HZ := JV.off (HA.out) HX.out nou96 (size6 (.bool sbx) (.slice Zbx lbx cbx) (.slice Ybx mbx dbx) (.bool sby) (.slice Zby lby cby) (.slice Yby mby dby)) (keep6 (b := w.heap.size + 1) (.bool sbx) (.slice Zbx lbx cbx) (.slice Ybx mbx dbx) (.bool sby) (.slice Zby lby cby) (.slice Yby mby dby))
      refine bodyPost_ret (v := .agg #[.bool sbx, .slice Zbx lbx cbx, .slice Ybx mbx dbx, .bool sby, .slice Zby lby cby, .slice Yby mby dby]) ?_ rfl ⟨_, rfl, HZ, ext_set6 (b := w.heap.size + 1) HE.out (by omega) _ _ _ _ _ _⟩
      simp [results, Tryz.f84, go_sem, d0', d1', d2', d3', d4', d5']
    | succ k =>
      have e : ((k + 1 : Nat) : Int) - 1 = (k : Int) := by omega
      rw [e]
      have hkp : k < lp := by omega
      obtain ⟨bb, off, x, y, z, rfl, hbb, c0, c1, c2, hq⟩ := HR1.out k (by rw [HLN.out]; omega)
      obtain ⟨s1, A1, la, ca, B1, lb, cb, hv, -, -, -⟩ := hq.ex
      simp only [Value.agg.injEq, Array.mk.injEq, List.cons.injEq, and_true] at hv
      obtain ⟨rfl, rfl, rfl⟩ := hv
      have hgb : bb ≠ g := by omega
      replace c0 := HE.out.cell c0
      replace c1 := HE.out.cell c1
      replace c2 := HE.out.cell c2
      have HVc := Lib.hid (hq.ext HE.out)
      have HVi := JV.hext HIV HE.out
      have HXi := Bx.hext HX1 HE.out
      have o0 : off + 3 * k + 1 = off + (3 * k + 1) := by omega
      have o1 : off + 3 * k + 2 = off + (3 * k + 2) := by omega
      have o2 : off + k * 3 = off + 3 * k := by omega
      have b0 : wr.cell? ⟨w.heap.size, 0, none⟩ = some (.bool six) := HXi.out.c 0
      have b1 : wr.cell? ⟨w.heap.size, 1, none⟩ = some (.slice Zix lix cix) := HXi.out.c 1
      have b2 : wr.cell? ⟨w.heap.size, 2, none⟩ = some (.slice Yix mix dix) := HXi.out.c 2
      have b3 : wr.cell? ⟨w.heap.size, 3, none⟩ = some (.bool siy) := HXi.out.c 3
      have b4 : wr.cell? ⟨w.heap.size, 4, none⟩ = some (.slice Ziy liy ciy) := HXi.out.c 4
      have b5 : wr.cell? ⟨w.heap.size, 5, none⟩ = some (.slice Yiy miy diy) := HXi.out.c 5
      have hlz : (0 : Int) ≤ (k : Int) := by omega
      have hlz2 : (k : Int) < (lp : Int) := by omega
      have HT1 := Lib.hid (fun W u v hu hv => HT.out k W u v hkp hu hv)
      have HP1 := Lib.hid (fun W u v hu hv => HPl.out k W u v hkp hu hv)
      clear hq hbb e HT HPl HX2 HE0 HF0 HF1 HB HR1 HXi
      have a0d : wr.drew.cell? ⟨g, 0, none⟩ = some (.bool sbx) := a0
      have a1d : wr.drew.cell? ⟨g, 1, none⟩ = some (.slice Zbx lbx cbx) := a1
      have a2d : wr.drew.cell? ⟨g, 2, none⟩ = some (.slice Ybx mbx dbx) := a2
      have a3d : wr.drew.cell? ⟨g, 3, none⟩ = some (.bool sby) := a3
      have a4d : wr.drew.cell? ⟨g, 4, none⟩ = some (.slice Zby lby cby) := a4
      have a5d : wr.drew.cell? ⟨g, 5, none⟩ = some (.slice Yby mby dby) := a5
      have b0d : wr.drew.cell? ⟨w.heap.size, 0, none⟩ = some (.bool six) := b0
      have b1d : wr.drew.cell? ⟨w.heap.size, 1, none⟩ = some (.slice Zix lix cix) := b1
      have b2d : wr.drew.cell? ⟨w.heap.size, 2, none⟩ = some (.slice Yix mix dix) := b2
      have b3d : wr.drew.cell? ⟨w.heap.size, 3, none⟩ = some (.bool siy) := b3
      have b4d : wr.drew.cell? ⟨w.heap.size, 4, none⟩ = some (.slice Ziy liy ciy) := b4
      have b5d : wr.drew.cell? ⟨w.heap.size, 5, none⟩ = some (.slice Yiy miy diy) := b5
      have c0d : wr.drew.cell? ⟨bb, off + 3 * k, none⟩ = some (.bool s1) := c0
      have c1d : wr.drew.cell? ⟨bb, off + (3 * k + 1), none⟩ = some (.slice A1 la ca) := c1
      have c2d : wr.drew.cell? ⟨bb, off + (3 * k + 2), none⟩ = some (.slice B1 lb cb) := c2
      go_wp2_with fail
      refine wp_region_held_drew (S := (fun w' => w'.cell? ⟨w.heap.size, 0, none⟩ = some (.bool six) ∧ w'.cell? ⟨w.heap.size, 1, none⟩ = some (.slice Zix lix cix) ∧ w'.cell? ⟨w.heap.size, 2, none⟩ = some (.slice Yix mix dix) ∧ w'.cell? ⟨w.heap.size, 3, none⟩ = some (.bool siy) ∧ w'.cell? ⟨w.heap.size, 4, none⟩ = some (.slice Ziy liy ciy) ∧ w'.cell? ⟨w.heap.size, 5, none⟩ = some (.slice Yiy miy diy) ∧ w'.cell? ⟨bb, off + 3 * k, none⟩ = some (.bool s1) ∧ w'.cell? ⟨bb, off + (3 * k + 1), none⟩ = some (.slice A1 la ca) ∧ w'.cell? ⟨bb, off + (3 * k + 2), none⟩ = some (.slice B1 lb cb))) (by kernel_rfl) (by exact ⟨b0d, b1d, b2d, b3d, b4d, b5d, c0d, c1d, c2d⟩) (fun hHeld => ?_)
      refine wpAnyH_take (i := 1) (oi := { dst := some 17, op := Go.Op.load 96 (Go.Operand.tmp 3), type := 96, pos := "ref.go:180", after := #[], guard := none }) (v := ?_) rfl (by kernel_rfl) (by kernel_rfl) (by kernel_rfl) (fun _ _ _ h => h) (Or.inl ⟨by rfl, ?_⟩) hHeld ?_
      rotate_left
      · intro w' hSw; (try dsimp only at hSw); go_simp; (try with_reducible rfl)
      try simp only [Act.put, List.setIfInBounds_toArray, List.set_cons_zero, List.set_cons_succ]
      refine wpAnyH_take (i := 3) (oi := { dst := some 19, op := Go.Op.move (Go.Operand.tmp 0), type := 58, pos := "ref.go:180", after := #[], guard := none }) (v := ?_) rfl (by kernel_rfl) (by kernel_rfl) (by kernel_rfl) (fun _ _ _ h => h) (Or.inl ⟨by rfl, ?_⟩) hHeld ?_
      rotate_left
      · intro w' hSw; (try dsimp only at hSw); go_simp; (try with_reducible rfl)
      try simp only [Act.put, List.setIfInBounds_toArray, List.set_cons_zero, List.set_cons_succ]
      refine wpAnyH_take (i := 4) (oi := { dst := some 20, op := Go.Op.move (Go.Operand.tmp 6), type := 3, pos := "ref.go:180", after := #[], guard := none }) (v := ?_) rfl (by kernel_rfl) (by kernel_rfl) (by kernel_rfl) (fun _ _ _ h => h) (Or.inl ⟨by rfl, ?_⟩) hHeld ?_
      rotate_left
      · intro w' hSw; (try dsimp only at hSw); go_simp; (try with_reducible rfl)
      try simp only [Act.put, List.setIfInBounds_toArray, List.set_cons_zero, List.set_cons_succ]
      refine wpAnyH_take (i := 5) (oi := { dst := some 21, op := Go.Op.indexAddr 58 (Go.Operand.tmp 19) (Go.Operand.tmp 20), type := 0, pos := "ref.go:180", after := #[{ on := 3, ground := Go.Ground.data }, { on := 4, ground := Go.Ground.data }], guard := none }) (v := ?_) rfl (by kernel_rfl) (by kernel_rfl) (by kernel_rfl) (fun _ _ _ h => h) (Or.inl ⟨by rfl, ?_⟩) hHeld ?_
      rotate_left
      · intro w' hSw; (try dsimp only at hSw); go_simp; (try with_reducible rfl)
      try simp only [Act.put, List.setIfInBounds_toArray, List.set_cons_zero, List.set_cons_succ]
      refine wpAnyH_take (i := 6) (oi := { dst := some 22, op := Go.Op.load 86 (Go.Operand.tmp 21), type := 86, pos := "ref.go:180", after := #[{ on := 5, ground := Go.Ground.data }], guard := none }) (v := ?_) rfl (by kernel_rfl) (by kernel_rfl) (by kernel_rfl) (fun _ _ _ h => h) (Or.inl ⟨by rfl, ?_⟩) hHeld ?_
      rotate_left
      · intro w' hSw; (try dsimp only at hSw); go_simp; (try with_reducible rfl)
      try simp only [Act.put, List.setIfInBounds_toArray, List.set_cons_zero, List.set_cons_succ]
      refine wpAnyH_ready (rs := [0]) (by kernel_rfl) (by simp) ?_
      refine AllReadyH.cons (o := { dst := some 16, op := Go.Op.load 96 (Go.Operand.tmp 5), type := 96, pos := "ref.go:180", after := #[], guard := none }) rfl (fun K hK => ?_) AllReadyH.nil
      go_simp
      refine hK.out _ _ (hHeld) (fun hHeld2 => ?_)
      clear hK K hHeld
      have hHeld := hHeld2
      clear hHeld2
      try simp only [Act.put, List.setIfInBounds_toArray, List.set_cons_zero, List.set_cons_succ]
      refine wpAnyH_ready (rs := [2]) (by kernel_rfl) (by simp) ?_
      refine AllReadyH.cons (o := { dst := some 18, op := Go.Op.call { callee := Go.Callee.value (Go.Operand.func 124), args := #[Go.Operand.tmp 16, Go.Operand.tmp 17], argTypes := #[96, 96] }, type := 96, pos := "ref.go:180", after := #[{ on := 0, ground := Go.Ground.data }, { on := 1, ground := Go.Ground.data }], guard := none }) rfl (fun K hK => ?_) AllReadyH.nil
      go_simp
      (go_at_call 124; (with_reducible refine (HT1.out _ _ _ (JV.ext HA.out ((Ext.rfl' wr).dr)) (JV.ext HVi.out ((Ext.rfl' wr).dr))).mono ?_); rintro e w1 ⟨vt, rfl, hv, hE⟩; replace hE := ((Ext.rfl' _).dr).tr hE; obtain ⟨stx, Ztx, ltx, ctx, Ytx, mtx, dtx, sty, Zty, lty, cty, Yty, mty, dty, rfl⟩ := hv.ex; replace a0 := Ext.cellH hE a0; replace a1 := Ext.cellH hE a1; replace a2 := Ext.cellH hE a2; replace a3 := Ext.cellH hE a3; replace a4 := Ext.cellH hE a4; replace a5 := Ext.cellH hE a5; replace b0 := Ext.cellH hE b0; replace b1 := Ext.cellH hE b1; replace b2 := Ext.cellH hE b2; replace b3 := Ext.cellH hE b3; replace b4 := Ext.cellH hE b4; replace b5 := Ext.cellH hE b5; replace c0 := Ext.cellH hE c0; replace c1 := Ext.cellH hE c1; replace c2 := Ext.cellH hE c2; replace HBg := Bx.hext HBg hE; replace HVc := QV.hext HVc hE; replace HVi := JV.hext HVi hE; replace HE := Lib.hid (HE.out.tr hE); have HVt := Lib.hid hv; clear hE hv)
      refine hK.out _ _ (by exact ⟨b0, b1, b2, b3, b4, b5, c0, c1, c2⟩) (fun hHeld2 => ?_)
      clear hK K hHeld
      have hHeld := hHeld2
      clear hHeld2
      try simp only [Act.put, List.setIfInBounds_toArray, List.set_cons_zero, List.set_cons_succ]
      refine wpAnyH_ready (rs := [7]) (by kernel_rfl) (by simp) ?_
      refine AllReadyH.cons (o := { dst := some 23, op := Go.Op.call { callee := Go.Callee.value (Go.Operand.func 122), args := #[Go.Operand.tmp 22], argTypes := #[86] }, type := 96, pos := "ref.go:180", after := #[{ on := 6, ground := Go.Ground.data }, { on := 2, ground := Go.Ground.chain }], guard := none }) rfl (fun K hK => ?_) AllReadyH.nil
      go_simp
      (go_at_call 122; (with_reducible refine (HJ.out _ _ _ HVc.out).mono ?_); rintro e w2 ⟨vu, rfl, hv, hE⟩; obtain ⟨sux, Zux, lux, cux, Yux, mux, dux, suy, Zuy, luy, cuy, Yuy, muy, duy, rfl⟩ := hv.ex; replace a0 := Ext.cellH hE a0; replace a1 := Ext.cellH hE a1; replace a2 := Ext.cellH hE a2; replace a3 := Ext.cellH hE a3; replace a4 := Ext.cellH hE a4; replace a5 := Ext.cellH hE a5; replace b0 := Ext.cellH hE b0; replace b1 := Ext.cellH hE b1; replace b2 := Ext.cellH hE b2; replace b3 := Ext.cellH hE b3; replace b4 := Ext.cellH hE b4; replace b5 := Ext.cellH hE b5; replace c0 := Ext.cellH hE c0; replace c1 := Ext.cellH hE c1; replace c2 := Ext.cellH hE c2; replace HBg := Bx.hext HBg hE; replace HVc := QV.hext HVc hE; replace HVi := JV.hext HVi hE; replace HVt := JV.hext HVt hE; replace HE := Lib.hid (HE.out.tr hE); have HVu := Lib.hid hv; clear hE hv)
      refine hK.out _ _ (by exact ⟨b0, b1, b2, b3, b4, b5, c0, c1, c2⟩) (fun hHeld2 => ?_)
      clear hK K hHeld
      have hHeld := hHeld2
      clear hHeld2
      try simp only [Act.put, List.setIfInBounds_toArray, List.set_cons_zero, List.set_cons_succ]
      refine wpAnyH_ready (rs := [8]) (by kernel_rfl) (by simp) ?_
      refine AllReadyH.cons (o := { dst := some 24, op := Go.Op.call { callee := Go.Callee.value (Go.Operand.func 123), args := #[Go.Operand.tmp 18, Go.Operand.tmp 23], argTypes := #[96, 96] }, type := 96, pos := "ref.go:180", after := #[{ on := 2, ground := Go.Ground.data }, { on := 7, ground := Go.Ground.data }, { on := 7, ground := Go.Ground.chain }], guard := none }) rfl (fun K hK => ?_) AllReadyH.nil
      go_simp
      (go_at_call 123; (with_reducible refine (HP1.out _ _ _ HVt.out HVu.out).mono ?_); rintro e w3 ⟨vn, rfl, hv, hE⟩; obtain ⟨snx, Znx, lnx, cnx, Ynx, mnx, dnx, sny, Zny, lny, cny, Yny, mny, dny, rfl⟩ := hv.ex; replace a0 := Ext.cellH hE a0; replace a1 := Ext.cellH hE a1; replace a2 := Ext.cellH hE a2; replace a3 := Ext.cellH hE a3; replace a4 := Ext.cellH hE a4; replace a5 := Ext.cellH hE a5; replace b0 := Ext.cellH hE b0; replace b1 := Ext.cellH hE b1; replace b2 := Ext.cellH hE b2; replace b3 := Ext.cellH hE b3; replace b4 := Ext.cellH hE b4; replace b5 := Ext.cellH hE b5; replace c0 := Ext.cellH hE c0; replace c1 := Ext.cellH hE c1; replace c2 := Ext.cellH hE c2; replace HBg := Bx.hext HBg hE; replace HVc := QV.hext HVc hE; replace HVi := JV.hext HVi hE; replace HVt := JV.hext HVt hE; replace HVu := JV.hext HVu hE; replace HE := Lib.hid (HE.out.tr hE); have HVn := Lib.hid hv; have f0 := HBg.out.f 0; have f1 := HBg.out.f 1; have f2 := HBg.out.f 2; have f3 := HBg.out.f 3; have f4 := HBg.out.f 4; have f5 := HBg.out.f 5; clear hE hv)
      refine hK.out _ _ (by exact ⟨b0, b1, b2, b3, b4, b5, c0, c1, c2⟩) (fun hHeld2 => ?_)
      clear hK K hHeld
      have hHeld := hHeld2
      clear hHeld2
      try simp only [Act.put, List.setIfInBounds_toArray, List.set_cons_zero, List.set_cons_succ]
      refine wpAnyH_ready (rs := [9]) (by kernel_rfl) (by simp) ?_
      refine AllReadyH.cons (o := { dst := none, op := Go.Op.store 96 (Go.Operand.tmp 5) (Go.Operand.tmp 24), type := 0, pos := "ref.go:180", after := #[{ on := 8, ground := Go.Ground.data }, { on := 8, ground := Go.Ground.chain }, { on := 0, ground := Go.Ground.phase }, { on := 1, ground := Go.Ground.phase }, { on := 2, ground := Go.Ground.phase }, { on := 3, ground := Go.Ground.phase }, { on := 4, ground := Go.Ground.phase }, { on := 5, ground := Go.Ground.phase }, { on := 6, ground := Go.Ground.phase }, { on := 7, ground := Go.Ground.phase }, { on := 8, ground := Go.Ground.phase }], guard := none }) rfl (fun K hK => ?_) AllReadyH.nil
      go_simp
      refine hK.out _ _ (by (try dsimp only); (repeat' apply And.intro) <;> (rw [neC (by omega), neC (by omega), neC (by omega), neC (by omega), neC (by omega), neC (by omega)]; with_reducible assumption)) (fun hHeld2 => ?_)
      clear hK K hHeld
      have hHeld := hHeld2
      clear hHeld2
      try simp only [Act.put, List.setIfInBounds_toArray, List.set_cons_zero, List.set_cons_succ]
      refine wpAnyH_done (by kernel_rfl) ?_ _
      all_goals
        have hN := Lib.hid (bx_set6 HBg.out (.bool snx) (.slice Znx lnx cnx) (.slice Ynx mnx dnx) (.bool sny) (.slice Zny lny cny) (.slice Yny mny dny))
        have hV := Lib.hid (JV.off HVn.out HBg.out nou96 (size6 (.bool snx) (.slice Znx lnx cnx) (.slice Ynx mnx dnx) (.bool sny) (.slice Zny lny cny) (.slice Yny mny dny)) (keep6 (b := g) (.bool snx) (.slice Znx lnx cnx) (.slice Ynx mnx dnx) (.bool sny) (.slice Zny lny cny) (.slice Yny mny dny)))
        have hX := Lib.hid (ext_set6 (b := g) HE.out hgs (.bool snx) (.slice Znx lnx cnx) (.slice Ynx mnx dnx) (.bool sny) (.slice Zny lny cny) (.slice Yny mny dny))
        clear HVn HVt HVu HVc HVi HT1 HP1 HJ HIV HX1 HBg HA
        go_wp2
        go_roundw
        case rel => exact ⟨k, snx, Znx, lnx, cnx, Ynx, mnx, dnx, sny, Zny, lny, cny, Yny, mny, dny, by omega, by go_num, hN, hV, hX⟩
        case measure => simp [intOf]
end Go.Proofs.YtbldlibijojbjaaGreatDoor.GB
