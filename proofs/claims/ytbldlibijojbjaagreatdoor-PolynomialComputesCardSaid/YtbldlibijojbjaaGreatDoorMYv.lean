import Derived.Test.YtbldlibijojbjaaGreatDoorMYt
namespace Go.Proofs.YtbldlibijojbjaaGreatDoor.GB
set_option linter.unusedVariables false
set_option linter.unusedSimpArgs false
open Go.RowKit Go.Shelf
attribute [local go_sem ↓] Go.wp_at_zero Go.wp_at_succ
/-- So many words can be divided. -/
abbrev DivW (n : Nat) : Prop := (wds n).length ≤ 549755813888
def RetQ3 (q : Rat) (w : World) (e : Ending) (w' : World) : Prop := ∃ v, e = .returned v ∧ QV w' v q ∧ Ext w w'
theorem DivW.le {a b : Nat} (h : DivW a) (hb : b ≤ a) : DivW b := Nat.le_trans (wds_mono hb) h
theorem DivW.few {a : Nat} (h : DivW a) : FewW a := Nat.le_trans h (by omega)
theorem low_num {z : Int} {d g : Nat} (hg : g = Nat.gcd z.natAbs d) (hd : d ≠ 0) : (mkRat z d).num = (if decide (z < 0) then -((z.natAbs / g : Nat) : Int) else ((z.natAbs / g : Nat) : Int)) ∧ (mkRat z d).den = d / g := by
  obtain ⟨h1, h2⟩ := rat_lowest z d hd
  rw [h1, h2, ← hg]
  refine ⟨?_, rfl⟩
  have hgd : (g : Int) ∣ z := by rw [hg]; exact Int.ofNat_dvd_left.2 (Nat.gcd_dvd_left _ _)
  have h3 := Int.natAbs_ediv_of_dvd hgd
  rw [Int.natAbs_natCast] at h3
  by_cases hz : z < 0
  · rw [decide_eq_true hz, if_pos rfl, ← h3]
    have hgp : 0 < g := by rw [hg]; exact Nat.gcd_pos_of_pos_right _ (by omega)
    have : z / (g : Int) < 0 := Int.ediv_neg_of_neg_of_pos hz (by omega)
    omega
  · rw [decide_eq_false hz, if_neg (by decide), ← h3]
    have : 0 ≤ z / (g : Int) := Int.ediv_nonneg (by omega) (by omega)
    omega
theorem QV.mk3 {w : World} {b : Bool} {A B : Option Addr} {la ca lb cb : Nat} {z : Int} {q : Rat} {d : Nat} (h1 : ZV w (.agg #[.bool b, .slice A la ca]) z) (h2 : SlN w (.slice B lb cb) d) (hz : q.num = z) (hd : q.den = d) : QV w (.agg #[.bool b, .slice A la ca, .slice B lb cb]) q := by
  obtain ⟨vn, e, h⟩ := h1
  simp only [Value.agg.injEq, Array.mk.injEq, List.cons.injEq, Value.bool.injEq, and_true] at e
  obtain ⟨e1, e2⟩ := e
  exact ⟨_, _, by rw [hz, e1], by rw [hz, e2]; exact h, by rw [hd]; exact h2⟩
set_option maxHeartbeats 4000000 in
set_option maxRecDepth 100000 in
theorem low_one (b : Bool) (A B : Option Addr) (la ca lb cb : Nat) (z : Int) (d : Nat) (w : World) (h1 : ZV w (.agg #[.bool b, .slice A la ca]) z) (h2 : SlN w (.slice B lb cb) d) (hd : 0 < d) (hz : DivW z.natAbs) (hdw : DivW d) (hg1 : Nat.gcd z.natAbs d = 1) :
    Calls Tryz.prog 133 #[.agg #[.bool b, .slice A la ca], .slice B lb cb] w (RetQ3 (mkRat z d) w) := by
  have hbz : b = decide (z < 0) ∧ SlN w (.slice A la ca) z.natAbs := by
    obtain ⟨vn, e, h⟩ := h1
    simp only [Value.agg.injEq, Array.mk.injEq, List.cons.injEq, Value.bool.injEq, and_true] at e
    obtain ⟨e1, e2⟩ := e
    exact ⟨e1, by rw [e2]; exact h⟩
  have hsn := hbz.2
  have HBz := Lib.hid hbz.1
  obtain ⟨g, hge⟩ : ∃ g, g = Nat.gcd z.natAbs d := ⟨_, rfl⟩
  have hgp : 0 < g := by rw [hge]; exact Nat.gcd_pos_of_pos_right _ hd
  have hgle : g ≤ d := by rw [hge]; exact Nat.gcd_le_right _ hd
  have HLow := Lib.hid (low_num hge (by omega : d ≠ 0))
  have HCom : Hid (∀ W, Ext w W → Calls Tryz.prog 112 #[.slice A la ca, .slice B lb cb] W fun e w' => ∃ v, e = .returned v ∧ SlN w' v g ∧ Ext W w') := fun W hE => by
    rw [hge]
    exact zCommon_any _ _ z.natAbs d (max z.natAbs d) W (SlN.ext hsn hE) (SlN.ext h2 hE) (Nat.le_max_left _ _) (Nat.le_max_right _ _) (OverC.all _ W (by rcases Nat.le_total z.natAbs d with h | h; rw [Nat.max_eq_right h]; exact hdw; rw [Nat.max_eq_left h]; exact hz)) (Nat.le_trans (by rcases Nat.le_total z.natAbs d with h | h; rw [Nat.max_eq_right h]; exact hdw; rw [Nat.max_eq_left h]; exact hz) (by omega))
  rw [← hge] at hg1
  have H1 := Lib.hid h1
  have H2 := Lib.hid h2
  clear h1 h2 hbz hsn hz hdw hge hd
  go_enter Tryz.func133, Tryz.ntmps133
  go_wp2_with fail
  have HX1 := Lib.hid ((Bx.new w #[.bool b, .slice A la ca] 84).al (.cells #[.bool false, .slice none 0 0, .slice none 0 0] 86))
  have HX2 := Lib.hid (Bx.new (w.alloc (.cells #[.bool b, .slice A la ca] 84)) #[.bool false, .slice none 0 0, .slice none 0 0] 86)
  rw [World.size_alloc] at HX2
  have HE := Lib.hid (((Ext.rfl' w).al (.cells #[.bool b, .slice A la ca] 84)).al (.cells #[.bool false, .slice none 0 0, .slice none 0 0] 86))
  refine (HCom.out _ HE.out).mono ?_
  rintro e w1 ⟨vg, rfl, hg, hE⟩
  replace HX1 := Lib.hid (HX1.out.ext hE)
  replace HX2 := Lib.hid (HX2.out.ext hE)
  replace HE := Lib.hid (HE.out.tr hE)
  have HG := Lib.hid hg
  obtain ⟨G, cg, rfl⟩ := SlN.slc hg
  subst hg1
  have hgl : (wds 1).length = 1 := by rw [wds_pos (by decide), show 1 / BB = 0 by decide, wds_zero]; rfl
  obtain ⟨bg, og, rfl, -, hc⟩ := (SlN.rd hg).2 0 (by omega)
  have cg0 : w1.cell? ⟨bg, og, none⟩ = some (.int .u32 1) := by
    have e : (wds 1)[0]'(by omega) = 1 := by simp [wds_small (by decide : 1 ≠ 0) (by omega : 1 < 1000000000)]
    rw [Nat.add_zero] at hc
    rw [hc, e]; rfl
  rw [hgl]
  have x0 : w1.cell? ⟨w.heap.size, 0, none⟩ = some (.bool b) := HX1.out.c 0
  have x1 : w1.cell? ⟨w.heap.size, 1, none⟩ = some (.slice A la ca) := HX1.out.c 1
  have HQ : Hid (QV w1 (.agg #[.bool b, .slice A la ca, .slice B lb cb]) (mkRat z d)) := QV.mk3 (H1.out.ext HE.out) (SlN.ext H2.out HE.out) (by rw [HLow.out.1, Nat.div_one]; by_cases h : z < 0; simp [h]; omega; simp [h]; omega) (by rw [HLow.out.2, Nat.div_one])
  clear hg hc hgl hE HG
  have c0 : w1.cell? ⟨w.heap.size + 1, 0, none⟩ = some (.bool false) := HX2.out.c 0
  have c1 : w1.cell? ⟨w.heap.size + 1, 1, none⟩ = some (.slice none 0 0) := HX2.out.c 1
  have c2 : w1.cell? ⟨w.heap.size + 1, 2, none⟩ = some (.slice none 0 0) := HX2.out.c 2
  have f0 := HX2.out.f 0
  have f1 := HX2.out.f 1
  have f2 := HX2.out.f 2
  obtain ⟨d0, d1, d2⟩ := set3 HX2.out (.bool b) (.slice A la ca) (.slice B lb cb)
  have HZ := Lib.hid (QV.off HQ.out HX2.out nou3 (size3 (.bool b) (.slice A la ca) (.slice B lb cb)) (keep3 (g := w.heap.size + 1) (.bool b) (.slice A la ca) (.slice B lb cb)))
  have HEF := Lib.hid (ext_set3 (b := w.heap.size + 1) HE.out (by omega) (.bool b) (.slice A la ca) (.slice B lb cb))
  clear HQ HX2 HE
  go_wp2_with fail
  refine bodyPost_ret (v := .agg #[.bool b, .slice A la ca, .slice B lb cb]) ?_ rfl ⟨_, rfl, HZ.out, HEF.out⟩
  simp [results, Tryz.f133, go_sem, d0, d1, d2]
set_option maxHeartbeats 4000000 in
set_option maxRecDepth 100000 in
theorem low_sg (b : Bool) (A B : Option Addr) (la ca lb cb : Nat) (z : Int) (d : Nat) (w : World) (h1 : ZV w (.agg #[.bool b, .slice A la ca]) z) (h2 : SlN w (.slice B lb cb) d) (hd : 0 < d) (hz : DivW z.natAbs) (hdw : DivW d) (hg1 : Nat.gcd z.natAbs d ≠ 1) (hgl : (wds (Nat.gcd z.natAbs d)).length = 1) :
    Calls Tryz.prog 133 #[.agg #[.bool b, .slice A la ca], .slice B lb cb] w (RetQ3 (mkRat z d) w) := by
  have hbz : b = decide (z < 0) ∧ SlN w (.slice A la ca) z.natAbs := by
    obtain ⟨vn, e, h⟩ := h1
    simp only [Value.agg.injEq, Array.mk.injEq, List.cons.injEq, Value.bool.injEq, and_true] at e
    obtain ⟨e1, e2⟩ := e
    exact ⟨e1, by rw [e2]; exact h⟩
  have hsn := hbz.2
  have HBz := Lib.hid hbz.1
  obtain ⟨g, hge⟩ : ∃ g, g = Nat.gcd z.natAbs d := ⟨_, rfl⟩
  have hgp : 0 < g := by rw [hge]; exact Nat.gcd_pos_of_pos_right _ hd
  have hgle : g ≤ d := by rw [hge]; exact Nat.gcd_le_right _ hd
  have HLow := Lib.hid (low_num hge (by omega : d ≠ 0))
  have HCom : Hid (∀ W, Ext w W → Calls Tryz.prog 112 #[.slice A la ca, .slice B lb cb] W fun e w' => ∃ v, e = .returned v ∧ SlN w' v g ∧ Ext W w') := fun W hE => by
    rw [hge]
    exact zCommon_any _ _ z.natAbs d (max z.natAbs d) W (SlN.ext hsn hE) (SlN.ext h2 hE) (Nat.le_max_left _ _) (Nat.le_max_right _ _) (OverC.all _ W (by rcases Nat.le_total z.natAbs d with h | h; rw [Nat.max_eq_right h]; exact hdw; rw [Nat.max_eq_left h]; exact hz)) (Nat.le_trans (by rcases Nat.le_total z.natAbs d with h | h; rw [Nat.max_eq_right h]; exact hdw; rw [Nat.max_eq_left h]; exact hz) (by omega))
  rw [← hge] at hg1 hgl
  have HO1 : Hid (∀ W vg, Ext w W → SlN W vg g → Calls Tryz.prog 141 #[.slice A la ca, vg] W (OverR z.natAbs g W)) := fun W vg hE hg => zOver_v _ _ z.natAbs g W (SlN.ext hsn hE) hg hgp hz (hdw.le hgle)
  have HO2 : Hid (∀ W vg, Ext w W → SlN W vg g → Calls Tryz.prog 141 #[.slice B lb cb, vg] W (OverR d g W)) := fun W vg hE hg => zOver_v _ _ d g W (SlN.ext h2 hE) hg hgp hdw (hdw.le hgle)
  have H1 := Lib.hid h1
  have H2 := Lib.hid h2
  clear h1 h2 hbz hsn hz hdw hge hd
  go_enter Tryz.func133, Tryz.ntmps133
  go_wp2_with fail
  have HX1 := Lib.hid ((Bx.new w #[.bool b, .slice A la ca] 84).al (.cells #[.bool false, .slice none 0 0, .slice none 0 0] 86))
  have HX2 := Lib.hid (Bx.new (w.alloc (.cells #[.bool b, .slice A la ca] 84)) #[.bool false, .slice none 0 0, .slice none 0 0] 86)
  rw [World.size_alloc] at HX2
  have HE := Lib.hid (((Ext.rfl' w).al (.cells #[.bool b, .slice A la ca] 84)).al (.cells #[.bool false, .slice none 0 0, .slice none 0 0] 86))
  refine (HCom.out _ HE.out).mono ?_
  rintro e w1 ⟨vg, rfl, hg, hE⟩
  replace HX1 := Lib.hid (HX1.out.ext hE)
  replace HX2 := Lib.hid (HX2.out.ext hE)
  replace HE := Lib.hid (HE.out.tr hE)
  have HG := Lib.hid hg
  obtain ⟨G, cg, rfl⟩ := SlN.slc hg
  have hg9 : g < 1000000000 := by have := wds_len_lt g; rw [hgl, Nat.pow_one, BB_eq] at this; exact this
  obtain ⟨bg, og, rfl, -, hc⟩ := (SlN.rd hg).2 0 (by omega)
  have cg0 : w1.cell? ⟨bg, og, none⟩ = some (.int .u32 (g : Int)) := by
    have e : (wds g)[0]'(by omega) = g := by simp [wds_small (by omega : g ≠ 0) hg9]
    rw [Nat.add_zero] at hc
    rw [hc, e]
  have hne : ((g : Int) == 1) = false := by rw [beq_eq_false_iff_ne]; omega
  rw [hgl] at HG ⊢
  clear hc hg9
  have x1 : w1.cell? ⟨w.heap.size, 1, none⟩ = some (.slice A la ca) := HX1.out.c 1
  clear hE hg
  go_wp2_with fail
  refine (HO1.out _ _ HE.out HG.out).mono ?_
  rintro e w2 ⟨vn, vx, rfl, hn, -, hE⟩
  replace HX1 := Lib.hid (HX1.out.ext hE)
  replace HX2 := Lib.hid (HX2.out.ext hE)
  replace HE := Lib.hid (HE.out.tr hE)
  replace HG := Lib.hid (SlN.ext HG.out hE)
  have HN := Lib.hid hn
  clear x1 hE hn
  go_wp2_with fail
  refine (HO2.out _ _ HE.out HG.out).mono ?_
  rintro e w3 ⟨vm, vy, rfl, hm, -, hE⟩
  replace HX1 := Lib.hid (HX1.out.ext hE)
  replace HX2 := Lib.hid (HX2.out.ext hE)
  replace HE := Lib.hid (HE.out.tr hE)
  replace HN := Lib.hid (SlN.ext HN.out hE)
  have HM := Lib.hid hm
  have x0 : w3.cell? ⟨w.heap.size, 0, none⟩ = some (.bool b) := HX1.out.c 0
  obtain ⟨Bm, lm, cm, rfl⟩ := SlN.sl3 hm
  clear hE hm
  go_wp2_with fail
  refine (z2Make_any b _ _ _ HN.out).mono ?_
  rintro e w4 ⟨vz, rfl, hvz, hE⟩
  obtain ⟨bz, Az, lz, cz, rfl, -, -⟩ := hvz.ex
  replace HX2 := Lib.hid (HX2.out.ext hE)
  replace HE := Lib.hid (HE.out.tr hE)
  replace HM := Lib.hid (SlN.ext HM.out hE)
  have HQ : Hid (QV w4 (.agg #[.bool bz, .slice Az lz cz, .slice Bm lm cm]) (mkRat z d)) := QV.mk3 hvz HM.out (by rw [HLow.out.1, HBz.out]) HLow.out.2
  clear hE hvz x0 HX1
  have c0 : w4.cell? ⟨w.heap.size + 1, 0, none⟩ = some (.bool false) := HX2.out.c 0
  have c1 : w4.cell? ⟨w.heap.size + 1, 1, none⟩ = some (.slice none 0 0) := HX2.out.c 1
  have c2 : w4.cell? ⟨w.heap.size + 1, 2, none⟩ = some (.slice none 0 0) := HX2.out.c 2
  have f0 := HX2.out.f 0
  have f1 := HX2.out.f 1
  have f2 := HX2.out.f 2
  obtain ⟨d0, d1, d2⟩ := set3 HX2.out (.bool bz) (.slice Az lz cz) (.slice Bm lm cm)
  have HZ := Lib.hid (QV.off HQ.out HX2.out nou3 (size3 (.bool bz) (.slice Az lz cz) (.slice Bm lm cm)) (keep3 (g := w.heap.size + 1) (.bool bz) (.slice Az lz cz) (.slice Bm lm cm)))
  have HEF := Lib.hid (ext_set3 (b := w.heap.size + 1) HE.out (by omega) (.bool bz) (.slice Az lz cz) (.slice Bm lm cm))
  clear HQ HX2 HE
  go_wp2_with fail
  refine bodyPost_ret (v := .agg #[.bool bz, .slice Az lz cz, .slice Bm lm cm]) ?_ rfl ⟨_, rfl, HZ.out, HEF.out⟩
  simp [results, Tryz.f133, go_sem, d0, d1, d2]
set_option maxHeartbeats 4000000 in
set_option maxRecDepth 100000 in
theorem low_big (b : Bool) (A B : Option Addr) (la ca lb cb : Nat) (z : Int) (d : Nat) (w : World) (h1 : ZV w (.agg #[.bool b, .slice A la ca]) z) (h2 : SlN w (.slice B lb cb) d) (hd : 0 < d) (hz : DivW z.natAbs) (hdw : DivW d) (hgl : (wds (Nat.gcd z.natAbs d)).length ≠ 1) :
    Calls Tryz.prog 133 #[.agg #[.bool b, .slice A la ca], .slice B lb cb] w (RetQ3 (mkRat z d) w) := by
  have hbz : b = decide (z < 0) ∧ SlN w (.slice A la ca) z.natAbs := by
    obtain ⟨vn, e, h⟩ := h1
    simp only [Value.agg.injEq, Array.mk.injEq, List.cons.injEq, Value.bool.injEq, and_true] at e
    obtain ⟨e1, e2⟩ := e
    exact ⟨e1, by rw [e2]; exact h⟩
  have hsn := hbz.2
  have HBz := Lib.hid hbz.1
  obtain ⟨g, hge⟩ : ∃ g, g = Nat.gcd z.natAbs d := ⟨_, rfl⟩
  have hgp : 0 < g := by rw [hge]; exact Nat.gcd_pos_of_pos_right _ hd
  have hgle : g ≤ d := by rw [hge]; exact Nat.gcd_le_right _ hd
  have HLow := Lib.hid (low_num hge (by omega : d ≠ 0))
  have HCom : Hid (∀ W, Ext w W → Calls Tryz.prog 112 #[.slice A la ca, .slice B lb cb] W fun e w' => ∃ v, e = .returned v ∧ SlN w' v g ∧ Ext W w') := fun W hE => by
    rw [hge]
    exact zCommon_any _ _ z.natAbs d (max z.natAbs d) W (SlN.ext hsn hE) (SlN.ext h2 hE) (Nat.le_max_left _ _) (Nat.le_max_right _ _) (OverC.all _ W (by rcases Nat.le_total z.natAbs d with h | h; rw [Nat.max_eq_right h]; exact hdw; rw [Nat.max_eq_left h]; exact hz)) (Nat.le_trans (by rcases Nat.le_total z.natAbs d with h | h; rw [Nat.max_eq_right h]; exact hdw; rw [Nat.max_eq_left h]; exact hz) (by omega))
  rw [← hge] at hgl
  have HO1 : Hid (∀ W vg, Ext w W → SlN W vg g → Calls Tryz.prog 141 #[.slice A la ca, vg] W (OverR z.natAbs g W)) := fun W vg hE hg => zOver_v _ _ z.natAbs g W (SlN.ext hsn hE) hg hgp hz (hdw.le hgle)
  have HO2 : Hid (∀ W vg, Ext w W → SlN W vg g → Calls Tryz.prog 141 #[.slice B lb cb, vg] W (OverR d g W)) := fun W vg hE hg => zOver_v _ _ d g W (SlN.ext h2 hE) hg hgp hdw (hdw.le hgle)
  have H1 := Lib.hid h1
  have H2 := Lib.hid h2
  clear h1 h2 hbz hsn hz hdw hge hd
  go_enter Tryz.func133, Tryz.ntmps133
  go_wp2_with fail
  have HX1 := Lib.hid ((Bx.new w #[.bool b, .slice A la ca] 84).al (.cells #[.bool false, .slice none 0 0, .slice none 0 0] 86))
  have HX2 := Lib.hid (Bx.new (w.alloc (.cells #[.bool b, .slice A la ca] 84)) #[.bool false, .slice none 0 0, .slice none 0 0] 86)
  rw [World.size_alloc] at HX2
  have HE := Lib.hid (((Ext.rfl' w).al (.cells #[.bool b, .slice A la ca] 84)).al (.cells #[.bool false, .slice none 0 0, .slice none 0 0] 86))
  refine (HCom.out _ HE.out).mono ?_
  rintro e w1 ⟨vg, rfl, hg, hE⟩
  replace HX1 := Lib.hid (HX1.out.ext hE)
  replace HX2 := Lib.hid (HX2.out.ext hE)
  replace HE := Lib.hid (HE.out.tr hE)
  have HG := Lib.hid hg
  obtain ⟨G, cg, rfl⟩ := SlN.slc hg
  obtain ⟨gl, hgle2⟩ : ∃ gl, (wds g).length = gl := ⟨_, rfl⟩
  rw [hgle2] at HG hgl ⊢
  have hne : ((gl : Int) == 1) = false := by rw [beq_eq_false_iff_ne]; omega
  clear hgle2 hgl
  have x1 : w1.cell? ⟨w.heap.size, 1, none⟩ = some (.slice A la ca) := HX1.out.c 1
  clear hE hg
  go_wp2_with fail
  refine (HO1.out _ _ HE.out HG.out).mono ?_
  rintro e w2 ⟨vn, vx, rfl, hn, -, hE⟩
  replace HX1 := Lib.hid (HX1.out.ext hE)
  replace HX2 := Lib.hid (HX2.out.ext hE)
  replace HE := Lib.hid (HE.out.tr hE)
  replace HG := Lib.hid (SlN.ext HG.out hE)
  have HN := Lib.hid hn
  clear x1 hE hn
  go_wp2_with fail
  refine (HO2.out _ _ HE.out HG.out).mono ?_
  rintro e w3 ⟨vm, vy, rfl, hm, -, hE⟩
  replace HX1 := Lib.hid (HX1.out.ext hE)
  replace HX2 := Lib.hid (HX2.out.ext hE)
  replace HE := Lib.hid (HE.out.tr hE)
  replace HN := Lib.hid (SlN.ext HN.out hE)
  have HM := Lib.hid hm
  have x0 : w3.cell? ⟨w.heap.size, 0, none⟩ = some (.bool b) := HX1.out.c 0
  obtain ⟨Bm, lm, cm, rfl⟩ := SlN.sl3 hm
  clear hE hm
  go_wp2_with fail
  refine (z2Make_any b _ _ _ HN.out).mono ?_
  rintro e w4 ⟨vz, rfl, hvz, hE⟩
  obtain ⟨bz, Az, lz, cz, rfl, -, -⟩ := hvz.ex
  replace HX2 := Lib.hid (HX2.out.ext hE)
  replace HE := Lib.hid (HE.out.tr hE)
  replace HM := Lib.hid (SlN.ext HM.out hE)
  have HQ : Hid (QV w4 (.agg #[.bool bz, .slice Az lz cz, .slice Bm lm cm]) (mkRat z d)) := QV.mk3 hvz HM.out (by rw [HLow.out.1, HBz.out]) HLow.out.2
  clear hE hvz x0 HX1
  have c0 : w4.cell? ⟨w.heap.size + 1, 0, none⟩ = some (.bool false) := HX2.out.c 0
  have c1 : w4.cell? ⟨w.heap.size + 1, 1, none⟩ = some (.slice none 0 0) := HX2.out.c 1
  have c2 : w4.cell? ⟨w.heap.size + 1, 2, none⟩ = some (.slice none 0 0) := HX2.out.c 2
  have f0 := HX2.out.f 0
  have f1 := HX2.out.f 1
  have f2 := HX2.out.f 2
  obtain ⟨d0, d1, d2⟩ := set3 HX2.out (.bool bz) (.slice Az lz cz) (.slice Bm lm cm)
  have HZ := Lib.hid (QV.off HQ.out HX2.out nou3 (size3 (.bool bz) (.slice Az lz cz) (.slice Bm lm cm)) (keep3 (g := w.heap.size + 1) (.bool bz) (.slice Az lz cz) (.slice Bm lm cm)))
  have HEF := Lib.hid (ext_set3 (b := w.heap.size + 1) HE.out (by omega) (.bool bz) (.slice Az lz cz) (.slice Bm lm cm))
  clear HQ HX2 HE
  go_wp2_with fail
  refine bodyPost_ret (v := .agg #[.bool bz, .slice Az lz cz, .slice Bm lm cm]) ?_ rfl ⟨_, rfl, HZ.out, HEF.out⟩
  simp [results, Tryz.f133, go_sem, d0, d1, d2]
/-- A quotient in lowest terms. -/
theorem q3low_v (vz vd : Value) (z : Int) (d : Nat) (w : World) (h1 : ZV w vz z) (h2 : SlN w vd d) (hd : 0 < d) (hz : DivW z.natAbs) (hdw : DivW d) :
    Calls Tryz.prog 133 #[vz, vd] w (RetQ3 (mkRat z d) w) := by
  obtain ⟨b, A, la, ca, rfl, -, -⟩ := h1.ex
  obtain ⟨B, lb, cb, rfl⟩ := SlN.sl3 h2
  by_cases hgl : (wds (Nat.gcd z.natAbs d)).length = 1
  · by_cases hg1 : Nat.gcd z.natAbs d = 1
    · exact low_one b A B la ca lb cb z d w h1 h2 hd hz hdw hg1
    · exact low_sg b A B la ca lb cb z d w h1 h2 hd hz hdw hg1 hgl
  · exact low_big b A B la ca lb cb z d w h1 h2 hd hz hdw hgl
end Go.Proofs.YtbldlibijojbjaaGreatDoor.GB

namespace Go.Proofs.YtbldlibijojbjaaGreatDoor.GB
set_option linter.unusedVariables false
set_option linter.unusedSimpArgs false
open Go.RowKit Go.Shelf
attribute [local go_sem ↓] Go.wp_at_zero Go.wp_at_succ
theorem neC {w : World} {b c i j : Nat} {u : Value} (h : c ≠ b) : (w.setCell ⟨b, i, none⟩ u).cell? ⟨c, j, none⟩ = w.cell? ⟨c, j, none⟩ :=
  World.cell?_setCell_other _ _ _ _ (by intro e; injection e with e; omega)
theorem bd_fit {q : Rat} {n : Nat} (h : Bd q n) (hn : n + 1 ≤ KK) : Fit q.num.natAbs ∧ Fit q.den :=
  ⟨Fit.of (k := n) (by omega) h.1, Fit.of (k := n + 1) hn (Nat.lt_of_le_of_lt h.2 (Nat.pow_lt_pow_right (by omega) (by omega)))⟩
theorem bd_mulfit {x y : Rat} {n m : Nat} (hx : Bd x n) (hy : Bd y m) (hk : n + m + 1 ≤ KK) : Fit (x.num * y.num).natAbs ∧ Fit (x.den * y.den) := by
  constructor
  · refine Fit.of (k := n + m) (by omega) ?_
    rw [Int.natAbs_mul, Nat.pow_add]
    exact Nat.mul_lt_mul_of_lt_of_le hx.1 (Nat.le_of_lt hy.1) (Nat.two_pow_pos m)
  · refine Fit.of (k := n + m + 1) hk ?_
    have h : x.den * y.den ≤ 2 ^ (n + m) := by rw [Nat.pow_add]; exact Nat.mul_le_mul hx.2 hy.2
    have : 2 ^ (n + m) < 2 ^ (n + m + 1) := Nat.pow_lt_pow_right (by omega) (by omega)
    omega
theorem QV.z {w : World} {b : Bool} {A B : Option Addr} {la ca lb cb : Nat} {q : Rat} (h : QV w (.agg #[.bool b, .slice A la ca, .slice B lb cb]) q) : ZV w (.agg #[.bool b, .slice A la ca]) q.num ∧ SlN w (.slice B lb cb) q.den ∧ SlN w (.slice A la ca) q.num.natAbs ∧ b = decide (q.num < 0) := by
  obtain ⟨vn, vd, e, h1, h2⟩ := h
  simp only [Value.agg.injEq, Array.mk.injEq, List.cons.injEq, Value.bool.injEq, and_true] at e
  obtain ⟨e1, e2, e3⟩ := e
  subst e2 e3
  exact ⟨⟨_, by rw [e1], h1⟩, h2, h1, e1⟩
set_option maxHeartbeats 8000000 in
set_option maxRecDepth 200000 in
theorem q3Mul_v (v1 v2 : Value) (x y : Rat) (n m : Nat) (w : World) (h1 : QV w v1 x) (h2 : QV w v2 y) (hx : Bd x n) (hy : Bd y m) (hk : n + m + 2 ≤ KK) :
    Calls Tryz.prog 115 #[v1, v2] w (RetQ3 (x * y) w) := by
  obtain ⟨fx1, fx2⟩ := bd_fit hx (by omega)
  obtain ⟨fy1, fy2⟩ := bd_fit hy (by omega)
  obtain ⟨fm1, fm2⟩ := bd_mulfit hx hy (by omega)
  obtain ⟨ba, A, la, ca, B, lb, cb, rfl, -, -, -⟩ := h1.ex
  obtain ⟨bb, C, lc, cc, D, ld, cd, rfl, -, -, -⟩ := h2.ex
  have HT : Hid (∀ W, Ext w W → Calls Tryz.prog 142 #[.agg #[.bool ba, .slice A la ca], .agg #[.bool bb, .slice C lc cc]] W (RetZ (x.num * y.num) W)) := fun W hE => z2Times_v _ _ _ _ W (h1.ext hE).z.1 (h2.ext hE).z.1 (DivW.few fx1.len) (DivW.few fy1.len)
  have HN : Hid (∀ W, Ext w W → Calls Tryz.prog 136 #[.slice B lb cb, .slice D ld cd] W fun e w' => ∃ v, e = .returned v ∧ SlN w' v (x.den * y.den) ∧ Ext W w') := fun W hE => zTimes_v _ _ _ _ W (h1.ext hE).z.2.1 (h2.ext hE).z.2.1 (DivW.few fx2.len) (DivW.few fy2.len)
  have HL : Hid (∀ W vz vd, ZV W vz (x.num * y.num) → SlN W vd (x.den * y.den) → Calls Tryz.prog 133 #[vz, vd] W (RetQ3 (x * y) W)) := fun W vz vd hz hd => by
    rw [Rat.mul_def, Rat.normalize_eq_mkRat]
    exact q3low_v vz vd _ _ W hz hd (Nat.mul_pos x.den_pos y.den_pos) fm1.len fm2.len
  clear h1 h2 hx hy hk fx1 fx2 fy1 fy2 fm1 fm2
  go_enter Tryz.func115, Tryz.ntmps115
  go_wp2_with fail
  obtain ⟨X1, X2, X3, E0⟩ := boxes3 w #[.bool ba, .slice A la ca, .slice B lb cb] #[.bool bb, .slice C lc cc, .slice D ld cd] #[.bool false, .slice none 0 0, .slice none 0 0] 86
  have a0 : (((w.alloc (.cells #[.bool ba, .slice A la ca, .slice B lb cb] 86)).alloc (.cells #[.bool bb, .slice C lc cc, .slice D ld cd] 86)).alloc (.cells #[.bool false, .slice none 0 0, .slice none 0 0] 86)).cell? ⟨w.heap.size, 0, none⟩ = some (.bool ba) := X1.c 0
  have a1 : (((w.alloc (.cells #[.bool ba, .slice A la ca, .slice B lb cb] 86)).alloc (.cells #[.bool bb, .slice C lc cc, .slice D ld cd] 86)).alloc (.cells #[.bool false, .slice none 0 0, .slice none 0 0] 86)).cell? ⟨w.heap.size, 1, none⟩ = some (.slice A la ca) := X1.c 1
  have a2 : (((w.alloc (.cells #[.bool ba, .slice A la ca, .slice B lb cb] 86)).alloc (.cells #[.bool bb, .slice C lc cc, .slice D ld cd] 86)).alloc (.cells #[.bool false, .slice none 0 0, .slice none 0 0] 86)).cell? ⟨w.heap.size, 2, none⟩ = some (.slice B lb cb) := X1.c 2
  have b0 : (((w.alloc (.cells #[.bool ba, .slice A la ca, .slice B lb cb] 86)).alloc (.cells #[.bool bb, .slice C lc cc, .slice D ld cd] 86)).alloc (.cells #[.bool false, .slice none 0 0, .slice none 0 0] 86)).cell? ⟨w.heap.size + 1, 0, none⟩ = some (.bool bb) := X2.c 0
  have b1 : (((w.alloc (.cells #[.bool ba, .slice A la ca, .slice B lb cb] 86)).alloc (.cells #[.bool bb, .slice C lc cc, .slice D ld cd] 86)).alloc (.cells #[.bool false, .slice none 0 0, .slice none 0 0] 86)).cell? ⟨w.heap.size + 1, 1, none⟩ = some (.slice C lc cc) := X2.c 1
  have b2 : (((w.alloc (.cells #[.bool ba, .slice A la ca, .slice B lb cb] 86)).alloc (.cells #[.bool bb, .slice C lc cc, .slice D ld cd] 86)).alloc (.cells #[.bool false, .slice none 0 0, .slice none 0 0] 86)).cell? ⟨w.heap.size + 1, 2, none⟩ = some (.slice D ld cd) := X2.c 2
  have HX0 := Lib.hid X3
  have HE0 := Lib.hid E0
  clear X1 X2 X3 E0
  generalize ((w.alloc (.cells #[.bool ba, .slice A la ca, .slice B lb cb] 86)).alloc (.cells #[.bool bb, .slice C lc cc, .slice D ld cd] 86)).alloc (.cells #[.bool false, .slice none 0 0, .slice none 0 0] 86) = W0 at *
  go_region_held3 (fun w' => w'.cell? ⟨w.heap.size, 0, none⟩ = some (.bool ba) ∧ w'.cell? ⟨w.heap.size, 1, none⟩ = some (.slice A la ca) ∧ w'.cell? ⟨w.heap.size, 2, none⟩ = some (.slice B lb cb) ∧ w'.cell? ⟨w.heap.size + 1, 0, none⟩ = some (.bool bb) ∧ w'.cell? ⟨w.heap.size + 1, 1, none⟩ = some (.slice C lc cc) ∧ w'.cell? ⟨w.heap.size + 1, 2, none⟩ = some (.slice D ld cd)) (((try dsimp only); (repeat' apply And.intro) <;> (first | (with_reducible assumption) | (rw [World.cell?_setCell_other _ _ _ _ (by intro h; injection h with h; omega), World.cell?_setCell_other _ _ _ _ (by intro h; injection h with h; omega), World.cell?_setCell_other _ _ _ _ (by intro h; injection h with h; omega)]; with_reducible assumption) | (rw [World.cell?_setCell_other _ _ _ _ (by intro h; injection h with h; omega), World.cell?_setCell_other _ _ _ _ (by intro h; injection h with h; omega)]; with_reducible assumption) | ((go_keep); done))))
    (first
      | (go_at_call 142; (with_reducible refine (HT.out _ (Ext.dr' HE0)).mono ?_); rintro e w1 ⟨v1, rfl, hv1, hE1⟩; obtain ⟨s1, Z1, l1, c1, rfl, -, -⟩ := hv1.ex; have HV1 := Lib.hid hv1; have HX1 := Lib.hid ((show Bx W0.drew _ _ _ from HX0.out).ext hE1); have HE1 := Lib.hid ((Ext.dr' HE0).tr hE1); have q1_0 := Ext.cellD hE1 a0; have q1_1 := Ext.cellD hE1 a1; have q1_2 := Ext.cellD hE1 a2; have q1_3 := Ext.cellD hE1 b0; have q1_4 := Ext.cellD hE1 b1; have q1_5 := Ext.cellD hE1 b2; clear hE1 hv1)
      | (go_at_call 136; (with_reducible refine (HN.out _ HE1.out).mono ?_); rintro e w2 ⟨v2, rfl, hv2, hE2⟩; obtain ⟨Z2, l2, c2, rfl⟩ := SlN.sl3 hv2; have HV2 := Lib.hid hv2; have HV1_2 := ZV.hext HV1 hE2; have HX2 := Lib.hid (HX1.out.ext hE2); have HE2 := Lib.hid (HE1.out.tr hE2); have q2_0 := Ext.cellH hE2 q1_0; have q2_1 := Ext.cellH hE2 q1_1; have q2_2 := Ext.cellH hE2 q1_2; have q2_3 := Ext.cellH hE2 q1_3; have q2_4 := Ext.cellH hE2 q1_4; have q2_5 := Ext.cellH hE2 q1_5; clear hE2 hv2)
      | (go_at_call 133; (with_reducible refine (HL.out _ _ _ HV1_2.out HV2.out).mono ?_); rintro e w3 ⟨v3, rfl, hv3, hE3⟩; obtain ⟨s3, Z3, l3, c3, Y3, m3, d3, rfl, -, -, -⟩ := hv3.ex; have HV3 := Lib.hid hv3; have HV1_3 := ZV.hext HV1_2 hE3; have HV2_3 := SlN.hext HV2 hE3; have HX3 := Lib.hid (HX2.out.ext hE3); have HE3 := Lib.hid (HE2.out.tr hE3); have q3_0 := Ext.cellH hE3 q2_0; have q3_1 := Ext.cellH hE3 q2_1; have q3_2 := Ext.cellH hE3 q2_2; have q3_3 := Ext.cellH hE3 q2_3; have q3_4 := Ext.cellH hE3 q2_4; have q3_5 := Ext.cellH hE3 q2_5; have y0 : w3.cell? ⟨w.heap.size + 1 + 1, 0, none⟩ = some (.bool false) := HX3.out.c 0; have y1 : w3.cell? ⟨w.heap.size + 1 + 1, 1, none⟩ = some (.slice none 0 0) := HX3.out.c 1; have y2 : w3.cell? ⟨w.heap.size + 1 + 1, 2, none⟩ = some (.slice none 0 0) := HX3.out.c 2; have f0 := HX3.out.f 0; have f1 := HX3.out.f 1; have f2 := HX3.out.f 2; clear hE3 hv3))
  all_goals
    go_wp2_with fail
    obtain ⟨d0', d1', d2'⟩ := set3 HX3.out (.bool s3) (.slice Z3 l3 c3) (.slice Y3 m3 d3)
    have HZ := QV.off HV3.out HX3.out nou3 (size3 (.bool s3) (.slice Z3 l3 c3) (.slice Y3 m3 d3)) (keep3 (g := w.heap.size + 1 + 1) (.bool s3) (.slice Z3 l3 c3) (.slice Y3 m3 d3))
    refine bodyPost_ret (v := .agg #[.bool s3, .slice Z3 l3 c3, .slice Y3 m3 d3]) ?_ rfl ⟨_, rfl, HZ, ext_set3 (b := w.heap.size + 1 + 1) HE3.out (by omega) _ _ _⟩
    simp [results, Tryz.f115, go_sem, d0', d1', d2']
theorem rinv_nd {x : Rat} (hx : x ≠ 0) : (x⁻¹).num = (if decide (x.num < 0) then -((x.den : Nat) : Int) else ((x.den : Nat) : Int)) ∧ (x⁻¹).den = x.num.natAbs := by
  have hn : x.num ≠ 0 := fun e => hx (Rat.num_eq_zero.1 e)
  rw [Rat.num_inv, Rat.den_inv]
  constructor
  · by_cases h : x.num < 0
    · rw [decide_eq_true h, if_pos rfl, Int.sign_eq_neg_one_of_neg h]; omega
    · rw [decide_eq_false h, if_neg (by decide), Int.sign_eq_one_of_pos (by omega)]; omega
  · rw [if_neg hn]
set_option maxHeartbeats 8000000 in
set_option maxRecDepth 200000 in
theorem q3Inv_true (A B : Option Addr) (la ca lb cb : Nat) (x : Rat) (w : World) (h1 : QV w (.agg #[.bool true, .slice A la ca, .slice B lb cb]) x) (hx : x ≠ 0) :
    Calls Tryz.prog 102 #[.agg #[.bool true, .slice A la ca, .slice B lb cb]] w (RetQ3 x⁻¹ w) := by
  have HI := Lib.hid (rinv_nd hx)
  have HZq := Lib.hid h1.z
  have HM : Hid (∀ W, Ext w W → Calls Tryz.prog 135 #[.bool true, .slice B lb cb] W (RetZ (x⁻¹).num W)) := fun W hE => by
    rw [HI.out.1, ← h1.z.2.2.2]
    exact z2Make_any true _ _ W (SlN.ext h1.z.2.1 hE)
  clear h1 hx
  go_enter Tryz.func102, Tryz.ntmps102
  go_wp2_with fail
  obtain ⟨X1, X2, E0⟩ := boxes2 w #[.bool true, .slice A la ca, .slice B lb cb] #[.bool false, .slice none 0 0, .slice none 0 0] 86
  have a0 : ((w.alloc (.cells #[.bool true, .slice A la ca, .slice B lb cb] 86)).alloc (.cells #[.bool false, .slice none 0 0, .slice none 0 0] 86)).cell? ⟨w.heap.size, 0, none⟩ = some (.bool true) := X1.c 0
  have a1 : ((w.alloc (.cells #[.bool true, .slice A la ca, .slice B lb cb] 86)).alloc (.cells #[.bool false, .slice none 0 0, .slice none 0 0] 86)).cell? ⟨w.heap.size, 1, none⟩ = some (.slice A la ca) := X1.c 1
  have a2 : ((w.alloc (.cells #[.bool true, .slice A la ca, .slice B lb cb] 86)).alloc (.cells #[.bool false, .slice none 0 0, .slice none 0 0] 86)).cell? ⟨w.heap.size, 2, none⟩ = some (.slice B lb cb) := X1.c 2
  have HX0 := Lib.hid X2
  have HE0 := Lib.hid E0
  clear X1 X2 E0
  generalize (w.alloc (.cells #[.bool true, .slice A la ca, .slice B lb cb] 86)).alloc (.cells #[.bool false, .slice none 0 0, .slice none 0 0] 86) = W0 at *
  go_region_held3 (fun w' => w'.cell? ⟨w.heap.size, 0, none⟩ = some (.bool true) ∧ w'.cell? ⟨w.heap.size, 1, none⟩ = some (.slice A la ca) ∧ w'.cell? ⟨w.heap.size, 2, none⟩ = some (.slice B lb cb)) (((try dsimp only); (repeat' apply And.intro) <;> (first | (with_reducible assumption) | (rw [World.cell?_setCell_other _ _ _ _ (by intro h; injection h with h; omega), World.cell?_setCell_other _ _ _ _ (by intro h; injection h with h; omega), World.cell?_setCell_other _ _ _ _ (by intro h; injection h with h; omega)]; with_reducible assumption) | (rw [World.cell?_setCell_other _ _ _ _ (by intro h; injection h with h; omega), World.cell?_setCell_other _ _ _ _ (by intro h; injection h with h; omega)]; with_reducible assumption) | ((go_keep); done))))
    (first
      | (go_at_call 135; (with_reducible refine (HM.out _ (Ext.dr' HE0)).mono ?_); rintro e w1 ⟨v1, rfl, hv1, hE1⟩; obtain ⟨s1, Z1, l1, c1, rfl, -, -⟩ := hv1.ex; have HV1 := Lib.hid hv1; have HX1 := Lib.hid ((show Bx W0.drew _ _ _ from HX0.out).ext hE1); have HE1 := Lib.hid ((Ext.dr' HE0).tr hE1); have q0 := Ext.cellD hE1 a0; have q1 := Ext.cellD hE1 a1; have q2 := Ext.cellD hE1 a2; have y0 : w1.cell? ⟨w.heap.size + 1, 0, none⟩ = some (.bool false) := HX1.out.c 0; have y1 : w1.cell? ⟨w.heap.size + 1, 1, none⟩ = some (.slice none 0 0) := HX1.out.c 1; have y2 : w1.cell? ⟨w.heap.size + 1, 2, none⟩ = some (.slice none 0 0) := HX1.out.c 2; have f0 := HX1.out.f 0; have f1 := HX1.out.f 1; have f2 := HX1.out.f 2; clear hE1 hv1))
  all_goals
    go_wp2_with fail
    obtain ⟨d0', d1', d2'⟩ := set3 HX1.out (.bool s1) (.slice Z1 l1 c1) (.slice A la ca)
    have hQ : QV w1 (.agg #[.bool s1, .slice Z1 l1 c1, .slice A la ca]) x⁻¹ := QV.mk3 HV1.out (SlN.ext HZq.out.2.2.1 HE1.out) rfl HI.out.2
    have HZ := QV.off hQ HX1.out nou3 (size3 (.bool s1) (.slice Z1 l1 c1) (.slice A la ca)) (keep3 (g := w.heap.size + 1) (.bool s1) (.slice Z1 l1 c1) (.slice A la ca))
    refine bodyPost_ret (v := .agg #[.bool s1, .slice Z1 l1 c1, .slice A la ca]) ?_ rfl ⟨_, rfl, HZ, ext_set3 (b := w.heap.size + 1) HE1.out (by omega) _ _ _⟩
    simp [results, Tryz.f102, go_sem, d0', d1', d2']
set_option maxHeartbeats 8000000 in
set_option maxRecDepth 200000 in
theorem q3Inv_false (A B : Option Addr) (la ca lb cb : Nat) (x : Rat) (w : World) (h1 : QV w (.agg #[.bool false, .slice A la ca, .slice B lb cb]) x) (hx : x ≠ 0) :
    Calls Tryz.prog 102 #[.agg #[.bool false, .slice A la ca, .slice B lb cb]] w (RetQ3 x⁻¹ w) := by
  have HI := Lib.hid (rinv_nd hx)
  have HZq := Lib.hid h1.z
  have HM : Hid (∀ W, Ext w W → Calls Tryz.prog 135 #[.bool false, .slice B lb cb] W (RetZ (x⁻¹).num W)) := fun W hE => by
    rw [HI.out.1, ← h1.z.2.2.2]
    exact z2Make_any false _ _ W (SlN.ext h1.z.2.1 hE)
  clear h1 hx
  go_enter Tryz.func102, Tryz.ntmps102
  go_wp2_with fail
  obtain ⟨X1, X2, E0⟩ := boxes2 w #[.bool false, .slice A la ca, .slice B lb cb] #[.bool false, .slice none 0 0, .slice none 0 0] 86
  have a0 : ((w.alloc (.cells #[.bool false, .slice A la ca, .slice B lb cb] 86)).alloc (.cells #[.bool false, .slice none 0 0, .slice none 0 0] 86)).cell? ⟨w.heap.size, 0, none⟩ = some (.bool false) := X1.c 0
  have a1 : ((w.alloc (.cells #[.bool false, .slice A la ca, .slice B lb cb] 86)).alloc (.cells #[.bool false, .slice none 0 0, .slice none 0 0] 86)).cell? ⟨w.heap.size, 1, none⟩ = some (.slice A la ca) := X1.c 1
  have a2 : ((w.alloc (.cells #[.bool false, .slice A la ca, .slice B lb cb] 86)).alloc (.cells #[.bool false, .slice none 0 0, .slice none 0 0] 86)).cell? ⟨w.heap.size, 2, none⟩ = some (.slice B lb cb) := X1.c 2
  have HX0 := Lib.hid X2
  have HE0 := Lib.hid E0
  clear X1 X2 E0
  generalize (w.alloc (.cells #[.bool false, .slice A la ca, .slice B lb cb] 86)).alloc (.cells #[.bool false, .slice none 0 0, .slice none 0 0] 86) = W0 at *
  go_region_held3 (fun w' => w'.cell? ⟨w.heap.size, 0, none⟩ = some (.bool false) ∧ w'.cell? ⟨w.heap.size, 1, none⟩ = some (.slice A la ca) ∧ w'.cell? ⟨w.heap.size, 2, none⟩ = some (.slice B lb cb)) (((try dsimp only); (repeat' apply And.intro) <;> (first | (with_reducible assumption) | (rw [World.cell?_setCell_other _ _ _ _ (by intro h; injection h with h; omega), World.cell?_setCell_other _ _ _ _ (by intro h; injection h with h; omega), World.cell?_setCell_other _ _ _ _ (by intro h; injection h with h; omega)]; with_reducible assumption) | (rw [World.cell?_setCell_other _ _ _ _ (by intro h; injection h with h; omega), World.cell?_setCell_other _ _ _ _ (by intro h; injection h with h; omega)]; with_reducible assumption) | ((go_keep); done))))
    (first
      | (go_at_call 135; (with_reducible refine (HM.out _ (Ext.dr' HE0)).mono ?_); rintro e w1 ⟨v1, rfl, hv1, hE1⟩; obtain ⟨s1, Z1, l1, c1, rfl, -, -⟩ := hv1.ex; have HV1 := Lib.hid hv1; have HX1 := Lib.hid ((show Bx W0.drew _ _ _ from HX0.out).ext hE1); have HE1 := Lib.hid ((Ext.dr' HE0).tr hE1); have q0 := Ext.cellD hE1 a0; have q1 := Ext.cellD hE1 a1; have q2 := Ext.cellD hE1 a2; have y0 : w1.cell? ⟨w.heap.size + 1, 0, none⟩ = some (.bool false) := HX1.out.c 0; have y1 : w1.cell? ⟨w.heap.size + 1, 1, none⟩ = some (.slice none 0 0) := HX1.out.c 1; have y2 : w1.cell? ⟨w.heap.size + 1, 2, none⟩ = some (.slice none 0 0) := HX1.out.c 2; have f0 := HX1.out.f 0; have f1 := HX1.out.f 1; have f2 := HX1.out.f 2; clear hE1 hv1))
  all_goals
    go_wp2_with fail
    obtain ⟨d0', d1', d2'⟩ := set3 HX1.out (.bool s1) (.slice Z1 l1 c1) (.slice A la ca)
    have hQ : QV w1 (.agg #[.bool s1, .slice Z1 l1 c1, .slice A la ca]) x⁻¹ := QV.mk3 HV1.out (SlN.ext HZq.out.2.2.1 HE1.out) rfl HI.out.2
    have HZ := QV.off hQ HX1.out nou3 (size3 (.bool s1) (.slice Z1 l1 c1) (.slice A la ca)) (keep3 (g := w.heap.size + 1) (.bool s1) (.slice Z1 l1 c1) (.slice A la ca))
    refine bodyPost_ret (v := .agg #[.bool s1, .slice Z1 l1 c1, .slice A la ca]) ?_ rfl ⟨_, rfl, HZ, ext_set3 (b := w.heap.size + 1) HE1.out (by omega) _ _ _⟩
    simp [results, Tryz.f102, go_sem, d0', d1', d2']
theorem q3Inv_v (v : Value) (x : Rat) (w : World) (h : QV w v x) (hx : x ≠ 0) : Calls Tryz.prog 102 #[v] w (RetQ3 x⁻¹ w) := by
  obtain ⟨b, A, la, ca, B, lb, cb, rfl, -, -, -⟩ := h.ex
  cases b
  · exact q3Inv_false A B la ca lb cb x w h hx
  · exact q3Inv_true A B la ca lb cb x w h hx
set_option maxHeartbeats 8000000 in
set_option maxRecDepth 200000 in
theorem q3Div_v (v1 v2 : Value) (x y : Rat) (n m : Nat) (w : World) (h1 : QV w v1 x) (h2 : QV w v2 y) (hx : Bd x n) (hy : Bd y m) (hy0 : y ≠ 0) (hk : n + m + 3 ≤ KK) :
    Calls Tryz.prog 100 #[v1, v2] w (RetQ3 (x / y) w) := by
  obtain ⟨ba, A, la, ca, B, lb, cb, rfl, -, -, -⟩ := h1.ex
  obtain ⟨bb, C, lc, cc, D, ld, cd, rfl, -, -, -⟩ := h2.ex
  have HI : Hid (∀ W, Ext w W → Calls Tryz.prog 102 #[.agg #[.bool bb, .slice C lc cc, .slice D ld cd]] W (RetQ3 y⁻¹ W)) := fun W hE => q3Inv_v _ y W (h2.ext hE) hy0
  have HMu : Hid (∀ W v, Ext w W → QV W v y⁻¹ → Calls Tryz.prog 115 #[.agg #[.bool ba, .slice A la ca, .slice B lb cb], v] W (RetQ3 (x / y) W)) := fun W v hE hv => by
    rw [Rat.div_def]
    exact q3Mul_v _ v x y⁻¹ n (m + 1) W (h1.ext hE) hv hx hy.inv (by omega)
  clear h1 h2 hx hy hk hy0
  go_enter Tryz.func100, Tryz.ntmps100
  go_wp2_with fail
  obtain ⟨X1, X2, X3, E0⟩ := boxes3 w #[.bool ba, .slice A la ca, .slice B lb cb] #[.bool bb, .slice C lc cc, .slice D ld cd] #[.bool false, .slice none 0 0, .slice none 0 0] 86
  have a0 : (((w.alloc (.cells #[.bool ba, .slice A la ca, .slice B lb cb] 86)).alloc (.cells #[.bool bb, .slice C lc cc, .slice D ld cd] 86)).alloc (.cells #[.bool false, .slice none 0 0, .slice none 0 0] 86)).cell? ⟨w.heap.size, 0, none⟩ = some (.bool ba) := X1.c 0
  have a1 : (((w.alloc (.cells #[.bool ba, .slice A la ca, .slice B lb cb] 86)).alloc (.cells #[.bool bb, .slice C lc cc, .slice D ld cd] 86)).alloc (.cells #[.bool false, .slice none 0 0, .slice none 0 0] 86)).cell? ⟨w.heap.size, 1, none⟩ = some (.slice A la ca) := X1.c 1
  have a2 : (((w.alloc (.cells #[.bool ba, .slice A la ca, .slice B lb cb] 86)).alloc (.cells #[.bool bb, .slice C lc cc, .slice D ld cd] 86)).alloc (.cells #[.bool false, .slice none 0 0, .slice none 0 0] 86)).cell? ⟨w.heap.size, 2, none⟩ = some (.slice B lb cb) := X1.c 2
  have b0 : (((w.alloc (.cells #[.bool ba, .slice A la ca, .slice B lb cb] 86)).alloc (.cells #[.bool bb, .slice C lc cc, .slice D ld cd] 86)).alloc (.cells #[.bool false, .slice none 0 0, .slice none 0 0] 86)).cell? ⟨w.heap.size + 1, 0, none⟩ = some (.bool bb) := X2.c 0
  have b1 : (((w.alloc (.cells #[.bool ba, .slice A la ca, .slice B lb cb] 86)).alloc (.cells #[.bool bb, .slice C lc cc, .slice D ld cd] 86)).alloc (.cells #[.bool false, .slice none 0 0, .slice none 0 0] 86)).cell? ⟨w.heap.size + 1, 1, none⟩ = some (.slice C lc cc) := X2.c 1
  have b2 : (((w.alloc (.cells #[.bool ba, .slice A la ca, .slice B lb cb] 86)).alloc (.cells #[.bool bb, .slice C lc cc, .slice D ld cd] 86)).alloc (.cells #[.bool false, .slice none 0 0, .slice none 0 0] 86)).cell? ⟨w.heap.size + 1, 2, none⟩ = some (.slice D ld cd) := X2.c 2
  have HX0 := Lib.hid X3
  have HE0 := Lib.hid E0
  clear X1 X2 X3 E0
  generalize ((w.alloc (.cells #[.bool ba, .slice A la ca, .slice B lb cb] 86)).alloc (.cells #[.bool bb, .slice C lc cc, .slice D ld cd] 86)).alloc (.cells #[.bool false, .slice none 0 0, .slice none 0 0] 86) = W0 at *
  go_region_held3 (fun w' => w'.cell? ⟨w.heap.size, 0, none⟩ = some (.bool ba) ∧ w'.cell? ⟨w.heap.size, 1, none⟩ = some (.slice A la ca) ∧ w'.cell? ⟨w.heap.size, 2, none⟩ = some (.slice B lb cb) ∧ w'.cell? ⟨w.heap.size + 1, 0, none⟩ = some (.bool bb) ∧ w'.cell? ⟨w.heap.size + 1, 1, none⟩ = some (.slice C lc cc) ∧ w'.cell? ⟨w.heap.size + 1, 2, none⟩ = some (.slice D ld cd)) (((try dsimp only); (repeat' apply And.intro) <;> (first | (with_reducible assumption) | (rw [World.cell?_setCell_other _ _ _ _ (by intro h; injection h with h; omega), World.cell?_setCell_other _ _ _ _ (by intro h; injection h with h; omega), World.cell?_setCell_other _ _ _ _ (by intro h; injection h with h; omega)]; with_reducible assumption) | (rw [World.cell?_setCell_other _ _ _ _ (by intro h; injection h with h; omega), World.cell?_setCell_other _ _ _ _ (by intro h; injection h with h; omega)]; with_reducible assumption) | ((go_keep); done))))
    (first
      | (go_at_call 102; (with_reducible refine (HI.out _ (Ext.dr' HE0)).mono ?_); rintro e w1 ⟨v1, rfl, hv1, hE1⟩; obtain ⟨s1, Z1, l1, c1, Y1, m1, d1, rfl, -, -, -⟩ := hv1.ex; have HV1 := Lib.hid hv1; have HX1 := Lib.hid ((show Bx W0.drew _ _ _ from HX0.out).ext hE1); have HE1 := Lib.hid ((Ext.dr' HE0).tr hE1); have q1_0 := Ext.cellD hE1 a0; have q1_1 := Ext.cellD hE1 a1; have q1_2 := Ext.cellD hE1 a2; have q1_3 := Ext.cellD hE1 b0; have q1_4 := Ext.cellD hE1 b1; have q1_5 := Ext.cellD hE1 b2; clear hE1 hv1)
      | (go_at_call 115; (with_reducible refine (HMu.out _ _ HE1.out HV1.out).mono ?_); rintro e w2 ⟨v2, rfl, hv2, hE2⟩; obtain ⟨s2, Z2, l2, c2, Y2, m2, d2, rfl, -, -, -⟩ := hv2.ex; have HV2 := Lib.hid hv2; have HV1_2 := QV.hext HV1 hE2; have HX2 := Lib.hid (HX1.out.ext hE2); have HE2 := Lib.hid (HE1.out.tr hE2); have q2_0 := Ext.cellH hE2 q1_0; have q2_1 := Ext.cellH hE2 q1_1; have q2_2 := Ext.cellH hE2 q1_2; have q2_3 := Ext.cellH hE2 q1_3; have q2_4 := Ext.cellH hE2 q1_4; have q2_5 := Ext.cellH hE2 q1_5; have y0 : w2.cell? ⟨w.heap.size + 1 + 1, 0, none⟩ = some (.bool false) := HX2.out.c 0; have y1 : w2.cell? ⟨w.heap.size + 1 + 1, 1, none⟩ = some (.slice none 0 0) := HX2.out.c 1; have y2 : w2.cell? ⟨w.heap.size + 1 + 1, 2, none⟩ = some (.slice none 0 0) := HX2.out.c 2; have f0 := HX2.out.f 0; have f1 := HX2.out.f 1; have f2 := HX2.out.f 2; clear hE2 hv2))
  all_goals
    go_wp2_with fail
    obtain ⟨d0', d1', d2'⟩ := set3 HX2.out (.bool s2) (.slice Z2 l2 c2) (.slice Y2 m2 d2)
    have HZ := QV.off HV2.out HX2.out nou3 (size3 (.bool s2) (.slice Z2 l2 c2) (.slice Y2 m2 d2)) (keep3 (g := w.heap.size + 1 + 1) (.bool s2) (.slice Z2 l2 c2) (.slice Y2 m2 d2))
    refine bodyPost_ret (v := .agg #[.bool s2, .slice Z2 l2 c2, .slice Y2 m2 d2]) ?_ rfl ⟨_, rfl, HZ, ext_set3 (b := w.heap.size + 1 + 1) HE2.out (by omega) _ _ _⟩
    simp [results, Tryz.f100, go_sem, d0', d1', d2']
end Go.Proofs.YtbldlibijojbjaaGreatDoor.GB
