import Derived.Test.YtbldlibijojbjaaGreatDoorCOe
import Derived.Test.YtbldlibijojbjaaGreatDoorMAw
import Derived.Test.YtbldlibijojbjaaGreatDoorCFo
namespace Go.Proofs.YtbldlibijojbjaaGreatDoor.GB
set_option linter.unusedVariables false
set_option linter.unusedSimpArgs false
open Go.RowKit Go.Shelf
attribute [local go_sem ↓] Go.wp_at_zero Go.wp_at_succ
/-- A list of texts and a number are handed back. -/
def RetM (k : Int) (D : List ByteArray → Prop) (w : World) (e : Ending) (w' : World) : Prop := ∃ v L, e = .returned (.tuple #[v, .int .i64 k]) ∧ SlS w' v L ∧ D L ∧ Ext w w'
def RetM2 (k : Int) (D : List ByteArray → List ByteArray → Prop) (w : World) (e : Ending) (w' : World) : Prop := ∃ v u L M, e = .returned (.tuple #[v, u, .int .i64 k]) ∧ SlS w' v L ∧ SlS w' u M ∧ D L M ∧ Ext w w'
theorem RetM.ofE {k : Int} {w : World} {e : Ending} {w' : World} (h : RetE k w e w') : RetM k (fun L => L = []) w e w' := ⟨_, [], h.1, SlS.nil _, rfl, h.2⟩
theorem RetM.of0 {p : Pl} {w : World} {e : Ending} {w' : World} (h : RetQ0 (fun W u => PS W u p) w e w') : RetM 0 (fun L => L = p.map rb) w e w' := by
  obtain ⟨v, e, h1, h2⟩ := h; exact ⟨v, _, e, h1, rfl, h2⟩
theorem RetM2.ofE {k : Int} {w : World} {e : Ending} {w' : World} (h : RetE2 k w e w') : RetM2 k (fun L M => L = [] ∧ M = []) w e w' := ⟨_, _, [], [], h.1, SlS.nil _, SlS.nil _, ⟨rfl, rfl⟩, h.2⟩
def DvD (p r : Pl) (L M : List ByteArray) : Prop := ∃ q t, DivRel p r q t ∧ L = q.map rb ∧ M = t.map rb
def GcD (p r : Pl) (L : List ByteArray) : Prop := ∃ d, GcdRel p r d ∧ L = d.map rb
/-- There is one such list. -/
def One (D : List ByteArray → Prop) : Prop := ∀ L L', D L → D L' → L = L'
def One2 (D : List ByteArray → List ByteArray → Prop) : Prop := ∀ L M L' M', D L M → D L' M' → L = L' ∧ M = M'
theorem One.eq (L : List ByteArray) : One fun x => x = L := fun a b h k => h.trans k.symm
theorem One2.nil : One2 fun L M => L = [] ∧ M = [] := fun a b c d h k => ⟨h.1.trans k.1.symm, h.2.trans k.2.symm⟩
theorem One.gcd (p r : Pl) : One (GcD p r) := by
  rintro _ _ ⟨d, h, rfl⟩ ⟨e, k, rfl⟩
  rw [GcdRel.uniq h k]
theorem One2.div {p r : Pl} (tr : Tr r) : One2 (DvD p r) := by
  rintro _ _ _ _ ⟨q, t, h, rfl, rfl⟩ ⟨q', t', k, rfl, rfl⟩
  obtain ⟨rfl, rfl⟩ := DivRel.uniq tr h k
  exact ⟨rfl, rfl⟩
theorem gk17 {a b : Nat} (ha : a ≤ 17) (hb : b ≤ 17) (hg : ¬ (6 < a ∧ 2 < b)) : gok 17 a (a * 48) b (b * 48) 400000 = true := by
  have h := gokAll a (by omega) b (by omega)
  have e : (decide (6 < a) && decide (2 < b)) = false := by
    cases h6 : decide (6 < a)
    · rfl
    · cases h2 : decide (2 < b)
      · rfl
      · exact absurd ⟨of_decide_eq_true h6, of_decide_eq_true h2⟩ hg
  rw [e] at h; exact h
set_option maxHeartbeats 16000000 in
set_option maxRecDepth 400000 in
theorem comp_few (v1 v2 : Value) (l m : List ByteArray) (w : World) (hW : Wd w) (h1 : SlS w v1 l) (h2 : SlS w v2 m) (hfew : (decide ((⟨#[]⟩ : ByteArray).size ≤ 20) && (fewB l && fewB m)) = false) : Calls Tryz.prog 4 #[v1, v2] w fun e w' => e = .returned (.bool true) ∧ Ext w w' := by
  obtain ⟨A1, c1, rfl⟩ := h1.slc
  obtain ⟨A2, c2, rfl⟩ := h2.slc
  have HW := Lib.hid hW
  have HE := Lib.hid (Ext.rfl' w)
  have H1 := Lib.hid h1
  have H2 := Lib.hid h2
  clear hW h1 h2
  go_enter Tryz.func4, Tryz.ntmps4
  go_wp2_with fail
  refine (awake_v _ HW.out).mono ?_
  rintro e W1 ⟨rfl, hE⟩
  replace H1 := SlS.hext H1 hE
  replace H2 := SlS.hext H2 hE
  replace HW := Wd.hext HW hE
  replace HE := Lib.hid (HE.out.tr hE)
  clear hE
  go_wp2_with fail
  have hF := few2 ⟨#[]⟩ W1 (.slice A1 l.length c1) (.slice A2 m.length c2) l m 25 H1.out H2.out
  rw [hfew] at hF
  have hE := (Ext.rfl' W1).al (.cells #[(.slice A1 l.length c1), (.slice A2 m.length c2)] 25)
  generalize hWn : W1.alloc (.cells #[(.slice A1 l.length c1), (.slice A2 m.length c2)] 25) = W2 at *
  clear hWn
  replace H1 := SlS.hext H1 hE
  replace H2 := SlS.hext H2 hE
  replace HW := Wd.hext HW hE
  replace HE := Lib.hid (HE.out.tr hE)
  clear hE
  refine (hF).mono ?_
  rintro e W3 ⟨rfl, hE⟩
  replace H1 := SlS.hext H1 hE
  replace H2 := SlS.hext H2 hE
  replace HW := Wd.hext HW hE
  replace HE := Lib.hid (HE.out.tr hE)
  clear hE
  clear hF
  go_wp2_with fail
  refine (awake_v _ HW.out).mono ?_
  rintro e W4 ⟨rfl, hE⟩
  replace H1 := SlS.hext H1 hE
  replace H2 := SlS.hext H2 hE
  replace HW := Wd.hext HW hE
  replace HE := Lib.hid (HE.out.tr hE)
  clear hE
  go_wp2_with fail
  go_ret
  exact ⟨rfl, HE.out⟩
set_option maxHeartbeats 16000000 in
set_option maxRecDepth 400000 in
theorem comp_long (v1 v2 : Value) (l m : List ByteArray) (w : World) (hW : Wd w) (h1 : SlS w v1 l) (h2 : SlS w v2 m) (hfew : (decide ((⟨#[]⟩ : ByteArray).size ≤ 20) && (fewB l && fewB m)) = true) (hl : l.length ≤ 1000) (hm : m.length ≤ 1000) (z1 : 6 < l.length) (z2 : 2 < m.length) (k1 k2 k3 k4 : Int) (D1 D2 D3 : List ByteArray → Prop) (D4 : List ByteArray → List ByteArray → Prop)
    (hP1 : ∀ W a b, Ext w W → SlS W a l → SlS W b m → Calls Tryz.prog 20 #[a, b] W (RetM k1 D1 W))
    (hR1 : ∀ W, Ext w W → Calls Tryz.prog 22 #[v1, v2] W (RetM k1 D1 W))
    (hO1 : One D1)
    (hP2 : ∀ W a b, Ext w W → SlS W a l → SlS W b m → Calls Tryz.prog 23 #[a, b] W (RetM k2 D2 W))
    (hR2 : ∀ W, Ext w W → Calls Tryz.prog 24 #[v1, v2] W (RetM k2 D2 W))
    (hO2 : One D2)
    (hP3 : ∀ W a b, Ext w W → SlS W a l → SlS W b m → Calls Tryz.prog 25 #[a, b] W (RetM k3 D3 W))
    (hR3 : ∀ W, Ext w W → Calls Tryz.prog 26 #[v1, v2] W (RetM k3 D3 W))
    (hO3 : One D3)
    (hP4 : ∀ W a b, Ext w W → SlS W a l → SlS W b m → Calls Tryz.prog 27 #[a, b] W (RetM2 k4 D4 W))
    (hR4 : ∀ W, Ext w W → Calls Tryz.prog 28 #[v1, v2] W (RetM2 k4 D4 W))
    (hO4 : One2 D4) : Calls Tryz.prog 4 #[v1, v2] w fun e w' => e = .returned (.bool true) ∧ Ext w w' := by
  have HP1 := Lib.hid hP1
  have HR1 := Lib.hid hR1
  have HO1 := Lib.hid hO1
  have HP2 := Lib.hid hP2
  have HR2 := Lib.hid hR2
  have HO2 := Lib.hid hO2
  have HP3 := Lib.hid hP3
  have HR3 := Lib.hid hR3
  have HO3 := Lib.hid hO3
  have HP4 := Lib.hid hP4
  have HR4 := Lib.hid hR4
  have HO4 := Lib.hid hO4
  have HLn := Lib.hid hl
  have HLm := Lib.hid hm
  have y1 : (6 : Int) < (l.length : Int) := by omega
  have y2 : (2 : Int) < (m.length : Int) := by omega
  clear hl hm z1 z2 hP1 hR1 hO1 hP2 hR2 hO2 hP3 hR3 hO3 hP4 hR4 hO4
  have q1 : (k1 == k1) = true := beq_self_eq_true _
  have q2 : (k2 == k2) = true := beq_self_eq_true _
  have q3 : (k3 == k3) = true := beq_self_eq_true _
  have q4 : (k4 == k4) = true := beq_self_eq_true _
  obtain ⟨A1, c1, rfl⟩ := h1.slc
  obtain ⟨A2, c2, rfl⟩ := h2.slc
  have HW := Lib.hid hW
  have HE := Lib.hid (Ext.rfl' w)
  have H1 := Lib.hid h1
  have H2 := Lib.hid h2
  clear hW h1 h2
  go_enter Tryz.func4, Tryz.ntmps4
  go_wp2_with fail
  refine (awake_v _ HW.out).mono ?_
  rintro e W1 ⟨rfl, hE⟩
  replace H1 := SlS.hext H1 hE
  replace H2 := SlS.hext H2 hE
  replace HW := Wd.hext HW hE
  replace HE := Lib.hid (HE.out.tr hE)
  clear hE
  go_wp2_with fail
  have hF := few2 ⟨#[]⟩ W1 (.slice A1 l.length c1) (.slice A2 m.length c2) l m 25 H1.out H2.out
  rw [hfew] at hF
  have hE := (Ext.rfl' W1).al (.cells #[(.slice A1 l.length c1), (.slice A2 m.length c2)] 25)
  generalize hWn : W1.alloc (.cells #[(.slice A1 l.length c1), (.slice A2 m.length c2)] 25) = W2 at *
  clear hWn
  replace H1 := SlS.hext H1 hE
  replace H2 := SlS.hext H2 hE
  replace HW := Wd.hext HW hE
  replace HE := Lib.hid (HE.out.tr hE)
  clear hE
  refine (hF).mono ?_
  rintro e W3 ⟨rfl, hE⟩
  replace H1 := SlS.hext H1 hE
  replace H2 := SlS.hext H2 hE
  replace HW := Wd.hext HW hE
  replace HE := Lib.hid (HE.out.tr hE)
  clear hE
  clear hF
  go_wp2_with fail
  refine (cloneP_v _ l _ H1.out (by have h : l.length ≤ 1000 := HLn.out; omega)).mono ?_
  rintro e W4 ⟨ua1, rfl, h, hE⟩
  have Ca1 := Lib.hid h.sl
  clear h
  replace H1 := SlS.hext H1 hE
  replace H2 := SlS.hext H2 hE
  replace HW := Wd.hext HW hE
  replace HE := Lib.hid (HE.out.tr hE)
  clear hE
  go_wp2_with fail
  refine (cloneP_v _ m _ H2.out (by have h : m.length ≤ 1000 := HLm.out; omega)).mono ?_
  rintro e W5 ⟨ub1, rfl, h, hE⟩
  have Cb1 := Lib.hid h.sl
  clear h
  replace H1 := SlS.hext H1 hE
  replace H2 := SlS.hext H2 hE
  replace Ca1 := SlS.hext Ca1 hE
  replace HW := Wd.hext HW hE
  replace HE := Lib.hid (HE.out.tr hE)
  clear hE
  go_wp2_with fail
  refine (HP1.out _ _ _ HE.out Ca1.out Cb1.out).mono ?_
  rintro e W6 ⟨p1, L1, rfl, h, hd1, hE⟩
  have X1 := Lib.hid h
  clear h
  replace H1 := SlS.hext H1 hE
  replace H2 := SlS.hext H2 hE
  replace Ca1 := SlS.hext Ca1 hE
  replace Cb1 := SlS.hext Cb1 hE
  replace HW := Wd.hext HW hE
  replace HE := Lib.hid (HE.out.tr hE)
  clear hE
  clear Ca1 Cb1
  go_wp2_with fail
  refine (HR1.out _ HE.out).mono ?_
  rintro e W7 ⟨r1, L1y, rfl, h, hdy, hE⟩
  have Z1 := Lib.hid h
  clear h
  replace H1 := SlS.hext H1 hE
  replace H2 := SlS.hext H2 hE
  replace X1 := SlS.hext X1 hE
  replace HW := Wd.hext HW hE
  replace HE := Lib.hid (HE.out.tr hE)
  clear hE
  have e1 := HO1.out _ _ hd1 hdy
  subst e1
  clear hd1 hdy HP1 HR1 HO1
  go_wp2_with fail
  refine (cloneP_v _ l _ H1.out (by have h : l.length ≤ 1000 := HLn.out; omega)).mono ?_
  rintro e W8 ⟨ua2, rfl, h, hE⟩
  have Ca2 := Lib.hid h.sl
  clear h
  replace H1 := SlS.hext H1 hE
  replace H2 := SlS.hext H2 hE
  replace X1 := SlS.hext X1 hE
  replace Z1 := SlS.hext Z1 hE
  replace HW := Wd.hext HW hE
  replace HE := Lib.hid (HE.out.tr hE)
  clear hE
  go_wp2_with fail
  refine (cloneP_v _ m _ H2.out (by have h : m.length ≤ 1000 := HLm.out; omega)).mono ?_
  rintro e W9 ⟨ub2, rfl, h, hE⟩
  have Cb2 := Lib.hid h.sl
  clear h
  replace H1 := SlS.hext H1 hE
  replace H2 := SlS.hext H2 hE
  replace X1 := SlS.hext X1 hE
  replace Z1 := SlS.hext Z1 hE
  replace Ca2 := SlS.hext Ca2 hE
  replace HW := Wd.hext HW hE
  replace HE := Lib.hid (HE.out.tr hE)
  clear hE
  go_wp2_with fail
  refine (HP2.out _ _ _ HE.out Ca2.out Cb2.out).mono ?_
  rintro e W10 ⟨p2, L2, rfl, h, hd2, hE⟩
  have X2 := Lib.hid h
  clear h
  replace H1 := SlS.hext H1 hE
  replace H2 := SlS.hext H2 hE
  replace X1 := SlS.hext X1 hE
  replace Z1 := SlS.hext Z1 hE
  replace Ca2 := SlS.hext Ca2 hE
  replace Cb2 := SlS.hext Cb2 hE
  replace HW := Wd.hext HW hE
  replace HE := Lib.hid (HE.out.tr hE)
  clear hE
  clear Ca2 Cb2
  go_wp2_with fail
  refine (HR2.out _ HE.out).mono ?_
  rintro e W11 ⟨r2, L2y, rfl, h, hdy, hE⟩
  have Z2 := Lib.hid h
  clear h
  replace H1 := SlS.hext H1 hE
  replace H2 := SlS.hext H2 hE
  replace X1 := SlS.hext X1 hE
  replace Z1 := SlS.hext Z1 hE
  replace X2 := SlS.hext X2 hE
  replace HW := Wd.hext HW hE
  replace HE := Lib.hid (HE.out.tr hE)
  clear hE
  have e1 := HO2.out _ _ hd2 hdy
  subst e1
  clear hd2 hdy HP2 HR2 HO2
  go_wp2_with fail
  refine (cloneP_v _ l _ H1.out (by have h : l.length ≤ 1000 := HLn.out; omega)).mono ?_
  rintro e W12 ⟨ua3, rfl, h, hE⟩
  have Ca3 := Lib.hid h.sl
  clear h
  replace H1 := SlS.hext H1 hE
  replace H2 := SlS.hext H2 hE
  replace X1 := SlS.hext X1 hE
  replace Z1 := SlS.hext Z1 hE
  replace X2 := SlS.hext X2 hE
  replace Z2 := SlS.hext Z2 hE
  replace HW := Wd.hext HW hE
  replace HE := Lib.hid (HE.out.tr hE)
  clear hE
  go_wp2_with fail
  refine (cloneP_v _ m _ H2.out (by have h : m.length ≤ 1000 := HLm.out; omega)).mono ?_
  rintro e W13 ⟨ub3, rfl, h, hE⟩
  have Cb3 := Lib.hid h.sl
  clear h
  replace H1 := SlS.hext H1 hE
  replace H2 := SlS.hext H2 hE
  replace X1 := SlS.hext X1 hE
  replace Z1 := SlS.hext Z1 hE
  replace X2 := SlS.hext X2 hE
  replace Z2 := SlS.hext Z2 hE
  replace Ca3 := SlS.hext Ca3 hE
  replace HW := Wd.hext HW hE
  replace HE := Lib.hid (HE.out.tr hE)
  clear hE
  go_wp2_with fail
  refine (HP3.out _ _ _ HE.out Ca3.out Cb3.out).mono ?_
  rintro e W14 ⟨p3, L3, rfl, h, hd3, hE⟩
  have X3 := Lib.hid h
  clear h
  replace H1 := SlS.hext H1 hE
  replace H2 := SlS.hext H2 hE
  replace X1 := SlS.hext X1 hE
  replace Z1 := SlS.hext Z1 hE
  replace X2 := SlS.hext X2 hE
  replace Z2 := SlS.hext Z2 hE
  replace Ca3 := SlS.hext Ca3 hE
  replace Cb3 := SlS.hext Cb3 hE
  replace HW := Wd.hext HW hE
  replace HE := Lib.hid (HE.out.tr hE)
  clear hE
  clear Ca3 Cb3
  go_wp2_with fail
  refine (HR3.out _ HE.out).mono ?_
  rintro e W15 ⟨r3, L3y, rfl, h, hdy, hE⟩
  have Z3 := Lib.hid h
  clear h
  replace H1 := SlS.hext H1 hE
  replace H2 := SlS.hext H2 hE
  replace X1 := SlS.hext X1 hE
  replace Z1 := SlS.hext Z1 hE
  replace X2 := SlS.hext X2 hE
  replace Z2 := SlS.hext Z2 hE
  replace X3 := SlS.hext X3 hE
  replace HW := Wd.hext HW hE
  replace HE := Lib.hid (HE.out.tr hE)
  clear hE
  have e1 := HO3.out _ _ hd3 hdy
  subst e1
  clear hd3 hdy HP3 HR3 HO3
  go_wp2_with fail
  refine (cloneP_v _ l _ H1.out (by have h : l.length ≤ 1000 := HLn.out; omega)).mono ?_
  rintro e W16 ⟨ua4, rfl, h, hE⟩
  have Ca4 := Lib.hid h.sl
  clear h
  replace H1 := SlS.hext H1 hE
  replace H2 := SlS.hext H2 hE
  replace X1 := SlS.hext X1 hE
  replace Z1 := SlS.hext Z1 hE
  replace X2 := SlS.hext X2 hE
  replace Z2 := SlS.hext Z2 hE
  replace X3 := SlS.hext X3 hE
  replace Z3 := SlS.hext Z3 hE
  replace HW := Wd.hext HW hE
  replace HE := Lib.hid (HE.out.tr hE)
  clear hE
  go_wp2_with fail
  refine (cloneP_v _ m _ H2.out (by have h : m.length ≤ 1000 := HLm.out; omega)).mono ?_
  rintro e W17 ⟨ub4, rfl, h, hE⟩
  have Cb4 := Lib.hid h.sl
  clear h
  replace H1 := SlS.hext H1 hE
  replace H2 := SlS.hext H2 hE
  replace X1 := SlS.hext X1 hE
  replace Z1 := SlS.hext Z1 hE
  replace X2 := SlS.hext X2 hE
  replace Z2 := SlS.hext Z2 hE
  replace X3 := SlS.hext X3 hE
  replace Z3 := SlS.hext Z3 hE
  replace Ca4 := SlS.hext Ca4 hE
  replace HW := Wd.hext HW hE
  replace HE := Lib.hid (HE.out.tr hE)
  clear hE
  go_wp2_with fail
  refine (HP4.out _ _ _ HE.out Ca4.out Cb4.out).mono ?_
  rintro e W18 ⟨p4, p4x, L4, M4, rfl, h, hx, hd4, hE⟩
  have X4 := Lib.hid h
  have Y4 := Lib.hid hx
  clear h hx
  replace H1 := SlS.hext H1 hE
  replace H2 := SlS.hext H2 hE
  replace X1 := SlS.hext X1 hE
  replace Z1 := SlS.hext Z1 hE
  replace X2 := SlS.hext X2 hE
  replace Z2 := SlS.hext Z2 hE
  replace X3 := SlS.hext X3 hE
  replace Z3 := SlS.hext Z3 hE
  replace Ca4 := SlS.hext Ca4 hE
  replace Cb4 := SlS.hext Cb4 hE
  replace HW := Wd.hext HW hE
  replace HE := Lib.hid (HE.out.tr hE)
  clear hE
  clear Ca4 Cb4
  go_wp2_with fail
  refine (HR4.out _ HE.out).mono ?_
  rintro e W19 ⟨r4, r4x, L4y, M4y, rfl, h, hx, hdy, hE⟩
  have Z4 := Lib.hid h
  have V4 := Lib.hid hx
  clear h hx
  replace H1 := SlS.hext H1 hE
  replace H2 := SlS.hext H2 hE
  replace X1 := SlS.hext X1 hE
  replace Z1 := SlS.hext Z1 hE
  replace X2 := SlS.hext X2 hE
  replace Z2 := SlS.hext Z2 hE
  replace X3 := SlS.hext X3 hE
  replace Z3 := SlS.hext Z3 hE
  replace X4 := SlS.hext X4 hE
  replace Y4 := SlS.hext Y4 hE
  replace HW := Wd.hext HW hE
  replace HE := Lib.hid (HE.out.tr hE)
  clear hE
  obtain ⟨e1, e2⟩ := HO4.out _ _ _ _ hd4 hdy
  subst e1 e2
  clear hd4 hdy HP4 HR4 HO4
  go_wp2_with fail
  refine (same_e _ _ L1 _ X1.out Z1.out).mono ?_
  rintro e W20 ⟨rfl, hE⟩
  replace H1 := SlS.hext H1 hE
  replace H2 := SlS.hext H2 hE
  replace X1 := SlS.hext X1 hE
  replace Z1 := SlS.hext Z1 hE
  replace X2 := SlS.hext X2 hE
  replace Z2 := SlS.hext Z2 hE
  replace X3 := SlS.hext X3 hE
  replace Z3 := SlS.hext Z3 hE
  replace X4 := SlS.hext X4 hE
  replace Y4 := SlS.hext Y4 hE
  replace Z4 := SlS.hext Z4 hE
  replace V4 := SlS.hext V4 hE
  replace HW := Wd.hext HW hE
  replace HE := Lib.hid (HE.out.tr hE)
  clear hE
  go_wp2_with fail
  refine (same_e _ _ L2 _ X2.out Z2.out).mono ?_
  rintro e W21 ⟨rfl, hE⟩
  replace H1 := SlS.hext H1 hE
  replace H2 := SlS.hext H2 hE
  replace X1 := SlS.hext X1 hE
  replace Z1 := SlS.hext Z1 hE
  replace X2 := SlS.hext X2 hE
  replace Z2 := SlS.hext Z2 hE
  replace X3 := SlS.hext X3 hE
  replace Z3 := SlS.hext Z3 hE
  replace X4 := SlS.hext X4 hE
  replace Y4 := SlS.hext Y4 hE
  replace Z4 := SlS.hext Z4 hE
  replace V4 := SlS.hext V4 hE
  replace HW := Wd.hext HW hE
  replace HE := Lib.hid (HE.out.tr hE)
  clear hE
  go_wp2_with fail
  refine (same_e _ _ L3 _ X3.out Z3.out).mono ?_
  rintro e W22 ⟨rfl, hE⟩
  replace H1 := SlS.hext H1 hE
  replace H2 := SlS.hext H2 hE
  replace X1 := SlS.hext X1 hE
  replace Z1 := SlS.hext Z1 hE
  replace X2 := SlS.hext X2 hE
  replace Z2 := SlS.hext Z2 hE
  replace X3 := SlS.hext X3 hE
  replace Z3 := SlS.hext Z3 hE
  replace X4 := SlS.hext X4 hE
  replace Y4 := SlS.hext Y4 hE
  replace Z4 := SlS.hext Z4 hE
  replace V4 := SlS.hext V4 hE
  replace HW := Wd.hext HW hE
  replace HE := Lib.hid (HE.out.tr hE)
  clear hE
  go_wp2_with fail
  refine (same_e _ _ L4 _ X4.out Z4.out).mono ?_
  rintro e W23 ⟨rfl, hE⟩
  replace H1 := SlS.hext H1 hE
  replace H2 := SlS.hext H2 hE
  replace X1 := SlS.hext X1 hE
  replace Z1 := SlS.hext Z1 hE
  replace X2 := SlS.hext X2 hE
  replace Z2 := SlS.hext Z2 hE
  replace X3 := SlS.hext X3 hE
  replace Z3 := SlS.hext Z3 hE
  replace X4 := SlS.hext X4 hE
  replace Y4 := SlS.hext Y4 hE
  replace Z4 := SlS.hext Z4 hE
  replace V4 := SlS.hext V4 hE
  replace HW := Wd.hext HW hE
  replace HE := Lib.hid (HE.out.tr hE)
  clear hE
  go_wp2_with fail
  refine (same_e _ _ M4 _ Y4.out V4.out).mono ?_
  rintro e W24 ⟨rfl, hE⟩
  replace H1 := SlS.hext H1 hE
  replace H2 := SlS.hext H2 hE
  replace X1 := SlS.hext X1 hE
  replace Z1 := SlS.hext Z1 hE
  replace X2 := SlS.hext X2 hE
  replace Z2 := SlS.hext Z2 hE
  replace X3 := SlS.hext X3 hE
  replace Z3 := SlS.hext Z3 hE
  replace X4 := SlS.hext X4 hE
  replace Y4 := SlS.hext Y4 hE
  replace Z4 := SlS.hext Z4 hE
  replace V4 := SlS.hext V4 hE
  replace HW := Wd.hext HW hE
  replace HE := Lib.hid (HE.out.tr hE)
  clear hE
  go_wp2_with fail
  go_ret
  exact ⟨rfl, HE.out⟩
set_option maxHeartbeats 16000000 in
set_option maxRecDepth 400000 in
theorem comp_ab (v1 v2 : Value) (l m : List ByteArray) (w : World) (hW : Wd w) (h1 : SlS w v1 l) (h2 : SlS w v2 m) (hfew : (decide ((⟨#[]⟩ : ByteArray).size ≤ 20) && (fewB l && fewB m)) = true) (hl : l.length ≤ 1000) (hm : m.length ≤ 1000) (hz : ¬ (6 < l.length ∧ 2 < m.length)) (k1 k2 k3 k4 k5 : Int) (D1 D2 D3 D5 : List ByteArray → Prop) (D4 : List ByteArray → List ByteArray → Prop)
    (hP1 : ∀ W a b, Ext w W → SlS W a l → SlS W b m → Calls Tryz.prog 20 #[a, b] W (RetM k1 D1 W))
    (hR1 : ∀ W, Ext w W → Calls Tryz.prog 22 #[v1, v2] W (RetM k1 D1 W))
    (hO1 : One D1)
    (hP2 : ∀ W a b, Ext w W → SlS W a l → SlS W b m → Calls Tryz.prog 23 #[a, b] W (RetM k2 D2 W))
    (hR2 : ∀ W, Ext w W → Calls Tryz.prog 24 #[v1, v2] W (RetM k2 D2 W))
    (hO2 : One D2)
    (hP3 : ∀ W a b, Ext w W → SlS W a l → SlS W b m → Calls Tryz.prog 25 #[a, b] W (RetM k3 D3 W))
    (hR3 : ∀ W, Ext w W → Calls Tryz.prog 26 #[v1, v2] W (RetM k3 D3 W))
    (hO3 : One D3)
    (hP4 : ∀ W a b, Ext w W → SlS W a l → SlS W b m → Calls Tryz.prog 27 #[a, b] W (RetM2 k4 D4 W))
    (hR4 : ∀ W, Ext w W → Calls Tryz.prog 28 #[v1, v2] W (RetM2 k4 D4 W))
    (hO4 : One2 D4)
    (hP5 : ∀ W a b, Ext w W → SlS W a l → SlS W b m → Calls Tryz.prog 29 #[a, b] W (RetM k5 D5 W))
    (hR5 : ∀ W, Ext w W → Calls Tryz.prog 30 #[v1, v2] W (RetM k5 D5 W))
    (hO5 : One D5) : Calls Tryz.prog 4 #[v1, v2] w fun e w' => e = .returned (.bool true) ∧ Ext w w' := by
  have HP1 := Lib.hid hP1
  have HR1 := Lib.hid hR1
  have HO1 := Lib.hid hO1
  have HP2 := Lib.hid hP2
  have HR2 := Lib.hid hR2
  have HO2 := Lib.hid hO2
  have HP3 := Lib.hid hP3
  have HR3 := Lib.hid hR3
  have HO3 := Lib.hid hO3
  have HP4 := Lib.hid hP4
  have HR4 := Lib.hid hR4
  have HO4 := Lib.hid hO4
  have HP5 := Lib.hid hP5
  have HR5 := Lib.hid hR5
  have HO5 := Lib.hid hO5
  have HLn := Lib.hid hl
  have HLm := Lib.hid hm
  have y : ¬ (6 : Int) < (l.length : Int) ∨ ((6 : Int) < (l.length : Int) ∧ ¬ (2 : Int) < (m.length : Int)) := by omega
  clear hl hm hz hP1 hR1 hO1 hP2 hR2 hO2 hP3 hR3 hO3 hP4 hR4 hO4 hP5 hR5 hO5
  have q1 : (k1 == k1) = true := beq_self_eq_true _
  have q2 : (k2 == k2) = true := beq_self_eq_true _
  have q3 : (k3 == k3) = true := beq_self_eq_true _
  have q4 : (k4 == k4) = true := beq_self_eq_true _
  have q5 : (k5 == k5) = true := beq_self_eq_true _
  rcases y with y1 | ⟨y1, y2⟩
  all_goals
    obtain ⟨A1, c1, rfl⟩ := h1.slc
    obtain ⟨A2, c2, rfl⟩ := h2.slc
    have HW := Lib.hid hW
    have HE := Lib.hid (Ext.rfl' w)
    have H1 := Lib.hid h1
    have H2 := Lib.hid h2
    clear hW h1 h2
    go_enter Tryz.func4, Tryz.ntmps4
    go_wp2_with fail
    refine (awake_v _ HW.out).mono ?_
    rintro e W1 ⟨rfl, hE⟩
    replace H1 := SlS.hext H1 hE
    replace H2 := SlS.hext H2 hE
    replace HW := Wd.hext HW hE
    replace HE := Lib.hid (HE.out.tr hE)
    clear hE
    go_wp2_with fail
    have hF := few2 ⟨#[]⟩ W1 (.slice A1 l.length c1) (.slice A2 m.length c2) l m 25 H1.out H2.out
    rw [hfew] at hF
    have hE := (Ext.rfl' W1).al (.cells #[(.slice A1 l.length c1), (.slice A2 m.length c2)] 25)
    generalize hWn : W1.alloc (.cells #[(.slice A1 l.length c1), (.slice A2 m.length c2)] 25) = W2 at *
    clear hWn
    replace H1 := SlS.hext H1 hE
    replace H2 := SlS.hext H2 hE
    replace HW := Wd.hext HW hE
    replace HE := Lib.hid (HE.out.tr hE)
    clear hE
    refine (hF).mono ?_
    rintro e W3 ⟨rfl, hE⟩
    replace H1 := SlS.hext H1 hE
    replace H2 := SlS.hext H2 hE
    replace HW := Wd.hext HW hE
    replace HE := Lib.hid (HE.out.tr hE)
    clear hE
    clear hF
    go_wp2_with fail
    refine (cloneP_v _ l _ H1.out (by have h : l.length ≤ 1000 := HLn.out; omega)).mono ?_
    rintro e W4 ⟨ua1, rfl, h, hE⟩
    have Ca1 := Lib.hid h.sl
    clear h
    replace H1 := SlS.hext H1 hE
    replace H2 := SlS.hext H2 hE
    replace HW := Wd.hext HW hE
    replace HE := Lib.hid (HE.out.tr hE)
    clear hE
    go_wp2_with fail
    refine (cloneP_v _ m _ H2.out (by have h : m.length ≤ 1000 := HLm.out; omega)).mono ?_
    rintro e W5 ⟨ub1, rfl, h, hE⟩
    have Cb1 := Lib.hid h.sl
    clear h
    replace H1 := SlS.hext H1 hE
    replace H2 := SlS.hext H2 hE
    replace Ca1 := SlS.hext Ca1 hE
    replace HW := Wd.hext HW hE
    replace HE := Lib.hid (HE.out.tr hE)
    clear hE
    go_wp2_with fail
    refine (HP1.out _ _ _ HE.out Ca1.out Cb1.out).mono ?_
    rintro e W6 ⟨p1, L1, rfl, h, hd1, hE⟩
    have X1 := Lib.hid h
    clear h
    replace H1 := SlS.hext H1 hE
    replace H2 := SlS.hext H2 hE
    replace Ca1 := SlS.hext Ca1 hE
    replace Cb1 := SlS.hext Cb1 hE
    replace HW := Wd.hext HW hE
    replace HE := Lib.hid (HE.out.tr hE)
    clear hE
    clear Ca1 Cb1
    go_wp2_with fail
    refine (HR1.out _ HE.out).mono ?_
    rintro e W7 ⟨r1, L1y, rfl, h, hdy, hE⟩
    have Z1 := Lib.hid h
    clear h
    replace H1 := SlS.hext H1 hE
    replace H2 := SlS.hext H2 hE
    replace X1 := SlS.hext X1 hE
    replace HW := Wd.hext HW hE
    replace HE := Lib.hid (HE.out.tr hE)
    clear hE
    have e1 := HO1.out _ _ hd1 hdy
    subst e1
    clear hd1 hdy HP1 HR1 HO1
    go_wp2_with fail
    refine (cloneP_v _ l _ H1.out (by have h : l.length ≤ 1000 := HLn.out; omega)).mono ?_
    rintro e W8 ⟨ua2, rfl, h, hE⟩
    have Ca2 := Lib.hid h.sl
    clear h
    replace H1 := SlS.hext H1 hE
    replace H2 := SlS.hext H2 hE
    replace X1 := SlS.hext X1 hE
    replace Z1 := SlS.hext Z1 hE
    replace HW := Wd.hext HW hE
    replace HE := Lib.hid (HE.out.tr hE)
    clear hE
    go_wp2_with fail
    refine (cloneP_v _ m _ H2.out (by have h : m.length ≤ 1000 := HLm.out; omega)).mono ?_
    rintro e W9 ⟨ub2, rfl, h, hE⟩
    have Cb2 := Lib.hid h.sl
    clear h
    replace H1 := SlS.hext H1 hE
    replace H2 := SlS.hext H2 hE
    replace X1 := SlS.hext X1 hE
    replace Z1 := SlS.hext Z1 hE
    replace Ca2 := SlS.hext Ca2 hE
    replace HW := Wd.hext HW hE
    replace HE := Lib.hid (HE.out.tr hE)
    clear hE
    go_wp2_with fail
    refine (HP2.out _ _ _ HE.out Ca2.out Cb2.out).mono ?_
    rintro e W10 ⟨p2, L2, rfl, h, hd2, hE⟩
    have X2 := Lib.hid h
    clear h
    replace H1 := SlS.hext H1 hE
    replace H2 := SlS.hext H2 hE
    replace X1 := SlS.hext X1 hE
    replace Z1 := SlS.hext Z1 hE
    replace Ca2 := SlS.hext Ca2 hE
    replace Cb2 := SlS.hext Cb2 hE
    replace HW := Wd.hext HW hE
    replace HE := Lib.hid (HE.out.tr hE)
    clear hE
    clear Ca2 Cb2
    go_wp2_with fail
    refine (HR2.out _ HE.out).mono ?_
    rintro e W11 ⟨r2, L2y, rfl, h, hdy, hE⟩
    have Z2 := Lib.hid h
    clear h
    replace H1 := SlS.hext H1 hE
    replace H2 := SlS.hext H2 hE
    replace X1 := SlS.hext X1 hE
    replace Z1 := SlS.hext Z1 hE
    replace X2 := SlS.hext X2 hE
    replace HW := Wd.hext HW hE
    replace HE := Lib.hid (HE.out.tr hE)
    clear hE
    have e1 := HO2.out _ _ hd2 hdy
    subst e1
    clear hd2 hdy HP2 HR2 HO2
    go_wp2_with fail
    refine (cloneP_v _ l _ H1.out (by have h : l.length ≤ 1000 := HLn.out; omega)).mono ?_
    rintro e W12 ⟨ua3, rfl, h, hE⟩
    have Ca3 := Lib.hid h.sl
    clear h
    replace H1 := SlS.hext H1 hE
    replace H2 := SlS.hext H2 hE
    replace X1 := SlS.hext X1 hE
    replace Z1 := SlS.hext Z1 hE
    replace X2 := SlS.hext X2 hE
    replace Z2 := SlS.hext Z2 hE
    replace HW := Wd.hext HW hE
    replace HE := Lib.hid (HE.out.tr hE)
    clear hE
    go_wp2_with fail
    refine (cloneP_v _ m _ H2.out (by have h : m.length ≤ 1000 := HLm.out; omega)).mono ?_
    rintro e W13 ⟨ub3, rfl, h, hE⟩
    have Cb3 := Lib.hid h.sl
    clear h
    replace H1 := SlS.hext H1 hE
    replace H2 := SlS.hext H2 hE
    replace X1 := SlS.hext X1 hE
    replace Z1 := SlS.hext Z1 hE
    replace X2 := SlS.hext X2 hE
    replace Z2 := SlS.hext Z2 hE
    replace Ca3 := SlS.hext Ca3 hE
    replace HW := Wd.hext HW hE
    replace HE := Lib.hid (HE.out.tr hE)
    clear hE
    go_wp2_with fail
    refine (HP3.out _ _ _ HE.out Ca3.out Cb3.out).mono ?_
    rintro e W14 ⟨p3, L3, rfl, h, hd3, hE⟩
    have X3 := Lib.hid h
    clear h
    replace H1 := SlS.hext H1 hE
    replace H2 := SlS.hext H2 hE
    replace X1 := SlS.hext X1 hE
    replace Z1 := SlS.hext Z1 hE
    replace X2 := SlS.hext X2 hE
    replace Z2 := SlS.hext Z2 hE
    replace Ca3 := SlS.hext Ca3 hE
    replace Cb3 := SlS.hext Cb3 hE
    replace HW := Wd.hext HW hE
    replace HE := Lib.hid (HE.out.tr hE)
    clear hE
    clear Ca3 Cb3
    go_wp2_with fail
    refine (HR3.out _ HE.out).mono ?_
    rintro e W15 ⟨r3, L3y, rfl, h, hdy, hE⟩
    have Z3 := Lib.hid h
    clear h
    replace H1 := SlS.hext H1 hE
    replace H2 := SlS.hext H2 hE
    replace X1 := SlS.hext X1 hE
    replace Z1 := SlS.hext Z1 hE
    replace X2 := SlS.hext X2 hE
    replace Z2 := SlS.hext Z2 hE
    replace X3 := SlS.hext X3 hE
    replace HW := Wd.hext HW hE
    replace HE := Lib.hid (HE.out.tr hE)
    clear hE
    have e1 := HO3.out _ _ hd3 hdy
    subst e1
    clear hd3 hdy HP3 HR3 HO3
    go_wp2_with fail
    refine (cloneP_v _ l _ H1.out (by have h : l.length ≤ 1000 := HLn.out; omega)).mono ?_
    rintro e W16 ⟨ua4, rfl, h, hE⟩
    have Ca4 := Lib.hid h.sl
    clear h
    replace H1 := SlS.hext H1 hE
    replace H2 := SlS.hext H2 hE
    replace X1 := SlS.hext X1 hE
    replace Z1 := SlS.hext Z1 hE
    replace X2 := SlS.hext X2 hE
    replace Z2 := SlS.hext Z2 hE
    replace X3 := SlS.hext X3 hE
    replace Z3 := SlS.hext Z3 hE
    replace HW := Wd.hext HW hE
    replace HE := Lib.hid (HE.out.tr hE)
    clear hE
    go_wp2_with fail
    refine (cloneP_v _ m _ H2.out (by have h : m.length ≤ 1000 := HLm.out; omega)).mono ?_
    rintro e W17 ⟨ub4, rfl, h, hE⟩
    have Cb4 := Lib.hid h.sl
    clear h
    replace H1 := SlS.hext H1 hE
    replace H2 := SlS.hext H2 hE
    replace X1 := SlS.hext X1 hE
    replace Z1 := SlS.hext Z1 hE
    replace X2 := SlS.hext X2 hE
    replace Z2 := SlS.hext Z2 hE
    replace X3 := SlS.hext X3 hE
    replace Z3 := SlS.hext Z3 hE
    replace Ca4 := SlS.hext Ca4 hE
    replace HW := Wd.hext HW hE
    replace HE := Lib.hid (HE.out.tr hE)
    clear hE
    go_wp2_with fail
    refine (HP4.out _ _ _ HE.out Ca4.out Cb4.out).mono ?_
    rintro e W18 ⟨p4, p4x, L4, M4, rfl, h, hx, hd4, hE⟩
    have X4 := Lib.hid h
    have Y4 := Lib.hid hx
    clear h hx
    replace H1 := SlS.hext H1 hE
    replace H2 := SlS.hext H2 hE
    replace X1 := SlS.hext X1 hE
    replace Z1 := SlS.hext Z1 hE
    replace X2 := SlS.hext X2 hE
    replace Z2 := SlS.hext Z2 hE
    replace X3 := SlS.hext X3 hE
    replace Z3 := SlS.hext Z3 hE
    replace Ca4 := SlS.hext Ca4 hE
    replace Cb4 := SlS.hext Cb4 hE
    replace HW := Wd.hext HW hE
    replace HE := Lib.hid (HE.out.tr hE)
    clear hE
    clear Ca4 Cb4
    go_wp2_with fail
    refine (HR4.out _ HE.out).mono ?_
    rintro e W19 ⟨r4, r4x, L4y, M4y, rfl, h, hx, hdy, hE⟩
    have Z4 := Lib.hid h
    have V4 := Lib.hid hx
    clear h hx
    replace H1 := SlS.hext H1 hE
    replace H2 := SlS.hext H2 hE
    replace X1 := SlS.hext X1 hE
    replace Z1 := SlS.hext Z1 hE
    replace X2 := SlS.hext X2 hE
    replace Z2 := SlS.hext Z2 hE
    replace X3 := SlS.hext X3 hE
    replace Z3 := SlS.hext Z3 hE
    replace X4 := SlS.hext X4 hE
    replace Y4 := SlS.hext Y4 hE
    replace HW := Wd.hext HW hE
    replace HE := Lib.hid (HE.out.tr hE)
    clear hE
    obtain ⟨e1, e2⟩ := HO4.out _ _ _ _ hd4 hdy
    subst e1 e2
    clear hd4 hdy HP4 HR4 HO4
    go_wp2_with fail
    refine (cloneP_v _ l _ H1.out (by have h : l.length ≤ 1000 := HLn.out; omega)).mono ?_
    rintro e W20 ⟨ua5, rfl, h, hE⟩
    have Ca5 := Lib.hid h.sl
    clear h
    replace H1 := SlS.hext H1 hE
    replace H2 := SlS.hext H2 hE
    replace X1 := SlS.hext X1 hE
    replace Z1 := SlS.hext Z1 hE
    replace X2 := SlS.hext X2 hE
    replace Z2 := SlS.hext Z2 hE
    replace X3 := SlS.hext X3 hE
    replace Z3 := SlS.hext Z3 hE
    replace X4 := SlS.hext X4 hE
    replace Y4 := SlS.hext Y4 hE
    replace Z4 := SlS.hext Z4 hE
    replace V4 := SlS.hext V4 hE
    replace HW := Wd.hext HW hE
    replace HE := Lib.hid (HE.out.tr hE)
    clear hE
    go_wp2_with fail
    refine (cloneP_v _ m _ H2.out (by have h : m.length ≤ 1000 := HLm.out; omega)).mono ?_
    rintro e W21 ⟨ub5, rfl, h, hE⟩
    have Cb5 := Lib.hid h.sl
    clear h
    replace H1 := SlS.hext H1 hE
    replace H2 := SlS.hext H2 hE
    replace X1 := SlS.hext X1 hE
    replace Z1 := SlS.hext Z1 hE
    replace X2 := SlS.hext X2 hE
    replace Z2 := SlS.hext Z2 hE
    replace X3 := SlS.hext X3 hE
    replace Z3 := SlS.hext Z3 hE
    replace X4 := SlS.hext X4 hE
    replace Y4 := SlS.hext Y4 hE
    replace Z4 := SlS.hext Z4 hE
    replace V4 := SlS.hext V4 hE
    replace Ca5 := SlS.hext Ca5 hE
    replace HW := Wd.hext HW hE
    replace HE := Lib.hid (HE.out.tr hE)
    clear hE
    go_wp2_with fail
    refine (HP5.out _ _ _ HE.out Ca5.out Cb5.out).mono ?_
    rintro e W22 ⟨p5, L5, rfl, h, hd5, hE⟩
    have X5 := Lib.hid h
    clear h
    replace H1 := SlS.hext H1 hE
    replace H2 := SlS.hext H2 hE
    replace X1 := SlS.hext X1 hE
    replace Z1 := SlS.hext Z1 hE
    replace X2 := SlS.hext X2 hE
    replace Z2 := SlS.hext Z2 hE
    replace X3 := SlS.hext X3 hE
    replace Z3 := SlS.hext Z3 hE
    replace X4 := SlS.hext X4 hE
    replace Y4 := SlS.hext Y4 hE
    replace Z4 := SlS.hext Z4 hE
    replace V4 := SlS.hext V4 hE
    replace Ca5 := SlS.hext Ca5 hE
    replace Cb5 := SlS.hext Cb5 hE
    replace HW := Wd.hext HW hE
    replace HE := Lib.hid (HE.out.tr hE)
    clear hE
    clear Ca5 Cb5
    go_wp2_with fail
    refine (HR5.out _ HE.out).mono ?_
    rintro e W23 ⟨r5, L5y, rfl, h, hdy, hE⟩
    have Z5 := Lib.hid h
    clear h
    replace H1 := SlS.hext H1 hE
    replace H2 := SlS.hext H2 hE
    replace X1 := SlS.hext X1 hE
    replace Z1 := SlS.hext Z1 hE
    replace X2 := SlS.hext X2 hE
    replace Z2 := SlS.hext Z2 hE
    replace X3 := SlS.hext X3 hE
    replace Z3 := SlS.hext Z3 hE
    replace X4 := SlS.hext X4 hE
    replace Y4 := SlS.hext Y4 hE
    replace Z4 := SlS.hext Z4 hE
    replace V4 := SlS.hext V4 hE
    replace X5 := SlS.hext X5 hE
    replace HW := Wd.hext HW hE
    replace HE := Lib.hid (HE.out.tr hE)
    clear hE
    have e1 := HO5.out _ _ hd5 hdy
    subst e1
    clear hd5 hdy HP5 HR5 HO5
    go_wp2_with fail
    refine (same_e _ _ L1 _ X1.out Z1.out).mono ?_
    rintro e W24 ⟨rfl, hE⟩
    replace H1 := SlS.hext H1 hE
    replace H2 := SlS.hext H2 hE
    replace X1 := SlS.hext X1 hE
    replace Z1 := SlS.hext Z1 hE
    replace X2 := SlS.hext X2 hE
    replace Z2 := SlS.hext Z2 hE
    replace X3 := SlS.hext X3 hE
    replace Z3 := SlS.hext Z3 hE
    replace X4 := SlS.hext X4 hE
    replace Y4 := SlS.hext Y4 hE
    replace Z4 := SlS.hext Z4 hE
    replace V4 := SlS.hext V4 hE
    replace X5 := SlS.hext X5 hE
    replace Z5 := SlS.hext Z5 hE
    replace HW := Wd.hext HW hE
    replace HE := Lib.hid (HE.out.tr hE)
    clear hE
    go_wp2_with fail
    refine (same_e _ _ L2 _ X2.out Z2.out).mono ?_
    rintro e W25 ⟨rfl, hE⟩
    replace H1 := SlS.hext H1 hE
    replace H2 := SlS.hext H2 hE
    replace X1 := SlS.hext X1 hE
    replace Z1 := SlS.hext Z1 hE
    replace X2 := SlS.hext X2 hE
    replace Z2 := SlS.hext Z2 hE
    replace X3 := SlS.hext X3 hE
    replace Z3 := SlS.hext Z3 hE
    replace X4 := SlS.hext X4 hE
    replace Y4 := SlS.hext Y4 hE
    replace Z4 := SlS.hext Z4 hE
    replace V4 := SlS.hext V4 hE
    replace X5 := SlS.hext X5 hE
    replace Z5 := SlS.hext Z5 hE
    replace HW := Wd.hext HW hE
    replace HE := Lib.hid (HE.out.tr hE)
    clear hE
    go_wp2_with fail
    refine (same_e _ _ L3 _ X3.out Z3.out).mono ?_
    rintro e W26 ⟨rfl, hE⟩
    replace H1 := SlS.hext H1 hE
    replace H2 := SlS.hext H2 hE
    replace X1 := SlS.hext X1 hE
    replace Z1 := SlS.hext Z1 hE
    replace X2 := SlS.hext X2 hE
    replace Z2 := SlS.hext Z2 hE
    replace X3 := SlS.hext X3 hE
    replace Z3 := SlS.hext Z3 hE
    replace X4 := SlS.hext X4 hE
    replace Y4 := SlS.hext Y4 hE
    replace Z4 := SlS.hext Z4 hE
    replace V4 := SlS.hext V4 hE
    replace X5 := SlS.hext X5 hE
    replace Z5 := SlS.hext Z5 hE
    replace HW := Wd.hext HW hE
    replace HE := Lib.hid (HE.out.tr hE)
    clear hE
    go_wp2_with fail
    refine (same_e _ _ L4 _ X4.out Z4.out).mono ?_
    rintro e W27 ⟨rfl, hE⟩
    replace H1 := SlS.hext H1 hE
    replace H2 := SlS.hext H2 hE
    replace X1 := SlS.hext X1 hE
    replace Z1 := SlS.hext Z1 hE
    replace X2 := SlS.hext X2 hE
    replace Z2 := SlS.hext Z2 hE
    replace X3 := SlS.hext X3 hE
    replace Z3 := SlS.hext Z3 hE
    replace X4 := SlS.hext X4 hE
    replace Y4 := SlS.hext Y4 hE
    replace Z4 := SlS.hext Z4 hE
    replace V4 := SlS.hext V4 hE
    replace X5 := SlS.hext X5 hE
    replace Z5 := SlS.hext Z5 hE
    replace HW := Wd.hext HW hE
    replace HE := Lib.hid (HE.out.tr hE)
    clear hE
    go_wp2_with fail
    refine (same_e _ _ M4 _ Y4.out V4.out).mono ?_
    rintro e W28 ⟨rfl, hE⟩
    replace H1 := SlS.hext H1 hE
    replace H2 := SlS.hext H2 hE
    replace X1 := SlS.hext X1 hE
    replace Z1 := SlS.hext Z1 hE
    replace X2 := SlS.hext X2 hE
    replace Z2 := SlS.hext Z2 hE
    replace X3 := SlS.hext X3 hE
    replace Z3 := SlS.hext Z3 hE
    replace X4 := SlS.hext X4 hE
    replace Y4 := SlS.hext Y4 hE
    replace Z4 := SlS.hext Z4 hE
    replace V4 := SlS.hext V4 hE
    replace X5 := SlS.hext X5 hE
    replace Z5 := SlS.hext Z5 hE
    replace HW := Wd.hext HW hE
    replace HE := Lib.hid (HE.out.tr hE)
    clear hE
    go_wp2_with fail
    refine (same_e _ _ L5 _ X5.out Z5.out).mono ?_
    rintro e W29 ⟨rfl, hE⟩
    replace H1 := SlS.hext H1 hE
    replace H2 := SlS.hext H2 hE
    replace X1 := SlS.hext X1 hE
    replace Z1 := SlS.hext Z1 hE
    replace X2 := SlS.hext X2 hE
    replace Z2 := SlS.hext Z2 hE
    replace X3 := SlS.hext X3 hE
    replace Z3 := SlS.hext Z3 hE
    replace X4 := SlS.hext X4 hE
    replace Y4 := SlS.hext Y4 hE
    replace Z4 := SlS.hext Z4 hE
    replace V4 := SlS.hext V4 hE
    replace X5 := SlS.hext X5 hE
    replace Z5 := SlS.hext Z5 hE
    replace HW := Wd.hext HW hE
    replace HE := Lib.hid (HE.out.tr hE)
    clear hE
    go_wp2_with fail
    go_ret
    exact ⟨rfl, HE.out⟩
theorem comp_no (v1 v2 : Value) (l m : List ByteArray) (w : World) (hW : Wd w) (h1 : SlS w v1 l) (h2 : SlS w v2 m) (hfew : (decide ((⟨#[]⟩ : ByteArray).size ≤ 20) && (fewB l && fewB m)) = true) (hb : (polB l && polB m) = false) : Calls Tryz.prog 4 #[v1, v2] w fun e w' => e = .returned (.bool true) ∧ Ext w w' := by
  have hf2 := hfew
  rw [Bool.and_eq_true, Bool.and_eq_true] at hf2
  obtain ⟨-, hf1, hf3⟩ := hf2
  have hl : l.length ≤ 1000 := Nat.le_trans (fewB_len hf1) (by omega)
  have hm : m.length ≤ 1000 := Nat.le_trans (fewB_len hf3) (by omega)
  have s1 : ∀ s ∈ l, s.size ≤ 40 := fun s hs => Nat.le_trans (fewB_txt hf1 s hs) (by omega)
  have s2 : ∀ s ∈ m, s.size ≤ 40 := fun s hs => Nat.le_trans (fewB_txt hf3 s hs) (by omega)
  have hA : ∀ (f : Value) W a b, Ext w W → SlS W a l → SlS W b m → ∀ W', Ext W W' → Calls Tryz.prog 56 #[f, a, b] W' (RetE 1 W') := fun f W a b hE ha hb2 W' hE' =>
    papply_no f a b _ _ W' ((pValid_any a l W (hW.ext hE) ha (sb_few hf1)).ext hE') ((pValid_any b m W (hW.ext hE) hb2 (sb_few hf3)).ext hE') hb
  have p1 : ∀ W a b, Ext w W → SlS W a l → SlS W b m → Calls Tryz.prog 20 #[a, b] W (RetM 1 (fun L => L = []) W) := fun W a b hE ha hb2 => (PAdd_no a b 1 W (hA _ W a b hE ha hb2)).mono fun e w' h => RetM.ofE h
  have p2 : ∀ W a b, Ext w W → SlS W a l → SlS W b m → Calls Tryz.prog 23 #[a, b] W (RetM 1 (fun L => L = []) W) := fun W a b hE ha hb2 => (PSub_no a b 1 W (hA _ W a b hE ha hb2)).mono fun e w' h => RetM.ofE h
  have p5 : ∀ W a b, Ext w W → SlS W a l → SlS W b m → Calls Tryz.prog 29 #[a, b] W (RetM 1 (fun L => L = []) W) := fun W a b hE ha hb2 => (PGCD_no a b 1 W (hA _ W a b hE ha hb2)).mono fun e w' h => RetM.ofE h
  have p3 : ∀ W a b, Ext w W → SlS W a l → SlS W b m → Calls Tryz.prog 25 #[a, b] W (RetM 1 (fun L => L = []) W) := fun W a b hE ha hb2 => by
    have va := pValid_any a l W (hW.ext hE) ha (sb_few hf1)
    have vb := pValid_any b m W (hW.ext hE) hb2 (sb_few hf3)
    cases hp : polB l
    · rw [hp] at va; exact (PMul_n1 a b 1 W va (hA _ W a b hE ha hb2)).mono fun e w' h => RetM.ofE h
    · rw [hp] at va hb
      rw [show polB m = false by simpa using hb] at vb
      exact (PMul_n2 a b 1 W va vb (hA _ W a b hE ha hb2)).mono fun e w' h => RetM.ofE h
  have p4 : ∀ W a b, Ext w W → SlS W a l → SlS W b m → Calls Tryz.prog 27 #[a, b] W (RetM2 1 (fun L M => L = [] ∧ M = []) W) := fun W a b hE ha hb2 => by
    have va := pValid_any a l W (hW.ext hE) ha (sb_few hf1)
    have vb := pValid_any b m W (hW.ext hE) hb2 (sb_few hf3)
    cases hp : polB l
    · rw [hp] at va; exact (PDiv_n1 a b W va).mono fun e w' h => RetM2.ofE h
    · rw [hp] at va hb
      rw [show polB m = false by simpa using hb] at vb
      exact (PDiv_n2 a b W va vb).mono fun e w' h => RetM2.ofE h
  have r1 : ∀ W, Ext w W → Calls Tryz.prog 22 #[v1, v2] W (RetM 1 (fun L => L = []) W) := fun W hE => (q8Add_no v1 v2 l m W (h1.ext hE) (h2.ext hE) hl hm s1 s2 hb).mono fun e w' h => RetM.ofE h
  have r2 : ∀ W, Ext w W → Calls Tryz.prog 24 #[v1, v2] W (RetM 1 (fun L => L = []) W) := fun W hE => (q8Sub_no v1 v2 l m W (h1.ext hE) (h2.ext hE) hl hm s1 s2 hb).mono fun e w' h => RetM.ofE h
  have r3 : ∀ W, Ext w W → Calls Tryz.prog 26 #[v1, v2] W (RetM 1 (fun L => L = []) W) := fun W hE => (q8Mul_no v1 v2 l m W (h1.ext hE) (h2.ext hE) hl hm s1 s2 hb).mono fun e w' h => RetM.ofE h
  have r5 : ∀ W, Ext w W → Calls Tryz.prog 30 #[v1, v2] W (RetM 1 (fun L => L = []) W) := fun W hE => (q8Gcd_no v1 v2 l m W (h1.ext hE) (h2.ext hE) hl hm s1 s2 hb).mono fun e w' h => RetM.ofE h
  have r4 : ∀ W, Ext w W → Calls Tryz.prog 28 #[v1, v2] W (RetM2 1 (fun L M => L = [] ∧ M = []) W) := fun W hE => (q8Div_no v1 v2 l m W (h1.ext hE) (h2.ext hE) hl hm s1 s2 hb).mono fun e w' h => RetM2.ofE h
  by_cases z : 6 < l.length ∧ 2 < m.length
  · exact comp_long v1 v2 l m w hW h1 h2 hfew hl hm z.1 z.2 1 1 1 1 _ _ _ _ p1 r1 (One.eq _) p2 r2 (One.eq _) p3 r3 (One.eq _) p4 r4 One2.nil
  · exact comp_ab v1 v2 l m w hW h1 h2 hfew hl hm z 1 1 1 1 1 _ _ _ _ _ p1 r1 (One.eq _) p2 r2 (One.eq _) p3 r3 (One.eq _) p4 r4 One2.nil p5 r5 (One.eq _)
theorem comp_yes (v1 v2 : Value) (p r : Pl) (w : World) (hW : Wd w) (h1 : SlS w v1 (p.map rb)) (h2 : SlS w v2 (r.map rb)) (hfew : (decide ((⟨#[]⟩ : ByteArray).size ≤ 20) && (fewB (p.map rb) && fewB (r.map rb))) = true) (tp : Tr p) (tr : Tr r) (lp : p.length ≤ 17) (lr : r.length ≤ 17) : Calls Tryz.prog 4 #[v1, v2] w fun e w' => e = .returned (.bool true) ∧ Ext w w' := by
  have hf2 := hfew
  rw [Bool.and_eq_true, Bool.and_eq_true] at hf2
  obtain ⟨-, hf1, hf3⟩ := hf2
  have s1 := fewB_txt hf1
  have s2 := fewB_txt hf3
  have hl : (p.map rb).length ≤ 1000 := by rw [List.length_map]; omega
  have hm : (r.map rb).length ≤ 1000 := by rw [List.length_map]; omega
  have k := kk38
  have po1 : ∀ W a, SlS W a (p.map rb) → PO W a p 48 := fun W a h => po_of h tp lp s1
  have po2 : ∀ W a, SlS W a (r.map rb) → PO W a r 48 := fun W a h => po_of h tr lr s2
  have hp := pb12 s1
  have hr := pb12 s2
  have hbt := div_bits lp lr
  have p1 : ∀ W a b, Ext w W → SlS W a (p.map rb) → SlS W b (r.map rb) → Calls Tryz.prog 20 #[a, b] W (RetM 0 (fun L => L = (ptrim (padd p r)).map rb) W) := fun W a b hE ha hb => (Add_p a b p r 48 48 W (hW.ext hE) (po1 W a ha) (po2 W b hb) (by omega)).mono fun e w' h => RetM.of0 h
  have p2 : ∀ W a b, Ext w W → SlS W a (p.map rb) → SlS W b (r.map rb) → Calls Tryz.prog 23 #[a, b] W (RetM 0 (fun L => L = (ptrim (padd p (pneg r))).map rb) W) := fun W a b hE ha hb => (Sub_p a b p r 48 48 W (hW.ext hE) (po1 W a ha) (po2 W b hb) (by omega)).mono fun e w' h => RetM.of0 h
  have r1 : ∀ W, Ext w W → Calls Tryz.prog 22 #[v1, v2] W (RetM 0 (fun L => L = (ptrim (padd p r)).map rb) W) := fun W hE => (q8Add_yes v1 v2 p r W (h1.ext hE) (h2.ext hE) tp tr lp lr s1 s2).mono fun e w' h => RetM.of0 h
  have r2 : ∀ W, Ext w W → Calls Tryz.prog 24 #[v1, v2] W (RetM 0 (fun L => L = (ptrim (padd p (pneg r))).map rb) W) := fun W hE => (q8Sub_yes v1 v2 p r W (h1.ext hE) (h2.ext hE) tp tr lp lr s1 s2).mono fun e w' h => RetM.of0 h
  have m3 : ∃ k3 L3, (∀ W a b, Ext w W → SlS W a (p.map rb) → SlS W b (r.map rb) → Calls Tryz.prog 25 #[a, b] W (RetM k3 (fun L => L = L3) W)) ∧ ∀ W, Ext w W → Calls Tryz.prog 26 #[v1, v2] W (RetM k3 (fun L => L = L3) W) := by
    by_cases hc : p = [] ∨ r = [] ∨ p.length + r.length ≤ 18
    · exact ⟨0, _, fun W a b hE ha hb => (Mul_p a b p r 48 48 W (hW.ext hE) (po1 W a ha) (po2 W b hb) hc (by omega)).mono fun e w' h => RetM.of0 h, fun W hE => (q8Mul_yes v1 v2 p r W (h1.ext hE) (h2.ext hE) tp tr lp lr s1 s2 hc).mono fun e w' h => RetM.of0 h⟩
    · have n1 : p ≠ [] := fun h => hc (.inl h)
      have n2 : r ≠ [] := fun h => hc (.inr (.inl h))
      have n3 : 18 < p.length + r.length := Nat.lt_of_not_le fun h => hc (.inr (.inr h))
      exact ⟨15, [], fun W a b hE ha hb => (Mul_lim a b p r 48 48 W (hW.ext hE) (po1 W a ha) (po2 W b hb) n1 n2 n3 (by omega)).mono fun e w' h => RetM.ofE h, fun W hE => (q8Mul_lim v1 v2 p r W (h1.ext hE) (h2.ext hE) tp tr lp lr s1 s2 n1 n2 n3).mono fun e w' h => RetM.ofE h⟩
  obtain ⟨k3, L3, p3, r3⟩ := m3
  have m4 : ∃ k4 D4, (∀ W a b, Ext w W → SlS W a (p.map rb) → SlS W b (r.map rb) → Calls Tryz.prog 27 #[a, b] W (RetM2 k4 D4 W)) ∧ (∀ W, Ext w W → Calls Tryz.prog 28 #[v1, v2] W (RetM2 k4 D4 W)) ∧ One2 D4 := by
    by_cases hr0 : r = []
    · subst hr0
      exact ⟨16, _, fun W a b hE ha hb => (Div_p0 a b p 48 W (hW.ext hE) (po1 W a ha) hb (by omega)).mono fun e w' h => RetM2.ofE h, fun W hE => (q8Div_zero v1 v2 p W (h1.ext hE) (h2.ext hE) tp tr lp lr s1 s2).mono fun e w' h => RetM2.ofE h, One2.nil⟩
    · refine ⟨0, DvD p r, fun W a b hE ha hb => (Div_p a b p r 48 48 W (hW.ext hE) (po1 W a ha) (po2 W b hb) 816 816 (cbm hp lp) (cbm hr lr) hr0 (by have := hbt.2.1; omega)).mono ?_, fun W hE => (q8Div_yes v1 v2 p r W (h1.ext hE) (h2.ext hE) tp tr lp lr s1 s2 hr0).mono ?_, One2.div tr⟩
      · rintro e w' ⟨x, y, q, t, rfl, hd, -, hq, ht, hE⟩
        exact ⟨x, y, _, _, rfl, hq, ht, ⟨q, t, hd, rfl, rfl⟩, hE⟩
      · rintro e w' ⟨x, y, q, t, rfl, hd, hq, ht, hE⟩
        exact ⟨x, y, _, _, rfl, hq, ht, ⟨q, t, hd, rfl, rfl⟩, hE⟩
  obtain ⟨k4, D4, p4, r4, o4⟩ := m4
  have hg5 : ¬ (6 < p.length ∧ 2 < r.length) → (∀ W a b, Ext w W → SlS W a (p.map rb) → SlS W b (r.map rb) → Calls Tryz.prog 29 #[a, b] W (RetM 0 (GcD p r) W)) ∧ ∀ W, Ext w W → Calls Tryz.prog 30 #[v1, v2] W (RetM 0 (GcD p r) W) := fun hg => by
    refine ⟨fun W a b hE ha hb => (GCD_p a b p r 48 48 W (hW.ext hE) (po1 W a ha) (po2 W b hb) 17 400000 _ _ (cbl hp) (cbl hr) lr (by omega) (by omega) (gk17 lp lr hg)).mono ?_, fun W hE => (q8Gcd_yes v1 v2 p r W (h1.ext hE) (h2.ext hE) tp tr lp lr s1 s2 hg).mono ?_⟩
    · rintro e w' ⟨x, rfl, ⟨d, hd, hg2, -⟩, hE⟩
      exact ⟨x, _, rfl, hd, ⟨d, hg2, rfl⟩, hE⟩
    · rintro e w' ⟨x, rfl, ⟨d, hd, hg2⟩, hE⟩
      exact ⟨x, _, rfl, hd, ⟨d, hg2, rfl⟩, hE⟩
  by_cases z : 6 < (p.map rb).length ∧ 2 < (r.map rb).length
  · exact comp_long v1 v2 _ _ w hW h1 h2 hfew hl hm z.1 z.2 0 0 k3 k4 _ _ _ _ p1 r1 (One.eq _) p2 r2 (One.eq _) p3 r3 (One.eq _) p4 r4 o4
  · have h5 := hg5 fun h => z (by rw [List.length_map, List.length_map]; exact h)
    exact comp_ab v1 v2 _ _ w hW h1 h2 hfew hl hm z 0 0 k3 k4 0 _ _ _ _ _ p1 r1 (One.eq _) p2 r2 (One.eq _) p3 r3 (One.eq _) p4 r4 o4 h5.1 h5.2 (One.gcd p r)
theorem comp_v (v1 v2 : Value) (l m : List ByteArray) (w : World) (hW : Wd w) (h1 : SlS w v1 l) (h2 : SlS w v2 m) : Calls Tryz.prog 4 #[v1, v2] w fun e w' => e = .returned (.bool true) ∧ Ext w w' := by
  cases hf : (decide ((⟨#[]⟩ : ByteArray).size ≤ 20) && (fewB l && fewB m))
  · exact comp_few v1 v2 l m w hW h1 h2 hf
  · cases hb : (polB l && polB m)
    · exact comp_no v1 v2 l m w hW h1 h2 hf hb
    · rw [Bool.and_eq_true] at hb
      obtain ⟨p, rfl, tp, lp⟩ := (polB_iff l).1 hb.1
      obtain ⟨r, rfl, tr, lr⟩ := (polB_iff m).1 hb.2
      exact comp_yes v1 v2 p r w hW h1 h2 hf tp tr lp lr
end Go.Proofs.YtbldlibijojbjaaGreatDoor.GB
