import Derived.Test.YtbldlibijojbjaaGreatDoorMSh
import Derived.Test.YtbldlibijojbjaaGreatDoorMYy
namespace Go.Proofs.YtbldlibijojbjaaGreatDoor.GB
set_option linter.unusedVariables false
set_option linter.unusedSimpArgs false
open Go.RowKit Go.Shelf
attribute [local go_sem ↓] Go.wp_at_zero Go.wp_at_succ
theorem aw_make (w : World) (hW : Wd w) (v : Value) (h : SlS w v [⟨#[49]⟩, ⟨#[48]⟩]) : Calls Tryz.prog 13 #[v] w (RP0 [1] w) := by
  obtain ⟨A, c, rfl, h1, h2, h3⟩ := h
  have hs : SlS w (.slice A 2 c) [⟨#[49]⟩, ⟨#[48]⟩] := ⟨A, c, rfl, h1, h2, h3⟩
  have e : tzS [⟨#[49]⟩, ⟨#[48]⟩] = [(1 : Rat)].map rb := by
    have := tzS_rb [1, 0]
    rw [show ptrim [1, 0] = [1] by decide +kernel] at this
    rw [← this]; simp [rb1, rb0]
  have hh := PMake_ok A c 2 [⟨#[49]⟩, ⟨#[48]⟩] w (by decide) (by decide)
    (fun W hE => (clone22_v _ _ W (hs.ext hE) (by decide)).mono fun e w' ⟨v, h1, h2, h3⟩ => ⟨v, h1, h2.sl, h3⟩)
    (fun W v hE hv => by
      rw [e] at hv
      exact pValid_p v [1] 4 W (hW.ext hE) hv (by decide +kernel) (by decide +kernel) (by decide) (by have := kk32; omega))
  rw [e] at hh
  exact hh
theorem va_zero (w : World) (hW : Wd w) (v : Value) (h : SlS w v [⟨#[48]⟩]) : VA v false w := by
  have hh := pValid_any v [⟨#[48]⟩] w hW h (by intro s hs; rw [List.mem_singleton.1 hs]; decide)
  have e : polB [⟨#[48]⟩] = false := by
    have h0 : lastZ [⟨#[48]⟩] = true := by
      unfold lastZ; simp [isZ, ByteArray.toList_eq]
    unfold polB; rw [h0]; simp
  rwa [e] at hh
theorem aw_same (v1 v2 : Value) (p : Pl) (w : World) (h1 : PS w v1 p) (h2 : PS w v2 p) : Calls Tryz.prog 18 #[v1, v2] w fun e w' => e = .returned (.bool true) ∧ Ext w w' := by
  have h := Same_v v1 v2 _ _ w h1 h2
  rwa [decide_eq_true rfl] at h
def pS : Pl := [0, -2, -1]
def p2 : Pl := [2]
def pD : Pl := [0, 2]
def p1 : Pl := [1]
theorem pS_rb : pS.map rb = [⟨#[48]⟩, ⟨#[45, 50]⟩, ⟨#[45, 49]⟩] := by simp [pS, rb0, rbm2, rbm1]
theorem p2_rb : p2.map rb = [⟨#[50]⟩] := by simp [p2, rb2]
theorem pD_rb : pD.map rb = [⟨#[48]⟩, ⟨#[50]⟩] := by simp [pD, rb0, rb2]
theorem p1_rb : p1.map rb = [⟨#[49]⟩] := by simp [p1, rb1]
/-- Two slices, new. -/
theorem two_lits (w : World) (T : TypeId) : PS ((w.alloc (.cells #[.string ⟨#[49]⟩, .string ⟨#[49]⟩] T)).alloc (.cells #[.string ⟨#[49]⟩, .string ⟨#[45, 49]⟩] T)) (.slice (some ⟨w.heap.size, 0, none⟩) 2 2) pA ∧ PS ((w.alloc (.cells #[.string ⟨#[49]⟩, .string ⟨#[49]⟩] T)).alloc (.cells #[.string ⟨#[49]⟩, .string ⟨#[45, 49]⟩] T)) (.slice (some ⟨w.heap.size + 1, 0, none⟩) 2 2) pB ∧ Ext w ((w.alloc (.cells #[.string ⟨#[49]⟩, .string ⟨#[49]⟩] T)).alloc (.cells #[.string ⟨#[49]⟩, .string ⟨#[45, 49]⟩] T)) := by
  have h1 := SlS.lit w [⟨#[49]⟩, ⟨#[49]⟩] T (by decide)
  have h2 := SlS.lit (w.alloc (.cells #[.string ⟨#[49]⟩, .string ⟨#[49]⟩] T)) [⟨#[49]⟩, ⟨#[45, 49]⟩] T (by decide)
  rw [World.size_alloc] at h2
  refine ⟨?_, ?_, ((Ext.rfl' w).al _).al _⟩
  · unfold PS; rw [pA_rb]; exact h1.ext ((Ext.rfl' _).al _)
  · unfold PS; rw [pB_rb]; exact h2
theorem PS.hext {w w' : World} {v : Value} {p : Pl} (h : Hid (PS w v p)) (hE : Ext w w') : Hid (PS w' v p) := h.out.ext hE
theorem SlS.hext {w w' : World} {v : Value} {p : List ByteArray} (h : Hid (SlS w v p)) (hE : Ext w w') : Hid (SlS w' v p) := h.out.ext hE
theorem Wd.hext {w w' : World} (h : Hid (Wd w)) (hE : Ext w w') : Hid (Wd w') := h.out.ext hE
set_option maxHeartbeats 16000000 in
set_option maxRecDepth 400000 in
theorem awake_v (w : World) (hW : Wd w) : Calls Tryz.prog 11 #[] w fun e w' => e = .returned (.bool true) ∧ Ext w w' := by
  obtain ⟨g1, g2, hE⟩ := two_lits w 30
  have HW := Lib.hid (hW.ext hE)
  have HE := Lib.hid hE
  have H1 := Lib.hid g1
  have H2 := Lib.hid g2
  clear g1 g2 hE hW
  go_enter Tryz.func11, Tryz.ntmps11
  go_wp2_with fail
  generalize (w.alloc (.cells #[.string ⟨#[49]⟩, .string ⟨#[49]⟩] 30)).alloc (.cells #[.string ⟨#[49]⟩, .string ⟨#[45, 49]⟩] 30) = W0 at *
  generalize hs1 : Value.slice (some ⟨w.heap.size, 0, none⟩) 2 2 = v1 at *
  generalize hs2 : Value.slice (some ⟨w.heap.size + 1, 0, none⟩) 2 2 = v2 at *
  clear hs1 hs2
  refine (aw_mul _ _ _ HW.out H1.out H2.out).mono ?_
  rintro e W1 ⟨v3, rfl, h3, hE⟩
  have H3 := Lib.hid h3
  clear h3
  replace H1 := PS.hext H1 hE
  replace H2 := PS.hext H2 hE
  replace HW := Wd.hext HW hE
  replace HE := Lib.hid (HE.out.tr hE)
  clear hE
  go_wp2_with fail
  refine (aw_div _ _ _ HW.out H3.out H1.out).mono ?_
  rintro e W2 ⟨v5, v6, rfl, h5, h6, hE⟩
  have H5 := Lib.hid h5
  have H6 := Lib.hid h6
  clear h5 h6
  replace H1 := PS.hext H1 hE
  replace H2 := PS.hext H2 hE
  replace H3 := PS.hext H3 hE
  replace HW := Wd.hext HW hE
  replace HE := Lib.hid (HE.out.tr hE)
  clear hE
  obtain ⟨B6, c6, rfl⟩ := H6.out.sl
  go_wp2_with fail
  refine (aw_int _ _ HW.out H3.out).mono ?_
  rintro e W3 ⟨v8, rfl, h8, hE⟩
  have H8 := Lib.hid h8
  clear h8
  replace H1 := PS.hext H1 hE
  replace H2 := PS.hext H2 hE
  replace H3 := PS.hext H3 hE
  replace H5 := PS.hext H5 hE
  replace H6 := PS.hext H6 hE
  replace HW := Wd.hext HW hE
  replace HE := Lib.hid (HE.out.tr hE)
  clear hE
  go_wp2_with fail
  have HL := SlS.lit W3 [⟨#[48]⟩, ⟨#[45, 49]⟩, ⟨#[49]⟩] 30 (by decide)
  have hE := (Ext.rfl' W3).al (.cells #[.string ⟨#[48]⟩, .string ⟨#[45, 49]⟩, .string ⟨#[49]⟩] 30)
  replace HL : Hid (PS (W3.alloc (.cells #[.string ⟨#[48]⟩, .string ⟨#[45, 49]⟩, .string ⟨#[49]⟩] 30)) (.slice (some ⟨W3.heap.size, 0, none⟩) 3 3) pX) := by unfold PS; rw [pX_rb]; exact HL
  generalize hWn : W3.alloc (.cells #[.string ⟨#[48]⟩, .string ⟨#[45, 49]⟩, .string ⟨#[49]⟩] 30) = W4 at *
  clear hWn
  replace H1 := PS.hext H1 hE
  replace H2 := PS.hext H2 hE
  replace H3 := PS.hext H3 hE
  replace H5 := PS.hext H5 hE
  replace H6 := PS.hext H6 hE
  replace H8 := PS.hext H8 hE
  replace HW := Wd.hext HW hE
  replace HE := Lib.hid (HE.out.tr hE)
  clear hE
  refine (aw_enc _ _ HW.out HL.out).mono ?_
  rintro e W5 ⟨rfl, hE⟩
  replace H1 := PS.hext H1 hE
  replace H2 := PS.hext H2 hE
  replace H3 := PS.hext H3 hE
  replace H5 := PS.hext H5 hE
  replace H6 := PS.hext H6 hE
  replace H8 := PS.hext H8 hE
  replace HW := Wd.hext HW hE
  replace HE := Lib.hid (HE.out.tr hE)
  clear hE
  go_wp2_with fail
  have HB := Bx.new W5 #[.string ⟨#[45, 52]⟩, .string ⟨#[50]⟩] 44
  have hE := (Ext.rfl' W5).al (.cells #[.string ⟨#[45, 52]⟩, .string ⟨#[50]⟩] 44)
  generalize hWn : W5.alloc (.cells #[.string ⟨#[45, 52]⟩, .string ⟨#[50]⟩] 44) = W6 at *
  clear hWn
  generalize hs3 : W5.heap.size = gB at *
  clear hs3
  replace H1 := PS.hext H1 hE
  replace H2 := PS.hext H2 hE
  replace H3 := PS.hext H3 hE
  replace H5 := PS.hext H5 hE
  replace H6 := PS.hext H6 hE
  replace H8 := PS.hext H8 hE
  replace HW := Wd.hext HW hE
  replace HE := Lib.hid (HE.out.tr hE)
  clear hE
  refine (aw_der _ _ HW.out H8.out).mono ?_
  rintro e W7 ⟨v12, rfl, h12, hE⟩
  have H12 := Lib.hid h12
  clear h12
  replace H1 := PS.hext H1 hE
  replace H2 := PS.hext H2 hE
  replace H3 := PS.hext H3 hE
  replace H5 := PS.hext H5 hE
  replace H6 := PS.hext H6 hE
  replace H8 := PS.hext H8 hE
  replace HB := HB.ext hE
  replace HW := Wd.hext HW hE
  replace HE := Lib.hid (HE.out.tr hE)
  clear hE
  go_wp2_with fail
  refine (aw_shift _ _ HW.out H3.out).mono ?_
  rintro e W8 ⟨v14, rfl, h14, hE⟩
  have H14 := Lib.hid h14
  clear h14
  replace H1 := PS.hext H1 hE
  replace H2 := PS.hext H2 hE
  replace H3 := PS.hext H3 hE
  replace H5 := PS.hext H5 hE
  replace H6 := PS.hext H6 hE
  replace H8 := PS.hext H8 hE
  replace H12 := PS.hext H12 hE
  replace HB := HB.ext hE
  replace HW := Wd.hext HW hE
  replace HE := Lib.hid (HE.out.tr hE)
  clear hE
  go_wp2_with fail
  refine (aw_eval _ _ HW.out H3.out).mono ?_
  rintro e W9 ⟨rfl, hE⟩
  replace H1 := PS.hext H1 hE
  replace H2 := PS.hext H2 hE
  replace H3 := PS.hext H3 hE
  replace H5 := PS.hext H5 hE
  replace H6 := PS.hext H6 hE
  replace H8 := PS.hext H8 hE
  replace H12 := PS.hext H12 hE
  replace H14 := PS.hext H14 hE
  replace HB := HB.ext hE
  replace HW := Wd.hext HW hE
  replace HE := Lib.hid (HE.out.tr hE)
  clear hE
  go_wp2_with fail
  refine (aw_gcd _ _ _ HW.out H3.out H1.out).mono ?_
  rintro e W10 ⟨v18, rfl, h18, hE⟩
  have H18 := Lib.hid h18
  clear h18
  replace H1 := PS.hext H1 hE
  replace H2 := PS.hext H2 hE
  replace H3 := PS.hext H3 hE
  replace H5 := PS.hext H5 hE
  replace H6 := PS.hext H6 hE
  replace H8 := PS.hext H8 hE
  replace H12 := PS.hext H12 hE
  replace H14 := PS.hext H14 hE
  replace HB := HB.ext hE
  replace HW := Wd.hext HW hE
  replace HE := Lib.hid (HE.out.tr hE)
  clear hE
  go_wp2_with fail
  refine (aw_add _ _ _ HW.out H1.out H2.out).mono ?_
  rintro e W11 ⟨v20, rfl, h20, hE⟩
  have H20 := Lib.hid h20
  clear h20
  replace H1 := PS.hext H1 hE
  replace H2 := PS.hext H2 hE
  replace H3 := PS.hext H3 hE
  replace H5 := PS.hext H5 hE
  replace H6 := PS.hext H6 hE
  replace H8 := PS.hext H8 hE
  replace H12 := PS.hext H12 hE
  replace H14 := PS.hext H14 hE
  replace H18 := PS.hext H18 hE
  replace HB := HB.ext hE
  replace HW := Wd.hext HW hE
  replace HE := Lib.hid (HE.out.tr hE)
  clear hE
  go_wp2_with fail
  refine (aw_sub _ _ _ HW.out H1.out H2.out).mono ?_
  rintro e W12 ⟨v22, rfl, h22, hE⟩
  have H22 := Lib.hid h22
  clear h22
  replace H1 := PS.hext H1 hE
  replace H2 := PS.hext H2 hE
  replace H3 := PS.hext H3 hE
  replace H5 := PS.hext H5 hE
  replace H6 := PS.hext H6 hE
  replace H8 := PS.hext H8 hE
  replace H12 := PS.hext H12 hE
  replace H14 := PS.hext H14 hE
  replace H18 := PS.hext H18 hE
  replace H20 := PS.hext H20 hE
  replace HB := HB.ext hE
  replace HW := Wd.hext HW hE
  replace HE := Lib.hid (HE.out.tr hE)
  clear hE
  go_wp2_with fail
  have HM := SlS.lit W12 [⟨#[49]⟩, ⟨#[48]⟩] 30 (by decide)
  have hE := (Ext.rfl' W12).al (.cells #[.string ⟨#[49]⟩, .string ⟨#[48]⟩] 30)
  replace HM : Hid (SlS (W12.alloc (.cells #[.string ⟨#[49]⟩, .string ⟨#[48]⟩] 30)) (.slice (some ⟨W12.heap.size, 0, none⟩) 2 2) [⟨#[49]⟩, ⟨#[48]⟩]) := HM
  generalize hWn : W12.alloc (.cells #[.string ⟨#[49]⟩, .string ⟨#[48]⟩] 30) = W13 at *
  clear hWn
  replace H1 := PS.hext H1 hE
  replace H2 := PS.hext H2 hE
  replace H3 := PS.hext H3 hE
  replace H5 := PS.hext H5 hE
  replace H6 := PS.hext H6 hE
  replace H8 := PS.hext H8 hE
  replace H12 := PS.hext H12 hE
  replace H14 := PS.hext H14 hE
  replace H18 := PS.hext H18 hE
  replace H20 := PS.hext H20 hE
  replace H22 := PS.hext H22 hE
  replace HB := HB.ext hE
  replace HW := Wd.hext HW hE
  replace HE := Lib.hid (HE.out.tr hE)
  clear hE
  refine (aw_make _ HW.out _ HM.out).mono ?_
  rintro e W14 ⟨v24, rfl, h24, hE⟩
  have H24 := Lib.hid h24
  clear h24
  replace H1 := PS.hext H1 hE
  replace H2 := PS.hext H2 hE
  replace H3 := PS.hext H3 hE
  replace H5 := PS.hext H5 hE
  replace H6 := PS.hext H6 hE
  replace H8 := PS.hext H8 hE
  replace H12 := PS.hext H12 hE
  replace H14 := PS.hext H14 hE
  replace H18 := PS.hext H18 hE
  replace H20 := PS.hext H20 hE
  replace H22 := PS.hext H22 hE
  replace HB := HB.ext hE
  replace HW := Wd.hext HW hE
  replace HE := Lib.hid (HE.out.tr hE)
  clear hE
  go_wp2_with fail
  have L1 := SlS.lit W14 [⟨#[49]⟩, ⟨#[48]⟩, ⟨#[45, 49]⟩] 30 (by decide)
  have hE := (Ext.rfl' W14).al (.cells #[.string ⟨#[49]⟩, .string ⟨#[48]⟩, .string ⟨#[45, 49]⟩] 30)
  replace L1 : Hid (PS (W14.alloc (.cells #[.string ⟨#[49]⟩, .string ⟨#[48]⟩, .string ⟨#[45, 49]⟩] 30)) (.slice (some ⟨W14.heap.size, 0, none⟩) 3 3) pP) := by unfold PS; rw [pP_rb]; exact L1
  generalize hWn : W14.alloc (.cells #[.string ⟨#[49]⟩, .string ⟨#[48]⟩, .string ⟨#[45, 49]⟩] 30) = W15 at *
  clear hWn
  replace H1 := PS.hext H1 hE
  replace H2 := PS.hext H2 hE
  replace H3 := PS.hext H3 hE
  replace H5 := PS.hext H5 hE
  replace H6 := PS.hext H6 hE
  replace H8 := PS.hext H8 hE
  replace H12 := PS.hext H12 hE
  replace H14 := PS.hext H14 hE
  replace H18 := PS.hext H18 hE
  replace H20 := PS.hext H20 hE
  replace H22 := PS.hext H22 hE
  replace H24 := PS.hext H24 hE
  replace HB := HB.ext hE
  replace HW := Wd.hext HW hE
  replace HE := Lib.hid (HE.out.tr hE)
  clear hE
  refine (aw_same _ _ _ _ H3.out L1.out).mono ?_
  rintro e W16 ⟨rfl, hE⟩
  replace H1 := PS.hext H1 hE
  replace H2 := PS.hext H2 hE
  replace H3 := PS.hext H3 hE
  replace H5 := PS.hext H5 hE
  replace H6 := PS.hext H6 hE
  replace H8 := PS.hext H8 hE
  replace H12 := PS.hext H12 hE
  replace H14 := PS.hext H14 hE
  replace H18 := PS.hext H18 hE
  replace H20 := PS.hext H20 hE
  replace H22 := PS.hext H22 hE
  replace H24 := PS.hext H24 hE
  replace HB := HB.ext hE
  replace HW := Wd.hext HW hE
  replace HE := Lib.hid (HE.out.tr hE)
  clear hE
  go_wp2_with fail
  refine (aw_same _ _ _ _ H5.out H2.out).mono ?_
  rintro e W17 ⟨rfl, hE⟩
  replace H1 := PS.hext H1 hE
  replace H2 := PS.hext H2 hE
  replace H3 := PS.hext H3 hE
  replace H5 := PS.hext H5 hE
  replace H6 := PS.hext H6 hE
  replace H8 := PS.hext H8 hE
  replace H12 := PS.hext H12 hE
  replace H14 := PS.hext H14 hE
  replace H18 := PS.hext H18 hE
  replace H20 := PS.hext H20 hE
  replace H22 := PS.hext H22 hE
  replace H24 := PS.hext H24 hE
  replace HB := HB.ext hE
  replace HW := Wd.hext HW hE
  replace HE := Lib.hid (HE.out.tr hE)
  clear hE
  go_wp2_with fail
  have L2 := SlS.lit W17 [⟨#[48]⟩, ⟨#[49]⟩, ⟨#[48]⟩, ⟨#[45, 49, 47, 51]⟩] 30 (by decide)
  have hE := (Ext.rfl' W17).al (.cells #[.string ⟨#[48]⟩, .string ⟨#[49]⟩, .string ⟨#[48]⟩, .string ⟨#[45, 49, 47, 51]⟩] 30)
  replace L2 : Hid (PS (W17.alloc (.cells #[.string ⟨#[48]⟩, .string ⟨#[49]⟩, .string ⟨#[48]⟩, .string ⟨#[45, 49, 47, 51]⟩] 30)) (.slice (some ⟨W17.heap.size, 0, none⟩) 4 4) pI) := by unfold PS; rw [pI_rb]; exact L2
  generalize hWn : W17.alloc (.cells #[.string ⟨#[48]⟩, .string ⟨#[49]⟩, .string ⟨#[48]⟩, .string ⟨#[45, 49, 47, 51]⟩] 30) = W18 at *
  clear hWn
  replace H1 := PS.hext H1 hE
  replace H2 := PS.hext H2 hE
  replace H3 := PS.hext H3 hE
  replace H5 := PS.hext H5 hE
  replace H6 := PS.hext H6 hE
  replace H8 := PS.hext H8 hE
  replace H12 := PS.hext H12 hE
  replace H14 := PS.hext H14 hE
  replace H18 := PS.hext H18 hE
  replace H20 := PS.hext H20 hE
  replace H22 := PS.hext H22 hE
  replace H24 := PS.hext H24 hE
  replace HB := HB.ext hE
  replace HW := Wd.hext HW hE
  replace HE := Lib.hid (HE.out.tr hE)
  clear hE
  refine (aw_same _ _ _ _ H8.out L2.out).mono ?_
  rintro e W19 ⟨rfl, hE⟩
  replace H1 := PS.hext H1 hE
  replace H2 := PS.hext H2 hE
  replace H3 := PS.hext H3 hE
  replace H5 := PS.hext H5 hE
  replace H6 := PS.hext H6 hE
  replace H8 := PS.hext H8 hE
  replace H12 := PS.hext H12 hE
  replace H14 := PS.hext H14 hE
  replace H18 := PS.hext H18 hE
  replace H20 := PS.hext H20 hE
  replace H22 := PS.hext H22 hE
  replace H24 := PS.hext H24 hE
  replace HB := HB.ext hE
  replace HW := Wd.hext HW hE
  replace HE := Lib.hid (HE.out.tr hE)
  clear hE
  obtain ⟨q0, q1, -, -⟩ := HB.e2
  go_wp2_with fail
  clear q0 q1
  refine (aw_same _ _ _ _ H12.out H3.out).mono ?_
  rintro e W20 ⟨rfl, hE⟩
  replace H1 := PS.hext H1 hE
  replace H2 := PS.hext H2 hE
  replace H3 := PS.hext H3 hE
  replace H5 := PS.hext H5 hE
  replace H6 := PS.hext H6 hE
  replace H8 := PS.hext H8 hE
  replace H12 := PS.hext H12 hE
  replace H14 := PS.hext H14 hE
  replace H18 := PS.hext H18 hE
  replace H20 := PS.hext H20 hE
  replace H22 := PS.hext H22 hE
  replace H24 := PS.hext H24 hE
  replace HB := HB.ext hE
  replace HW := Wd.hext HW hE
  replace HE := Lib.hid (HE.out.tr hE)
  clear hE
  go_wp2_with fail
  have L3 := SlS.lit W20 [⟨#[48]⟩, ⟨#[45, 50]⟩, ⟨#[45, 49]⟩] 30 (by decide)
  have hE := (Ext.rfl' W20).al (.cells #[.string ⟨#[48]⟩, .string ⟨#[45, 50]⟩, .string ⟨#[45, 49]⟩] 30)
  replace L3 : Hid (PS (W20.alloc (.cells #[.string ⟨#[48]⟩, .string ⟨#[45, 50]⟩, .string ⟨#[45, 49]⟩] 30)) (.slice (some ⟨W20.heap.size, 0, none⟩) 3 3) pS) := by unfold PS; rw [pS_rb]; exact L3
  generalize hWn : W20.alloc (.cells #[.string ⟨#[48]⟩, .string ⟨#[45, 50]⟩, .string ⟨#[45, 49]⟩] 30) = W21 at *
  clear hWn
  replace H1 := PS.hext H1 hE
  replace H2 := PS.hext H2 hE
  replace H3 := PS.hext H3 hE
  replace H5 := PS.hext H5 hE
  replace H6 := PS.hext H6 hE
  replace H8 := PS.hext H8 hE
  replace H12 := PS.hext H12 hE
  replace H14 := PS.hext H14 hE
  replace H18 := PS.hext H18 hE
  replace H20 := PS.hext H20 hE
  replace H22 := PS.hext H22 hE
  replace H24 := PS.hext H24 hE
  replace HB := HB.ext hE
  replace HW := Wd.hext HW hE
  replace HE := Lib.hid (HE.out.tr hE)
  clear hE
  refine (aw_same _ _ _ _ H14.out L3.out).mono ?_
  rintro e W22 ⟨rfl, hE⟩
  replace H1 := PS.hext H1 hE
  replace H2 := PS.hext H2 hE
  replace H3 := PS.hext H3 hE
  replace H5 := PS.hext H5 hE
  replace H6 := PS.hext H6 hE
  replace H8 := PS.hext H8 hE
  replace H12 := PS.hext H12 hE
  replace H14 := PS.hext H14 hE
  replace H18 := PS.hext H18 hE
  replace H20 := PS.hext H20 hE
  replace H22 := PS.hext H22 hE
  replace H24 := PS.hext H24 hE
  replace HB := HB.ext hE
  replace HW := Wd.hext HW hE
  replace HE := Lib.hid (HE.out.tr hE)
  clear hE
  go_wp2_with fail
  refine (aw_same _ _ _ _ H18.out H1.out).mono ?_
  rintro e W23 ⟨rfl, hE⟩
  replace H1 := PS.hext H1 hE
  replace H2 := PS.hext H2 hE
  replace H3 := PS.hext H3 hE
  replace H5 := PS.hext H5 hE
  replace H6 := PS.hext H6 hE
  replace H8 := PS.hext H8 hE
  replace H12 := PS.hext H12 hE
  replace H14 := PS.hext H14 hE
  replace H18 := PS.hext H18 hE
  replace H20 := PS.hext H20 hE
  replace H22 := PS.hext H22 hE
  replace H24 := PS.hext H24 hE
  replace HB := HB.ext hE
  replace HW := Wd.hext HW hE
  replace HE := Lib.hid (HE.out.tr hE)
  clear hE
  go_wp2_with fail
  have L4 := SlS.lit W23 [⟨#[50]⟩] 30 (by decide)
  have hE := (Ext.rfl' W23).al (.cells #[.string ⟨#[50]⟩] 30)
  replace L4 : Hid (PS (W23.alloc (.cells #[.string ⟨#[50]⟩] 30)) (.slice (some ⟨W23.heap.size, 0, none⟩) 1 1) p2) := by unfold PS; rw [p2_rb]; exact L4
  generalize hWn : W23.alloc (.cells #[.string ⟨#[50]⟩] 30) = W24 at *
  clear hWn
  replace H1 := PS.hext H1 hE
  replace H2 := PS.hext H2 hE
  replace H3 := PS.hext H3 hE
  replace H5 := PS.hext H5 hE
  replace H6 := PS.hext H6 hE
  replace H8 := PS.hext H8 hE
  replace H12 := PS.hext H12 hE
  replace H14 := PS.hext H14 hE
  replace H18 := PS.hext H18 hE
  replace H20 := PS.hext H20 hE
  replace H22 := PS.hext H22 hE
  replace H24 := PS.hext H24 hE
  replace HB := HB.ext hE
  replace HW := Wd.hext HW hE
  replace HE := Lib.hid (HE.out.tr hE)
  clear hE
  refine (aw_same _ _ _ _ H20.out L4.out).mono ?_
  rintro e W25 ⟨rfl, hE⟩
  replace H1 := PS.hext H1 hE
  replace H2 := PS.hext H2 hE
  replace H3 := PS.hext H3 hE
  replace H5 := PS.hext H5 hE
  replace H6 := PS.hext H6 hE
  replace H8 := PS.hext H8 hE
  replace H12 := PS.hext H12 hE
  replace H14 := PS.hext H14 hE
  replace H18 := PS.hext H18 hE
  replace H20 := PS.hext H20 hE
  replace H22 := PS.hext H22 hE
  replace H24 := PS.hext H24 hE
  replace HB := HB.ext hE
  replace HW := Wd.hext HW hE
  replace HE := Lib.hid (HE.out.tr hE)
  clear hE
  go_wp2_with fail
  have L5 := SlS.lit W25 [⟨#[48]⟩, ⟨#[50]⟩] 30 (by decide)
  have hE := (Ext.rfl' W25).al (.cells #[.string ⟨#[48]⟩, .string ⟨#[50]⟩] 30)
  replace L5 : Hid (PS (W25.alloc (.cells #[.string ⟨#[48]⟩, .string ⟨#[50]⟩] 30)) (.slice (some ⟨W25.heap.size, 0, none⟩) 2 2) pD) := by unfold PS; rw [pD_rb]; exact L5
  generalize hWn : W25.alloc (.cells #[.string ⟨#[48]⟩, .string ⟨#[50]⟩] 30) = W26 at *
  clear hWn
  replace H1 := PS.hext H1 hE
  replace H2 := PS.hext H2 hE
  replace H3 := PS.hext H3 hE
  replace H5 := PS.hext H5 hE
  replace H6 := PS.hext H6 hE
  replace H8 := PS.hext H8 hE
  replace H12 := PS.hext H12 hE
  replace H14 := PS.hext H14 hE
  replace H18 := PS.hext H18 hE
  replace H20 := PS.hext H20 hE
  replace H22 := PS.hext H22 hE
  replace H24 := PS.hext H24 hE
  replace HB := HB.ext hE
  replace HW := Wd.hext HW hE
  replace HE := Lib.hid (HE.out.tr hE)
  clear hE
  refine (aw_same _ _ _ _ H22.out L5.out).mono ?_
  rintro e W27 ⟨rfl, hE⟩
  replace H1 := PS.hext H1 hE
  replace H2 := PS.hext H2 hE
  replace H3 := PS.hext H3 hE
  replace H5 := PS.hext H5 hE
  replace H6 := PS.hext H6 hE
  replace H8 := PS.hext H8 hE
  replace H12 := PS.hext H12 hE
  replace H14 := PS.hext H14 hE
  replace H18 := PS.hext H18 hE
  replace H20 := PS.hext H20 hE
  replace H22 := PS.hext H22 hE
  replace H24 := PS.hext H24 hE
  replace HB := HB.ext hE
  replace HW := Wd.hext HW hE
  replace HE := Lib.hid (HE.out.tr hE)
  clear hE
  go_wp2_with fail
  have L6 := SlS.lit W27 [⟨#[49]⟩] 30 (by decide)
  have hE := (Ext.rfl' W27).al (.cells #[.string ⟨#[49]⟩] 30)
  replace L6 : Hid (PS (W27.alloc (.cells #[.string ⟨#[49]⟩] 30)) (.slice (some ⟨W27.heap.size, 0, none⟩) 1 1) p1) := by unfold PS; rw [p1_rb]; exact L6
  generalize hWn : W27.alloc (.cells #[.string ⟨#[49]⟩] 30) = W28 at *
  clear hWn
  replace H1 := PS.hext H1 hE
  replace H2 := PS.hext H2 hE
  replace H3 := PS.hext H3 hE
  replace H5 := PS.hext H5 hE
  replace H6 := PS.hext H6 hE
  replace H8 := PS.hext H8 hE
  replace H12 := PS.hext H12 hE
  replace H14 := PS.hext H14 hE
  replace H18 := PS.hext H18 hE
  replace H20 := PS.hext H20 hE
  replace H22 := PS.hext H22 hE
  replace H24 := PS.hext H24 hE
  replace HB := HB.ext hE
  replace HW := Wd.hext HW hE
  replace HE := Lib.hid (HE.out.tr hE)
  clear hE
  refine (aw_same _ _ _ _ H24.out L6.out).mono ?_
  rintro e W29 ⟨rfl, hE⟩
  replace H1 := PS.hext H1 hE
  replace H2 := PS.hext H2 hE
  replace H3 := PS.hext H3 hE
  replace H5 := PS.hext H5 hE
  replace H6 := PS.hext H6 hE
  replace H8 := PS.hext H8 hE
  replace H12 := PS.hext H12 hE
  replace H14 := PS.hext H14 hE
  replace H18 := PS.hext H18 hE
  replace H20 := PS.hext H20 hE
  replace H22 := PS.hext H22 hE
  replace H24 := PS.hext H24 hE
  replace HB := HB.ext hE
  replace HW := Wd.hext HW hE
  replace HE := Lib.hid (HE.out.tr hE)
  clear hE
  go_wp2_with fail
  refine ((pValid_p _ pP 4 _ HW.out H3.out (by decide +kernel) (by decide +kernel) (by decide) (by have := kk32; omega)) _ (Ext.rfl' _)).mono ?_
  rintro e W30 ⟨rfl, hE⟩
  replace H1 := PS.hext H1 hE
  replace H2 := PS.hext H2 hE
  replace H3 := PS.hext H3 hE
  replace H5 := PS.hext H5 hE
  replace H6 := PS.hext H6 hE
  replace H8 := PS.hext H8 hE
  replace H12 := PS.hext H12 hE
  replace H14 := PS.hext H14 hE
  replace H18 := PS.hext H18 hE
  replace H20 := PS.hext H20 hE
  replace H22 := PS.hext H22 hE
  replace H24 := PS.hext H24 hE
  replace HB := HB.ext hE
  replace HW := Wd.hext HW hE
  replace HE := Lib.hid (HE.out.tr hE)
  clear hE
  go_wp2_with fail
  have L7 := SlS.lit W30 [⟨#[48]⟩] 30 (by decide)
  have hE := (Ext.rfl' W30).al (.cells #[.string ⟨#[48]⟩] 30)
  replace L7 : Hid (SlS (W30.alloc (.cells #[.string ⟨#[48]⟩] 30)) (.slice (some ⟨W30.heap.size, 0, none⟩) 1 1) [⟨#[48]⟩]) := L7
  generalize hWn : W30.alloc (.cells #[.string ⟨#[48]⟩] 30) = W31 at *
  clear hWn
  replace H1 := PS.hext H1 hE
  replace H2 := PS.hext H2 hE
  replace H3 := PS.hext H3 hE
  replace H5 := PS.hext H5 hE
  replace H6 := PS.hext H6 hE
  replace H8 := PS.hext H8 hE
  replace H12 := PS.hext H12 hE
  replace H14 := PS.hext H14 hE
  replace H18 := PS.hext H18 hE
  replace H20 := PS.hext H20 hE
  replace H22 := PS.hext H22 hE
  replace H24 := PS.hext H24 hE
  replace HB := HB.ext hE
  replace HW := Wd.hext HW hE
  replace HE := Lib.hid (HE.out.tr hE)
  clear hE
  refine ((va_zero _ HW.out _ L7.out) _ (Ext.rfl' _)).mono ?_
  rintro e W32 ⟨rfl, hE⟩
  replace H1 := PS.hext H1 hE
  replace H2 := PS.hext H2 hE
  replace H3 := PS.hext H3 hE
  replace H5 := PS.hext H5 hE
  replace H6 := PS.hext H6 hE
  replace H8 := PS.hext H8 hE
  replace H12 := PS.hext H12 hE
  replace H14 := PS.hext H14 hE
  replace H18 := PS.hext H18 hE
  replace H20 := PS.hext H20 hE
  replace H22 := PS.hext H22 hE
  replace H24 := PS.hext H24 hE
  replace HB := HB.ext hE
  replace HW := Wd.hext HW hE
  replace HE := Lib.hid (HE.out.tr hE)
  clear hE
  go_wp2_with fail
  go_ret
  exact ⟨rfl, HE.out⟩
end Go.Proofs.YtbldlibijojbjaaGreatDoor.GB

namespace Go.Proofs.YtbldlibijojbjaaGreatDoor.GB
set_option linter.unusedVariables false
set_option linter.unusedSimpArgs false
open Go.RowKit Go.Shelf
attribute [local go_sem ↓] Go.wp_at_zero Go.wp_at_succ
/-- The texts of a valid polynomial whose numbers are short. -/
theorem po_of {w : World} {v : Value} {p : Pl} (h : SlS w v (p.map rb)) (tp : Tr p) (hl : p.length ≤ 17) (hs : ∀ s ∈ p.map rb, s.size ≤ 12) : PO w v p 48 := by
  refine ⟨h, fun q hq => ?_, tp, hl⟩
  have h1 := hs (rb q) (List.mem_map_of_mem hq)
  have h2 : (rb q).size = (rtext q).length := by simp [rb, ByteArray.size]
  exact (Bd.of_len q).mono (by omega)
theorem SlS.slc {w : World} {v : Value} {l : List ByteArray} (h : SlS w v l) : ∃ A c, v = .slice A l.length c := by
  obtain ⟨A, c, e, _⟩ := h; exact ⟨A, c, e⟩
theorem few2 (x : ByteArray) (w : World) (v1 v2 : Value) (l m : List ByteArray) (T : TypeId) (h1 : SlS w v1 l) (h2 : SlS w v2 m) :
    Calls Tryz.prog 19 #[.string x, .slice (some ⟨w.heap.size, 0, none⟩) 2 2] (w.alloc (.cells #[v1, v2] T)) fun e w' => e = .returned (.bool (decide (x.size ≤ 20) && (fewB l && fewB m))) ∧ Ext (w.alloc (.cells #[v1, v2] T)) w' := by
  have h := few_any x (some ⟨w.heap.size, 0, none⟩) 2 [(v1, l), (v2, m)] _ (show 2 ≤ 1000 by decide) (two_polys w v1 v2 l m T h1 h2)
  have e : [(v1, l), (v2, m)].all (fun x => fewB x.2) = (fewB l && fewB m) := by simp
  rw [e] at h
  exact h
/-- Short texts make a short polynomial, or none. -/
theorem sb_few {l : List ByteArray} (h : fewB l = true) : SB l := fun s hs => by have := fewB_txt h s hs; omega
end Go.Proofs.YtbldlibijojbjaaGreatDoor.GB

namespace Go.Proofs.YtbldlibijojbjaaGreatDoor.GB
set_option linter.unusedVariables false
set_option linter.unusedSimpArgs false
open Go.RowKit Go.Shelf
attribute [local go_sem ↓] Go.wp_at_zero Go.wp_at_succ
theorem pev_bd {p : Pl} {n m : Nat} {x : Rat} (hp : PB p n) (hx : Bd x m) : Bd (pev p x) (p.length * (m + n + 1)) := by
  induction p with
  | nil => exact Bd.of_int 0 _ (by rw [Int.natAbs_zero]; exact Nat.two_pow_pos _)
  | cons a p ih =>
    have h1 : Bd a n := hp a (by simp)
    have h2 := ih fun q hq => hp q (by simp [hq])
    have e : (a :: p).length * (m + n + 1) = p.length * (m + n + 1) + (m + n + 1) := by rw [List.length_cons, Nat.succ_mul]
    rw [e]
    exact (h1.add (hx.mul h2)).mono (by omega)
theorem rva_any (s : ByteArray) (w : World) (hW : Wd w) (hs : s.size ≤ 1000000) (b : Bool) (hb : ratB s.data.toList = b) : RVA (.string s) b w := fun W hE => by
  have h := rValid_any s W (hW.ext hE) hs
  rwa [hb] at h
theorem Eval_no (v : Value) (l : List ByteArray) (x : ByteArray) (w : World) (hW : Wd w) (h : SlS w v l) (hs : SB l) (hx : x.size ≤ 1000000) (hb : (polB l && ratB x.data.toList) = false) :
    Calls Tryz.prog 31 #[v, .string x] w (RetT 1 w) := by
  have h1 := pValid_any v l w hW h hs
  cases hl : polB l
  · rw [hl] at h1; exact eval_n1 v x w h1
  · rw [hl] at h1 hb
    exact eval_n2 v x w h1 (rva_any x w hW hx false (by simpa using hb))
end Go.Proofs.YtbldlibijojbjaaGreatDoor.GB
