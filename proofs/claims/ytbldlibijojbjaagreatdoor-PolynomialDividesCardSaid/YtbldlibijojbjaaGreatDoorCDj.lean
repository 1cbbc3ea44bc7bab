import Derived.Test.YtbldlibijojbjaaGreatDoorCDp
namespace Go.Proofs.YtbldlibijojbjaaGreatDoor.GB
set_option linter.unusedVariables false
set_option linter.unusedSimpArgs false
open Go.RowKit Go.Shelf
attribute [local go_sem ↓] Go.wp_at_zero Go.wp_at_succ
theorem PO.hext {w w' : World} {v : Value} {p : Pl} {n : Nat} (h : Hid (PO w v p n)) (hE : Ext w w') : Hid (PO w' v p n) := h.out.ext hE
set_option maxHeartbeats 16000000 in
set_option maxRecDepth 400000 in
theorem divs_few (v1 v2 : Value) (l m : List ByteArray) (w : World) (hW : Wd w) (h1 : SlS w v1 l) (h2 : SlS w v2 m) (hfew : (decide ((⟨#[]⟩ : ByteArray).size ≤ 20) && (fewB l && fewB m)) = false) : Calls Tryz.prog 8 #[v1, v2] w fun e w' => e = .returned (.bool true) ∧ Ext w w' := by
  have HW := Lib.hid hW
  have HE := Lib.hid (Ext.rfl' w)
  obtain ⟨A1, c1, rfl⟩ := h1.slc
  obtain ⟨A2, c2, rfl⟩ := h2.slc
  have H1 := Lib.hid h1
  have H2 := Lib.hid h2
  clear hW h1 h2
  generalize hln : l.length = ln at *
  generalize hmn : m.length = mn at *
  have HLN := Lib.hid hln
  have HMN := Lib.hid hmn
  clear hln hmn
  go_enter Tryz.func8, Tryz.ntmps8
  go_wp2_with fail
  refine (awake_v _ HW.out).mono ?_
  rintro e W1 ⟨rfl, hE⟩
  replace H1 := SlS.hext H1 hE
  replace H2 := SlS.hext H2 hE
  replace HW := Wd.hext HW hE
  replace HE := Lib.hid (HE.out.tr hE)
  clear hE
  go_wp2_with fail
  have hF : Calls Tryz.prog 19 #[.string ⟨#[]⟩, .slice (some ⟨W1.heap.size, 0, none⟩) 2 2] (W1.alloc (.cells #[(.slice A1 ln c1), (.slice A2 mn c2)] 25)) fun e w' => e = .returned (.bool (decide ((⟨#[]⟩ : ByteArray).size ≤ 20) && (fewB l && fewB m))) ∧ Ext (W1.alloc (.cells #[(.slice A1 ln c1), (.slice A2 mn c2)] 25)) w' := few2 ⟨#[]⟩ W1 (.slice A1 ln c1) (.slice A2 mn c2) l m 25 H1.out H2.out
  rw [hfew] at hF
  have hE := (Ext.rfl' W1).al (.cells #[(.slice A1 ln c1), (.slice A2 mn c2)] 25)
  generalize hWn : W1.alloc (.cells #[(.slice A1 ln c1), (.slice A2 mn c2)] 25) = W2 at *
  clear hWn
  replace H1 := SlS.hext H1 hE
  replace H2 := SlS.hext H2 hE
  replace HW := Wd.hext HW hE
  replace HE := Lib.hid (HE.out.tr hE)
  clear hE
  refine (hF).mono ?_
  rintro e W3 ⟨rfl, hE⟩
  replace H1 := SlS.hext H1 hE
  replace H2 := SlS.hext H2 hE
  replace HW := Wd.hext HW hE
  replace HE := Lib.hid (HE.out.tr hE)
  clear hE
  clear hF hfew
  go_wp2_with fail
  refine (awake_v _ HW.out).mono ?_
  rintro e W4 ⟨rfl, hE⟩
  replace H1 := SlS.hext H1 hE
  replace H2 := SlS.hext H2 hE
  replace HW := Wd.hext HW hE
  replace HE := Lib.hid (HE.out.tr hE)
  clear hE
  go_wp2_with fail
  go_ret
  exact ⟨rfl, HE.out⟩
set_option maxHeartbeats 16000000 in
set_option maxRecDepth 400000 in
theorem divs_long1 (v1 v2 : Value) (l m : List ByteArray) (w : World) (hW : Wd w) (h1 : SlS w v1 l) (h2 : SlS w v2 m) (hfew : (decide ((⟨#[]⟩ : ByteArray).size ≤ 20) && (fewB l && fewB m)) = true) (hl : 6 < l.length) : Calls Tryz.prog 8 #[v1, v2] w fun e w' => e = .returned (.bool true) ∧ Ext w w' := by
  have HW := Lib.hid hW
  have HE := Lib.hid (Ext.rfl' w)
  obtain ⟨A1, c1, rfl⟩ := h1.slc
  obtain ⟨A2, c2, rfl⟩ := h2.slc
  have H1 := Lib.hid h1
  have H2 := Lib.hid h2
  clear hW h1 h2
  generalize hln : l.length = ln at *
  generalize hmn : m.length = mn at *
  have HLN := Lib.hid hln
  have HMN := Lib.hid hmn
  clear hln hmn
  have hl2 : (6 : Int) < (ln : Int) := by omega
  go_enter Tryz.func8, Tryz.ntmps8
  go_wp2_with fail
  refine (awake_v _ HW.out).mono ?_
  rintro e W1 ⟨rfl, hE⟩
  replace H1 := SlS.hext H1 hE
  replace H2 := SlS.hext H2 hE
  replace HW := Wd.hext HW hE
  replace HE := Lib.hid (HE.out.tr hE)
  clear hE
  go_wp2_with fail
  have hF : Calls Tryz.prog 19 #[.string ⟨#[]⟩, .slice (some ⟨W1.heap.size, 0, none⟩) 2 2] (W1.alloc (.cells #[(.slice A1 ln c1), (.slice A2 mn c2)] 25)) fun e w' => e = .returned (.bool (decide ((⟨#[]⟩ : ByteArray).size ≤ 20) && (fewB l && fewB m))) ∧ Ext (W1.alloc (.cells #[(.slice A1 ln c1), (.slice A2 mn c2)] 25)) w' := few2 ⟨#[]⟩ W1 (.slice A1 ln c1) (.slice A2 mn c2) l m 25 H1.out H2.out
  rw [hfew] at hF
  have hE := (Ext.rfl' W1).al (.cells #[(.slice A1 ln c1), (.slice A2 mn c2)] 25)
  generalize hWn : W1.alloc (.cells #[(.slice A1 ln c1), (.slice A2 mn c2)] 25) = W2 at *
  clear hWn
  replace H1 := SlS.hext H1 hE
  replace H2 := SlS.hext H2 hE
  replace HW := Wd.hext HW hE
  replace HE := Lib.hid (HE.out.tr hE)
  clear hE
  refine (hF).mono ?_
  rintro e W3 ⟨rfl, hE⟩
  replace H1 := SlS.hext H1 hE
  replace H2 := SlS.hext H2 hE
  replace HW := Wd.hext HW hE
  replace HE := Lib.hid (HE.out.tr hE)
  clear hE
  clear hF hfew
  go_wp2_with fail
  refine (awake_v _ HW.out).mono ?_
  rintro e W4 ⟨rfl, hE⟩
  replace H1 := SlS.hext H1 hE
  replace H2 := SlS.hext H2 hE
  replace HW := Wd.hext HW hE
  replace HE := Lib.hid (HE.out.tr hE)
  clear hE
  go_wp2_with fail
  go_ret
  exact ⟨rfl, HE.out⟩
set_option maxHeartbeats 16000000 in
set_option maxRecDepth 400000 in
theorem divs_long2 (v1 v2 : Value) (l m : List ByteArray) (w : World) (hW : Wd w) (h1 : SlS w v1 l) (h2 : SlS w v2 m) (hfew : (decide ((⟨#[]⟩ : ByteArray).size ≤ 20) && (fewB l && fewB m)) = true) (hl : ¬ 6 < l.length) (hm : 6 < m.length) : Calls Tryz.prog 8 #[v1, v2] w fun e w' => e = .returned (.bool true) ∧ Ext w w' := by
  have HW := Lib.hid hW
  have HE := Lib.hid (Ext.rfl' w)
  obtain ⟨A1, c1, rfl⟩ := h1.slc
  obtain ⟨A2, c2, rfl⟩ := h2.slc
  have H1 := Lib.hid h1
  have H2 := Lib.hid h2
  clear hW h1 h2
  generalize hln : l.length = ln at *
  generalize hmn : m.length = mn at *
  have HLN := Lib.hid hln
  have HMN := Lib.hid hmn
  clear hln hmn
  have hl2 : ¬ (6 : Int) < (ln : Int) := by omega
  have hm2 : (6 : Int) < (mn : Int) := by omega
  go_enter Tryz.func8, Tryz.ntmps8
  go_wp2_with fail
  refine (awake_v _ HW.out).mono ?_
  rintro e W1 ⟨rfl, hE⟩
  replace H1 := SlS.hext H1 hE
  replace H2 := SlS.hext H2 hE
  replace HW := Wd.hext HW hE
  replace HE := Lib.hid (HE.out.tr hE)
  clear hE
  go_wp2_with fail
  have hF : Calls Tryz.prog 19 #[.string ⟨#[]⟩, .slice (some ⟨W1.heap.size, 0, none⟩) 2 2] (W1.alloc (.cells #[(.slice A1 ln c1), (.slice A2 mn c2)] 25)) fun e w' => e = .returned (.bool (decide ((⟨#[]⟩ : ByteArray).size ≤ 20) && (fewB l && fewB m))) ∧ Ext (W1.alloc (.cells #[(.slice A1 ln c1), (.slice A2 mn c2)] 25)) w' := few2 ⟨#[]⟩ W1 (.slice A1 ln c1) (.slice A2 mn c2) l m 25 H1.out H2.out
  rw [hfew] at hF
  have hE := (Ext.rfl' W1).al (.cells #[(.slice A1 ln c1), (.slice A2 mn c2)] 25)
  generalize hWn : W1.alloc (.cells #[(.slice A1 ln c1), (.slice A2 mn c2)] 25) = W2 at *
  clear hWn
  replace H1 := SlS.hext H1 hE
  replace H2 := SlS.hext H2 hE
  replace HW := Wd.hext HW hE
  replace HE := Lib.hid (HE.out.tr hE)
  clear hE
  refine (hF).mono ?_
  rintro e W3 ⟨rfl, hE⟩
  replace H1 := SlS.hext H1 hE
  replace H2 := SlS.hext H2 hE
  replace HW := Wd.hext HW hE
  replace HE := Lib.hid (HE.out.tr hE)
  clear hE
  clear hF hfew
  go_wp2_with fail
  refine (awake_v _ HW.out).mono ?_
  rintro e W4 ⟨rfl, hE⟩
  replace H1 := SlS.hext H1 hE
  replace H2 := SlS.hext H2 hE
  replace HW := Wd.hext HW hE
  replace HE := Lib.hid (HE.out.tr hE)
  clear hE
  go_wp2_with fail
  go_ret
  exact ⟨rfl, HE.out⟩
set_option maxHeartbeats 16000000 in
set_option maxRecDepth 400000 in
theorem divs_bad1 (v1 v2 : Value) (l m : List ByteArray) (w : World) (hW : Wd w) (h1 : SlS w v1 l) (h2 : SlS w v2 m) (hfew : (decide ((⟨#[]⟩ : ByteArray).size ≤ 20) && (fewB l && fewB m)) = true) (hl : ¬ 6 < l.length) (hm : ¬ 6 < m.length) (hs1 : SB l) (hb1 : polB l = false) : Calls Tryz.prog 8 #[v1, v2] w fun e w' => e = .returned (.bool true) ∧ Ext w w' := by
  have HW := Lib.hid hW
  have HE := Lib.hid (Ext.rfl' w)
  obtain ⟨A1, c1, rfl⟩ := h1.slc
  obtain ⟨A2, c2, rfl⟩ := h2.slc
  have H1 := Lib.hid h1
  have H2 := Lib.hid h2
  clear hW h1 h2
  generalize hln : l.length = ln at *
  generalize hmn : m.length = mn at *
  have HLN := Lib.hid hln
  have HMN := Lib.hid hmn
  clear hln hmn
  have hl2 : ¬ (6 : Int) < (ln : Int) := by omega
  have hm2 : ¬ (6 : Int) < (mn : Int) := by omega
  go_enter Tryz.func8, Tryz.ntmps8
  go_wp2_with fail
  refine (awake_v _ HW.out).mono ?_
  rintro e W1 ⟨rfl, hE⟩
  replace H1 := SlS.hext H1 hE
  replace H2 := SlS.hext H2 hE
  replace HW := Wd.hext HW hE
  replace HE := Lib.hid (HE.out.tr hE)
  clear hE
  go_wp2_with fail
  have hF : Calls Tryz.prog 19 #[.string ⟨#[]⟩, .slice (some ⟨W1.heap.size, 0, none⟩) 2 2] (W1.alloc (.cells #[(.slice A1 ln c1), (.slice A2 mn c2)] 25)) fun e w' => e = .returned (.bool (decide ((⟨#[]⟩ : ByteArray).size ≤ 20) && (fewB l && fewB m))) ∧ Ext (W1.alloc (.cells #[(.slice A1 ln c1), (.slice A2 mn c2)] 25)) w' := few2 ⟨#[]⟩ W1 (.slice A1 ln c1) (.slice A2 mn c2) l m 25 H1.out H2.out
  rw [hfew] at hF
  have hE := (Ext.rfl' W1).al (.cells #[(.slice A1 ln c1), (.slice A2 mn c2)] 25)
  generalize hWn : W1.alloc (.cells #[(.slice A1 ln c1), (.slice A2 mn c2)] 25) = W2 at *
  clear hWn
  replace H1 := SlS.hext H1 hE
  replace H2 := SlS.hext H2 hE
  replace HW := Wd.hext HW hE
  replace HE := Lib.hid (HE.out.tr hE)
  clear hE
  refine (hF).mono ?_
  rintro e W3 ⟨rfl, hE⟩
  replace H1 := SlS.hext H1 hE
  replace H2 := SlS.hext H2 hE
  replace HW := Wd.hext HW hE
  replace HE := Lib.hid (HE.out.tr hE)
  clear hE
  clear hF hfew
  go_wp2_with fail
  have hv := pValid_any (.slice A1 ln c1) l _ HW.out H1.out hs1
  rw [hb1] at hv
  refine (PDiv_n1 _ (.slice A2 mn c2) _ hv).mono ?_
  rintro e W4 ⟨rfl, hE⟩
  replace H1 := SlS.hext H1 hE
  replace H2 := SlS.hext H2 hE
  replace HW := Wd.hext HW hE
  replace HE := Lib.hid (HE.out.tr hE)
  clear hE
  go_wp2_with fail
  go_ret
  exact ⟨rfl, HE.out⟩
set_option maxHeartbeats 16000000 in
set_option maxRecDepth 400000 in
theorem divs_bad2 (v1 v2 : Value) (l m : List ByteArray) (w : World) (hW : Wd w) (h1 : SlS w v1 l) (h2 : SlS w v2 m) (hfew : (decide ((⟨#[]⟩ : ByteArray).size ≤ 20) && (fewB l && fewB m)) = true) (hl : ¬ 6 < l.length) (hm : ¬ 6 < m.length) (hs1 : SB l) (hb1 : polB l = true) (hs2 : SB m) (hb2 : polB m = false) : Calls Tryz.prog 8 #[v1, v2] w fun e w' => e = .returned (.bool true) ∧ Ext w w' := by
  have HW := Lib.hid hW
  have HE := Lib.hid (Ext.rfl' w)
  obtain ⟨A1, c1, rfl⟩ := h1.slc
  obtain ⟨A2, c2, rfl⟩ := h2.slc
  have H1 := Lib.hid h1
  have H2 := Lib.hid h2
  clear hW h1 h2
  generalize hln : l.length = ln at *
  generalize hmn : m.length = mn at *
  have HLN := Lib.hid hln
  have HMN := Lib.hid hmn
  clear hln hmn
  have hl2 : ¬ (6 : Int) < (ln : Int) := by omega
  have hm2 : ¬ (6 : Int) < (mn : Int) := by omega
  go_enter Tryz.func8, Tryz.ntmps8
  go_wp2_with fail
  refine (awake_v _ HW.out).mono ?_
  rintro e W1 ⟨rfl, hE⟩
  replace H1 := SlS.hext H1 hE
  replace H2 := SlS.hext H2 hE
  replace HW := Wd.hext HW hE
  replace HE := Lib.hid (HE.out.tr hE)
  clear hE
  go_wp2_with fail
  have hF : Calls Tryz.prog 19 #[.string ⟨#[]⟩, .slice (some ⟨W1.heap.size, 0, none⟩) 2 2] (W1.alloc (.cells #[(.slice A1 ln c1), (.slice A2 mn c2)] 25)) fun e w' => e = .returned (.bool (decide ((⟨#[]⟩ : ByteArray).size ≤ 20) && (fewB l && fewB m))) ∧ Ext (W1.alloc (.cells #[(.slice A1 ln c1), (.slice A2 mn c2)] 25)) w' := few2 ⟨#[]⟩ W1 (.slice A1 ln c1) (.slice A2 mn c2) l m 25 H1.out H2.out
  rw [hfew] at hF
  have hE := (Ext.rfl' W1).al (.cells #[(.slice A1 ln c1), (.slice A2 mn c2)] 25)
  generalize hWn : W1.alloc (.cells #[(.slice A1 ln c1), (.slice A2 mn c2)] 25) = W2 at *
  clear hWn
  replace H1 := SlS.hext H1 hE
  replace H2 := SlS.hext H2 hE
  replace HW := Wd.hext HW hE
  replace HE := Lib.hid (HE.out.tr hE)
  clear hE
  refine (hF).mono ?_
  rintro e W3 ⟨rfl, hE⟩
  replace H1 := SlS.hext H1 hE
  replace H2 := SlS.hext H2 hE
  replace HW := Wd.hext HW hE
  replace HE := Lib.hid (HE.out.tr hE)
  clear hE
  clear hF hfew
  go_wp2_with fail
  have hv := pValid_any (.slice A1 ln c1) l _ HW.out H1.out hs1
  rw [hb1] at hv
  have hv2 := pValid_any (.slice A2 mn c2) m _ HW.out H2.out hs2
  rw [hb2] at hv2
  refine (PDiv_n2 _ _ _ hv hv2).mono ?_
  rintro e W4 ⟨rfl, hE⟩
  replace H1 := SlS.hext H1 hE
  replace H2 := SlS.hext H2 hE
  replace HW := Wd.hext HW hE
  replace HE := Lib.hid (HE.out.tr hE)
  clear hE
  go_wp2_with fail
  go_ret
  exact ⟨rfl, HE.out⟩
set_option maxHeartbeats 16000000 in
set_option maxRecDepth 400000 in
theorem divs_zero (v1 v2 : Value) (l m : List ByteArray) (w : World) (hW : Wd w) (h1 : SlS w v1 l) (h2 : SlS w v2 m) (hfew : (decide ((⟨#[]⟩ : ByteArray).size ≤ 20) && (fewB l && fewB m)) = true) (hl : ¬ 6 < l.length) (hm : ¬ 6 < m.length) (p : Pl) (hp : PO w v1 p 48) (hr : PS w v2 []) : Calls Tryz.prog 8 #[v1, v2] w fun e w' => e = .returned (.bool true) ∧ Ext w w' := by
  have HP := Lib.hid hp
  have HR := Lib.hid hr
  clear hp hr
  have HW := Lib.hid hW
  have HE := Lib.hid (Ext.rfl' w)
  obtain ⟨A1, c1, rfl⟩ := h1.slc
  obtain ⟨A2, c2, rfl⟩ := h2.slc
  have H1 := Lib.hid h1
  have H2 := Lib.hid h2
  clear hW h1 h2
  generalize hln : l.length = ln at *
  generalize hmn : m.length = mn at *
  have HLN := Lib.hid hln
  have HMN := Lib.hid hmn
  clear hln hmn
  have hl2 : ¬ (6 : Int) < (ln : Int) := by omega
  have hm2 : ¬ (6 : Int) < (mn : Int) := by omega
  go_enter Tryz.func8, Tryz.ntmps8
  go_wp2_with fail
  refine (awake_v _ HW.out).mono ?_
  rintro e W1 ⟨rfl, hE⟩
  replace HP := PO.hext HP hE
  replace HR := PS.hext HR hE
  replace H1 := SlS.hext H1 hE
  replace H2 := SlS.hext H2 hE
  replace HW := Wd.hext HW hE
  replace HE := Lib.hid (HE.out.tr hE)
  clear hE
  go_wp2_with fail
  have hF : Calls Tryz.prog 19 #[.string ⟨#[]⟩, .slice (some ⟨W1.heap.size, 0, none⟩) 2 2] (W1.alloc (.cells #[(.slice A1 ln c1), (.slice A2 mn c2)] 25)) fun e w' => e = .returned (.bool (decide ((⟨#[]⟩ : ByteArray).size ≤ 20) && (fewB l && fewB m))) ∧ Ext (W1.alloc (.cells #[(.slice A1 ln c1), (.slice A2 mn c2)] 25)) w' := few2 ⟨#[]⟩ W1 (.slice A1 ln c1) (.slice A2 mn c2) l m 25 H1.out H2.out
  rw [hfew] at hF
  have hE := (Ext.rfl' W1).al (.cells #[(.slice A1 ln c1), (.slice A2 mn c2)] 25)
  generalize hWn : W1.alloc (.cells #[(.slice A1 ln c1), (.slice A2 mn c2)] 25) = W2 at *
  clear hWn
  replace HP := PO.hext HP hE
  replace HR := PS.hext HR hE
  replace H1 := SlS.hext H1 hE
  replace H2 := SlS.hext H2 hE
  replace HW := Wd.hext HW hE
  replace HE := Lib.hid (HE.out.tr hE)
  clear hE
  refine (hF).mono ?_
  rintro e W3 ⟨rfl, hE⟩
  replace HP := PO.hext HP hE
  replace HR := PS.hext HR hE
  replace H1 := SlS.hext H1 hE
  replace H2 := SlS.hext H2 hE
  replace HW := Wd.hext HW hE
  replace HE := Lib.hid (HE.out.tr hE)
  clear hE
  clear hF hfew
  go_wp2_with fail
  refine (Div_p0 _ _ p 48 _ HW.out HP.out HR.out (by have := kk32; omega)).mono ?_
  rintro e W4 ⟨rfl, hE⟩
  replace HP := PO.hext HP hE
  replace HR := PS.hext HR hE
  replace H1 := SlS.hext H1 hE
  replace H2 := SlS.hext H2 hE
  replace HW := Wd.hext HW hE
  replace HE := Lib.hid (HE.out.tr hE)
  clear hE
  go_wp2_with fail
  go_ret
  exact ⟨rfl, HE.out⟩
set_option maxHeartbeats 16000000 in
set_option maxRecDepth 400000 in
theorem divs_yes (v1 v2 : Value) (p r : Pl) (w : World) (hW : Wd w) (hfew : (decide ((⟨#[]⟩ : ByteArray).size ≤ 20) && (fewB (p.map rb) && fewB (r.map rb))) = true) (hp : PO w v1 p 48) (hr : PO w v2 r 48) (hl : p.length ≤ 6) (hm : r.length ≤ 6) (hr0 : r ≠ []) : Calls Tryz.prog 8 #[v1, v2] w fun e w' => e = .returned (.bool true) ∧ Ext w w' := by
  have HW := Lib.hid hW
  have HE := Lib.hid (Ext.rfl' w)
  have H1 := Lib.hid hp.1
  have H2 := Lib.hid hr.1
  obtain ⟨-, bp, tp, lp⟩ := hp
  obtain ⟨-, br, tr, lr⟩ := hr
  clear hW
  have kk := kk32
  have BP_ := Lib.hid bp
  have TP_ := Lib.hid tp
  have BR_ := Lib.hid br
  have TR_ := Lib.hid tr
  have KK_ := Lib.hid kk
  have LP_ := Lib.hid lp
  have LR_ := Lib.hid lr
  have HL6 : Hid (p.length ≤ 6) := hl
  have HM6 : Hid (r.length ≤ 6) := hm
  have HR0 : Hid (r ≠ []) := hr0
  have hr1 : 0 < r.length := List.length_pos_iff.2 hr0
  clear bp tp br tr kk lp lr hr0
  obtain ⟨l, hl0⟩ : ∃ l, l = p.map rb := ⟨_, rfl⟩
  obtain ⟨m, hm0⟩ : ∃ m, m = r.map rb := ⟨_, rfl⟩
  rw [← hl0, ← hm0] at hfew
  have G1 : Hid (SlS w v1 l) := by rw [hl0]; exact H1.out
  have G2 : Hid (SlS w v2 m) := by rw [hm0]; exact H2.out
  clear hl0 hm0
  obtain ⟨A1, c1, rfl⟩ := H1.out.sl
  obtain ⟨A2, c2, rfl⟩ := H2.out.sl
  obtain ⟨ln, hpn⟩ : ∃ n, n = p.length := ⟨_, rfl⟩
  obtain ⟨mn, hrn⟩ : ∃ n, n = r.length := ⟨_, rfl⟩
  have HPN := Lib.hid hpn
  have HRN := Lib.hid hrn
  have hl2 : ¬ (6 : Int) < (ln : Int) := by omega
  have hm2 : ¬ (6 : Int) < (mn : Int) := by omega
  have hm1 : 0 < mn := by omega
  rw [← hpn] at H1 G1 ⊢
  rw [← hrn] at H2 G2 ⊢
  clear hpn hrn hl hm hr1
  go_enter Tryz.func8, Tryz.ntmps8
  go_wp2_with fail
  refine (awake_v _ HW.out).mono ?_
  rintro e W1 ⟨rfl, hE⟩
  replace H1 := PS.hext H1 hE
  replace H2 := PS.hext H2 hE
  replace G1 := SlS.hext G1 hE
  replace G2 := SlS.hext G2 hE
  replace HW := Wd.hext HW hE
  replace HE := Lib.hid (HE.out.tr hE)
  clear hE
  go_wp2_with fail
  have F1 := G1
  have F2 := G2
  have hF : Calls Tryz.prog 19 #[.string ⟨#[]⟩, .slice (some ⟨W1.heap.size, 0, none⟩) 2 2] (W1.alloc (.cells #[(.slice A1 ln c1), (.slice A2 mn c2)] 25)) fun e w' => e = .returned (.bool (decide ((⟨#[]⟩ : ByteArray).size ≤ 20) && (fewB l && fewB m))) ∧ Ext (W1.alloc (.cells #[(.slice A1 ln c1), (.slice A2 mn c2)] 25)) w' := few2 ⟨#[]⟩ W1 (.slice A1 ln c1) (.slice A2 mn c2) l m 25 F1.out F2.out
  rw [hfew] at hF
  clear F1 F2
  have hE := (Ext.rfl' W1).al (.cells #[(.slice A1 ln c1), (.slice A2 mn c2)] 25)
  generalize hWn : W1.alloc (.cells #[(.slice A1 ln c1), (.slice A2 mn c2)] 25) = W2 at *
  clear hWn
  replace H1 := PS.hext H1 hE
  replace H2 := PS.hext H2 hE
  replace G1 := SlS.hext G1 hE
  replace G2 := SlS.hext G2 hE
  replace HW := Wd.hext HW hE
  replace HE := Lib.hid (HE.out.tr hE)
  clear hE
  refine (hF).mono ?_
  rintro e W3 ⟨rfl, hE⟩
  replace H1 := PS.hext H1 hE
  replace H2 := PS.hext H2 hE
  replace G1 := SlS.hext G1 hE
  replace G2 := SlS.hext G2 hE
  replace HW := Wd.hext HW hE
  replace HE := Lib.hid (HE.out.tr hE)
  clear hE
  clear hF hfew G1 G2
  go_wp2_with fail
  refine (dv_div _ _ p r _ HW.out (⟨H1.out, BP_.out, TP_.out, LP_.out⟩ : PO _ (.slice A1 ln c1) p 48) (⟨H2.out, BR_.out, TR_.out, LR_.out⟩ : PO _ (.slice A2 mn c2) r 48) HL6.out HM6.out HR0.out).mono ?_
  rintro e W4 ⟨v3, v4, q, t, rfl, hd, hq, ht, hql, hE⟩
  have HD := Lib.hid hd
  have HQ := Lib.hid hq
  have HT := Lib.hid ht
  have HQL := Lib.hid hql
  clear hd hq ht hql
  replace H1 := PS.hext H1 hE
  replace H2 := PS.hext H2 hE
  replace HW := Wd.hext HW hE
  replace HE := Lib.hid (HE.out.tr hE)
  clear hE
  obtain ⟨A4, c4, rfl⟩ := HT.out.1.sl
  obtain ⟨tn, htn⟩ : ∃ n, n = t.length := ⟨_, rfl⟩
  have htl : tn < mn := by have h1 := HD.out.lt; have h2 : mn = r.length := HRN.out; omega
  rw [← htn] at HT ⊢
  clear htn
  have htl2 : ¬ (mn : Int) ≤ (tn : Int) := by omega
  go_wp2_with fail
  refine (Mul_p _ _ q r 2022 48 _ HW.out HQ.out (⟨H2.out, BR_.out, TR_.out, LR_.out⟩ : PO _ (.slice A2 mn c2) r 48) (.inr (.inr (by have h1 : q.length ≤ 6 := HQL.out; have h2 : r.length ≤ 6 := HM6.out; omega))) (by have kk : 4294967296 ≤ KK := KK_.out; omega)).mono ?_
  rintro e W5 ⟨v5, rfl, h5, hE⟩
  have H5 := Lib.hid h5
  clear h5
  replace H1 := PS.hext H1 hE
  replace H2 := PS.hext H2 hE
  replace HQ := PO.hext HQ hE
  replace HT := PO.hext HT hE
  replace HW := Wd.hext HW hE
  replace HE := Lib.hid (HE.out.tr hE)
  clear hE
  go_wp2_with fail
  refine (Add_p _ _ _ t _ 2022 _ HW.out (mul_po HQ.out.2.1 BR_.out HQ.out.2.2.1 TR_.out HQ.out.2.2.2 LR_.out (.inr (.inr (by have h1 : q.length ≤ 6 := HQL.out; have h2 : r.length ≤ 6 := HM6.out; omega))) H5.out) HT.out (by have kk : 4294967296 ≤ KK := KK_.out; omega)).mono ?_
  rintro e W6 ⟨v6, rfl, h6, hE⟩
  have H6 := Lib.hid h6
  clear h6
  replace H1 := PS.hext H1 hE
  replace H2 := PS.hext H2 hE
  replace HQ := PO.hext HQ hE
  replace HT := PO.hext HT hE
  replace H5 := PS.hext H5 hE
  replace HW := Wd.hext HW hE
  replace HE := Lib.hid (HE.out.tr hE)
  clear hE
  replace H6 : Hid (PS W6 v6 p) := by have h := H6.out; rwa [div_back TP_.out HD.out] at h
  go_wp2_with fail
  refine (aw_same _ _ p _ H6.out H1.out).mono ?_
  rintro e W7 ⟨rfl, hE⟩
  replace H1 := PS.hext H1 hE
  replace H2 := PS.hext H2 hE
  replace HQ := PO.hext HQ hE
  replace HT := PO.hext HT hE
  replace H5 := PS.hext H5 hE
  replace H6 := PS.hext H6 hE
  replace HW := Wd.hext HW hE
  replace HE := Lib.hid (HE.out.tr hE)
  clear hE
  go_wp2_with fail
  refine (dv_gcd _ _ p r _ HW.out (⟨H1.out, BP_.out, TP_.out, LP_.out⟩ : PO _ (.slice A1 ln c1) p 48) (⟨H2.out, BR_.out, TR_.out, LR_.out⟩ : PO _ (.slice A2 mn c2) r 48) HL6.out HM6.out HR0.out).mono ?_
  rintro e W8 ⟨v8, d, rfl, hg, h8, hdl, hE⟩
  have HG := Lib.hid hg
  have H8 := Lib.hid h8
  have HDL := Lib.hid hdl
  clear hg h8 hdl
  replace H1 := PS.hext H1 hE
  replace H2 := PS.hext H2 hE
  replace HQ := PO.hext HQ hE
  replace HT := PO.hext HT hE
  replace H5 := PS.hext H5 hE
  replace H6 := PS.hext H6 hE
  replace HW := Wd.hext HW hE
  replace HE := Lib.hid (HE.out.tr hE)
  clear hE
  obtain ⟨A8, c8, rfl⟩ := H8.out.1.sl
  have hc8 := H8.out.1.cell.2.2.2
  have hd1 : 0 < d.length := List.length_pos_iff.2 HDL.out.1
  obtain ⟨b8, o8, rfl, -, hcell⟩ := hc8 (d.length - 1) (by omega)
  have hld : cf d (d.length - 1) = 1 := HDL.out.2.1
  rw [hld, ← rb_v, rb1] at hcell
  clear hc8 hld
  obtain ⟨dn, hdn⟩ : ∃ n, n = d.length := ⟨_, rfl⟩
  rw [← hdn] at H8 hcell hd1 ⊢
  have hdn6 : dn ≤ 6 := by have := HDL.out.2.2; omega
  clear hdn
  have z1 : ((dn : Int) == 0) = false := by rw [beq_eq_false_iff_ne]; omega
  have z2 : IntKind.i64.wrap ((dn : Int) - 1) = (dn : Int) - 1 := by rw [IntKind.wrap_i64]; omega
  have z3 : ((dn : Int) - 1).toNat = dn - 1 := by omega
  have z4 : (0 : Int) ≤ (dn : Int) - 1 := by omega
  have z5 : (dn : Int) - 1 < (dn : Int) := by omega
  have z6 : (dn : Int) - 1 ≤ (dn : Int) := by omega
  have z7 : (1 : Int) ≤ (dn : Int) := by omega
  go_wp2_with fail
  clear hcell z1 z2 z3 z4 z5 z6 z7 hd1 hdn6
  refine (dv_quot _ _ p d _ HW.out (⟨H1.out, BP_.out, TP_.out, LP_.out⟩ : PO _ (.slice A1 ln c1) p 48) H8.out HL6.out HG.out.2 HDL.out.1 HG.out.1.dp).mono ?_
  rintro e W9 ⟨v9, v10, a, rfl, hpe, h9, h10, hal, hE⟩
  have HPE := Lib.hid hpe
  have H9 := Lib.hid h9
  have H10 := Lib.hid h10
  have HAL := Lib.hid hal
  clear hpe h9 h10 hal
  replace H1 := PS.hext H1 hE
  replace H2 := PS.hext H2 hE
  replace HQ := PO.hext HQ hE
  replace HT := PO.hext HT hE
  replace H5 := PS.hext H5 hE
  replace H6 := PS.hext H6 hE
  replace H8 := PO.hext H8 hE
  replace HW := Wd.hext HW hE
  replace HE := Lib.hid (HE.out.tr hE)
  clear hE
  obtain ⟨A10, c10, rfl⟩ := H10.out.sl
  simp only [List.length_nil] at H10 ⊢
  go_wp2_with fail
  refine (dv_quot _ _ r d _ HW.out (⟨H2.out, BR_.out, TR_.out, LR_.out⟩ : PO _ (.slice A2 mn c2) r 48) H8.out HM6.out HG.out.2 HDL.out.1 HG.out.1.dr).mono ?_
  rintro e W10 ⟨v11, v12, b, rfl, hpe, h11, h12, hal, hE⟩
  have HPF := Lib.hid hpe
  have H11 := Lib.hid h11
  have H12 := Lib.hid h12
  have HBL := Lib.hid hal
  clear hpe h11 h12 hal
  replace H1 := PS.hext H1 hE
  replace H2 := PS.hext H2 hE
  replace HQ := PO.hext HQ hE
  replace HT := PO.hext HT hE
  replace H5 := PS.hext H5 hE
  replace H6 := PS.hext H6 hE
  replace H8 := PO.hext H8 hE
  replace H9 := PO.hext H9 hE
  replace H10 := PS.hext H10 hE
  replace HW := Wd.hext HW hE
  replace HE := Lib.hid (HE.out.tr hE)
  clear hE
  obtain ⟨A12, c12, rfl⟩ := H12.out.sl
  simp only [List.length_nil] at H12 ⊢
  go_wp2_with fail
  refine (dv_one _ _ p r d a b _ HW.out H9.out H11.out HAL.out HBL.out HDL.out.1 HG.out.1 HPE.out HPF.out).mono ?_
  rintro e W11 ⟨A13, c13, rfl, hE⟩
  replace H1 := PS.hext H1 hE
  replace H2 := PS.hext H2 hE
  replace HQ := PO.hext HQ hE
  replace HT := PO.hext HT hE
  replace H5 := PS.hext H5 hE
  replace H6 := PS.hext H6 hE
  replace H8 := PO.hext H8 hE
  replace H9 := PO.hext H9 hE
  replace H10 := PS.hext H10 hE
  replace H11 := PO.hext H11 hE
  replace H12 := PS.hext H12 hE
  replace HW := Wd.hext HW hE
  replace HE := Lib.hid (HE.out.tr hE)
  clear hE
  go_wp2_with fail
  go_ret
  exact ⟨rfl, HE.out⟩
theorem divs_v (v1 v2 : Value) (l m : List ByteArray) (w : World) (hW : Wd w) (h1 : SlS w v1 l) (h2 : SlS w v2 m) : Calls Tryz.prog 8 #[v1, v2] w fun e w' => e = .returned (.bool true) ∧ Ext w w' := by
  have hx : decide ((⟨#[]⟩ : ByteArray).size ≤ 20) = true := by decide
  cases hf : (fewB l && fewB m)
  · exact divs_few v1 v2 l m w hW h1 h2 (by rw [hf]; simp)
  · have hf2 := hf
    rw [Bool.and_eq_true] at hf2
    have hk : (decide ((⟨#[]⟩ : ByteArray).size ≤ 20) && (fewB l && fewB m)) = true := by rw [hf, hx]; rfl
    by_cases hl : 6 < l.length
    · exact divs_long1 v1 v2 l m w hW h1 h2 hk hl
    by_cases hm : 6 < m.length
    · exact divs_long2 v1 v2 l m w hW h1 h2 hk hl hm
    cases hb1 : polB l
    · exact divs_bad1 v1 v2 l m w hW h1 h2 hk hl hm (sb_few hf2.1) hb1
    · cases hb2 : polB m
      · exact divs_bad2 v1 v2 l m w hW h1 h2 hk hl hm (sb_few hf2.1) hb1 (sb_few hf2.2) hb2
      · obtain ⟨p, rfl, tp, lp⟩ := (polB_iff l).1 hb1
        obtain ⟨r, rfl, tr, lr⟩ := (polB_iff m).1 hb2
        have hp := po_of h1 tp lp (fewB_txt hf2.1)
        have hr := po_of h2 tr lr (fewB_txt hf2.2)
        by_cases h0 : r = []
        · subst h0
          exact divs_zero v1 v2 _ _ w hW h1 h2 hk hl hm p hp hr.1
        · rw [List.length_map] at hl hm
          exact divs_yes v1 v2 p r w hW hk hp hr (by omega) (by omega) h0
end Go.Proofs.YtbldlibijojbjaaGreatDoor.GB
