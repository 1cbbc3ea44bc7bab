import Derived.Test.YtbldlibijojbjaaGreatDoorCRw
namespace Go.Proofs.YtbldlibijojbjaaGreatDoor.GB
set_option linter.unusedVariables false
set_option linter.unusedSimpArgs false
open Go.RowKit Go.Shelf
attribute [local go_sem ↓] Go.wp_at_zero Go.wp_at_succ
theorem pev_bd {p : Pl} {n m : Nat} {x : Rat} (hp : PB p n) (hx : Bd x m) : Bd (pev p x) (p.length * (m + n + 1)) := by
  induction p with
  | nil => exact Bd.of_int 0 _ (by rw [Int.natAbs_zero]; exact Nat.two_pow_pos _)
  | cons a p ih =>
    have h1 : Bd a n := hp a (by simp)
    have h2 := ih fun q hq => hp q (by simp [hq])
    have e : (a :: p).length * (m + n + 1) = p.length * (m + n + 1) + (m + n + 1) := by rw [List.length_cons, Nat.succ_mul]
    rw [e]
    exact (h1.add (hx.mul h2)).mono (by omega)
theorem pev_neg (p : Pl) (x : Rat) : pev (pneg p) x = - pev p x := by unfold pneg; rw [pev_psc]; grind
theorem po_add {w : World} {v : Value} {p r : Pl} (h : PS w v (ptrim (padd p r))) (hp : PB p 48) (hr : PB r 48) (lp : p.length ≤ 17) (lr : r.length ≤ 17) : PO w v (ptrim (padd p r)) 97 :=
  PO.mk' h (PB.trim fun j => by rw [cf_padd]; exact (hp.cf j).add (hr.cf j)) (by rw [padd_len]; omega)
theorem po_sub {w : World} {v : Value} {p r : Pl} (h : PS w v (ptrim (padd p (pneg r)))) (hp : PB p 48) (hr : PB r 48) (lp : p.length ≤ 17) (lr : r.length ≤ 17) : PO w v (ptrim (padd p (pneg r))) 97 :=
  PO.mk' h (PB.trim fun j => by rw [cf_padd, cf_pneg]; exact (hp.cf j).add (hr.cf j).neg) (by rw [padd_len, show (pneg r).length = r.length by simp [pneg, psc]]; omega)
theorem po_shift {w : World} {v : Value} {p : Pl} {A : Rat} (h : PS w v (pshf A p)) (hp : PB p 48) (hA : Bd A 80) (tp : Tr p) (lp : p.length ≤ 17) : PO w v (pshf A p) (sfB 48 80 17) :=
  ⟨h, (pshf_pb A hp hA).mono (sfB_mono lp), pshf_tr A p, by rw [pshf_len A tp]; exact lp⟩
theorem pev_le {p : Pl} {x : Rat} (hp : PB p 48) (hx : Bd x 80) (lp : p.length ≤ 17) : Bd (pev p x) 2193 := (pev_bd hp hx).mono (by
  have : p.length * (80 + 48 + 1) ≤ 17 * (80 + 48 + 1) := Nat.mul_le_mul_right _ lp
  omega)
/-- A text that is a number. -/
theorem rat_of {s : ByteArray} (h : ratB s.data.toList = true) : ∃ q, Value.string s = rtx q ∧ Bd q (4 * s.size) := by
  obtain ⟨q, hq⟩ := ratB_t h
  refine ⟨q, by rw [list_of hq], ?_⟩
  have := Bd.of_len q
  rw [← hq] at this
  have e : s.data.toList.length = s.size := Array.length_toList
  rwa [e] at this
theorem rva_any (s : ByteArray) (w : World) (hW : Wd w) (hs : s.size ≤ 1000000) (b : Bool) (hb : ratB s.data.toList = b) : RVA (.string s) b w := fun W hE => by
  have h := rValid_any s W (hW.ext hE) hs
  rwa [hb] at h
theorem Eval_no (v : Value) (l : List ByteArray) (x : ByteArray) (w : World) (hW : Wd w) (h : SlS w v l) (hs : SB l) (hx : x.size ≤ 1000000) (hb : (polB l && ratB x.data.toList) = false) :
    Calls Tryz.prog 31 #[v, .string x] w (RetT 1 w) := by
  have h1 := pValid_any v l w hW h hs
  cases hl : polB l
  · rw [hl] at h1; exact eval_n1 v x w h1
  · rw [hl] at h1 hb
    exact eval_n2 v x w h1 (rva_any x w hW hx false (by simpa using hb))
/-- The value of a polynomial of texts, at a text. -/
theorem Eval_yes (v : Value) (p : Pl) (x : ByteArray) (w : World) (hW : Wd w) (h : PO w v p 48) (hx : x.size ≤ 20) (hb : ratB x.data.toList = true) :
    Calls Tryz.prog 31 #[v, .string x] w fun e w' => ∃ s, e = .returned (.tuple #[.string s, .int .i64 0]) ∧ Ext w w' := by
  obtain ⟨q, e, hq⟩ := rat_of hb
  rw [e]
  exact (Eval_p v p 48 w hW h q 80 (hq.mono (by omega)) (by have := kk32; omega)).mono fun e w' h => ⟨_, h.1, h.2⟩
set_option maxHeartbeats 16000000 in
set_option maxRecDepth 400000 in
theorem vals_few (v1 v2 : Value) (x a : ByteArray) (l m : List ByteArray) (w : World) (hW : Wd w) (h1 : SlS w v1 l) (h2 : SlS w v2 m) (hfew : (decide (x.size ≤ 20) && (fewB l && fewB m)) = false) : Calls Tryz.prog 7 #[v1, v2, .string x, .string a] w fun e w' => e = .returned (.bool true) ∧ Ext w w' := by
  obtain ⟨A1, c1, rfl⟩ := h1.slc
  obtain ⟨A2, c2, rfl⟩ := h2.slc
  have HW := Lib.hid hW
  have HE := Lib.hid (Ext.rfl' w)
  have H1 := Lib.hid h1
  have H2 := Lib.hid h2
  clear hW h1 h2
  go_enter Tryz.func7, Tryz.ntmps7
  go_wp2_with fail
  refine (awake_v _ HW.out).mono ?_
  rintro e W1 ⟨rfl, hE⟩
  replace H1 := SlS.hext H1 hE
  replace H2 := SlS.hext H2 hE
  replace HW := Wd.hext HW hE
  replace HE := Lib.hid (HE.out.tr hE)
  clear hE
  go_wp2_with fail
  have hF := few2 x W1 (.slice A1 l.length c1) (.slice A2 m.length c2) l m 25 H1.out H2.out
  rw [hfew] at hF
  have hE := (Ext.rfl' W1).al (.cells #[(.slice A1 l.length c1), (.slice A2 m.length c2)] 25)
  generalize hWn : W1.alloc (.cells #[(.slice A1 l.length c1), (.slice A2 m.length c2)] 25) = W2 at *
  clear hWn
  replace H1 := SlS.hext H1 hE
  replace H2 := SlS.hext H2 hE
  replace HW := Wd.hext HW hE
  replace HE := Lib.hid (HE.out.tr hE)
  clear hE
  refine (hF).mono ?_
  rintro e W3 ⟨rfl, hE⟩
  replace H1 := SlS.hext H1 hE
  replace H2 := SlS.hext H2 hE
  replace HW := Wd.hext HW hE
  replace HE := Lib.hid (HE.out.tr hE)
  clear hE
  clear hF
  go_wp2_with fail
  refine (awake_v _ HW.out).mono ?_
  rintro e W4 ⟨rfl, hE⟩
  replace H1 := SlS.hext H1 hE
  replace H2 := SlS.hext H2 hE
  replace HW := Wd.hext HW hE
  replace HE := Lib.hid (HE.out.tr hE)
  clear hE
  go_wp2_with fail
  go_ret
  exact ⟨rfl, HE.out⟩
set_option maxHeartbeats 16000000 in
set_option maxRecDepth 400000 in
theorem vals_long (v1 v2 : Value) (x a : ByteArray) (l m : List ByteArray) (w : World) (hW : Wd w) (h1 : SlS w v1 l) (h2 : SlS w v2 m) (hfew : (decide (x.size ≤ 20) && (fewB l && fewB m)) = true) (ha : 20 < a.size) : Calls Tryz.prog 7 #[v1, v2, .string x, .string a] w fun e w' => e = .returned (.bool true) ∧ Ext w w' := by
  obtain ⟨A1, c1, rfl⟩ := h1.slc
  obtain ⟨A2, c2, rfl⟩ := h2.slc
  have HW := Lib.hid hW
  have HE := Lib.hid (Ext.rfl' w)
  have H1 := Lib.hid h1
  have H2 := Lib.hid h2
  clear hW h1 h2
  have ha2 : (20 : Int) < (a.size : Int) := by omega
  go_enter Tryz.func7, Tryz.ntmps7
  go_wp2_with fail
  refine (awake_v _ HW.out).mono ?_
  rintro e W1 ⟨rfl, hE⟩
  replace H1 := SlS.hext H1 hE
  replace H2 := SlS.hext H2 hE
  replace HW := Wd.hext HW hE
  replace HE := Lib.hid (HE.out.tr hE)
  clear hE
  go_wp2_with fail
  have hF := few2 x W1 (.slice A1 l.length c1) (.slice A2 m.length c2) l m 25 H1.out H2.out
  rw [hfew] at hF
  have hE := (Ext.rfl' W1).al (.cells #[(.slice A1 l.length c1), (.slice A2 m.length c2)] 25)
  generalize hWn : W1.alloc (.cells #[(.slice A1 l.length c1), (.slice A2 m.length c2)] 25) = W2 at *
  clear hWn
  replace H1 := SlS.hext H1 hE
  replace H2 := SlS.hext H2 hE
  replace HW := Wd.hext HW hE
  replace HE := Lib.hid (HE.out.tr hE)
  clear hE
  refine (hF).mono ?_
  rintro e W3 ⟨rfl, hE⟩
  replace H1 := SlS.hext H1 hE
  replace H2 := SlS.hext H2 hE
  replace HW := Wd.hext HW hE
  replace HE := Lib.hid (HE.out.tr hE)
  clear hE
  clear hF
  go_wp2_with fail
  refine (awake_v _ HW.out).mono ?_
  rintro e W4 ⟨rfl, hE⟩
  replace H1 := SlS.hext H1 hE
  replace H2 := SlS.hext H2 hE
  replace HW := Wd.hext HW hE
  replace HE := Lib.hid (HE.out.tr hE)
  clear hE
  go_wp2_with fail
  go_ret
  exact ⟨rfl, HE.out⟩
set_option maxHeartbeats 16000000 in
set_option maxRecDepth 400000 in
theorem vals_nn (v1 v2 : Value) (x a : ByteArray) (l m : List ByteArray) (w : World) (hW : Wd w) (h1 : SlS w v1 l) (h2 : SlS w v2 m) (hfew : (decide (x.size ≤ 20) && (fewB l && fewB m)) = true) (ha : ¬ 20 < a.size) (hs1 : SB l) (hs2 : SB m) (hx : x.size ≤ 20) (hb1 : (polB l && ratB x.data.toList) = false) (hb2 : (polB m && ratB x.data.toList) = false) : Calls Tryz.prog 7 #[v1, v2, .string x, .string a] w fun e w' => e = .returned (.bool true) ∧ Ext w w' := by
  obtain ⟨A1, c1, rfl⟩ := h1.slc
  obtain ⟨A2, c2, rfl⟩ := h2.slc
  have HW := Lib.hid hW
  have HE := Lib.hid (Ext.rfl' w)
  have H1 := Lib.hid h1
  have H2 := Lib.hid h2
  clear hW h1 h2
  have ha2 : ¬ (20 : Int) < (a.size : Int) := by omega
  go_enter Tryz.func7, Tryz.ntmps7
  go_wp2_with fail
  refine (awake_v _ HW.out).mono ?_
  rintro e W1 ⟨rfl, hE⟩
  replace H1 := SlS.hext H1 hE
  replace H2 := SlS.hext H2 hE
  replace HW := Wd.hext HW hE
  replace HE := Lib.hid (HE.out.tr hE)
  clear hE
  go_wp2_with fail
  have hF := few2 x W1 (.slice A1 l.length c1) (.slice A2 m.length c2) l m 25 H1.out H2.out
  rw [hfew] at hF
  have hE := (Ext.rfl' W1).al (.cells #[(.slice A1 l.length c1), (.slice A2 m.length c2)] 25)
  generalize hWn : W1.alloc (.cells #[(.slice A1 l.length c1), (.slice A2 m.length c2)] 25) = W2 at *
  clear hWn
  replace H1 := SlS.hext H1 hE
  replace H2 := SlS.hext H2 hE
  replace HW := Wd.hext HW hE
  replace HE := Lib.hid (HE.out.tr hE)
  clear hE
  refine (hF).mono ?_
  rintro e W3 ⟨rfl, hE⟩
  replace H1 := SlS.hext H1 hE
  replace H2 := SlS.hext H2 hE
  replace HW := Wd.hext HW hE
  replace HE := Lib.hid (HE.out.tr hE)
  clear hE
  clear hF
  go_wp2_with fail
  refine (Eval_no _ l x _ HW.out H1.out hs1 (by omega) hb1).mono ?_
  rintro e W4 ⟨rfl, hE⟩
  replace H1 := SlS.hext H1 hE
  replace H2 := SlS.hext H2 hE
  replace HW := Wd.hext HW hE
  replace HE := Lib.hid (HE.out.tr hE)
  clear hE
  go_wp2_with fail
  refine (Eval_no _ m x _ HW.out H2.out hs2 (by omega) hb2).mono ?_
  rintro e W5 ⟨rfl, hE⟩
  replace H1 := SlS.hext H1 hE
  replace H2 := SlS.hext H2 hE
  replace HW := Wd.hext HW hE
  replace HE := Lib.hid (HE.out.tr hE)
  clear hE
  go_wp2_with fail
  go_ret
  exact ⟨rfl, HE.out⟩
set_option maxHeartbeats 16000000 in
set_option maxRecDepth 400000 in
theorem vals_ny (v1 v2 : Value) (x a : ByteArray) (l m : List ByteArray) (w : World) (hW : Wd w) (h1 : SlS w v1 l) (h2 : SlS w v2 m) (hfew : (decide (x.size ≤ 20) && (fewB l && fewB m)) = true) (ha : ¬ 20 < a.size) (hs1 : SB l) (hx : x.size ≤ 20) (hb1 : (polB l && ratB x.data.toList) = false) (r : Pl) (hr : ∀ W, Ext w W → PO W v2 r 48) (hbx : ratB x.data.toList = true) : Calls Tryz.prog 7 #[v1, v2, .string x, .string a] w fun e w' => e = .returned (.bool true) ∧ Ext w w' := by
  obtain ⟨A1, c1, rfl⟩ := h1.slc
  obtain ⟨A2, c2, rfl⟩ := h2.slc
  have HW := Lib.hid hW
  have HE := Lib.hid (Ext.rfl' w)
  have H1 := Lib.hid h1
  have H2 := Lib.hid h2
  clear hW h1 h2
  have ha2 : ¬ (20 : Int) < (a.size : Int) := by omega
  have HR := Lib.hid hr
  clear hr
  go_enter Tryz.func7, Tryz.ntmps7
  go_wp2_with fail
  refine (awake_v _ HW.out).mono ?_
  rintro e W1 ⟨rfl, hE⟩
  replace H1 := SlS.hext H1 hE
  replace H2 := SlS.hext H2 hE
  replace HW := Wd.hext HW hE
  replace HE := Lib.hid (HE.out.tr hE)
  clear hE
  go_wp2_with fail
  have hF := few2 x W1 (.slice A1 l.length c1) (.slice A2 m.length c2) l m 25 H1.out H2.out
  rw [hfew] at hF
  have hE := (Ext.rfl' W1).al (.cells #[(.slice A1 l.length c1), (.slice A2 m.length c2)] 25)
  generalize hWn : W1.alloc (.cells #[(.slice A1 l.length c1), (.slice A2 m.length c2)] 25) = W2 at *
  clear hWn
  replace H1 := SlS.hext H1 hE
  replace H2 := SlS.hext H2 hE
  replace HW := Wd.hext HW hE
  replace HE := Lib.hid (HE.out.tr hE)
  clear hE
  refine (hF).mono ?_
  rintro e W3 ⟨rfl, hE⟩
  replace H1 := SlS.hext H1 hE
  replace H2 := SlS.hext H2 hE
  replace HW := Wd.hext HW hE
  replace HE := Lib.hid (HE.out.tr hE)
  clear hE
  clear hF
  go_wp2_with fail
  refine (Eval_no _ l x _ HW.out H1.out hs1 (by omega) hb1).mono ?_
  rintro e W4 ⟨rfl, hE⟩
  replace H1 := SlS.hext H1 hE
  replace H2 := SlS.hext H2 hE
  replace HW := Wd.hext HW hE
  replace HE := Lib.hid (HE.out.tr hE)
  clear hE
  go_wp2_with fail
  refine (Eval_yes _ r x _ HW.out (HR.out _ HE.out) hx hbx).mono ?_
  rintro e W5 ⟨t, rfl, hE⟩
  replace H1 := SlS.hext H1 hE
  replace H2 := SlS.hext H2 hE
  replace HW := Wd.hext HW hE
  replace HE := Lib.hid (HE.out.tr hE)
  clear hE
  go_wp2_with fail
  go_ret
  exact ⟨rfl, HE.out⟩
set_option maxHeartbeats 16000000 in
set_option maxRecDepth 400000 in
theorem vals_yn (v1 v2 : Value) (x a : ByteArray) (l m : List ByteArray) (w : World) (hW : Wd w) (h1 : SlS w v1 l) (h2 : SlS w v2 m) (hfew : (decide (x.size ≤ 20) && (fewB l && fewB m)) = true) (ha : ¬ 20 < a.size) (hs2 : SB m) (hx : x.size ≤ 20) (hb2 : (polB m && ratB x.data.toList) = false) (p : Pl) (hp : ∀ W, Ext w W → PO W v1 p 48) (hbx : ratB x.data.toList = true) : Calls Tryz.prog 7 #[v1, v2, .string x, .string a] w fun e w' => e = .returned (.bool true) ∧ Ext w w' := by
  obtain ⟨A1, c1, rfl⟩ := h1.slc
  obtain ⟨A2, c2, rfl⟩ := h2.slc
  have HW := Lib.hid hW
  have HE := Lib.hid (Ext.rfl' w)
  have H1 := Lib.hid h1
  have H2 := Lib.hid h2
  clear hW h1 h2
  have ha2 : ¬ (20 : Int) < (a.size : Int) := by omega
  have HP := Lib.hid hp
  clear hp
  go_enter Tryz.func7, Tryz.ntmps7
  go_wp2_with fail
  refine (awake_v _ HW.out).mono ?_
  rintro e W1 ⟨rfl, hE⟩
  replace H1 := SlS.hext H1 hE
  replace H2 := SlS.hext H2 hE
  replace HW := Wd.hext HW hE
  replace HE := Lib.hid (HE.out.tr hE)
  clear hE
  go_wp2_with fail
  have hF := few2 x W1 (.slice A1 l.length c1) (.slice A2 m.length c2) l m 25 H1.out H2.out
  rw [hfew] at hF
  have hE := (Ext.rfl' W1).al (.cells #[(.slice A1 l.length c1), (.slice A2 m.length c2)] 25)
  generalize hWn : W1.alloc (.cells #[(.slice A1 l.length c1), (.slice A2 m.length c2)] 25) = W2 at *
  clear hWn
  replace H1 := SlS.hext H1 hE
  replace H2 := SlS.hext H2 hE
  replace HW := Wd.hext HW hE
  replace HE := Lib.hid (HE.out.tr hE)
  clear hE
  refine (hF).mono ?_
  rintro e W3 ⟨rfl, hE⟩
  replace H1 := SlS.hext H1 hE
  replace H2 := SlS.hext H2 hE
  replace HW := Wd.hext HW hE
  replace HE := Lib.hid (HE.out.tr hE)
  clear hE
  clear hF
  go_wp2_with fail
  refine (Eval_yes _ p x _ HW.out (HP.out _ HE.out) hx hbx).mono ?_
  rintro e W4 ⟨u, rfl, hE⟩
  replace H1 := SlS.hext H1 hE
  replace H2 := SlS.hext H2 hE
  replace HW := Wd.hext HW hE
  replace HE := Lib.hid (HE.out.tr hE)
  clear hE
  go_wp2_with fail
  refine (Eval_no _ m x _ HW.out H2.out hs2 (by omega) hb2).mono ?_
  rintro e W5 ⟨rfl, hE⟩
  replace H1 := SlS.hext H1 hE
  replace H2 := SlS.hext H2 hE
  replace HW := Wd.hext HW hE
  replace HE := Lib.hid (HE.out.tr hE)
  clear hE
  go_wp2_with fail
  go_ret
  exact ⟨rfl, HE.out⟩
set_option maxHeartbeats 16000000 in
set_option maxRecDepth 400000 in
theorem vals_yyn (v1 v2 : Value) (x a : ByteArray) (l m : List ByteArray) (w : World) (hW : Wd w) (h1 : SlS w v1 l) (h2 : SlS w v2 m) (hfew : (decide (x.size ≤ 20) && (fewB l && fewB m)) = true) (ha : ¬ 20 < a.size) (hx : x.size ≤ 20) (p : Pl) (hp : ∀ W, Ext w W → PO W v1 p 48) (r : Pl) (hr : ∀ W, Ext w W → PO W v2 r 48) (hbx : ratB x.data.toList = true) (hba : ratB a.data.toList = false) : Calls Tryz.prog 7 #[v1, v2, .string x, .string a] w fun e w' => e = .returned (.bool true) ∧ Ext w w' := by
  obtain ⟨A1, c1, rfl⟩ := h1.slc
  obtain ⟨A2, c2, rfl⟩ := h2.slc
  have HW := Lib.hid hW
  have HE := Lib.hid (Ext.rfl' w)
  have H1 := Lib.hid h1
  have H2 := Lib.hid h2
  clear hW h1 h2
  have ha2 : ¬ (20 : Int) < (a.size : Int) := by omega
  have HR := Lib.hid hr
  clear hr
  have HP := Lib.hid hp
  clear hp
  go_enter Tryz.func7, Tryz.ntmps7
  go_wp2_with fail
  refine (awake_v _ HW.out).mono ?_
  rintro e W1 ⟨rfl, hE⟩
  replace H1 := SlS.hext H1 hE
  replace H2 := SlS.hext H2 hE
  replace HW := Wd.hext HW hE
  replace HE := Lib.hid (HE.out.tr hE)
  clear hE
  go_wp2_with fail
  have hF := few2 x W1 (.slice A1 l.length c1) (.slice A2 m.length c2) l m 25 H1.out H2.out
  rw [hfew] at hF
  have hE := (Ext.rfl' W1).al (.cells #[(.slice A1 l.length c1), (.slice A2 m.length c2)] 25)
  generalize hWn : W1.alloc (.cells #[(.slice A1 l.length c1), (.slice A2 m.length c2)] 25) = W2 at *
  clear hWn
  replace H1 := SlS.hext H1 hE
  replace H2 := SlS.hext H2 hE
  replace HW := Wd.hext HW hE
  replace HE := Lib.hid (HE.out.tr hE)
  clear hE
  refine (hF).mono ?_
  rintro e W3 ⟨rfl, hE⟩
  replace H1 := SlS.hext H1 hE
  replace H2 := SlS.hext H2 hE
  replace HW := Wd.hext HW hE
  replace HE := Lib.hid (HE.out.tr hE)
  clear hE
  clear hF
  go_wp2_with fail
  refine (Eval_yes _ p x _ HW.out (HP.out _ HE.out) hx hbx).mono ?_
  rintro e W4 ⟨u, rfl, hE⟩
  replace H1 := SlS.hext H1 hE
  replace H2 := SlS.hext H2 hE
  replace HW := Wd.hext HW hE
  replace HE := Lib.hid (HE.out.tr hE)
  clear hE
  go_wp2_with fail
  refine (Eval_yes _ r x _ HW.out (HR.out _ HE.out) hx hbx).mono ?_
  rintro e W5 ⟨t, rfl, hE⟩
  replace H1 := SlS.hext H1 hE
  replace H2 := SlS.hext H2 hE
  replace HW := Wd.hext HW hE
  replace HE := Lib.hid (HE.out.tr hE)
  clear hE
  go_wp2_with fail
  refine (rva_any a _ HW.out (by omega) false hba _ (Ext.rfl' _)).mono ?_
  rintro e W6 ⟨rfl, hE⟩
  replace H1 := SlS.hext H1 hE
  replace H2 := SlS.hext H2 hE
  replace HW := Wd.hext HW hE
  replace HE := Lib.hid (HE.out.tr hE)
  clear hE
  go_wp2_with fail
  go_ret
  exact ⟨rfl, HE.out⟩
set_option maxHeartbeats 16000000 in
set_option maxRecDepth 400000 in
theorem vals_yes0 (v1 v2 : Value) (x a : ByteArray) (p r : Pl) (X A : Rat) (w : World) (hW : Wd w) (hX : rtx X = .string x) (hA : rtx A = .string a) (bx : Bd X 80) (ba : Bd A 80) (ha : a.size ≤ 20) (hfew : (decide (x.size ≤ 20) && (fewB (p.map rb) && fewB (r.map rb))) = true) (hp : PO w v1 p 48) (hr : PO w v2 r 48) (hmul : p = [] ∨ r = [] ∨ p.length + r.length ≤ 18) : Calls Tryz.prog 7 #[v1, v2, .string x, .string a] w fun e w' => e = .returned (.bool true) ∧ Ext w w' := by
  have HW := Lib.hid hW
  have HE := Lib.hid (Ext.rfl' w)
  have H1 := Lib.hid hp.1
  have H2 := Lib.hid hr.1
  obtain ⟨-, bp, tp, lp⟩ := hp
  obtain ⟨-, br, tr, lr⟩ := hr
  clear hW
  have kk := kk32
  have BP_ := Lib.hid bp
  have TP_ := Lib.hid tp
  have BR_ := Lib.hid br
  have TR_ := Lib.hid tr
  have KK_ := Lib.hid kk
  have BX_ := Lib.hid bx
  have BA_ := Lib.hid ba
  clear bp tp br tr kk bx ba
  have hsf : sfB 48 80 17 = 17039230 := by decide +kernel
  have SF_ := Lib.hid hsf
  clear hsf
  obtain ⟨l, hl0⟩ : ∃ l, l = p.map rb := ⟨_, rfl⟩
  obtain ⟨m, hm0⟩ : ∃ m, m = r.map rb := ⟨_, rfl⟩
  rw [← hl0, ← hm0] at hfew
  have G1 : Hid (SlS w v1 l) := by rw [hl0]; exact H1.out
  have G2 : Hid (SlS w v2 m) := by rw [hm0]; exact H2.out
  clear hl0 hm0
  have LP_ := Lib.hid lp
  have LR_ := Lib.hid lr
  obtain ⟨A1, c1, rfl⟩ := H1.out.sl
  obtain ⟨A2, c2, rfl⟩ := H2.out.sl
  obtain ⟨pn, hpn⟩ : ∃ n, n = p.length := ⟨_, rfl⟩
  obtain ⟨rn, hrn⟩ : ∃ n, n = r.length := ⟨_, rfl⟩
  have HPN := Lib.hid hpn
  have HRN := Lib.hid hrn
  have hpl : pn ≤ 17 := by omega
  have hrl : rn ≤ 17 := by omega
  have HM : Hid (p = [] ∨ r = [] ∨ p.length + r.length ≤ 18) := hmul
  clear hmul lp lr
  rw [← hpn] at H1 G1 ⊢
  rw [← hrn] at H2 G2 ⊢
  clear hpn hrn
  obtain ⟨sU, hsU⟩ : ∃ s, rtx (pev p X) = .string s := ⟨_, rfl⟩
  have EsU := Lib.hid hsU
  clear hsU
  obtain ⟨sV, hsV⟩ : ∃ s, rtx (pev r X) = .string s := ⟨_, rfl⟩
  have EsV := Lib.hid hsV
  clear hsV
  obtain ⟨sS, hsS⟩ : ∃ s, rtx (pev p X + pev r X) = .string s := ⟨_, rfl⟩
  have EsS := Lib.hid hsS
  clear hsS
  obtain ⟨sD, hsD⟩ : ∃ s, rtx (pev p X - pev r X) = .string s := ⟨_, rfl⟩
  have EsD := Lib.hid hsD
  clear hsD
  obtain ⟨sM, hsM⟩ : ∃ s, rtx (pev p (X + A)) = .string s := ⟨_, rfl⟩
  have EsM := Lib.hid hsM
  clear hsM
  obtain ⟨sY, hsY⟩ : ∃ s, rtx (X + A) = .string s := ⟨_, rfl⟩
  have EsY := Lib.hid hsY
  clear hsY
  obtain ⟨sT, hsT⟩ : ∃ s, rtx (pev p X * pev r X) = .string s := ⟨_, rfl⟩
  have EsT := Lib.hid hsT
  clear hsT
  have EX := Lib.hid hX
  have EA := Lib.hid hA
  clear hX hA
  have ha2 : ¬ (20 : Int) < (a.size : Int) := by omega
  go_enter Tryz.func7, Tryz.ntmps7
  go_wp2_with fail
  refine (awake_v _ HW.out).mono ?_
  rintro e W1 ⟨rfl, hE⟩
  replace H1 := PS.hext H1 hE
  replace H2 := PS.hext H2 hE
  replace G1 := SlS.hext G1 hE
  replace G2 := SlS.hext G2 hE
  replace HW := Wd.hext HW hE
  replace HE := Lib.hid (HE.out.tr hE)
  clear hE
  go_wp2_with fail
  have hF := few2 x W1 (.slice A1 pn c1) (.slice A2 rn c2) l m 25 G1.out G2.out
  rw [hfew] at hF
  have hE := (Ext.rfl' W1).al (.cells #[(.slice A1 pn c1), (.slice A2 rn c2)] 25)
  generalize hWn : W1.alloc (.cells #[(.slice A1 pn c1), (.slice A2 rn c2)] 25) = W2 at *
  clear hWn
  replace H1 := PS.hext H1 hE
  replace H2 := PS.hext H2 hE
  replace G1 := SlS.hext G1 hE
  replace G2 := SlS.hext G2 hE
  replace HW := Wd.hext HW hE
  replace HE := Lib.hid (HE.out.tr hE)
  clear hE
  refine (hF).mono ?_
  rintro e W3 ⟨rfl, hE⟩
  replace H1 := PS.hext H1 hE
  replace H2 := PS.hext H2 hE
  replace G1 := SlS.hext G1 hE
  replace G2 := SlS.hext G2 hE
  replace HW := Wd.hext HW hE
  replace HE := Lib.hid (HE.out.tr hE)
  clear hE
  clear hF
  clear G1 G2 hfew
  go_wp2_with fail
  have hV : Calls Tryz.prog 31 #[(.slice A1 pn c1), .string x] W3 fun e w' => e = .returned (.tuple #[.string sU, .int .i64 0]) ∧ Ext W3 w' := by
    have h := Eval_p _ p 48 _ HW.out (⟨H1.out, BP_.out, TP_.out, LP_.out⟩ : PO _ _ p 48) X 80 BX_.out (by have kk : 4294967296 ≤ KK := KK_.out; have sf : sfB 48 80 17 = 17039230 := SF_.out; omega)
    unfold RetR at h
    rw [show rtx X = .string x from EX.out] at h
    rw [show rtx _ = .string sU from EsU.out] at h
    exact h
  refine (hV).mono ?_
  rintro e W4 ⟨rfl, hE⟩
  replace H1 := PS.hext H1 hE
  replace H2 := PS.hext H2 hE
  replace HW := Wd.hext HW hE
  replace HE := Lib.hid (HE.out.tr hE)
  clear hE
  clear hV
  go_wp2_with fail
  have hV : Calls Tryz.prog 31 #[(.slice A2 rn c2), .string x] W4 fun e w' => e = .returned (.tuple #[.string sV, .int .i64 0]) ∧ Ext W4 w' := by
    have h := Eval_p _ r 48 _ HW.out (⟨H2.out, BR_.out, TR_.out, LR_.out⟩ : PO _ _ r 48) X 80 BX_.out (by have kk : 4294967296 ≤ KK := KK_.out; have sf : sfB 48 80 17 = 17039230 := SF_.out; omega)
    unfold RetR at h
    rw [show rtx X = .string x from EX.out] at h
    rw [show rtx _ = .string sV from EsV.out] at h
    exact h
  refine (hV).mono ?_
  rintro e W5 ⟨rfl, hE⟩
  replace H1 := PS.hext H1 hE
  replace H2 := PS.hext H2 hE
  replace HW := Wd.hext HW hE
  replace HE := Lib.hid (HE.out.tr hE)
  clear hE
  clear hV
  go_wp2_with fail
  have hV : Calls Tryz.prog 41 #[.string a] W5 fun e w' => e = .returned (.bool true) ∧ Ext W5 w' := by
    have h := rValid_q A 80 _ HW.out BA_.out (by have kk : 4294967296 ≤ KK := KK_.out; have sf : sfB 48 80 17 = 17039230 := SF_.out; omega)
    rw [show rtx A = .string a from EA.out] at h
    exact h
  refine (hV).mono ?_
  rintro e W6 ⟨rfl, hE⟩
  replace H1 := PS.hext H1 hE
  replace H2 := PS.hext H2 hE
  replace HW := Wd.hext HW hE
  replace HE := Lib.hid (HE.out.tr hE)
  clear hE
  clear hV
  go_wp2_with fail
  refine (Add_p _ _ p r 48 48 _ HW.out (⟨H1.out, BP_.out, TP_.out, LP_.out⟩ : PO _ _ p 48) (⟨H2.out, BR_.out, TR_.out, LR_.out⟩ : PO _ _ r 48) (by have kk : 4294967296 ≤ KK := KK_.out; have sf : sfB 48 80 17 = 17039230 := SF_.out; omega)).mono ?_
  rintro e W7 ⟨v13, rfl, h13, hE⟩
  have H13 := Lib.hid h13
  clear h13
  replace H1 := PS.hext H1 hE
  replace H2 := PS.hext H2 hE
  replace HW := Wd.hext HW hE
  replace HE := Lib.hid (HE.out.tr hE)
  clear hE
  go_wp2_with fail
  refine (Sub_p _ _ p r 48 48 _ HW.out (⟨H1.out, BP_.out, TP_.out, LP_.out⟩ : PO _ _ p 48) (⟨H2.out, BR_.out, TR_.out, LR_.out⟩ : PO _ _ r 48) (by have kk : 4294967296 ≤ KK := KK_.out; have sf : sfB 48 80 17 = 17039230 := SF_.out; omega)).mono ?_
  rintro e W8 ⟨v15, rfl, h15, hE⟩
  have H15 := Lib.hid h15
  clear h15
  replace H1 := PS.hext H1 hE
  replace H2 := PS.hext H2 hE
  replace H13 := PS.hext H13 hE
  replace HW := Wd.hext HW hE
  replace HE := Lib.hid (HE.out.tr hE)
  clear hE
  go_wp2_with fail
  have hV : Calls Tryz.prog 37 #[(.slice A1 pn c1), .string a] W8 (RP0 (pshf A p) W8) := by
    have h := Shift_p _ p 48 _ HW.out (⟨H1.out, BP_.out, TP_.out, LP_.out⟩ : PO _ _ p 48) A 80 BA_.out (by decide) (by have kk : 4294967296 ≤ KK := KK_.out; have sf : sfB 48 80 17 = 17039230 := SF_.out; omega)
    rw [show rtx A = .string a from EA.out] at h
    exact h
  refine (hV).mono ?_
  rintro e W9 ⟨v17, rfl, h17, hE⟩
  have H17 := Lib.hid h17
  clear h17
  replace H1 := PS.hext H1 hE
  replace H2 := PS.hext H2 hE
  replace H13 := PS.hext H13 hE
  replace H15 := PS.hext H15 hE
  replace HW := Wd.hext HW hE
  replace HE := Lib.hid (HE.out.tr hE)
  clear hE
  clear hV
  obtain ⟨A7, c7, rfl⟩ := H17.out.sl
  have hl17 : (pshf A p).length = pn := by rw [pshf_len A TP_.out]; exact (show pn = p.length from HPN.out).symm
  rw [hl17] at H17 ⊢
  clear hl17
  go_wp2_with fail
  have hV : Calls Tryz.prog 42 #[.string x, .string a] W9 fun e w' => e = .returned (.tuple #[.string sY, .int .i64 0]) ∧ Ext W9 w' := by
    have h := rAdd_q X A 80 80 _ HW.out BX_.out BA_.out (by have kk : 4294967296 ≤ KK := KK_.out; have sf : sfB 48 80 17 = 17039230 := SF_.out; omega)
    unfold RetR at h
    rw [show rtx X = .string x from EX.out] at h
    rw [show rtx A = .string a from EA.out] at h
    rw [show rtx _ = .string sY from EsY.out] at h
    exact h
  refine (hV).mono ?_
  rintro e W10 ⟨rfl, hE⟩
  replace H1 := PS.hext H1 hE
  replace H2 := PS.hext H2 hE
  replace H13 := PS.hext H13 hE
  replace H15 := PS.hext H15 hE
  replace H17 := PS.hext H17 hE
  replace HW := Wd.hext HW hE
  replace HE := Lib.hid (HE.out.tr hE)
  clear hE
  clear hV
  go_wp2_with fail
  have hV : Calls Tryz.prog 31 #[v13, .string x] W10 fun e w' => e = .returned (.tuple #[.string sS, .int .i64 0]) ∧ Ext W10 w' := by
    have h := Eval_p _ _ 97 _ HW.out (po_add H13.out BP_.out BR_.out LP_.out LR_.out) X 80 BX_.out (by have kk : 4294967296 ≤ KK := KK_.out; have sf : sfB 48 80 17 = 17039230 := SF_.out; omega)
    unfold RetR at h
    rw [pev_trim, pev_padd] at h
    rw [show rtx X = .string x from EX.out] at h
    rw [show rtx _ = .string sS from EsS.out] at h
    exact h
  refine (hV).mono ?_
  rintro e W11 ⟨rfl, hE⟩
  replace H1 := PS.hext H1 hE
  replace H2 := PS.hext H2 hE
  replace H13 := PS.hext H13 hE
  replace H15 := PS.hext H15 hE
  replace H17 := PS.hext H17 hE
  replace HW := Wd.hext HW hE
  replace HE := Lib.hid (HE.out.tr hE)
  clear hE
  clear hV
  go_wp2_with fail
  have hV : Calls Tryz.prog 31 #[v15, .string x] W11 fun e w' => e = .returned (.tuple #[.string sD, .int .i64 0]) ∧ Ext W11 w' := by
    have h := Eval_p _ _ 97 _ HW.out (po_sub H15.out BP_.out BR_.out LP_.out LR_.out) X 80 BX_.out (by have kk : 4294967296 ≤ KK := KK_.out; have sf : sfB 48 80 17 = 17039230 := SF_.out; omega)
    unfold RetR at h
    rw [pev_trim, pev_padd, pev_neg, ← Rat.sub_eq_add_neg] at h
    rw [show rtx X = .string x from EX.out] at h
    rw [show rtx _ = .string sD from EsD.out] at h
    exact h
  refine (hV).mono ?_
  rintro e W12 ⟨rfl, hE⟩
  replace H1 := PS.hext H1 hE
  replace H2 := PS.hext H2 hE
  replace H13 := PS.hext H13 hE
  replace H15 := PS.hext H15 hE
  replace H17 := PS.hext H17 hE
  replace HW := Wd.hext HW hE
  replace HE := Lib.hid (HE.out.tr hE)
  clear hE
  clear hV
  go_wp2_with fail
  have hV : Calls Tryz.prog 31 #[.slice A7 pn c7, .string x] W12 fun e w' => e = .returned (.tuple #[.string sM, .int .i64 0]) ∧ Ext W12 w' := by
    have h := Eval_p _ _ (sfB 48 80 17) _ HW.out (po_shift H17.out BP_.out BA_.out TP_.out LP_.out) X 80 BX_.out (by have kk : 4294967296 ≤ KK := KK_.out; have sf : sfB 48 80 17 = 17039230 := SF_.out; omega)
    unfold RetR at h
    rw [pev_pshf] at h
    rw [show rtx X = .string x from EX.out] at h
    rw [show rtx _ = .string sM from EsM.out] at h
    exact h
  refine (hV).mono ?_
  rintro e W13 ⟨rfl, hE⟩
  replace H1 := PS.hext H1 hE
  replace H2 := PS.hext H2 hE
  replace H13 := PS.hext H13 hE
  replace H15 := PS.hext H15 hE
  replace H17 := PS.hext H17 hE
  replace HW := Wd.hext HW hE
  replace HE := Lib.hid (HE.out.tr hE)
  clear hE
  clear hV
  go_wp2_with fail
  have hV : Calls Tryz.prog 31 #[(.slice A1 pn c1), .string sY] W13 fun e w' => e = .returned (.tuple #[.string sM, .int .i64 0]) ∧ Ext W13 w' := by
    have h := Eval_p _ p 48 _ HW.out (⟨H1.out, BP_.out, TP_.out, LP_.out⟩ : PO _ _ p 48) (X + A) 161 (BX_.out.add BA_.out) (by have kk : 4294967296 ≤ KK := KK_.out; have sf : sfB 48 80 17 = 17039230 := SF_.out; omega)
    unfold RetR at h
    rw [show rtx (X + A) = .string sY from EsY.out] at h
    rw [show rtx _ = .string sM from EsM.out] at h
    exact h
  refine (hV).mono ?_
  rintro e W14 ⟨rfl, hE⟩
  replace H1 := PS.hext H1 hE
  replace H2 := PS.hext H2 hE
  replace H13 := PS.hext H13 hE
  replace H15 := PS.hext H15 hE
  replace H17 := PS.hext H17 hE
  replace HW := Wd.hext HW hE
  replace HE := Lib.hid (HE.out.tr hE)
  clear hE
  clear hV
  go_wp2_with fail
  have hV : Calls Tryz.prog 42 #[.string sU, .string sV] W14 fun e w' => e = .returned (.tuple #[.string sS, .int .i64 0]) ∧ Ext W14 w' := by
    have h := rAdd_q (pev p X) (pev r X) 2193 2193 _ HW.out (pev_le BP_.out BX_.out LP_.out) (pev_le BR_.out BX_.out LR_.out) (by have kk : 4294967296 ≤ KK := KK_.out; have sf : sfB 48 80 17 = 17039230 := SF_.out; omega)
    unfold RetR at h
    rw [show rtx (pev p X) = .string sU from EsU.out, show rtx (pev r X) = .string sV from EsV.out] at h
    rw [show rtx _ = .string sS from EsS.out] at h
    exact h
  refine (hV).mono ?_
  rintro e W15 ⟨rfl, hE⟩
  replace H1 := PS.hext H1 hE
  replace H2 := PS.hext H2 hE
  replace H13 := PS.hext H13 hE
  replace H15 := PS.hext H15 hE
  replace H17 := PS.hext H17 hE
  replace HW := Wd.hext HW hE
  replace HE := Lib.hid (HE.out.tr hE)
  clear hE
  clear hV
  go_wp2_with fail
  have hV : Calls Tryz.prog 43 #[.string sU, .string sV] W15 fun e w' => e = .returned (.tuple #[.string sD, .int .i64 0]) ∧ Ext W15 w' := by
    have h := rSub_q (pev p X) (pev r X) 2193 2193 _ HW.out (pev_le BP_.out BX_.out LP_.out) (pev_le BR_.out BX_.out LR_.out) (by have kk : 4294967296 ≤ KK := KK_.out; have sf : sfB 48 80 17 = 17039230 := SF_.out; omega)
    unfold RetR at h
    rw [show rtx (pev p X) = .string sU from EsU.out, show rtx (pev r X) = .string sV from EsV.out] at h
    rw [show rtx _ = .string sD from EsD.out] at h
    exact h
  refine (hV).mono ?_
  rintro e W16 ⟨rfl, hE⟩
  replace H1 := PS.hext H1 hE
  replace H2 := PS.hext H2 hE
  replace H13 := PS.hext H13 hE
  replace H15 := PS.hext H15 hE
  replace H17 := PS.hext H17 hE
  replace HW := Wd.hext HW hE
  replace HE := Lib.hid (HE.out.tr hE)
  clear hE
  clear hV
  go_wp2_with fail
  refine (Mul_p _ _ p r 48 48 _ HW.out (⟨H1.out, BP_.out, TP_.out, LP_.out⟩ : PO _ _ p 48) (⟨H2.out, BR_.out, TR_.out, LR_.out⟩ : PO _ _ r 48) HM.out (by have kk : 4294967296 ≤ KK := KK_.out; have sf : sfB 48 80 17 = 17039230 := SF_.out; omega)).mono ?_
  rintro e W17 ⟨v33, rfl, h33, hE⟩
  have H33 := Lib.hid h33
  clear h33
  replace H1 := PS.hext H1 hE
  replace H2 := PS.hext H2 hE
  replace H13 := PS.hext H13 hE
  replace H15 := PS.hext H15 hE
  replace H17 := PS.hext H17 hE
  replace HW := Wd.hext HW hE
  replace HE := Lib.hid (HE.out.tr hE)
  clear hE
  go_wp2_with fail
  have hV : Calls Tryz.prog 31 #[v33, .string x] W17 fun e w' => e = .returned (.tuple #[.string sT, .int .i64 0]) ∧ Ext W17 w' := by
    have h := Eval_p _ _ _ _ HW.out (mul_po BP_.out BR_.out TP_.out TR_.out LP_.out LR_.out HM.out H33.out) X 80 BX_.out (by have kk : 4294967296 ≤ KK := KK_.out; have sf : sfB 48 80 17 = 17039230 := SF_.out; omega)
    unfold RetR at h
    rw [pev_trim, pev_pmul] at h
    rw [show rtx X = .string x from EX.out] at h
    rw [show rtx _ = .string sT from EsT.out] at h
    exact h
  refine (hV).mono ?_
  rintro e W18 ⟨rfl, hE⟩
  replace H1 := PS.hext H1 hE
  replace H2 := PS.hext H2 hE
  replace H13 := PS.hext H13 hE
  replace H15 := PS.hext H15 hE
  replace H17 := PS.hext H17 hE
  replace H33 := PS.hext H33 hE
  replace HW := Wd.hext HW hE
  replace HE := Lib.hid (HE.out.tr hE)
  clear hE
  clear hV
  go_wp2_with fail
  have hV : Calls Tryz.prog 44 #[.string sU, .string sV] W18 fun e w' => e = .returned (.tuple #[.string sT, .int .i64 0]) ∧ Ext W18 w' := by
    have h := rMul_q (pev p X) (pev r X) 2193 2193 _ HW.out (pev_le BP_.out BX_.out LP_.out) (pev_le BR_.out BX_.out LR_.out) (by have kk : 4294967296 ≤ KK := KK_.out; have sf : sfB 48 80 17 = 17039230 := SF_.out; omega)
    unfold RetR at h
    rw [show rtx (pev p X) = .string sU from EsU.out, show rtx (pev r X) = .string sV from EsV.out] at h
    rw [show rtx _ = .string sT from EsT.out] at h
    exact h
  refine (hV).mono ?_
  rintro e W19 ⟨rfl, hE⟩
  replace H1 := PS.hext H1 hE
  replace H2 := PS.hext H2 hE
  replace H13 := PS.hext H13 hE
  replace H15 := PS.hext H15 hE
  replace H17 := PS.hext H17 hE
  replace H33 := PS.hext H33 hE
  replace HW := Wd.hext HW hE
  replace HE := Lib.hid (HE.out.tr hE)
  clear hE
  clear hV
  go_wp2_with fail
  go_ret
  exact ⟨rfl, HE.out⟩
set_option maxHeartbeats 16000000 in
set_option maxRecDepth 400000 in
theorem vals_yes1 (v1 v2 : Value) (x a : ByteArray) (p r : Pl) (X A : Rat) (w : World) (hW : Wd w) (hX : rtx X = .string x) (hA : rtx A = .string a) (bx : Bd X 80) (ba : Bd A 80) (ha : a.size ≤ 20) (hfew : (decide (x.size ≤ 20) && (fewB (p.map rb) && fewB (r.map rb))) = true) (hp : PO w v1 p 48) (hr : PO w v2 r 48) (hmul : p ≠ [] ∧ r ≠ [] ∧ 18 < p.length + r.length) : Calls Tryz.prog 7 #[v1, v2, .string x, .string a] w fun e w' => e = .returned (.bool true) ∧ Ext w w' := by
  have HW := Lib.hid hW
  have HE := Lib.hid (Ext.rfl' w)
  have H1 := Lib.hid hp.1
  have H2 := Lib.hid hr.1
  obtain ⟨-, bp, tp, lp⟩ := hp
  obtain ⟨-, br, tr, lr⟩ := hr
  clear hW
  have kk := kk32
  have BP_ := Lib.hid bp
  have TP_ := Lib.hid tp
  have BR_ := Lib.hid br
  have TR_ := Lib.hid tr
  have KK_ := Lib.hid kk
  have BX_ := Lib.hid bx
  have BA_ := Lib.hid ba
  clear bp tp br tr kk bx ba
  have hsf : sfB 48 80 17 = 17039230 := by decide +kernel
  have SF_ := Lib.hid hsf
  clear hsf
  obtain ⟨l, hl0⟩ : ∃ l, l = p.map rb := ⟨_, rfl⟩
  obtain ⟨m, hm0⟩ : ∃ m, m = r.map rb := ⟨_, rfl⟩
  rw [← hl0, ← hm0] at hfew
  have G1 : Hid (SlS w v1 l) := by rw [hl0]; exact H1.out
  have G2 : Hid (SlS w v2 m) := by rw [hm0]; exact H2.out
  clear hl0 hm0
  have LP_ := Lib.hid lp
  have LR_ := Lib.hid lr
  obtain ⟨A1, c1, rfl⟩ := H1.out.sl
  obtain ⟨A2, c2, rfl⟩ := H2.out.sl
  obtain ⟨pn, hpn⟩ : ∃ n, n = p.length := ⟨_, rfl⟩
  obtain ⟨rn, hrn⟩ : ∃ n, n = r.length := ⟨_, rfl⟩
  have HPN := Lib.hid hpn
  have HRN := Lib.hid hrn
  have hpl : pn ≤ 17 := by omega
  have hrl : rn ≤ 17 := by omega
  have ht1 : (16 : Int) < (pn : Int) + (rn : Int) - 2 := by omega
  have HM : Hid (p ≠ [] ∧ r ≠ [] ∧ 18 < p.length + r.length) := hmul
  clear hmul lp lr
  rw [← hpn] at H1 G1 ⊢
  rw [← hrn] at H2 G2 ⊢
  clear hpn hrn
  obtain ⟨sU, hsU⟩ : ∃ s, rtx (pev p X) = .string s := ⟨_, rfl⟩
  have EsU := Lib.hid hsU
  clear hsU
  obtain ⟨sV, hsV⟩ : ∃ s, rtx (pev r X) = .string s := ⟨_, rfl⟩
  have EsV := Lib.hid hsV
  clear hsV
  obtain ⟨sS, hsS⟩ : ∃ s, rtx (pev p X + pev r X) = .string s := ⟨_, rfl⟩
  have EsS := Lib.hid hsS
  clear hsS
  obtain ⟨sD, hsD⟩ : ∃ s, rtx (pev p X - pev r X) = .string s := ⟨_, rfl⟩
  have EsD := Lib.hid hsD
  clear hsD
  obtain ⟨sM, hsM⟩ : ∃ s, rtx (pev p (X + A)) = .string s := ⟨_, rfl⟩
  have EsM := Lib.hid hsM
  clear hsM
  obtain ⟨sY, hsY⟩ : ∃ s, rtx (X + A) = .string s := ⟨_, rfl⟩
  have EsY := Lib.hid hsY
  clear hsY
  obtain ⟨sT, hsT⟩ : ∃ s, rtx (pev p X * pev r X) = .string s := ⟨_, rfl⟩
  have EsT := Lib.hid hsT
  clear hsT
  have EX := Lib.hid hX
  have EA := Lib.hid hA
  clear hX hA
  have ha2 : ¬ (20 : Int) < (a.size : Int) := by omega
  go_enter Tryz.func7, Tryz.ntmps7
  go_wp2_with fail
  refine (awake_v _ HW.out).mono ?_
  rintro e W1 ⟨rfl, hE⟩
  replace H1 := PS.hext H1 hE
  replace H2 := PS.hext H2 hE
  replace G1 := SlS.hext G1 hE
  replace G2 := SlS.hext G2 hE
  replace HW := Wd.hext HW hE
  replace HE := Lib.hid (HE.out.tr hE)
  clear hE
  go_wp2_with fail
  have hF := few2 x W1 (.slice A1 pn c1) (.slice A2 rn c2) l m 25 G1.out G2.out
  rw [hfew] at hF
  have hE := (Ext.rfl' W1).al (.cells #[(.slice A1 pn c1), (.slice A2 rn c2)] 25)
  generalize hWn : W1.alloc (.cells #[(.slice A1 pn c1), (.slice A2 rn c2)] 25) = W2 at *
  clear hWn
  replace H1 := PS.hext H1 hE
  replace H2 := PS.hext H2 hE
  replace G1 := SlS.hext G1 hE
  replace G2 := SlS.hext G2 hE
  replace HW := Wd.hext HW hE
  replace HE := Lib.hid (HE.out.tr hE)
  clear hE
  refine (hF).mono ?_
  rintro e W3 ⟨rfl, hE⟩
  replace H1 := PS.hext H1 hE
  replace H2 := PS.hext H2 hE
  replace G1 := SlS.hext G1 hE
  replace G2 := SlS.hext G2 hE
  replace HW := Wd.hext HW hE
  replace HE := Lib.hid (HE.out.tr hE)
  clear hE
  clear hF
  clear G1 G2 hfew
  go_wp2_with fail
  have hV : Calls Tryz.prog 31 #[(.slice A1 pn c1), .string x] W3 fun e w' => e = .returned (.tuple #[.string sU, .int .i64 0]) ∧ Ext W3 w' := by
    have h := Eval_p _ p 48 _ HW.out (⟨H1.out, BP_.out, TP_.out, LP_.out⟩ : PO _ _ p 48) X 80 BX_.out (by have kk : 4294967296 ≤ KK := KK_.out; have sf : sfB 48 80 17 = 17039230 := SF_.out; omega)
    unfold RetR at h
    rw [show rtx X = .string x from EX.out] at h
    rw [show rtx _ = .string sU from EsU.out] at h
    exact h
  refine (hV).mono ?_
  rintro e W4 ⟨rfl, hE⟩
  replace H1 := PS.hext H1 hE
  replace H2 := PS.hext H2 hE
  replace HW := Wd.hext HW hE
  replace HE := Lib.hid (HE.out.tr hE)
  clear hE
  clear hV
  go_wp2_with fail
  have hV : Calls Tryz.prog 31 #[(.slice A2 rn c2), .string x] W4 fun e w' => e = .returned (.tuple #[.string sV, .int .i64 0]) ∧ Ext W4 w' := by
    have h := Eval_p _ r 48 _ HW.out (⟨H2.out, BR_.out, TR_.out, LR_.out⟩ : PO _ _ r 48) X 80 BX_.out (by have kk : 4294967296 ≤ KK := KK_.out; have sf : sfB 48 80 17 = 17039230 := SF_.out; omega)
    unfold RetR at h
    rw [show rtx X = .string x from EX.out] at h
    rw [show rtx _ = .string sV from EsV.out] at h
    exact h
  refine (hV).mono ?_
  rintro e W5 ⟨rfl, hE⟩
  replace H1 := PS.hext H1 hE
  replace H2 := PS.hext H2 hE
  replace HW := Wd.hext HW hE
  replace HE := Lib.hid (HE.out.tr hE)
  clear hE
  clear hV
  go_wp2_with fail
  have hV : Calls Tryz.prog 41 #[.string a] W5 fun e w' => e = .returned (.bool true) ∧ Ext W5 w' := by
    have h := rValid_q A 80 _ HW.out BA_.out (by have kk : 4294967296 ≤ KK := KK_.out; have sf : sfB 48 80 17 = 17039230 := SF_.out; omega)
    rw [show rtx A = .string a from EA.out] at h
    exact h
  refine (hV).mono ?_
  rintro e W6 ⟨rfl, hE⟩
  replace H1 := PS.hext H1 hE
  replace H2 := PS.hext H2 hE
  replace HW := Wd.hext HW hE
  replace HE := Lib.hid (HE.out.tr hE)
  clear hE
  clear hV
  go_wp2_with fail
  refine (Add_p _ _ p r 48 48 _ HW.out (⟨H1.out, BP_.out, TP_.out, LP_.out⟩ : PO _ _ p 48) (⟨H2.out, BR_.out, TR_.out, LR_.out⟩ : PO _ _ r 48) (by have kk : 4294967296 ≤ KK := KK_.out; have sf : sfB 48 80 17 = 17039230 := SF_.out; omega)).mono ?_
  rintro e W7 ⟨v13, rfl, h13, hE⟩
  have H13 := Lib.hid h13
  clear h13
  replace H1 := PS.hext H1 hE
  replace H2 := PS.hext H2 hE
  replace HW := Wd.hext HW hE
  replace HE := Lib.hid (HE.out.tr hE)
  clear hE
  go_wp2_with fail
  refine (Sub_p _ _ p r 48 48 _ HW.out (⟨H1.out, BP_.out, TP_.out, LP_.out⟩ : PO _ _ p 48) (⟨H2.out, BR_.out, TR_.out, LR_.out⟩ : PO _ _ r 48) (by have kk : 4294967296 ≤ KK := KK_.out; have sf : sfB 48 80 17 = 17039230 := SF_.out; omega)).mono ?_
  rintro e W8 ⟨v15, rfl, h15, hE⟩
  have H15 := Lib.hid h15
  clear h15
  replace H1 := PS.hext H1 hE
  replace H2 := PS.hext H2 hE
  replace H13 := PS.hext H13 hE
  replace HW := Wd.hext HW hE
  replace HE := Lib.hid (HE.out.tr hE)
  clear hE
  go_wp2_with fail
  have hV : Calls Tryz.prog 37 #[(.slice A1 pn c1), .string a] W8 (RP0 (pshf A p) W8) := by
    have h := Shift_p _ p 48 _ HW.out (⟨H1.out, BP_.out, TP_.out, LP_.out⟩ : PO _ _ p 48) A 80 BA_.out (by decide) (by have kk : 4294967296 ≤ KK := KK_.out; have sf : sfB 48 80 17 = 17039230 := SF_.out; omega)
    rw [show rtx A = .string a from EA.out] at h
    exact h
  refine (hV).mono ?_
  rintro e W9 ⟨v17, rfl, h17, hE⟩
  have H17 := Lib.hid h17
  clear h17
  replace H1 := PS.hext H1 hE
  replace H2 := PS.hext H2 hE
  replace H13 := PS.hext H13 hE
  replace H15 := PS.hext H15 hE
  replace HW := Wd.hext HW hE
  replace HE := Lib.hid (HE.out.tr hE)
  clear hE
  clear hV
  obtain ⟨A7, c7, rfl⟩ := H17.out.sl
  have hl17 : (pshf A p).length = pn := by rw [pshf_len A TP_.out]; exact (show pn = p.length from HPN.out).symm
  rw [hl17] at H17 ⊢
  clear hl17
  go_wp2_with fail
  have hV : Calls Tryz.prog 42 #[.string x, .string a] W9 fun e w' => e = .returned (.tuple #[.string sY, .int .i64 0]) ∧ Ext W9 w' := by
    have h := rAdd_q X A 80 80 _ HW.out BX_.out BA_.out (by have kk : 4294967296 ≤ KK := KK_.out; have sf : sfB 48 80 17 = 17039230 := SF_.out; omega)
    unfold RetR at h
    rw [show rtx X = .string x from EX.out] at h
    rw [show rtx A = .string a from EA.out] at h
    rw [show rtx _ = .string sY from EsY.out] at h
    exact h
  refine (hV).mono ?_
  rintro e W10 ⟨rfl, hE⟩
  replace H1 := PS.hext H1 hE
  replace H2 := PS.hext H2 hE
  replace H13 := PS.hext H13 hE
  replace H15 := PS.hext H15 hE
  replace H17 := PS.hext H17 hE
  replace HW := Wd.hext HW hE
  replace HE := Lib.hid (HE.out.tr hE)
  clear hE
  clear hV
  go_wp2_with fail
  have hV : Calls Tryz.prog 31 #[v13, .string x] W10 fun e w' => e = .returned (.tuple #[.string sS, .int .i64 0]) ∧ Ext W10 w' := by
    have h := Eval_p _ _ 97 _ HW.out (po_add H13.out BP_.out BR_.out LP_.out LR_.out) X 80 BX_.out (by have kk : 4294967296 ≤ KK := KK_.out; have sf : sfB 48 80 17 = 17039230 := SF_.out; omega)
    unfold RetR at h
    rw [pev_trim, pev_padd] at h
    rw [show rtx X = .string x from EX.out] at h
    rw [show rtx _ = .string sS from EsS.out] at h
    exact h
  refine (hV).mono ?_
  rintro e W11 ⟨rfl, hE⟩
  replace H1 := PS.hext H1 hE
  replace H2 := PS.hext H2 hE
  replace H13 := PS.hext H13 hE
  replace H15 := PS.hext H15 hE
  replace H17 := PS.hext H17 hE
  replace HW := Wd.hext HW hE
  replace HE := Lib.hid (HE.out.tr hE)
  clear hE
  clear hV
  go_wp2_with fail
  have hV : Calls Tryz.prog 31 #[v15, .string x] W11 fun e w' => e = .returned (.tuple #[.string sD, .int .i64 0]) ∧ Ext W11 w' := by
    have h := Eval_p _ _ 97 _ HW.out (po_sub H15.out BP_.out BR_.out LP_.out LR_.out) X 80 BX_.out (by have kk : 4294967296 ≤ KK := KK_.out; have sf : sfB 48 80 17 = 17039230 := SF_.out; omega)
    unfold RetR at h
    rw [pev_trim, pev_padd, pev_neg, ← Rat.sub_eq_add_neg] at h
    rw [show rtx X = .string x from EX.out] at h
    rw [show rtx _ = .string sD from EsD.out] at h
    exact h
  refine (hV).mono ?_
  rintro e W12 ⟨rfl, hE⟩
  replace H1 := PS.hext H1 hE
  replace H2 := PS.hext H2 hE
  replace H13 := PS.hext H13 hE
  replace H15 := PS.hext H15 hE
  replace H17 := PS.hext H17 hE
  replace HW := Wd.hext HW hE
  replace HE := Lib.hid (HE.out.tr hE)
  clear hE
  clear hV
  go_wp2_with fail
  have hV : Calls Tryz.prog 31 #[.slice A7 pn c7, .string x] W12 fun e w' => e = .returned (.tuple #[.string sM, .int .i64 0]) ∧ Ext W12 w' := by
    have h := Eval_p _ _ (sfB 48 80 17) _ HW.out (po_shift H17.out BP_.out BA_.out TP_.out LP_.out) X 80 BX_.out (by have kk : 4294967296 ≤ KK := KK_.out; have sf : sfB 48 80 17 = 17039230 := SF_.out; omega)
    unfold RetR at h
    rw [pev_pshf] at h
    rw [show rtx X = .string x from EX.out] at h
    rw [show rtx _ = .string sM from EsM.out] at h
    exact h
  refine (hV).mono ?_
  rintro e W13 ⟨rfl, hE⟩
  replace H1 := PS.hext H1 hE
  replace H2 := PS.hext H2 hE
  replace H13 := PS.hext H13 hE
  replace H15 := PS.hext H15 hE
  replace H17 := PS.hext H17 hE
  replace HW := Wd.hext HW hE
  replace HE := Lib.hid (HE.out.tr hE)
  clear hE
  clear hV
  go_wp2_with fail
  have hV : Calls Tryz.prog 31 #[(.slice A1 pn c1), .string sY] W13 fun e w' => e = .returned (.tuple #[.string sM, .int .i64 0]) ∧ Ext W13 w' := by
    have h := Eval_p _ p 48 _ HW.out (⟨H1.out, BP_.out, TP_.out, LP_.out⟩ : PO _ _ p 48) (X + A) 161 (BX_.out.add BA_.out) (by have kk : 4294967296 ≤ KK := KK_.out; have sf : sfB 48 80 17 = 17039230 := SF_.out; omega)
    unfold RetR at h
    rw [show rtx (X + A) = .string sY from EsY.out] at h
    rw [show rtx _ = .string sM from EsM.out] at h
    exact h
  refine (hV).mono ?_
  rintro e W14 ⟨rfl, hE⟩
  replace H1 := PS.hext H1 hE
  replace H2 := PS.hext H2 hE
  replace H13 := PS.hext H13 hE
  replace H15 := PS.hext H15 hE
  replace H17 := PS.hext H17 hE
  replace HW := Wd.hext HW hE
  replace HE := Lib.hid (HE.out.tr hE)
  clear hE
  clear hV
  go_wp2_with fail
  have hV : Calls Tryz.prog 42 #[.string sU, .string sV] W14 fun e w' => e = .returned (.tuple #[.string sS, .int .i64 0]) ∧ Ext W14 w' := by
    have h := rAdd_q (pev p X) (pev r X) 2193 2193 _ HW.out (pev_le BP_.out BX_.out LP_.out) (pev_le BR_.out BX_.out LR_.out) (by have kk : 4294967296 ≤ KK := KK_.out; have sf : sfB 48 80 17 = 17039230 := SF_.out; omega)
    unfold RetR at h
    rw [show rtx (pev p X) = .string sU from EsU.out, show rtx (pev r X) = .string sV from EsV.out] at h
    rw [show rtx _ = .string sS from EsS.out] at h
    exact h
  refine (hV).mono ?_
  rintro e W15 ⟨rfl, hE⟩
  replace H1 := PS.hext H1 hE
  replace H2 := PS.hext H2 hE
  replace H13 := PS.hext H13 hE
  replace H15 := PS.hext H15 hE
  replace H17 := PS.hext H17 hE
  replace HW := Wd.hext HW hE
  replace HE := Lib.hid (HE.out.tr hE)
  clear hE
  clear hV
  go_wp2_with fail
  have hV : Calls Tryz.prog 43 #[.string sU, .string sV] W15 fun e w' => e = .returned (.tuple #[.string sD, .int .i64 0]) ∧ Ext W15 w' := by
    have h := rSub_q (pev p X) (pev r X) 2193 2193 _ HW.out (pev_le BP_.out BX_.out LP_.out) (pev_le BR_.out BX_.out LR_.out) (by have kk : 4294967296 ≤ KK := KK_.out; have sf : sfB 48 80 17 = 17039230 := SF_.out; omega)
    unfold RetR at h
    rw [show rtx (pev p X) = .string sU from EsU.out, show rtx (pev r X) = .string sV from EsV.out] at h
    rw [show rtx _ = .string sD from EsD.out] at h
    exact h
  refine (hV).mono ?_
  rintro e W16 ⟨rfl, hE⟩
  replace H1 := PS.hext H1 hE
  replace H2 := PS.hext H2 hE
  replace H13 := PS.hext H13 hE
  replace H15 := PS.hext H15 hE
  replace H17 := PS.hext H17 hE
  replace HW := Wd.hext HW hE
  replace HE := Lib.hid (HE.out.tr hE)
  clear hE
  clear hV
  go_wp2_with fail
  refine (Mul_lim _ _ p r 48 48 _ HW.out (⟨H1.out, BP_.out, TP_.out, LP_.out⟩ : PO _ _ p 48) (⟨H2.out, BR_.out, TR_.out, LR_.out⟩ : PO _ _ r 48) HM.out.1 HM.out.2.1 HM.out.2.2 (by have kk : 4294967296 ≤ KK := KK_.out; have sf : sfB 48 80 17 = 17039230 := SF_.out; omega)).mono ?_
  rintro e W17 ⟨rfl, hE⟩
  replace H1 := PS.hext H1 hE
  replace H2 := PS.hext H2 hE
  replace H13 := PS.hext H13 hE
  replace H15 := PS.hext H15 hE
  replace H17 := PS.hext H17 hE
  replace HW := Wd.hext HW hE
  replace HE := Lib.hid (HE.out.tr hE)
  clear hE
  go_wp2_with fail
  go_ret
  exact ⟨rfl, HE.out⟩
theorem vals_v (v1 v2 : Value) (x a : ByteArray) (l m : List ByteArray) (w : World) (hW : Wd w) (h1 : SlS w v1 l) (h2 : SlS w v2 m) : Calls Tryz.prog 7 #[v1, v2, .string x, .string a] w fun e w' => e = .returned (.bool true) ∧ Ext w w' := by
  cases hf : (decide (x.size ≤ 20) && (fewB l && fewB m))
  · exact vals_few v1 v2 x a l m w hW h1 h2 hf
  · have hf2 := hf
    rw [Bool.and_eq_true, Bool.and_eq_true, decide_eq_true_eq] at hf2
    obtain ⟨hx, hf1, hf2⟩ := hf2
    by_cases ha : 20 < a.size
    · exact vals_long v1 v2 x a l m w hW h1 h2 hf ha
    · cases hb1 : (polB l && ratB x.data.toList)
      · cases hb2 : (polB m && ratB x.data.toList)
        · exact vals_nn v1 v2 x a l m w hW h1 h2 hf ha (sb_few hf1) (sb_few hf2) hx hb1 hb2
        · rw [Bool.and_eq_true] at hb2
          obtain ⟨r, rfl, tr, lr⟩ := (polB_iff m).1 hb2.1
          exact vals_ny v1 v2 x a l _ w hW h1 h2 hf ha (sb_few hf1) hx hb1 r (fun W hE => po_of (h2.ext hE) tr lr (fewB_txt hf2)) hb2.2
      · rw [Bool.and_eq_true] at hb1
        obtain ⟨p, rfl, tp, lp⟩ := (polB_iff l).1 hb1.1
        have hp : ∀ W, Ext w W → PO W v1 p 48 := fun W hE => po_of (h1.ext hE) tp lp (fewB_txt hf1)
        cases hb2 : (polB m && ratB x.data.toList)
        · exact vals_yn v1 v2 x a _ m w hW h1 h2 hf ha (sb_few hf2) hx hb2 p hp hb1.2
        · rw [Bool.and_eq_true] at hb2
          obtain ⟨r, rfl, tr, lr⟩ := (polB_iff m).1 hb2.1
          have hr : ∀ W, Ext w W → PO W v2 r 48 := fun W hE => po_of (h2.ext hE) tr lr (fewB_txt hf2)
          cases hba : ratB a.data.toList
          · exact vals_yyn v1 v2 x a _ _ w hW h1 h2 hf ha hx p hp r hr hb1.2 hba
          · obtain ⟨X, eX, bX⟩ := rat_of hb1.2
            obtain ⟨A, eA, bA⟩ := rat_of hba
            by_cases hm : p = [] ∨ r = [] ∨ p.length + r.length ≤ 18
            · exact vals_yes0 v1 v2 x a p r X A w hW eX.symm eA.symm (bX.mono (by omega)) (bA.mono (by omega)) (by omega) hf (hp w (Ext.rfl' w)) (hr w (Ext.rfl' w)) hm
            · exact vals_yes1 v1 v2 x a p r X A w hW eX.symm eA.symm (bX.mono (by omega)) (bA.mono (by omega)) (by omega) hf (hp w (Ext.rfl' w)) (hr w (Ext.rfl' w)) ⟨fun e => hm (.inl e), fun e => hm (.inr (.inl e)), Nat.not_le.1 fun e => hm (.inr (.inr e))⟩
end Go.Proofs.YtbldlibijojbjaaGreatDoor.GB
