import Derived.Test.YtbldlibijojbjaaGreatDoorMCo
namespace Go.Proofs.YtbldlibijojbjaaGreatDoor.GB
set_option linter.unusedVariables false
set_option linter.unusedSimpArgs false
open Go.RowKit Go.Shelf
attribute [local go_sem ↓] Go.wp_at_zero Go.wp_at_succ
theorem one_poly (w : World) (v1 : Value) (l : List ByteArray) (T : TypeId) (h1 : SlS w v1 l) : RdV (w.alloc (.cells #[v1] T)) (some ⟨w.heap.size, 0, none⟩) [(v1, l)] := by
  intro j hj
  have hE := (Ext.rfl' w).al (.cells #[v1] T)
  refine ⟨w.heap.size, 0, rfl, by simp, ?_, ?_⟩
  · rw [Lib.cell_of_heap (World.alloc_heap_new w _)]
    rcases j with _ | j
    · rfl
    · simp at hj
  · rcases j with _ | j
    · exact h1.ext hE
    · simp at hj
theorem few1 (x : ByteArray) (w : World) (v1 : Value) (l : List ByteArray) (T : TypeId) (h1 : SlS w v1 l) :
    Calls Tryz.prog 19 #[.string x, .slice (some ⟨w.heap.size, 0, none⟩) 1 1] (w.alloc (.cells #[v1] T)) fun e w' => e = .returned (.bool (decide (x.size ≤ 20) && fewB l)) ∧ Ext (w.alloc (.cells #[v1] T)) w' := by
  have h := few_any x (some ⟨w.heap.size, 0, none⟩) 1 [(v1, l)] _ (show 1 ≤ 1000 by decide) (one_poly w v1 l T h1)
  have e : [(v1, l)].all (fun x => fewB x.2) = fewB l := by simp
  rw [e] at h
  exact h
theorem Enclose_no (v : Value) (l : List ByteArray) (s t : ByteArray) (w : World) (hW : Wd w) (h : SlS w v l) (hs : SB l) (h1 : s.size ≤ 10000) (h2 : t.size ≤ 10000) (hb : (polB l && ivB s t) = false) :
    Calls Tryz.prog 39 #[v, .agg #[.string s, .string t]] w (RetIv 1 w) := by
  have hv := pValid_any v l w hW h hs
  cases hl : polB l
  · rw [hl] at hv; exact enclose_n1 v s t w hv
  · rw [hl] at hv hb
    have hi := iva_any s t w hW h1 h2
    rw [show ivB s t = false by simpa using hb] at hi
    exact enclose_n2 v s t w hv hi
theorem Enclose_yes (v : Value) (p : Pl) (I1 I2 : Rat) (w : World) (hW : Wd w) (h : PO w v p 48) (h1 : Bd I1 240) (h2 : Bd I2 240) (hle : I1 ≤ I2) :
    Calls Tryz.prog 39 #[v, .agg #[.string (rb I1), .string (rb I2)]] w fun e w' => e = .returned (.tuple #[.agg #[.string (rb (penc (I1, I2) p).1), .string (rb (penc (I1, I2) p).2)], .int .i64 0]) ∧ Ext w w' :=
  Enclose_p v p 48 w hW h I1 I2 240 h1 h2 hle (by have := kk32; omega)
theorem penc_40 {p : Pl} {I1 I2 : Rat} (hp : PB p 48) (lp : p.length ≤ 17) (h1 : Bd I1 240) (h2 : Bd I2 240) : Bd (penc (I1, I2) p).1 40000 ∧ Bd (penc (I1, I2) p).2 40000 := by
  have h := penc_bd hp (I := (I1, I2)) (m := 240) ⟨h1, h2⟩
  have : p.length * (240 + 48 + 1) ≤ 17 * (240 + 48 + 1) := Nat.mul_le_mul_right _ lp
  exact ⟨h.1.mono (by omega), h.2.mono (by omega)⟩
set_option maxHeartbeats 16000000 in
set_option maxRecDepth 400000 in
theorem cont_few (v : Value) (l : List ByteArray) (s t u y x : ByteArray) (w : World) (hW : Wd w) (h1 : SlS w v l) (z1 : s.size ≤ 140737488351232) (z2 : t.size ≤ 140737488351232) (z3 : u.size ≤ 140737488351232) (z4 : y.size ≤ 140737488351232) (hfew : (decide (x.size ≤ 20) && fewB l) = false) : Calls Tryz.prog 10 #[v, .agg #[.string s, .string t], .agg #[.string u, .string y], .string x] w fun e w' => e = .returned (.bool true) ∧ Ext w w' := by
  obtain ⟨A1, c1, rfl⟩ := h1.slc
  have HW := Lib.hid hW
  have HE := Lib.hid (Ext.rfl' w)
  have H1 := Lib.hid h1
  clear hW h1
  obtain ⟨B5, B6, hE⟩ := boxes2 w #[.string s, .string t] #[.string u, .string y] 44
  go_enter Tryz.func10, Tryz.ntmps10
  go_wp2_with fail
  generalize (w.alloc (.cells #[.string s, .string t] 44)).alloc (.cells #[.string u, .string y] 44) = W0 at *
  replace H1 := SlS.hext H1 hE
  replace HW := Wd.hext HW hE
  replace HE := Lib.hid (HE.out.tr hE)
  clear hE
  refine (awake_v _ HW.out).mono ?_
  rintro e W1 ⟨rfl, hE⟩
  replace B5 := B5.ext hE
  replace B6 := B6.ext hE
  replace H1 := SlS.hext H1 hE
  replace HW := Wd.hext HW hE
  replace HE := Lib.hid (HE.out.tr hE)
  clear hE
  go_wp2_with fail
  have hF := few1 x W1 (.slice A1 l.length c1) l 25 H1.out
  rw [hfew] at hF
  have hE := (Ext.rfl' W1).al (.cells #[(.slice A1 l.length c1)] 25)
  generalize hWn : W1.alloc (.cells #[(.slice A1 l.length c1)] 25) = W2 at *
  clear hWn
  replace B5 := B5.ext hE
  replace B6 := B6.ext hE
  replace H1 := SlS.hext H1 hE
  replace HW := Wd.hext HW hE
  replace HE := Lib.hid (HE.out.tr hE)
  clear hE
  refine (hF).mono ?_
  rintro e W3 ⟨rfl, hE⟩
  replace B5 := B5.ext hE
  replace B6 := B6.ext hE
  replace H1 := SlS.hext H1 hE
  replace HW := Wd.hext HW hE
  replace HE := Lib.hid (HE.out.tr hE)
  clear hE
  clear hF
  obtain ⟨cB50, cB51, -, -⟩ := B5.e2
  obtain ⟨cB60, cB61, -, -⟩ := B6.e2
  go_wp2_with fail
  clear cB50 cB51 cB60 cB61
  refine (awake_v _ HW.out).mono ?_
  rintro e W4 ⟨rfl, hE⟩
  replace B5 := B5.ext hE
  replace B6 := B6.ext hE
  replace H1 := SlS.hext H1 hE
  replace HW := Wd.hext HW hE
  replace HE := Lib.hid (HE.out.tr hE)
  clear hE
  go_wp2_with fail
  go_ret
  exact ⟨rfl, HE.out⟩
set_option maxHeartbeats 16000000 in
set_option maxRecDepth 400000 in
theorem cont_long (v : Value) (l : List ByteArray) (s t u y x : ByteArray) (w : World) (hW : Wd w) (h1 : SlS w v l) (z1 : s.size ≤ 140737488351232) (z2 : t.size ≤ 140737488351232) (z3 : u.size ≤ 140737488351232) (z4 : y.size ≤ 140737488351232) (hfew : (decide (x.size ≤ 20) && fewB l) = true) (hz : 60 < s.size + t.size + u.size + y.size) : Calls Tryz.prog 10 #[v, .agg #[.string s, .string t], .agg #[.string u, .string y], .string x] w fun e w' => e = .returned (.bool true) ∧ Ext w w' := by
  obtain ⟨A1, c1, rfl⟩ := h1.slc
  have HW := Lib.hid hW
  have HE := Lib.hid (Ext.rfl' w)
  have H1 := Lib.hid h1
  clear hW h1
  have hz2 : (60 : Int) < (s.size : Int) + (t.size : Int) + (u.size : Int) + (y.size : Int) := by omega
  obtain ⟨B5, B6, hE⟩ := boxes2 w #[.string s, .string t] #[.string u, .string y] 44
  go_enter Tryz.func10, Tryz.ntmps10
  go_wp2_with fail
  generalize (w.alloc (.cells #[.string s, .string t] 44)).alloc (.cells #[.string u, .string y] 44) = W0 at *
  replace H1 := SlS.hext H1 hE
  replace HW := Wd.hext HW hE
  replace HE := Lib.hid (HE.out.tr hE)
  clear hE
  refine (awake_v _ HW.out).mono ?_
  rintro e W1 ⟨rfl, hE⟩
  replace B5 := B5.ext hE
  replace B6 := B6.ext hE
  replace H1 := SlS.hext H1 hE
  replace HW := Wd.hext HW hE
  replace HE := Lib.hid (HE.out.tr hE)
  clear hE
  go_wp2_with fail
  have hF := few1 x W1 (.slice A1 l.length c1) l 25 H1.out
  rw [hfew] at hF
  have hE := (Ext.rfl' W1).al (.cells #[(.slice A1 l.length c1)] 25)
  generalize hWn : W1.alloc (.cells #[(.slice A1 l.length c1)] 25) = W2 at *
  clear hWn
  replace B5 := B5.ext hE
  replace B6 := B6.ext hE
  replace H1 := SlS.hext H1 hE
  replace HW := Wd.hext HW hE
  replace HE := Lib.hid (HE.out.tr hE)
  clear hE
  refine (hF).mono ?_
  rintro e W3 ⟨rfl, hE⟩
  replace B5 := B5.ext hE
  replace B6 := B6.ext hE
  replace H1 := SlS.hext H1 hE
  replace HW := Wd.hext HW hE
  replace HE := Lib.hid (HE.out.tr hE)
  clear hE
  clear hF
  obtain ⟨cB50, cB51, -, -⟩ := B5.e2
  obtain ⟨cB60, cB61, -, -⟩ := B6.e2
  go_wp2_with fail
  clear cB50 cB51 cB60 cB61
  refine (awake_v _ HW.out).mono ?_
  rintro e W4 ⟨rfl, hE⟩
  replace B5 := B5.ext hE
  replace B6 := B6.ext hE
  replace H1 := SlS.hext H1 hE
  replace HW := Wd.hext HW hE
  replace HE := Lib.hid (HE.out.tr hE)
  clear hE
  go_wp2_with fail
  go_ret
  exact ⟨rfl, HE.out⟩
set_option maxHeartbeats 16000000 in
set_option maxRecDepth 400000 in
theorem cont_no (v : Value) (l : List ByteArray) (s t u y x : ByteArray) (w : World) (hW : Wd w) (h1 : SlS w v l) (z1 : s.size ≤ 140737488351232) (z2 : t.size ≤ 140737488351232) (z3 : u.size ≤ 140737488351232) (z4 : y.size ≤ 140737488351232) (hfew : (decide (x.size ≤ 20) && fewB l) = true) (hz : ¬ 60 < s.size + t.size + u.size + y.size) (hs1 : SB l) (hb : (polB l && ivB s t) = false) : Calls Tryz.prog 10 #[v, .agg #[.string s, .string t], .agg #[.string u, .string y], .string x] w fun e w' => e = .returned (.bool true) ∧ Ext w w' := by
  obtain ⟨A1, c1, rfl⟩ := h1.slc
  have HW := Lib.hid hW
  have HE := Lib.hid (Ext.rfl' w)
  have H1 := Lib.hid h1
  clear hW h1
  have hz2 : ¬ (60 : Int) < (s.size : Int) + (t.size : Int) + (u.size : Int) + (y.size : Int) := by omega
  obtain ⟨B5, B6, hE⟩ := boxes2 w #[.string s, .string t] #[.string u, .string y] 44
  go_enter Tryz.func10, Tryz.ntmps10
  go_wp2_with fail
  generalize (w.alloc (.cells #[.string s, .string t] 44)).alloc (.cells #[.string u, .string y] 44) = W0 at *
  replace H1 := SlS.hext H1 hE
  replace HW := Wd.hext HW hE
  replace HE := Lib.hid (HE.out.tr hE)
  clear hE
  refine (awake_v _ HW.out).mono ?_
  rintro e W1 ⟨rfl, hE⟩
  replace B5 := B5.ext hE
  replace B6 := B6.ext hE
  replace H1 := SlS.hext H1 hE
  replace HW := Wd.hext HW hE
  replace HE := Lib.hid (HE.out.tr hE)
  clear hE
  go_wp2_with fail
  have hF := few1 x W1 (.slice A1 l.length c1) l 25 H1.out
  rw [hfew] at hF
  have hE := (Ext.rfl' W1).al (.cells #[(.slice A1 l.length c1)] 25)
  generalize hWn : W1.alloc (.cells #[(.slice A1 l.length c1)] 25) = W2 at *
  clear hWn
  replace B5 := B5.ext hE
  replace B6 := B6.ext hE
  replace H1 := SlS.hext H1 hE
  replace HW := Wd.hext HW hE
  replace HE := Lib.hid (HE.out.tr hE)
  clear hE
  refine (hF).mono ?_
  rintro e W3 ⟨rfl, hE⟩
  replace B5 := B5.ext hE
  replace B6 := B6.ext hE
  replace H1 := SlS.hext H1 hE
  replace HW := Wd.hext HW hE
  replace HE := Lib.hid (HE.out.tr hE)
  clear hE
  clear hF
  obtain ⟨cB50, cB51, -, -⟩ := B5.e2
  obtain ⟨cB60, cB61, -, -⟩ := B6.e2
  go_wp2_with fail
  clear cB50 cB51 cB60 cB61
  refine (Enclose_no _ l s t _ HW.out H1.out hs1 (by omega) (by omega) hb).mono ?_
  rintro e W4 ⟨rfl, hE⟩
  replace B5 := B5.ext hE
  replace B6 := B6.ext hE
  replace H1 := SlS.hext H1 hE
  replace HW := Wd.hext HW hE
  replace HE := Lib.hid (HE.out.tr hE)
  clear hE
  go_wp2_with fail
  go_ret
  exact ⟨rfl, HE.out.al _⟩
set_option maxHeartbeats 16000000 in
set_option maxRecDepth 400000 in
theorem cont_yes00 (v : Value) (l : List ByteArray) (s t u y x : ByteArray) (w : World) (hW : Wd w) (h1 : SlS w v l) (z1 : s.size ≤ 140737488351232) (z2 : t.size ≤ 140737488351232) (z3 : u.size ≤ 140737488351232) (z4 : y.size ≤ 140737488351232) (hfew : (decide (x.size ≤ 20) && fewB l) = true) (hz : ¬ 60 < s.size + t.size + u.size + y.size) (a1 a2 : ByteArray) (hE1 : ∀ W, Ext w W → Calls Tryz.prog 39 #[v, .agg #[.string s, .string t]] W fun e w' => e = .returned (.tuple #[.agg #[.string a1, .string a2], .int .i64 0]) ∧ Ext W w')
    (hH1 : ∀ W, Ext w W → Calls Tryz.prog 45 #[.agg #[.string s, .string t], .string x] W fun e w' => e = .returned (.bool false) ∧ Ext W w')
    (hM1 : ∀ W, Ext w W → Calls Tryz.prog 46 #[.agg #[.string s, .string t], .agg #[.string u, .string y]] W fun e w' => e = .returned (.tuple #[.agg #[.string ⟨#[]⟩, .string ⟨#[]⟩], .bool false]) ∧ Ext W w') : Calls Tryz.prog 10 #[v, .agg #[.string s, .string t], .agg #[.string u, .string y], .string x] w fun e w' => e = .returned (.bool true) ∧ Ext w w' := by
  obtain ⟨A1, c1, rfl⟩ := h1.slc
  have HW := Lib.hid hW
  have HE := Lib.hid (Ext.rfl' w)
  have H1 := Lib.hid h1
  clear hW h1
  have hz2 : ¬ (60 : Int) < (s.size : Int) + (t.size : Int) + (u.size : Int) + (y.size : Int) := by omega
  have HE1_ := Lib.hid hE1
  have HH1_ := Lib.hid hH1
  have HM1_ := Lib.hid hM1
  clear hE1 hH1 hM1
  obtain ⟨B5, B6, hE⟩ := boxes2 w #[.string s, .string t] #[.string u, .string y] 44
  go_enter Tryz.func10, Tryz.ntmps10
  go_wp2_with fail
  generalize (w.alloc (.cells #[.string s, .string t] 44)).alloc (.cells #[.string u, .string y] 44) = W0 at *
  replace H1 := SlS.hext H1 hE
  replace HW := Wd.hext HW hE
  replace HE := Lib.hid (HE.out.tr hE)
  clear hE
  refine (awake_v _ HW.out).mono ?_
  rintro e W1 ⟨rfl, hE⟩
  replace B5 := B5.ext hE
  replace B6 := B6.ext hE
  replace H1 := SlS.hext H1 hE
  replace HW := Wd.hext HW hE
  replace HE := Lib.hid (HE.out.tr hE)
  clear hE
  go_wp2_with fail
  have hF := few1 x W1 (.slice A1 l.length c1) l 25 H1.out
  rw [hfew] at hF
  have hE := (Ext.rfl' W1).al (.cells #[(.slice A1 l.length c1)] 25)
  generalize hWn : W1.alloc (.cells #[(.slice A1 l.length c1)] 25) = W2 at *
  clear hWn
  replace B5 := B5.ext hE
  replace B6 := B6.ext hE
  replace H1 := SlS.hext H1 hE
  replace HW := Wd.hext HW hE
  replace HE := Lib.hid (HE.out.tr hE)
  clear hE
  refine (hF).mono ?_
  rintro e W3 ⟨rfl, hE⟩
  replace B5 := B5.ext hE
  replace B6 := B6.ext hE
  replace H1 := SlS.hext H1 hE
  replace HW := Wd.hext HW hE
  replace HE := Lib.hid (HE.out.tr hE)
  clear hE
  clear hF
  obtain ⟨cB50, cB51, -, -⟩ := B5.e2
  obtain ⟨cB60, cB61, -, -⟩ := B6.e2
  go_wp2_with fail
  clear cB50 cB51 cB60 cB61
  refine (HE1_.out _ HE.out).mono ?_
  rintro e W4 ⟨rfl, hE⟩
  replace B5 := B5.ext hE
  replace B6 := B6.ext hE
  replace H1 := SlS.hext H1 hE
  replace HW := Wd.hext HW hE
  replace HE := Lib.hid (HE.out.tr hE)
  clear hE
  obtain ⟨cB50, cB51, -, -⟩ := (B5.al (.cells #[.string a1, .string a2] 44)).e2
  obtain ⟨cB60, cB61, -, -⟩ := (B6.al (.cells #[.string a1, .string a2] 44)).e2
  go_wp2_with fail
  clear cB50 cB51 cB60 cB61
  have B9 := Bx.new W4 #[.string a1, .string a2] 44
  have hE := (Ext.rfl' W4).al (.cells #[.string a1, .string a2] 44)
  generalize hWn : W4.alloc (.cells #[.string a1, .string a2] 44) = W5 at *
  clear hWn
  generalize hs3 : W4.heap.size = gB9 at *
  clear hs3
  replace B5 := B5.ext hE
  replace B6 := B6.ext hE
  replace H1 := SlS.hext H1 hE
  replace HW := Wd.hext HW hE
  replace HE := Lib.hid (HE.out.tr hE)
  clear hE
  refine (HH1_.out _ HE.out).mono ?_
  rintro e W6 ⟨rfl, hE⟩
  replace B5 := B5.ext hE
  replace B6 := B6.ext hE
  replace B9 := B9.ext hE
  replace H1 := SlS.hext H1 hE
  replace HW := Wd.hext HW hE
  replace HE := Lib.hid (HE.out.tr hE)
  clear hE
  obtain ⟨cB50, cB51, -, -⟩ := B5.e2
  obtain ⟨cB60, cB61, -, -⟩ := B6.e2
  obtain ⟨cB90, cB91, -, -⟩ := B9.e2
  go_wp2_with fail
  clear cB50 cB51 cB60 cB61 cB90 cB91
  refine (HM1_.out _ HE.out).mono ?_
  rintro e W7 ⟨rfl, hE⟩
  replace B5 := B5.ext hE
  replace B6 := B6.ext hE
  replace B9 := B9.ext hE
  replace H1 := SlS.hext H1 hE
  replace HW := Wd.hext HW hE
  replace HE := Lib.hid (HE.out.tr hE)
  clear hE
  go_wp2_with fail
  go_ret
  exact ⟨rfl, HE.out.al _⟩
set_option maxHeartbeats 16000000 in
set_option maxRecDepth 400000 in
theorem cont_yes01 (v : Value) (l : List ByteArray) (s t u y x : ByteArray) (w : World) (hW : Wd w) (h1 : SlS w v l) (z1 : s.size ≤ 140737488351232) (z2 : t.size ≤ 140737488351232) (z3 : u.size ≤ 140737488351232) (z4 : y.size ≤ 140737488351232) (hfew : (decide (x.size ≤ 20) && fewB l) = true) (hz : ¬ 60 < s.size + t.size + u.size + y.size) (a1 a2 : ByteArray) (hE1 : ∀ W, Ext w W → Calls Tryz.prog 39 #[v, .agg #[.string s, .string t]] W fun e w' => e = .returned (.tuple #[.agg #[.string a1, .string a2], .int .i64 0]) ∧ Ext W w')
    (hH1 : ∀ W, Ext w W → Calls Tryz.prog 45 #[.agg #[.string s, .string t], .string x] W fun e w' => e = .returned (.bool false) ∧ Ext W w')
    (n1 n2 b1 b2 : ByteArray) (hM1 : ∀ W, Ext w W → Calls Tryz.prog 46 #[.agg #[.string s, .string t], .agg #[.string u, .string y]] W fun e w' => e = .returned (.tuple #[.agg #[.string n1, .string n2], .bool true]) ∧ Ext W w')
    (hE2 : ∀ W, Ext w W → Calls Tryz.prog 39 #[v, .agg #[.string n1, .string n2]] W fun e w' => e = .returned (.tuple #[.agg #[.string b1, .string b2], .int .i64 0]) ∧ Ext W w')
    (hM2 : ∀ W, Ext w W → Calls Tryz.prog 46 #[.agg #[.string a1, .string a2], .agg #[.string b1, .string b2]] W fun e w' => e = .returned (.tuple #[.agg #[.string b1, .string b2], .bool true]) ∧ Ext W w') : Calls Tryz.prog 10 #[v, .agg #[.string s, .string t], .agg #[.string u, .string y], .string x] w fun e w' => e = .returned (.bool true) ∧ Ext w w' := by
  obtain ⟨A1, c1, rfl⟩ := h1.slc
  have HW := Lib.hid hW
  have HE := Lib.hid (Ext.rfl' w)
  have H1 := Lib.hid h1
  clear hW h1
  have hz2 : ¬ (60 : Int) < (s.size : Int) + (t.size : Int) + (u.size : Int) + (y.size : Int) := by omega
  have HE1_ := Lib.hid hE1
  have HH1_ := Lib.hid hH1
  have HM1_ := Lib.hid hM1
  have HE2_ := Lib.hid hE2
  have HM2_ := Lib.hid hM2
  clear hE1 hH1 hM1 hE2 hM2
  obtain ⟨B5, B6, hE⟩ := boxes2 w #[.string s, .string t] #[.string u, .string y] 44
  go_enter Tryz.func10, Tryz.ntmps10
  go_wp2_with fail
  generalize (w.alloc (.cells #[.string s, .string t] 44)).alloc (.cells #[.string u, .string y] 44) = W0 at *
  replace H1 := SlS.hext H1 hE
  replace HW := Wd.hext HW hE
  replace HE := Lib.hid (HE.out.tr hE)
  clear hE
  refine (awake_v _ HW.out).mono ?_
  rintro e W1 ⟨rfl, hE⟩
  replace B5 := B5.ext hE
  replace B6 := B6.ext hE
  replace H1 := SlS.hext H1 hE
  replace HW := Wd.hext HW hE
  replace HE := Lib.hid (HE.out.tr hE)
  clear hE
  go_wp2_with fail
  have hF := few1 x W1 (.slice A1 l.length c1) l 25 H1.out
  rw [hfew] at hF
  have hE := (Ext.rfl' W1).al (.cells #[(.slice A1 l.length c1)] 25)
  generalize hWn : W1.alloc (.cells #[(.slice A1 l.length c1)] 25) = W2 at *
  clear hWn
  replace B5 := B5.ext hE
  replace B6 := B6.ext hE
  replace H1 := SlS.hext H1 hE
  replace HW := Wd.hext HW hE
  replace HE := Lib.hid (HE.out.tr hE)
  clear hE
  refine (hF).mono ?_
  rintro e W3 ⟨rfl, hE⟩
  replace B5 := B5.ext hE
  replace B6 := B6.ext hE
  replace H1 := SlS.hext H1 hE
  replace HW := Wd.hext HW hE
  replace HE := Lib.hid (HE.out.tr hE)
  clear hE
  clear hF
  obtain ⟨cB50, cB51, -, -⟩ := B5.e2
  obtain ⟨cB60, cB61, -, -⟩ := B6.e2
  go_wp2_with fail
  clear cB50 cB51 cB60 cB61
  refine (HE1_.out _ HE.out).mono ?_
  rintro e W4 ⟨rfl, hE⟩
  replace B5 := B5.ext hE
  replace B6 := B6.ext hE
  replace H1 := SlS.hext H1 hE
  replace HW := Wd.hext HW hE
  replace HE := Lib.hid (HE.out.tr hE)
  clear hE
  obtain ⟨cB50, cB51, -, -⟩ := (B5.al (.cells #[.string a1, .string a2] 44)).e2
  obtain ⟨cB60, cB61, -, -⟩ := (B6.al (.cells #[.string a1, .string a2] 44)).e2
  go_wp2_with fail
  clear cB50 cB51 cB60 cB61
  have B9 := Bx.new W4 #[.string a1, .string a2] 44
  have hE := (Ext.rfl' W4).al (.cells #[.string a1, .string a2] 44)
  generalize hWn : W4.alloc (.cells #[.string a1, .string a2] 44) = W5 at *
  clear hWn
  generalize hs3 : W4.heap.size = gB9 at *
  clear hs3
  replace B5 := B5.ext hE
  replace B6 := B6.ext hE
  replace H1 := SlS.hext H1 hE
  replace HW := Wd.hext HW hE
  replace HE := Lib.hid (HE.out.tr hE)
  clear hE
  refine (HH1_.out _ HE.out).mono ?_
  rintro e W6 ⟨rfl, hE⟩
  replace B5 := B5.ext hE
  replace B6 := B6.ext hE
  replace B9 := B9.ext hE
  replace H1 := SlS.hext H1 hE
  replace HW := Wd.hext HW hE
  replace HE := Lib.hid (HE.out.tr hE)
  clear hE
  obtain ⟨cB50, cB51, -, -⟩ := B5.e2
  obtain ⟨cB60, cB61, -, -⟩ := B6.e2
  obtain ⟨cB90, cB91, -, -⟩ := B9.e2
  go_wp2_with fail
  clear cB50 cB51 cB60 cB61 cB90 cB91
  refine (HM1_.out _ HE.out).mono ?_
  rintro e W7 ⟨rfl, hE⟩
  replace B5 := B5.ext hE
  replace B6 := B6.ext hE
  replace B9 := B9.ext hE
  replace H1 := SlS.hext H1 hE
  replace HW := Wd.hext HW hE
  replace HE := Lib.hid (HE.out.tr hE)
  clear hE
  obtain ⟨cB50, cB51, -, -⟩ := (B5.al (.cells #[.string n1, .string n2] 44)).e2
  obtain ⟨cB60, cB61, -, -⟩ := (B6.al (.cells #[.string n1, .string n2] 44)).e2
  obtain ⟨cB90, cB91, -, -⟩ := (B9.al (.cells #[.string n1, .string n2] 44)).e2
  go_wp2_with fail
  clear cB50 cB51 cB60 cB61 cB90 cB91
  have B13 := Bx.new W7 #[.string n1, .string n2] 44
  have hE := (Ext.rfl' W7).al (.cells #[.string n1, .string n2] 44)
  generalize hWn : W7.alloc (.cells #[.string n1, .string n2] 44) = W8 at *
  clear hWn
  generalize hs3 : W7.heap.size = gB13 at *
  clear hs3
  replace B5 := B5.ext hE
  replace B6 := B6.ext hE
  replace B9 := B9.ext hE
  replace H1 := SlS.hext H1 hE
  replace HW := Wd.hext HW hE
  replace HE := Lib.hid (HE.out.tr hE)
  clear hE
  refine (HE2_.out _ HE.out).mono ?_
  rintro e W9 ⟨rfl, hE⟩
  replace B5 := B5.ext hE
  replace B6 := B6.ext hE
  replace B9 := B9.ext hE
  replace B13 := B13.ext hE
  replace H1 := SlS.hext H1 hE
  replace HW := Wd.hext HW hE
  replace HE := Lib.hid (HE.out.tr hE)
  clear hE
  obtain ⟨cB50, cB51, -, -⟩ := (B5.al (.cells #[.string b1, .string b2] 44)).e2
  obtain ⟨cB60, cB61, -, -⟩ := (B6.al (.cells #[.string b1, .string b2] 44)).e2
  obtain ⟨cB90, cB91, -, -⟩ := (B9.al (.cells #[.string b1, .string b2] 44)).e2
  obtain ⟨cB130, cB131, -, -⟩ := (B13.al (.cells #[.string b1, .string b2] 44)).e2
  go_wp2_with fail
  clear cB50 cB51 cB60 cB61 cB90 cB91 cB130 cB131
  have B15 := Bx.new W9 #[.string b1, .string b2] 44
  have hE := (Ext.rfl' W9).al (.cells #[.string b1, .string b2] 44)
  generalize hWn : W9.alloc (.cells #[.string b1, .string b2] 44) = W10 at *
  clear hWn
  generalize hs3 : W9.heap.size = gB15 at *
  clear hs3
  replace B5 := B5.ext hE
  replace B6 := B6.ext hE
  replace B9 := B9.ext hE
  replace B13 := B13.ext hE
  replace H1 := SlS.hext H1 hE
  replace HW := Wd.hext HW hE
  replace HE := Lib.hid (HE.out.tr hE)
  clear hE
  refine (HM2_.out _ HE.out).mono ?_
  rintro e W11 ⟨rfl, hE⟩
  replace B5 := B5.ext hE
  replace B6 := B6.ext hE
  replace B9 := B9.ext hE
  replace B13 := B13.ext hE
  replace B15 := B15.ext hE
  replace H1 := SlS.hext H1 hE
  replace HW := Wd.hext HW hE
  replace HE := Lib.hid (HE.out.tr hE)
  clear hE
  obtain ⟨cB50, cB51, -, -⟩ := (B5.al (.cells #[.string b1, .string b2] 44)).e2
  obtain ⟨cB60, cB61, -, -⟩ := (B6.al (.cells #[.string b1, .string b2] 44)).e2
  obtain ⟨cB90, cB91, -, -⟩ := (B9.al (.cells #[.string b1, .string b2] 44)).e2
  obtain ⟨cB130, cB131, -, -⟩ := (B13.al (.cells #[.string b1, .string b2] 44)).e2
  obtain ⟨cB150, cB151, -, -⟩ := (B15.al (.cells #[.string b1, .string b2] 44)).e2
  go_wp2_with fail
  go_ret
  exact ⟨rfl, HE.out.al _⟩
set_option maxHeartbeats 16000000 in
set_option maxRecDepth 400000 in
theorem cont_yes10 (v : Value) (l : List ByteArray) (s t u y x : ByteArray) (w : World) (hW : Wd w) (h1 : SlS w v l) (z1 : s.size ≤ 140737488351232) (z2 : t.size ≤ 140737488351232) (z3 : u.size ≤ 140737488351232) (z4 : y.size ≤ 140737488351232) (hfew : (decide (x.size ≤ 20) && fewB l) = true) (hz : ¬ 60 < s.size + t.size + u.size + y.size) (a1 a2 : ByteArray) (hE1 : ∀ W, Ext w W → Calls Tryz.prog 39 #[v, .agg #[.string s, .string t]] W fun e w' => e = .returned (.tuple #[.agg #[.string a1, .string a2], .int .i64 0]) ∧ Ext W w')
    (hH1 : ∀ W, Ext w W → Calls Tryz.prog 45 #[.agg #[.string s, .string t], .string x] W fun e w' => e = .returned (.bool true) ∧ Ext W w')
    (e1 : ByteArray) (hV1 : ∀ W, Ext w W → Calls Tryz.prog 31 #[v, .string x] W fun e w' => e = .returned (.tuple #[.string e1, .int .i64 0]) ∧ Ext W w')
    (hH2 : ∀ W, Ext w W → Calls Tryz.prog 45 #[.agg #[.string a1, .string a2], .string e1] W fun e w' => e = .returned (.bool true) ∧ Ext W w')
    (hM1 : ∀ W, Ext w W → Calls Tryz.prog 46 #[.agg #[.string s, .string t], .agg #[.string u, .string y]] W fun e w' => e = .returned (.tuple #[.agg #[.string ⟨#[]⟩, .string ⟨#[]⟩], .bool false]) ∧ Ext W w') : Calls Tryz.prog 10 #[v, .agg #[.string s, .string t], .agg #[.string u, .string y], .string x] w fun e w' => e = .returned (.bool true) ∧ Ext w w' := by
  obtain ⟨A1, c1, rfl⟩ := h1.slc
  have HW := Lib.hid hW
  have HE := Lib.hid (Ext.rfl' w)
  have H1 := Lib.hid h1
  clear hW h1
  have hz2 : ¬ (60 : Int) < (s.size : Int) + (t.size : Int) + (u.size : Int) + (y.size : Int) := by omega
  have HE1_ := Lib.hid hE1
  have HH1_ := Lib.hid hH1
  have HV1_ := Lib.hid hV1
  have HH2_ := Lib.hid hH2
  have HM1_ := Lib.hid hM1
  clear hE1 hH1 hV1 hH2 hM1
  obtain ⟨B5, B6, hE⟩ := boxes2 w #[.string s, .string t] #[.string u, .string y] 44
  go_enter Tryz.func10, Tryz.ntmps10
  go_wp2_with fail
  generalize (w.alloc (.cells #[.string s, .string t] 44)).alloc (.cells #[.string u, .string y] 44) = W0 at *
  replace H1 := SlS.hext H1 hE
  replace HW := Wd.hext HW hE
  replace HE := Lib.hid (HE.out.tr hE)
  clear hE
  refine (awake_v _ HW.out).mono ?_
  rintro e W1 ⟨rfl, hE⟩
  replace B5 := B5.ext hE
  replace B6 := B6.ext hE
  replace H1 := SlS.hext H1 hE
  replace HW := Wd.hext HW hE
  replace HE := Lib.hid (HE.out.tr hE)
  clear hE
  go_wp2_with fail
  have hF := few1 x W1 (.slice A1 l.length c1) l 25 H1.out
  rw [hfew] at hF
  have hE := (Ext.rfl' W1).al (.cells #[(.slice A1 l.length c1)] 25)
  generalize hWn : W1.alloc (.cells #[(.slice A1 l.length c1)] 25) = W2 at *
  clear hWn
  replace B5 := B5.ext hE
  replace B6 := B6.ext hE
  replace H1 := SlS.hext H1 hE
  replace HW := Wd.hext HW hE
  replace HE := Lib.hid (HE.out.tr hE)
  clear hE
  refine (hF).mono ?_
  rintro e W3 ⟨rfl, hE⟩
  replace B5 := B5.ext hE
  replace B6 := B6.ext hE
  replace H1 := SlS.hext H1 hE
  replace HW := Wd.hext HW hE
  replace HE := Lib.hid (HE.out.tr hE)
  clear hE
  clear hF
  obtain ⟨cB50, cB51, -, -⟩ := B5.e2
  obtain ⟨cB60, cB61, -, -⟩ := B6.e2
  go_wp2_with fail
  clear cB50 cB51 cB60 cB61
  refine (HE1_.out _ HE.out).mono ?_
  rintro e W4 ⟨rfl, hE⟩
  replace B5 := B5.ext hE
  replace B6 := B6.ext hE
  replace H1 := SlS.hext H1 hE
  replace HW := Wd.hext HW hE
  replace HE := Lib.hid (HE.out.tr hE)
  clear hE
  obtain ⟨cB50, cB51, -, -⟩ := (B5.al (.cells #[.string a1, .string a2] 44)).e2
  obtain ⟨cB60, cB61, -, -⟩ := (B6.al (.cells #[.string a1, .string a2] 44)).e2
  go_wp2_with fail
  clear cB50 cB51 cB60 cB61
  have B9 := Bx.new W4 #[.string a1, .string a2] 44
  have hE := (Ext.rfl' W4).al (.cells #[.string a1, .string a2] 44)
  generalize hWn : W4.alloc (.cells #[.string a1, .string a2] 44) = W5 at *
  clear hWn
  generalize hs3 : W4.heap.size = gB9 at *
  clear hs3
  replace B5 := B5.ext hE
  replace B6 := B6.ext hE
  replace H1 := SlS.hext H1 hE
  replace HW := Wd.hext HW hE
  replace HE := Lib.hid (HE.out.tr hE)
  clear hE
  refine (HH1_.out _ HE.out).mono ?_
  rintro e W6 ⟨rfl, hE⟩
  replace B5 := B5.ext hE
  replace B6 := B6.ext hE
  replace B9 := B9.ext hE
  replace H1 := SlS.hext H1 hE
  replace HW := Wd.hext HW hE
  replace HE := Lib.hid (HE.out.tr hE)
  clear hE
  obtain ⟨cB50, cB51, -, -⟩ := B5.e2
  obtain ⟨cB60, cB61, -, -⟩ := B6.e2
  obtain ⟨cB90, cB91, -, -⟩ := B9.e2
  go_wp2_with fail
  clear cB50 cB51 cB60 cB61 cB90 cB91
  refine (HV1_.out _ HE.out).mono ?_
  rintro e W7 ⟨rfl, hE⟩
  replace B5 := B5.ext hE
  replace B6 := B6.ext hE
  replace B9 := B9.ext hE
  replace H1 := SlS.hext H1 hE
  replace HW := Wd.hext HW hE
  replace HE := Lib.hid (HE.out.tr hE)
  clear hE
  obtain ⟨cB50, cB51, -, -⟩ := B5.e2
  obtain ⟨cB60, cB61, -, -⟩ := B6.e2
  obtain ⟨cB90, cB91, -, -⟩ := B9.e2
  go_wp2_with fail
  clear cB50 cB51 cB60 cB61 cB90 cB91
  refine (HH2_.out _ HE.out).mono ?_
  rintro e W8 ⟨rfl, hE⟩
  replace B5 := B5.ext hE
  replace B6 := B6.ext hE
  replace B9 := B9.ext hE
  replace H1 := SlS.hext H1 hE
  replace HW := Wd.hext HW hE
  replace HE := Lib.hid (HE.out.tr hE)
  clear hE
  obtain ⟨cB50, cB51, -, -⟩ := B5.e2
  obtain ⟨cB60, cB61, -, -⟩ := B6.e2
  obtain ⟨cB90, cB91, -, -⟩ := B9.e2
  go_wp2_with fail
  clear cB50 cB51 cB60 cB61 cB90 cB91
  refine (HM1_.out _ HE.out).mono ?_
  rintro e W9 ⟨rfl, hE⟩
  replace B5 := B5.ext hE
  replace B6 := B6.ext hE
  replace B9 := B9.ext hE
  replace H1 := SlS.hext H1 hE
  replace HW := Wd.hext HW hE
  replace HE := Lib.hid (HE.out.tr hE)
  clear hE
  go_wp2_with fail
  go_ret
  exact ⟨rfl, HE.out.al _⟩
set_option maxHeartbeats 16000000 in
set_option maxRecDepth 400000 in
theorem cont_yes11 (v : Value) (l : List ByteArray) (s t u y x : ByteArray) (w : World) (hW : Wd w) (h1 : SlS w v l) (z1 : s.size ≤ 140737488351232) (z2 : t.size ≤ 140737488351232) (z3 : u.size ≤ 140737488351232) (z4 : y.size ≤ 140737488351232) (hfew : (decide (x.size ≤ 20) && fewB l) = true) (hz : ¬ 60 < s.size + t.size + u.size + y.size) (a1 a2 : ByteArray) (hE1 : ∀ W, Ext w W → Calls Tryz.prog 39 #[v, .agg #[.string s, .string t]] W fun e w' => e = .returned (.tuple #[.agg #[.string a1, .string a2], .int .i64 0]) ∧ Ext W w')
    (hH1 : ∀ W, Ext w W → Calls Tryz.prog 45 #[.agg #[.string s, .string t], .string x] W fun e w' => e = .returned (.bool true) ∧ Ext W w')
    (e1 : ByteArray) (hV1 : ∀ W, Ext w W → Calls Tryz.prog 31 #[v, .string x] W fun e w' => e = .returned (.tuple #[.string e1, .int .i64 0]) ∧ Ext W w')
    (hH2 : ∀ W, Ext w W → Calls Tryz.prog 45 #[.agg #[.string a1, .string a2], .string e1] W fun e w' => e = .returned (.bool true) ∧ Ext W w')
    (n1 n2 b1 b2 : ByteArray) (hM1 : ∀ W, Ext w W → Calls Tryz.prog 46 #[.agg #[.string s, .string t], .agg #[.string u, .string y]] W fun e w' => e = .returned (.tuple #[.agg #[.string n1, .string n2], .bool true]) ∧ Ext W w')
    (hE2 : ∀ W, Ext w W → Calls Tryz.prog 39 #[v, .agg #[.string n1, .string n2]] W fun e w' => e = .returned (.tuple #[.agg #[.string b1, .string b2], .int .i64 0]) ∧ Ext W w')
    (hM2 : ∀ W, Ext w W → Calls Tryz.prog 46 #[.agg #[.string a1, .string a2], .agg #[.string b1, .string b2]] W fun e w' => e = .returned (.tuple #[.agg #[.string b1, .string b2], .bool true]) ∧ Ext W w') : Calls Tryz.prog 10 #[v, .agg #[.string s, .string t], .agg #[.string u, .string y], .string x] w fun e w' => e = .returned (.bool true) ∧ Ext w w' := by
  obtain ⟨A1, c1, rfl⟩ := h1.slc
  have HW := Lib.hid hW
  have HE := Lib.hid (Ext.rfl' w)
  have H1 := Lib.hid h1
  clear hW h1
  have hz2 : ¬ (60 : Int) < (s.size : Int) + (t.size : Int) + (u.size : Int) + (y.size : Int) := by omega
  have HE1_ := Lib.hid hE1
  have HH1_ := Lib.hid hH1
  have HV1_ := Lib.hid hV1
  have HH2_ := Lib.hid hH2
  have HM1_ := Lib.hid hM1
  have HE2_ := Lib.hid hE2
  have HM2_ := Lib.hid hM2
  clear hE1 hH1 hV1 hH2 hM1 hE2 hM2
  obtain ⟨B5, B6, hE⟩ := boxes2 w #[.string s, .string t] #[.string u, .string y] 44
  go_enter Tryz.func10, Tryz.ntmps10
  go_wp2_with fail
  generalize (w.alloc (.cells #[.string s, .string t] 44)).alloc (.cells #[.string u, .string y] 44) = W0 at *
  replace H1 := SlS.hext H1 hE
  replace HW := Wd.hext HW hE
  replace HE := Lib.hid (HE.out.tr hE)
  clear hE
  refine (awake_v _ HW.out).mono ?_
  rintro e W1 ⟨rfl, hE⟩
  replace B5 := B5.ext hE
  replace B6 := B6.ext hE
  replace H1 := SlS.hext H1 hE
  replace HW := Wd.hext HW hE
  replace HE := Lib.hid (HE.out.tr hE)
  clear hE
  go_wp2_with fail
  have hF := few1 x W1 (.slice A1 l.length c1) l 25 H1.out
  rw [hfew] at hF
  have hE := (Ext.rfl' W1).al (.cells #[(.slice A1 l.length c1)] 25)
  generalize hWn : W1.alloc (.cells #[(.slice A1 l.length c1)] 25) = W2 at *
  clear hWn
  replace B5 := B5.ext hE
  replace B6 := B6.ext hE
  replace H1 := SlS.hext H1 hE
  replace HW := Wd.hext HW hE
  replace HE := Lib.hid (HE.out.tr hE)
  clear hE
  refine (hF).mono ?_
  rintro e W3 ⟨rfl, hE⟩
  replace B5 := B5.ext hE
  replace B6 := B6.ext hE
  replace H1 := SlS.hext H1 hE
  replace HW := Wd.hext HW hE
  replace HE := Lib.hid (HE.out.tr hE)
  clear hE
  clear hF
  obtain ⟨cB50, cB51, -, -⟩ := B5.e2
  obtain ⟨cB60, cB61, -, -⟩ := B6.e2
  go_wp2_with fail
  clear cB50 cB51 cB60 cB61
  refine (HE1_.out _ HE.out).mono ?_
  rintro e W4 ⟨rfl, hE⟩
  replace B5 := B5.ext hE
  replace B6 := B6.ext hE
  replace H1 := SlS.hext H1 hE
  replace HW := Wd.hext HW hE
  replace HE := Lib.hid (HE.out.tr hE)
  clear hE
  obtain ⟨cB50, cB51, -, -⟩ := (B5.al (.cells #[.string a1, .string a2] 44)).e2
  obtain ⟨cB60, cB61, -, -⟩ := (B6.al (.cells #[.string a1, .string a2] 44)).e2
  go_wp2_with fail
  clear cB50 cB51 cB60 cB61
  have B9 := Bx.new W4 #[.string a1, .string a2] 44
  have hE := (Ext.rfl' W4).al (.cells #[.string a1, .string a2] 44)
  generalize hWn : W4.alloc (.cells #[.string a1, .string a2] 44) = W5 at *
  clear hWn
  generalize hs3 : W4.heap.size = gB9 at *
  clear hs3
  replace B5 := B5.ext hE
  replace B6 := B6.ext hE
  replace H1 := SlS.hext H1 hE
  replace HW := Wd.hext HW hE
  replace HE := Lib.hid (HE.out.tr hE)
  clear hE
  refine (HH1_.out _ HE.out).mono ?_
  rintro e W6 ⟨rfl, hE⟩
  replace B5 := B5.ext hE
  replace B6 := B6.ext hE
  replace B9 := B9.ext hE
  replace H1 := SlS.hext H1 hE
  replace HW := Wd.hext HW hE
  replace HE := Lib.hid (HE.out.tr hE)
  clear hE
  obtain ⟨cB50, cB51, -, -⟩ := B5.e2
  obtain ⟨cB60, cB61, -, -⟩ := B6.e2
  obtain ⟨cB90, cB91, -, -⟩ := B9.e2
  go_wp2_with fail
  clear cB50 cB51 cB60 cB61 cB90 cB91
  refine (HV1_.out _ HE.out).mono ?_
  rintro e W7 ⟨rfl, hE⟩
  replace B5 := B5.ext hE
  replace B6 := B6.ext hE
  replace B9 := B9.ext hE
  replace H1 := SlS.hext H1 hE
  replace HW := Wd.hext HW hE
  replace HE := Lib.hid (HE.out.tr hE)
  clear hE
  obtain ⟨cB50, cB51, -, -⟩ := B5.e2
  obtain ⟨cB60, cB61, -, -⟩ := B6.e2
  obtain ⟨cB90, cB91, -, -⟩ := B9.e2
  go_wp2_with fail
  clear cB50 cB51 cB60 cB61 cB90 cB91
  refine (HH2_.out _ HE.out).mono ?_
  rintro e W8 ⟨rfl, hE⟩
  replace B5 := B5.ext hE
  replace B6 := B6.ext hE
  replace B9 := B9.ext hE
  replace H1 := SlS.hext H1 hE
  replace HW := Wd.hext HW hE
  replace HE := Lib.hid (HE.out.tr hE)
  clear hE
  obtain ⟨cB50, cB51, -, -⟩ := B5.e2
  obtain ⟨cB60, cB61, -, -⟩ := B6.e2
  obtain ⟨cB90, cB91, -, -⟩ := B9.e2
  go_wp2_with fail
  clear cB50 cB51 cB60 cB61 cB90 cB91
  refine (HM1_.out _ HE.out).mono ?_
  rintro e W9 ⟨rfl, hE⟩
  replace B5 := B5.ext hE
  replace B6 := B6.ext hE
  replace B9 := B9.ext hE
  replace H1 := SlS.hext H1 hE
  replace HW := Wd.hext HW hE
  replace HE := Lib.hid (HE.out.tr hE)
  clear hE
  obtain ⟨cB50, cB51, -, -⟩ := (B5.al (.cells #[.string n1, .string n2] 44)).e2
  obtain ⟨cB60, cB61, -, -⟩ := (B6.al (.cells #[.string n1, .string n2] 44)).e2
  obtain ⟨cB90, cB91, -, -⟩ := (B9.al (.cells #[.string n1, .string n2] 44)).e2
  go_wp2_with fail
  clear cB50 cB51 cB60 cB61 cB90 cB91
  have B13 := Bx.new W9 #[.string n1, .string n2] 44
  have hE := (Ext.rfl' W9).al (.cells #[.string n1, .string n2] 44)
  generalize hWn : W9.alloc (.cells #[.string n1, .string n2] 44) = W10 at *
  clear hWn
  generalize hs3 : W9.heap.size = gB13 at *
  clear hs3
  replace B5 := B5.ext hE
  replace B6 := B6.ext hE
  replace B9 := B9.ext hE
  replace H1 := SlS.hext H1 hE
  replace HW := Wd.hext HW hE
  replace HE := Lib.hid (HE.out.tr hE)
  clear hE
  refine (HE2_.out _ HE.out).mono ?_
  rintro e W11 ⟨rfl, hE⟩
  replace B5 := B5.ext hE
  replace B6 := B6.ext hE
  replace B9 := B9.ext hE
  replace B13 := B13.ext hE
  replace H1 := SlS.hext H1 hE
  replace HW := Wd.hext HW hE
  replace HE := Lib.hid (HE.out.tr hE)
  clear hE
  obtain ⟨cB50, cB51, -, -⟩ := (B5.al (.cells #[.string b1, .string b2] 44)).e2
  obtain ⟨cB60, cB61, -, -⟩ := (B6.al (.cells #[.string b1, .string b2] 44)).e2
  obtain ⟨cB90, cB91, -, -⟩ := (B9.al (.cells #[.string b1, .string b2] 44)).e2
  obtain ⟨cB130, cB131, -, -⟩ := (B13.al (.cells #[.string b1, .string b2] 44)).e2
  go_wp2_with fail
  clear cB50 cB51 cB60 cB61 cB90 cB91 cB130 cB131
  have B15 := Bx.new W11 #[.string b1, .string b2] 44
  have hE := (Ext.rfl' W11).al (.cells #[.string b1, .string b2] 44)
  generalize hWn : W11.alloc (.cells #[.string b1, .string b2] 44) = W12 at *
  clear hWn
  generalize hs3 : W11.heap.size = gB15 at *
  clear hs3
  replace B5 := B5.ext hE
  replace B6 := B6.ext hE
  replace B9 := B9.ext hE
  replace B13 := B13.ext hE
  replace H1 := SlS.hext H1 hE
  replace HW := Wd.hext HW hE
  replace HE := Lib.hid (HE.out.tr hE)
  clear hE
  refine (HM2_.out _ HE.out).mono ?_
  rintro e W13 ⟨rfl, hE⟩
  replace B5 := B5.ext hE
  replace B6 := B6.ext hE
  replace B9 := B9.ext hE
  replace B13 := B13.ext hE
  replace B15 := B15.ext hE
  replace H1 := SlS.hext H1 hE
  replace HW := Wd.hext HW hE
  replace HE := Lib.hid (HE.out.tr hE)
  clear hE
  obtain ⟨cB50, cB51, -, -⟩ := (B5.al (.cells #[.string b1, .string b2] 44)).e2
  obtain ⟨cB60, cB61, -, -⟩ := (B6.al (.cells #[.string b1, .string b2] 44)).e2
  obtain ⟨cB90, cB91, -, -⟩ := (B9.al (.cells #[.string b1, .string b2] 44)).e2
  obtain ⟨cB130, cB131, -, -⟩ := (B13.al (.cells #[.string b1, .string b2] 44)).e2
  obtain ⟨cB150, cB151, -, -⟩ := (B15.al (.cells #[.string b1, .string b2] 44)).e2
  go_wp2_with fail
  go_ret
  exact ⟨rfl, HE.out.al _⟩
theorem cont_v (v : Value) (l : List ByteArray) (s t u y x : ByteArray) (w : World) (hW : Wd w) (h1 : SlS w v l) (z1 : s.size ≤ 140737488351232) (z2 : t.size ≤ 140737488351232) (z3 : u.size ≤ 140737488351232) (z4 : y.size ≤ 140737488351232) : Calls Tryz.prog 10 #[v, .agg #[.string s, .string t], .agg #[.string u, .string y], .string x] w fun e w' => e = .returned (.bool true) ∧ Ext w w' := by
  cases hf : (decide (x.size ≤ 20) && fewB l)
  · exact cont_few v l s t u y x w hW h1 z1 z2 z3 z4 hf
  · by_cases hz : 60 < s.size + t.size + u.size + y.size
    · exact cont_long v l s t u y x w hW h1 z1 z2 z3 z4 hf hz
    · have hf2 := hf
      rw [Bool.and_eq_true, decide_eq_true_eq] at hf2
      obtain ⟨hx, hfl⟩ := hf2
      cases hb : (polB l && ivB s t)
      · exact cont_no v l s t u y x w hW h1 z1 z2 z3 z4 hf hz (sb_few hfl) hb
      · rw [Bool.and_eq_true] at hb
        obtain ⟨p, rfl, tp, lp⟩ := (polB_iff l).1 hb.1
        obtain ⟨I1, I2, rfl, rfl, hle⟩ := ivB_yes hb.2
        have hp : ∀ W, Ext w W → PO W v p 48 := fun W hE => po_of (h1.ext hE) tp lp (fewB_txt hfl)
        have bp := (hp w (Ext.rfl' w)).2.1
        have b1 : Bd I1 240 := bd_size I1 60 (by omega)
        have b2 : Bd I2 240 := bd_size I2 60 (by omega)
        have d1 := b1.mono (show 240 ≤ 40000 by decide)
        have d2 := b2.mono (show 240 ≤ 40000 by decide)
        have bc := penc_40 bp lp b1 b2
        have hc := penc_le (I1, I2) p
        have hE1 := fun W (hE : Ext w W) => Enclose_yes v p I1 I2 W (hW.ext hE) (hp W hE) b1 b2 hle
        -- the number
        have hN : (∀ W, Ext w W → Calls Tryz.prog 45 #[.agg #[.string (rb I1), .string (rb I2)], .string x] W fun e w' => e = .returned (.bool false) ∧ Ext W w') ∨ ((∀ W, Ext w W → Calls Tryz.prog 45 #[.agg #[.string (rb I1), .string (rb I2)], .string x] W fun e w' => e = .returned (.bool true) ∧ Ext W w') ∧ ∃ X, x = rb X ∧ I1 ≤ X ∧ X ≤ I2) := by
          cases hr : ratB x.data.toList
          · exact .inl fun W hE => has_no I1 I2 x W (hW.ext hE) d1 d2 hle (by omega) hr
          · obtain ⟨X, hX⟩ := ratB_t hr
            obtain rfl : x = rb X := list_of hX
            have bX := (bd_size X 20 hx).mono (show 4 * 20 ≤ 40000 by decide)
            by_cases hin : I1 ≤ X ∧ X ≤ I2
            · exact .inr ⟨fun W hE => by have h := has_q I1 I2 X W (hW.ext hE) d1 d2 bX hle; rwa [decide_eq_true hin] at h, X, rfl, hin⟩
            · exact .inl fun W hE => by have h := has_q I1 I2 X W (hW.ext hE) d1 d2 bX hle; rwa [decide_eq_false hin] at h
        -- the common part
        have hM : (∀ W, Ext w W → Calls Tryz.prog 46 #[.agg #[.string (rb I1), .string (rb I2)], .agg #[.string u, .string y]] W fun e w' => e = .returned (.tuple #[.agg #[.string ⟨#[]⟩, .string ⟨#[]⟩], .bool false]) ∧ Ext W w') ∨ (∃ n : Rat × Rat, (∀ W, Ext w W → Calls Tryz.prog 46 #[.agg #[.string (rb I1), .string (rb I2)], .agg #[.string u, .string y]] W fun e w' => e = .returned (.tuple #[.agg #[.string (rb n.1), .string (rb n.2)], .bool true]) ∧ Ext W w') ∧ I1 ≤ n.1 ∧ n.1 ≤ n.2 ∧ n.2 ≤ I2 ∧ Bd n.1 240 ∧ Bd n.2 240) := by
          cases hi : ivB u y
          · exact .inl fun W hE => meet_bad I1 I2 u y W (hW.ext hE) d1 d2 hle (by omega) (by omega) hi
          · obtain ⟨J1, J2, rfl, rfl, hJ⟩ := ivB_yes hi
            have b3 : Bd J1 240 := bd_size J1 60 (by omega)
            have b4 : Bd J2 240 := bd_size J2 60 (by omega)
            have d3 := b3.mono (show 240 ≤ 40000 by decide)
            have d4 := b4.mono (show 240 ≤ 40000 by decide)
            by_cases c : I2 < J1 ∨ J2 < I1
            · exact .inl fun W hE => meet_out I1 I2 J1 J2 W (hW.ext hE) d1 d2 d3 d4 hle hJ c
            · have c1 : J1 ≤ I2 := Rat.not_lt.1 fun h => c (.inl h)
              have c2 : I1 ≤ J2 := Rat.not_lt.1 fun h => c (.inr h)
              have hs := meetR_sub (I := (I1, I2)) (J := (J1, J2)) hle hJ c1 c2
              have hd := meetR_bd (I := (I1, I2)) (J := (J1, J2)) b1 b2 b3 b4
              exact .inr ⟨meetR (I1, I2) (J1, J2), fun W hE => meet_in I1 I2 J1 J2 W (hW.ext hE) d1 d2 d3 d4 hle hJ c1 c2, hs.1, hs.2.1, hs.2.2, hd.1, hd.2⟩
        rcases hN with hN | ⟨hN, X, rfl, hX1, hX2⟩
        · rcases hM with hM | ⟨n, hM, n1, n2, n3, q1, q2⟩
          · exact cont_yes00 v _ _ _ u y x w hW h1 z1 z2 z3 z4 hf hz _ _ hE1 hN hM
          · have hs := penc_sub (I1, I2) n p n1 n2 n3
            have bn := penc_40 bp lp q1 q2
            exact cont_yes01 v _ _ _ u y x w hW h1 z1 z2 z3 z4 hf hz _ _ hE1 hN _ _ _ _ hM (fun W hE => Enclose_yes v p n.1 n.2 W (hW.ext hE) (hp W hE) q1 q2 n2)
              (fun W hE => by
                have h := meet_in (penc (I1, I2) p).1 (penc (I1, I2) p).2 (penc n p).1 (penc n p).2 W (hW.ext hE) bc.1 bc.2 bn.1 bn.2 hc (penc_le n p) (rle_trans (penc_le n p) hs.2) (rle_trans hs.1 (penc_le n p))
                rw [show meetR ((penc (I1, I2) p).1, (penc (I1, I2) p).2) ((penc n p).1, (penc n p).2) = penc n p from meetR_in hs.1 hs.2] at h
                exact h)
        · have bX : Bd X 80 := (bd_size X 20 hx)
          have hV1 := fun W (hE : Ext w W) => Eval_p v p 48 W (hW.ext hE) (hp W hE) X 80 bX (by have := kk32; omega)
          have hH2 := fun W (hE : Ext w W) => by
            have h := has_q (penc (I1, I2) p).1 (penc (I1, I2) p).2 (pev p X) W (hW.ext hE) bc.1 bc.2 ((pev_le bp bX lp).mono (by decide)) hc
            rw [decide_eq_true (penc_in (I1, I2) p X ⟨hX1, hX2⟩)] at h
            exact h
          rcases hM with hM | ⟨n, hM, n1, n2, n3, q1, q2⟩
          · exact cont_yes10 v _ _ _ u y _ w hW h1 z1 z2 z3 z4 hf hz _ _ hE1 hN _ hV1 hH2 hM
          · have hs := penc_sub (I1, I2) n p n1 n2 n3
            have bn := penc_40 bp lp q1 q2
            exact cont_yes11 v _ _ _ u y _ w hW h1 z1 z2 z3 z4 hf hz _ _ hE1 hN _ hV1 hH2 _ _ _ _ hM (fun W hE => Enclose_yes v p n.1 n.2 W (hW.ext hE) (hp W hE) q1 q2 n2)
              (fun W hE => by
                have h := meet_in (penc (I1, I2) p).1 (penc (I1, I2) p).2 (penc n p).1 (penc n p).2 W (hW.ext hE) bc.1 bc.2 bn.1 bn.2 hc (penc_le n p) (rle_trans (penc_le n p) hs.2) (rle_trans hs.1 (penc_le n p))
                rw [show meetR ((penc (I1, I2) p).1, (penc (I1, I2) p).2) ((penc n p).1, (penc n p).2) = penc n p from meetR_in hs.1 hs.2] at h
                exact h)
end Go.Proofs.YtbldlibijojbjaaGreatDoor.GB
