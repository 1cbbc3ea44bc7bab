import Derived.Test.YtbldlibijojbjaaGreatDoorMRi
namespace Go.Proofs.YtbldlibijojbjaaGreatDoor.GB
set_option linter.unusedVariables false
set_option linter.unusedSimpArgs false
open Go.RowKit Go.Shelf
attribute [local go_sem ↓] Go.wp_at_zero Go.wp_at_succ
theorem SlN.hext {w w' : World} {v : Value} {n : Nat} (h : Hid (SlN w v n)) (hE : Ext w w') : Hid (SlN w' v n) := SlN.ext h.out hE
theorem ZV.hext {w w' : World} {v : Value} {z : Int} (h : Hid (ZV w v z)) (hE : Ext w w') : Hid (ZV w' v z) := ZV.ext h.out hE
theorem QV.hext {w w' : World} {v : Value} {q : Rat} (h : Hid (QV w v q)) (hE : Ext w w') : Hid (QV w' v q) := QV.ext h.out hE
theorem Bx.hext {w w' : World} {b : Nat} {cs : Array Value} {T : TypeId} (h : Hid (Bx w b cs T)) (hE : Ext w w') : Hid (Bx w' b cs T) := h.out.ext hE
theorem cell_hext {w w' : World} {b o : Nat} {v : Value} (h : Hid (w.cell? ⟨b, o, none⟩ = some v)) (hE : Ext w w') : Hid (w'.cell? ⟨b, o, none⟩ = some v) := hE.cell h.out
theorem OverC.ext {M : Nat} {w w' : World} (h : OverC M w) (hE : Ext w w') : OverC M w' := fun W v1 v2 a b e => h W v1 v2 a b (hE.tr e)
theorem OverC.hext {M : Nat} {w w' : World} (h : Hid (OverC M w)) (hE : Ext w w') : Hid (OverC M w') := OverC.ext h.out hE
theorem z2Valid_e (s : ByteArray) (b : Bool) (w : World) (hs : s.size ≤ 1099511627776) (hb : intB s.data.toList = b) :
    Calls Tryz.prog 105 #[.string s] w fun e w' => e = .returned (.bool b) ∧ Ext w w' :=
  (z2Valid_any s w hs).mono fun e w' h => ⟨by rw [← hb]; exact h.1, h.2 ▸ Ext.rfl' _⟩
theorem zValid_e (s : ByteArray) (b : Bool) (w : World) (hs : s.size ≤ 1099511627776) (hb : canB s.data.toList = b) :
    Calls Tryz.prog 106 #[.string s] w fun e w' => e = .returned (.bool b) ∧ Ext w w' :=
  (zValid_any s w (by omega)).mono fun e w' h => ⟨by rw [← hb]; exact h.1, h.2 ▸ Ext.rfl' _⟩
theorem zCmp_v (v1 v2 : Value) (a b : Nat) (w : World) (h1 : SlN w v1 a) (h2 : SlN w v2 b) (hla : (wds a).length ≤ 1099511627776) (hlb : (wds b).length ≤ 1099511627776) :
    Calls Tryz.prog 110 #[v1, v2] w fun e w' => e = .returned (.int .i64 (cmpZ a b)) ∧ Ext w w' := by
  obtain ⟨A, ca, rfl⟩ := SlN.slc h1
  obtain ⟨B, cb, rfl⟩ := SlN.slc h2
  exact zCmp_any A B ca cb _ _ a b w rfl rfl hla hlb (SlN.rd h1).2 (SlN.rd h2).2
theorem sz_mk (p : List UInt8) : (⟨p.toArray⟩ : ByteArray).size = p.length := by show p.toArray.size = _; simp
theorem tl_mk (p : List UInt8) : (⟨p.toArray⟩ : ByteArray).data.toList = p := rfl
theorem v2_txt (p : List UInt8) (b : Bool) (w : World) (hs : p.length ≤ 1000000) (hb : intB p = b) :
    Calls Tryz.prog 105 #[.string ⟨p.toArray⟩] w fun e w' => e = .returned (.bool b) ∧ Ext w w' :=
  z2Valid_e ⟨p.toArray⟩ b w (by rw [sz_mk]; omega) (by rw [tl_mk]; exact hb)
theorem v1_txt (p : List UInt8) (b : Bool) (w : World) (hs : p.length ≤ 1000000) (hb : canB p = b) :
    Calls Tryz.prog 106 #[.string ⟨p.toArray⟩] w fun e w' => e = .returned (.bool b) ∧ Ext w w' :=
  zValid_e ⟨p.toArray⟩ b w (by rw [sz_mk]; omega) (by rw [tl_mk]; exact hb)
theorem read_txt (p : List UInt8) (z : Int) (w : World) (hp : p = Lib.itoa z) (hl : p.length ≤ 1099511627776) :
    Calls Tryz.prog 107 #[.string ⟨p.toArray⟩] w fun e w' => ∃ v, e = .returned v ∧ ZV w' v z ∧ Ext w w' :=
  z2Read_any ⟨p.toArray⟩ z w hp (by show p.toArray.size ≤ _; simpa using hl)
theorem from_txt (d : List UInt8) (n : Nat) (w : World) (hd : d = Lib.decDigits n) (hl : d.length ≤ 1099511627776) :
    Calls Tryz.prog 108 #[.string ⟨d.toArray⟩] w fun e w' => ∃ v, e = .returned v ∧ SlN w' v n ∧ Ext w w' :=
  zFrom_any ⟨d.toArray⟩ w n hd (by show d.toArray.size ≤ _; simpa using hl)
theorem c49 : canB ((⟨#[49]⟩ : ByteArray).data.toList) = true := by decide
theorem s49 : (⟨#[49]⟩ : ByteArray).size ≤ 1099511627776 := by
  have h : (⟨#[49]⟩ : ByteArray).size = 1 := rfl
  rw [h]; omega
theorem val49 (w : World) : Calls Tryz.prog 106 #[.string ⟨#[49]⟩] w fun e w' => e = .returned (.bool true) ∧ Ext w w' :=
  (zValid_any ⟨#[49]⟩ w (Nat.le_trans s49 (by omega))).mono fun e w' h => ⟨by rw [← c49]; exact h.1, h.2 ▸ Ext.rfl' _⟩
theorem dec1 : Lib.decDigits 1 = [49] := by rw [Lib.decDigits]; rfl
theorem from49 (w : World) : Calls Tryz.prog 108 #[.string ⟨#[49]⟩] w fun e w' => ∃ v, e = .returned v ∧ SlN w' v 1 ∧ Ext w w' :=
  zFrom_any ⟨#[49]⟩ w 1 (by rw [dec1]) s49
theorem len1 : (wds 1).length ≤ 1099511627776 := by
  have h : wds 1 = [1] := by rw [wds_pos (by decide), show 1 / BB = 0 by decide, wds_zero]; rfl
  rw [h]
  have h2 : ([1] : List Nat).length = 1 := rfl
  rw [h2]; omega
set_option maxHeartbeats 8000000 in
set_option maxRecDepth 200000 in
theorem from_m0 (s : ByteArray) (w : World) (hs : s.size ≤ 1000000) (h47 : 47 ∉ s.data.toList) (hb : intB s.data.toList = false) :
    Calls Tryz.prog 71 #[.string s] w fun e w' => ∃ v, e = .returned (.tuple #[v, .bool false]) ∧ QV w' v (((0 : Int) : Rat)) ∧ Ext w w' := by
  have HE := Lib.hid (Ext.rfl' w)
  go_enter Tryz.func71, Tryz.ntmps71
  go_wp2_with fail
  have HB1 := Lib.hid (Bx.new w #[.bool false, .slice none 0 0, .slice none 0 0] 86)
  have hE := (Ext.rfl' w).al (.cells #[.bool false, .slice none 0 0, .slice none 0 0] 86)
  generalize hWn : w.alloc (.cells #[.bool false, .slice none 0 0, .slice none 0 0] 86) = W0 at *
  clear hWn
  replace HE := Lib.hid (HE.out.tr hE)
  clear hE
  refine (split_miss s _ (by omega) h47).mono ?_
  rintro e W1 ⟨rfl, hE⟩
  replace HB1 := Bx.hext HB1 hE
  replace HE := Lib.hid (HE.out.tr hE)
  clear hE
  go_wp2_with fail
  refine (z2Valid_e s false _ (by omega) hb).mono ?_
  rintro e W2 ⟨rfl, hE⟩
  replace HB1 := Bx.hext HB1 hE
  replace HE := Lib.hid (HE.out.tr hE)
  clear hE
  go_wp2_with fail
  refine (q3Int_any 0 _ (by decide) (by decide)).mono ?_
  rintro e W3 ⟨v, rfl, hq, hE⟩
  have HQ := Lib.hid hq
  clear hq
  replace HB1 := Bx.hext HB1 hE
  replace HE := Lib.hid (HE.out.tr hE)
  clear hE
  obtain ⟨b, A, la, ca, B, lb, cb, rfl, -, -, -⟩ := HQ.out.ex
  obtain ⟨d0, d1, d2⟩ := set3 HB1.out (.bool b) (.slice A la ca) (.slice B lb cb)
  have HE2 := Lib.hid (ext_set3 HE.out (Nat.le_refl _) (.bool b) (.slice A la ca) (.slice B lb cb))
  have HZ := Lib.hid (QV.off HQ.out HB1.out nou3 (size3 (.bool b) (.slice A la ca) (.slice B lb cb)) (keep3 (g := w.heap.size) (.bool b) (.slice A la ca) (.slice B lb cb)))
  have c0 : W3.cell? ⟨w.heap.size, 0, none⟩ = some (.bool false) := HB1.out.c 0
  have f0 := HB1.out.f 0
  have c1 : W3.cell? ⟨w.heap.size, 1, none⟩ = some (.slice none 0 0) := HB1.out.c 1
  have f1 := HB1.out.f 1
  have c2 : W3.cell? ⟨w.heap.size, 2, none⟩ = some (.slice none 0 0) := HB1.out.c 2
  have f2 := HB1.out.f 2
  clear HB1 HE HQ
  go_wp2_with fail
  refine bodyPost_ret (v := .tuple #[.agg #[.bool b, .slice A la ca, .slice B lb cb], .bool false]) ?_ rfl ⟨_, rfl, HZ.out, HE2.out⟩
  simp [results, Tryz.f71, go_sem, d0, d1, d2]
set_option maxHeartbeats 8000000 in
set_option maxRecDepth 200000 in
theorem from_m1 (s : ByteArray) (w : World) (hs : s.size ≤ 1000000) (h47 : 47 ∉ s.data.toList) (z : Int) (hz : s.data.toList = Lib.itoa z) (hb : intB s.data.toList = true) :
    Calls Tryz.prog 71 #[.string s] w fun e w' => ∃ v, e = .returned (.tuple #[v, .bool true]) ∧ QV w' v ((z : Rat)) ∧ Ext w w' := by
  have HZE := Lib.hid hz
  clear hz
  have HE := Lib.hid (Ext.rfl' w)
  go_enter Tryz.func71, Tryz.ntmps71
  go_wp2_with fail
  have HB1 := Lib.hid (Bx.new w #[.bool false, .slice none 0 0, .slice none 0 0] 86)
  have hE := (Ext.rfl' w).al (.cells #[.bool false, .slice none 0 0, .slice none 0 0] 86)
  generalize hWn : w.alloc (.cells #[.bool false, .slice none 0 0, .slice none 0 0] 86) = W0 at *
  clear hWn
  replace HE := Lib.hid (HE.out.tr hE)
  clear hE
  refine (split_miss s _ (by omega) h47).mono ?_
  rintro e W1 ⟨rfl, hE⟩
  replace HB1 := Bx.hext HB1 hE
  replace HE := Lib.hid (HE.out.tr hE)
  clear hE
  go_wp2_with fail
  refine (z2Valid_e s true _ (by omega) hb).mono ?_
  rintro e W2 ⟨rfl, hE⟩
  replace HB1 := Bx.hext HB1 hE
  replace HE := Lib.hid (HE.out.tr hE)
  clear hE
  go_wp2_with fail
  refine (val49 _).mono ?_
  rintro e W3 ⟨rfl, hE⟩
  replace HB1 := Bx.hext HB1 hE
  replace HE := Lib.hid (HE.out.tr hE)
  clear hE
  go_wp2_with fail
  refine (z2Read_any s z _ HZE.out (by omega)).mono ?_
  rintro e W4 ⟨v, rfl, hz1, hE⟩
  have HZ1 := Lib.hid hz1
  clear hz1
  replace HB1 := Bx.hext HB1 hE
  replace HE := Lib.hid (HE.out.tr hE)
  clear hE
  obtain ⟨b, A, la, ca, rfl, hb1, -⟩ := HZ1.out.ex
  have HBB := Lib.hid hb1
  clear hb1
  go_wp2_with fail
  refine (from49 _).mono ?_
  rintro e W5 ⟨v, rfl, hn1, hE⟩
  have HN1 := Lib.hid hn1
  clear hn1
  replace HB1 := Bx.hext HB1 hE
  replace HZ1 := ZV.hext HZ1 hE
  replace HE := Lib.hid (HE.out.tr hE)
  clear hE
  obtain ⟨B, cb, hv⟩ := SlN.slc HN1.out
  generalize (wds 1).length = lb at hv
  subst hv
  have HQ : Hid (QV W5 (.agg #[.bool b, .slice A la ca, .slice B lb cb]) (z : Rat)) := QV.mk' (HBB.out.trans (by rw [decide_eq_decide]; simp)) (by obtain ⟨vn, e, h⟩ := HZ1.out; simp at e; obtain ⟨-, e⟩ := e; rw [e]; simpa using h) (by simpa using HN1.out)
  have n1 : w.heap.size ≠ W5.heap.size := by have := HB1.out.lt; omega
  have n2 := n1.symm
  have hE : Ext W5 (W5.alloc (.cells #[.bool b, .slice A la ca, .slice B lb cb] 86)) := (Ext.rfl' W5).al _
  have B2 := HB1.out.ext hE
  have q2 := HQ.out.ext hE
  have c0 : W5.cell? ⟨w.heap.size, 0, none⟩ = some (.bool false) := HB1.out.c 0
  have e0 : (W5.alloc (.cells #[.bool b, .slice A la ca, .slice B lb cb] 86)).cell? ⟨w.heap.size, 0, none⟩ = some (.bool false) := B2.c 0
  have f0 := HB1.out.f 0
  have k0 := B2.f 0
  have c1 : W5.cell? ⟨w.heap.size, 1, none⟩ = some (.slice none 0 0) := HB1.out.c 1
  have e1 : (W5.alloc (.cells #[.bool b, .slice A la ca, .slice B lb cb] 86)).cell? ⟨w.heap.size, 1, none⟩ = some (.slice none 0 0) := B2.c 1
  have f1 := HB1.out.f 1
  have k1 := B2.f 1
  have c2 : W5.cell? ⟨w.heap.size, 2, none⟩ = some (.slice none 0 0) := HB1.out.c 2
  have e2 : (W5.alloc (.cells #[.bool b, .slice A la ca, .slice B lb cb] 86)).cell? ⟨w.heap.size, 2, none⟩ = some (.slice none 0 0) := B2.c 2
  have f2 := HB1.out.f 2
  have k2 := B2.f 2
  obtain ⟨d0, d1, d2⟩ := set3 B2 (.bool b) (.slice A la ca) (.slice B lb cb)
  have HE2 := Lib.hid (ext_set3 (HE.out.tr hE) (Nat.le_refl _) (.bool b) (.slice A la ca) (.slice B lb cb))
  have HZ := Lib.hid (QV.off q2 B2 nou3 (size3 (.bool b) (.slice A la ca) (.slice B lb cb)) (keep3 (g := w.heap.size) (.bool b) (.slice A la ca) (.slice B lb cb)))
  clear HB1 HE HQ hE B2 q2 HZ1 HN1
  go_wp2_with fail
  refine bodyPost_ret (v := .tuple #[.agg #[.bool b, .slice A la ca, .slice B lb cb], .bool true]) ?_ rfl ⟨_, rfl, HZ.out, HE2.out⟩
  simp [results, Tryz.f71, go_sem, d0, d1, d2]
set_option maxHeartbeats 8000000 in
set_option maxRecDepth 200000 in
theorem from_s0 (s : ByteArray) (w : World) (hs : s.size ≤ 1000000) (p d : List UInt8) (hl : s.data.toList = p ++ 47 :: d) (h47 : 47 ∉ p) (hb : intB p = false) :
    Calls Tryz.prog 71 #[.string s] w fun e w' => ∃ v, e = .returned (.tuple #[v, .bool false]) ∧ QV w' v (((0 : Int) : Rat)) ∧ Ext w w' := by
  have hsz : p.length + 1 + d.length = s.size := by rw [← bytes_len, hl]; simp; omega
  have lp : p.length ≤ 1000000 := by omega
  have ld : d.length ≤ 1000000 := by omega
  clear hsz
  have HE := Lib.hid (Ext.rfl' w)
  go_enter Tryz.func71, Tryz.ntmps71
  go_wp2_with fail
  have HB1 := Lib.hid (Bx.new w #[.bool false, .slice none 0 0, .slice none 0 0] 86)
  have hE := (Ext.rfl' w).al (.cells #[.bool false, .slice none 0 0, .slice none 0 0] 86)
  generalize hWn : w.alloc (.cells #[.bool false, .slice none 0 0, .slice none 0 0] 86) = W0 at *
  clear hWn
  replace HE := Lib.hid (HE.out.tr hE)
  clear hE
  refine (split_hit s p d _ (by omega) hl h47).mono ?_
  rintro e W1 ⟨rfl, hE⟩
  replace HB1 := Bx.hext HB1 hE
  replace HE := Lib.hid (HE.out.tr hE)
  clear hE
  go_wp2_with fail
  refine (v2_txt p false _ lp hb).mono ?_
  rintro e W2 ⟨rfl, hE⟩
  replace HB1 := Bx.hext HB1 hE
  replace HE := Lib.hid (HE.out.tr hE)
  clear hE
  go_wp2_with fail
  refine (q3Int_any 0 _ (by decide) (by decide)).mono ?_
  rintro e W3 ⟨v, rfl, hq, hE⟩
  have HQ := Lib.hid hq
  clear hq
  replace HB1 := Bx.hext HB1 hE
  replace HE := Lib.hid (HE.out.tr hE)
  clear hE
  obtain ⟨b, A, la, ca, B, lb, cb, rfl, -, -, -⟩ := HQ.out.ex
  obtain ⟨d0, d1, d2⟩ := set3 HB1.out (.bool b) (.slice A la ca) (.slice B lb cb)
  have HE2 := Lib.hid (ext_set3 HE.out (Nat.le_refl _) (.bool b) (.slice A la ca) (.slice B lb cb))
  have HZ := Lib.hid (QV.off HQ.out HB1.out nou3 (size3 (.bool b) (.slice A la ca) (.slice B lb cb)) (keep3 (g := w.heap.size) (.bool b) (.slice A la ca) (.slice B lb cb)))
  have c0 : W3.cell? ⟨w.heap.size, 0, none⟩ = some (.bool false) := HB1.out.c 0
  have f0 := HB1.out.f 0
  have c1 : W3.cell? ⟨w.heap.size, 1, none⟩ = some (.slice none 0 0) := HB1.out.c 1
  have f1 := HB1.out.f 1
  have c2 : W3.cell? ⟨w.heap.size, 2, none⟩ = some (.slice none 0 0) := HB1.out.c 2
  have f2 := HB1.out.f 2
  clear HB1 HE HQ
  go_wp2_with fail
  refine bodyPost_ret (v := .tuple #[.agg #[.bool b, .slice A la ca, .slice B lb cb], .bool false]) ?_ rfl ⟨_, rfl, HZ.out, HE2.out⟩
  simp [results, Tryz.f71, go_sem, d0, d1, d2]
set_option maxHeartbeats 8000000 in
set_option maxRecDepth 200000 in
theorem from_s1 (s : ByteArray) (w : World) (hs : s.size ≤ 1000000) (p d : List UInt8) (hl : s.data.toList = p ++ 47 :: d) (h47 : 47 ∉ p) (hb : intB p = true) (hd : canB d = false) :
    Calls Tryz.prog 71 #[.string s] w fun e w' => ∃ v, e = .returned (.tuple #[v, .bool false]) ∧ QV w' v (((0 : Int) : Rat)) ∧ Ext w w' := by
  have hsz : p.length + 1 + d.length = s.size := by rw [← bytes_len, hl]; simp; omega
  have lp : p.length ≤ 1000000 := by omega
  have ld : d.length ≤ 1000000 := by omega
  clear hsz
  have HE := Lib.hid (Ext.rfl' w)
  go_enter Tryz.func71, Tryz.ntmps71
  go_wp2_with fail
  have HB1 := Lib.hid (Bx.new w #[.bool false, .slice none 0 0, .slice none 0 0] 86)
  have hE := (Ext.rfl' w).al (.cells #[.bool false, .slice none 0 0, .slice none 0 0] 86)
  generalize hWn : w.alloc (.cells #[.bool false, .slice none 0 0, .slice none 0 0] 86) = W0 at *
  clear hWn
  replace HE := Lib.hid (HE.out.tr hE)
  clear hE
  refine (split_hit s p d _ (by omega) hl h47).mono ?_
  rintro e W1 ⟨rfl, hE⟩
  replace HB1 := Bx.hext HB1 hE
  replace HE := Lib.hid (HE.out.tr hE)
  clear hE
  go_wp2_with fail
  refine (v2_txt p true _ lp hb).mono ?_
  rintro e W2 ⟨rfl, hE⟩
  replace HB1 := Bx.hext HB1 hE
  replace HE := Lib.hid (HE.out.tr hE)
  clear hE
  go_wp2_with fail
  refine (v1_txt d false _ ld hd).mono ?_
  rintro e W3 ⟨rfl, hE⟩
  replace HB1 := Bx.hext HB1 hE
  replace HE := Lib.hid (HE.out.tr hE)
  clear hE
  go_wp2_with fail
  refine (q3Int_any 0 _ (by decide) (by decide)).mono ?_
  rintro e W4 ⟨v, rfl, hq, hE⟩
  have HQ := Lib.hid hq
  clear hq
  replace HB1 := Bx.hext HB1 hE
  replace HE := Lib.hid (HE.out.tr hE)
  clear hE
  obtain ⟨b, A, la, ca, B, lb, cb, rfl, -, -, -⟩ := HQ.out.ex
  obtain ⟨d0, d1, d2⟩ := set3 HB1.out (.bool b) (.slice A la ca) (.slice B lb cb)
  have HE2 := Lib.hid (ext_set3 HE.out (Nat.le_refl _) (.bool b) (.slice A la ca) (.slice B lb cb))
  have HZ := Lib.hid (QV.off HQ.out HB1.out nou3 (size3 (.bool b) (.slice A la ca) (.slice B lb cb)) (keep3 (g := w.heap.size) (.bool b) (.slice A la ca) (.slice B lb cb)))
  have c0 : W4.cell? ⟨w.heap.size, 0, none⟩ = some (.bool false) := HB1.out.c 0
  have f0 := HB1.out.f 0
  have c1 : W4.cell? ⟨w.heap.size, 1, none⟩ = some (.slice none 0 0) := HB1.out.c 1
  have f1 := HB1.out.f 1
  have c2 : W4.cell? ⟨w.heap.size, 2, none⟩ = some (.slice none 0 0) := HB1.out.c 2
  have f2 := HB1.out.f 2
  clear HB1 HE HQ
  go_wp2_with fail
  refine bodyPost_ret (v := .tuple #[.agg #[.bool b, .slice A la ca, .slice B lb cb], .bool false]) ?_ rfl ⟨_, rfl, HZ.out, HE2.out⟩
  simp [results, Tryz.f71, go_sem, d0, d1, d2]
set_option maxHeartbeats 8000000 in
set_option maxRecDepth 200000 in
theorem from_s2 (s : ByteArray) (w : World) (hs : s.size ≤ 1000000) (p d : List UInt8) (hl : s.data.toList = p ++ 47 :: d) (h47 : 47 ∉ p) (z : Int) (n : Nat) (hz : p = Lib.itoa z) (hn : d = Lib.decDigits n) (hb : intB p = true) (hd : canB d = true) (M : Nat) (hOv : OverC M w) (hM : (wds M).length ≤ 1099511627776) (hzM : z.natAbs ≤ M) (hnM : n ≤ M) (hc : ¬ (0 : Int) < cmpZ n 1) :
    Calls Tryz.prog 71 #[.string s] w fun e w' => ∃ v, e = .returned (.tuple #[v, .bool false]) ∧ QV w' v (((0 : Int) : Rat)) ∧ Ext w w' := by
  have hsz : p.length + 1 + d.length = s.size := by rw [← bytes_len, hl]; simp; omega
  have lp : p.length ≤ 1000000 := by omega
  have ld : d.length ≤ 1000000 := by omega
  clear hsz
  have l1 := len1
  have ln : (wds n).length ≤ 1099511627776 := Nat.le_trans (wds_mono hnM) hM
  have lg : (wds (Nat.gcd z.natAbs n)).length ≤ 1099511627776 := by
    rcases Nat.eq_zero_or_pos n with h | h
    · subst h; rw [Nat.gcd_zero_right]; exact Nat.le_trans (wds_mono hzM) hM
    · exact Nat.le_trans (wds_mono (Nat.gcd_le_right _ h)) ln
  have HOV := Lib.hid hOv
  have L1 := Lib.hid l1; have LN := Lib.hid ln; have LG := Lib.hid lg; have LM := Lib.hid hM; have ZM := Lib.hid hzM; have NM := Lib.hid hnM
  clear l1 ln lg hM hzM hnM hOv
  have HZE := Lib.hid hz; have HNE := Lib.hid hn
  clear hz hn
  have HE := Lib.hid (Ext.rfl' w)
  go_enter Tryz.func71, Tryz.ntmps71
  go_wp2_with fail
  have HB1 := Lib.hid (Bx.new w #[.bool false, .slice none 0 0, .slice none 0 0] 86)
  have hE := (Ext.rfl' w).al (.cells #[.bool false, .slice none 0 0, .slice none 0 0] 86)
  generalize hWn : w.alloc (.cells #[.bool false, .slice none 0 0, .slice none 0 0] 86) = W0 at *
  clear hWn
  replace HOV := OverC.hext HOV hE
  replace HE := Lib.hid (HE.out.tr hE)
  clear hE
  refine (split_hit s p d _ (by omega) hl h47).mono ?_
  rintro e W1 ⟨rfl, hE⟩
  replace HOV := OverC.hext HOV hE
  replace HB1 := Bx.hext HB1 hE
  replace HE := Lib.hid (HE.out.tr hE)
  clear hE
  go_wp2_with fail
  refine (v2_txt p true _ lp hb).mono ?_
  rintro e W2 ⟨rfl, hE⟩
  replace HOV := OverC.hext HOV hE
  replace HB1 := Bx.hext HB1 hE
  replace HE := Lib.hid (HE.out.tr hE)
  clear hE
  go_wp2_with fail
  refine (v1_txt d true _ ld hd).mono ?_
  rintro e W3 ⟨rfl, hE⟩
  replace HOV := OverC.hext HOV hE
  replace HB1 := Bx.hext HB1 hE
  replace HE := Lib.hid (HE.out.tr hE)
  clear hE
  go_wp2_with fail
  refine (read_txt p z _ HZE.out (by omega)).mono ?_
  rintro e W4 ⟨v, rfl, hz1, hE⟩
  have HZ1 := Lib.hid hz1
  clear hz1
  replace HOV := OverC.hext HOV hE
  replace HB1 := Bx.hext HB1 hE
  replace HE := Lib.hid (HE.out.tr hE)
  clear hE
  obtain ⟨b, A, la, ca, rfl, hb1, -⟩ := HZ1.out.ex
  have HBB := Lib.hid hb1
  clear hb1
  go_wp2_with fail
  refine (from_txt d n _ HNE.out (by omega)).mono ?_
  rintro e W5 ⟨v, rfl, hn1, hE⟩
  have HN1 := Lib.hid hn1
  clear hn1
  replace HOV := OverC.hext HOV hE
  replace HB1 := Bx.hext HB1 hE
  replace HZ1 := ZV.hext HZ1 hE
  replace HE := Lib.hid (HE.out.tr hE)
  clear hE
  obtain ⟨B, cb, hv⟩ := SlN.slc HN1.out
  generalize (wds n).length = lb at hv
  subst hv
  go_wp2_with fail
  have X0 : Hid ((W5.alloc (.cells #[.bool b, .slice A la ca, .slice B lb cb] 86)).cell? ⟨W5.heap.size, 0, none⟩ = some (.bool b)) := (Bx.new W5 #[.bool b, .slice A la ca, .slice B lb cb] 86).c 0
  have X1 : Hid ((W5.alloc (.cells #[.bool b, .slice A la ca, .slice B lb cb] 86)).cell? ⟨W5.heap.size, 1, none⟩ = some (.slice A la ca)) := (Bx.new W5 #[.bool b, .slice A la ca, .slice B lb cb] 86).c 1
  have X2 : Hid ((W5.alloc (.cells #[.bool b, .slice A la ca, .slice B lb cb] 86)).cell? ⟨W5.heap.size, 2, none⟩ = some (.slice B lb cb)) := (Bx.new W5 #[.bool b, .slice A la ca, .slice B lb cb] 86).c 2
  have hE : Ext W5 (W5.alloc (.cells #[.bool b, .slice A la ca, .slice B lb cb] 86)) := (Ext.rfl' W5).al _
  generalize hWn : W5.alloc (.cells #[.bool b, .slice A la ca, .slice B lb cb] 86) = W6 at *
  clear hWn
  generalize W5.heap.size = g at *
  replace HOV := OverC.hext HOV hE
  replace HB1 := Bx.hext HB1 hE
  replace HZ1 := ZV.hext HZ1 hE
  replace HN1 := SlN.hext HN1 hE
  replace HE := Lib.hid (HE.out.tr hE)
  clear hE
  refine (zSmall_any 1 _ (by decide)).mono ?_
  rintro e W7 ⟨v, rfl, h1, hE⟩
  have H1 := Lib.hid h1
  clear h1
  replace HOV := OverC.hext HOV hE
  replace HB1 := Bx.hext HB1 hE
  replace HZ1 := ZV.hext HZ1 hE
  replace HN1 := SlN.hext HN1 hE
  replace X0 := cell_hext X0 hE
  replace X1 := cell_hext X1 hE
  replace X2 := cell_hext X2 hE
  replace HE := Lib.hid (HE.out.tr hE)
  clear hE
  obtain ⟨O, co, hv⟩ := SlN.slc H1.out
  generalize (wds 1).length = lo at hv
  subst hv
  have x0 := X0.out; have x1 := X1.out; have x2 := X2.out
  go_wp2_with fail
  clear x0 x1 x2
  generalize hcc : cmpZ n 1 = c at hc
  refine ((show Calls Tryz.prog 110 _ _ (fun e w' => e = .returned (.int .i64 c) ∧ Ext _ w') from hcc ▸ zCmp_v _ _ n 1 _ HN1.out H1.out LN.out L1.out)).mono ?_
  rintro e W8 ⟨rfl, hE⟩
  replace HOV := OverC.hext HOV hE
  replace HB1 := Bx.hext HB1 hE
  replace HZ1 := ZV.hext HZ1 hE
  replace HN1 := SlN.hext HN1 hE
  replace X0 := cell_hext X0 hE
  replace X1 := cell_hext X1 hE
  replace X2 := cell_hext X2 hE
  replace H1 := SlN.hext H1 hE
  replace HE := Lib.hid (HE.out.tr hE)
  clear hE
  have x0 := X0.out; have x1 := X1.out; have x2 := X2.out
  go_wp2_with fail
  clear x0 x1 x2
  refine (q3Int_any 0 _ (by decide) (by decide)).mono ?_
  rintro e W9 ⟨v, rfl, hq, hE⟩
  have HQ := Lib.hid hq
  clear hq
  replace HOV := OverC.hext HOV hE
  replace HB1 := Bx.hext HB1 hE
  replace HZ1 := ZV.hext HZ1 hE
  replace HN1 := SlN.hext HN1 hE
  replace X0 := cell_hext X0 hE
  replace X1 := cell_hext X1 hE
  replace X2 := cell_hext X2 hE
  replace H1 := SlN.hext H1 hE
  replace HE := Lib.hid (HE.out.tr hE)
  clear hE
  obtain ⟨b, A, la, ca, B, lb, cb, rfl, -, -, -⟩ := HQ.out.ex
  obtain ⟨d0, d1, d2⟩ := set3 HB1.out (.bool b) (.slice A la ca) (.slice B lb cb)
  have HE2 := Lib.hid (ext_set3 HE.out (Nat.le_refl _) (.bool b) (.slice A la ca) (.slice B lb cb))
  have HZ := Lib.hid (QV.off HQ.out HB1.out nou3 (size3 (.bool b) (.slice A la ca) (.slice B lb cb)) (keep3 (g := w.heap.size) (.bool b) (.slice A la ca) (.slice B lb cb)))
  have c0 : W9.cell? ⟨w.heap.size, 0, none⟩ = some (.bool false) := HB1.out.c 0
  have f0 := HB1.out.f 0
  have c1 : W9.cell? ⟨w.heap.size, 1, none⟩ = some (.slice none 0 0) := HB1.out.c 1
  have f1 := HB1.out.f 1
  have c2 : W9.cell? ⟨w.heap.size, 2, none⟩ = some (.slice none 0 0) := HB1.out.c 2
  have f2 := HB1.out.f 2
  clear HB1 HE HQ
  go_wp2_with fail
  refine bodyPost_ret (v := .tuple #[.agg #[.bool b, .slice A la ca, .slice B lb cb], .bool false]) ?_ rfl ⟨_, rfl, HZ.out, HE2.out⟩
  simp [results, Tryz.f71, go_sem, d0, d1, d2]
set_option maxHeartbeats 8000000 in
set_option maxRecDepth 200000 in
theorem from_s3 (s : ByteArray) (w : World) (hs : s.size ≤ 1000000) (p d : List UInt8) (hl : s.data.toList = p ++ 47 :: d) (h47 : 47 ∉ p) (z : Int) (n : Nat) (hz : p = Lib.itoa z) (hn : d = Lib.decDigits n) (hb : intB p = true) (hd : canB d = true) (M : Nat) (hOv : OverC M w) (hM : (wds M).length ≤ 1099511627776) (hzM : z.natAbs ≤ M) (hnM : n ≤ M) (hc : cmpZ n 1 = 1) (hz0 : (sgq z == 0) = true) :
    Calls Tryz.prog 71 #[.string s] w fun e w' => ∃ v, e = .returned (.tuple #[v, .bool false]) ∧ QV w' v (((0 : Int) : Rat)) ∧ Ext w w' := by
  have hsz : p.length + 1 + d.length = s.size := by rw [← bytes_len, hl]; simp; omega
  have lp : p.length ≤ 1000000 := by omega
  have ld : d.length ≤ 1000000 := by omega
  clear hsz
  have l1 := len1
  have ln : (wds n).length ≤ 1099511627776 := Nat.le_trans (wds_mono hnM) hM
  have lg : (wds (Nat.gcd z.natAbs n)).length ≤ 1099511627776 := by
    rcases Nat.eq_zero_or_pos n with h | h
    · subst h; rw [Nat.gcd_zero_right]; exact Nat.le_trans (wds_mono hzM) hM
    · exact Nat.le_trans (wds_mono (Nat.gcd_le_right _ h)) ln
  have HOV := Lib.hid hOv
  have L1 := Lib.hid l1; have LN := Lib.hid ln; have LG := Lib.hid lg; have LM := Lib.hid hM; have ZM := Lib.hid hzM; have NM := Lib.hid hnM
  clear l1 ln lg hM hzM hnM hOv
  have hz0b : (sgq z != 0) = false := by rw [bne, hz0]; rfl
  have HZE := Lib.hid hz; have HNE := Lib.hid hn
  clear hz hn
  have HE := Lib.hid (Ext.rfl' w)
  go_enter Tryz.func71, Tryz.ntmps71
  go_wp2_with fail
  have HB1 := Lib.hid (Bx.new w #[.bool false, .slice none 0 0, .slice none 0 0] 86)
  have hE := (Ext.rfl' w).al (.cells #[.bool false, .slice none 0 0, .slice none 0 0] 86)
  generalize hWn : w.alloc (.cells #[.bool false, .slice none 0 0, .slice none 0 0] 86) = W0 at *
  clear hWn
  replace HOV := OverC.hext HOV hE
  replace HE := Lib.hid (HE.out.tr hE)
  clear hE
  refine (split_hit s p d _ (by omega) hl h47).mono ?_
  rintro e W1 ⟨rfl, hE⟩
  replace HOV := OverC.hext HOV hE
  replace HB1 := Bx.hext HB1 hE
  replace HE := Lib.hid (HE.out.tr hE)
  clear hE
  go_wp2_with fail
  refine (v2_txt p true _ lp hb).mono ?_
  rintro e W2 ⟨rfl, hE⟩
  replace HOV := OverC.hext HOV hE
  replace HB1 := Bx.hext HB1 hE
  replace HE := Lib.hid (HE.out.tr hE)
  clear hE
  go_wp2_with fail
  refine (v1_txt d true _ ld hd).mono ?_
  rintro e W3 ⟨rfl, hE⟩
  replace HOV := OverC.hext HOV hE
  replace HB1 := Bx.hext HB1 hE
  replace HE := Lib.hid (HE.out.tr hE)
  clear hE
  go_wp2_with fail
  refine (read_txt p z _ HZE.out (by omega)).mono ?_
  rintro e W4 ⟨v, rfl, hz1, hE⟩
  have HZ1 := Lib.hid hz1
  clear hz1
  replace HOV := OverC.hext HOV hE
  replace HB1 := Bx.hext HB1 hE
  replace HE := Lib.hid (HE.out.tr hE)
  clear hE
  obtain ⟨b, A, la, ca, rfl, hb1, -⟩ := HZ1.out.ex
  have HBB := Lib.hid hb1
  clear hb1
  go_wp2_with fail
  refine (from_txt d n _ HNE.out (by omega)).mono ?_
  rintro e W5 ⟨v, rfl, hn1, hE⟩
  have HN1 := Lib.hid hn1
  clear hn1
  replace HOV := OverC.hext HOV hE
  replace HB1 := Bx.hext HB1 hE
  replace HZ1 := ZV.hext HZ1 hE
  replace HE := Lib.hid (HE.out.tr hE)
  clear hE
  obtain ⟨B, cb, hv⟩ := SlN.slc HN1.out
  generalize (wds n).length = lb at hv
  subst hv
  go_wp2_with fail
  have X0 : Hid ((W5.alloc (.cells #[.bool b, .slice A la ca, .slice B lb cb] 86)).cell? ⟨W5.heap.size, 0, none⟩ = some (.bool b)) := (Bx.new W5 #[.bool b, .slice A la ca, .slice B lb cb] 86).c 0
  have X1 : Hid ((W5.alloc (.cells #[.bool b, .slice A la ca, .slice B lb cb] 86)).cell? ⟨W5.heap.size, 1, none⟩ = some (.slice A la ca)) := (Bx.new W5 #[.bool b, .slice A la ca, .slice B lb cb] 86).c 1
  have X2 : Hid ((W5.alloc (.cells #[.bool b, .slice A la ca, .slice B lb cb] 86)).cell? ⟨W5.heap.size, 2, none⟩ = some (.slice B lb cb)) := (Bx.new W5 #[.bool b, .slice A la ca, .slice B lb cb] 86).c 2
  have hE : Ext W5 (W5.alloc (.cells #[.bool b, .slice A la ca, .slice B lb cb] 86)) := (Ext.rfl' W5).al _
  generalize hWn : W5.alloc (.cells #[.bool b, .slice A la ca, .slice B lb cb] 86) = W6 at *
  clear hWn
  generalize W5.heap.size = g at *
  replace HOV := OverC.hext HOV hE
  replace HB1 := Bx.hext HB1 hE
  replace HZ1 := ZV.hext HZ1 hE
  replace HN1 := SlN.hext HN1 hE
  replace HE := Lib.hid (HE.out.tr hE)
  clear hE
  refine (zSmall_any 1 _ (by decide)).mono ?_
  rintro e W7 ⟨v, rfl, h1, hE⟩
  have H1 := Lib.hid h1
  clear h1
  replace HOV := OverC.hext HOV hE
  replace HB1 := Bx.hext HB1 hE
  replace HZ1 := ZV.hext HZ1 hE
  replace HN1 := SlN.hext HN1 hE
  replace X0 := cell_hext X0 hE
  replace X1 := cell_hext X1 hE
  replace X2 := cell_hext X2 hE
  replace HE := Lib.hid (HE.out.tr hE)
  clear hE
  obtain ⟨O, co, hv⟩ := SlN.slc H1.out
  generalize (wds 1).length = lo at hv
  subst hv
  have x0 := X0.out; have x1 := X1.out; have x2 := X2.out
  go_wp2_with fail
  clear x0 x1 x2
  have hcm := zCmp_v _ _ n 1 _ HN1.out H1.out LN.out L1.out
  rw [hc] at hcm
  refine (hcm).mono ?_
  rintro e W8 ⟨rfl, hE⟩
  replace HOV := OverC.hext HOV hE
  replace HB1 := Bx.hext HB1 hE
  replace HZ1 := ZV.hext HZ1 hE
  replace HN1 := SlN.hext HN1 hE
  replace X0 := cell_hext X0 hE
  replace X1 := cell_hext X1 hE
  replace X2 := cell_hext X2 hE
  replace H1 := SlN.hext H1 hE
  replace HE := Lib.hid (HE.out.tr hE)
  clear hE
  clear hcm
  have x0 := X0.out; have x1 := X1.out; have x2 := X2.out
  go_wp2_with fail
  clear x0 x1 x2
  refine (z2Signum_any _ z _ HZ1.out).mono ?_
  rintro e W9 ⟨rfl, hE⟩
  replace HOV := OverC.hext HOV hE
  replace HB1 := Bx.hext HB1 hE
  replace HZ1 := ZV.hext HZ1 hE
  replace HN1 := SlN.hext HN1 hE
  replace X0 := cell_hext X0 hE
  replace X1 := cell_hext X1 hE
  replace X2 := cell_hext X2 hE
  replace H1 := SlN.hext H1 hE
  replace HE := Lib.hid (HE.out.tr hE)
  clear hE
  have x0 := X0.out; have x1 := X1.out; have x2 := X2.out
  go_wp2_with fail
  clear x0 x1 x2
  refine (q3Int_any 0 _ (by decide) (by decide)).mono ?_
  rintro e W10 ⟨v, rfl, hq, hE⟩
  have HQ := Lib.hid hq
  clear hq
  replace HOV := OverC.hext HOV hE
  replace HB1 := Bx.hext HB1 hE
  replace HZ1 := ZV.hext HZ1 hE
  replace HN1 := SlN.hext HN1 hE
  replace X0 := cell_hext X0 hE
  replace X1 := cell_hext X1 hE
  replace X2 := cell_hext X2 hE
  replace H1 := SlN.hext H1 hE
  replace HE := Lib.hid (HE.out.tr hE)
  clear hE
  obtain ⟨b, A, la, ca, B, lb, cb, rfl, -, -, -⟩ := HQ.out.ex
  obtain ⟨d0, d1, d2⟩ := set3 HB1.out (.bool b) (.slice A la ca) (.slice B lb cb)
  have HE2 := Lib.hid (ext_set3 HE.out (Nat.le_refl _) (.bool b) (.slice A la ca) (.slice B lb cb))
  have HZ := Lib.hid (QV.off HQ.out HB1.out nou3 (size3 (.bool b) (.slice A la ca) (.slice B lb cb)) (keep3 (g := w.heap.size) (.bool b) (.slice A la ca) (.slice B lb cb)))
  have c0 : W10.cell? ⟨w.heap.size, 0, none⟩ = some (.bool false) := HB1.out.c 0
  have f0 := HB1.out.f 0
  have c1 : W10.cell? ⟨w.heap.size, 1, none⟩ = some (.slice none 0 0) := HB1.out.c 1
  have f1 := HB1.out.f 1
  have c2 : W10.cell? ⟨w.heap.size, 2, none⟩ = some (.slice none 0 0) := HB1.out.c 2
  have f2 := HB1.out.f 2
  clear HB1 HE HQ
  go_wp2_with fail
  refine bodyPost_ret (v := .tuple #[.agg #[.bool b, .slice A la ca, .slice B lb cb], .bool false]) ?_ rfl ⟨_, rfl, HZ.out, HE2.out⟩
  simp [results, Tryz.f71, go_sem, d0, d1, d2]
set_option maxHeartbeats 8000000 in
set_option maxRecDepth 200000 in
theorem from_s4 (s : ByteArray) (w : World) (hs : s.size ≤ 1000000) (p d : List UInt8) (hl : s.data.toList = p ++ 47 :: d) (h47 : 47 ∉ p) (z : Int) (n : Nat) (hz : p = Lib.itoa z) (hn : d = Lib.decDigits n) (hb : intB p = true) (hd : canB d = true) (M : Nat) (hOv : OverC M w) (hM : (wds M).length ≤ 1099511627776) (hzM : z.natAbs ≤ M) (hnM : n ≤ M) (hc : cmpZ n 1 = 1) (hz0 : (sgq z == 0) = false) (hg : (cmpZ (Nat.gcd z.natAbs n) 1 == 0) = false) :
    Calls Tryz.prog 71 #[.string s] w fun e w' => ∃ v, e = .returned (.tuple #[v, .bool false]) ∧ QV w' v (((0 : Int) : Rat)) ∧ Ext w w' := by
  have hsz : p.length + 1 + d.length = s.size := by rw [← bytes_len, hl]; simp; omega
  have lp : p.length ≤ 1000000 := by omega
  have ld : d.length ≤ 1000000 := by omega
  clear hsz
  have l1 := len1
  have ln : (wds n).length ≤ 1099511627776 := Nat.le_trans (wds_mono hnM) hM
  have lg : (wds (Nat.gcd z.natAbs n)).length ≤ 1099511627776 := by
    rcases Nat.eq_zero_or_pos n with h | h
    · subst h; rw [Nat.gcd_zero_right]; exact Nat.le_trans (wds_mono hzM) hM
    · exact Nat.le_trans (wds_mono (Nat.gcd_le_right _ h)) ln
  have HOV := Lib.hid hOv
  have L1 := Lib.hid l1; have LN := Lib.hid ln; have LG := Lib.hid lg; have LM := Lib.hid hM; have ZM := Lib.hid hzM; have NM := Lib.hid hnM
  clear l1 ln lg hM hzM hnM hOv
  have hz0b : (sgq z != 0) = true := by rw [bne, hz0]; rfl
  have HZE := Lib.hid hz; have HNE := Lib.hid hn
  clear hz hn
  have HE := Lib.hid (Ext.rfl' w)
  go_enter Tryz.func71, Tryz.ntmps71
  go_wp2_with fail
  have HB1 := Lib.hid (Bx.new w #[.bool false, .slice none 0 0, .slice none 0 0] 86)
  have hE := (Ext.rfl' w).al (.cells #[.bool false, .slice none 0 0, .slice none 0 0] 86)
  generalize hWn : w.alloc (.cells #[.bool false, .slice none 0 0, .slice none 0 0] 86) = W0 at *
  clear hWn
  replace HOV := OverC.hext HOV hE
  replace HE := Lib.hid (HE.out.tr hE)
  clear hE
  refine (split_hit s p d _ (by omega) hl h47).mono ?_
  rintro e W1 ⟨rfl, hE⟩
  replace HOV := OverC.hext HOV hE
  replace HB1 := Bx.hext HB1 hE
  replace HE := Lib.hid (HE.out.tr hE)
  clear hE
  go_wp2_with fail
  refine (v2_txt p true _ lp hb).mono ?_
  rintro e W2 ⟨rfl, hE⟩
  replace HOV := OverC.hext HOV hE
  replace HB1 := Bx.hext HB1 hE
  replace HE := Lib.hid (HE.out.tr hE)
  clear hE
  go_wp2_with fail
  refine (v1_txt d true _ ld hd).mono ?_
  rintro e W3 ⟨rfl, hE⟩
  replace HOV := OverC.hext HOV hE
  replace HB1 := Bx.hext HB1 hE
  replace HE := Lib.hid (HE.out.tr hE)
  clear hE
  go_wp2_with fail
  refine (read_txt p z _ HZE.out (by omega)).mono ?_
  rintro e W4 ⟨v, rfl, hz1, hE⟩
  have HZ1 := Lib.hid hz1
  clear hz1
  replace HOV := OverC.hext HOV hE
  replace HB1 := Bx.hext HB1 hE
  replace HE := Lib.hid (HE.out.tr hE)
  clear hE
  obtain ⟨b, A, la, ca, rfl, hb1, -⟩ := HZ1.out.ex
  have HBB := Lib.hid hb1
  clear hb1
  go_wp2_with fail
  refine (from_txt d n _ HNE.out (by omega)).mono ?_
  rintro e W5 ⟨v, rfl, hn1, hE⟩
  have HN1 := Lib.hid hn1
  clear hn1
  replace HOV := OverC.hext HOV hE
  replace HB1 := Bx.hext HB1 hE
  replace HZ1 := ZV.hext HZ1 hE
  replace HE := Lib.hid (HE.out.tr hE)
  clear hE
  obtain ⟨B, cb, hv⟩ := SlN.slc HN1.out
  generalize (wds n).length = lb at hv
  subst hv
  go_wp2_with fail
  have X0 : Hid ((W5.alloc (.cells #[.bool b, .slice A la ca, .slice B lb cb] 86)).cell? ⟨W5.heap.size, 0, none⟩ = some (.bool b)) := (Bx.new W5 #[.bool b, .slice A la ca, .slice B lb cb] 86).c 0
  have X1 : Hid ((W5.alloc (.cells #[.bool b, .slice A la ca, .slice B lb cb] 86)).cell? ⟨W5.heap.size, 1, none⟩ = some (.slice A la ca)) := (Bx.new W5 #[.bool b, .slice A la ca, .slice B lb cb] 86).c 1
  have X2 : Hid ((W5.alloc (.cells #[.bool b, .slice A la ca, .slice B lb cb] 86)).cell? ⟨W5.heap.size, 2, none⟩ = some (.slice B lb cb)) := (Bx.new W5 #[.bool b, .slice A la ca, .slice B lb cb] 86).c 2
  have hE : Ext W5 (W5.alloc (.cells #[.bool b, .slice A la ca, .slice B lb cb] 86)) := (Ext.rfl' W5).al _
  generalize hWn : W5.alloc (.cells #[.bool b, .slice A la ca, .slice B lb cb] 86) = W6 at *
  clear hWn
  generalize W5.heap.size = g at *
  replace HOV := OverC.hext HOV hE
  replace HB1 := Bx.hext HB1 hE
  replace HZ1 := ZV.hext HZ1 hE
  replace HN1 := SlN.hext HN1 hE
  replace HE := Lib.hid (HE.out.tr hE)
  clear hE
  refine (zSmall_any 1 _ (by decide)).mono ?_
  rintro e W7 ⟨v, rfl, h1, hE⟩
  have H1 := Lib.hid h1
  clear h1
  replace HOV := OverC.hext HOV hE
  replace HB1 := Bx.hext HB1 hE
  replace HZ1 := ZV.hext HZ1 hE
  replace HN1 := SlN.hext HN1 hE
  replace X0 := cell_hext X0 hE
  replace X1 := cell_hext X1 hE
  replace X2 := cell_hext X2 hE
  replace HE := Lib.hid (HE.out.tr hE)
  clear hE
  obtain ⟨O, co, hv⟩ := SlN.slc H1.out
  generalize (wds 1).length = lo at hv
  subst hv
  have x0 := X0.out; have x1 := X1.out; have x2 := X2.out
  go_wp2_with fail
  clear x0 x1 x2
  have hcm := zCmp_v _ _ n 1 _ HN1.out H1.out LN.out L1.out
  rw [hc] at hcm
  refine (hcm).mono ?_
  rintro e W8 ⟨rfl, hE⟩
  replace HOV := OverC.hext HOV hE
  replace HB1 := Bx.hext HB1 hE
  replace HZ1 := ZV.hext HZ1 hE
  replace HN1 := SlN.hext HN1 hE
  replace X0 := cell_hext X0 hE
  replace X1 := cell_hext X1 hE
  replace X2 := cell_hext X2 hE
  replace H1 := SlN.hext H1 hE
  replace HE := Lib.hid (HE.out.tr hE)
  clear hE
  clear hcm
  have x0 := X0.out; have x1 := X1.out; have x2 := X2.out
  go_wp2_with fail
  clear x0 x1 x2
  refine (z2Signum_any _ z _ HZ1.out).mono ?_
  rintro e W9 ⟨rfl, hE⟩
  replace HOV := OverC.hext HOV hE
  replace HB1 := Bx.hext HB1 hE
  replace HZ1 := ZV.hext HZ1 hE
  replace HN1 := SlN.hext HN1 hE
  replace X0 := cell_hext X0 hE
  replace X1 := cell_hext X1 hE
  replace X2 := cell_hext X2 hE
  replace H1 := SlN.hext H1 hE
  replace HE := Lib.hid (HE.out.tr hE)
  clear hE
  have x0 := X0.out; have x1 := X1.out; have x2 := X2.out
  go_wp2_with fail
  clear x0 x1 x2
  have HZN : Hid (SlN W9 (.slice A la ca) z.natAbs) := by obtain ⟨vn, e, h⟩ := HZ1.out; simp at e; obtain ⟨-, e⟩ := e; rw [e]; exact h
  refine (zCommon_any _ _ z.natAbs n M _ HZN.out HN1.out ZM.out NM.out HOV.out LM.out).mono ?_
  rintro e W10 ⟨v, rfl, hgc, hE⟩
  have HG := Lib.hid hgc
  clear hgc
  replace HOV := OverC.hext HOV hE
  replace HB1 := Bx.hext HB1 hE
  replace HZ1 := ZV.hext HZ1 hE
  replace HN1 := SlN.hext HN1 hE
  replace X0 := cell_hext X0 hE
  replace X1 := cell_hext X1 hE
  replace X2 := cell_hext X2 hE
  replace H1 := SlN.hext H1 hE
  replace HZN := SlN.hext HZN hE
  replace HE := Lib.hid (HE.out.tr hE)
  clear hE
  obtain ⟨GA, gc, hv⟩ := SlN.slc HG.out
  generalize (wds (Nat.gcd z.natAbs n)).length = gl at hv
  subst hv
  have x0 := X0.out; have x1 := X1.out; have x2 := X2.out
  go_wp2_with fail
  clear x0 x1 x2
  refine (zCmp_v _ _ (Nat.gcd z.natAbs n) 1 _ HG.out H1.out LG.out L1.out).mono ?_
  rintro e W11 ⟨rfl, hE⟩
  replace HOV := OverC.hext HOV hE
  replace HB1 := Bx.hext HB1 hE
  replace HZ1 := ZV.hext HZ1 hE
  replace HN1 := SlN.hext HN1 hE
  replace X0 := cell_hext X0 hE
  replace X1 := cell_hext X1 hE
  replace X2 := cell_hext X2 hE
  replace H1 := SlN.hext H1 hE
  replace HZN := SlN.hext HZN hE
  replace HG := SlN.hext HG hE
  replace HE := Lib.hid (HE.out.tr hE)
  clear hE
  have x0 := X0.out; have x1 := X1.out; have x2 := X2.out
  go_wp2_with fail
  clear x0 x1 x2
  refine (q3Int_any 0 _ (by decide) (by decide)).mono ?_
  rintro e W12 ⟨v, rfl, hq, hE⟩
  have HQ := Lib.hid hq
  clear hq
  replace HOV := OverC.hext HOV hE
  replace HB1 := Bx.hext HB1 hE
  replace HZ1 := ZV.hext HZ1 hE
  replace HN1 := SlN.hext HN1 hE
  replace X0 := cell_hext X0 hE
  replace X1 := cell_hext X1 hE
  replace X2 := cell_hext X2 hE
  replace H1 := SlN.hext H1 hE
  replace HZN := SlN.hext HZN hE
  replace HG := SlN.hext HG hE
  replace HE := Lib.hid (HE.out.tr hE)
  clear hE
  obtain ⟨b, A, la, ca, B, lb, cb, rfl, -, -, -⟩ := HQ.out.ex
  obtain ⟨d0, d1, d2⟩ := set3 HB1.out (.bool b) (.slice A la ca) (.slice B lb cb)
  have HE2 := Lib.hid (ext_set3 HE.out (Nat.le_refl _) (.bool b) (.slice A la ca) (.slice B lb cb))
  have HZ := Lib.hid (QV.off HQ.out HB1.out nou3 (size3 (.bool b) (.slice A la ca) (.slice B lb cb)) (keep3 (g := w.heap.size) (.bool b) (.slice A la ca) (.slice B lb cb)))
  have c0 : W12.cell? ⟨w.heap.size, 0, none⟩ = some (.bool false) := HB1.out.c 0
  have f0 := HB1.out.f 0
  have c1 : W12.cell? ⟨w.heap.size, 1, none⟩ = some (.slice none 0 0) := HB1.out.c 1
  have f1 := HB1.out.f 1
  have c2 : W12.cell? ⟨w.heap.size, 2, none⟩ = some (.slice none 0 0) := HB1.out.c 2
  have f2 := HB1.out.f 2
  clear HB1 HE HQ
  go_wp2_with fail
  refine bodyPost_ret (v := .tuple #[.agg #[.bool b, .slice A la ca, .slice B lb cb], .bool false]) ?_ rfl ⟨_, rfl, HZ.out, HE2.out⟩
  simp [results, Tryz.f71, go_sem, d0, d1, d2]
set_option maxHeartbeats 8000000 in
set_option maxRecDepth 200000 in
theorem from_s5 (s : ByteArray) (w : World) (hs : s.size ≤ 1000000) (p d : List UInt8) (hl : s.data.toList = p ++ 47 :: d) (h47 : 47 ∉ p) (z : Int) (n : Nat) (hz : p = Lib.itoa z) (hn : d = Lib.decDigits n) (hb : intB p = true) (hd : canB d = true) (M : Nat) (hOv : OverC M w) (hM : (wds M).length ≤ 1099511627776) (hzM : z.natAbs ≤ M) (hnM : n ≤ M) (hc : cmpZ n 1 = 1) (hz0 : (sgq z == 0) = false) (hg : (cmpZ (Nat.gcd z.natAbs n) 1 == 0) = true) (x : Rat) (hx1 : x.num = z) (hx2 : x.den = n) :
    Calls Tryz.prog 71 #[.string s] w fun e w' => ∃ v, e = .returned (.tuple #[v, .bool true]) ∧ QV w' v (x) ∧ Ext w w' := by
  have hsz : p.length + 1 + d.length = s.size := by rw [← bytes_len, hl]; simp; omega
  have lp : p.length ≤ 1000000 := by omega
  have ld : d.length ≤ 1000000 := by omega
  clear hsz
  have l1 := len1
  have ln : (wds n).length ≤ 1099511627776 := Nat.le_trans (wds_mono hnM) hM
  have lg : (wds (Nat.gcd z.natAbs n)).length ≤ 1099511627776 := by
    rcases Nat.eq_zero_or_pos n with h | h
    · subst h; rw [Nat.gcd_zero_right]; exact Nat.le_trans (wds_mono hzM) hM
    · exact Nat.le_trans (wds_mono (Nat.gcd_le_right _ h)) ln
  have HOV := Lib.hid hOv
  have L1 := Lib.hid l1; have LN := Lib.hid ln; have LG := Lib.hid lg; have LM := Lib.hid hM; have ZM := Lib.hid hzM; have NM := Lib.hid hnM
  clear l1 ln lg hM hzM hnM hOv
  have hz0b : (sgq z != 0) = true := by rw [bne, hz0]; rfl
  have HZE := Lib.hid hz; have HNE := Lib.hid hn
  clear hz hn
  have HE := Lib.hid (Ext.rfl' w)
  go_enter Tryz.func71, Tryz.ntmps71
  go_wp2_with fail
  have HB1 := Lib.hid (Bx.new w #[.bool false, .slice none 0 0, .slice none 0 0] 86)
  have hE := (Ext.rfl' w).al (.cells #[.bool false, .slice none 0 0, .slice none 0 0] 86)
  generalize hWn : w.alloc (.cells #[.bool false, .slice none 0 0, .slice none 0 0] 86) = W0 at *
  clear hWn
  replace HOV := OverC.hext HOV hE
  replace HE := Lib.hid (HE.out.tr hE)
  clear hE
  refine (split_hit s p d _ (by omega) hl h47).mono ?_
  rintro e W1 ⟨rfl, hE⟩
  replace HOV := OverC.hext HOV hE
  replace HB1 := Bx.hext HB1 hE
  replace HE := Lib.hid (HE.out.tr hE)
  clear hE
  go_wp2_with fail
  refine (v2_txt p true _ lp hb).mono ?_
  rintro e W2 ⟨rfl, hE⟩
  replace HOV := OverC.hext HOV hE
  replace HB1 := Bx.hext HB1 hE
  replace HE := Lib.hid (HE.out.tr hE)
  clear hE
  go_wp2_with fail
  refine (v1_txt d true _ ld hd).mono ?_
  rintro e W3 ⟨rfl, hE⟩
  replace HOV := OverC.hext HOV hE
  replace HB1 := Bx.hext HB1 hE
  replace HE := Lib.hid (HE.out.tr hE)
  clear hE
  go_wp2_with fail
  refine (read_txt p z _ HZE.out (by omega)).mono ?_
  rintro e W4 ⟨v, rfl, hz1, hE⟩
  have HZ1 := Lib.hid hz1
  clear hz1
  replace HOV := OverC.hext HOV hE
  replace HB1 := Bx.hext HB1 hE
  replace HE := Lib.hid (HE.out.tr hE)
  clear hE
  obtain ⟨b, A, la, ca, rfl, hb1, -⟩ := HZ1.out.ex
  have HBB := Lib.hid hb1
  clear hb1
  go_wp2_with fail
  refine (from_txt d n _ HNE.out (by omega)).mono ?_
  rintro e W5 ⟨v, rfl, hn1, hE⟩
  have HN1 := Lib.hid hn1
  clear hn1
  replace HOV := OverC.hext HOV hE
  replace HB1 := Bx.hext HB1 hE
  replace HZ1 := ZV.hext HZ1 hE
  replace HE := Lib.hid (HE.out.tr hE)
  clear hE
  obtain ⟨B, cb, hv⟩ := SlN.slc HN1.out
  generalize (wds n).length = lb at hv
  subst hv
  go_wp2_with fail
  have X0 : Hid ((W5.alloc (.cells #[.bool b, .slice A la ca, .slice B lb cb] 86)).cell? ⟨W5.heap.size, 0, none⟩ = some (.bool b)) := (Bx.new W5 #[.bool b, .slice A la ca, .slice B lb cb] 86).c 0
  have X1 : Hid ((W5.alloc (.cells #[.bool b, .slice A la ca, .slice B lb cb] 86)).cell? ⟨W5.heap.size, 1, none⟩ = some (.slice A la ca)) := (Bx.new W5 #[.bool b, .slice A la ca, .slice B lb cb] 86).c 1
  have X2 : Hid ((W5.alloc (.cells #[.bool b, .slice A la ca, .slice B lb cb] 86)).cell? ⟨W5.heap.size, 2, none⟩ = some (.slice B lb cb)) := (Bx.new W5 #[.bool b, .slice A la ca, .slice B lb cb] 86).c 2
  have hE : Ext W5 (W5.alloc (.cells #[.bool b, .slice A la ca, .slice B lb cb] 86)) := (Ext.rfl' W5).al _
  generalize hWn : W5.alloc (.cells #[.bool b, .slice A la ca, .slice B lb cb] 86) = W6 at *
  clear hWn
  generalize W5.heap.size = g at *
  replace HOV := OverC.hext HOV hE
  replace HB1 := Bx.hext HB1 hE
  replace HZ1 := ZV.hext HZ1 hE
  replace HN1 := SlN.hext HN1 hE
  replace HE := Lib.hid (HE.out.tr hE)
  clear hE
  refine (zSmall_any 1 _ (by decide)).mono ?_
  rintro e W7 ⟨v, rfl, h1, hE⟩
  have H1 := Lib.hid h1
  clear h1
  replace HOV := OverC.hext HOV hE
  replace HB1 := Bx.hext HB1 hE
  replace HZ1 := ZV.hext HZ1 hE
  replace HN1 := SlN.hext HN1 hE
  replace X0 := cell_hext X0 hE
  replace X1 := cell_hext X1 hE
  replace X2 := cell_hext X2 hE
  replace HE := Lib.hid (HE.out.tr hE)
  clear hE
  obtain ⟨O, co, hv⟩ := SlN.slc H1.out
  generalize (wds 1).length = lo at hv
  subst hv
  have x0 := X0.out; have x1 := X1.out; have x2 := X2.out
  go_wp2_with fail
  clear x0 x1 x2
  have hcm := zCmp_v _ _ n 1 _ HN1.out H1.out LN.out L1.out
  rw [hc] at hcm
  refine (hcm).mono ?_
  rintro e W8 ⟨rfl, hE⟩
  replace HOV := OverC.hext HOV hE
  replace HB1 := Bx.hext HB1 hE
  replace HZ1 := ZV.hext HZ1 hE
  replace HN1 := SlN.hext HN1 hE
  replace X0 := cell_hext X0 hE
  replace X1 := cell_hext X1 hE
  replace X2 := cell_hext X2 hE
  replace H1 := SlN.hext H1 hE
  replace HE := Lib.hid (HE.out.tr hE)
  clear hE
  clear hcm
  have x0 := X0.out; have x1 := X1.out; have x2 := X2.out
  go_wp2_with fail
  clear x0 x1 x2
  refine (z2Signum_any _ z _ HZ1.out).mono ?_
  rintro e W9 ⟨rfl, hE⟩
  replace HOV := OverC.hext HOV hE
  replace HB1 := Bx.hext HB1 hE
  replace HZ1 := ZV.hext HZ1 hE
  replace HN1 := SlN.hext HN1 hE
  replace X0 := cell_hext X0 hE
  replace X1 := cell_hext X1 hE
  replace X2 := cell_hext X2 hE
  replace H1 := SlN.hext H1 hE
  replace HE := Lib.hid (HE.out.tr hE)
  clear hE
  have x0 := X0.out; have x1 := X1.out; have x2 := X2.out
  go_wp2_with fail
  clear x0 x1 x2
  have HZN : Hid (SlN W9 (.slice A la ca) z.natAbs) := by obtain ⟨vn, e, h⟩ := HZ1.out; simp at e; obtain ⟨-, e⟩ := e; rw [e]; exact h
  refine (zCommon_any _ _ z.natAbs n M _ HZN.out HN1.out ZM.out NM.out HOV.out LM.out).mono ?_
  rintro e W10 ⟨v, rfl, hgc, hE⟩
  have HG := Lib.hid hgc
  clear hgc
  replace HOV := OverC.hext HOV hE
  replace HB1 := Bx.hext HB1 hE
  replace HZ1 := ZV.hext HZ1 hE
  replace HN1 := SlN.hext HN1 hE
  replace X0 := cell_hext X0 hE
  replace X1 := cell_hext X1 hE
  replace X2 := cell_hext X2 hE
  replace H1 := SlN.hext H1 hE
  replace HZN := SlN.hext HZN hE
  replace HE := Lib.hid (HE.out.tr hE)
  clear hE
  obtain ⟨GA, gc, hv⟩ := SlN.slc HG.out
  generalize (wds (Nat.gcd z.natAbs n)).length = gl at hv
  subst hv
  have x0 := X0.out; have x1 := X1.out; have x2 := X2.out
  go_wp2_with fail
  clear x0 x1 x2
  refine (zCmp_v _ _ (Nat.gcd z.natAbs n) 1 _ HG.out H1.out LG.out L1.out).mono ?_
  rintro e W11 ⟨rfl, hE⟩
  replace HOV := OverC.hext HOV hE
  replace HB1 := Bx.hext HB1 hE
  replace HZ1 := ZV.hext HZ1 hE
  replace HN1 := SlN.hext HN1 hE
  replace X0 := cell_hext X0 hE
  replace X1 := cell_hext X1 hE
  replace X2 := cell_hext X2 hE
  replace H1 := SlN.hext H1 hE
  replace HZN := SlN.hext HZN hE
  replace HG := SlN.hext HG hE
  replace HE := Lib.hid (HE.out.tr hE)
  clear hE
  have HQ : Hid (QV W11 (.agg #[.bool b, .slice A la ca, .slice B lb cb]) x) := QV.mk' (by rw [HBB.out, hx1]) (by rw [hx1]; exact HZN.out) (by rw [hx2]; exact HN1.out)
  obtain ⟨d0, d1, d2⟩ := set3 HB1.out (.bool b) (.slice A la ca) (.slice B lb cb)
  have HE2 := Lib.hid (ext_set3 HE.out (Nat.le_refl _) (.bool b) (.slice A la ca) (.slice B lb cb))
  have HZ := Lib.hid (QV.off HQ.out HB1.out nou3 (size3 (.bool b) (.slice A la ca) (.slice B lb cb)) (keep3 (g := w.heap.size) (.bool b) (.slice A la ca) (.slice B lb cb)))
  have c0 : W11.cell? ⟨w.heap.size, 0, none⟩ = some (.bool false) := HB1.out.c 0
  have f0 := HB1.out.f 0
  have c1 : W11.cell? ⟨w.heap.size, 1, none⟩ = some (.slice none 0 0) := HB1.out.c 1
  have f1 := HB1.out.f 1
  have c2 : W11.cell? ⟨w.heap.size, 2, none⟩ = some (.slice none 0 0) := HB1.out.c 2
  have f2 := HB1.out.f 2
  have x0 := X0.out; have x1 := X1.out; have x2 := X2.out
  clear HB1 HE HQ
  go_wp2_with fail
  refine bodyPost_ret (v := .tuple #[.agg #[.bool b, .slice A la ca, .slice B lb cb], .bool true]) ?_ rfl ⟨_, rfl, HZ.out, HE2.out⟩
  simp [results, Tryz.f71, go_sem, d0, d1, d2]
end Go.Proofs.YtbldlibijojbjaaGreatDoor.GB

namespace Go.Proofs.YtbldlibijojbjaaGreatDoor.GB
set_option linter.unusedVariables false
set_option linter.unusedSimpArgs false
open Go
/-- What a number of the reference is read from. -/
def QF (l : List UInt8) (w : World) (e : Ending) (w' : World) : Prop := ∃ v q, e = .returned (.tuple #[v, .bool (ratB l)]) ∧ QV w' v q ∧ (∀ x, l = rtext x → q = x) ∧ Ext w w'
theorem cmp1 {g : Nat} : (cmpZ g 1 == 0) = decide (g = 1) := by
  rcases (by omega : g < 1 ∨ g = 1 ∨ 1 < g) with h | h | h
  · rw [cmpZ_lt h, decide_eq_false (by omega)]; rfl
  · subst h; rw [cmpZ_eq]; rfl
  · rw [cmpZ_gt h, decide_eq_false (by omega)]; rfl
theorem sgq0 {z : Int} : (sgq z == 0) = decide (z = 0) := by
  unfold sgq
  rcases (by omega : z < 0 ∨ z = 0 ∨ 0 < z) with h | h | h
  · rw [if_pos h, decide_eq_false (by omega)]; rfl
  · subst h; rfl
  · rw [if_neg (by omega), if_pos h, decide_eq_false (by omega)]; rfl
theorem q3From_any (s : ByteArray) (w : World) (M : Nat) (hs : s.size ≤ 1000000) (hOv : OverC M w) (hM : (wds M).length ≤ 1099511627776) (hMs : 10 ^ s.size ≤ M) :
    Calls Tryz.prog 71 #[.string s] w (QF s.data.toList w) := by
  have hlen : s.data.toList.length = s.size := bytes_len s
  rcases cut_cases s.data.toList with h47 | ⟨p, d, h47, hpd⟩
  · have hi := (rat_valid_int h47).symm
    cases hb : intB s.data.toList
    · have hr : ratB s.data.toList = false := ratB_no fun hr => by
        have := (intB_iff _).2 (hi.2 hr); rw [hb] at this; cases this
      refine (from_m0 s w hs h47 hb).mono ?_
      rintro e w' ⟨v, rfl, hq, hE⟩
      exact ⟨v, _, by rw [hr], hq, fun x hx => absurd (ratB_of ⟨x, hx⟩) (by rw [hr]; simp), hE⟩
    · obtain ⟨z, hz⟩ := (intB_iff _).1 hb
      have hr : ratB s.data.toList = true := ratB_of (hi.1 ⟨z, hz⟩)
      refine (from_m1 s w hs h47 z hz hb).mono ?_
      rintro e w' ⟨v, rfl, hq, hE⟩
      refine ⟨v, _, by rw [hr], hq, fun x hx => ?_, hE⟩
      rw [hz, ← rtext_of_int] at hx
      exact rtext_inj hx
  · have hl2 : p.length + 1 + d.length = s.size := by rw [← hlen, hpd]; simp; omega
    have hiff := rat_valid_frac (d := d) h47
    have hno : (∀ (z : Int) (n : Nat), p = Lib.itoa z → d = Lib.decDigits n → z ≠ 0 → n ≠ 0 → n ≠ 1 → Nat.gcd z.natAbs n = 1 → False) → ratB s.data.toList = false := by
      intro hf
      refine ratB_no fun hr => ?_
      unfold RatS at hr
      rw [hpd] at hr
      obtain ⟨z, n, a1, a2, a3, a4, a5, a6⟩ := hiff.1 hr
      exact hf z n a1 a2 a3 a4 a5 a6
    have bad : ratB s.data.toList = false → ∀ e w', (∃ v, e = .returned (.tuple #[v, .bool false]) ∧ QV w' v ((0 : Int) : Rat) ∧ Ext w w') → QF s.data.toList w e w' := by
      rintro hr e w' ⟨v, rfl, hq, hE⟩
      exact ⟨v, _, by rw [hr], hq, fun x hx => absurd (ratB_of ⟨x, hx⟩) (by rw [hr]; simp), hE⟩
    cases hp : intB p
    · exact (from_s0 s w hs p d hpd h47 hp).mono (bad (hno fun z n a1 _ _ _ _ _ => by rw [a1, intB_itoa] at hp; cases hp))
    · cases hd : canB d
      · exact (from_s1 s w hs p d hpd h47 hp hd).mono (bad (hno fun z n _ a2 _ _ _ _ => by rw [a2, canB_dec] at hd; cases hd))
      · obtain ⟨z, hz⟩ := (intB_iff p).1 hp
        obtain ⟨n, hn⟩ := (canon_iff d).1 ((canB_iff d).1 hd)
        have hzM : z.natAbs ≤ M := by
          have h1 := dec_len_lt z.natAbs
          have h2 := itoa_abs_len z
          rw [← hz] at h2
          have h3 : 10 ^ (Lib.decDigits z.natAbs).length ≤ 10 ^ s.size := Nat.pow_le_pow_right (by omega) (by omega)
          omega
        have hnM : n ≤ M := by
          have h1 := dec_len_lt n
          rw [← hn] at h1
          have h3 : 10 ^ d.length ≤ 10 ^ s.size := Nat.pow_le_pow_right (by omega) (by omega)
          omega
        have same : ∀ (P : Int → Nat → Prop), (P z n → False) → ∀ (z' : Int) (n' : Nat), p = Lib.itoa z' → d = Lib.decDigits n' → P z' n' → False := by
          intro P hP z' n' e1 e2 h
          rw [hz] at e1; rw [hn] at e2
          rw [itoa_inj e1, dec_inj e2] at hP
          exact hP h
        by_cases h1 : n ≤ 1
        · refine (from_s2 s w hs p d hpd h47 z n hz hn hp hd M hOv hM hzM hnM ?_).mono (bad (hno fun z' n' a1 a2 a3 a4 a5 a6 => same (fun _ n => n ≠ 0 ∧ n ≠ 1) (by omega) z' n' a1 a2 ⟨a4, a5⟩))
          rcases (by omega : n < 1 ∨ n = 1) with h | h
          · rw [cmpZ_lt h]; decide
          · subst h; rw [cmpZ_eq]; decide
        · have hc : cmpZ n 1 = 1 := cmpZ_gt (by omega)
          by_cases h0 : z = 0
          · exact (from_s3 s w hs p d hpd h47 z n hz hn hp hd M hOv hM hzM hnM hc (by rw [sgq0, decide_eq_true h0])).mono (bad (hno fun z' n' a1 a2 a3 a4 a5 a6 => same (fun z _ => z ≠ 0) (fun h => h h0) z' n' a1 a2 a3))
          · by_cases hg : Nat.gcd z.natAbs n = 1
            · have hr : s.data.toList = rtext ⟨z, n, by omega, hg⟩ := by
                rw [hpd, hz, hn]; exact rat_of_frac (by omega) (by omega) hg
              refine (from_s5 s w hs p d hpd h47 z n hz hn hp hd M hOv hM hzM hnM hc (by rw [sgq0, decide_eq_false h0]) (by rw [cmp1, decide_eq_true hg]) ⟨z, n, by omega, hg⟩ rfl rfl).mono ?_
              rintro e w' ⟨v, rfl, hq, hE⟩
              exact ⟨v, _, by rw [ratB_of ⟨_, hr⟩], hq, fun x hx => rtext_inj (hr.symm.trans hx), hE⟩
            · exact (from_s4 s w hs p d hpd h47 z n hz hn hp hd M hOv hM hzM hnM hc (by rw [sgq0, decide_eq_false h0]) (by rw [cmp1, decide_eq_false hg])).mono (bad (hno fun z' n' a1 a2 a3 a4 a5 a6 => same (fun z n => Nat.gcd z.natAbs n = 1) hg z' n' a1 a2 a6))
end Go.Proofs.YtbldlibijojbjaaGreatDoor.GB
