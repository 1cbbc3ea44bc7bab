import Derived.Test.YtbldlibijojbjaaGreatDoorMIg
import Derived.Test.YtbldlibijojbjaaGreatDoorMSa
import Derived.Test.YtbldlibijojbjaaGreatDoorCAw
namespace Go.Proofs.YtbldlibijojbjaaGreatDoor.GB
set_option linter.unusedVariables false
set_option linter.unusedSimpArgs false
open Go.RowKit Go.Shelf
attribute [local go_sem ↓] Go.wp_at_zero Go.wp_at_succ
/-- The texts of a valid polynomial whose numbers are short. -/
theorem po_of {w : World} {v : Value} {p : Pl} (h : SlS w v (p.map rb)) (tp : Tr p) (hl : p.length ≤ 17) (hs : ∀ s ∈ p.map rb, s.size ≤ 12) : PO w v p 48 := by
  refine ⟨h, fun q hq => ?_, tp, hl⟩
  have h1 := hs (rb q) (List.mem_map_of_mem hq)
  have h2 : (rb q).size = (rtext q).length := by simp [rb, ByteArray.size]
  exact (Bd.of_len q).mono (by omega)
theorem SlS.slc {w : World} {v : Value} {l : List ByteArray} (h : SlS w v l) : ∃ A c, v = .slice A l.length c := by
  obtain ⟨A, c, e, _⟩ := h; exact ⟨A, c, e⟩
theorem few2 (x : ByteArray) (w : World) (v1 v2 : Value) (l m : List ByteArray) (T : TypeId) (h1 : SlS w v1 l) (h2 : SlS w v2 m) :
    Calls Tryz.prog 19 #[.string x, .slice (some ⟨w.heap.size, 0, none⟩) 2 2] (w.alloc (.cells #[v1, v2] T)) fun e w' => e = .returned (.bool (decide (x.size ≤ 20) && (fewB l && fewB m))) ∧ Ext (w.alloc (.cells #[v1, v2] T)) w' := by
  have h := few_any x (some ⟨w.heap.size, 0, none⟩) 2 [(v1, l), (v2, m)] _ (show 2 ≤ 1000 by decide) (two_polys w v1 v2 l m T h1 h2)
  have e : [(v1, l), (v2, m)].all (fun x => fewB x.2) = (fewB l && fewB m) := by simp
  rw [e] at h
  exact h
/-- Short texts make a short polynomial, or none. -/
theorem sb_few {l : List ByteArray} (h : fewB l = true) : SB l := fun s hs => by have := fewB_txt h s hs; omega
theorem mul_po {w : World} {v : Value} {p r : Pl} {n m : Nat} (hp : PB p n) (hr : PB r m) (tp : Tr p) (tr : Tr r) (lp : p.length ≤ 17) (lr : r.length ≤ 17) (hl : p = [] ∨ r = [] ∨ p.length + r.length ≤ 18) (h : PS w v (ptrim (pmul p r))) : PO w v (ptrim (pmul p r)) (17 * (n + m + 1)) := by
  refine ⟨h, PB.trim fun j => (pb_mul p r n m hp hr j).mono (Nat.mul_le_mul_right _ lp), tr_ptrim _, ?_⟩
  by_cases h1 : p = []
  · subst h1; exact Nat.zero_le _
  · by_cases h2 : r = []
    · subst h2
      refine Nat.le_trans (ptrim_len _) (Nat.le_trans (pmul_len _ _) ?_)
      simpa using lp
    · rw [(pmul_tr tp tr h1 h2).1]
      rcases hl with h | h | h
      · exact absurd h h1
      · exact absurd h h2
      · omega
theorem PO.pint {w : World} {v : Value} {p : Pl} {n : Nat} (h : PS w v (pint p)) (hp : PB p n) (tp : Tr p) (hl : p.length ≤ 16) : PO w v (GB.pint p) (n + 21) :=
  ⟨h, pint_pb hp (by omega), pint_tr tp, by rw [pint_len]; split <;> omega⟩
theorem PO.pder {w : World} {v : Value} {p : Pl} {n : Nat} (h : PS w v (pder p)) (hp : PB p n) (tp : Tr p) (hl : p.length ≤ 17) : PO w v (GB.pder p) (n + 20) :=
  ⟨h, pder_pb hp (by omega), pder_tr tp, by rw [pder_len]; omega⟩
theorem d_len1 {p r : Pl} (h : p = [] ∨ r = [] ∨ p.length + r.length ≤ 18) : pder p = [] ∨ r = [] ∨ (pder p).length + r.length ≤ 18 := by
  rcases h with h | h | h
  · left; subst h; rfl
  · exact .inr (.inl h)
  · rw [pder_len]; omega
theorem d_len2 {p r : Pl} (h : p = [] ∨ r = [] ∨ p.length + r.length ≤ 18) : p = [] ∨ pder r = [] ∨ p.length + (pder r).length ≤ 18 := by
  rcases h with h | h | h
  · exact .inl h
  · right; left; subst h; rfl
  · rw [pder_len]; omega
set_option maxHeartbeats 16000000 in
set_option maxRecDepth 400000 in
theorem rules_few (v1 v2 : Value) (l m : List ByteArray) (w : World) (hW : Wd w) (h1 : SlS w v1 l) (h2 : SlS w v2 m) (hfew : (decide ((⟨#[]⟩ : ByteArray).size ≤ 20) && (fewB l && fewB m)) = false) : Calls Tryz.prog 9 #[v1, v2] w fun e w' => e = .returned (.bool true) ∧ Ext w w' := by
  obtain ⟨A1, c1, rfl⟩ := h1.slc
  obtain ⟨A2, c2, rfl⟩ := h2.slc
  have HW := Lib.hid hW
  have HE := Lib.hid (Ext.rfl' w)
  have H1 := Lib.hid h1
  have H2 := Lib.hid h2
  clear hW h1 h2
  go_enter Tryz.func9, Tryz.ntmps9
  go_wp2_with fail
  refine (awake_v _ HW.out).mono ?_
  rintro e W1 ⟨rfl, hE⟩
  replace H1 := SlS.hext H1 hE
  replace H2 := SlS.hext H2 hE
  replace HW := Wd.hext HW hE
  replace HE := Lib.hid (HE.out.tr hE)
  clear hE
  go_wp2_with fail
  have hF := few2 ⟨#[]⟩ W1 (.slice A1 l.length c1) (.slice A2 m.length c2) l m 25 H1.out H2.out
  rw [hfew] at hF
  have hE := (Ext.rfl' W1).al (.cells #[(.slice A1 l.length c1), (.slice A2 m.length c2)] 25)
  generalize hWn : W1.alloc (.cells #[(.slice A1 l.length c1), (.slice A2 m.length c2)] 25) = W2 at *
  clear hWn
  replace H1 := SlS.hext H1 hE
  replace H2 := SlS.hext H2 hE
  replace HW := Wd.hext HW hE
  replace HE := Lib.hid (HE.out.tr hE)
  clear hE
  refine (hF).mono ?_
  rintro e W3 ⟨rfl, hE⟩
  replace H1 := SlS.hext H1 hE
  replace H2 := SlS.hext H2 hE
  replace HW := Wd.hext HW hE
  replace HE := Lib.hid (HE.out.tr hE)
  clear hE
  clear hF
  go_wp2_with fail
  refine (awake_v _ HW.out).mono ?_
  rintro e W4 ⟨rfl, hE⟩
  replace H1 := SlS.hext H1 hE
  replace H2 := SlS.hext H2 hE
  replace HW := Wd.hext HW hE
  replace HE := Lib.hid (HE.out.tr hE)
  clear hE
  go_wp2_with fail
  go_ret
  exact ⟨rfl, HE.out⟩
set_option maxHeartbeats 16000000 in
set_option maxRecDepth 400000 in
theorem rules_bad1 (v1 v2 : Value) (l m : List ByteArray) (w : World) (hW : Wd w) (h1 : SlS w v1 l) (h2 : SlS w v2 m) (hfew : (decide ((⟨#[]⟩ : ByteArray).size ≤ 20) && (fewB l && fewB m)) = true) (hs1 : SB l) (hb1 : polB l = false) : Calls Tryz.prog 9 #[v1, v2] w fun e w' => e = .returned (.bool true) ∧ Ext w w' := by
  obtain ⟨A1, c1, rfl⟩ := h1.slc
  obtain ⟨A2, c2, rfl⟩ := h2.slc
  have HW := Lib.hid hW
  have HE := Lib.hid (Ext.rfl' w)
  have H1 := Lib.hid h1
  have H2 := Lib.hid h2
  clear hW h1 h2
  go_enter Tryz.func9, Tryz.ntmps9
  go_wp2_with fail
  refine (awake_v _ HW.out).mono ?_
  rintro e W1 ⟨rfl, hE⟩
  replace H1 := SlS.hext H1 hE
  replace H2 := SlS.hext H2 hE
  replace HW := Wd.hext HW hE
  replace HE := Lib.hid (HE.out.tr hE)
  clear hE
  go_wp2_with fail
  have hF := few2 ⟨#[]⟩ W1 (.slice A1 l.length c1) (.slice A2 m.length c2) l m 25 H1.out H2.out
  rw [hfew] at hF
  have hE := (Ext.rfl' W1).al (.cells #[(.slice A1 l.length c1), (.slice A2 m.length c2)] 25)
  generalize hWn : W1.alloc (.cells #[(.slice A1 l.length c1), (.slice A2 m.length c2)] 25) = W2 at *
  clear hWn
  replace H1 := SlS.hext H1 hE
  replace H2 := SlS.hext H2 hE
  replace HW := Wd.hext HW hE
  replace HE := Lib.hid (HE.out.tr hE)
  clear hE
  refine (hF).mono ?_
  rintro e W3 ⟨rfl, hE⟩
  replace H1 := SlS.hext H1 hE
  replace H2 := SlS.hext H2 hE
  replace HW := Wd.hext HW hE
  replace HE := Lib.hid (HE.out.tr hE)
  clear hE
  clear hF
  go_wp2_with fail
  have hv := pValid_any _ l _ HW.out H1.out hs1
  rw [hb1] at hv
  refine (hv _ (Ext.rfl' _)).mono ?_
  rintro e W4 ⟨rfl, hE⟩
  replace H1 := SlS.hext H1 hE
  replace H2 := SlS.hext H2 hE
  replace HW := Wd.hext HW hE
  replace HE := Lib.hid (HE.out.tr hE)
  clear hE
  clear hv
  go_wp2_with fail
  refine (awake_v _ HW.out).mono ?_
  rintro e W5 ⟨rfl, hE⟩
  replace H1 := SlS.hext H1 hE
  replace H2 := SlS.hext H2 hE
  replace HW := Wd.hext HW hE
  replace HE := Lib.hid (HE.out.tr hE)
  clear hE
  go_wp2_with fail
  go_ret
  exact ⟨rfl, HE.out⟩
set_option maxHeartbeats 16000000 in
set_option maxRecDepth 400000 in
theorem rules_bad2 (v1 v2 : Value) (l m : List ByteArray) (w : World) (hW : Wd w) (h1 : SlS w v1 l) (h2 : SlS w v2 m) (hfew : (decide ((⟨#[]⟩ : ByteArray).size ≤ 20) && (fewB l && fewB m)) = true) (hs1 : SB l) (hb1 : polB l = true) (hs2 : SB m) (hb2 : polB m = false) : Calls Tryz.prog 9 #[v1, v2] w fun e w' => e = .returned (.bool true) ∧ Ext w w' := by
  obtain ⟨A1, c1, rfl⟩ := h1.slc
  obtain ⟨A2, c2, rfl⟩ := h2.slc
  have HW := Lib.hid hW
  have HE := Lib.hid (Ext.rfl' w)
  have H1 := Lib.hid h1
  have H2 := Lib.hid h2
  clear hW h1 h2
  go_enter Tryz.func9, Tryz.ntmps9
  go_wp2_with fail
  refine (awake_v _ HW.out).mono ?_
  rintro e W1 ⟨rfl, hE⟩
  replace H1 := SlS.hext H1 hE
  replace H2 := SlS.hext H2 hE
  replace HW := Wd.hext HW hE
  replace HE := Lib.hid (HE.out.tr hE)
  clear hE
  go_wp2_with fail
  have hF := few2 ⟨#[]⟩ W1 (.slice A1 l.length c1) (.slice A2 m.length c2) l m 25 H1.out H2.out
  rw [hfew] at hF
  have hE := (Ext.rfl' W1).al (.cells #[(.slice A1 l.length c1), (.slice A2 m.length c2)] 25)
  generalize hWn : W1.alloc (.cells #[(.slice A1 l.length c1), (.slice A2 m.length c2)] 25) = W2 at *
  clear hWn
  replace H1 := SlS.hext H1 hE
  replace H2 := SlS.hext H2 hE
  replace HW := Wd.hext HW hE
  replace HE := Lib.hid (HE.out.tr hE)
  clear hE
  refine (hF).mono ?_
  rintro e W3 ⟨rfl, hE⟩
  replace H1 := SlS.hext H1 hE
  replace H2 := SlS.hext H2 hE
  replace HW := Wd.hext HW hE
  replace HE := Lib.hid (HE.out.tr hE)
  clear hE
  clear hF
  go_wp2_with fail
  have hv := pValid_any _ l _ HW.out H1.out hs1
  rw [hb1] at hv
  refine (hv _ (Ext.rfl' _)).mono ?_
  rintro e W4 ⟨rfl, hE⟩
  replace H1 := SlS.hext H1 hE
  replace H2 := SlS.hext H2 hE
  replace HW := Wd.hext HW hE
  replace HE := Lib.hid (HE.out.tr hE)
  clear hE
  clear hv
  go_wp2_with fail
  have hv := pValid_any _ m _ HW.out H2.out hs2
  rw [hb2] at hv
  refine (hv _ (Ext.rfl' _)).mono ?_
  rintro e W5 ⟨rfl, hE⟩
  replace H1 := SlS.hext H1 hE
  replace H2 := SlS.hext H2 hE
  replace HW := Wd.hext HW hE
  replace HE := Lib.hid (HE.out.tr hE)
  clear hE
  clear hv
  go_wp2_with fail
  refine (awake_v _ HW.out).mono ?_
  rintro e W6 ⟨rfl, hE⟩
  replace H1 := SlS.hext H1 hE
  replace H2 := SlS.hext H2 hE
  replace HW := Wd.hext HW hE
  replace HE := Lib.hid (HE.out.tr hE)
  clear hE
  go_wp2_with fail
  go_ret
  exact ⟨rfl, HE.out⟩
set_option maxHeartbeats 16000000 in
set_option maxRecDepth 400000 in
theorem rules_yes00 (v1 v2 : Value) (p r : Pl) (w : World) (hW : Wd w) (hfew : (decide ((⟨#[]⟩ : ByteArray).size ≤ 20) && (fewB (p.map rb) && fewB (r.map rb))) = true) (hp : PO w v1 p 48) (hr : PO w v2 r 48) (hlim : p.length ≤ 16) (hmul : p = [] ∨ r = [] ∨ p.length + r.length ≤ 18) : Calls Tryz.prog 9 #[v1, v2] w fun e w' => e = .returned (.bool true) ∧ Ext w w' := by
  have HW := Lib.hid hW
  have HE := Lib.hid (Ext.rfl' w)
  have H1 := Lib.hid hp.1
  have H2 := Lib.hid hr.1
  obtain ⟨-, bp, tp, lp⟩ := hp
  obtain ⟨-, br, tr, lr⟩ := hr
  clear hW
  have kk := kk32
  have BP_ := Lib.hid bp
  have TP_ := Lib.hid tp
  have BR_ := Lib.hid br
  have TR_ := Lib.hid tr
  have KK_ := Lib.hid kk
  clear bp tp br tr kk
  obtain ⟨l, hl0⟩ : ∃ l, l = p.map rb := ⟨_, rfl⟩
  obtain ⟨m, hm0⟩ : ∃ m, m = r.map rb := ⟨_, rfl⟩
  rw [← hl0, ← hm0] at hfew
  have HL0 := Lib.hid hl0
  have HM0 := Lib.hid hm0
  have G1 : Hid (SlS w v1 l) := by rw [hl0]; exact H1.out
  have G2 : Hid (SlS w v2 m) := by rw [hm0]; exact H2.out
  clear hl0 hm0
  have LP_ := Lib.hid lp
  have LR_ := Lib.hid lr
  obtain ⟨A1, c1, rfl⟩ := H1.out.sl
  obtain ⟨A2, c2, rfl⟩ := H2.out.sl
  obtain ⟨pn, hpn⟩ : ∃ n, n = p.length := ⟨_, rfl⟩
  obtain ⟨rn, hrn⟩ : ∃ n, n = r.length := ⟨_, rfl⟩
  have HPN := Lib.hid hpn
  have HRN := Lib.hid hrn
  have hpl : pn ≤ 17 := by omega
  have HI : Hid (p.length ≤ 16) := by exact hlim
  have ht1 : (pn : Int) ≤ 16 := by omega
  have HM : Hid (p = [] ∨ r = [] ∨ p.length + r.length ≤ 18) := hmul
  clear hlim hmul lp lr
  rw [← hpn] at H1 G1 ⊢
  rw [← hrn] at H2 G2 ⊢
  clear hpn hrn
  go_enter Tryz.func9, Tryz.ntmps9
  go_wp2_with fail
  refine (awake_v _ HW.out).mono ?_
  rintro e W1 ⟨rfl, hE⟩
  replace H1 := PS.hext H1 hE
  replace H2 := PS.hext H2 hE
  replace G1 := SlS.hext G1 hE
  replace G2 := SlS.hext G2 hE
  replace HW := Wd.hext HW hE
  replace HE := Lib.hid (HE.out.tr hE)
  clear hE
  go_wp2_with fail
  have hF := few2 ⟨#[]⟩ W1 (.slice A1 pn c1) (.slice A2 rn c2) l m 25 G1.out G2.out
  rw [hfew] at hF
  have hE := (Ext.rfl' W1).al (.cells #[(.slice A1 pn c1), (.slice A2 rn c2)] 25)
  generalize hWn : W1.alloc (.cells #[(.slice A1 pn c1), (.slice A2 rn c2)] 25) = W2 at *
  clear hWn
  replace H1 := PS.hext H1 hE
  replace H2 := PS.hext H2 hE
  replace G1 := SlS.hext G1 hE
  replace G2 := SlS.hext G2 hE
  replace HW := Wd.hext HW hE
  replace HE := Lib.hid (HE.out.tr hE)
  clear hE
  refine (hF).mono ?_
  rintro e W3 ⟨rfl, hE⟩
  replace H1 := PS.hext H1 hE
  replace H2 := PS.hext H2 hE
  replace G1 := SlS.hext G1 hE
  replace G2 := SlS.hext G2 hE
  replace HW := Wd.hext HW hE
  replace HE := Lib.hid (HE.out.tr hE)
  clear hE
  clear hF hfew
  clear G1 G2
  go_wp2_with fail
  refine (PO.va (⟨H1.out, BP_.out, TP_.out, LP_.out⟩ : PO _ _ p 48) HW.out (by have kk : 4294967296 ≤ KK := KK_.out; omega) _ (Ext.rfl' _)).mono ?_
  rintro e W4 ⟨rfl, hE⟩
  replace H1 := PS.hext H1 hE
  replace H2 := PS.hext H2 hE
  replace HW := Wd.hext HW hE
  replace HE := Lib.hid (HE.out.tr hE)
  clear hE
  go_wp2_with fail
  refine (PO.va (⟨H2.out, BR_.out, TR_.out, LR_.out⟩ : PO _ _ r 48) HW.out (by have kk : 4294967296 ≤ KK := KK_.out; omega) _ (Ext.rfl' _)).mono ?_
  rintro e W5 ⟨rfl, hE⟩
  replace H1 := PS.hext H1 hE
  replace H2 := PS.hext H2 hE
  replace HW := Wd.hext HW hE
  replace HE := Lib.hid (HE.out.tr hE)
  clear hE
  go_wp2_with fail
  refine (Integrate_p _ p 48 _ HW.out (⟨H1.out, BP_.out, TP_.out, LP_.out⟩ : PO _ _ p 48) HI.out (by have kk : 4294967296 ≤ KK := KK_.out; omega)).mono ?_
  rintro e W6 ⟨v5, rfl, h5, hE⟩
  have H5 := Lib.hid h5
  clear h5
  replace H1 := PS.hext H1 hE
  replace H2 := PS.hext H2 hE
  replace HW := Wd.hext HW hE
  replace HE := Lib.hid (HE.out.tr hE)
  clear hE
  go_wp2_with fail
  refine (Derive_p _ (pint p) 69 _ HW.out (PO.pint (p := p) (n := 48) H5.out BP_.out TP_.out HI.out) (by have kk : 4294967296 ≤ KK := KK_.out; omega)).mono ?_
  rintro e W7 ⟨v7, rfl, h7, hE⟩
  have H7 := Lib.hid h7
  clear h7
  replace H1 := PS.hext H1 hE
  replace H2 := PS.hext H2 hE
  replace H5 := PS.hext H5 hE
  replace HW := Wd.hext HW hE
  replace HE := Lib.hid (HE.out.tr hE)
  clear hE
  replace H7 : Hid (PS W7 v7 p) := by have h := H7.out; rwa [pder_pint] at h
  go_wp2_with fail
  have hEv := Eval_p _ (pint p) 69 _ HW.out (PO.pint (p := p) (n := 48) H5.out BP_.out TP_.out HI.out) 0 1 (Bd.of_int 0 1 (by decide)) (by have kk : 4294967296 ≤ KK := KK_.out; omega)
  unfold RetR at hEv
  rw [pev_pint0, ← rb_v, rb0] at hEv
  refine (hEv).mono ?_
  rintro e W8 ⟨rfl, hE⟩
  replace H1 := PS.hext H1 hE
  replace H2 := PS.hext H2 hE
  replace H5 := PS.hext H5 hE
  replace H7 := PS.hext H7 hE
  replace HW := Wd.hext HW hE
  replace HE := Lib.hid (HE.out.tr hE)
  clear hE
  clear hEv
  go_wp2_with fail
  refine (aw_same _ _ p _ H7.out H1.out).mono ?_
  rintro e W9 ⟨rfl, hE⟩
  replace H1 := PS.hext H1 hE
  replace H2 := PS.hext H2 hE
  replace H5 := PS.hext H5 hE
  replace H7 := PS.hext H7 hE
  replace HW := Wd.hext HW hE
  replace HE := Lib.hid (HE.out.tr hE)
  clear hE
  go_wp2_with fail
  refine (Mul_p _ _ p r 48 48 _ HW.out (⟨H1.out, BP_.out, TP_.out, LP_.out⟩ : PO _ _ p 48) (⟨H2.out, BR_.out, TR_.out, LR_.out⟩ : PO _ _ r 48) HM.out (by have kk : 4294967296 ≤ KK := KK_.out; omega)).mono ?_
  rintro e W10 ⟨v11, rfl, h11, hE⟩
  have H11 := Lib.hid h11
  clear h11
  replace H1 := PS.hext H1 hE
  replace H2 := PS.hext H2 hE
  replace H5 := PS.hext H5 hE
  replace H7 := PS.hext H7 hE
  replace HW := Wd.hext HW hE
  replace HE := Lib.hid (HE.out.tr hE)
  clear hE
  go_wp2_with fail
  refine (Derive_p _ p 48 _ HW.out (⟨H1.out, BP_.out, TP_.out, LP_.out⟩ : PO _ _ p 48) (by have kk : 4294967296 ≤ KK := KK_.out; omega)).mono ?_
  rintro e W11 ⟨v13, rfl, h13, hE⟩
  have H13 := Lib.hid h13
  clear h13
  replace H1 := PS.hext H1 hE
  replace H2 := PS.hext H2 hE
  replace H5 := PS.hext H5 hE
  replace H7 := PS.hext H7 hE
  replace H11 := PS.hext H11 hE
  replace HW := Wd.hext HW hE
  replace HE := Lib.hid (HE.out.tr hE)
  clear hE
  go_wp2_with fail
  refine (Derive_p _ r 48 _ HW.out (⟨H2.out, BR_.out, TR_.out, LR_.out⟩ : PO _ _ r 48) (by have kk : 4294967296 ≤ KK := KK_.out; omega)).mono ?_
  rintro e W12 ⟨v15, rfl, h15, hE⟩
  have H15 := Lib.hid h15
  clear h15
  replace H1 := PS.hext H1 hE
  replace H2 := PS.hext H2 hE
  replace H5 := PS.hext H5 hE
  replace H7 := PS.hext H7 hE
  replace H11 := PS.hext H11 hE
  replace H13 := PS.hext H13 hE
  replace HW := Wd.hext HW hE
  replace HE := Lib.hid (HE.out.tr hE)
  clear hE
  go_wp2_with fail
  refine (Derive_p _ _ _ _ HW.out (mul_po BP_.out BR_.out TP_.out TR_.out LP_.out LR_.out HM.out H11.out) (by have kk : 4294967296 ≤ KK := KK_.out; omega)).mono ?_
  rintro e W13 ⟨v17, rfl, h17, hE⟩
  have H17 := Lib.hid h17
  clear h17
  replace H1 := PS.hext H1 hE
  replace H2 := PS.hext H2 hE
  replace H5 := PS.hext H5 hE
  replace H7 := PS.hext H7 hE
  replace H11 := PS.hext H11 hE
  replace H13 := PS.hext H13 hE
  replace H15 := PS.hext H15 hE
  replace HW := Wd.hext HW hE
  replace HE := Lib.hid (HE.out.tr hE)
  clear hE
  go_wp2_with fail
  refine (Mul_p _ _ (pder p) r 68 48 _ HW.out (PO.pder H13.out BP_.out TP_.out LP_.out) (⟨H2.out, BR_.out, TR_.out, LR_.out⟩ : PO _ _ r 48) (d_len1 HM.out) (by have kk : 4294967296 ≤ KK := KK_.out; omega)).mono ?_
  rintro e W14 ⟨v19, rfl, h19, hE⟩
  have H19 := Lib.hid h19
  clear h19
  replace H1 := PS.hext H1 hE
  replace H2 := PS.hext H2 hE
  replace H5 := PS.hext H5 hE
  replace H7 := PS.hext H7 hE
  replace H11 := PS.hext H11 hE
  replace H13 := PS.hext H13 hE
  replace H15 := PS.hext H15 hE
  replace H17 := PS.hext H17 hE
  replace HW := Wd.hext HW hE
  replace HE := Lib.hid (HE.out.tr hE)
  clear hE
  go_wp2_with fail
  refine (Mul_p _ _ p (pder r) 48 68 _ HW.out (⟨H1.out, BP_.out, TP_.out, LP_.out⟩ : PO _ _ p 48) (PO.pder H15.out BR_.out TR_.out LR_.out) (d_len2 HM.out) (by have kk : 4294967296 ≤ KK := KK_.out; omega)).mono ?_
  rintro e W15 ⟨v21, rfl, h21, hE⟩
  have H21 := Lib.hid h21
  clear h21
  replace H1 := PS.hext H1 hE
  replace H2 := PS.hext H2 hE
  replace H5 := PS.hext H5 hE
  replace H7 := PS.hext H7 hE
  replace H11 := PS.hext H11 hE
  replace H13 := PS.hext H13 hE
  replace H15 := PS.hext H15 hE
  replace H17 := PS.hext H17 hE
  replace H19 := PS.hext H19 hE
  replace HW := Wd.hext HW hE
  replace HE := Lib.hid (HE.out.tr hE)
  clear hE
  go_wp2_with fail
  refine (Add_p _ _ _ _ _ _ _ HW.out (mul_po (PO.pder H13.out BP_.out TP_.out LP_.out).2.1 BR_.out (PO.pder H13.out BP_.out TP_.out LP_.out).2.2.1 TR_.out (PO.pder H13.out BP_.out TP_.out LP_.out).2.2.2 LR_.out (d_len1 HM.out) H19.out) (mul_po BP_.out (PO.pder H15.out BR_.out TR_.out LR_.out).2.1 TP_.out (PO.pder H15.out BR_.out TR_.out LR_.out).2.2.1 LP_.out (PO.pder H15.out BR_.out TR_.out LR_.out).2.2.2 (d_len2 HM.out) H21.out) (by have kk : 4294967296 ≤ KK := KK_.out; omega)).mono ?_
  rintro e W16 ⟨v23, rfl, h23, hE⟩
  have H23 := Lib.hid h23
  clear h23
  replace H1 := PS.hext H1 hE
  replace H2 := PS.hext H2 hE
  replace H5 := PS.hext H5 hE
  replace H7 := PS.hext H7 hE
  replace H11 := PS.hext H11 hE
  replace H13 := PS.hext H13 hE
  replace H15 := PS.hext H15 hE
  replace H17 := PS.hext H17 hE
  replace H19 := PS.hext H19 hE
  replace H21 := PS.hext H21 hE
  replace HW := Wd.hext HW hE
  replace HE := Lib.hid (HE.out.tr hE)
  clear hE
  replace H23 : Hid (PS W16 v23 (pder (ptrim (pmul p r)))) := by rw [D_rule]; exact H23.out
  go_wp2_with fail
  refine (aw_same _ _ _ _ H17.out H23.out).mono ?_
  rintro e W17 ⟨rfl, hE⟩
  replace H1 := PS.hext H1 hE
  replace H2 := PS.hext H2 hE
  replace H5 := PS.hext H5 hE
  replace H7 := PS.hext H7 hE
  replace H11 := PS.hext H11 hE
  replace H13 := PS.hext H13 hE
  replace H15 := PS.hext H15 hE
  replace H17 := PS.hext H17 hE
  replace H19 := PS.hext H19 hE
  replace H21 := PS.hext H21 hE
  replace H23 := PS.hext H23 hE
  replace HW := Wd.hext HW hE
  replace HE := Lib.hid (HE.out.tr hE)
  clear hE
  go_wp2_with fail
  go_ret
  exact ⟨rfl, HE.out⟩
set_option maxHeartbeats 16000000 in
set_option maxRecDepth 400000 in
theorem rules_yes01 (v1 v2 : Value) (p r : Pl) (w : World) (hW : Wd w) (hfew : (decide ((⟨#[]⟩ : ByteArray).size ≤ 20) && (fewB (p.map rb) && fewB (r.map rb))) = true) (hp : PO w v1 p 48) (hr : PO w v2 r 48) (hlim : p.length ≤ 16) (hmul : p ≠ [] ∧ r ≠ [] ∧ 18 < p.length + r.length) : Calls Tryz.prog 9 #[v1, v2] w fun e w' => e = .returned (.bool true) ∧ Ext w w' := by
  have HW := Lib.hid hW
  have HE := Lib.hid (Ext.rfl' w)
  have H1 := Lib.hid hp.1
  have H2 := Lib.hid hr.1
  obtain ⟨-, bp, tp, lp⟩ := hp
  obtain ⟨-, br, tr, lr⟩ := hr
  clear hW
  have kk := kk32
  have BP_ := Lib.hid bp
  have TP_ := Lib.hid tp
  have BR_ := Lib.hid br
  have TR_ := Lib.hid tr
  have KK_ := Lib.hid kk
  clear bp tp br tr kk
  obtain ⟨l, hl0⟩ : ∃ l, l = p.map rb := ⟨_, rfl⟩
  obtain ⟨m, hm0⟩ : ∃ m, m = r.map rb := ⟨_, rfl⟩
  rw [← hl0, ← hm0] at hfew
  have HL0 := Lib.hid hl0
  have HM0 := Lib.hid hm0
  have G1 : Hid (SlS w v1 l) := by rw [hl0]; exact H1.out
  have G2 : Hid (SlS w v2 m) := by rw [hm0]; exact H2.out
  clear hl0 hm0
  have LP_ := Lib.hid lp
  have LR_ := Lib.hid lr
  obtain ⟨A1, c1, rfl⟩ := H1.out.sl
  obtain ⟨A2, c2, rfl⟩ := H2.out.sl
  obtain ⟨pn, hpn⟩ : ∃ n, n = p.length := ⟨_, rfl⟩
  obtain ⟨rn, hrn⟩ : ∃ n, n = r.length := ⟨_, rfl⟩
  have HPN := Lib.hid hpn
  have HRN := Lib.hid hrn
  have hpl : pn ≤ 17 := by omega
  have HI : Hid (p.length ≤ 16) := by exact hlim
  have ht1 : (pn : Int) ≤ 16 := by omega
  have HM : Hid (p ≠ [] ∧ r ≠ [] ∧ 18 < p.length + r.length) := hmul
  clear hlim hmul lp lr
  rw [← hpn] at H1 G1 ⊢
  rw [← hrn] at H2 G2 ⊢
  clear hpn hrn
  go_enter Tryz.func9, Tryz.ntmps9
  go_wp2_with fail
  refine (awake_v _ HW.out).mono ?_
  rintro e W1 ⟨rfl, hE⟩
  replace H1 := PS.hext H1 hE
  replace H2 := PS.hext H2 hE
  replace G1 := SlS.hext G1 hE
  replace G2 := SlS.hext G2 hE
  replace HW := Wd.hext HW hE
  replace HE := Lib.hid (HE.out.tr hE)
  clear hE
  go_wp2_with fail
  have hF := few2 ⟨#[]⟩ W1 (.slice A1 pn c1) (.slice A2 rn c2) l m 25 G1.out G2.out
  rw [hfew] at hF
  have hE := (Ext.rfl' W1).al (.cells #[(.slice A1 pn c1), (.slice A2 rn c2)] 25)
  generalize hWn : W1.alloc (.cells #[(.slice A1 pn c1), (.slice A2 rn c2)] 25) = W2 at *
  clear hWn
  replace H1 := PS.hext H1 hE
  replace H2 := PS.hext H2 hE
  replace G1 := SlS.hext G1 hE
  replace G2 := SlS.hext G2 hE
  replace HW := Wd.hext HW hE
  replace HE := Lib.hid (HE.out.tr hE)
  clear hE
  refine (hF).mono ?_
  rintro e W3 ⟨rfl, hE⟩
  replace H1 := PS.hext H1 hE
  replace H2 := PS.hext H2 hE
  replace G1 := SlS.hext G1 hE
  replace G2 := SlS.hext G2 hE
  replace HW := Wd.hext HW hE
  replace HE := Lib.hid (HE.out.tr hE)
  clear hE
  clear hF hfew
  clear G1 G2
  go_wp2_with fail
  refine (PO.va (⟨H1.out, BP_.out, TP_.out, LP_.out⟩ : PO _ _ p 48) HW.out (by have kk : 4294967296 ≤ KK := KK_.out; omega) _ (Ext.rfl' _)).mono ?_
  rintro e W4 ⟨rfl, hE⟩
  replace H1 := PS.hext H1 hE
  replace H2 := PS.hext H2 hE
  replace HW := Wd.hext HW hE
  replace HE := Lib.hid (HE.out.tr hE)
  clear hE
  go_wp2_with fail
  refine (PO.va (⟨H2.out, BR_.out, TR_.out, LR_.out⟩ : PO _ _ r 48) HW.out (by have kk : 4294967296 ≤ KK := KK_.out; omega) _ (Ext.rfl' _)).mono ?_
  rintro e W5 ⟨rfl, hE⟩
  replace H1 := PS.hext H1 hE
  replace H2 := PS.hext H2 hE
  replace HW := Wd.hext HW hE
  replace HE := Lib.hid (HE.out.tr hE)
  clear hE
  go_wp2_with fail
  refine (Integrate_p _ p 48 _ HW.out (⟨H1.out, BP_.out, TP_.out, LP_.out⟩ : PO _ _ p 48) HI.out (by have kk : 4294967296 ≤ KK := KK_.out; omega)).mono ?_
  rintro e W6 ⟨v5, rfl, h5, hE⟩
  have H5 := Lib.hid h5
  clear h5
  replace H1 := PS.hext H1 hE
  replace H2 := PS.hext H2 hE
  replace HW := Wd.hext HW hE
  replace HE := Lib.hid (HE.out.tr hE)
  clear hE
  go_wp2_with fail
  refine (Derive_p _ (pint p) 69 _ HW.out (PO.pint (p := p) (n := 48) H5.out BP_.out TP_.out HI.out) (by have kk : 4294967296 ≤ KK := KK_.out; omega)).mono ?_
  rintro e W7 ⟨v7, rfl, h7, hE⟩
  have H7 := Lib.hid h7
  clear h7
  replace H1 := PS.hext H1 hE
  replace H2 := PS.hext H2 hE
  replace H5 := PS.hext H5 hE
  replace HW := Wd.hext HW hE
  replace HE := Lib.hid (HE.out.tr hE)
  clear hE
  replace H7 : Hid (PS W7 v7 p) := by have h := H7.out; rwa [pder_pint] at h
  go_wp2_with fail
  have hEv := Eval_p _ (pint p) 69 _ HW.out (PO.pint (p := p) (n := 48) H5.out BP_.out TP_.out HI.out) 0 1 (Bd.of_int 0 1 (by decide)) (by have kk : 4294967296 ≤ KK := KK_.out; omega)
  unfold RetR at hEv
  rw [pev_pint0, ← rb_v, rb0] at hEv
  refine (hEv).mono ?_
  rintro e W8 ⟨rfl, hE⟩
  replace H1 := PS.hext H1 hE
  replace H2 := PS.hext H2 hE
  replace H5 := PS.hext H5 hE
  replace H7 := PS.hext H7 hE
  replace HW := Wd.hext HW hE
  replace HE := Lib.hid (HE.out.tr hE)
  clear hE
  clear hEv
  go_wp2_with fail
  refine (aw_same _ _ p _ H7.out H1.out).mono ?_
  rintro e W9 ⟨rfl, hE⟩
  replace H1 := PS.hext H1 hE
  replace H2 := PS.hext H2 hE
  replace H5 := PS.hext H5 hE
  replace H7 := PS.hext H7 hE
  replace HW := Wd.hext HW hE
  replace HE := Lib.hid (HE.out.tr hE)
  clear hE
  go_wp2_with fail
  refine (Mul_lim _ _ p r 48 48 _ HW.out (⟨H1.out, BP_.out, TP_.out, LP_.out⟩ : PO _ _ p 48) (⟨H2.out, BR_.out, TR_.out, LR_.out⟩ : PO _ _ r 48) HM.out.1 HM.out.2.1 HM.out.2.2 (by have kk : 4294967296 ≤ KK := KK_.out; omega)).mono ?_
  rintro e W10 ⟨rfl, hE⟩
  replace H1 := PS.hext H1 hE
  replace H2 := PS.hext H2 hE
  replace H5 := PS.hext H5 hE
  replace H7 := PS.hext H7 hE
  replace HW := Wd.hext HW hE
  replace HE := Lib.hid (HE.out.tr hE)
  clear hE
  go_wp2_with fail
  go_ret
  exact ⟨rfl, HE.out⟩
set_option maxHeartbeats 16000000 in
set_option maxRecDepth 400000 in
theorem rules_yes10 (v1 v2 : Value) (p r : Pl) (w : World) (hW : Wd w) (hfew : (decide ((⟨#[]⟩ : ByteArray).size ≤ 20) && (fewB (p.map rb) && fewB (r.map rb))) = true) (hp : PO w v1 p 48) (hr : PO w v2 r 48) (hlim : 16 < p.length) (hmul : p = [] ∨ r = [] ∨ p.length + r.length ≤ 18) : Calls Tryz.prog 9 #[v1, v2] w fun e w' => e = .returned (.bool true) ∧ Ext w w' := by
  have HW := Lib.hid hW
  have HE := Lib.hid (Ext.rfl' w)
  have H1 := Lib.hid hp.1
  have H2 := Lib.hid hr.1
  obtain ⟨-, bp, tp, lp⟩ := hp
  obtain ⟨-, br, tr, lr⟩ := hr
  clear hW
  have kk := kk32
  have BP_ := Lib.hid bp
  have TP_ := Lib.hid tp
  have BR_ := Lib.hid br
  have TR_ := Lib.hid tr
  have KK_ := Lib.hid kk
  clear bp tp br tr kk
  obtain ⟨l, hl0⟩ : ∃ l, l = p.map rb := ⟨_, rfl⟩
  obtain ⟨m, hm0⟩ : ∃ m, m = r.map rb := ⟨_, rfl⟩
  rw [← hl0, ← hm0] at hfew
  have HL0 := Lib.hid hl0
  have HM0 := Lib.hid hm0
  have G1 : Hid (SlS w v1 l) := by rw [hl0]; exact H1.out
  have G2 : Hid (SlS w v2 m) := by rw [hm0]; exact H2.out
  clear hl0 hm0
  have LP_ := Lib.hid lp
  have LR_ := Lib.hid lr
  obtain ⟨A1, c1, rfl⟩ := H1.out.sl
  obtain ⟨A2, c2, rfl⟩ := H2.out.sl
  obtain ⟨pn, hpn⟩ : ∃ n, n = p.length := ⟨_, rfl⟩
  obtain ⟨rn, hrn⟩ : ∃ n, n = r.length := ⟨_, rfl⟩
  have HPN := Lib.hid hpn
  have HRN := Lib.hid hrn
  have hpl : pn ≤ 17 := by omega
  have HI : Hid (16 < p.length) := by exact hlim
  have ht1 : ¬ ((pn : Int) ≤ 16) := by omega
  have HM : Hid (p = [] ∨ r = [] ∨ p.length + r.length ≤ 18) := hmul
  clear hlim hmul lp lr
  rw [← hpn] at H1 G1 ⊢
  rw [← hrn] at H2 G2 ⊢
  clear hpn hrn
  go_enter Tryz.func9, Tryz.ntmps9
  go_wp2_with fail
  refine (awake_v _ HW.out).mono ?_
  rintro e W1 ⟨rfl, hE⟩
  replace H1 := PS.hext H1 hE
  replace H2 := PS.hext H2 hE
  replace G1 := SlS.hext G1 hE
  replace G2 := SlS.hext G2 hE
  replace HW := Wd.hext HW hE
  replace HE := Lib.hid (HE.out.tr hE)
  clear hE
  go_wp2_with fail
  have hF := few2 ⟨#[]⟩ W1 (.slice A1 pn c1) (.slice A2 rn c2) l m 25 G1.out G2.out
  rw [hfew] at hF
  have hE := (Ext.rfl' W1).al (.cells #[(.slice A1 pn c1), (.slice A2 rn c2)] 25)
  generalize hWn : W1.alloc (.cells #[(.slice A1 pn c1), (.slice A2 rn c2)] 25) = W2 at *
  clear hWn
  replace H1 := PS.hext H1 hE
  replace H2 := PS.hext H2 hE
  replace G1 := SlS.hext G1 hE
  replace G2 := SlS.hext G2 hE
  replace HW := Wd.hext HW hE
  replace HE := Lib.hid (HE.out.tr hE)
  clear hE
  refine (hF).mono ?_
  rintro e W3 ⟨rfl, hE⟩
  replace H1 := PS.hext H1 hE
  replace H2 := PS.hext H2 hE
  replace G1 := SlS.hext G1 hE
  replace G2 := SlS.hext G2 hE
  replace HW := Wd.hext HW hE
  replace HE := Lib.hid (HE.out.tr hE)
  clear hE
  clear hF hfew
  clear G1 G2
  go_wp2_with fail
  refine (PO.va (⟨H1.out, BP_.out, TP_.out, LP_.out⟩ : PO _ _ p 48) HW.out (by have kk : 4294967296 ≤ KK := KK_.out; omega) _ (Ext.rfl' _)).mono ?_
  rintro e W4 ⟨rfl, hE⟩
  replace H1 := PS.hext H1 hE
  replace H2 := PS.hext H2 hE
  replace HW := Wd.hext HW hE
  replace HE := Lib.hid (HE.out.tr hE)
  clear hE
  go_wp2_with fail
  refine (PO.va (⟨H2.out, BR_.out, TR_.out, LR_.out⟩ : PO _ _ r 48) HW.out (by have kk : 4294967296 ≤ KK := KK_.out; omega) _ (Ext.rfl' _)).mono ?_
  rintro e W5 ⟨rfl, hE⟩
  replace H1 := PS.hext H1 hE
  replace H2 := PS.hext H2 hE
  replace HW := Wd.hext HW hE
  replace HE := Lib.hid (HE.out.tr hE)
  clear hE
  go_wp2_with fail
  refine (Integrate_lim _ p 48 _ HW.out (⟨H1.out, BP_.out, TP_.out, LP_.out⟩ : PO _ _ p 48) HI.out (by have kk : 4294967296 ≤ KK := KK_.out; omega)).mono ?_
  rintro e W6 ⟨rfl, hE⟩
  replace H1 := PS.hext H1 hE
  replace H2 := PS.hext H2 hE
  replace HW := Wd.hext HW hE
  replace HE := Lib.hid (HE.out.tr hE)
  clear hE
  go_wp2_with fail
  refine (Mul_p _ _ p r 48 48 _ HW.out (⟨H1.out, BP_.out, TP_.out, LP_.out⟩ : PO _ _ p 48) (⟨H2.out, BR_.out, TR_.out, LR_.out⟩ : PO _ _ r 48) HM.out (by have kk : 4294967296 ≤ KK := KK_.out; omega)).mono ?_
  rintro e W7 ⟨v11, rfl, h11, hE⟩
  have H11 := Lib.hid h11
  clear h11
  replace H1 := PS.hext H1 hE
  replace H2 := PS.hext H2 hE
  replace HW := Wd.hext HW hE
  replace HE := Lib.hid (HE.out.tr hE)
  clear hE
  go_wp2_with fail
  refine (Derive_p _ p 48 _ HW.out (⟨H1.out, BP_.out, TP_.out, LP_.out⟩ : PO _ _ p 48) (by have kk : 4294967296 ≤ KK := KK_.out; omega)).mono ?_
  rintro e W8 ⟨v13, rfl, h13, hE⟩
  have H13 := Lib.hid h13
  clear h13
  replace H1 := PS.hext H1 hE
  replace H2 := PS.hext H2 hE
  replace H11 := PS.hext H11 hE
  replace HW := Wd.hext HW hE
  replace HE := Lib.hid (HE.out.tr hE)
  clear hE
  go_wp2_with fail
  refine (Derive_p _ r 48 _ HW.out (⟨H2.out, BR_.out, TR_.out, LR_.out⟩ : PO _ _ r 48) (by have kk : 4294967296 ≤ KK := KK_.out; omega)).mono ?_
  rintro e W9 ⟨v15, rfl, h15, hE⟩
  have H15 := Lib.hid h15
  clear h15
  replace H1 := PS.hext H1 hE
  replace H2 := PS.hext H2 hE
  replace H11 := PS.hext H11 hE
  replace H13 := PS.hext H13 hE
  replace HW := Wd.hext HW hE
  replace HE := Lib.hid (HE.out.tr hE)
  clear hE
  go_wp2_with fail
  refine (Derive_p _ _ _ _ HW.out (mul_po BP_.out BR_.out TP_.out TR_.out LP_.out LR_.out HM.out H11.out) (by have kk : 4294967296 ≤ KK := KK_.out; omega)).mono ?_
  rintro e W10 ⟨v17, rfl, h17, hE⟩
  have H17 := Lib.hid h17
  clear h17
  replace H1 := PS.hext H1 hE
  replace H2 := PS.hext H2 hE
  replace H11 := PS.hext H11 hE
  replace H13 := PS.hext H13 hE
  replace H15 := PS.hext H15 hE
  replace HW := Wd.hext HW hE
  replace HE := Lib.hid (HE.out.tr hE)
  clear hE
  go_wp2_with fail
  refine (Mul_p _ _ (pder p) r 68 48 _ HW.out (PO.pder H13.out BP_.out TP_.out LP_.out) (⟨H2.out, BR_.out, TR_.out, LR_.out⟩ : PO _ _ r 48) (d_len1 HM.out) (by have kk : 4294967296 ≤ KK := KK_.out; omega)).mono ?_
  rintro e W11 ⟨v19, rfl, h19, hE⟩
  have H19 := Lib.hid h19
  clear h19
  replace H1 := PS.hext H1 hE
  replace H2 := PS.hext H2 hE
  replace H11 := PS.hext H11 hE
  replace H13 := PS.hext H13 hE
  replace H15 := PS.hext H15 hE
  replace H17 := PS.hext H17 hE
  replace HW := Wd.hext HW hE
  replace HE := Lib.hid (HE.out.tr hE)
  clear hE
  go_wp2_with fail
  refine (Mul_p _ _ p (pder r) 48 68 _ HW.out (⟨H1.out, BP_.out, TP_.out, LP_.out⟩ : PO _ _ p 48) (PO.pder H15.out BR_.out TR_.out LR_.out) (d_len2 HM.out) (by have kk : 4294967296 ≤ KK := KK_.out; omega)).mono ?_
  rintro e W12 ⟨v21, rfl, h21, hE⟩
  have H21 := Lib.hid h21
  clear h21
  replace H1 := PS.hext H1 hE
  replace H2 := PS.hext H2 hE
  replace H11 := PS.hext H11 hE
  replace H13 := PS.hext H13 hE
  replace H15 := PS.hext H15 hE
  replace H17 := PS.hext H17 hE
  replace H19 := PS.hext H19 hE
  replace HW := Wd.hext HW hE
  replace HE := Lib.hid (HE.out.tr hE)
  clear hE
  go_wp2_with fail
  refine (Add_p _ _ _ _ _ _ _ HW.out (mul_po (PO.pder H13.out BP_.out TP_.out LP_.out).2.1 BR_.out (PO.pder H13.out BP_.out TP_.out LP_.out).2.2.1 TR_.out (PO.pder H13.out BP_.out TP_.out LP_.out).2.2.2 LR_.out (d_len1 HM.out) H19.out) (mul_po BP_.out (PO.pder H15.out BR_.out TR_.out LR_.out).2.1 TP_.out (PO.pder H15.out BR_.out TR_.out LR_.out).2.2.1 LP_.out (PO.pder H15.out BR_.out TR_.out LR_.out).2.2.2 (d_len2 HM.out) H21.out) (by have kk : 4294967296 ≤ KK := KK_.out; omega)).mono ?_
  rintro e W13 ⟨v23, rfl, h23, hE⟩
  have H23 := Lib.hid h23
  clear h23
  replace H1 := PS.hext H1 hE
  replace H2 := PS.hext H2 hE
  replace H11 := PS.hext H11 hE
  replace H13 := PS.hext H13 hE
  replace H15 := PS.hext H15 hE
  replace H17 := PS.hext H17 hE
  replace H19 := PS.hext H19 hE
  replace H21 := PS.hext H21 hE
  replace HW := Wd.hext HW hE
  replace HE := Lib.hid (HE.out.tr hE)
  clear hE
  replace H23 : Hid (PS W13 v23 (pder (ptrim (pmul p r)))) := by rw [D_rule]; exact H23.out
  go_wp2_with fail
  refine (aw_same _ _ _ _ H17.out H23.out).mono ?_
  rintro e W14 ⟨rfl, hE⟩
  replace H1 := PS.hext H1 hE
  replace H2 := PS.hext H2 hE
  replace H11 := PS.hext H11 hE
  replace H13 := PS.hext H13 hE
  replace H15 := PS.hext H15 hE
  replace H17 := PS.hext H17 hE
  replace H19 := PS.hext H19 hE
  replace H21 := PS.hext H21 hE
  replace H23 := PS.hext H23 hE
  replace HW := Wd.hext HW hE
  replace HE := Lib.hid (HE.out.tr hE)
  clear hE
  go_wp2_with fail
  go_ret
  exact ⟨rfl, HE.out⟩
set_option maxHeartbeats 16000000 in
set_option maxRecDepth 400000 in
theorem rules_yes11 (v1 v2 : Value) (p r : Pl) (w : World) (hW : Wd w) (hfew : (decide ((⟨#[]⟩ : ByteArray).size ≤ 20) && (fewB (p.map rb) && fewB (r.map rb))) = true) (hp : PO w v1 p 48) (hr : PO w v2 r 48) (hlim : 16 < p.length) (hmul : p ≠ [] ∧ r ≠ [] ∧ 18 < p.length + r.length) : Calls Tryz.prog 9 #[v1, v2] w fun e w' => e = .returned (.bool true) ∧ Ext w w' := by
  have HW := Lib.hid hW
  have HE := Lib.hid (Ext.rfl' w)
  have H1 := Lib.hid hp.1
  have H2 := Lib.hid hr.1
  obtain ⟨-, bp, tp, lp⟩ := hp
  obtain ⟨-, br, tr, lr⟩ := hr
  clear hW
  have kk := kk32
  have BP_ := Lib.hid bp
  have TP_ := Lib.hid tp
  have BR_ := Lib.hid br
  have TR_ := Lib.hid tr
  have KK_ := Lib.hid kk
  clear bp tp br tr kk
  obtain ⟨l, hl0⟩ : ∃ l, l = p.map rb := ⟨_, rfl⟩
  obtain ⟨m, hm0⟩ : ∃ m, m = r.map rb := ⟨_, rfl⟩
  rw [← hl0, ← hm0] at hfew
  have HL0 := Lib.hid hl0
  have HM0 := Lib.hid hm0
  have G1 : Hid (SlS w v1 l) := by rw [hl0]; exact H1.out
  have G2 : Hid (SlS w v2 m) := by rw [hm0]; exact H2.out
  clear hl0 hm0
  have LP_ := Lib.hid lp
  have LR_ := Lib.hid lr
  obtain ⟨A1, c1, rfl⟩ := H1.out.sl
  obtain ⟨A2, c2, rfl⟩ := H2.out.sl
  obtain ⟨pn, hpn⟩ : ∃ n, n = p.length := ⟨_, rfl⟩
  obtain ⟨rn, hrn⟩ : ∃ n, n = r.length := ⟨_, rfl⟩
  have HPN := Lib.hid hpn
  have HRN := Lib.hid hrn
  have hpl : pn ≤ 17 := by omega
  have HI : Hid (16 < p.length) := by exact hlim
  have ht1 : ¬ ((pn : Int) ≤ 16) := by omega
  have HM : Hid (p ≠ [] ∧ r ≠ [] ∧ 18 < p.length + r.length) := hmul
  clear hlim hmul lp lr
  rw [← hpn] at H1 G1 ⊢
  rw [← hrn] at H2 G2 ⊢
  clear hpn hrn
  go_enter Tryz.func9, Tryz.ntmps9
  go_wp2_with fail
  refine (awake_v _ HW.out).mono ?_
  rintro e W1 ⟨rfl, hE⟩
  replace H1 := PS.hext H1 hE
  replace H2 := PS.hext H2 hE
  replace G1 := SlS.hext G1 hE
  replace G2 := SlS.hext G2 hE
  replace HW := Wd.hext HW hE
  replace HE := Lib.hid (HE.out.tr hE)
  clear hE
  go_wp2_with fail
  have hF := few2 ⟨#[]⟩ W1 (.slice A1 pn c1) (.slice A2 rn c2) l m 25 G1.out G2.out
  rw [hfew] at hF
  have hE := (Ext.rfl' W1).al (.cells #[(.slice A1 pn c1), (.slice A2 rn c2)] 25)
  generalize hWn : W1.alloc (.cells #[(.slice A1 pn c1), (.slice A2 rn c2)] 25) = W2 at *
  clear hWn
  replace H1 := PS.hext H1 hE
  replace H2 := PS.hext H2 hE
  replace G1 := SlS.hext G1 hE
  replace G2 := SlS.hext G2 hE
  replace HW := Wd.hext HW hE
  replace HE := Lib.hid (HE.out.tr hE)
  clear hE
  refine (hF).mono ?_
  rintro e W3 ⟨rfl, hE⟩
  replace H1 := PS.hext H1 hE
  replace H2 := PS.hext H2 hE
  replace G1 := SlS.hext G1 hE
  replace G2 := SlS.hext G2 hE
  replace HW := Wd.hext HW hE
  replace HE := Lib.hid (HE.out.tr hE)
  clear hE
  clear hF hfew
  clear G1 G2
  go_wp2_with fail
  refine (PO.va (⟨H1.out, BP_.out, TP_.out, LP_.out⟩ : PO _ _ p 48) HW.out (by have kk : 4294967296 ≤ KK := KK_.out; omega) _ (Ext.rfl' _)).mono ?_
  rintro e W4 ⟨rfl, hE⟩
  replace H1 := PS.hext H1 hE
  replace H2 := PS.hext H2 hE
  replace HW := Wd.hext HW hE
  replace HE := Lib.hid (HE.out.tr hE)
  clear hE
  go_wp2_with fail
  refine (PO.va (⟨H2.out, BR_.out, TR_.out, LR_.out⟩ : PO _ _ r 48) HW.out (by have kk : 4294967296 ≤ KK := KK_.out; omega) _ (Ext.rfl' _)).mono ?_
  rintro e W5 ⟨rfl, hE⟩
  replace H1 := PS.hext H1 hE
  replace H2 := PS.hext H2 hE
  replace HW := Wd.hext HW hE
  replace HE := Lib.hid (HE.out.tr hE)
  clear hE
  go_wp2_with fail
  refine (Integrate_lim _ p 48 _ HW.out (⟨H1.out, BP_.out, TP_.out, LP_.out⟩ : PO _ _ p 48) HI.out (by have kk : 4294967296 ≤ KK := KK_.out; omega)).mono ?_
  rintro e W6 ⟨rfl, hE⟩
  replace H1 := PS.hext H1 hE
  replace H2 := PS.hext H2 hE
  replace HW := Wd.hext HW hE
  replace HE := Lib.hid (HE.out.tr hE)
  clear hE
  go_wp2_with fail
  refine (Mul_lim _ _ p r 48 48 _ HW.out (⟨H1.out, BP_.out, TP_.out, LP_.out⟩ : PO _ _ p 48) (⟨H2.out, BR_.out, TR_.out, LR_.out⟩ : PO _ _ r 48) HM.out.1 HM.out.2.1 HM.out.2.2 (by have kk : 4294967296 ≤ KK := KK_.out; omega)).mono ?_
  rintro e W7 ⟨rfl, hE⟩
  replace H1 := PS.hext H1 hE
  replace H2 := PS.hext H2 hE
  replace HW := Wd.hext HW hE
  replace HE := Lib.hid (HE.out.tr hE)
  clear hE
  go_wp2_with fail
  go_ret
  exact ⟨rfl, HE.out⟩
theorem rules_v (v1 v2 : Value) (l m : List ByteArray) (w : World) (hW : Wd w) (h1 : SlS w v1 l) (h2 : SlS w v2 m) : Calls Tryz.prog 9 #[v1, v2] w fun e w' => e = .returned (.bool true) ∧ Ext w w' := by
  have hx : decide ((⟨#[]⟩ : ByteArray).size ≤ 20) = true := by decide
  cases hf : (fewB l && fewB m)
  · exact rules_few v1 v2 l m w hW h1 h2 (by rw [hf]; simp)
  · have hf2 := hf
    rw [Bool.and_eq_true] at hf2
    cases hb1 : polB l
    · exact rules_bad1 v1 v2 l m w hW h1 h2 (by rw [hf, hx]; rfl) (sb_few hf2.1) hb1
    · cases hb2 : polB m
      · exact rules_bad2 v1 v2 l m w hW h1 h2 (by rw [hf, hx]; rfl) (sb_few hf2.1) hb1 (sb_few hf2.2) hb2
      · obtain ⟨p, rfl, tp, lp⟩ := (polB_iff l).1 hb1
        obtain ⟨r, rfl, tr, lr⟩ := (polB_iff m).1 hb2
        have hp := po_of h1 tp lp (fewB_txt hf2.1)
        have hr := po_of h2 tr lr (fewB_txt hf2.2)
        have hk : (decide ((⟨#[]⟩ : ByteArray).size ≤ 20) && (fewB (p.map rb) && fewB (r.map rb))) = true := by rw [hf, hx]; rfl
        by_cases hlim : p.length ≤ 16
        · by_cases hm : p = [] ∨ r = [] ∨ p.length + r.length ≤ 18
          · exact rules_yes00 v1 v2 p r w hW hk hp hr hlim hm
          · exact rules_yes01 v1 v2 p r w hW hk hp hr hlim ⟨fun e => hm (.inl e), fun e => hm (.inr (.inl e)), Nat.not_le.1 fun e => hm (.inr (.inr e))⟩
        · by_cases hm : p = [] ∨ r = [] ∨ p.length + r.length ≤ 18
          · exact rules_yes10 v1 v2 p r w hW hk hp hr (Nat.not_le.1 hlim) hm
          · exact rules_yes11 v1 v2 p r w hW hk hp hr (Nat.not_le.1 hlim) ⟨fun e => hm (.inl e), fun e => hm (.inr (.inl e)), Nat.not_le.1 fun e => hm (.inr (.inr e))⟩
end Go.Proofs.YtbldlibijojbjaaGreatDoor.GB
