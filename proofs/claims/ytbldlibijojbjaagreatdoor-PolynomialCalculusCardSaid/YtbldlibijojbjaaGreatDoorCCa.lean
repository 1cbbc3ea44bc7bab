import Derived.Test.YtbldlibijojbjaaGreatDoorCJn
import Derived.Test.YtbldlibijojbjaaGreatDoorMHm
import Derived.Test.YtbldlibijojbjaaGreatDoorCFo
import Derived.Test.YtbldlibijojbjaaGreatDoorCCn
namespace Go.Proofs.YtbldlibijojbjaaGreatDoor.GB
set_option linter.unusedVariables false
set_option linter.unusedSimpArgs false
open Go.RowKit Go.Shelf
attribute [local go_sem ↓] Go.wp_at_zero Go.wp_at_succ
/-- A list of texts and a number are handed back. -/
def RetL (k : Int) (L : List ByteArray) (w : World) (e : Ending) (w' : World) : Prop := ∃ v, e = .returned (.tuple #[v, .int .i64 k]) ∧ SlS w' v L ∧ Ext w w'
theorem RetL.ofE {k : Int} {w : World} {e : Ending} {w' : World} (h : RetE k w e w') : RetL k [] w e w' := ⟨_, h.1, SlS.nil _, h.2⟩
theorem RetL.of0 {p : Pl} {w : World} {e : Ending} {w' : World} (h : RetQ0 (fun W u => PS W u p) w e w') : RetL 0 (p.map rb) w e w' := h
theorem Shift_no (v : Value) (l : List ByteArray) (x : ByteArray) (w : World) (hW : Wd w) (h : SlS w v l) (hs : SB l) (hx : x.size ≤ 1000000) (hb : (polB l && ratB x.data.toList) = false) :
    Calls Tryz.prog 37 #[v, .string x] w (RetE 1 w) := by
  have h1 := pValid_any v l w hW h hs
  cases hl : polB l
  · rw [hl] at h1; exact shift_n1 v x w h1
  · rw [hl] at h1 hb
    exact shift_n2 v x w h1 (rva_any x w hW hx false (by simpa using hb))
set_option maxHeartbeats 16000000 in
set_option maxRecDepth 400000 in
theorem calc_few (v : Value) (x : ByteArray) (l : List ByteArray) (w : World) (hW : Wd w) (h1 : SlS w v l) (hfew : (decide (x.size ≤ 20) && fewB l) = false) : Calls Tryz.prog 5 #[v, .string x] w fun e w' => e = .returned (.bool true) ∧ Ext w w' := by
  obtain ⟨A1, c1, rfl⟩ := h1.slc
  have HW := Lib.hid hW
  have HE := Lib.hid (Ext.rfl' w)
  have H1 := Lib.hid h1
  clear hW h1
  go_enter Tryz.func5, Tryz.ntmps5
  go_wp2_with fail
  refine (awake_v _ HW.out).mono ?_
  rintro e W1 ⟨rfl, hE⟩
  replace H1 := SlS.hext H1 hE
  replace HW := Wd.hext HW hE
  replace HE := Lib.hid (HE.out.tr hE)
  clear hE
  go_wp2_with fail
  have hF := few1 x W1 (.slice A1 l.length c1) l 25 H1.out
  rw [hfew] at hF
  have hE := (Ext.rfl' W1).al (.cells #[(.slice A1 l.length c1)] 25)
  generalize hWn : W1.alloc (.cells #[(.slice A1 l.length c1)] 25) = W2 at *
  clear hWn
  replace H1 := SlS.hext H1 hE
  replace HW := Wd.hext HW hE
  replace HE := Lib.hid (HE.out.tr hE)
  clear hE
  refine (hF).mono ?_
  rintro e W3 ⟨rfl, hE⟩
  replace H1 := SlS.hext H1 hE
  replace HW := Wd.hext HW hE
  replace HE := Lib.hid (HE.out.tr hE)
  clear hE
  clear hF
  go_wp2_with fail
  refine (awake_v _ HW.out).mono ?_
  rintro e W4 ⟨rfl, hE⟩
  replace H1 := SlS.hext H1 hE
  replace HW := Wd.hext HW hE
  replace HE := Lib.hid (HE.out.tr hE)
  clear hE
  go_wp2_with fail
  go_ret
  exact ⟨rfl, HE.out⟩
set_option maxHeartbeats 16000000 in
set_option maxRecDepth 400000 in
theorem calc_yes (v : Value) (x : ByteArray) (l : List ByteArray) (w : World) (hW : Wd w) (h1 : SlS w v l) (hfew : (decide (x.size ≤ 20) && fewB l) = true) (hl : l.length ≤ 1000) (a : ByteArray) (k1 k2 k3 k4 : Int) (L2 L3 L4 : List ByteArray)
    (hP1 : ∀ W u, Ext w W → SlS W u l → Calls Tryz.prog 31 #[u, .string x] W (fun e w' => e = .returned (.tuple #[.string a, .int .i64 k1]) ∧ Ext W w'))
    (hR1 : ∀ W, Ext w W → Calls Tryz.prog 32 #[v, .string x] W (fun e w' => e = .returned (.tuple #[.string a, .int .i64 k1]) ∧ Ext W w'))
    (hP2 : ∀ W u, Ext w W → SlS W u l → Calls Tryz.prog 33 #[u] W (RetL k2 L2 W))
    (hR2 : ∀ W, Ext w W → Calls Tryz.prog 34 #[v] W (RetL k2 L2 W))
    (hP3 : ∀ W u, Ext w W → SlS W u l → Calls Tryz.prog 35 #[u] W (RetL k3 L3 W))
    (hR3 : ∀ W, Ext w W → Calls Tryz.prog 36 #[v] W (RetL k3 L3 W))
    (hP4 : ∀ W u, Ext w W → SlS W u l → Calls Tryz.prog 37 #[u, .string x] W (RetL k4 L4 W))
    (hR4 : ∀ W, Ext w W → Calls Tryz.prog 38 #[v, .string x] W (RetL k4 L4 W)) : Calls Tryz.prog 5 #[v, .string x] w fun e w' => e = .returned (.bool true) ∧ Ext w w' := by
  have HP1 := Lib.hid hP1
  have HR1 := Lib.hid hR1
  have HP2 := Lib.hid hP2
  have HR2 := Lib.hid hR2
  have HP3 := Lib.hid hP3
  have HR3 := Lib.hid hR3
  have HP4 := Lib.hid hP4
  have HR4 := Lib.hid hR4
  have HLn := Lib.hid hl
  clear hl hP1 hR1 hP2 hR2 hP3 hR3 hP4 hR4
  have qk1 : (k1 == k1) = true := beq_self_eq_true _
  have qk2 : (k2 == k2) = true := beq_self_eq_true _
  have qk3 : (k3 == k3) = true := beq_self_eq_true _
  have qk4 : (k4 == k4) = true := beq_self_eq_true _
  obtain ⟨A1, c1, rfl⟩ := h1.slc
  have HW := Lib.hid hW
  have HE := Lib.hid (Ext.rfl' w)
  have H1 := Lib.hid h1
  clear hW h1
  go_enter Tryz.func5, Tryz.ntmps5
  go_wp2_with fail
  refine (awake_v _ HW.out).mono ?_
  rintro e W1 ⟨rfl, hE⟩
  replace H1 := SlS.hext H1 hE
  replace HW := Wd.hext HW hE
  replace HE := Lib.hid (HE.out.tr hE)
  clear hE
  go_wp2_with fail
  have hF := few1 x W1 (.slice A1 l.length c1) l 25 H1.out
  rw [hfew] at hF
  have hE := (Ext.rfl' W1).al (.cells #[(.slice A1 l.length c1)] 25)
  generalize hWn : W1.alloc (.cells #[(.slice A1 l.length c1)] 25) = W2 at *
  clear hWn
  replace H1 := SlS.hext H1 hE
  replace HW := Wd.hext HW hE
  replace HE := Lib.hid (HE.out.tr hE)
  clear hE
  refine (hF).mono ?_
  rintro e W3 ⟨rfl, hE⟩
  replace H1 := SlS.hext H1 hE
  replace HW := Wd.hext HW hE
  replace HE := Lib.hid (HE.out.tr hE)
  clear hE
  clear hF
  go_wp2_with fail
  refine (cloneP_v _ l _ H1.out (by have h : l.length ≤ 1000 := HLn.out; omega)).mono ?_
  rintro e W4 ⟨v1, rfl, h, hE⟩
  have C1 := Lib.hid h.sl
  clear h
  replace H1 := SlS.hext H1 hE
  replace HW := Wd.hext HW hE
  replace HE := Lib.hid (HE.out.tr hE)
  clear hE
  go_wp2_with fail
  refine (HP1.out _ _ HE.out C1.out).mono ?_
  rintro e W5 ⟨rfl, hE⟩
  replace H1 := SlS.hext H1 hE
  replace C1 := SlS.hext C1 hE
  replace HW := Wd.hext HW hE
  replace HE := Lib.hid (HE.out.tr hE)
  clear hE
  go_wp2_with fail
  refine (HR1.out _ HE.out).mono ?_
  rintro e W6 ⟨rfl, hE⟩
  replace H1 := SlS.hext H1 hE
  replace C1 := SlS.hext C1 hE
  replace HW := Wd.hext HW hE
  replace HE := Lib.hid (HE.out.tr hE)
  clear hE
  go_wp2_with fail
  refine (cloneP_v _ l _ H1.out (by have h : l.length ≤ 1000 := HLn.out; omega)).mono ?_
  rintro e W7 ⟨v2, rfl, h, hE⟩
  have C2 := Lib.hid h.sl
  clear h
  replace H1 := SlS.hext H1 hE
  replace C1 := SlS.hext C1 hE
  replace HW := Wd.hext HW hE
  replace HE := Lib.hid (HE.out.tr hE)
  clear hE
  go_wp2_with fail
  refine (HP2.out _ _ HE.out C2.out).mono ?_
  rintro e W8 ⟨p2, rfl, h, hE⟩
  have D2 := Lib.hid h
  clear h
  replace H1 := SlS.hext H1 hE
  replace C1 := SlS.hext C1 hE
  replace C2 := SlS.hext C2 hE
  replace HW := Wd.hext HW hE
  replace HE := Lib.hid (HE.out.tr hE)
  clear hE
  go_wp2_with fail
  refine (HR2.out _ HE.out).mono ?_
  rintro e W9 ⟨r2, rfl, h, hE⟩
  have E2 := Lib.hid h
  clear h
  replace H1 := SlS.hext H1 hE
  replace C1 := SlS.hext C1 hE
  replace C2 := SlS.hext C2 hE
  replace D2 := SlS.hext D2 hE
  replace HW := Wd.hext HW hE
  replace HE := Lib.hid (HE.out.tr hE)
  clear hE
  go_wp2_with fail
  refine (cloneP_v _ l _ H1.out (by have h : l.length ≤ 1000 := HLn.out; omega)).mono ?_
  rintro e W10 ⟨v3, rfl, h, hE⟩
  have C3 := Lib.hid h.sl
  clear h
  replace H1 := SlS.hext H1 hE
  replace C1 := SlS.hext C1 hE
  replace C2 := SlS.hext C2 hE
  replace D2 := SlS.hext D2 hE
  replace E2 := SlS.hext E2 hE
  replace HW := Wd.hext HW hE
  replace HE := Lib.hid (HE.out.tr hE)
  clear hE
  go_wp2_with fail
  refine (HP3.out _ _ HE.out C3.out).mono ?_
  rintro e W11 ⟨p3, rfl, h, hE⟩
  have D3 := Lib.hid h
  clear h
  replace H1 := SlS.hext H1 hE
  replace C1 := SlS.hext C1 hE
  replace C2 := SlS.hext C2 hE
  replace D2 := SlS.hext D2 hE
  replace E2 := SlS.hext E2 hE
  replace C3 := SlS.hext C3 hE
  replace HW := Wd.hext HW hE
  replace HE := Lib.hid (HE.out.tr hE)
  clear hE
  go_wp2_with fail
  refine (HR3.out _ HE.out).mono ?_
  rintro e W12 ⟨r3, rfl, h, hE⟩
  have E3 := Lib.hid h
  clear h
  replace H1 := SlS.hext H1 hE
  replace C1 := SlS.hext C1 hE
  replace C2 := SlS.hext C2 hE
  replace D2 := SlS.hext D2 hE
  replace E2 := SlS.hext E2 hE
  replace C3 := SlS.hext C3 hE
  replace D3 := SlS.hext D3 hE
  replace HW := Wd.hext HW hE
  replace HE := Lib.hid (HE.out.tr hE)
  clear hE
  go_wp2_with fail
  refine (cloneP_v _ l _ H1.out (by have h : l.length ≤ 1000 := HLn.out; omega)).mono ?_
  rintro e W13 ⟨v4, rfl, h, hE⟩
  have C4 := Lib.hid h.sl
  clear h
  replace H1 := SlS.hext H1 hE
  replace C1 := SlS.hext C1 hE
  replace C2 := SlS.hext C2 hE
  replace D2 := SlS.hext D2 hE
  replace E2 := SlS.hext E2 hE
  replace C3 := SlS.hext C3 hE
  replace D3 := SlS.hext D3 hE
  replace E3 := SlS.hext E3 hE
  replace HW := Wd.hext HW hE
  replace HE := Lib.hid (HE.out.tr hE)
  clear hE
  go_wp2_with fail
  refine (HP4.out _ _ HE.out C4.out).mono ?_
  rintro e W14 ⟨p4, rfl, h, hE⟩
  have D4 := Lib.hid h
  clear h
  replace H1 := SlS.hext H1 hE
  replace C1 := SlS.hext C1 hE
  replace C2 := SlS.hext C2 hE
  replace D2 := SlS.hext D2 hE
  replace E2 := SlS.hext E2 hE
  replace C3 := SlS.hext C3 hE
  replace D3 := SlS.hext D3 hE
  replace E3 := SlS.hext E3 hE
  replace C4 := SlS.hext C4 hE
  replace HW := Wd.hext HW hE
  replace HE := Lib.hid (HE.out.tr hE)
  clear hE
  go_wp2_with fail
  refine (HR4.out _ HE.out).mono ?_
  rintro e W15 ⟨r4, rfl, h, hE⟩
  have E4 := Lib.hid h
  clear h
  replace H1 := SlS.hext H1 hE
  replace C1 := SlS.hext C1 hE
  replace C2 := SlS.hext C2 hE
  replace D2 := SlS.hext D2 hE
  replace E2 := SlS.hext E2 hE
  replace C3 := SlS.hext C3 hE
  replace D3 := SlS.hext D3 hE
  replace E3 := SlS.hext E3 hE
  replace C4 := SlS.hext C4 hE
  replace D4 := SlS.hext D4 hE
  replace HW := Wd.hext HW hE
  replace HE := Lib.hid (HE.out.tr hE)
  clear hE
  go_wp2_with fail
  refine (same_e _ _ L2 _ D2.out E2.out).mono ?_
  rintro e W16 ⟨rfl, hE⟩
  replace H1 := SlS.hext H1 hE
  replace C1 := SlS.hext C1 hE
  replace C2 := SlS.hext C2 hE
  replace D2 := SlS.hext D2 hE
  replace E2 := SlS.hext E2 hE
  replace C3 := SlS.hext C3 hE
  replace D3 := SlS.hext D3 hE
  replace E3 := SlS.hext E3 hE
  replace C4 := SlS.hext C4 hE
  replace D4 := SlS.hext D4 hE
  replace E4 := SlS.hext E4 hE
  replace HW := Wd.hext HW hE
  replace HE := Lib.hid (HE.out.tr hE)
  clear hE
  go_wp2_with fail
  refine (same_e _ _ L3 _ D3.out E3.out).mono ?_
  rintro e W17 ⟨rfl, hE⟩
  replace H1 := SlS.hext H1 hE
  replace C1 := SlS.hext C1 hE
  replace C2 := SlS.hext C2 hE
  replace D2 := SlS.hext D2 hE
  replace E2 := SlS.hext E2 hE
  replace C3 := SlS.hext C3 hE
  replace D3 := SlS.hext D3 hE
  replace E3 := SlS.hext E3 hE
  replace C4 := SlS.hext C4 hE
  replace D4 := SlS.hext D4 hE
  replace E4 := SlS.hext E4 hE
  replace HW := Wd.hext HW hE
  replace HE := Lib.hid (HE.out.tr hE)
  clear hE
  go_wp2_with fail
  refine (same_e _ _ L4 _ D4.out E4.out).mono ?_
  rintro e W18 ⟨rfl, hE⟩
  replace H1 := SlS.hext H1 hE
  replace C1 := SlS.hext C1 hE
  replace C2 := SlS.hext C2 hE
  replace D2 := SlS.hext D2 hE
  replace E2 := SlS.hext E2 hE
  replace C3 := SlS.hext C3 hE
  replace D3 := SlS.hext D3 hE
  replace E3 := SlS.hext E3 hE
  replace C4 := SlS.hext C4 hE
  replace D4 := SlS.hext D4 hE
  replace E4 := SlS.hext E4 hE
  replace HW := Wd.hext HW hE
  replace HE := Lib.hid (HE.out.tr hE)
  clear hE
  go_wp2_with fail
  go_ret
  exact ⟨rfl, HE.out⟩
theorem calc_v (v : Value) (x : ByteArray) (l : List ByteArray) (w : World) (hW : Wd w) (h1 : SlS w v l) : Calls Tryz.prog 5 #[v, .string x] w fun e w' => e = .returned (.bool true) ∧ Ext w w' := by
  cases hf : (decide (x.size ≤ 20) && fewB l)
  · exact calc_few v x l w hW h1 hf
  · have hf2 := hf
    rw [Bool.and_eq_true, decide_eq_true_eq] at hf2
    obtain ⟨hx, hfl⟩ := hf2
    have hln : l.length ≤ 1000 := Nat.le_trans (fewB_len hfl) (by omega)
    have h12 := fewB_txt hfl
    have h40 : ∀ s ∈ l, s.size ≤ 40 := fun s hs => Nat.le_trans (h12 s hs) (by omega)
    have hsb := sb_few hfl
    cases hpb : polB l
    · have hb : ∀ c, (polB l && c) = false := fun c => by rw [hpb]; rfl
      exact calc_yes v x l w hW h1 hf hln ⟨#[]⟩ 1 1 1 1 [] [] []
        (fun W u hE hu => Eval_no u l x W (hW.ext hE) hu hsb (by omega) (hb _)) (fun W hE => q8Ev_no v l x W (h1.ext hE) hln h40 (by omega) (hb _))
        (fun W u hE hu => (derive_no u W (by have := pValid_any u l W (hW.ext hE) hu hsb; rwa [hpb] at this)).mono fun e w' h => RetL.ofE h) (fun W hE => (q8Der_no v l W (h1.ext hE) hln h40 hpb).mono fun e w' h => RetL.ofE h)
        (fun W u hE hu => (integrate_no u W (by have := pValid_any u l W (hW.ext hE) hu hsb; rwa [hpb] at this)).mono fun e w' h => RetL.ofE h) (fun W hE => (q8Int_no v l W (h1.ext hE) hln h40 hpb).mono fun e w' h => RetL.ofE h)
        (fun W u hE hu => (Shift_no u l x W (hW.ext hE) hu hsb (by omega) (hb _)).mono fun e w' h => RetL.ofE h) (fun W hE => (q8Sh_no v l x W (h1.ext hE) hln h40 (by omega) (hb _)).mono fun e w' h => RetL.ofE h)
    · obtain ⟨p, rfl, tp, lp⟩ := (polB_iff l).1 hpb
      have hD1 : ∀ W u, Ext w W → SlS W u (p.map rb) → Calls Tryz.prog 33 #[u] W (RetL 0 ((pder p).map rb) W) := fun W u hE hu => (Derive_p u p 48 W (hW.ext hE) (po_of hu tp lp h12) (by have := kk64; omega)).mono fun e w' h => RetL.of0 h
      have hD2 : ∀ W, Ext w W → Calls Tryz.prog 34 #[v] W (RetL 0 ((pder p).map rb) W) := fun W hE => (q8Der_yes v p W (h1.ext hE) tp lp h12).mono fun e w' h => RetL.of0 h
      have hI : ∃ k L, (∀ W u, Ext w W → SlS W u (p.map rb) → Calls Tryz.prog 35 #[u] W (RetL k L W)) ∧ ∀ W, Ext w W → Calls Tryz.prog 36 #[v] W (RetL k L W) := by
        by_cases h16 : p.length ≤ 16
        · exact ⟨0, (pint p).map rb, fun W u hE hu => (Integrate_p u p 48 W (hW.ext hE) (po_of hu tp lp h12) h16 (by have := kk64; omega)).mono fun e w' h => RetL.of0 h, fun W hE => (q8Int_yes v p W (h1.ext hE) tp lp h12 h16).mono fun e w' h => RetL.of0 h⟩
        · exact ⟨15, [], fun W u hE hu => (Integrate_lim u p 48 W (hW.ext hE) (po_of hu tp lp h12) (by omega) (by have := kk64; omega)).mono fun e w' h => RetL.ofE h, fun W hE => (q8Int_lim v p W (h1.ext hE) tp lp h12 (by omega)).mono fun e w' h => RetL.ofE h⟩
      obtain ⟨k3, L3, hI1, hI2⟩ := hI
      cases hr : ratB x.data.toList
      · have hb : (polB (p.map rb) && ratB x.data.toList) = false := by rw [hpb, hr]; rfl
        exact calc_yes v x _ w hW h1 hf hln ⟨#[]⟩ 1 0 k3 1 _ L3 []
          (fun W u hE hu => Eval_no u _ x W (hW.ext hE) hu hsb (by omega) hb) (fun W hE => q8Ev_no v _ x W (h1.ext hE) hln h40 (by omega) hb)
          hD1 hD2 hI1 hI2
          (fun W u hE hu => (Shift_no u _ x W (hW.ext hE) hu hsb (by omega) hb).mono fun e w' h => RetL.ofE h) (fun W hE => (q8Sh_no v _ x W (h1.ext hE) hln h40 (by omega) hb).mono fun e w' h => RetL.ofE h)
      · obtain ⟨X, hX⟩ := ratB_t hr
        obtain rfl : x = rb X := list_of hX
        have bX := bd_size X 20 hx
        exact calc_yes v _ _ w hW h1 hf hln (rb (pev p X)) 0 0 k3 0 _ L3 _
          (fun W u hE hu => Eval_p u p 48 W (hW.ext hE) (po_of hu tp lp h12) X 80 bX (by have := kk64; omega)) (fun W hE => q8Ev_yes v p X W (h1.ext hE) tp lp h12 hx)
          hD1 hD2 hI1 hI2
          (fun W u hE hu => (Shift_p u p 48 W (hW.ext hE) (po_of hu tp lp h12) X 80 bX (by omega) (Nat.le_trans sf48 kk64)).mono fun e w' h => RetL.of0 h) (fun W hE => (q8Sh_yes v p X W (h1.ext hE) tp lp h12 hx).mono fun e w' h => RetL.of0 h)
end Go.Proofs.YtbldlibijojbjaaGreatDoor.GB
