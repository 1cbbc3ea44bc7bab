import Derived.Test.YtbldlibijojbjaaGreatDoorCOc
namespace Go.Proofs.YtbldlibijojbjaaGreatDoor.GB
set_option linter.unusedVariables false
set_option linter.unusedSimpArgs false
open Go.RowKit Go.Shelf
attribute [local go_sem ↓] Go.wp_at_zero Go.wp_at_succ
/-- What the reference's greatest common divisor hands back. -/
def GcdP8 (p r : Pl) (N : Nat) (w : World) (e : Ending) (w' : World) : Prop := ∃ v d, e = .returned v ∧ PQ w' v d ∧ GcdRel p r d ∧ PB d (2 * N + 2) ∧ d.length ≤ 17 ∧ Ext w w'
theorem pmon_ref {P : Pl} (tP : Tr P) : ptrim (psc (lead P)⁻¹ P) = pmon P := by
  have e : psc (lead P)⁻¹ P = pmon P := by unfold pmon; rw [Rat.div_def, Rat.one_mul]
  rw [e]; exact ptrim_tr (pmon_tr tP)
set_option maxHeartbeats 8000000 in
set_option maxRecDepth 200000 in
theorem q8Common_v (v1 v2 : Value) (p r : Pl) (n m f N : Nat) (w : World) (h1 : PQ w v1 p) (h2 : PQ w v2 r) (hI : RI p r p r n m f N) (hN : 200 * (4 * N + 12) ≤ KK) :
    Calls Tryz.prog 67 #[v1, v2] w (GcdP8 p r N w) := by
  have HP0 := Lib.hid h1
  have HR0 := Lib.hid h2
  have HI0 := Lib.hid hI
  have HOv : Hid (∀ (P R : Pl) (n m f : Nat) W u v, RI p r P R n m f N → R ≠ [] → PQ W u P → PQ W v R → Calls Tryz.prog 65 #[u, v] W (DivP8 P R n m W)) := fun P R n m f W u v h hr hu hv => by
    have hb := h.bits hr
    exact q8Over_v u v P R n m W hu hv h.2.2.1 h.2.2.2.1 h.1 h.2.1 hr h.2.2.2.2.1 h.2.2.2.2.2.1 (by omega)
  have HIn : Hid (∀ (P : Pl) W u, Tr P → P ≠ [] → QV W u (lead P) → Calls Tryz.prog 102 #[u] W (RetQ3 (lead P)⁻¹ W)) := fun P W u tP hP hu => q3Inv_v u _ W hu (lead_ne tP hP)
  have HSc : Hid (∀ (P : Pl) (n m f : Nat) W u v, RI p r P [] n m f N → PQ W u P → QV W v (lead P)⁻¹ → Calls Tryz.prog 96 #[u, v] W (RetPQ (pmon P) W)) := fun P n m f W u v h hu hv => by
    have hn := gok_n _ _ _ _ _ _ h.2.2.2.2.2.2.2.1
    rw [← pmon_ref h.1]
    exact q8Scale_v u v P _ n (n + 1) W hu hv h.2.2.1.pb (h.2.2.1.pb.cf _).inv (by have := h.2.2.2.2.1; omega) (by omega)
  have HDn : Hid (∀ (P : Pl) (n m f : Nat), RI p r P [] n m f N → GcdRel p r (pmon P) ∧ PB (pmon P) (2 * N + 2) ∧ (pmon P).length ≤ 17) := fun P n m f h => by
    have hn := gok_n _ _ _ _ _ _ h.2.2.2.2.2.2.2.1
    exact ⟨h.done, (pmon_pb h.2.2.1.pb).mono (by omega), by rw [pmon_len]; exact h.2.2.2.2.1⟩
  clear h1 h2 hI hN
  go_enter Tryz.func67, Tryz.ntmps67
  go_wp2_with fail
  go_loopw [0, 1] (fun a b wr => ∃ (P R : Pl) (n m f : Nat), Hid (PQ wr a P) ∧ Hid (PQ wr b R) ∧ Hid (RI p r P R n m f N) ∧ Hid (Ext w wr)) (fun _ b _ => match b with | .slice _ l _ => l | _ => 0)
  case atStart => exact ⟨p, r, n, m, f, HP0, HR0, HI0, Ext.rfl' _⟩
  case round =>
    clear HP0 HR0 HI0
    obtain ⟨P, R, n, m, f, HP, HR, HI, HE⟩ := hrel
    obtain ⟨B, cb0, hvb⟩ := HR.out.slc
    subst hvb
    by_cases hR : R = []
    · subst hR
      have HD := Lib.hid (HDn.out P n m f HI.out)
      obtain ⟨A, cA, hva⟩ := HP.out.slc
      subst hva
      obtain ⟨lp, hlp⟩ : ∃ k, P.length = k := ⟨_, rfl⟩
      have HLP := Lib.hid hlp
      simp only [List.length_nil]
      by_cases h0 : lp = 0
      · have hP0 : P = [] := List.eq_nil_of_length_eq_zero (by omega)
        have HD2 : Hid (GcdRel p r []) := by have h := HD.out.1; rw [hP0, pmon_nil] at h; exact h
        rw [hlp, h0]
        clear HOv HIn HSc HDn HD HP hlp
        go_wp2_with fail
        go_ret
        exact ⟨_, [], rfl, PQ.nil _, HD2.out, PB.nil _, by simp, HE.out⟩
      · have hP0 : P ≠ [] := fun e => h0 (by rw [← hlp, e]; rfl)
        have HRP : Hid (RdQ wr A P) := HP.out.rd.2.2.2
        obtain ⟨bb, off, x, y, z, rfl, hbb, c0, c1, c2, hq⟩ := HRP.out (lp - 1) (by omega)
        obtain ⟨s1, A1, la, ca, B1, lb, cb, hv, -, -, -⟩ := hq.ex
        simp only [Value.agg.injEq, Array.mk.injEq, List.cons.injEq, and_true] at hv
        obtain ⟨rfl, rfl, rfl⟩ := hv
        have hP1 : cf P (lp - 1) = lead P := by unfold lead; rw [hlp]
        rw [hP1] at hq
        have HI1 : Hid (∀ W, Ext wr W → Calls Tryz.prog 102 #[.agg #[.bool s1, .slice A1 la ca, .slice B1 lb cb]] W (RetQ3 (lead P)⁻¹ W)) := fun W hE => HIn.out P W _ HI.out.1 hP0 (hq.ext hE)
        have HS1 := Lib.hid (fun W u v hu hv => HSc.out P n m f W u v HI.out hu hv)
        rw [hlp] at HP ⊢
        have z1 : ((lp : Int) == 0) = false := beq_eq_false_iff_ne.2 (by omega)
        have z2 : (0 : Int) ≤ (lp : Int) - 1 := by omega
        have z8 : (1 : Int) ≤ (lp : Int) := by omega
        have z4 : (lp : Int) - 1 < (lp : Int) := by omega
        have z6 : ((lp : Int) - 1).toNat = lp - 1 := by omega
        have hlp63 : lp ≤ 17 := by have := HI.out.2.2.2.2.1; omega
        have w1' : IntKind.i64.wrap ((lp : Int) - 1) = (lp : Int) - 1 := by rw [IntKind.wrap_i64]; omega
        have a0 : off + 3 * (lp - 1) + 1 = off + (3 * (lp - 1) + 1) := by omega
        have a1 : off + 3 * (lp - 1) + 2 = off + (3 * (lp - 1) + 2) := by omega
        have a2 : off + (lp - 1) * 3 = off + 3 * (lp - 1) := by omega
        clear hq hbb hP1 hlp hP0 HOv HIn HSc HDn HI HRP
        go_wp2_with fail
        refine (HI1.out _ (Ext.rfl' _)).mono ?_
        rintro e w1 ⟨v3, rfl, hv, hE⟩
        have HV3 := Lib.hid hv
        have HP1 := PQ.hext HP hE
        have HE1 := Lib.hid (HE.out.tr hE)
        clear hv hE
        go_wp2_with fail
        refine (HS1.out _ _ _ HP1.out HV3.out).mono ?_
        rintro e w2 ⟨v4, rfl, hv, hE⟩
        have HV4 := Lib.hid hv
        replace HE1 := Lib.hid (HE1.out.tr hE)
        clear hv hE HV3 HP1
        go_wp2_with fail
        go_ret
        exact ⟨_, _, rfl, HV4.out, HD.out.1, HD.out.2.1, HD.out.2.2, HE1.out⟩
    · have l0 := List.length_pos_iff.2 hR
      obtain ⟨⟨f', hf⟩, -⟩ := HI.out.bits hR
      have HO1 := Lib.hid (fun W u v hu hv => HOv.out P R n m f W u v HI.out hR hu hv)
      have HR0 := Lib.hid hR
      have HF := Lib.hid hf
      obtain ⟨rl, hrl⟩ : ∃ k, R.length = k := ⟨_, rfl⟩
      have HRL := Lib.hid hrl
      rw [hrl] at HR ⊢
      have z1 : (0 : Int) < (rl : Int) := by omega
      clear hR hf hrl HOv HIn HSc HDn l0
      go_wp2_with fail
      refine (HO1.out _ _ _ HP.out HR.out).mono ?_
      rintro e w1 ⟨v3, v4, q, t, rfl, hd, hb, -, -, -, ht, hE⟩
      have HD := Lib.hid hd
      have HB := Lib.hid hb
      have HT := Lib.hid ht
      have HE1 := Lib.hid (HE.out.tr hE)
      have HR1 := PQ.hext HR hE
      obtain ⟨C, cc, hvc⟩ := ht.slc
      subst hvc
      have HMS : Hid (t.length < rl) := by have := hd.lt; have := HRL.out; unfold Hid; omega
      have h := HI.out
      rw [HF.out] at h
      have HI2 := Lib.hid (h.step HR0.out HD.out HB.out)
      clear hd hb ht hE h HO1
      go_wp2
      go_roundw
      case rel => exact ⟨R, t, m, _, f', HR1, HT, HI2, HE1⟩
      case measure => exact HMS.out
end Go.Proofs.YtbldlibijojbjaaGreatDoor.GB
