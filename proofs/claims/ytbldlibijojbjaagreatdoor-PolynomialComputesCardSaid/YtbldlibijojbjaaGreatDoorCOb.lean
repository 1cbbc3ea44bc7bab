import Derived.Test.YtbldlibijojbjaaGreatDoorCOa
namespace Go.Proofs.YtbldlibijojbjaaGreatDoor.GB
set_option linter.unusedVariables false
set_option linter.unusedSimpArgs false
open Go.RowKit Go.Shelf
attribute [local go_sem ↓] Go.wp_at_zero Go.wp_at_succ
set_option maxHeartbeats 8000000 in
set_option maxRecDepth 200000 in
theorem q8Times_v (v1 v2 : Value) (p r : Pl) (n m : Nat) (w : World) (h1 : PQ w v1 p) (h2 : PQ w v2 r) (hp : PB p n) (hr : PB r m) (l1 : p.length ≤ 100) (l2 : r.length ≤ 100) (hk : 101 * (n + m + 1) + 2 ≤ KK) :
    Calls Tryz.prog 63 #[v1, v2] w (RetPQ (ptrim (pmul p r)) w) := by
  obtain ⟨A, cA, rfl⟩ := h1.slc
  obtain ⟨lp, hlp⟩ : ∃ k, p.length = k := ⟨_, rfl⟩
  have hkk : ∀ k, k ≤ 100 → k * (n + m + 1) ≤ 100 * (n + m + 1) := fun k hk => Nat.mul_le_mul_right _ hk
  have HS : Hid (∀ k W u, Ext w W → QV W u (cf p k) → Calls Tryz.prog 96 #[v2, u] W (RetPQ (ptrim (psc (cf p k) r)) W)) := fun k W u hE hu => q8Scale_v v2 u r _ m n W (h2.ext hE) hu hr (hp.cf k) (by omega) (by omega)
  have hsl : ∀ k, (ptrim (psc (cf p k) r)).length ≤ 100 := fun k => Nat.le_trans (ptrim_len _) (by simp only [psc, List.length_map]; exact l2)
  have HRa : Hid (∀ k W u, k ≤ 100 → PQ W u (ptrim (psc (cf p k) r)) → Calls Tryz.prog 98 #[u, .int .i64 (k : Nat)] W (RetPQ (prs k (ptrim (psc (cf p k) r))) W)) := fun k W u hk hu => q8Raise_v u _ k W hu (by have := hsl k; omega) (by omega)
  have HPl : Hid (∀ k W u v, k < lp → PQ W u (ptrim (pmul (p.take k) r)) → PQ W v (prs k (ptrim (psc (cf p k) r))) → Calls Tryz.prog 59 #[u, v] W (RetPQ (ptrim (pmul (p.take (k + 1)) r)) W)) := fun k W u v hkl hu hv => by
    rw [← tms_step]
    have e := hkk k (by omega)
    refine q8Plus_v u v _ _ (k * (n + m + 1)) (n + m) W hu hv (PB.tms hp hr k) ((PB.ptrim (PB.scx hr (hp.cf k))).prs k) (by have := tms_len p r k; omega) ?_ (by omega)
    rw [prs_len]
    have := hsl k
    split <;> omega
  have HF : Hid ((ptrim (pmul (p.take lp) r)) = ptrim (pmul p r)) := by unfold Hid; rw [← hlp, List.take_length]
  have HLN := Lib.hid hlp
  rw [hlp] at h1 l1 ⊢
  have HR := Lib.hid h1.rd.2.2.2
  clear h1 h2 hp hr hlp hk hkk hsl
  go_enter Tryz.func63, Tryz.ntmps63
  go_wp2_with fail
  go_loopw [5, 6] (fun vo vi wr => ∃ (k : Nat), k ≤ lp ∧ vi = .int .i64 k ∧ Hid (PQ wr vo (ptrim (pmul (p.take k) r))) ∧ Hid (Ext w wr)) (fun _ vi _ => lp - (intOf vi).toNat)
  case atStart => exact ⟨0, Nat.zero_le _, rfl, (by unfold Hid; rw [List.take_zero]; exact PQ.nil w), Ext.rfl' w⟩
  case round =>
    obtain ⟨k, hk, rfl, HO, HE⟩ := hrel
    by_cases hlt : k < lp
    · obtain ⟨bb, off, x, y, z, rfl, hbb, c0, c1, c2, hq⟩ := HR.out k (by rw [HLN.out]; omega)
      obtain ⟨s1, A1, la, ca, B1, lb, cb, hv, -, -, -⟩ := hq.ex
      simp only [Value.agg.injEq, Array.mk.injEq, List.cons.injEq, and_true] at hv
      obtain ⟨rfl, rfl, rfl⟩ := hv
      replace c0 := HE.out.cell c0
      replace c1 := HE.out.cell c1
      replace c2 := HE.out.cell c2
      have a0 : off + 3 * k + 1 = off + (3 * k + 1) := by omega
      have a1 : off + 3 * k + 2 = off + (3 * k + 2) := by omega
      have a2 : off + k * 3 = off + 3 * k := by omega
      have HS1 : Hid (∀ W, Ext wr W → Calls Tryz.prog 96 #[v2, .agg #[.bool s1, .slice A1 la ca, .slice B1 lb cb]] W (RetPQ (ptrim (psc (cf p k) r)) W)) := fun W hE => HS.out k W _ (HE.out.tr hE) ((hq.ext HE.out).ext hE)
      have HR1 := Lib.hid (fun W u hu => HRa.out k W u (by omega) hu)
      have HP1 := Lib.hid (fun W u v hu hv => HPl.out k W u v hlt hu hv)
      have hlz : (k : Int) < (lp : Int) := by omega
      clear hq hbb
      generalize (ptrim (psc (cf p k) r)) = G1 at *
      go_wp2_with fail
      refine (HS1.out _ (Ext.rfl' _)).mono ?_
      rintro e w1 ⟨v3, rfl, hv, hE⟩
      have HO1 := PQ.hext HO hE
      have HE1 := Lib.hid (HE.out.tr hE)
      have HV3 := Lib.hid hv
      clear hv hE
      go_wp2_with fail
      refine (HR1.out _ _ HV3.out).mono ?_
      rintro e w2 ⟨v4, rfl, hv, hE⟩
      replace HO1 := PQ.hext HO1 hE
      replace HE1 := Lib.hid (HE1.out.tr hE)
      have HV4 := Lib.hid hv
      clear hv hE HV3
      go_wp2_with fail
      refine (HP1.out _ _ _ HO1.out HV4.out).mono ?_
      rintro e w3 ⟨v5, rfl, hv, hE⟩
      replace HE1 := Lib.hid (HE1.out.tr hE)
      have HV5 := Lib.hid hv
      clear hv hE HV4 HO1 c0 c1 c2
      go_wp2
      go_roundw
      case rel => exact ⟨k + 1, by omega, by go_num, HV5, HE1⟩
      case measure => simp [intOf]; omega
    · have hke : k = lp := by omega
      subst hke
      rw [HF.out] at HO
      have hlz : ¬ (k : Int) < (k : Int) := by omega
      go_wp2_with fail
      go_ret
      exact ⟨_, rfl, HO.out, HE.out⟩
set_option maxHeartbeats 8000000 in
set_option maxRecDepth 200000 in
theorem q8Minus_v (v1 v2 : Value) (p r : Pl) (n m : Nat) (w : World) (h1 : PQ w v1 p) (h2 : PQ w v2 r) (hp : PB p n) (hr : PB r m) (l1 : p.length ≤ 500) (l2 : r.length ≤ 500) (hk : n + m + 5 ≤ KK) :
    Calls Tryz.prog 61 #[v1, v2] w (RetPQ (ptrim (padd p (pneg r))) w) := by
  have hb1 : Bd (-1) 1 := Bd.of_int (-1) 1 (by decide)
  have HI : Hid (∀ W, Calls Tryz.prog 97 #[.int .i64 (-1)] W (RetQ3 (-1) W)) := fun W => q3Int_any (-1) W (by omega) (by omega)
  have HS : Hid (∀ W u, Ext w W → QV W u (-1) → Calls Tryz.prog 96 #[v2, u] W (RetPQ (ptrim (psc (-1) r)) W)) := fun W u hE hu => q8Scale_v v2 u r _ m 1 W (h2.ext hE) hu hr hb1 l2 (by omega)
  have HP : Hid (∀ W u, Ext w W → PQ W u (ptrim (psc (-1) r)) → Calls Tryz.prog 59 #[v1, u] W (RetPQ (ptrim (padd p (pneg r))) W)) := fun W u hE hu => by
    rw [← pneg_ref]
    exact q8Plus_v v1 u _ _ n (1 + m) W (h1.ext hE) hu hp (PB.ptrim (PB.scx hr hb1)) l1 (Nat.le_trans (ptrim_len _) (by simp only [psc, List.length_map]; exact l2)) (by omega)
  clear h1 h2 hp hr l1 l2 hk hb1
  go_enter Tryz.func61, Tryz.ntmps61
  go_wp2_with fail
  refine (HI.out _).mono ?_
  rintro e w1 ⟨v3, rfl, hv, hE⟩
  have HE1 := Lib.hid hE
  have HV3 := Lib.hid hv
  clear hv hE
  go_wp2_with fail
  refine (HS.out _ _ HE1.out HV3.out).mono ?_
  rintro e w2 ⟨v4, rfl, hv, hE⟩
  replace HE1 := Lib.hid (HE1.out.tr hE)
  have HV4 := Lib.hid hv
  clear hv hE HV3
  go_wp2_with fail
  refine (HP.out _ _ HE1.out HV4.out).mono ?_
  rintro e w3 ⟨v5, rfl, hv, hE⟩
  replace HE1 := Lib.hid (HE1.out.tr hE)
  have HV5 := Lib.hid hv
  clear hv hE HV4
  go_wp2_with fail
  go_ret
  exact ⟨_, rfl, HV5.out, HE1.out⟩
end Go.Proofs.YtbldlibijojbjaaGreatDoor.GB
