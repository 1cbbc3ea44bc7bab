import Derived.Test.YtadimepmoljnpaaGreatDoorMPm
import Derived.Test.YtadimepmoljnpaaGreatDoorMGc
namespace Go.Proofs.YtadimepmoljnpaaGreatDoor.GB
set_option linter.unusedVariables false
set_option linter.unusedSimpArgs false
open Go.RowKit Go.Shelf
attribute [local go_sem ↓] Go.wp_at_zero Go.wp_at_succ

/-- What a long division hands back. -/
def DivP (p r : Pl) (B : Nat) (w : World) (e : Ending) (w' : World) : Prop := ∃ v1 v2 q t, e = .returned (.tuple #[v1, v2]) ∧ DivRel p r q t ∧ (CB t B ∧ PB q B) ∧ PS w' v1 q ∧ PS w' v2 t ∧ Ext w w'
set_option maxHeartbeats 8000000 in
set_option maxRecDepth 100000 in
theorem pdiv_long (A B : Option Addr) (ca cb : Nat) (p r : Pl) (m n : Nat) (w : World) (hW : Wd w) (hr0 : 0 < r.length) (hle : r.length ≤ p.length) (l1 : p.length ≤ 100000)
    (hA : PS w (.slice A p.length ca) p) (hB : PS w (.slice B r.length cb) r) (hp : CB p n) (hr : CB r m) (tr : Tr r) (hk : 2 * cdB n m (p.length - r.length + 1) + 6 ≤ KK) :
    Calls Tryz.prog 126 #[.slice A p.length ca, .slice B r.length cb] w (DivP p r (cdB n m (p.length - r.length + 1)) w) := by
  obtain ⟨i0, hi, hz0, hz1, hz2⟩ := info_parts Tryz.infoRat
  obtain ⟨r1, hr1⟩ : ∃ r1, r.length = r1 + 1 := ⟨r.length - 1, by omega⟩
  obtain ⟨N1, hN1⟩ : ∃ N1, p.length = N1 + 1 + r1 := ⟨p.length - 1 - r1, by omega⟩
  have hNN : p.length - r.length + 1 = N1 + 1 := by omega
  rw [hNN] at hk ⊢
  have hNi : (p.length : Int) - (r.length : Int) + 1 = ((N1 + 1 : Nat) : Int) := by omega
  have hN9 : N1 ≤ 200000 := by omega
  have HK := Lib.hid hk
  have HA := Lib.hid hA
  have HB := Lib.hid hB
  have HW := Lib.hid hW
  have HP := Lib.hid hp
  have HR := Lib.hid hr
  have HTr := Lib.hid tr
  have hlt : decide (p.length < r.length) = false := decide_eq_false (by omega)
  clear hA hB hW hp hr tr hk hNN
  have hcl := fun W (hE : Ext w W) => clone49_v (.slice A p.length ca) (p.map rb) W (HA.out.ext hE) (by simp; omega)
  have HR1 := Lib.hid hr1
  have HN1 := Lib.hid hN1
  clear hr1 hN1
  generalize hpl : p.length = pn at *
  generalize hrl : r.length = rn at *
  have HPL := Lib.hid hpl
  have HRL := Lib.hid hrl
  clear hpl hrl
  go_enter Tryz.func126, Tryz.ntmps126
  go_wp2_with fail
  refine (hcl _ (Ext.rfl' _)).mono ?_
  rintro e w1 ⟨v1, rfl, hO, hE1⟩
  obtain ⟨g1, c1, hv, hb1, hg1, hAt⟩ := hO.at_ (by simp; have := HPL.out; omega)
  rw [List.length_map, HPL.out] at hv
  subst hv
  have HR0 : Hid (AtP w1 g1 c1 pn p) := ⟨HPL.out, hAt⟩
  have HE1 := Lib.hid hE1
  clear hO hAt hE1 hcl
  go_wp2_with (refine wpList_make_full _ rfl _ _ _ rfl 0 24 i0 (.string ⟨#[]⟩) 1 Tryz.underlying115 hi hz0 hz1 _ _ _ _ (N1 + 1) rfl rfl (by simp) (by simp) (by rw [hz2]; omega) (by unfold maxLen; omega) (Nat.zero_le _) ?_; intro w2 hown2 hgrow2)
  have HQ0 : Hid (AtQ w2 w1.heap.size (N1 + 1) (List.replicate (N1 + 1) 0) (N1 + 1)) := by
    refine ⟨by simp, Nat.le_refl _, ?_⟩
    rw [madeS] at hown2
    have e : qf (List.replicate (N1 + 1) 0) (N1 + 1) = List.replicate (N1 + 1) ⟨#[]⟩ := by simp [qf]
    rw [e]
    simpa [OwnS, Hid] using hown2
  have hE2 : Ext w1 w2 := (Ext.rfl' w1).gr0 hgrow2
  have HR2 := Lib.hid (HR0.out.ext hE2)
  have HE2 := Lib.hid (HE1.out.tr hE2)
  have n12 : g1 ≠ w1.heap.size := by omega
  have n21 : w1.heap.size ≠ g1 := by omega
  have hb2 : w.heap.size ≤ w1.heap.size := HE1.out.size
  clear hown2 hgrow2 hE2 HR0 HE1 hg1 hNi hlt
  generalize w1.heap.size = g2 at *
  have HD0 : Hid (DInv p r (List.replicate (N1 + 1) 0) p (N1 + 1)) := DInv.start p r (N1 + 1) (by rw [HPL.out, HRL.out]; have := HN1.out; have := HR1.out; omega)
  go_loopw [8] (fun v wr => ∃ (k : Nat) (z : Int) (Q R : Pl), k ≤ N1 + 1 ∧ v = .int .i64 z ∧ Hid (z = (k : Int) - 1) ∧ Hid (DInv p r Q R k) ∧ Hid (QB R Q (cdB n m (N1 + 1 - k))) ∧ Hid (AtP wr g1 c1 pn R) ∧ Hid (AtQ wr g2 (N1 + 1) Q k) ∧ Hid (Ext w wr)) (fun v _ => (intOf v + 1).toNat)
  case atStart => exact ⟨N1 + 1, _, _, p, Nat.le_refl _, rfl, (by unfold Hid; push_cast; omega), HD0, (by unfold Hid; rw [Nat.sub_self]; exact QB.start HP.out), HR2, HQ0, HE2⟩
  case round =>
    clear HD0 HR2 HQ0 HE2
    obtain ⟨k, z, Q, R, hk, rfl, HZ, HD, HBd, HRr, HQ, HE⟩ := hrel
    cases k with
    | zero =>
      obtain rfl : z = -1 := by have := HZ.out; omega
      have hS1 := HQ.out.atP.ps
      have hS2 := HRr.out.ps
      have HS1 := Lib.hid hS1
      have HS2 := Lib.hid hS2
      clear hS1 hS2
      go_wp2_with fail
      refine (ptrimS_v _ _ _ HS1.out).mono ?_
      rintro e w3 ⟨v3, rfl, hv3, rfl⟩
      have HV3 := Lib.hid hv3
      clear hv3
      go_wp2_with fail
      refine (ptrimS_v _ _ _ HS2.out).mono ?_
      rintro e w3 ⟨v4, rfl, hv4, rfl⟩
      have HV4 := Lib.hid hv4
      clear hv4
      go_wp2_with fail
      go_ret2
      refine ⟨_, _, ptrim Q, ptrim R, rfl, HD.out.done (by intro e; have := HRL.out; rw [e] at this; have := HR1.out; simp at *; omega), ⟨HBd.out.1.congr (cf_ptrim _), PB.trim HBd.out.2⟩, ?_, ?_, HE.out⟩
      · have := HV3.out
        rwa [tzS_rb] at this
      · have := HV4.out
        rwa [tzS_rb] at this
    | succ k =>
      obtain rfl : z = (k : Int) := by have := HZ.out; omega
      clear HZ
      have hr1 := HR1.out
      have hn1 := HN1.out
      have hkr : k + r1 < pn := by omega
      have hr1n : r1 < rn := by omega
      have hkN : k < N1 + 1 := by omega
      obtain ⟨s, hs⟩ : ∃ s, s = N1 - k := ⟨_, rfl⟩
      have hs1 : N1 + 1 - (k + 1) = s := by omega
      have hs2 : N1 + 1 - k = s + 1 := by omega
      have hB2 : cdB n m (s + 1) = cdB n m s + m + 1 := cdB_succ n m s
      have hB3 : cdB n m (s + 1) ≤ cdB n m (N1 + 1) := cdB_mono (by omega)
      have hKo := HK.out
      rw [hs1] at HBd
      have HS2 : Hid (cdB n m (N1 + 1 - k) = cdB n m (s + 1)) := by unfold Hid; rw [hs2]
      generalize cdB n m (s + 1) = B2 at *
      generalize cdB n m s = B1 at *
      generalize cdB n m (N1 + 1) = B9 at *
      have hB12 : B1 + m + 3 ≤ KK := by omega
      have hcP := HRr.out.cell (k + r1) hkr
      have hbP := HBd.out.1.bd (k + r1)
      obtain ⟨-, -, -, hcl⟩ := HB.out.cell
      obtain ⟨bb, fb, rfl, hbb, hcL⟩ := hcl r1 (by rw [HRL.out]; exact hr1n)
      replace hcL := HE.out.cell hcL
      have nb1 : bb ≠ g1 := by omega
      have nb2 : bb ≠ g2 := by omega
      clear hcl hbb
      have hbL := HR.out.bd r1
      have hL0 : cf r r1 ≠ 0 := by
        have h := lead_ne HTr.out (by intro e; have := HRL.out; rw [e] at this; simp at this; omega)
        unfold lead at h
        rwa [HRL.out, show rn - 1 = r1 by omega] at h
      have HLd : Hid (lead r = cf r r1) := by unfold Hid lead; rw [HRL.out, show rn - 1 = r1 by omega]
      have HPP : Hid (cf R (k + (r.length - 1)) = cf R (k + r1)) := by unfold Hid; rw [HRL.out, show rn - 1 = r1 by omega]
      generalize cf R (k + r1) = P at hcP hbP HPP
      generalize cf r r1 = L at hcL hbL hL0 HLd
      have HF : Hid (P / L = cf R (k + (r.length - 1)) / lead r) := by unfold Hid; rw [HPP.out, HLd.out]
      have hbf : Bd (P / L) (B1 + m) := (HBd.out.1.step (R' := R) (j := 0) HR.out (by rw [HLd.out]; exact hL0) HF.out).1
      have hDv := fun W (hw : Wd W) => pdiv_q P L B1 m W hw hbP hbL hL0 hB12
      generalize P / L = f at hDv hbf HF
      have HL0 := Lib.hid hL0
      have HBf := Lib.hid hbf
      have HDB0 : Hid (DB R r f k 0 R) := DB.start
      have HB2 := Lib.hid hB2
      have HB9 : Hid (2 * B2 + 6 ≤ KK) := by unfold Hid; omega
      have HDV := Lib.hid hDv
      clear hB2 hB3 hKo hs hs1 hs2 hL0 hbf hB12 hDv hbP hbL
      obtain ⟨s9, hq0⟩ := HQ.out.cell' hkN
      have hq1 := HQ.out.froz k
      have a1 : IntKind.i64.wrap ((k : Int) + (rn : Int)) = (k : Int) + (rn : Int) := by rw [IntKind.wrap_i64]; omega
      have a2 : IntKind.i64.wrap ((k : Int) + (rn : Int) - 1) = (k : Int) + (rn : Int) - 1 := by rw [IntKind.wrap_i64]; omega
      have a3 : ((k : Int) + (rn : Int) - 1).toNat = k + r1 := by omega
      have a4 : (0 : Int) ≤ (k : Int) + (rn : Int) - 1 := by omega
      have a5 : (1 : Int) ≤ (k : Int) + (rn : Int) := by omega
      have a6 : (k : Int) + (rn : Int) - 1 < (pn : Int) := by omega
      have a7 : (k : Int) + (rn : Int) - 1 ≤ (pn : Int) := by omega
      have a8 : (k : Int) < (N1 : Int) + 1 := by omega
      have a9 : (k : Int) ≤ (N1 : Int) + 1 := by omega
      have b1 : IntKind.i64.wrap ((rn : Int) - 1) = (rn : Int) - 1 := by rw [IntKind.wrap_i64]; omega
      have b2 : ((rn : Int) - 1).toNat = r1 := by omega
      have b3 : (0 : Int) ≤ (rn : Int) - 1 := by omega
      have b4 : (1 : Int) ≤ (rn : Int) := by omega
      have b5 : (rn : Int) - 1 < (rn : Int) := by omega
      have b6 : (rn : Int) - 1 ≤ (rn : Int) := by omega
      have HW1 : Hid (Wd wr.drew) := HW.out.ext (Ext.dr' HE)
      clear hr1 hn1
      go_wp2_with fail
      go_region_held3 (fun w' => w'.cell? ⟨g1, k + r1, none⟩ = some (rtx P) ∧ w'.cell? ⟨bb, fb + r1, none⟩ = some (rtx L)) (((try dsimp only); (repeat' apply And.intro) <;> (first | assumption | (rw [World.cell?_setCell_other _ _ _ _ (by simp [n12, nb2, n21]; done)]; assumption) | (rw [World.cell?_setCell_other _ _ _ _ (by intro h; injection h with h; omega)]; assumption))))
        (first
        | (go_at_call 165; (with_reducible refine (HDV.out _ HW1.out).mono ?_); rintro e w3 ⟨rfl, hE3⟩; have HQ3 := Lib.hid (AtQ.ext (AtQ.drH HQ).out hE3); have HR3 := Lib.hid (AtP.ext (AtP.drH HRr).out hE3); have HE3 := Lib.hid ((Ext.dr' HE).tr hE3); have t0 := Ext.cellD hE3 hq0; have t1 := Ext.cellD hE3 hcP; have t2 := Ext.cellD hE3 hcL; have f0 := AtQ.froz HQ3.out k; clear hE3))
      have HQ4 := Lib.hid (HQ3.out.store f)
      have HR4 := Lib.hid (HR3.out.far n12 k (rtx f))
      have HE4 := Lib.hid (HE3.out.setCell (p := ⟨g2, k, none⟩) hb2 (rtx f))
      clear HQ3 HR3 HE3 t0 t1 t2 f0 hq0 hq1 HQ HRr HE HW1 hcP hcL a1 a2 a3 a4 a5 a6 a7 a8 a9 b1 b2 b3 b4 b5 b6
      generalize w3.setCell ⟨g2, k, none⟩ (rtx f) = w4 at *
      rename_i hHeld
      clear hHeld
      have HNQ : Hid ((Q.set k f).length = N1 + 1) := HQ4.out.1
      have HQk : Hid (cf (Q.set k f) k = f) := by
        unfold Hid
        have : k < Q.length := by have := HNQ.out; rw [List.length_set] at this; omega
        rw [cf_set _ _ _ _ this, if_pos rfl]
      have HD2 : ∀ R', PE R' (padd R (pmul (pmono k (-f)) r)) → DInv p r (Q.set k f) R' k := fun R' hR' => HD.out.step (by intro e; have := HRL.out; rw [e] at this; simp at this; omega) (by rw [HLd.out]; exact HL0.out) HF.out (by have := HNQ.out; rw [List.length_set] at this; omega) hR'
      have HDD := Lib.hid HD2
      have HQBb : Hid (∀ R', PE R' (padd R (pmul (pmono k (-f)) r)) → QB R' (Q.set k f) B2) := fun R' hR' => HBd.out.step HR.out (by rw [HLd.out]; exact HL0.out) HF.out hR' HB2.out (by have := HNQ.out; rw [List.length_set] at this; omega)
      have HBR : Hid (∀ x, Bd (cf R x) B1) := HBd.out.1.bd
      clear HD2 HD HBd
      generalize Q.set k f = Q' at *
      go_wp2
      go_loopw [53] (fun v wr => ∃ (i : Nat) (R' : Pl), i ≤ rn ∧ v = .int .i64 i ∧ Hid (DB R r f k i R') ∧ Hid (AtP wr g1 c1 pn R') ∧ Hid (AtQ wr g2 (N1 + 1) Q' k) ∧ Hid (Ext w wr)) (fun v _ => rn - (intOf v).toNat)
      case atStart => exact ⟨0, R, Nat.zero_le _, rfl, HDB0, HR4, HQ4, HE4⟩
      case round =>
        clear HDB0 HR4 HQ4 HE4
        obtain ⟨i, R', hi1, rfl, HT, HRr, HQ, HE⟩ := hrel
        by_cases hlti : i < rn
        · obtain ⟨-, -, -, hcl⟩ := HB.out.cell
          obtain ⟨b', f', hbf, hbb, hcC⟩ := hcl i (by rw [HRL.out]; exact hlti)
          obtain ⟨rfl, rfl⟩ : bb = b' ∧ fb = f' := by simp at hbf; exact hbf
          replace hcC := HE.out.cell hcC
          clear hcl hbb hbf
          have hikp : i + k < pn := by have := HN1.out; have := HR1.out; omega
          have hcP := HRr.out.cell (i + k) hikp
          have hfP := HRr.out.froz (i + k)
          have hcF := HQ.out.cell hkN
          rw [HQk.out] at hcF
          have hbP : Bd (cf R' (i + k)) B1 := by
            have := HBR.out (k + i)
            rw [← HT.out.2 (k + i) (Nat.le_refl _), Nat.add_comm k i] at this
            exact this
          have hbC := HR.out.bd i
          generalize hC : cf r i = C at hcC hbC
          generalize hP : cf R' (i + k) = P' at hcP hbP
          have HC := Lib.hid hC
          have HPq := Lib.hid hP
          have hK9 := HB9.out
          have hK8 := HB2.out
          have hM := fun W (hw : Wd W) => pmul_q f C (B1 + m) m W hw HBf.out hbC (by omega)
          have hS := fun W (hw : Wd W) => psub_q P' (f * C) B1 (B1 + m + m) W hw hbP (HBf.out.mul hbC) (by omega)
          generalize hZ : f * C = Z at hM hS
          have HZ := Lib.hid hZ
          have HM := Lib.hid hM
          have HS := Lib.hid hS
          clear hC hP hZ hK8 hK9 hM hS hbP hbC
          have a1 : IntKind.i64.wrap ((i : Int) + (k : Int)) = (i : Int) + (k : Int) := by rw [IntKind.wrap_i64]; omega
          have a2 : 0 ≤ (i : Int) + (k : Int) := by omega
          have a3 : ((i : Int) + (k : Int)).toNat = i + k := by omega
          have a4 : (i : Int) + (k : Int) < (pn : Int) := by omega
          have a5 : (i : Int) + (k : Int) ≤ (pn : Int) := by omega
          have a8 : (k : Int) < (N1 : Int) + 1 := by omega
          have a9 : (k : Int) ≤ (N1 : Int) + 1 := by omega
          have HW1 : Hid (Wd wr.drew) := HW.out.ext (Ext.dr' HE)
          go_wp2_with fail
          go_region_with (first
            | (go_at_call 68; (with_reducible refine (HM.out _ HW1.out).mono ?_); rintro e w5 ⟨rfl, hE5⟩; have q0 := Ext.cellD hE5 hcP; have HR5 := Lib.hid (AtP.ext (AtP.drH HRr).out hE5); have HQ5 := Lib.hid (AtQ.ext (AtQ.drH HQ).out hE5); have HE5 := Lib.hid ((Ext.dr' HE).tr hE5); have HW5 := Lib.hid (Wd.ext HW1.out hE5); clear hE5)
            | (go_at_call 166; (with_reducible refine (HS.out _ HW5.out).mono ?_); rintro e w6 ⟨rfl, hE6⟩; have t0 := Ext.cellH hE6 q0; have HR6 := Lib.hid (AtP.ext HR5.out hE6); have HQ6 := Lib.hid (AtQ.ext HQ5.out hE6); have HE6 := Lib.hid (HE5.out.tr hE6); have f0 := AtP.froz HR6.out (i + k); clear hE6))
          all_goals
            have HT2 : Hid (DB R r f k (i + 1) (R'.set (i + k) (P' - Z))) := by
              have h := HT.out.step (by rw [HRr.out.1]; omega) (show P' - Z = cf R' (k + i) - f * cf r i from by rw [Nat.add_comm k i, HPq.out, HC.out, HZ.out])
              rwa [Nat.add_comm k i] at h
            have HR7 := Lib.hid (HR6.out.store (i + k) (P' - Z))
            have HQ7 := Lib.hid (HQ6.out.far n21 (i + k) (rtx (P' - Z)))
            have HE7 := Lib.hid (HE6.out.setCell (p := ⟨g1, i + k, none⟩) hb1 (rtx (P' - Z)))
            go_wp2
            go_roundw
            case rel => exact ⟨i + 1, _, by omega, by go_num, HT2, HR7, HQ7, HE7⟩
            case measure => simp [intOf]; omega
        · have hie : i = rn := by omega
          have HD3 : Hid (DInv p r Q' R' k ∧ QB R' Q' B2) := by
            have h := HT.out
            rw [hie, ← HRL.out] at h
            have h2 := h.done
            exact ⟨HDD.out R' h2, HQBb.out R' h2⟩
          have HBd2 : Hid (QB R' Q' (cdB n m (N1 + 1 - k))) := by unfold Hid; rw [HS2.out]; exact HD3.out.2
          clear hie
          go_wp2
          go_roundw
          case rel => exact ⟨k, (k : Int) - 1, Q', R', by omega, rfl, rfl, HD3.out.1, HBd2, HRr, HQ, HE⟩
          case measure => first | (simp [intOf]; done) | (simp [intOf]; omega)
end Go.Proofs.YtadimepmoljnpaaGreatDoor.GB

namespace Go.Proofs.YtadimepmoljnpaaGreatDoor.GB
set_option linter.unusedVariables false
set_option linter.unusedSimpArgs false
open Go.RowKit Go.Shelf
attribute [local go_sem ↓] Go.wp_at_zero Go.wp_at_succ

/-- The bits of a remainder. -/
def remB (lp n lr m : Nat) : Nat := if lp < lr then n else cdB n m (lp - lr + 1)
theorem DivRel.short {p r : Pl} (tp : Tr p) (hlt : p.length < r.length) : DivRel p r [] p := ⟨tr_nil, tp, hlt, fun i => by
    rw [cf_padd]
    have e : cf (pmul [] r) i = 0 := cf_ge (Nat.zero_le _)
    rw [e]; grind⟩
set_option maxHeartbeats 1000000 in
set_option maxRecDepth 100000 in
theorem pdiv_short (A B : Option Addr) (ca cb : Nat) (p r : Pl) (n : Nat) (w : World) (hlt : p.length < r.length) (l1 : p.length ≤ 100000)
    (hA : PS w (.slice A p.length ca) p) (hp : CB p n) (tp : Tr p) :
    Calls Tryz.prog 126 #[.slice A p.length ca, .slice B r.length cb] w (DivP p r n w) := by
  have hcl := clone49_v (.slice A p.length ca) (p.map rb) w hA (by simpa using Nat.le_trans l1 (by omega))
  have hlt' : decide (p.length < r.length) = true := decide_eq_true hlt
  have HD : Hid (DivRel p r [] p) := DivRel.short tp hlt
  have HP := Lib.hid hp
  clear hA hp tp hlt
  generalize p.length = pn at *
  generalize r.length = rn at *
  go_enter Tryz.func126, Tryz.ntmps126
  go_wp2_with fail
  refine hcl.mono ?_
  rintro e w1 ⟨v1, rfl, hO, hE1⟩
  have HS := Lib.hid (show PS w1 v1 p from hO.sl)
  have HE1 := Lib.hid hE1
  clear hcl hO hE1
  go_wp2_with fail
  go_ret2
  exact ⟨_, _, [], p, rfl, HD.out, ⟨HP.out, PB.nil _⟩, PS.nil _, HS.out, HE1.out⟩
theorem pdiv_v (v1 v2 : Value) (p r : Pl) (m n : Nat) (w : World) (hW : Wd w) (h1 : PS w v1 p) (h2 : PS w v2 r) (hp : CB p n) (hr : CB r m) (tp : Tr p) (tr : Tr r) (hr0 : r ≠ []) (l1 : p.length ≤ 100000)
    (hk : 2 * remB p.length n r.length m + 6 ≤ KK) :
    Calls Tryz.prog 126 #[v1, v2] w (DivP p r (remB p.length n r.length m) w) := by
  obtain ⟨A, ca, rfl⟩ := h1.sl
  obtain ⟨B, cb, rfl⟩ := h2.sl
  have l0 := List.length_pos_iff.2 hr0
  unfold remB at *
  by_cases h : p.length < r.length
  · rw [if_pos h] at *
    exact pdiv_short A B ca cb p r n w h l1 h1 hp tp
  · rw [if_neg h] at *
    exact pdiv_long A B ca cb p r m n w hW l0 (Nat.not_lt.1 h) l1 h1 h2 hp hr tr hk
/-- With the leading coefficient 1. -/
def pmon (p : Pl) : Pl := psc (1 / lead p) p
theorem pmon_nil : pmon [] = [] := rfl
theorem pmon_map (p : Pl) : pmon p = p.map (fun c => c / lead p) := by
  unfold pmon psc
  apply List.map_congr_left
  intro x _
  show 1 / lead p * x = x / lead p
  rw [Rat.div_def, Rat.div_def, Rat.one_mul, Rat.mul_comm]
theorem pmon_len (p : Pl) : (pmon p).length = p.length := by rw [pmon_map, List.length_map]
theorem pmon_take (p : Pl) (k : Nat) (hk : k < p.length) : ((p.take (k + 1)).map fun c => c / lead p) = ((p.take k).map fun c => c / lead p) ++ [cf p k / lead p] := by
  rw [List.take_succ_eq_append_getElem hk, List.map_append, List.map_singleton, cf_lt hk]
theorem pmon_pb {p : Pl} {n : Nat} (hp : PB p n) : PB (pmon p) (2 * n + 1) := by
  rw [pmon_map]
  intro q hq
  obtain ⟨c, hc, rfl⟩ := List.mem_map.1 hq
  exact ((hp c hc).div (hp.cf _)).mono (by omega)
theorem pmon_tr {p : Pl} (tp : Tr p) : Tr (pmon p) := by
  by_cases h : p = []
  · subst h; exact tr_nil
  · exact (GcdRel.base tp h).tr
set_option maxHeartbeats 1000000 in
set_option maxRecDepth 100000 in
theorem pmonic_some (A : Option Addr) (ca : Nat) (p : Pl) (n : Nat) (w : World) (hW : Wd w) (hp0 : 0 < p.length) (l1 : p.length ≤ 100000)
    (hA : PS w (.slice A p.length ca) p) (hp : PB p n) (tp : Tr p) (hk : 2 * n + 4 ≤ KK) :
    Calls Tryz.prog 163 #[.slice A p.length ca] w (RetP w (pmon p)) := by
  obtain ⟨i0, hi, hz0, hz1, hz2⟩ := info_parts Tryz.infoRat
  obtain ⟨p1, hp1⟩ : ∃ p1, p.length = p1 + 1 := ⟨p.length - 1, by omega⟩
  have HLd : Hid (lead p = cf p p1) := by unfold Hid lead; rw [hp1]; rfl
  have HL0 : Hid (cf p p1 ≠ 0) := by
    have h := lead_ne tp (by intro e; rw [e] at hp0; simp at hp0)
    rwa [HLd.out] at h
  have HA := Lib.hid hA
  have HW := Lib.hid hW
  have HP := Lib.hid hp
  have HK := Lib.hid hk
  have HP1 := Lib.hid hp1
  clear hA hW hp hk tp hp1
  generalize hpl : p.length = pn at *
  have HPL := Lib.hid hpl
  clear hpl
  go_enter Tryz.func163, Tryz.ntmps163
  go_wp2_with fail
  go_loopw [3, 8] (fun vo vi wr => ∃ k : Nat, k ≤ pn ∧ vi = .int .i64 k ∧ Hid (OwnS wr w.heap.size vo (((p.take k).map fun c => c / lead p).map rb)) ∧ Hid (Ext w wr)) (fun _ vi _ => pn - (intOf vi).toNat)
  case atStart => exact ⟨0, Nat.zero_le _, rfl, by unfold Hid; rw [List.take_zero]; exact ⟨rfl, .inl ⟨rfl, rfl⟩⟩, Ext.rfl' _⟩
  case round =>
    obtain ⟨k, hk, rfl, HO, HE⟩ := hrel
    by_cases hlt : k < pn
    · obtain ⟨-, -, -, hcl⟩ := HA.out.cell
      obtain ⟨bb, fb, rfl, hbb, hcC⟩ := hcl k (by rw [HPL.out]; exact hlt)
      obtain ⟨b', f', hbf, hbb', hcL⟩ := hcl p1 (by rw [HPL.out]; have := HP1.out; omega)
      obtain ⟨rfl, rfl⟩ : bb = b' ∧ fb = f' := by simp at hbf; exact hbf
      replace hcC := HE.out.cell hcC
      replace hcL := HE.out.cell hcL
      have hbC := HP.out.cf k
      have hbL := HP.out.cf p1
      have HS : Hid (((p.take (k + 1)).map fun c => c / lead p).map rb = ((p.take k).map fun c => c / lead p).map rb ++ [rb (cf p k / cf p p1)]) := by
        unfold Hid
        rw [pmon_take p k (by rw [HPL.out]; exact hlt), List.map_append, List.map_singleton, HLd.out]
      have hl0 := HL0.out
      have hKo := HK.out
      have hD := fun W (hw : Wd W) => pdiv_q (cf p k) (cf p p1) n n W hw hbC hbL hl0 (by omega)
      generalize cf p k / cf p p1 = f at hD HS
      have HD := Lib.hid hD
      clear hD hl0 hKo hbC hbL hcl hbb hbb' hbf
      generalize cf p k = C at *
      generalize cf p p1 = L at *
      have hN : (((p.take k).map fun c => c / lead p).map rb).length + 1 ≤ maxLen := by simp [maxLen]; omega
      have hbig : ((((p.take k).map fun c => c / lead p).map rb).length + 1) * 16 ≤ 140737488355328 := by simp; omega
      generalize ((p.take k).map fun c => c / lead p).map rb = r at *
      have b1 : IntKind.i64.wrap ((pn : Int) - 1) = (pn : Int) - 1 := by rw [IntKind.wrap_i64]; omega
      have b2 : ((pn : Int) - 1).toNat = p1 := by have := HP1.out; omega
      have b3 : (0 : Int) ≤ (pn : Int) - 1 := by omega
      have b4 : (1 : Int) ≤ (pn : Int) := by omega
      have b5 : (pn : Int) - 1 < (pn : Int) := by omega
      have b6 : (pn : Int) - 1 ≤ (pn : Int) := by omega
      go_wp2_with fail
      refine (HD.out _ (HW.out.ext HE.out)).mono ?_
      rintro e w1 ⟨rfl, hE1⟩
      have HE1 := Lib.hid (HE.out.tr hE1)
      have HO1 := Lib.hid (HO.out.ext hE1)
      have hbase1 : w.heap.size ≤ w1.heap.size := HE1.out.size
      clear hE1 b1 b2 b3 b4 b5 b6
      go_wp2_with (at_builtin; (refine wpList_append_own _ rfl _ _ 115 rfl w.heap.size 24 i0 (.string ⟨#[]⟩) 1 16 Tryz.underlying115 hi hz0 hz1 hz2 rfl (by decide) _ r.length (strs r) rfl (World.ownsRow.alloc HO1.out _) ⟨w1.heap.size, 0, none⟩ 1 1 _ rfl rfl (cell_one_new _ _ _) (by simp [Value.oneCell']) hN hbig (by simp; omega) ?_); intro v' w2 hown2 hgrow2 _)
      all_goals
        obtain ⟨p1', p2'⟩ := own_grow (news := [rb f]) HO1.out HE1.out hown2 hgrow2
        go_roundw
        case rel => exact ⟨k + 1, by omega, by go_num, by rw [HS.out]; exact p1', p2'⟩
        case measure => simp [intOf]; omega
    · have hke : k = pn := by omega
      have h := HO.out.sl
      rw [hke, ← HPL.out, List.take_length, ← pmon_map] at h
      have HV := Lib.hid h
      clear hke h
      go_wp2
      go_ret
      exact ⟨_, rfl, HV.out, HE.out⟩
set_option maxHeartbeats 1000000 in
set_option maxRecDepth 100000 in
theorem pmonic_nil (A : Option Addr) (ca : Nat) (w : World) :
    Calls Tryz.prog 163 #[.slice A 0 ca] w fun e w' => e = .returned (.slice none 0 0) ∧ w' = w := by
  go_enter Tryz.func163, Tryz.ntmps163
  go_wp2
  go_loop [3, 8] (fun o v => o = .slice none 0 0 ∧ v = .int .i64 0) (fun _ _ => 0)
  case atStart => exact ⟨rfl, rfl⟩
  case round =>
    obtain ⟨rfl, rfl⟩ := hrel
    go_wp2
    go_ret
    exact ⟨rfl, rfl⟩
theorem pmonic_v (v : Value) (p : Pl) (n : Nat) (w : World) (hW : Wd w) (h1 : PS w v p) (hp : PB p n) (tp : Tr p) (l1 : p.length ≤ 100000) (hk : 2 * n + 4 ≤ KK) :
    Calls Tryz.prog 163 #[v] w (RetP w (pmon p)) := by
  obtain ⟨A, ca, rfl⟩ := h1.sl
  rcases Nat.eq_zero_or_pos p.length with h | h
  · have e := List.eq_nil_of_length_eq_zero h
    subst e
    refine (pmonic_nil A ca w).mono ?_
    rintro e w' ⟨rfl, rfl⟩
    rw [pmon_nil]
    exact ⟨_, rfl, PS.nil _, Ext.rfl' _⟩
  · exact pmonic_some A ca p n w hW h l1 h1 hp tp hk
end Go.Proofs.YtadimepmoljnpaaGreatDoor.GB

namespace Go.Proofs.YtadimepmoljnpaaGreatDoor.GB
set_option linter.unusedVariables false
set_option linter.unusedSimpArgs false
open Go.RowKit Go.Shelf
attribute [local go_sem ↓] Go.wp_at_zero Go.wp_at_succ

/-- The bits that Euclid's algorithm needs are at most N. -/
def gok : Nat → Nat → Nat → Nat → Nat → Nat → Bool
  | 0, _, n, _, _, N => decide (n ≤ N)
  | f + 1, lp, n, lr, m, N => if lr = 0 then decide (n ≤ N) else if lp < lr then decide (n ≤ N) && gok f lr m lp n N else decide (remB lp n lr m ≤ N) && (List.range lr).all fun l => gok f lr m l (remB lp n lr m) N
/-- What the loop of the greatest common divisor holds. -/
def GI (p r P R : Pl) (n m f N : Nat) : Prop := Tr P ∧ Tr R ∧ CB P n ∧ CB R m ∧ P.length ≤ 100000 ∧ R.length ≤ 100000 ∧ R.length ≤ f ∧ (gok f P.length n R.length m N = true ∧ 2 * N + 6 ≤ KK) ∧ ∀ d, GcdRel P R d → GcdRel p r d
theorem GcdRel.mon {p r q t d : Pl} (h : DivRel p r q t) (k : GcdRel r (pmon t) d) : GcdRel p r d := by
  by_cases ht : t = []
  · subst ht
    exact GcdRel.step h.eq (c := 1) (by decide) (fun i => by rw [cf_psc]; simp [pmon_nil]) k
  · exact GcdRel.step h.eq (c := 1 / lead t) (by have := lead_ne h.trt ht; intro e; have e2 : 1 / lead t * lead t = 1 := by grind
                                                 rw [e] at e2; grind) (PE.rfl' _) k
theorem GI.step {p r P R q t : Pl} {n m f N : Nat} (h : GI p r P R n m (f + 1) N) (hr : R ≠ []) (hd : DivRel P R q t) (hb : CB t (remB P.length n R.length m)) : GI p r R (pmon t) m (remB P.length n R.length m) f N := by
  obtain ⟨t1, t2, b1, b2, l1, l3, l2, ⟨g, gk⟩, hg⟩ := h
  have l0 := List.length_pos_iff.2 hr
  have hlt := hd.lt
  refine ⟨t2, pmon_tr hd.trt, b2, CB.mon hd.trt hb, l3, by rw [pmon_len]; omega, by rw [pmon_len]; omega, ⟨?_, gk⟩, fun d hd2 => hg d (GcdRel.mon hd hd2)⟩
  rw [pmon_len]
  unfold gok at g
  rw [if_neg (by omega)] at g
  by_cases hs : P.length < R.length
  · rw [if_pos hs, Bool.and_eq_true] at g
    have e := (DivRel.uniq t2 hd (DivRel.short t1 hs)).2
    subst e
    have e2 : remB t.length n R.length m = n := by unfold remB; rw [if_pos hs]
    rw [e2]; exact g.2
  · rw [if_neg hs, Bool.and_eq_true, List.all_eq_true] at g
    exact g.2 _ (List.mem_range.2 hlt)
theorem GI.done {p r P : Pl} {n m f N : Nat} (h : GI p r P [] n m f N) : GcdRel p r (pmon P) ∧ CB (pmon P) N ∧ 2 * n + 4 ≤ KK := by
  obtain ⟨t1, t2, b1, b2, l1, l3, l2, ⟨g, gk⟩, hg⟩ := h
  have hn : n ≤ N := by
    cases f with
    | zero => exact of_decide_eq_true g
    | succ f => unfold gok at g; rw [if_pos (show ([] : Pl).length = 0 from rfl)] at g; exact of_decide_eq_true g
  refine ⟨hg _ ?_, (CB.mon t1 b1).mono hn, by omega⟩
  by_cases hP : P = []
  · subst hP; exact GcdRel.nil
  · exact GcdRel.base t1 hP
theorem GI.bits {p r P R : Pl} {n m f N : Nat} (h : GI p r P R n m f N) (hr : R ≠ []) : ∃ f', f = f' + 1 ∧ 2 * remB P.length n R.length m + 6 ≤ KK := by
  obtain ⟨t1, t2, b1, b2, l1, l3, l2, ⟨g, gk⟩, hg⟩ := h
  have l0 := List.length_pos_iff.2 hr
  cases f with
  | zero => omega
  | succ f =>
    refine ⟨f, rfl, ?_⟩
    unfold gok at g
    rw [if_neg (by omega)] at g
    by_cases hs : P.length < R.length
    · rw [if_pos hs, Bool.and_eq_true] at g
      have := of_decide_eq_true g.1
      unfold remB; rw [if_pos hs]; omega
    · rw [if_neg hs, Bool.and_eq_true] at g
      have := of_decide_eq_true g.1
      omega
set_option maxHeartbeats 2000000 in
set_option maxRecDepth 100000 in
theorem pcommon_v (v1 v2 : Value) (p r : Pl) (n m f N : Nat) (w : World) (hW : Wd w) (h1 : PS w v1 p) (h2 : PS w v2 r) (hI : GI p r p r n m f N) :
    Calls Tryz.prog 125 #[v1, v2] w fun e w' => ∃ v d, e = .returned v ∧ (GcdRel p r d ∧ CB d N) ∧ PS w' v d ∧ Ext w w' := by
  have HW := Lib.hid hW
  have H1 := Lib.hid h1
  have H2 := Lib.hid h2
  have HI := Lib.hid hI
  clear hW h1 h2 hI
  go_enter Tryz.func125, Tryz.ntmps125
  go_wp2_with fail
  go_loopw [0, 1] (fun a b wr => ∃ (P R : Pl) (n m f : Nat), Hid (PS wr a P) ∧ Hid (PS wr b R) ∧ Hid (GI p r P R n m f N) ∧ Hid (Ext w wr)) (fun _ b _ => match b with | .slice _ l _ => l | _ => 0)
  case atStart => exact ⟨p, r, n, m, f, H1, H2, HI, Ext.rfl' _⟩
  case round =>
    clear H1 H2 HI
    obtain ⟨P, R, n, m, f, H1, H2, HI, HE⟩ := hrel
    obtain ⟨B, cb, rfl⟩ := H2.out.sl
    by_cases hR : R = []
    · subst hR
      have HD := Lib.hid HI.out.done
      have hmo := fun W (hE : Ext w W) (hps : PS W u0 P) => pmonic_v u0 P n W (HW.out.ext hE) hps HI.out.2.2.1.pb HI.out.1 HI.out.2.2.2.2.1 HD.out.2.2
      have HM := Lib.hid hmo
      clear hmo
      simp only [List.length_nil]
      go_wp2_with fail
      refine (HM.out _ HE.out H1.out).mono ?_
      rintro e w1 ⟨v, rfl, hv, hE1⟩
      have HV := Lib.hid hv
      have HE1 := Lib.hid (HE.out.tr hE1)
      clear hv hE1
      go_wp2_with fail
      go_ret
      exact ⟨_, _, rfl, ⟨HD.out.1, HD.out.2.1⟩, HV.out, HE1.out⟩
    · have l0 := List.length_pos_iff.2 hR
      obtain ⟨f', hf, hbk⟩ := HI.out.bits hR
      have HR0 := Lib.hid hR
      have HBk := Lib.hid hbk
      have hdv := pdiv_v u0 (.slice B R.length cb) P R m n wr (HW.out.ext HE.out) H1.out H2.out HI.out.2.2.1 HI.out.2.2.2.1 HI.out.1 HI.out.2.1 hR HI.out.2.2.2.2.1 (by omega)
      have HDv := Lib.hid hdv
      have HF := Lib.hid hf
      have HRl := Lib.hid (show R.length ≤ 100000 from HI.out.2.2.2.2.2.1)
      clear hR hbk hdv hf
      generalize hrl : R.length = rl at *
      have HRL := Lib.hid hrl
      clear hrl
      go_wp2_with fail
      refine HDv.out.mono ?_
      rintro e w1 ⟨v3, v4, q, t, rfl, hd, hb, hq, ht, hE1⟩
      have HD := Lib.hid hd
      have HE1 := Lib.hid (HE.out.tr hE1)
      have HT := Lib.hid ht
      have HB := Lib.hid hb.1
      have H21 := Lib.hid (H2.out.ext hE1)
      clear hd hb hq ht hE1
      have hmo := pmonic_v v4 t _ w1 (HW.out.ext HE1.out) HT.out HB.out.pb HD.out.trt (by have := HD.out.lt; have := HRL.out; have := HRl.out; omega) (by have h1 := HBk.out; omega)
      have HM := Lib.hid hmo
      clear hmo
      go_wp2_with fail
      refine HM.out.mono ?_
      rintro e w2 ⟨v5, rfl, hv, hE2⟩
      have HV := Lib.hid hv
      have HE2 := Lib.hid (HE1.out.tr hE2)
      have H22 := Lib.hid (H21.out.ext hE2)
      clear hv hE2
      obtain ⟨C, cc, rfl⟩ := HV.out.sl
      have hms : (pmon t).length < rl := by rw [pmon_len]; have := HD.out.lt; have := HRL.out; omega
      have HMS := Lib.hid hms
      clear hms
      have h := HI.out
      rw [HF.out] at h
      have hb2 := HB.out
      rw [← HRL.out] at hb2
      have HI2 := Lib.hid (h.step HR0.out HD.out hb2)
      clear h hb2
      go_wp2
      go_roundw
      case rel => exact ⟨R, pmon t, m, _, f', H22, HV, HI2, HE2⟩
      case measure => exact HMS.out
end Go.Proofs.YtadimepmoljnpaaGreatDoor.GB

namespace Go.Proofs.YtadimepmoljnpaaGreatDoor.GB
set_option linter.unusedVariables false
set_option linter.unusedSimpArgs false
open Go.RowKit Go.Shelf
attribute [local go_sem ↓] Go.wp_at_zero Go.wp_at_succ

/-- No text is long. -/
def SB (l : List ByteArray) : Prop := ∀ s ∈ l, s.size ≤ 1000000
/-- Valid hands back a bool. -/
def VA (v : Value) (b : Bool) (w : World) : Prop := ∀ W, Ext w W → Calls Tryz.prog 43 #[v] W fun e w' => e = .returned (.bool b) ∧ Ext W w'
theorem VA.ext {v : Value} {b : Bool} {w w' : World} (h : VA v b w) (hE : Ext w w') : VA v b w' := fun W hW => h W (hE.tr hW)
theorem pValid_any (v : Value) (l : List ByteArray) (w : World) (hW : Wd w) (h : SlS w v l) (hs : SB l) : VA v (polB l) w := by
  intro W hE
  obtain ⟨A, c, rfl, h1, h2, h3⟩ := h.ext hE
  unfold polB
  exact pvalid_g A c l (fun s => !ratB s.data.toList) W h1 h2 h3 (fun _ j hj W' hE' => vclos _ _ W' (rValid_any _ W' ((hW.ext hE).ext hE') (hs _ (List.getElem_mem hj))))
theorem last_rb {p : Pl} (tp : Tr p) : lastZ (p.map rb) = false := by
  unfold lastZ
  rw [List.getLast?_map]
  cases h : p.getLast? with
  | none => rfl
  | some x =>
    simp only [Option.map_some]
    rw [isZ_rb]
    apply decide_eq_false
    intro e
    rw [e] at h
    exact tp h
theorem pValid_p (v : Value) (p : Pl) (n : Nat) (w : World) (hW : Wd w) (h : PS w v p) (hp : PB p n) (tp : Tr p) (hl : p.length ≤ 17) (hn : n + 1 ≤ KK) : VA v true w := by
  intro W hE
  obtain ⟨A, c, rfl, h1, h2, h3⟩ := h.ext hE
  have hh := pvalid_g A c (p.map rb) (fun _ => false) W h1 h2 h3 (fun _ j hj W' hE' => by
    have hj' : j < p.length := by simpa using hj
    have e : (p.map rb)[j] = rb p[j] := by simp
    rw [e]
    exact vclos _ true W' (rValid_q p[j] n W' ((hW.ext hE).ext hE') (hp _ (List.getElem_mem hj')) hn))
  rw [last_rb tp] at hh
  have e1 : decide ((p.map rb).length ≤ 17) = true := decide_eq_true (by simpa using hl)
  have e2 : (p.map rb).any (fun _ => false) = false := by simp
  rw [e1, e2] at hh
  exact hh
/-- A list of texts is a polynomial's, just if it passes. -/
theorem polB_iff (l : List ByteArray) : polB l = true ↔ ∃ p : Pl, l = p.map rb ∧ Tr p ∧ p.length ≤ 17 := by
  constructor
  · intro h
    unfold polB at h
    simp only [Bool.and_eq_true, decide_eq_true_eq, Bool.not_eq_true'] at h
    obtain ⟨⟨h1, h2⟩, h3⟩ := h
    have hq : ∀ s ∈ l, ∃ q, s = rb q := by
      intro s hs
      rw [List.any_eq_false] at h3
      have := h3 s hs
      obtain ⟨q, hq⟩ := ratB_t (l := s.data.toList) (by simpa using this)
      exact ⟨q, list_of hq⟩
    have hp : ∃ p : Pl, l = p.map rb := by
      clear h1 h2 h3
      induction l with
      | nil => exact ⟨[], rfl⟩
      | cons s l ih =>
        obtain ⟨q, rfl⟩ := hq s (by simp)
        obtain ⟨p, rfl⟩ := ih (fun s hs => hq s (by simp [hs]))
        exact ⟨q :: p, rfl⟩
    obtain ⟨p, rfl⟩ := hp
    refine ⟨p, rfl, ?_, by simpa using h1⟩
    intro e
    unfold lastZ at h2
    rw [List.getLast?_map, e] at h2
    simp only [Option.map_some] at h2
    rw [isZ_rb] at h2
    simp at h2
  · rintro ⟨p, rfl, tp, hl⟩
    unfold polB
    rw [last_rb tp]
    have e1 : decide ((p.map rb).length ≤ 17) = true := decide_eq_true (by simpa using hl)
    have e2 : ((p.map rb).any fun s => !ratB s.data.toList) = false := by
      rw [List.any_eq_false]
      intro s hs
      obtain ⟨q, _, rfl⟩ := List.mem_map.1 hs
      have : ratB (rb q).data.toList = true := ratB_of ⟨q, rfl⟩
      rw [this]; simp
    rw [e1, e2]
    rfl
/-- A value that has what Q says. -/
def RetQ (Q : World → Value → Prop) (w : World) (e : Ending) (w' : World) : Prop := ∃ v, e = .returned v ∧ Q w' v ∧ Ext w w'
def RetQ0 (Q : World → Value → Prop) (w : World) (e : Ending) (w' : World) : Prop := ∃ v, e = .returned (.tuple #[v, .int .i64 0]) ∧ Q w' v ∧ Ext w w'
set_option maxHeartbeats 1000000 in
set_option maxRecDepth 100000 in
theorem papply_minus (v1 v2 : Value) (Q : World → Value → Prop) (w : World) (h1 : VA v1 true w) (h2 : VA v2 true w)
    (h3 : ∀ W, Ext w W → Calls Tryz.prog 178 #[v1, v2] W (RetQ Q W)) :
    Calls Tryz.prog 72 #[.func (.func 178) #[] #[], v1, v2] w (RetQ0 Q w) := by
  go_enter Tryz.func72, Tryz.ntmps72
  go_wp2_with fail
  refine (h1 _ (Ext.rfl' _)).mono ?_
  rintro e w1 ⟨rfl, E1⟩
  have HE1 := Lib.hid E1
  clear E1
  go_wp2_with fail
  refine (h2 _ HE1.out).mono ?_
  rintro e w2 ⟨rfl, E2⟩
  have HE2 := Lib.hid (HE1.out.tr E2)
  clear E2
  go_wp2_with fail
  refine (h3 _ HE2.out).mono ?_
  rintro e w3 ⟨v, rfl, hv, E3⟩
  have HV := Lib.hid hv
  have HE3 := Lib.hid (HE2.out.tr E3)
  clear E3 hv h1 h2 h3
  go_wp2_with fail
  go_ret2
  exact ⟨_, rfl, HV.out, HE3.out⟩
set_option maxHeartbeats 1000000 in
set_option maxRecDepth 100000 in
theorem papply_times (v1 v2 : Value) (Q : World → Value → Prop) (w : World) (h1 : VA v1 true w) (h2 : VA v2 true w)
    (h3 : ∀ W, Ext w W → Calls Tryz.prog 73 #[v1, v2] W (RetQ Q W)) :
    Calls Tryz.prog 72 #[.func (.func 73) #[] #[], v1, v2] w (RetQ0 Q w) := by
  go_enter Tryz.func72, Tryz.ntmps72
  go_wp2_with fail
  refine (h1 _ (Ext.rfl' _)).mono ?_
  rintro e w1 ⟨rfl, E1⟩
  have HE1 := Lib.hid E1
  clear E1
  go_wp2_with fail
  refine (h2 _ HE1.out).mono ?_
  rintro e w2 ⟨rfl, E2⟩
  have HE2 := Lib.hid (HE1.out.tr E2)
  clear E2
  go_wp2_with fail
  refine (h3 _ HE2.out).mono ?_
  rintro e w3 ⟨v, rfl, hv, E3⟩
  have HV := Lib.hid hv
  have HE3 := Lib.hid (HE2.out.tr E3)
  clear E3 hv h1 h2 h3
  go_wp2_with fail
  go_ret2
  exact ⟨_, rfl, HV.out, HE3.out⟩
set_option maxHeartbeats 1000000 in
set_option maxRecDepth 100000 in
theorem papply_common (v1 v2 : Value) (Q : World → Value → Prop) (w : World) (h1 : VA v1 true w) (h2 : VA v2 true w)
    (h3 : ∀ W, Ext w W → Calls Tryz.prog 125 #[v1, v2] W (RetQ Q W)) :
    Calls Tryz.prog 72 #[.func (.func 125) #[] #[], v1, v2] w (RetQ0 Q w) := by
  go_enter Tryz.func72, Tryz.ntmps72
  go_wp2_with fail
  refine (h1 _ (Ext.rfl' _)).mono ?_
  rintro e w1 ⟨rfl, E1⟩
  have HE1 := Lib.hid E1
  clear E1
  go_wp2_with fail
  refine (h2 _ HE1.out).mono ?_
  rintro e w2 ⟨rfl, E2⟩
  have HE2 := Lib.hid (HE1.out.tr E2)
  clear E2
  go_wp2_with fail
  refine (h3 _ HE2.out).mono ?_
  rintro e w3 ⟨v, rfl, hv, E3⟩
  have HV := Lib.hid hv
  have HE3 := Lib.hid (HE2.out.tr E3)
  clear E3 hv h1 h2 h3
  go_wp2_with fail
  go_ret2
  exact ⟨_, rfl, HV.out, HE3.out⟩
set_option maxHeartbeats 1000000 in
set_option maxRecDepth 100000 in
theorem PSub_ok (v1 v2 : Value) (Q : World → Value → Prop) (w : World) (h1 : ∀ W, Ext w W → Calls Tryz.prog 72 #[.func (.func 178) #[] #[], v1, v2] W (RetQ0 Q W)) : Calls Tryz.prog 139 #[v1, v2] w (RetQ0 Q w) := by
  go_enter Tryz.func139, Tryz.ntmps139
  go_wp2_with fail
  refine (h1 _ (Ext.rfl' _)).mono ?_
  rintro e w1 ⟨v, rfl, hv, hE⟩
  have HV := Lib.hid hv
  clear hv h1
  go_wp2_with fail
  go_ret2
  exact ⟨_, rfl, HV.out, hE⟩
set_option maxHeartbeats 1000000 in
set_option maxRecDepth 100000 in
theorem PGCD_ok (v1 v2 : Value) (Q : World → Value → Prop) (w : World) (h1 : ∀ W, Ext w W → Calls Tryz.prog 72 #[.func (.func 125) #[] #[], v1, v2] W (RetQ0 Q W)) : Calls Tryz.prog 82 #[v1, v2] w (RetQ0 Q w) := by
  go_enter Tryz.func82, Tryz.ntmps82
  go_wp2_with fail
  refine (h1 _ (Ext.rfl' _)).mono ?_
  rintro e w1 ⟨v, rfl, hv, hE⟩
  have HV := Lib.hid hv
  clear hv h1
  go_wp2_with fail
  go_ret2
  exact ⟨_, rfl, HV.out, hE⟩
end Go.Proofs.YtadimepmoljnpaaGreatDoor.GB

namespace Go.Proofs.YtadimepmoljnpaaGreatDoor.GB
set_option linter.unusedVariables false
set_option linter.unusedSimpArgs false
open Go.RowKit Go.Shelf
attribute [local go_sem ↓] Go.wp_at_zero Go.wp_at_succ

set_option maxHeartbeats 1000000 in
set_option maxRecDepth 100000 in
theorem PMul_a (A B : Option Addr) (ca cb pn rn : Nat) (Q : World → Value → Prop) (w : World) (h1 : VA (.slice A pn ca) true w) (h2 : VA (.slice B rn cb) true w) (l1 : pn ≤ 100000) (l2 : rn ≤ 100000) (p0 : pn = 0)
    (h3 : ∀ W, Ext w W → Calls Tryz.prog 72 #[.func (.func 73) #[] #[], .slice A pn ca, .slice B rn cb] W (RetQ0 Q W)) :
    Calls Tryz.prog 33 #[.slice A pn ca, .slice B rn cb] w (RetQ0 Q w) := by
  subst p0
  go_enter Tryz.func33, Tryz.ntmps33
  go_wp2_with fail
  refine (h1 _ (Ext.rfl' _)).mono ?_
  rintro e w1 ⟨rfl, E1⟩
  have HE1 := Lib.hid E1
  clear E1
  go_wp2_with fail
  refine (h2 _ HE1.out).mono ?_
  rintro e w2 ⟨rfl, E2⟩
  have HE2 := Lib.hid (HE1.out.tr E2)
  clear E2
  go_wp2_with fail
  refine (h3 _ HE2.out).mono ?_
  rintro e w3 ⟨v, rfl, hv, E3⟩
  have HV := Lib.hid hv
  have HE3 := Lib.hid (HE2.out.tr E3)
  clear E3 hv h1 h2 h3
  go_wp2_with fail
  go_ret2
  exact ⟨_, rfl, HV.out, HE3.out⟩
set_option maxHeartbeats 1000000 in
set_option maxRecDepth 100000 in
theorem PMul_b (A B : Option Addr) (ca cb pn rn : Nat) (Q : World → Value → Prop) (w : World) (h1 : VA (.slice A pn ca) true w) (h2 : VA (.slice B rn cb) true w) (l1 : pn ≤ 100000) (l2 : rn ≤ 100000) (p0 : 0 < pn) (r0 : rn = 0)
    (h3 : ∀ W, Ext w W → Calls Tryz.prog 72 #[.func (.func 73) #[] #[], .slice A pn ca, .slice B rn cb] W (RetQ0 Q W)) :
    Calls Tryz.prog 33 #[.slice A pn ca, .slice B rn cb] w (RetQ0 Q w) := by
  subst r0
  go_enter Tryz.func33, Tryz.ntmps33
  go_wp2_with fail
  refine (h1 _ (Ext.rfl' _)).mono ?_
  rintro e w1 ⟨rfl, E1⟩
  have HE1 := Lib.hid E1
  clear E1
  go_wp2_with fail
  refine (h2 _ HE1.out).mono ?_
  rintro e w2 ⟨rfl, E2⟩
  have HE2 := Lib.hid (HE1.out.tr E2)
  clear E2
  go_wp2_with fail
  refine (h3 _ HE2.out).mono ?_
  rintro e w3 ⟨v, rfl, hv, E3⟩
  have HV := Lib.hid hv
  have HE3 := Lib.hid (HE2.out.tr E3)
  clear E3 hv h1 h2 h3
  go_wp2_with fail
  go_ret2
  exact ⟨_, rfl, HV.out, HE3.out⟩
set_option maxHeartbeats 1000000 in
set_option maxRecDepth 100000 in
theorem PMul_c (A B : Option Addr) (ca cb pn rn : Nat) (Q : World → Value → Prop) (w : World) (h1 : VA (.slice A pn ca) true w) (h2 : VA (.slice B rn cb) true w) (l1 : pn ≤ 100000) (l2 : rn ≤ 100000) (p0 : 0 < pn) (r0 : 0 < rn) (hl : pn + rn ≤ 18)
    (h3 : ∀ W, Ext w W → Calls Tryz.prog 72 #[.func (.func 73) #[] #[], .slice A pn ca, .slice B rn cb] W (RetQ0 Q W)) :
    Calls Tryz.prog 33 #[.slice A pn ca, .slice B rn cb] w (RetQ0 Q w) := by
  have a1 : ¬ ((16 : Int) < (pn : Int) + (rn : Int) - 2) := by omega
  go_enter Tryz.func33, Tryz.ntmps33
  go_wp2_with fail
  refine (h1 _ (Ext.rfl' _)).mono ?_
  rintro e w1 ⟨rfl, E1⟩
  have HE1 := Lib.hid E1
  clear E1
  go_wp2_with fail
  refine (h2 _ HE1.out).mono ?_
  rintro e w2 ⟨rfl, E2⟩
  have HE2 := Lib.hid (HE1.out.tr E2)
  clear E2
  go_wp2_with fail
  refine (h3 _ HE2.out).mono ?_
  rintro e w3 ⟨v, rfl, hv, E3⟩
  have HV := Lib.hid hv
  have HE3 := Lib.hid (HE2.out.tr E3)
  clear E3 hv h1 h2 h3
  go_wp2_with fail
  go_ret2
  exact ⟨_, rfl, HV.out, HE3.out⟩
def DivP0 (p r : Pl) (B : Nat) (w : World) (e : Ending) (w' : World) : Prop := ∃ v1 v2 q t, e = .returned (.tuple #[v1, v2, .int .i64 0]) ∧ DivRel p r q t ∧ (CB t B ∧ PB q B) ∧ PS w' v1 q ∧ PS w' v2 t ∧ Ext w w'
set_option maxHeartbeats 1000000 in
set_option maxRecDepth 100000 in
theorem PDiv_ok (v1 : Value) (B : Option Addr) (cb rn : Nat) (p r : Pl) (K : Nat) (w : World) (r0 : 0 < rn) (l2 : rn ≤ 100000) (h1 : VA v1 true w) (h2 : VA (.slice B rn cb) true w)
    (h3 : ∀ W, Ext w W → Calls Tryz.prog 126 #[v1, .slice B rn cb] W (DivP p r K W)) :
    Calls Tryz.prog 83 #[v1, .slice B rn cb] w (DivP0 p r K w) := by
  have r0' : ((rn : Int) == 0) = false := by rw [beq_eq_false_iff_ne]; omega
  go_enter Tryz.func83, Tryz.ntmps83
  go_wp2_with fail
  refine (h1 _ (Ext.rfl' _)).mono ?_
  rintro e w1 ⟨rfl, E1⟩
  have HE1 := Lib.hid E1
  clear E1
  go_wp2_with fail
  refine (h2 _ HE1.out).mono ?_
  rintro e w2 ⟨rfl, E2⟩
  have HE2 := Lib.hid (HE1.out.tr E2)
  clear E2
  go_wp2_with fail
  refine (h3 _ HE2.out).mono ?_
  rintro e w3 ⟨v3, v4, q, t, rfl, hd, hb, hq, ht, E3⟩
  have HD := Lib.hid hd
  have HB := Lib.hid hb
  have HQ := Lib.hid hq
  have HT := Lib.hid ht
  have HE3 := Lib.hid (HE2.out.tr E3)
  clear E3 hd hb hq ht h1 h2 h3
  go_wp2_with fail
  go_ret3
  exact ⟨_, _, q, t, rfl, HD.out, HB.out, HQ.out, HT.out, HE3.out⟩
end Go.Proofs.YtadimepmoljnpaaGreatDoor.GB

namespace Go.Proofs.YtadimepmoljnpaaGreatDoor.GB
set_option linter.unusedVariables false
set_option linter.unusedSimpArgs false
open Go.RowKit Go.Shelf
attribute [local go_sem] Oper.semAt_some

/-- A place and its number. -/
abbrev NQ (b : Nat) := { x : Nat × Rat // x.1 < 1099511627776 ∧ Bd x.2 b }
/-- The numbers of p, the last first. -/
noncomputable def pdn (b : Nat) (p : Pl) (k : Nat) : List (NQ b) := open Classical in (List.range k).map fun j => if h : p.length - 1 - j < 1099511627776 ∧ Bd (cf p (p.length - 1 - j)) b then ⟨(p.length - 1 - j, cf p (p.length - 1 - j)), h⟩ else ⟨(0, 0), by decide, (Bd.of_int 0 0 (by decide)).mono (Nat.zero_le _)⟩
theorem pdn_succ {b : Nat} {p : Pl} {k m : Nat} (hm : m + k + 1 = p.length) (h1 : m < 1099511627776) (h2 : Bd (cf p m) b) : pdn b p (k + 1) = pdn b p k ++ [⟨(m, cf p m), h1, h2⟩] := by
  have e : p.length - 1 - k = m := by omega
  simp only [pdn, List.range_succ, List.map_append, List.map_cons, List.map_nil]
  congr 2
  rw [dif_pos (show p.length - 1 - k < 1099511627776 ∧ Bd (cf p (p.length - 1 - k)) b from by rw [e]; exact ⟨h1, h2⟩)]
  apply Subtype.ext
  show (p.length - 1 - k, cf p (p.length - 1 - k)) = (m, cf p m)
  rw [e]
theorem pdn_length (b : Nat) (p : Pl) (k : Nat) : (pdn b p k).length = k := by simp [pdn]
/-- The places are in order. -/
theorem pdn_prefix {b : Nat} {p : Pl} (hp : PB p b) (k : Nat) (hk : k ≤ p.length) (hl : p.length ≤ 100000) : (pdn b p k).map (fun x => x.1.2) = (p.drop (p.length - k)).reverse := by
  induction k with
  | zero => simp [pdn]
  | succ k ih =>
    obtain ⟨m, hm⟩ : ∃ m, m + k + 1 = p.length := ⟨p.length - k - 1, by omega⟩
    rw [pdn_succ hm (by omega) (hp.cf m), List.map_append, ih (by omega)]
    have e1 : p.length - (k + 1) = m := by omega
    have e2 : p.length - k = m + 1 := by omega
    rw [e1, e2, List.drop_eq_getElem_cons (by omega : m < p.length), List.reverse_cons]
    have e3 : cf p m = p[m] := cf_lt (by omega)
    show _ ++ [cf p m] = _
    rw [e3]

set_option maxHeartbeats 2000000 in
set_option maxRecDepth 100000 in
/-- The closure of slices.Backward. -/
theorem pback1_in (F : Fence) (n : Nat) (h8 : F.fn 110) (hro : F.round = none) (hn : 1 ≤ n) (l Bs s0 : Nat) (A : Option Addr) (cap : Nat) (p : Pl) (zl : Nat) (HZ : Hid (zl = p.length)) (hlen : zl ≤ 100000) (b : Nat) (hp : PB p b) (J Jx : List (NQ b) → World → Prop)
    (hY : ∀ pre x W, J pre W → pre.length < zl → YieldAt F (n - 1) Tryz.prog l #[.int .i64 (x.1.1 : Int), rtx x.1.2] W fun e W' =>
      (e = .returned (.bool true) ∧ J (pre ++ [x]) W' ∧ Kps s0 Bs W W') ∨ (e = .returned (.bool false) ∧ Jx (pre ++ [x]) W'))
    (W : World) (hBs : W.cell? ⟨Bs, 0, none⟩ = some (.slice A zl cap)) (w0 : World) (hw0 : w0.heap.size = s0) (hEw : Below s0 w0 W) (hR : PS w0 (.slice A zl cap) p) (h0 : J [] W) :
    CallsIn F n Tryz.prog 110 #[.func (.yield l) #[] #[], .pointer (some ⟨Bs, 0, none⟩)] W fun e W' => (∃ v, e = .returned v) ∧
      ((∃ ys, ys = pdn b p zl ∧ J ys W') ∨ (∃ pre, True ∧ Jx pre W')) := by
  have HR := Lib.hid hR
  clear hR
  refine callsIn_of_wp Tryz.func110 rfl h8 ?_ hro
  simp only [Tryz.ntmps110, List.size_toArray, List.length_cons, List.length_nil, Nat.reduceAdd, Nat.reduceSub, Array.replicate_succ, Array.replicate_zero, List.push_toArray, List.append_toArray, List.nil_append, List.cons_append]
  gi_wp2
  gi_loopw [3] (fun i wr => ∃ (k : Nat) (z : Int), k ≤ zl ∧ i = .int .i64 z ∧ z = (zl : Int) - 1 - k ∧ J (pdn b p k) wr ∧ Kps s0 Bs W wr)
    (fun i _ => (intOf i + 1).toNat)
  case atStart => exact ⟨0, _, Nat.zero_le _, rfl, by omega, h0, Kps.refl _ _ _⟩
  case round =>
    obtain ⟨k, z, hk, rfl, hz1, hJs, hnx⟩ := hrel
    have hbox := hnx.2 _ hBs
    by_cases hlt : k < zl
    · obtain ⟨m, rfl⟩ : ∃ m : Nat, z = m := ⟨z.toNat, by omega⟩
      have hm : m + k + 1 = zl := by omega
      have hE2 : Ext w0 wr := by unfold Ext; rw [hw0]; exact hEw.trans hnx.1
      obtain ⟨-, -, -, hcl⟩ := (HR.out.ext hE2).cell
      obtain ⟨g, off, rfl, hg, hc⟩ := hcl m (by rw [← HZ.out]; omega)
      clear hcl
      have hbx := hp.cf m
      generalize hgx : cf p m = x at hc hbx
      have hml : m < zl := by omega
      have hmb : m < 1099511627776 := by omega
      obtain ⟨fn, tmps, assign, body, hy, hR⟩ := hY _ ⟨(m, x), hmb, hbx⟩ wr hJs (by rw [pdn_length]; exact hlt)
      dsimp only at hy
      have HM := Lib.hid hm
      have HGX := Lib.hid hgx
      have HN := Lib.hid hnx
      clear hz1 hm hgx hnx hE2
      gi_wp2
      refine hR.mono ?_
      rintro e W3 (⟨rfl, hJ3, hk3⟩ | ⟨rfl, hJx3⟩)
      · gi_wp2
        go_roundw
        case rel => exact ⟨k + 1, _, by omega, rfl, by have := HM.out; omega, by rw [pdn_succ (by rw [← HZ.out]; exact HM.out) (by omega) (hp.cf m)]; have := HGX.out; subst this; exact hJ3, HN.out.t hk3⟩
        case measure => simp [intOf]
      · gi_wp2
        refine bodyPost_ret (results_none rfl _ _ _) rfl ?_
        exact ⟨⟨_, rfl⟩, .inr ⟨_, trivial, hJx3⟩⟩
    · obtain rfl : k = zl := by omega
      obtain rfl : z = -1 := by omega
      gi_wp2
      go_end0
      exact ⟨⟨_, rfl⟩, .inl ⟨_, rfl, hJs⟩⟩

set_option maxHeartbeats 1000000 in
theorem pbackward_in (F : Fence) (n : Nat) (h5 : F.fn 66) (hro : F.round = none) (a : Option Addr) (len cap : Nat) (w : World) :
    CallsIn F n Tryz.prog 66 #[.slice a len cap] w fun e w' => e = .returned (.func (.func 110) #[] #[.pointer (some ⟨w.heap.size, 0, none⟩)]) ∧ w' = w.alloc (.cells #[.slice a len cap] 23) := by
  refine callsIn_of_wp Tryz.func66 rfl h5 ?_ hro
  simp only [Tryz.ntmps66, List.size_toArray, List.length_cons, List.length_nil, Nat.reduceAdd, Nat.reduceSub, Array.replicate_succ, Array.replicate_zero, List.push_toArray, List.append_toArray, List.nil_append, List.cons_append]
  gi_wp2
  go_ret
  exact ⟨rfl, rfl⟩

theorem pback_stops (F : Fence) (n : Nat) (h8 : F.fn 110) (hro : F.round = none) (hn : 1 ≤ n) (Bs s0 : Nat) (A : Option Addr) (cap : Nat) (p : Pl) (zl : Nat) (HZ : Hid (zl = p.length)) (hlen : zl ≤ 100000) (b : Nat) (hp : PB p b)
    (w0 w : World) (hw0 : w0.heap.size = s0) (hE : Below s0 w0 w) (hBs : Bs < w.heap.size) (hR : PS w0 (.slice A zl cap) p) (hc : w.cell? ⟨Bs, 0, none⟩ = some (.slice A zl cap)) :
    SeqStopsK F n Tryz.prog 110 #[.pointer (some ⟨Bs, 0, none⟩)] (fun x : NQ b => #[Value.int .i64 (x.1.1 : Int), rtx x.1.2]) (Kps s0 Bs) (fun ys => ys = pdn b p zl)
      (fun pre => True) zl w := fun l J Jx W hW _ _ hY h0 =>
  pback1_in F n h8 hro hn l Bs s0 A cap p zl HZ hlen b hp J Jx hY W ((hW.cell (p := ⟨Bs, 0, none⟩) hBs).trans hc) w0 hw0 (hE.trans (hW.mono (by have := hE.size; omega))) hR h0
end Go.Proofs.YtadimepmoljnpaaGreatDoor.GB

namespace Go.Proofs.YtadimepmoljnpaaGreatDoor.GB
set_option linter.unusedVariables false
set_option linter.unusedSimpArgs false
open Go.RowKit Go.Shelf
attribute [local go_sem] Oper.semAt_some

/-- Horner's rule over places that come the last first. -/
def hor {b : Nat} (X : Rat) (pre : List (NQ b)) : Rat := pre.foldl (fun a x => a * X + x.1.2) 0
theorem hor_snoc {b : Nat} (X : Rat) (pre : List (NQ b)) (x : NQ b) : hor X (pre ++ [x]) = hor X pre * X + x.1.2 := by simp [hor]
theorem ext_keeps {W W' : World} (h : Ext W W') : KeepsOthers W W' := KeepsOthers.of_grownBy (ext_grown h) (fun _ _ e => by cases e)
set_option maxHeartbeats 4000000 in
set_option maxRecDepth 100000 in
theorem eval_some (A : Option Addr) (c : Nat) (p : Pl) (X : Rat) (zl : Nat) (n m : Nat) (w : World) (HZ : Hid (zl = p.length)) (hl : zl ≤ 100000) (hW : Wd w) (hA : PS w (.slice A zl c) p) (hp : PB p n) (hX : Bd X m) (hk : zl * (m + n + 1) + m + n + 4 ≤ KK)
    (hv1 : VA (.slice A zl c) true w) (hv2 : ∀ W, Ext w W → Calls Tryz.prog 31 #[rtx X] W fun e w' => e = .returned (.bool true) ∧ Ext W w') :
    Calls Tryz.prog 28 #[.slice A zl c, rtx X] w (RetR w (hor X (pdn n p zl))) := by
  refine (callsIn_wide (n := 5)).1 ?_
  have HA := Lib.hid hA
  clear hA
  refine callsIn_of_wp_marks Tryz.func28 rfl trivial ?_ rfl
  simp only [Tryz.ntmps28, List.size_toArray, List.length_cons, List.length_nil, Nat.reduceAdd, Nat.reduceSub, Array.replicate_succ, Array.replicate_zero, List.push_toArray, List.append_toArray, List.nil_append, List.cons_append]
  have E0 := (Ext.rfl' w).al (.cells #[rtx X] 24)
  have b3 := Boxed.new w 24 (rtx X)
  gi_wp2
  generalize w.alloc (.cells #[rtx X] 24) = W0 at *
  refine ⟨trivial, ?_⟩
  refine (callsIn_wide.2 (hv1 _ E0)).mono ?_
  rintro e w1 ⟨rfl, hE1⟩
  replace b3 := b3.kept (ext_grown hE1) (by simp)
  have E1 := E0.tr hE1
  have hc3 := b3.cell
  clear hE1 E0
  gi_wp2
  refine ⟨trivial, ?_⟩
  refine (callsIn_wide.2 (hv2 _ E1)).mono ?_
  rintro e w2 ⟨rfl, hE2⟩
  replace b3 := b3.kept (ext_grown hE2) (by simp)
  have E2 := E1.tr hE2
  clear hE2 E1 hc3 hv1 hv2
  gi_wp2
  have b6 : Boxed (w2.alloc (.cells #[.string ⟨#[48]⟩] 24)) w2.heap.size 24 (rtx 0) := by
    have h := Boxed.new w2 24 (.string ⟨#[48]⟩)
    rw [← rb_v, rb0]; exact h
  have hz2 : w.heap.size < w2.heap.size := b3.lt
  replace b3 := b3.alloc (.cells #[.string ⟨#[48]⟩] 24)
  have E3 := E2.al (.cells #[.string ⟨#[48]⟩] 24)
  have hz3 : (w2.alloc (.cells #[.string ⟨#[48]⟩] 24)).heap.size = w2.heap.size + 1 := World.size_alloc _ _
  generalize w2.alloc (.cells #[.string ⟨#[48]⟩] 24) = w3 at *
  refine ⟨trivial, ?_⟩
  refine (pbackward_in Fence.wide (5 - 1) trivial rfl A zl c w3).mono ?_
  rintro e w4 ⟨rfl, rfl⟩
  have bx := Boxed.new w3 23 (.slice A zl c)
  replace b3 := b3.alloc (.cells #[.slice A zl c] 23)
  replace b6 := b6.alloc (.cells #[.slice A zl c] 23)
  have E4 := E3.al (.cells #[.slice A zl c] 23)
  have hz4 : (w3.alloc (.cells #[.slice A zl c] 23)).heap.size = w2.heap.size + 1 + 1 := by rw [World.size_alloc, hz3]
  generalize w3.alloc (.cells #[.slice A zl c] 23) = w4 at *
  rw [hz3] at *
  clear E3 E2
  generalize w2.heap.size = g at *
  clear hz3
  gi_wp2
  have hst := pback_stops Fence.wide (5 - 1) trivial rfl (by omega) (g + 1) w.heap.size A c p zl HZ hl n hp w w4 rfl E4 (by omega) HA.out bx.cell
  refine wpIn_rangeFunc_ownF (F := Fence.wide) rfl (by omega) (gf := 110) (lb := #[.pointer (some ⟨g + 1, 0, none⟩)]) rfl trivial (enters_of Tryz.func110 (by kernel_rfl) rfl)
    hst Kps.t (Kps.b (by omega)) (Below.refl _ _) (fun _ => rfl)
    (fun pre W => (Boxed W g 24 (rtx (hor X pre)) ∧ Boxed W w.heap.size 24 (rtx X) ∧ Boxed W (g + 1) 23 (.slice A zl c) ∧ Bd (hor X pre) (pre.length * (m + n + 1))) ∧ Below w.heap.size w W)
    (fun _ _ _ => False)
    (OwnFrom.and (Own.from (fun s X Y row hs hg hr => ⟨(grownBy_keeps_cells hg hr hs.1 rfl).trans hs.1, (grownBy_keeps_cells hg hr hs.2.1 rfl).trans hs.2.1, (grownBy_keeps_cells hg hr hs.2.2.1 rfl).trans hs.2.2.1, hs.2.2.2⟩) _) (ownFrom_below (Nat.le_refl _) (by omega)))
    (fun _ _ _ _ _ hs _ _ => hs)
    ⟨⟨b6, b3, bx, (Bd.of_int 0 0 (by decide)).mono (Nat.zero_le _)⟩, E4⟩
    (fun x => { tmps := #[.slice A zl c, rtx X, undef, .pointer (some ⟨w.heap.size, 0, none⟩), .string ⟨#[]⟩, .int .i64 0, .pointer (some ⟨g, 0, none⟩), undef, rtx x.1.2, .slice A zl c, .bool true, .bool false, .bool false, rtx X, .bool true, .bool false, .bool false, .slice A zl c, .func (.func 110) #[] #[.pointer (some ⟨g + 1, 0, none⟩)], .int .i64 (x.1.1 : Int), rtx x.1.2, undef, undef, undef, undef, undef, undef], defers := [] }) ?assign ?body ?done ?stop
  case assign =>
    intro l x W K hK
    gi_wp2
    exact hK
  case body =>
    rintro l pre ⟨⟨i, C⟩, hi1, hbC⟩ W ⟨⟨h6, h3, hx, hbd⟩, hb⟩ hpl
    dsimp only at hi1 hbC ⊢
    have hWw := Lib.hid (Wd.ext hW hb)
    have hc6 := h6.cell
    have hc3 := h3.cell
    have hB : pre.length * (m + n + 1) ≤ zl * (m + n + 1) := Nat.mul_le_mul_right _ (by omega)
    have hM := fun W (hw : Wd W) => pmul_q (hor X pre) X _ m W hw hbd hX (by omega)
    have hAd := fun W (hw : Wd W) => padd_q (hor X pre * X) C _ n W hw (hbd.mul hX) hbC (by omega)
    have hs := hor_snoc X pre ⟨(i, C), hi1, hbC⟩
    have hbs : Bd (hor X pre * X + C) ((pre.length + 1) * (m + n + 1)) := ((hbd.mul hX).add hbC).mono (by rw [Nat.add_mul, Nat.one_mul]; omega)
    dsimp only at hs
    have HM := Lib.hid hM
    have HAd := Lib.hid hAd
    have HS := Lib.hid hs
    clear hM hAd hs hB
    gi_wp2
    refine ⟨trivial, ?_⟩
    refine (CallsIn.inRound l (callsIn_wide.2 (HM.out W hWw.out))).mono ?_
    rintro e W1 ⟨rfl, hE1⟩
    have HE1 := Lib.hid hE1
    clear hE1
    gi_wp2
    refine ⟨trivial, ?_⟩
    refine (CallsIn.inRound l (callsIn_wide.2 (HAd.out W1 (hWw.out.ext HE1.out)))).mono ?_
    rintro e W2 ⟨rfl, hE2⟩
    have HE2 := Lib.hid (HE1.out.tr hE2)
    clear hE2
    have k6 := h6.kept (ext_grown HE2.out) (by simp)
    have k3 := h3.kept (ext_grown HE2.out) (by simp)
    have kx := hx.kept (ext_grown HE2.out) (by simp)
    have d6 := k6.cell
    have e6 := k6.frozen
    gi_wp2
    have hkk : Kps w.heap.size (g + 1) W (W2.setCell ⟨g, 0, none⟩ (rtx (hor X pre * X + C))) := by
      have hbB : Below w.heap.size W W2 := HE2.out.mono hb.size
      refine ⟨hbB.setCell (p := ⟨g, 0, none⟩) (by show w.heap.size ≤ g; omega) _, fun v e => ?_⟩
      rw [World.cell?_setCell_other _ _ _ _ (by simp)]
      exact HE2.out.cell e
    refine ⟨(ext_keeps HE2.out).trans (KeepsOthers.setCell _ _ _), hkk, ⟨?_, ?_, ?_, ?_⟩, hb.trans hkk.1⟩
    · rw [HS.out]; exact k6.set _
    · exact (Below.heap_setCell _ _ _ _ (by show w.heap.size ≠ g; omega)).trans k3
    · exact (Below.heap_setCell _ _ _ _ (by show g + 1 ≠ g; omega)).trans kx
    · rw [HS.out, List.length_append, List.length_singleton]; exact hbs
  case done =>
    rintro D ys W hD rfl ⟨⟨h6, h3, hx, hbd⟩, hb⟩ hK
    have hc6 := h6.cell
    gi_wp2
    refine ⟨by simp, .inl ⟨_, _, rfl, run_takeDeferred hK, ?_⟩⟩
    refine ⟨_, results_tmp2 rfl _ _ _, ?_, ?_⟩
    · rfl
    · exact hb.trans (belowK_b (w := w) (Nat.le_refl _) W D _ _ (by omega) hK rfl rfl)
  case stop =>
    rintro D c pre W _ _ h _
    exact h.elim
end Go.Proofs.YtadimepmoljnpaaGreatDoor.GB
