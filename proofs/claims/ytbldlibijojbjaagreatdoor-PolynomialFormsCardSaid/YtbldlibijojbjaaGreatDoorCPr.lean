import Derived.Test.YtbldlibijojbjaaGreatDoorCPq
namespace Go.Proofs.YtbldlibijojbjaaGreatDoor.GB
set_option linter.unusedVariables false
set_option linter.unusedSimpArgs false
open Go.RowKit Go.Shelf
attribute [local go_sem ↓] Go.wp_at_zero Go.wp_at_succ

/-- What a long division hands back. -/
def DivP (p r : Pl) (B : Nat) (w : World) (e : Ending) (w' : World) : Prop := ∃ v1 v2 q t, e = .returned (.tuple #[v1, v2]) ∧ DivRel p r q t ∧ (CB t B ∧ PB q B) ∧ PS w' v1 q ∧ PS w' v2 t ∧ Ext w w'
set_option maxHeartbeats 8000000 in
set_option maxRecDepth 100000 in
theorem pdiv_long (A B : Option Addr) (ca cb : Nat) (p r : Pl) (m n : Nat) (w : World) (hW : Wd w) (hr0 : 0 < r.length) (hle : r.length ≤ p.length) (l1 : p.length ≤ 100000)
    (hA : PS w (.slice A p.length ca) p) (hB : PS w (.slice B r.length cb) r) (hp : CB p n) (hr : CB r m) (tr : Tr r) (hk : 2 * cdB n m (p.length - r.length + 1) + 6 ≤ KK) :
    Calls Tryz.prog 64 #[.slice A p.length ca, .slice B r.length cb] w (DivP p r (cdB n m (p.length - r.length + 1)) w) := by
  obtain ⟨i0, hi, hz0, hz1, hz2⟩ := info_parts Tryz.infoRat
  obtain ⟨r1, hr1⟩ : ∃ r1, r.length = r1 + 1 := ⟨r.length - 1, by omega⟩
  obtain ⟨N1, hN1⟩ : ∃ N1, p.length = N1 + 1 + r1 := ⟨p.length - 1 - r1, by omega⟩
  have hNN : p.length - r.length + 1 = N1 + 1 := by omega
  rw [hNN] at hk ⊢
  have hNi : (p.length : Int) - (r.length : Int) + 1 = ((N1 + 1 : Nat) : Int) := by omega
  have hN9 : N1 ≤ 200000 := by omega
  have HK := Lib.hid hk
  have HA := Lib.hid hA
  have HB := Lib.hid hB
  have HW := Lib.hid hW
  have HP := Lib.hid hp
  have HR := Lib.hid hr
  have HTr := Lib.hid tr
  have hlt : decide (p.length < r.length) = false := decide_eq_false (by omega)
  clear hA hB hW hp hr tr hk hNN
  have hcl := fun W (hE : Ext w W) => clone49_v (.slice A p.length ca) (p.map rb) W (HA.out.ext hE) (by simp; omega)
  have HR1 := Lib.hid hr1
  have HN1 := Lib.hid hN1
  clear hr1 hN1
  generalize hpl : p.length = pn at *
  generalize hrl : r.length = rn at *
  have HPL := Lib.hid hpl
  have HRL := Lib.hid hrl
  clear hpl hrl
  go_enter Tryz.func64, Tryz.ntmps64
  go_wp2_with fail
  refine (hcl _ (Ext.rfl' _)).mono ?_
  rintro e w1 ⟨v1, rfl, hO, hE1⟩
  obtain ⟨g1, c1, hv, hb1, hg1, hAt⟩ := hO.at_ (by simp; have := HPL.out; omega)
  rw [List.length_map, HPL.out] at hv
  subst hv
  have HR0 : Hid (AtP w1 g1 c1 pn p) := ⟨HPL.out, hAt⟩
  have HE1 := Lib.hid hE1
  clear hO hAt hE1 hcl
  go_wp2_with (refine wpList_make_full _ rfl _ _ _ rfl 0 30 i0 (.string ⟨#[]⟩) 1 Tryz.underlying55 hi hz0 hz1 _ _ _ _ (N1 + 1) rfl rfl (by simp) (by simp) (by rw [hz2]; omega) (by unfold maxLen; omega) (Nat.zero_le _) ?_; intro w2 hown2 hgrow2)
  have HQ0 : Hid (AtQ w2 w1.heap.size (N1 + 1) (List.replicate (N1 + 1) 0) (N1 + 1)) := by
    refine ⟨by simp, Nat.le_refl _, ?_⟩
    rw [madeS] at hown2
    have e : qf (List.replicate (N1 + 1) 0) (N1 + 1) = List.replicate (N1 + 1) ⟨#[]⟩ := by simp [qf]
    rw [e]
    simpa [OwnS, Hid] using hown2
  have hE2 : Ext w1 w2 := (Ext.rfl' w1).gr0 hgrow2
  have HR2 := Lib.hid (HR0.out.ext hE2)
  have HE2 := Lib.hid (HE1.out.tr hE2)
  have n12 : g1 ≠ w1.heap.size := by omega
  have n21 : w1.heap.size ≠ g1 := by omega
  have hb2 : w.heap.size ≤ w1.heap.size := HE1.out.size
  clear hown2 hgrow2 hE2 HR0 HE1 hg1 hNi hlt
  generalize w1.heap.size = g2 at *
  have HD0 : Hid (DInv p r (List.replicate (N1 + 1) 0) p (N1 + 1)) := DInv.start p r (N1 + 1) (by rw [HPL.out, HRL.out]; have := HN1.out; have := HR1.out; omega)
  go_loopw [8] (fun v wr => ∃ (k : Nat) (z : Int) (Q R : Pl), k ≤ N1 + 1 ∧ v = .int .i64 z ∧ Hid (z = (k : Int) - 1) ∧ Hid (DInv p r Q R k) ∧ Hid (QB R Q (cdB n m (N1 + 1 - k))) ∧ Hid (AtP wr g1 c1 pn R) ∧ Hid (AtQ wr g2 (N1 + 1) Q k) ∧ Hid (Ext w wr)) (fun v _ => (intOf v + 1).toNat)
  case atStart => exact ⟨N1 + 1, _, _, p, Nat.le_refl _, rfl, (by unfold Hid; push_cast; omega), HD0, (by unfold Hid; rw [Nat.sub_self]; exact QB.start HP.out), HR2, HQ0, HE2⟩
  case round =>
    clear HD0 HR2 HQ0 HE2
    obtain ⟨k, z, Q, R, hk, rfl, HZ, HD, HBd, HRr, HQ, HE⟩ := hrel
    cases k with
    | zero =>
      obtain rfl : z = -1 := by have := HZ.out; omega
      have hS1 := HQ.out.atP.ps
      have hS2 := HRr.out.ps
      have HS1 := Lib.hid hS1
      have HS2 := Lib.hid hS2
      clear hS1 hS2
      go_wp2_with fail
      refine (ptrimS_v _ _ _ HS1.out).mono ?_
      rintro e w3 ⟨v3, rfl, hv3, rfl⟩
      have HV3 := Lib.hid hv3
      clear hv3
      go_wp2_with fail
      refine (ptrimS_v _ _ _ HS2.out).mono ?_
      rintro e w3 ⟨v4, rfl, hv4, rfl⟩
      have HV4 := Lib.hid hv4
      clear hv4
      go_wp2_with fail
      go_ret2
      refine ⟨_, _, ptrim Q, ptrim R, rfl, HD.out.done (by intro e; have := HRL.out; rw [e] at this; have := HR1.out; simp at *; omega), ⟨HBd.out.1.congr (cf_ptrim _), PB.trim HBd.out.2⟩, ?_, ?_, HE.out⟩
      · have := HV3.out
        rwa [tzS_rb] at this
      · have := HV4.out
        rwa [tzS_rb] at this
    | succ k =>
      obtain rfl : z = (k : Int) := by have := HZ.out; omega
      clear HZ
      have hr1 := HR1.out
      have hn1 := HN1.out
      have hkr : k + r1 < pn := by omega
      have hr1n : r1 < rn := by omega
      have hkN : k < N1 + 1 := by omega
      obtain ⟨s, hs⟩ : ∃ s, s = N1 - k := ⟨_, rfl⟩
      have hs1 : N1 + 1 - (k + 1) = s := by omega
      have hs2 : N1 + 1 - k = s + 1 := by omega
      have hB2 : cdB n m (s + 1) = cdB n m s + m + 1 := cdB_succ n m s
      have hB3 : cdB n m (s + 1) ≤ cdB n m (N1 + 1) := cdB_mono (by omega)
      have hKo := HK.out
      rw [hs1] at HBd
      have HS2 : Hid (cdB n m (N1 + 1 - k) = cdB n m (s + 1)) := by unfold Hid; rw [hs2]
      generalize cdB n m (s + 1) = B2 at *
      generalize cdB n m s = B1 at *
      generalize cdB n m (N1 + 1) = B9 at *
      have hB12 : B1 + m + 3 ≤ KK := by omega
      have hcP := HRr.out.cell (k + r1) hkr
      have hbP := HBd.out.1.bd (k + r1)
      obtain ⟨-, -, -, hcl⟩ := HB.out.cell
      obtain ⟨bb, fb, rfl, hbb, hcL⟩ := hcl r1 (by rw [HRL.out]; exact hr1n)
      replace hcL := HE.out.cell hcL
      have nb1 : bb ≠ g1 := by omega
      have nb2 : bb ≠ g2 := by omega
      clear hcl hbb
      have hbL := HR.out.bd r1
      have hL0 : cf r r1 ≠ 0 := by
        have h := lead_ne HTr.out (by intro e; have := HRL.out; rw [e] at this; simp at this; omega)
        unfold lead at h
        rwa [HRL.out, show rn - 1 = r1 by omega] at h
      have HLd : Hid (lead r = cf r r1) := by unfold Hid lead; rw [HRL.out, show rn - 1 = r1 by omega]
      have HPP : Hid (cf R (k + (r.length - 1)) = cf R (k + r1)) := by unfold Hid; rw [HRL.out, show rn - 1 = r1 by omega]
      generalize cf R (k + r1) = P at hcP hbP HPP
      generalize cf r r1 = L at hcL hbL hL0 HLd
      have HF : Hid (P / L = cf R (k + (r.length - 1)) / lead r) := by unfold Hid; rw [HPP.out, HLd.out]
      have hbf : Bd (P / L) (B1 + m) := (HBd.out.1.step (R' := R) (j := 0) HR.out (by rw [HLd.out]; exact hL0) HF.out).1
      have hDv := fun W (hw : Wd W) => pdiv_q P L B1 m W hw hbP hbL hL0 hB12
      generalize P / L = f at hDv hbf HF
      have HL0 := Lib.hid hL0
      have HBf := Lib.hid hbf
      have HDB0 : Hid (DB R r f k 0 R) := DB.start
      have HB2 := Lib.hid hB2
      have HB9 : Hid (2 * B2 + 6 ≤ KK) := by unfold Hid; omega
      have HDV := Lib.hid hDv
      clear hB2 hB3 hKo hs hs1 hs2 hL0 hbf hB12 hDv hbP hbL
      obtain ⟨s9, hq0⟩ := HQ.out.cell' hkN
      have hq1 := HQ.out.froz k
      have a1 : IntKind.i64.wrap ((k : Int) + (rn : Int)) = (k : Int) + (rn : Int) := by rw [IntKind.wrap_i64]; omega
      have a2 : IntKind.i64.wrap ((k : Int) + (rn : Int) - 1) = (k : Int) + (rn : Int) - 1 := by rw [IntKind.wrap_i64]; omega
      have a3 : ((k : Int) + (rn : Int) - 1).toNat = k + r1 := by omega
      have a4 : (0 : Int) ≤ (k : Int) + (rn : Int) - 1 := by omega
      have a5 : (1 : Int) ≤ (k : Int) + (rn : Int) := by omega
      have a6 : (k : Int) + (rn : Int) - 1 < (pn : Int) := by omega
      have a7 : (k : Int) + (rn : Int) - 1 ≤ (pn : Int) := by omega
      have a8 : (k : Int) < (N1 : Int) + 1 := by omega
      have a9 : (k : Int) ≤ (N1 : Int) + 1 := by omega
      have b1 : IntKind.i64.wrap ((rn : Int) - 1) = (rn : Int) - 1 := by rw [IntKind.wrap_i64]; omega
      have b2 : ((rn : Int) - 1).toNat = r1 := by omega
      have b3 : (0 : Int) ≤ (rn : Int) - 1 := by omega
      have b4 : (1 : Int) ≤ (rn : Int) := by omega
      have b5 : (rn : Int) - 1 < (rn : Int) := by omega
      have b6 : (rn : Int) - 1 ≤ (rn : Int) := by omega
      have HW1 : Hid (Wd wr.drew) := HW.out.ext (Ext.dr' HE)
      clear hr1 hn1
      go_wp2_with fail
      go_region_held3 (fun w' => w'.cell? ⟨g1, k + r1, none⟩ = some (rtx P) ∧ w'.cell? ⟨bb, fb + r1, none⟩ = some (rtx L)) (((try dsimp only); (repeat' apply And.intro) <;> (first | assumption | (rw [World.cell?_setCell_other _ _ _ _ (by simp [n12, nb2, n21]; done)]; assumption) | (rw [World.cell?_setCell_other _ _ _ _ (by intro h; injection h with h; omega)]; assumption))))
        (first
        | (go_at_call 76; (with_reducible refine (HDV.out _ HW1.out).mono ?_); rintro e w3 ⟨rfl, hE3⟩; have HQ3 := Lib.hid (AtQ.ext (AtQ.drH HQ).out hE3); have HR3 := Lib.hid (AtP.ext (AtP.drH HRr).out hE3); have HE3 := Lib.hid ((Ext.dr' HE).tr hE3); have t0 := Ext.cellD hE3 hq0; have t1 := Ext.cellD hE3 hcP; have t2 := Ext.cellD hE3 hcL; have f0 := AtQ.froz HQ3.out k; clear hE3))
      have HQ4 := Lib.hid (HQ3.out.store f)
      have HR4 := Lib.hid (HR3.out.far n12 k (rtx f))
      have HE4 := Lib.hid (HE3.out.setCell (p := ⟨g2, k, none⟩) hb2 (rtx f))
      clear HQ3 HR3 HE3 t0 t1 t2 f0 hq0 hq1 HQ HRr HE HW1 hcP hcL a1 a2 a3 a4 a5 a6 a7 a8 a9 b1 b2 b3 b4 b5 b6
      generalize w3.setCell ⟨g2, k, none⟩ (rtx f) = w4 at *
      rename_i hHeld
      clear hHeld
      have HNQ : Hid ((Q.set k f).length = N1 + 1) := HQ4.out.1
      have HQk : Hid (cf (Q.set k f) k = f) := by
        unfold Hid
        have : k < Q.length := by have := HNQ.out; rw [List.length_set] at this; omega
        rw [cf_set _ _ _ _ this, if_pos rfl]
      have HD2 : ∀ R', PE R' (padd R (pmul (pmono k (-f)) r)) → DInv p r (Q.set k f) R' k := fun R' hR' => HD.out.step (by intro e; have := HRL.out; rw [e] at this; simp at this; omega) (by rw [HLd.out]; exact HL0.out) HF.out (by have := HNQ.out; rw [List.length_set] at this; omega) hR'
      have HDD := Lib.hid HD2
      have HQBb : Hid (∀ R', PE R' (padd R (pmul (pmono k (-f)) r)) → QB R' (Q.set k f) B2) := fun R' hR' => HBd.out.step HR.out (by rw [HLd.out]; exact HL0.out) HF.out hR' HB2.out (by have := HNQ.out; rw [List.length_set] at this; omega)
      have HBR : Hid (∀ x, Bd (cf R x) B1) := HBd.out.1.bd
      clear HD2 HD HBd
      generalize Q.set k f = Q' at *
      go_wp2
      go_loopw [53] (fun v wr => ∃ (i : Nat) (R' : Pl), i ≤ rn ∧ v = .int .i64 i ∧ Hid (DB R r f k i R') ∧ Hid (AtP wr g1 c1 pn R') ∧ Hid (AtQ wr g2 (N1 + 1) Q' k) ∧ Hid (Ext w wr)) (fun v _ => rn - (intOf v).toNat)
      case atStart => exact ⟨0, R, Nat.zero_le _, rfl, HDB0, HR4, HQ4, HE4⟩
      case round =>
        clear HDB0 HR4 HQ4 HE4
        obtain ⟨i, R', hi1, rfl, HT, HRr, HQ, HE⟩ := hrel
        by_cases hlti : i < rn
        · obtain ⟨-, -, -, hcl⟩ := HB.out.cell
          obtain ⟨b', f', hbf, hbb, hcC⟩ := hcl i (by rw [HRL.out]; exact hlti)
          obtain ⟨rfl, rfl⟩ : bb = b' ∧ fb = f' := by simp at hbf; exact hbf
          replace hcC := HE.out.cell hcC
          clear hcl hbb hbf
          have hikp : i + k < pn := by have := HN1.out; have := HR1.out; omega
          have hcP := HRr.out.cell (i + k) hikp
          have hfP := HRr.out.froz (i + k)
          have hcF := HQ.out.cell hkN
          rw [HQk.out] at hcF
          have hbP : Bd (cf R' (i + k)) B1 := by
            have := HBR.out (k + i)
            rw [← HT.out.2 (k + i) (Nat.le_refl _), Nat.add_comm k i] at this
            exact this
          have hbC := HR.out.bd i
          generalize hC : cf r i = C at hcC hbC
          generalize hP : cf R' (i + k) = P' at hcP hbP
          have HC := Lib.hid hC
          have HPq := Lib.hid hP
          have hK9 := HB9.out
          have hK8 := HB2.out
          have hM := fun W (hw : Wd W) => pmul_q f C (B1 + m) m W hw HBf.out hbC (by omega)
          have hS := fun W (hw : Wd W) => psub_q P' (f * C) B1 (B1 + m + m) W hw hbP (HBf.out.mul hbC) (by omega)
          generalize hZ : f * C = Z at hM hS
          have HZ := Lib.hid hZ
          have HM := Lib.hid hM
          have HS := Lib.hid hS
          clear hC hP hZ hK8 hK9 hM hS hbP hbC
          have a1 : IntKind.i64.wrap ((i : Int) + (k : Int)) = (i : Int) + (k : Int) := by rw [IntKind.wrap_i64]; omega
          have a2 : 0 ≤ (i : Int) + (k : Int) := by omega
          have a3 : ((i : Int) + (k : Int)).toNat = i + k := by omega
          have a4 : (i : Int) + (k : Int) < (pn : Int) := by omega
          have a5 : (i : Int) + (k : Int) ≤ (pn : Int) := by omega
          have a8 : (k : Int) < (N1 : Int) + 1 := by omega
          have a9 : (k : Int) ≤ (N1 : Int) + 1 := by omega
          have HW1 : Hid (Wd wr.drew) := HW.out.ext (Ext.dr' HE)
          go_wp2_with fail
          go_region_with (first
            | (go_at_call 70; (with_reducible refine (HM.out _ HW1.out).mono ?_); rintro e w5 ⟨rfl, hE5⟩; have q0 := Ext.cellD hE5 hcP; have HR5 := Lib.hid (AtP.ext (AtP.drH HRr).out hE5); have HQ5 := Lib.hid (AtQ.ext (AtQ.drH HQ).out hE5); have HE5 := Lib.hid ((Ext.dr' HE).tr hE5); have HW5 := Lib.hid (Wd.ext HW1.out hE5); clear hE5)
            | (go_at_call 95; (with_reducible refine (HS.out _ HW5.out).mono ?_); rintro e w6 ⟨rfl, hE6⟩; have t0 := Ext.cellH hE6 q0; have HR6 := Lib.hid (AtP.ext HR5.out hE6); have HQ6 := Lib.hid (AtQ.ext HQ5.out hE6); have HE6 := Lib.hid (HE5.out.tr hE6); have f0 := AtP.froz HR6.out (i + k); clear hE6))
          all_goals
            have HT2 : Hid (DB R r f k (i + 1) (R'.set (i + k) (P' - Z))) := by
              have h := HT.out.step (by rw [HRr.out.1]; omega) (show P' - Z = cf R' (k + i) - f * cf r i from by rw [Nat.add_comm k i, HPq.out, HC.out, HZ.out])
              rwa [Nat.add_comm k i] at h
            have HR7 := Lib.hid (HR6.out.store (i + k) (P' - Z))
            have HQ7 := Lib.hid (HQ6.out.far n21 (i + k) (rtx (P' - Z)))
            have HE7 := Lib.hid (HE6.out.setCell (p := ⟨g1, i + k, none⟩) hb1 (rtx (P' - Z)))
            go_wp2
            go_roundw
            case rel => exact ⟨i + 1, _, by omega, by go_num, HT2, HR7, HQ7, HE7⟩
            case measure => simp [intOf]; omega
        · have hie : i = rn := by omega
          have HD3 : Hid (DInv p r Q' R' k ∧ QB R' Q' B2) := by
            have h := HT.out
            rw [hie, ← HRL.out] at h
            have h2 := h.done
            exact ⟨HDD.out R' h2, HQBb.out R' h2⟩
          have HBd2 : Hid (QB R' Q' (cdB n m (N1 + 1 - k))) := by unfold Hid; rw [HS2.out]; exact HD3.out.2
          clear hie
          go_wp2
          go_roundw
          case rel => exact ⟨k, (k : Int) - 1, Q', R', by omega, rfl, rfl, HD3.out.1, HBd2, HRr, HQ, HE⟩
          case measure => first | (simp [intOf]; done) | (simp [intOf]; omega)
end Go.Proofs.YtbldlibijojbjaaGreatDoor.GB
