import Derived.Test.YtbldlibijojbjaaGreatDoorMPz
namespace Go.Proofs.YtbldlibijojbjaaGreatDoor.GB
set_option linter.unusedVariables false
set_option linter.unusedSimpArgs false
open Go.RowKit Go.Shelf
attribute [local go_sem ↓] Go.wp_at_zero Go.wp_at_succ

theorem OwnP.drH {w : World} {base g c n : Nat} {O : Pl} (h : Hid (OwnP w base g c n O)) : Hid (OwnP w.drew base g c n O) := h
/-- Zeros so far. -/
def zfill (N k : Nat) : List ByteArray := List.replicate k ⟨#[48]⟩ ++ List.replicate (N - k) ⟨#[]⟩
theorem zfill_len {N k : Nat} (h : k ≤ N) : (zfill N k).length = N := by unfold zfill; simp; omega
theorem zfill_set {N k : Nat} (h : k < N) : (zfill N k).set k ⟨#[48]⟩ = zfill N (k + 1) := by
  unfold zfill
  rw [List.set_append_right _ _ (by simp)]
  have e : N - k = (N - (k + 1)) + 1 := by omega
  rw [e, List.replicate_succ, List.length_replicate, Nat.sub_self, List.set_cons_zero, List.replicate_succ', List.append_assoc]
  rfl
theorem zfill_end (N : Nat) : zfill N N = (List.replicate N (0 : Rat)).map rb := by
  unfold zfill
  rw [Nat.sub_self, List.map_replicate, rb0]
  simp
theorem ret_pi {a b : Int} (h : a = b) : Value.int .i64 a = .int .i64 b := by rw [h]
set_option maxHeartbeats 4000000 in
set_option maxRecDepth 100000 in
theorem ptimes_some (A B : Option Addr) (ca cb : Nat) (p r : Pl) (m n : Nat) (w : World) (hW : Wd w) (hp0 : 0 < p.length) (hr0 : 0 < r.length) (l1 : p.length ≤ 100000) (l2 : r.length ≤ 100000)
    (hA : PS w (.slice A p.length ca) p) (hB : PS w (.slice B r.length cb) r) (hp : PB p m) (hr : PB r n) (BB' : Nat) (hBB : BB' = m + n + 1) (hk : (p.length + 1) * BB' + (m + n) + 3 ≤ KK) :
    Calls Tryz.prog 62 #[.slice A p.length ca, .slice B r.length cb] w fun e w' => ∃ O : Pl, e = .returned (.slice (some ⟨w.heap.size, 0, none⟩) (p.length + r.length - 1) (p.length + r.length - 1)) ∧ O.length = p.length + r.length - 1 ∧ PE O (pmul p r) ∧ PB O (p.length * BB') ∧ PS w' (.slice (some ⟨w.heap.size, 0, none⟩) (p.length + r.length - 1) (p.length + r.length - 1)) O ∧ Ext w w' := by
  obtain ⟨i0, hi, hz0, hz1, hz2⟩ := info_parts Tryz.infoRat
  obtain ⟨N, hN⟩ : ∃ N, p.length + r.length - 1 = N := ⟨_, rfl⟩
  have hNi : (p.length : Int) + (r.length : Int) - 1 = (N : Int) := by omega
  have hN9 : N ≤ 200000 := by omega
  have HN := Lib.hid hN
  have HK := Lib.hid hk
  have HBB := Lib.hid hBB
  rw [hN]
  have hp0' : ((p.length : Int) == 0) = false := by rw [beq_eq_false_iff_ne]; omega
  have hr0' : ((r.length : Int) == 0) = false := by rw [beq_eq_false_iff_ne]; omega
  have HA := Lib.hid hA
  have HB := Lib.hid hB
  have HW := Lib.hid hW
  have HP := Lib.hid hp
  have HR := Lib.hid hr
  clear hA hB hW hp hr hN hk hBB
  generalize hpl : p.length = pn at *
  generalize hrl : r.length = rn at *
  have HPL := Lib.hid hpl
  have HRL := Lib.hid hrl
  clear hpl hrl
  go_enter Tryz.func62, Tryz.ntmps62
  go_wp2_with (refine wpList_make_full _ rfl _ _ _ rfl w.heap.size 30 i0 (.string ⟨#[]⟩) 1 Tryz.underlying55 hi hz0 hz1 _ _ _ _ N rfl rfl (by simp) (by simp) (by rw [hz2]; omega) (by unfold maxLen; omega) (Nat.le_refl _) ?_; intro w1 hown1 hgrow1)
  clear hNi hp0' hr0'
  have hE1 : Hid (Ext w w1) := (Ext.rfl' w).gr0 hgrow1
  have hO1 : Hid (OwnS w1 w.heap.size (.slice (some ⟨w.heap.size, 0, none⟩) (zfill N 0).length N) (zfill N 0)) := by
    rw [madeS] at hown1
    have e : zfill N 0 = List.replicate N ⟨#[]⟩ := by simp [zfill]
    rw [e]
    simpa [OwnS, Hid] using hown1
  clear hown1 hgrow1
  go_loopw [28] (fun v wr => ∃ k : Nat, k ≤ N ∧ v = .int .i64 k ∧ Hid (OwnS wr w.heap.size (.slice (some ⟨w.heap.size, 0, none⟩) (zfill N k).length N) (zfill N k)) ∧ Hid (Ext w wr)) (fun v _ => N - (intOf v).toNat)
  case atStart => exact ⟨0, Nat.zero_le _, rfl, hO1, hE1⟩
  case round =>
    obtain ⟨k, hk, rfl, HO, HE⟩ := hrel
    clear hO1 hE1
    by_cases hlt : k < N
    · have hzl : (zfill N k).length = N := zfill_len hk
      have hck := HO.out.cellAt k (by rw [hzl]; exact hlt)
      have hfk : wr.frozen? ⟨w.heap.size, k, none⟩ = false := World.ownsRow.frozenAt HO.out k
      generalize (zfill N k)[k]'(by rw [hzl]; exact hlt) = s0 at hck
      have HO2 := Lib.hid (HO.out.store k ⟨#[48]⟩)
      rw [zfill_set hlt] at HO2
      clear hzl
      go_wp2
      go_roundw
      case rel => exact ⟨k + 1, by omega, by go_num, HO2, HE.out.setCell (Nat.le_refl _) _⟩
      case measure => simp [intOf]; omega
    · have hke : k = N := by omega
      have HO3 : Hid (OwnP wr w.heap.size w.heap.size N N (List.replicate N 0)) := by
        refine ⟨by simp, ?_⟩
        have := HO.out
        rw [hke, zfill_end] at this
        exact this
      have HTs : Hid (PE (List.replicate N 0) (pmul (p.take 0) r) ∧ ∀ j, Bd (cf (List.replicate N 0) j) (0 * BB')) := by
        refine ⟨fun j => ?_, fun j => ?_⟩
        · rw [cf_rep0, List.take_zero]; exact (cf_ge (Nat.zero_le _)).symm
        · rw [cf_rep0]; exact (Bd.of_int 0 0 (by decide)).mono (Nat.zero_le _)
      clear hke HO
      obtain ⟨wz, hwz⟩ : ∃ wz : World, wz = wr := ⟨_, rfl⟩
      subst hwz
      go_wp2
      go_loopw [37] (fun v wr => ∃ (i : Nat) (O : Pl), i ≤ pn ∧ v = .int .i64 i ∧ Hid (PE O (pmul (p.take i) r) ∧ ∀ j, Bd (cf O j) (i * BB')) ∧ Hid (OwnP wr w.heap.size w.heap.size N N O) ∧ Hid (Ext w wr)) (fun v _ => pn - (intOf v).toNat)
      case atStart => exact ⟨0, _, Nat.zero_le _, rfl, HTs, HO3, HE⟩
      case round =>
        obtain ⟨i, O, hi1, rfl, HT, HO, HE⟩ := hrel
        clear HTs HO3
        by_cases hlti : i < pn
        · obtain ⟨-, -, -, hcp⟩ := (HA.out.ext HE.out).cell
          obtain ⟨ba, fa, rfl, hba, hca⟩ := hcp i (by rw [HPL.out]; exact hlti)
          clear hcp
          have hbx := HP.out.cf i
          generalize hx : cf p i = x at hca hbx
          have HX := Lib.hid hx
          have HTB : Hid (TB p r BB' i 0 O) := TB.row0 HT.out.1 HT.out.2
          clear hx
          obtain ⟨wo, hwo⟩ : ∃ wo : World, wo = wr := ⟨_, rfl⟩
          subst hwo
          go_wp2
          go_loopw [44] (fun v wr => ∃ (k : Nat) (O : Pl), k ≤ rn ∧ v = .int .i64 k ∧ Hid (TB p r BB' i k O) ∧ Hid (OwnP wr w.heap.size w.heap.size N N O) ∧ Hid (Ext w wr)) (fun v _ => rn - (intOf v).toNat)
          case atStart => exact ⟨0, O, Nat.zero_le _, rfl, HTB, HO, HE⟩
          case round =>
            clear HT HTB HO HE O hba hca
            obtain ⟨k, O, hk1, rfl, HT, HO, HE⟩ := hrel
            by_cases hltk : k < rn
            · obtain ⟨-, -, -, hcr⟩ := (HB.out.ext HE.out).cell
              obtain ⟨bb, fb, rfl, hbb, hcb⟩ := hcr k (by rw [HRL.out]; exact hltk)
              clear hcr
              have hby := HR.out.cf k
              generalize hy : cf r k = y at hcb hby
              have HY := Lib.hid hy
              have hik : i + k < N := by have := HN.out; omega
              have hcc := HO.out.cell (i + k) hik
              have hbP := HT.out.2.2 (i + k) (Nat.le_refl _)
              generalize hP : cf O (i + k) = P at hcc hbP
              have HPe := Lib.hid hP
              have hib : i * BB' ≤ pn * BB' := Nat.mul_le_mul_right _ hi1
              have hpb : (pn + 1) * BB' = pn * BB' + BB' := Nat.succ_mul _ _
              have hkk := HK.out
              have hbb := HBB.out
              have hM := fun W (hw : Wd W) => pmul_q x y m n W hw hbx hby (by omega)
              have hAd := fun W (hw : Wd W) => padd_q P (x * y) (i * BB') (m + n) W hw hbP (hbx.mul hby) (by omega)
              clear hy hP hib hpb hkk hbb
              have hs1 : IntKind.i64.wrap ((i : Int) + (k : Int)) = (i : Int) + (k : Int) := by rw [IntKind.wrap_i64]; omega
              have hs2 : 0 ≤ (i : Int) + (k : Int) := by omega
              have hs3 : ((i : Int) + (k : Int)).toNat = i + k := by omega
              have hs4 : (i : Int) + (k : Int) < (N : Int) := by omega
              have hs5 : (i : Int) + (k : Int) ≤ (N : Int) := by omega
              have HW1 : Hid (Wd wr.drew) := HW.out.ext (Ext.dr' HE)
              generalize hz : x * y = z at hM hAd
              have HZ := Lib.hid hz
              clear hz
              go_wp2_with fail
              go_region_with (first
                  | (go_at_call 70; (with_reducible refine (hM _ HW1.out).mono ?_); rintro e w2 ⟨rfl, hE2⟩; have q0 := Ext.cellD hE2 hcc; have HO2 := Lib.hid (OwnP.ext (OwnP.drH HO).out hE2); have HE2 := Lib.hid ((Ext.dr' HE).tr hE2); have HW2 := Lib.hid (Wd.ext HW1.out hE2); clear hE2)
                  | (go_at_call 69; (with_reducible refine (hAd _ HW2.out).mono ?_); rintro e w3 ⟨rfl, hE3⟩; have t0 := Ext.cellH hE3 q0; have HO3 := Lib.hid (OwnP.ext HO2.out hE3); have HE3 := Lib.hid (HE2.out.tr hE3); have f0 := OwnP.froz HO3.out (i + k); clear hE3))
              all_goals
                clear hM hAd
                have HT2 := Lib.hid (HT.out.step HP.out HR.out HBB.out (by rw [HO.out.1]; exact hik) (show P + z = cf O (i + k) + cf p i * cf r k from by rw [HPe.out, HX.out, HY.out, HZ.out]))
                have HO4 := Lib.hid (HO3.out.store (i + k) (P + z))
                go_wp2
                go_roundw
                case rel => exact ⟨k + 1, _, by omega, by go_num, HT2, HO4, HE3.out.setCell (Nat.le_refl _) _⟩
                case measure => simp [intOf]; omega
            · have hke : k = rn := by omega
              have HT2 : Hid (PE O (pmul (p.take (i + 1)) r) ∧ ∀ j, Bd (cf O j) ((i + 1) * BB')) := by
                have h := HT.out
                rw [hke, ← HRL.out] at h
                exact h.done (fun _ _ => .inr trivial)
              clear hke
              go_wp2
              go_roundw
              case rel => exact ⟨i + 1, O, by omega, by go_num, HT2, HO, HE⟩
              case measure => simp [intOf]; omega
        · have hie : i = pn := by omega
          have HT2 : Hid (PE O (pmul p r)) := by
            have h := HT.out.1
            rw [hie, ← HPL.out, List.take_length] at h
            exact h
          have HT3 : Hid (PB O (pn * BB')) := by
            have h := HT.out.2
            rw [hie] at h
            exact PB.of_cf h
          clear hie
          go_wp2
          go_ret
          exact ⟨O, rfl, HO.out.1, HT2.out, HT3.out, HO.out.ps, HE.out⟩
set_option maxHeartbeats 1000000 in
set_option maxRecDepth 100000 in
theorem ptimes_nil (A B : Option Addr) (ca cb pn rn : Nat) (w : World) (h : pn = 0 ∨ rn = 0) :
    Calls Tryz.prog 62 #[.slice A pn ca, .slice B rn cb] w fun e w' => e = .returned (.slice none 0 0) ∧ w = w' := by
  by_cases h0 : pn = 0
  · subst h0
    clear h
    go_enter Tryz.func62, Tryz.ntmps62
    go_wp2_with fail
    go_ret
    exact ⟨rfl, rfl⟩
  · obtain rfl : rn = 0 := by omega
    have hp0' : ((pn : Int) == 0) = false := by rw [beq_eq_false_iff_ne]; omega
    clear h h0
    go_enter Tryz.func62, Tryz.ntmps62
    go_wp2_with fail
    go_ret
    exact ⟨rfl, rfl⟩
theorem PS.nil (w : World) : PS w (.slice none 0 0) [] := SlS.nil w
/-- The call hands back a polynomial's numbers. -/
def RetP (w : World) (q : Pl) (e : Ending) (w' : World) : Prop := ∃ v, e = .returned v ∧ PS w' v q ∧ Ext w w'
theorem ptimes_v (v1 v2 : Value) (p r : Pl) (m n : Nat) (w : World) (hW : Wd w) (h1 : PS w v1 p) (h2 : PS w v2 r) (hp : PB p m) (hr : PB r n) (tp : Tr p) (tr : Tr r) (l1 : p.length ≤ 100000) (l2 : r.length ≤ 100000)
    (hk : (p.length + 1) * (m + n + 1) + (m + n) + 3 ≤ KK) :
    Calls Tryz.prog 62 #[v1, v2] w (RetP w (ptrim (pmul p r))) := by
  obtain ⟨A, ca, rfl⟩ := h1.sl
  obtain ⟨B, cb, rfl⟩ := h2.sl
  by_cases h0 : p.length = 0 ∨ r.length = 0
  · refine (ptimes_nil A B ca cb _ _ w h0).mono ?_
    rintro e w' ⟨rfl, rfl⟩
    have e0 : ptrim (pmul p r) = [] := by
      rcases h0 with h0 | h0
      · rw [List.eq_nil_of_length_eq_zero h0]; rfl
      · rw [List.eq_nil_of_length_eq_zero h0]
        exact tr_zero (tr_ptrim _) ((cf_ptrim _).trans (pmul_nil_r p))
    rw [e0]
    exact ⟨_, rfl, PS.nil w, Ext.rfl' _⟩
  · refine (ptimes_some A B ca cb p r m n w hW (by omega) (by omega) l1 l2 h1 h2 hp hr _ rfl hk).mono ?_
    rintro e w' ⟨O, rfl, hl, hE, hb, hps, hx⟩
    have hO : O = ptrim (pmul p r) := by
      have hpt := (pmul_tr tp tr (by intro e; rw [e] at h0; simp at h0) (by intro e; rw [e] at h0; simp at h0)).1
      exact pl_ext (by rw [hl, hpt]) (hE.trans (cf_ptrim _).symm)
    rw [hO] at hps
    exact ⟨_, rfl, hps, hx⟩
theorem pb_mul (p r : Pl) (m n : Nat) (hp : PB p m) (hr : PB r n) : ∀ j, Bd (cf (pmul p r) j) (p.length * (m + n + 1)) := by
  induction p with
  | nil => intro j; have e : cf (pmul [] r) j = 0 := cf_ge (Nat.zero_le _); rw [e]; exact (Bd.of_int 0 0 (by decide)).mono (Nat.zero_le _)
  | cons x a ih =>
    intro j
    have hx : Bd x m := hp x (by simp)
    have ha : PB a m := fun q hq => hp q (by simp [hq])
    have hih := ih ha
    have hl : (x :: a).length * (m + n + 1) = a.length * (m + n + 1) + (m + n + 1) := by rw [List.length_cons, Nat.succ_mul]
    cases j with
    | zero => rw [cf_pmul_zero, hl]; exact (hx.mul (hr.cf 0)).mono (by omega)
    | succ j => rw [cf_pmul_succ, hl]; exact ((hx.mul (hr.cf (j + 1))).add (hih j)).mono (by omega)
theorem PB.trim {p : Pl} {n : Nat} (h : ∀ j, Bd (GB.cf p j) n) : PB (ptrim p) n := PB.of_cf fun j => by rw [cf_ptrim p j]; exact h j
end Go.Proofs.YtbldlibijojbjaaGreatDoor.GB
