import Derived.Test.YtbldlibijojbjaaGreatDoorCPr
namespace Go.Proofs.YtbldlibijojbjaaGreatDoor.GB
set_option linter.unusedVariables false
set_option linter.unusedSimpArgs false
open Go.RowKit Go.Shelf
attribute [local go_sem ↓] Go.wp_at_zero Go.wp_at_succ

/-- The bits of a remainder. -/
def remB (lp n lr m : Nat) : Nat := if lp < lr then n else cdB n m (lp - lr + 1)
theorem DivRel.short {p r : Pl} (tp : Tr p) (hlt : p.length < r.length) : DivRel p r [] p := ⟨tr_nil, tp, hlt, fun i => by
    rw [cf_padd]
    have e : cf (pmul [] r) i = 0 := cf_ge (Nat.zero_le _)
    rw [e]; grind⟩
set_option maxHeartbeats 1000000 in
set_option maxRecDepth 100000 in
theorem pdiv_short (A B : Option Addr) (ca cb : Nat) (p r : Pl) (n : Nat) (w : World) (hlt : p.length < r.length) (l1 : p.length ≤ 100000)
    (hA : PS w (.slice A p.length ca) p) (hp : CB p n) (tp : Tr p) :
    Calls Tryz.prog 64 #[.slice A p.length ca, .slice B r.length cb] w (DivP p r n w) := by
  have hcl := clone49_v (.slice A p.length ca) (p.map rb) w hA (by simpa using Nat.le_trans l1 (by omega))
  have hlt' : decide (p.length < r.length) = true := decide_eq_true hlt
  have HD : Hid (DivRel p r [] p) := DivRel.short tp hlt
  have HP := Lib.hid hp
  clear hA hp tp hlt
  generalize p.length = pn at *
  generalize r.length = rn at *
  go_enter Tryz.func64, Tryz.ntmps64
  go_wp2_with fail
  refine hcl.mono ?_
  rintro e w1 ⟨v1, rfl, hO, hE1⟩
  have HS := Lib.hid (show PS w1 v1 p from hO.sl)
  have HE1 := Lib.hid hE1
  clear hcl hO hE1
  go_wp2_with fail
  go_ret2
  exact ⟨_, _, [], p, rfl, HD.out, ⟨HP.out, PB.nil _⟩, PS.nil _, HS.out, HE1.out⟩
theorem pdiv_v (v1 v2 : Value) (p r : Pl) (m n : Nat) (w : World) (hW : Wd w) (h1 : PS w v1 p) (h2 : PS w v2 r) (hp : CB p n) (hr : CB r m) (tp : Tr p) (tr : Tr r) (hr0 : r ≠ []) (l1 : p.length ≤ 100000)
    (hk : 2 * remB p.length n r.length m + 6 ≤ KK) :
    Calls Tryz.prog 64 #[v1, v2] w (DivP p r (remB p.length n r.length m) w) := by
  obtain ⟨A, ca, rfl⟩ := h1.sl
  obtain ⟨B, cb, rfl⟩ := h2.sl
  have l0 := List.length_pos_iff.2 hr0
  unfold remB at *
  by_cases h : p.length < r.length
  · rw [if_pos h] at *
    exact pdiv_short A B ca cb p r n w h l1 h1 hp tp
  · rw [if_neg h] at *
    exact pdiv_long A B ca cb p r m n w hW l0 (Nat.not_lt.1 h) l1 h1 h2 hp hr tr hk
/-- With the leading coefficient 1. -/
def pmon (p : Pl) : Pl := psc (1 / lead p) p
theorem pmon_nil : pmon [] = [] := rfl
theorem pmon_map (p : Pl) : pmon p = p.map (fun c => c / lead p) := by
  unfold pmon psc
  apply List.map_congr_left
  intro x _
  show 1 / lead p * x = x / lead p
  rw [Rat.div_def, Rat.div_def, Rat.one_mul, Rat.mul_comm]
theorem pmon_len (p : Pl) : (pmon p).length = p.length := by rw [pmon_map, List.length_map]
theorem pmon_take (p : Pl) (k : Nat) (hk : k < p.length) : ((p.take (k + 1)).map fun c => c / lead p) = ((p.take k).map fun c => c / lead p) ++ [cf p k / lead p] := by
  rw [List.take_succ_eq_append_getElem hk, List.map_append, List.map_singleton, cf_lt hk]
theorem pmon_pb {p : Pl} {n : Nat} (hp : PB p n) : PB (pmon p) (2 * n + 1) := by
  rw [pmon_map]
  intro q hq
  obtain ⟨c, hc, rfl⟩ := List.mem_map.1 hq
  exact ((hp c hc).div (hp.cf _)).mono (by omega)
theorem pmon_tr {p : Pl} (tp : Tr p) : Tr (pmon p) := by
  by_cases h : p = []
  · subst h; exact tr_nil
  · exact (GcdRel.base tp h).tr
set_option maxHeartbeats 1000000 in
set_option maxRecDepth 100000 in
theorem pmonic_some (A : Option Addr) (ca : Nat) (p : Pl) (n : Nat) (w : World) (hW : Wd w) (hp0 : 0 < p.length) (l1 : p.length ≤ 100000)
    (hA : PS w (.slice A p.length ca) p) (hp : PB p n) (tp : Tr p) (hk : 2 * n + 4 ≤ KK) :
    Calls Tryz.prog 101 #[.slice A p.length ca] w (RetP w (pmon p)) := by
  obtain ⟨i0, hi, hz0, hz1, hz2⟩ := info_parts Tryz.infoRat
  obtain ⟨p1, hp1⟩ : ∃ p1, p.length = p1 + 1 := ⟨p.length - 1, by omega⟩
  have HLd : Hid (lead p = cf p p1) := by unfold Hid lead; rw [hp1]; rfl
  have HL0 : Hid (cf p p1 ≠ 0) := by
    have h := lead_ne tp (by intro e; rw [e] at hp0; simp at hp0)
    rwa [HLd.out] at h
  have HA := Lib.hid hA
  have HW := Lib.hid hW
  have HP := Lib.hid hp
  have HK := Lib.hid hk
  have HP1 := Lib.hid hp1
  clear hA hW hp hk tp hp1
  generalize hpl : p.length = pn at *
  have HPL := Lib.hid hpl
  clear hpl
  go_enter Tryz.func101, Tryz.ntmps101
  go_wp2_with fail
  go_loopw [3, 8] (fun vo vi wr => ∃ k : Nat, k ≤ pn ∧ vi = .int .i64 k ∧ Hid (OwnS wr w.heap.size vo (((p.take k).map fun c => c / lead p).map rb)) ∧ Hid (Ext w wr)) (fun _ vi _ => pn - (intOf vi).toNat)
  case atStart => exact ⟨0, Nat.zero_le _, rfl, by unfold Hid; rw [List.take_zero]; exact ⟨rfl, .inl ⟨rfl, rfl⟩⟩, Ext.rfl' _⟩
  case round =>
    obtain ⟨k, hk, rfl, HO, HE⟩ := hrel
    by_cases hlt : k < pn
    · obtain ⟨-, -, -, hcl⟩ := HA.out.cell
      obtain ⟨bb, fb, rfl, hbb, hcC⟩ := hcl k (by rw [HPL.out]; exact hlt)
      obtain ⟨b', f', hbf, hbb', hcL⟩ := hcl p1 (by rw [HPL.out]; have := HP1.out; omega)
      obtain ⟨rfl, rfl⟩ : bb = b' ∧ fb = f' := by simp at hbf; exact hbf
      replace hcC := HE.out.cell hcC
      replace hcL := HE.out.cell hcL
      have hbC := HP.out.cf k
      have hbL := HP.out.cf p1
      have HS : Hid (((p.take (k + 1)).map fun c => c / lead p).map rb = ((p.take k).map fun c => c / lead p).map rb ++ [rb (cf p k / cf p p1)]) := by
        unfold Hid
        rw [pmon_take p k (by rw [HPL.out]; exact hlt), List.map_append, List.map_singleton, HLd.out]
      have hl0 := HL0.out
      have hKo := HK.out
      have hD := fun W (hw : Wd W) => pdiv_q (cf p k) (cf p p1) n n W hw hbC hbL hl0 (by omega)
      generalize cf p k / cf p p1 = f at hD HS
      have HD := Lib.hid hD
      clear hD hl0 hKo hbC hbL hcl hbb hbb' hbf
      generalize cf p k = C at *
      generalize cf p p1 = L at *
      have hN : (((p.take k).map fun c => c / lead p).map rb).length + 1 ≤ maxLen := by simp [maxLen]; omega
      have hbig : ((((p.take k).map fun c => c / lead p).map rb).length + 1) * 16 ≤ 140737488355328 := by simp; omega
      generalize ((p.take k).map fun c => c / lead p).map rb = r at *
      have b1 : IntKind.i64.wrap ((pn : Int) - 1) = (pn : Int) - 1 := by rw [IntKind.wrap_i64]; omega
      have b2 : ((pn : Int) - 1).toNat = p1 := by have := HP1.out; omega
      have b3 : (0 : Int) ≤ (pn : Int) - 1 := by omega
      have b4 : (1 : Int) ≤ (pn : Int) := by omega
      have b5 : (pn : Int) - 1 < (pn : Int) := by omega
      have b6 : (pn : Int) - 1 ≤ (pn : Int) := by omega
      go_wp2_with fail
      refine (HD.out _ (HW.out.ext HE.out)).mono ?_
      rintro e w1 ⟨rfl, hE1⟩
      have HE1 := Lib.hid (HE.out.tr hE1)
      have HO1 := Lib.hid (HO.out.ext hE1)
      have hbase1 : w.heap.size ≤ w1.heap.size := HE1.out.size
      clear hE1 b1 b2 b3 b4 b5 b6
      go_wp2_with (at_builtin; (refine wpList_append_own _ rfl _ _ 55 rfl w.heap.size 30 i0 (.string ⟨#[]⟩) 1 16 Tryz.underlying55 hi hz0 hz1 hz2 rfl (by decide) _ r.length (strs r) rfl (World.ownsRow.alloc HO1.out _) ⟨w1.heap.size, 0, none⟩ 1 1 _ rfl rfl (cell_one_new _ _ _) (by simp [Value.oneCell']) hN hbig (by simp; omega) ?_); intro v' w2 hown2 hgrow2 _)
      all_goals
        obtain ⟨p1', p2'⟩ := own_grow (news := [rb f]) HO1.out HE1.out hown2 hgrow2
        go_roundw
        case rel => exact ⟨k + 1, by omega, by go_num, by rw [HS.out]; exact p1', p2'⟩
        case measure => simp [intOf]; omega
    · have hke : k = pn := by omega
      have h := HO.out.sl
      rw [hke, ← HPL.out, List.take_length, ← pmon_map] at h
      have HV := Lib.hid h
      clear hke h
      go_wp2
      go_ret
      exact ⟨_, rfl, HV.out, HE.out⟩
set_option maxHeartbeats 1000000 in
set_option maxRecDepth 100000 in
theorem pmonic_nil (A : Option Addr) (ca : Nat) (w : World) :
    Calls Tryz.prog 101 #[.slice A 0 ca] w fun e w' => e = .returned (.slice none 0 0) ∧ w' = w := by
  go_enter Tryz.func101, Tryz.ntmps101
  go_wp2
  go_loop [3, 8] (fun o v => o = .slice none 0 0 ∧ v = .int .i64 0) (fun _ _ => 0)
  case atStart => exact ⟨rfl, rfl⟩
  case round =>
    obtain ⟨rfl, rfl⟩ := hrel
    go_wp2
    go_ret
    exact ⟨rfl, rfl⟩
theorem pmonic_v (v : Value) (p : Pl) (n : Nat) (w : World) (hW : Wd w) (h1 : PS w v p) (hp : PB p n) (tp : Tr p) (l1 : p.length ≤ 100000) (hk : 2 * n + 4 ≤ KK) :
    Calls Tryz.prog 101 #[v] w (RetP w (pmon p)) := by
  obtain ⟨A, ca, rfl⟩ := h1.sl
  rcases Nat.eq_zero_or_pos p.length with h | h
  · have e := List.eq_nil_of_length_eq_zero h
    subst e
    refine (pmonic_nil A ca w).mono ?_
    rintro e w' ⟨rfl, rfl⟩
    rw [pmon_nil]
    exact ⟨_, rfl, PS.nil _, Ext.rfl' _⟩
  · exact pmonic_some A ca p n w hW h l1 h1 hp tp hk
end Go.Proofs.YtbldlibijojbjaaGreatDoor.GB

namespace Go.Proofs.YtbldlibijojbjaaGreatDoor.GB
set_option linter.unusedVariables false
set_option linter.unusedSimpArgs false
open Go.RowKit Go.Shelf
attribute [local go_sem ↓] Go.wp_at_zero Go.wp_at_succ

/-- The bits that Euclid's algorithm needs are at most N. -/
def gok : Nat → Nat → Nat → Nat → Nat → Nat → Bool
  | 0, _, n, _, _, N => decide (n ≤ N)
  | f + 1, lp, n, lr, m, N => if lr = 0 then decide (n ≤ N) else if lp < lr then decide (n ≤ N) && gok f lr m lp n N else decide (remB lp n lr m ≤ N) && (List.range lr).all fun l => gok f lr m l (remB lp n lr m) N
/-- What the loop of the greatest common divisor holds. -/
def GI (p r P R : Pl) (n m f N : Nat) : Prop := Tr P ∧ Tr R ∧ CB P n ∧ CB R m ∧ P.length ≤ 100000 ∧ R.length ≤ 100000 ∧ R.length ≤ f ∧ (gok f P.length n R.length m N = true ∧ 2 * N + 6 ≤ KK) ∧ ∀ d, GcdRel P R d → GcdRel p r d
theorem GcdRel.mon {p r q t d : Pl} (h : DivRel p r q t) (k : GcdRel r (pmon t) d) : GcdRel p r d := by
  by_cases ht : t = []
  · subst ht
    exact GcdRel.step h.eq (c := 1) (by decide) (fun i => by rw [cf_psc]; simp [pmon_nil]) k
  · exact GcdRel.step h.eq (c := 1 / lead t) (by have := lead_ne h.trt ht; intro e; have e2 : 1 / lead t * lead t = 1 := by grind
                                                 rw [e] at e2; grind) (PE.rfl' _) k
theorem GI.step {p r P R q t : Pl} {n m f N : Nat} (h : GI p r P R n m (f + 1) N) (hr : R ≠ []) (hd : DivRel P R q t) (hb : CB t (remB P.length n R.length m)) : GI p r R (pmon t) m (remB P.length n R.length m) f N := by
  obtain ⟨t1, t2, b1, b2, l1, l3, l2, ⟨g, gk⟩, hg⟩ := h
  have l0 := List.length_pos_iff.2 hr
  have hlt := hd.lt
  refine ⟨t2, pmon_tr hd.trt, b2, CB.mon hd.trt hb, l3, by rw [pmon_len]; omega, by rw [pmon_len]; omega, ⟨?_, gk⟩, fun d hd2 => hg d (GcdRel.mon hd hd2)⟩
  rw [pmon_len]
  unfold gok at g
  rw [if_neg (by omega)] at g
  by_cases hs : P.length < R.length
  · rw [if_pos hs, Bool.and_eq_true] at g
    have e := (DivRel.uniq t2 hd (DivRel.short t1 hs)).2
    subst e
    have e2 : remB t.length n R.length m = n := by unfold remB; rw [if_pos hs]
    rw [e2]; exact g.2
  · rw [if_neg hs, Bool.and_eq_true, List.all_eq_true] at g
    exact g.2 _ (List.mem_range.2 hlt)
theorem GI.done {p r P : Pl} {n m f N : Nat} (h : GI p r P [] n m f N) : GcdRel p r (pmon P) ∧ CB (pmon P) N ∧ 2 * n + 4 ≤ KK := by
  obtain ⟨t1, t2, b1, b2, l1, l3, l2, ⟨g, gk⟩, hg⟩ := h
  have hn : n ≤ N := by
    cases f with
    | zero => exact of_decide_eq_true g
    | succ f => unfold gok at g; rw [if_pos (show ([] : Pl).length = 0 from rfl)] at g; exact of_decide_eq_true g
  refine ⟨hg _ ?_, (CB.mon t1 b1).mono hn, by omega⟩
  by_cases hP : P = []
  · subst hP; exact GcdRel.nil
  · exact GcdRel.base t1 hP
theorem GI.bits {p r P R : Pl} {n m f N : Nat} (h : GI p r P R n m f N) (hr : R ≠ []) : ∃ f', f = f' + 1 ∧ 2 * remB P.length n R.length m + 6 ≤ KK := by
  obtain ⟨t1, t2, b1, b2, l1, l3, l2, ⟨g, gk⟩, hg⟩ := h
  have l0 := List.length_pos_iff.2 hr
  cases f with
  | zero => omega
  | succ f =>
    refine ⟨f, rfl, ?_⟩
    unfold gok at g
    rw [if_neg (by omega)] at g
    by_cases hs : P.length < R.length
    · rw [if_pos hs, Bool.and_eq_true] at g
      have := of_decide_eq_true g.1
      unfold remB; rw [if_pos hs]; omega
    · rw [if_neg hs, Bool.and_eq_true] at g
      have := of_decide_eq_true g.1
      omega
set_option maxHeartbeats 2000000 in
set_option maxRecDepth 100000 in
theorem pcommon_v (v1 v2 : Value) (p r : Pl) (n m f N : Nat) (w : World) (hW : Wd w) (h1 : PS w v1 p) (h2 : PS w v2 r) (hI : GI p r p r n m f N) :
    Calls Tryz.prog 66 #[v1, v2] w fun e w' => ∃ v d, e = .returned v ∧ (GcdRel p r d ∧ CB d N) ∧ PS w' v d ∧ Ext w w' := by
  have HW := Lib.hid hW
  have H1 := Lib.hid h1
  have H2 := Lib.hid h2
  have HI := Lib.hid hI
  clear hW h1 h2 hI
  go_enter Tryz.func66, Tryz.ntmps66
  go_wp2_with fail
  go_loopw [0, 1] (fun a b wr => ∃ (P R : Pl) (n m f : Nat), Hid (PS wr a P) ∧ Hid (PS wr b R) ∧ Hid (GI p r P R n m f N) ∧ Hid (Ext w wr)) (fun _ b _ => match b with | .slice _ l _ => l | _ => 0)
  case atStart => exact ⟨p, r, n, m, f, H1, H2, HI, Ext.rfl' _⟩
  case round =>
    clear H1 H2 HI
    obtain ⟨P, R, n, m, f, H1, H2, HI, HE⟩ := hrel
    obtain ⟨B, cb, rfl⟩ := H2.out.sl
    by_cases hR : R = []
    · subst hR
      have HD := Lib.hid HI.out.done
      have hmo := fun W (hE : Ext w W) (hps : PS W u0 P) => pmonic_v u0 P n W (HW.out.ext hE) hps HI.out.2.2.1.pb HI.out.1 HI.out.2.2.2.2.1 HD.out.2.2
      have HM := Lib.hid hmo
      clear hmo
      simp only [List.length_nil]
      go_wp2_with fail
      refine (HM.out _ HE.out H1.out).mono ?_
      rintro e w1 ⟨v, rfl, hv, hE1⟩
      have HV := Lib.hid hv
      have HE1 := Lib.hid (HE.out.tr hE1)
      clear hv hE1
      go_wp2_with fail
      go_ret
      exact ⟨_, _, rfl, ⟨HD.out.1, HD.out.2.1⟩, HV.out, HE1.out⟩
    · have l0 := List.length_pos_iff.2 hR
      obtain ⟨f', hf, hbk⟩ := HI.out.bits hR
      have HR0 := Lib.hid hR
      have HBk := Lib.hid hbk
      have hdv := pdiv_v u0 (.slice B R.length cb) P R m n wr (HW.out.ext HE.out) H1.out H2.out HI.out.2.2.1 HI.out.2.2.2.1 HI.out.1 HI.out.2.1 hR HI.out.2.2.2.2.1 (by omega)
      have HDv := Lib.hid hdv
      have HF := Lib.hid hf
      have HRl := Lib.hid (show R.length ≤ 100000 from HI.out.2.2.2.2.2.1)
      clear hR hbk hdv hf
      generalize hrl : R.length = rl at *
      have HRL := Lib.hid hrl
      clear hrl
      go_wp2_with fail
      refine HDv.out.mono ?_
      rintro e w1 ⟨v3, v4, q, t, rfl, hd, hb, hq, ht, hE1⟩
      have HD := Lib.hid hd
      have HE1 := Lib.hid (HE.out.tr hE1)
      have HT := Lib.hid ht
      have HB := Lib.hid hb.1
      have H21 := Lib.hid (H2.out.ext hE1)
      clear hd hb hq ht hE1
      have hmo := pmonic_v v4 t _ w1 (HW.out.ext HE1.out) HT.out HB.out.pb HD.out.trt (by have := HD.out.lt; have := HRL.out; have := HRl.out; omega) (by have h1 := HBk.out; omega)
      have HM := Lib.hid hmo
      clear hmo
      go_wp2_with fail
      refine HM.out.mono ?_
      rintro e w2 ⟨v5, rfl, hv, hE2⟩
      have HV := Lib.hid hv
      have HE2 := Lib.hid (HE1.out.tr hE2)
      have H22 := Lib.hid (H21.out.ext hE2)
      clear hv hE2
      obtain ⟨C, cc, rfl⟩ := HV.out.sl
      have hms : (pmon t).length < rl := by rw [pmon_len]; have := HD.out.lt; have := HRL.out; omega
      have HMS := Lib.hid hms
      clear hms
      have h := HI.out
      rw [HF.out] at h
      have hb2 := HB.out
      rw [← HRL.out] at hb2
      have HI2 := Lib.hid (h.step HR0.out HD.out hb2)
      clear h hb2
      go_wp2
      go_roundw
      case rel => exact ⟨R, pmon t, m, _, f', H22, HV, HI2, HE2⟩
      case measure => exact HMS.out
end Go.Proofs.YtbldlibijojbjaaGreatDoor.GB
