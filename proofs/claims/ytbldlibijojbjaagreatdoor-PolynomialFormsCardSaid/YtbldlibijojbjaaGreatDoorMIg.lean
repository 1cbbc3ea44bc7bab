import Derived.Test.YtbldlibijojbjaaGreatDoorMBk
import Derived.Test.YtbldlibijojbjaaGreatDoorCBb
import Derived.Test.YtbldlibijojbjaaGreatDoorCSh
import Derived.Test.YtbldlibijojbjaaGreatDoorMPw
namespace Go.Proofs.YtbldlibijojbjaaGreatDoor.GB
set_option linter.unusedVariables false
set_option linter.unusedSimpArgs false
open Go.RowKit Go.Shelf
attribute [local go_sem ↓] Go.wp_at_zero Go.wp_at_succ

set_option maxHeartbeats 1000000 in
set_option maxRecDepth 100000 in
theorem integrate_nil (A : Option Addr) (c : Nat) (w : World) (hv : VA (.slice A 0 c) true w) :
    Calls Tryz.prog 35 #[.slice A 0 c] w (RetQ0 (fun W v => PS W v []) w) := by
  go_enter Tryz.func35, Tryz.ntmps35
  go_wp2_with fail
  refine (hv _ (Ext.rfl' _)).mono ?_
  rintro e w0 ⟨rfl, hE0⟩
  go_wp2_with fail
  go_ret2
  exact ⟨_, rfl, PS.nil _, hE0⟩
set_option maxHeartbeats 1000000 in
set_option maxRecDepth 100000 in
theorem integrate_lim (A : Option Addr) (c pn : Nat) (w : World) (h17 : 16 < pn) (hl : pn ≤ 100000) (hv : VA (.slice A pn c) true w) :
    Calls Tryz.prog 35 #[.slice A pn c] w (RetE 15 w) := by
  have h0 : ((pn : Int) == 0) = false := by rw [beq_eq_false_iff_ne]; omega
  go_enter Tryz.func35, Tryz.ntmps35
  go_wp2_with fail
  refine (hv _ (Ext.rfl' _)).mono ?_
  rintro e w0 ⟨rfl, hE0⟩
  go_wp2_with fail
  go_ret2
  exact ⟨rfl, hE0⟩
set_option maxHeartbeats 1000000 in
set_option maxRecDepth 100000 in
theorem integrate_no (v : Value) (w : World) (hv : VA v false w) :
    Calls Tryz.prog 35 #[v] w (RetE 1 w) := by
  go_enter Tryz.func35, Tryz.ntmps35
  go_wp2_with fail
  refine (hv _ (Ext.rfl' _)).mono ?_
  rintro e w0 ⟨rfl, hE0⟩
  go_wp2_with fail
  go_ret2
  exact ⟨rfl, hE0⟩
set_option maxHeartbeats 1000000 in
set_option maxRecDepth 100000 in
theorem derive_no (v : Value) (w : World) (hv : VA v false w) :
    Calls Tryz.prog 33 #[v] w (RetE 1 w) := by
  go_enter Tryz.func33, Tryz.ntmps33
  go_wp2_with fail
  refine (hv _ (Ext.rfl' _)).mono ?_
  rintro e w0 ⟨rfl, hE0⟩
  go_wp2_with fail
  go_ret2
  exact ⟨rfl, hE0⟩
set_option maxHeartbeats 4000000 in
set_option maxRecDepth 100000 in
theorem integrate_ok (A : Option Addr) (c pn n : Nat) (p : Pl) (w : World) (HPL : Hid (p.length = pn)) (h0 : 0 < pn) (hl : pn ≤ 16) (hW : Wd w) (hA : PS w (.slice A pn c) p) (hv : VA (.slice A pn c) true w) (hp : PB p n) (hk : n + 23 ≤ KK) :
    Calls Tryz.prog 35 #[.slice A pn c] w (RetQ0 (fun W v => PS W v (pint p)) w) := by
  obtain ⟨i0, hi, hz0, hz1, hz2⟩ := info_parts Tryz.infoRat
  have HA := Lib.hid hA
  have HP := Lib.hid hp
  have HW := Lib.hid hW
  have h0' : ((pn : Int) == 0) = false := by rw [beq_eq_false_iff_ne]; omega
  have hl' : ¬ (16 : Int) < (pn : Int) := by omega
  clear hA hp hW
  go_enter Tryz.func35, Tryz.ntmps35
  go_wp2_with fail
  refine (hv _ (Ext.rfl' _)).mono ?_
  rintro e w0 ⟨rfl, hE0⟩
  have HE0 := Lib.hid hE0
  have hb0 : w.heap.size ≤ w0.heap.size := hE0.size
  have HO0 : Hid (OwnS (w0.alloc (.cells #[.string ⟨#[48]⟩] 30)) w.heap.size (.slice (some ⟨w0.heap.size, 0, none⟩) 1 1) ((0 :: (List.range 0).map fun j => cf p j / (((j + 1 : Nat) : Int) : Rat)).map rb)) := by
    refine ⟨rfl, .inr ⟨w0.heap.size, 1, #[.string ⟨#[48]⟩], rfl, hb0, World.alloc_heap_new w0 _, Nat.le_refl _, by simp [maxLen], rfl, ?_⟩⟩
    simp [strs, rb0]
  have HE0' := Lib.hid (hE0.al (.cells #[.string ⟨#[48]⟩] 30))
  clear hE0 hv
  go_wp2_with fail
  go_loopw [4, 22] (fun vo vi wr => ∃ k : Nat, k ≤ pn ∧ vi = .int .i64 (k : Int) ∧ Hid (OwnS wr w.heap.size vo ((0 :: (List.range k).map fun j => cf p j / (((j + 1 : Nat) : Int) : Rat)).map rb)) ∧ Hid (Ext w wr)) (fun _ vi _ => pn - (intOf vi).toNat)
  case atStart => exact ⟨0, Nat.zero_le _, rfl, HO0, HE0'⟩
  case round =>
    obtain ⟨k, hk0, rfl, HO, HE⟩ := hrel
    clear HO0 HE0 HE0'
    by_cases hlt : k < pn
    · obtain ⟨-, -, -, hcl⟩ := HA.out.cell
      obtain ⟨bb, fb, rfl, hbb, hcC⟩ := hcl k (by rw [HPL.out]; exact hlt)
      replace hcC := HE.out.cell hcC
      have hbC := HP.out.cf k
      have hq0 : (((k + 1 : Nat) : Int) : Rat) ≠ 0 := by
        intro e
        have := Rat.intCast_inj.1 (e.trans Rat.intCast_zero.symm)
        omega
      have hM := fun W (hw : Wd W) => pdiv_q (cf p k) (((k + 1 : Nat) : Int) : Rat) n 20 W hw hbC (bd_small (k + 1) (by omega)) hq0 (by omega)
      have hWh := fun W (hw : Wd W) => whole_k (k + 1) (by omega) W hw
      have hS : ((0 :: (List.range (k + 1)).map fun j => cf p j / (((j + 1 : Nat) : Int) : Rat)).map rb) = ((0 :: (List.range k).map fun j => cf p j / (((j + 1 : Nat) : Int) : Rat)).map rb) ++ [rb (cf p k / (((k + 1 : Nat) : Int) : Rat))] := by
        rw [List.range_succ]; simp
      have HS := Lib.hid hS
      have e2 : ((k + 1 : Nat) : Int) = (k : Int) + 1 := by push_cast; rfl
      have hv1 : Value.int .i64 ((k + 1 : Nat) : Int) = .int .i64 ((k : Int) + 1) := by rw [e2]
      rw [hv1] at hWh
      clear e2 hv1 hS hcl hq0
      generalize hF : cf p k / (((k + 1 : Nat) : Int) : Rat) = F at hM HS
      clear hF
      generalize (((k + 1 : Nat) : Int) : Rat) = Q at hM hWh
      generalize cf p k = C at *
      have HM := Lib.hid hM
      have HWh := Lib.hid hWh
      have hN : ((0 :: (List.range k).map fun j => cf p j / (((j + 1 : Nat) : Int) : Rat)).map rb).length + 1 ≤ maxLen := by simp [maxLen]; omega
      have hbig : (((0 :: (List.range k).map fun j => cf p j / (((j + 1 : Nat) : Int) : Rat)).map rb).length + 1) * 16 ≤ 140737488355328 := by simp; omega
      generalize ((0 :: (List.range k).map fun j => cf p j / (((j + 1 : Nat) : Int) : Rat)).map rb) = r at *
      clear hM hWh hbC
      go_wp2_with fail
      refine (HWh.out _ (HW.out.ext HE.out)).mono ?_
      rintro e w2 ⟨rfl, hE2⟩
      have HE2 := Lib.hid (HE.out.tr hE2)
      have HO2 := Lib.hid (HO.out.ext hE2)
      clear hE2
      go_wp2_with fail
      refine (HM.out _ (HW.out.ext HE2.out)).mono ?_
      rintro e w3 ⟨rfl, hE3⟩
      have HE3 := Lib.hid (HE2.out.tr hE3)
      have HO3 := Lib.hid (HO2.out.ext hE3)
      have hbase1 : w.heap.size ≤ w3.heap.size := HE3.out.size
      clear hE3
      go_wp2_with (at_builtin; (refine wpList_append_own _ rfl _ _ 25 rfl w.heap.size 30 i0 (.string ⟨#[]⟩) 1 16 Tryz.underlying25 hi hz0 hz1 hz2 rfl (by decide) _ r.length (strs r) rfl (World.ownsRow.alloc HO3.out _) ⟨w3.heap.size, 0, none⟩ 1 1 _ rfl rfl (cell_one_new _ _ _) (by simp [Value.oneCell']) hN hbig (by simp; omega) ?_); intro v' w4 hown4 hgrow4 _)
      all_goals
        obtain ⟨p1, p2⟩ := own_grow (news := [rb F]) HO3.out HE3.out hown4 hgrow4
        go_roundw
        case rel => exact ⟨k + 1, by omega, by go_num, by rw [HS.out]; exact p1, p2⟩
        case measure => simp [intOf]; omega
    · have hke : k = pn := by omega
      have h := HO.out.sl
      have hpi : pint p = 0 :: (List.range p.length).map fun j => cf p j / (((j + 1 : Nat) : Int) : Rat) := by
        unfold pint
        rw [if_neg (by intro e; have := HPL.out; rw [e] at this; simp at this; omega)]
      rw [hke, ← HPL.out, ← hpi] at h
      have HV := Lib.hid h
      clear hke h hpi
      go_wp2
      go_ret2
      exact ⟨_, rfl, HV.out, HE.out⟩
end Go.Proofs.YtbldlibijojbjaaGreatDoor.GB

namespace Go.Proofs.YtbldlibijojbjaaGreatDoor.GB
set_option linter.unusedVariables false
set_option linter.unusedSimpArgs false
open Go

/-! Values along a list. -/
theorem hor_pev {b : Nat} (X : Rat) (p : Pl) (hp : PB p b) (hl : p.length ≤ 100000) : hor X (pdn b p p.length) = pev p X := by
  have h1 : hor X (pdn b p p.length) = ((pdn b p p.length).map (fun x => x.1.2)).foldl (fun a x => a * X + x) 0 := by
    unfold hor; rw [List.foldl_map]
  rw [h1, pdn_prefix hp _ (Nat.le_refl _) hl, Nat.sub_self, List.drop_zero, List.foldl_reverse]
  clear h1 hp hl
  induction p with
  | nil => rfl
  | cons a p ih => rw [List.foldr_cons, ih]; show _ = a + X * pev p X; grind
/-- The polynomial moved by a. -/
def pshf (a : Rat) (p : Pl) : Pl := p.foldr (fun c O => shr a c O) []
theorem shf_pshf {b : Nat} (a : Rat) (p : Pl) (hp : PB p b) (hl : p.length ≤ 100000) : shf a (pdn b p p.length) = pshf a p := by
  have h1 : shf a (pdn b p p.length) = ((pdn b p p.length).map (fun x => x.1.2)).foldl (fun O c => shr a c O) [] := by
    unfold shf; rw [List.foldl_map]
  rw [h1, pdn_prefix hp _ (Nat.le_refl _) hl, Nat.sub_self, List.drop_zero, List.foldl_reverse]
  rfl
/-- The enclosure. -/
def penc (I : Rat × Rat) (p : Pl) : Rat × Rat := p.foldr (fun c a => iaddR (imulR a I) (c, c)) (0, 0)
theorem enc_penc {b : Nat} (I : Rat × Rat) (p : Pl) (hp : PB p b) (hl : p.length ≤ 100000) : enc I (pdn b p p.length) = penc I p := by
  have h1 : enc I (pdn b p p.length) = ((pdn b p p.length).map (fun x => x.1.2)).foldl (fun a c => iaddR (imulR a I) (c, c)) (0, 0) := by
    unfold enc; rw [List.foldl_map]
  rw [h1, pdn_prefix hp _ (Nat.le_refl _) hl, Nat.sub_self, List.drop_zero, List.foldl_reverse]
  rfl
theorem pev_trim (p : Pl) (t : Rat) : pev (ptrim p) t = pev p t := pev_PE (cf_ptrim p) t
theorem pev_shr (a c : Rat) (O : Pl) (t : Rat) : pev (shr a c O) t = pev O t * (t + a) + c := by
  unfold shr
  rw [pev_trim, pev_padd, pev_trim, pev_trim, pev_pmul]
  show pev O t * (a + t * (1 + t * 0)) + (c + t * 0) = _
  grind
theorem pev_pshf (a : Rat) (p : Pl) (t : Rat) : pev (pshf a p) t = pev p (t + a) := by
  induction p with
  | nil => rfl
  | cons c p ih =>
    show pev (shr a c (pshf a p)) t = c + (t + a) * pev p (t + a)
    rw [pev_shr, ih]; grind
theorem pshf_tr (a : Rat) (p : Pl) : Tr (pshf a p) := by
  cases p with
  | nil => exact tr_nil
  | cons c p => exact shr_tr _ _ _
theorem shr_len_eq (a c : Rat) {O : Pl} (hO : Tr O) (h : O ≠ [] ∨ c ≠ 0) : (shr a c O).length = O.length + 1 := by
  by_cases h0 : O = []
  · subst h0
    have hc : c ≠ 0 := by rcases h with h | h; exact absurd rfl h; exact h
    have e : shr a c [] = ptrim (ptrim [c]) := rfl
    have t1 : Tr [c] := by simp [Tr, hc]
    rw [e, ptrim_tr t1, ptrim_tr t1]; rfl
  · have hl := List.length_pos_iff.2 h0
    have h2 := pmul_tr hO (tr_a1 a) h0 (by simp)
    obtain ⟨hlen, hlead⟩ := h2
    have e2 : (O.length + [a, 1].length - 1) = O.length + 1 := by simp
    rw [e2] at hlen
    have hz : (ptrim [c]).length ≤ 1 := ptrim_len [c]
    have ht : Tr (padd (ptrim (pmul O [a, 1])) (ptrim [c])) := by
      intro e
      have hll : (padd (ptrim (pmul O [a, 1])) (ptrim [c])).length = O.length + 1 := by rw [padd_len, hlen]; omega
      rw [List.getLast?_eq_getElem?, hll] at e
      have e3 : cf (padd (ptrim (pmul O [a, 1])) (ptrim [c])) O.length = 0 := by
        have e4 : O.length + 1 - 1 = O.length := by omega
        rw [e4] at e
        simp only [cf, List.getD_eq_getElem?_getD, e]; rfl
      rw [cf_padd, cf_ge (p := ptrim [c]) (by omega)] at e3
      have e5 : cf (ptrim (pmul O [a, 1])) O.length = lead O * lead [a, 1] := by
        rw [← hlead]; unfold lead; rw [hlen]; rfl
      have e6 : lead [a, 1] = 1 := rfl
      have := lead_ne hO h0
      rw [e5, e6] at e3
      grind
    show (ptrim (padd (ptrim (pmul O [a, 1])) (ptrim [c]))).length = _
    rw [ptrim_tr ht, padd_len, hlen]; omega
theorem pshf_len (a : Rat) {p : Pl} (tp : Tr p) : (pshf a p).length = p.length := by
  induction p with
  | nil => rfl
  | cons c p ih =>
    have ih := ih (tr_cons tp)
    show (shr a c (pshf a p)).length = _
    rw [shr_len_eq a c (pshf_tr a p), ih]; rfl
    by_cases h : p = []
    · subst h; right; intro e; subst e; exact tp rfl
    · left; intro e; rw [e] at ih; exact h (List.eq_nil_of_length_eq_zero ih.symm)
theorem pshf_pb (a : Rat) {p : Pl} {n m : Nat} (hp : PB p n) (ha : Bd a m) : PB (pshf a p) (sfB n m p.length) := by
  induction p with
  | nil => exact PB.nil _
  | cons c p ih =>
    have h := (shr_pb (ih fun q hq => hp q (by simp [hq])) ha (hp c (by simp))).2
    exact h
theorem pder_pb {p : Pl} {n : Nat} (hp : PB p n) (hl : p.length ≤ 100000) : PB (pder p) (n + 20) := by
  intro q hq
  obtain ⟨j, hj, rfl⟩ := List.mem_map.1 hq
  have hj' := List.mem_range.1 hj
  exact (hp.cf _).mul (bd_small _ (by omega))
theorem pint_pb {p : Pl} {n : Nat} (hp : PB p n) (hl : p.length ≤ 100000) : PB (pint p) (n + 21) := by
  intro q hq
  unfold pint at hq
  split at hq
  · cases hq
  · rcases List.mem_cons.1 hq with rfl | hq
    · exact (Bd.of_int 0 0 (by decide)).mono (Nat.zero_le _)
    · obtain ⟨j, hj, rfl⟩ := List.mem_map.1 hq
      have hj' := List.mem_range.1 hj
      have h := bd_small (j + 1) (by omega)
      exact (hp.cf _).div h
/-! Contracts at valid polynomials. -/
/-- The value stands for the valid polynomial p of n bits. -/
def PO (w : World) (v : Value) (p : Pl) (n : Nat) : Prop := PS w v p ∧ PB p n ∧ Tr p ∧ p.length ≤ 17
theorem PO.ext {w w' : World} {v : Value} {p : Pl} {n : Nat} (h : PO w v p n) (hE : Ext w w') : PO w' v p n := ⟨h.1.ext hE, h.2⟩
theorem PO.va {w : World} {v : Value} {p : Pl} {n : Nat} (h : PO w v p n) (hW : Wd w) (hn : n + 1 ≤ KK) : VA v true w := pValid_p v p n w hW h.1 h.2.1 h.2.2.1 h.2.2.2 hn
theorem PO.mk' {w : World} {v : Value} {p : Pl} {n : Nat} (h : PS w v (ptrim p)) (hb : PB (ptrim p) n) (hl : p.length ≤ 17) : PO w v (ptrim p) n := ⟨h, hb, tr_ptrim p, Nat.le_trans (ptrim_len p) hl⟩
def RP0 (q : Pl) (w : World) : Ending → World → Prop := RetQ0 (fun W v => PS W v q) w
section
variable (v1 v2 : Value) (p r : Pl) (n m : Nat) (w : World) (hW : Wd w) (h1 : PO w v1 p n) (h2 : PO w v2 r m)
include hW h1 h2
theorem Add_p (hk : n + m + 3 ≤ KK) : Calls Tryz.prog 20 #[v1, v2] w (RP0 (ptrim (padd p r)) w) :=
  PAdd_ok v1 v2 _ w fun W hE => papply_plus v1 v2 _ W ((h1.va hW (by omega)).ext hE) ((h2.va hW (by omega)).ext hE) fun W' hE' =>
    (pplus_v v1 v2 p r n m W' ((hW.ext hE).ext hE') ((h1.1.ext hE).ext hE') ((h2.1.ext hE).ext hE') h1.2.1 h2.2.1 hk (by have := h1.2.2.2; omega) (by have := h2.2.2.2; omega)).mono fun e w' h => h
theorem Sub_p (hk : n + m + 3 ≤ KK) : Calls Tryz.prog 23 #[v1, v2] w (RP0 (ptrim (padd p (pneg r))) w) :=
  PSub_ok v1 v2 _ w fun W hE => papply_minus v1 v2 _ W ((h1.va hW (by omega)).ext hE) ((h2.va hW (by omega)).ext hE) fun W' hE' =>
    (pminus_v v1 v2 p r n m W' ((hW.ext hE).ext hE') ((h1.1.ext hE).ext hE') ((h2.1.ext hE).ext hE') h1.2.1 h2.2.1 hk (by have := h1.2.2.2; omega) (by have := h2.2.2.2; omega)).mono fun e w' h => h
theorem GCD_p (f N n' m' : Nat) (c1 : CB p n') (c2 : CB r m') (hf : r.length ≤ f) (hk : n + m + 3 ≤ KK) (hN : 2 * N + 6 ≤ KK) (hg : gok f p.length n' r.length m' N = true) : Calls Tryz.prog 29 #[v1, v2] w (RetQ0 (fun W v => ∃ d, PS W v d ∧ (GcdRel p r d ∧ CB d N)) w) :=
  PGCD_ok v1 v2 _ w fun W hE => papply_common v1 v2 _ W ((h1.va hW (by omega)).ext hE) ((h2.va hW (by omega)).ext hE) fun W' hE' =>
    (pcommon_v v1 v2 p r n' m' f N W' ((hW.ext hE).ext hE') ((h1.1.ext hE).ext hE') ((h2.1.ext hE).ext hE') ⟨h1.2.2.1, h2.2.2.1, c1, c2, by have := h1.2.2.2; omega, by have := h2.2.2.2; omega, hf, ⟨hg, hN⟩, fun d h => h⟩).mono fun e w' ⟨v, d, h1, h2, h3, h4⟩ => ⟨v, h1, ⟨d, h3, h2⟩, h4⟩
theorem Mul_lim (l1 : p ≠ []) (l2 : r ≠ []) (hl : 18 < p.length + r.length) (hk : n + m + 3 ≤ KK) : Calls Tryz.prog 25 #[v1, v2] w (RetE 15 w) := by
  have a1 := h1.va hW (by omega)
  have a2 := h2.va hW (by omega)
  obtain ⟨A, ca, rfl⟩ := h1.1.sl
  obtain ⟨B, cb, rfl⟩ := h2.1.sl
  exact PMul_lim A B ca cb _ _ w a1 a2 (by have := h1.2.2.2; omega) (by have := h2.2.2.2; omega) (List.length_pos_iff.2 l1) (List.length_pos_iff.2 l2) hl
theorem Mul_p (hl : p = [] ∨ r = [] ∨ p.length + r.length ≤ 18) (hk : 20 * (n + m + 1) + 20 ≤ KK) : Calls Tryz.prog 25 #[v1, v2] w (RP0 (ptrim (pmul p r)) w) := by
  have a1 := h1.va hW (by omega)
  have a2 := h2.va hW (by omega)
  have b1 := h1.2.2.2
  have b2 := h2.2.2.2
  have hkk : (p.length + 1) * (n + m + 1) + (n + m) + 3 ≤ KK := by
    have : (p.length + 1) * (n + m + 1) ≤ 18 * (n + m + 1) := Nat.mul_le_mul_right _ (by omega)
    omega
  have h3 : ∀ W, Ext w W → Calls Tryz.prog 56 #[.func (.func 62) #[] #[], v1, v2] W (RP0 (ptrim (pmul p r)) W) := fun W hE =>
    papply_times v1 v2 _ W (a1.ext hE) (a2.ext hE) fun W' hE' => (ptimes_v v1 v2 p r n m W' ((hW.ext hE).ext hE') ((h1.1.ext hE).ext hE') ((h2.1.ext hE).ext hE') h1.2.1 h2.2.1 h1.2.2.1 h2.2.2.1 (by omega) (by omega) hkk).mono fun e w' h => h
  obtain ⟨A, ca, rfl⟩ := h1.1.sl
  obtain ⟨B, cb, rfl⟩ := h2.1.sl
  by_cases l1 : p.length = 0
  · exact PMul_a A B ca cb _ _ _ w a1 a2 (by omega) (by omega) l1 h3
  · by_cases l2 : r.length = 0
    · exact PMul_b A B ca cb _ _ _ w a1 a2 (by omega) (by omega) (by omega) l2 h3
    · refine PMul_c A B ca cb _ _ _ w a1 a2 (by omega) (by omega) (by omega) (by omega) ?_ h3
      rcases hl with rfl | rfl | hl
      · exact absurd rfl l1
      · exact absurd rfl l2
      · exact hl
theorem Div_p (n' m' : Nat) (c1 : CB p n') (c2 : CB r m') (hr0 : r ≠ []) (hk : 2 * remB p.length n' r.length m' + n + m + 6 ≤ KK) : Calls Tryz.prog 27 #[v1, v2] w (DivP0 p r (remB p.length n' r.length m') w) := by
  have a1 := h1.va hW (by omega)
  have a2 := h2.va hW (by omega)
  have b1 := h1.2.2.2
  have b2 := h2.2.2.2
  have h3 := fun W (hE : Ext w W) => pdiv_v v1 v2 p r m' n' W (hW.ext hE) (h1.1.ext hE) (h2.1.ext hE) c1 c2 h1.2.2.1 h2.2.2.1 hr0 (by omega) (by omega)
  obtain ⟨B, cb, rfl⟩ := h2.1.sl
  exact PDiv_ok v1 B cb _ p r _ w (List.length_pos_iff.2 hr0) (by omega) a1 a2 h3
end
theorem Div_p0 (v1 v2 : Value) (p : Pl) (n : Nat) (w : World) (hW : Wd w) (h1 : PO w v1 p n) (h2 : PS w v2 []) (hk : n + 1 ≤ KK) : Calls Tryz.prog 27 #[v1, v2] w (RetE2 16 w) := by
  have a1 := h1.va hW (by omega)
  have a2 : VA v2 true w := pValid_p v2 [] 0 w hW h2 (PB.nil 0) tr_nil (Nat.zero_le _) (by omega)
  obtain ⟨B, cb, rfl⟩ := h2.sl
  exact PDiv_zero v1 B cb w a1 a2
section
variable (v : Value) (p : Pl) (n : Nat) (w : World) (hW : Wd w) (h : PO w v p n)
include hW h
theorem Eval_p (X : Rat) (m : Nat) (hX : Bd X m) (hk : 20 * (m + n + 1) + 20 ≤ KK) : Calls Tryz.prog 31 #[v, rtx X] w (RetR w (pev p X)) := by
  have a1 := h.va hW (by omega)
  have b1 := h.2.2.2
  obtain ⟨A, c, rfl⟩ := h.1.sl
  have hh := eval_some A c p X p.length n m w (Lib.hid rfl) (by omega) hW h.1 h.2.1 hX (by
    have : p.length * (m + n + 1) ≤ 17 * (m + n + 1) := Nat.mul_le_mul_right _ b1
    omega) a1 (fun W hE => rValid_q X m W (hW.ext hE) hX (by omega))
  rwa [hor_pev X p h.2.1 (by omega)] at hh
theorem Derive_p (hk : n + 23 ≤ KK) : Calls Tryz.prog 33 #[v] w (RP0 (pder p) w) := by
  have a1 := h.va hW (by omega)
  have b1 := h.2.2.2
  obtain ⟨A, c, rfl⟩ := h.1.sl
  exact derive_ok A c _ n p w (Lib.hid rfl) (by omega) hW h.1 a1 h.2.1 hk
theorem Integrate_p (hl : p.length ≤ 16) (hk : n + 23 ≤ KK) : Calls Tryz.prog 35 #[v] w (RP0 (pint p) w) := by
  have a1 := h.va hW (by omega)
  by_cases h0 : p = []
  · subst h0
    obtain ⟨A, c, rfl⟩ := h.1.sl
    exact integrate_nil A c w a1
  · obtain ⟨A, c, rfl⟩ := h.1.sl
    exact integrate_ok A c _ n p w (Lib.hid rfl) (List.length_pos_iff.2 h0) hl hW h.1 a1 h.2.1 hk
theorem Integrate_lim (hl : 16 < p.length) (hk : n + 23 ≤ KK) : Calls Tryz.prog 35 #[v] w (RetE 15 w) := by
  have a1 := h.va hW (by omega)
  have b1 := h.2.2.2
  obtain ⟨A, c, rfl⟩ := h.1.sl
  exact integrate_lim A c _ w hl (by omega) a1
theorem Shift_p (X : Rat) (m : Nat) (hX : Bd X m) (hm : 1 ≤ m) (hk : 40 * (sfB n m 17 + m + n + 2) ≤ KK) : Calls Tryz.prog 37 #[v, rtx X] w (RP0 (pshf X p) w) := by
  have a1 := h.va hW (by omega)
  have b1 := h.2.2.2
  obtain ⟨A, c, rfl⟩ := h.1.sl
  have hh := shift_some A c p X p.length n m w (Lib.hid rfl) (by omega) hW h.1 h.2.1 hX hm (by
    have e1 : sfB n m p.length ≤ sfB n m 17 := sfB_mono b1
    have e2 : (2 * p.length + 1) * (sfB n m p.length + m + 1) ≤ 35 * (sfB n m 17 + m + 1) := Nat.mul_le_mul (by omega) (by omega)
    omega) a1 (fun W hE => rValid_q X m W (hW.ext hE) hX (by omega))
  rwa [shf_pshf X p h.2.1 (by omega)] at hh
theorem Enclose_p (I1 I2 : Rat) (m : Nat) (h1 : Bd I1 m) (h2 : Bd I2 m) (hle : I1 ≤ I2) (hk : 40 * (m + n + 1) + 40 ≤ KK) : Calls Tryz.prog 39 #[v, .agg #[rtx I1, rtx I2]] w fun e w' => e = .returned (.tuple #[IQ (penc (I1, I2) p), .int .i64 0]) ∧ Ext w w' := by
  have a1 := h.va hW (by omega)
  have b1 := h.2.2.2
  obtain ⟨A, c, rfl⟩ := h.1.sl
  have hh := enclose_some A c p I1 I2 p.length n m w (Lib.hid rfl) (by omega) hW h.1 h.2.1 h1 h2 hle (by
    have : p.length * (m + n + 1) ≤ 17 * (m + n + 1) := Nat.mul_le_mul_right _ b1
    omega) a1 (fun W hE => (iValid_q I1 I2 m m W (hW.ext hE) h1 h2 (by omega)).mono fun e w' h => by rw [decide_eq_true hle] at h; exact h)
  rwa [enc_penc (I1, I2) p h.2.1 (by omega)] at hh
end
end Go.Proofs.YtbldlibijojbjaaGreatDoor.GB

namespace Go.Proofs.YtbldlibijojbjaaGreatDoor.GB
set_option linter.unusedVariables false
set_option linter.unusedSimpArgs false
open Go
/-! Derivatives and integrals of lists of numbers. -/
theorem cf_pder (p : Pl) (i : Nat) : cf (pder p) i = cf p (i + 1) * (((i + 1 : Nat) : Int) : Rat) := by
  unfold pder
  rw [cf_range]
  split
  · rfl
  · rw [cf_ge (p := p) (i := i + 1) (by omega)]; grind
theorem pder_len (p : Pl) : (pder p).length = p.length - 1 := by simp [pder]
theorem nz (i : Nat) : (((i + 1 : Nat) : Int) : Rat) ≠ 0 := by
  intro e
  have : ((i + 1 : Nat) : Int) = 0 := by exact_mod_cast e
  omega
theorem tr_of_lead {p : Pl} (h : p ≠ [] → cf p (p.length - 1) ≠ 0) : Tr p := by
  intro e
  have hne : p ≠ [] := by intro h0; subst h0; cases e
  apply h hne
  rw [List.getLast?_eq_getElem?] at e
  simp only [cf, List.getD_eq_getElem?_getD, e]; rfl
theorem pder_tr {p : Pl} (tp : Tr p) : Tr (pder p) := by
  apply tr_of_lead
  intro hne
  have hl : 0 < p.length - 1 := by rw [← pder_len]; exact List.length_pos_iff.2 hne
  have hp : p ≠ [] := by intro e; subst e; simp at hl
  rw [cf_pder, pder_len]
  have e1 : p.length - 1 - 1 + 1 = p.length - 1 := by omega
  have h1 := tr_lead tp hp
  have h2 := nz (p.length - 1 - 1)
  rw [e1] at h2 ⊢
  intro e
  rcases Rat.mul_eq_zero.1 e with h | h
  · exact h1 h
  · exact h2 h
theorem cf_pint {p : Pl} (hne : p ≠ []) (i : Nat) : cf (pint p) (i + 1) = cf p i / (((i + 1 : Nat) : Int) : Rat) := by
  unfold pint
  rw [if_neg hne]
  show cf ((List.range p.length).map fun j => cf p j / (((j + 1 : Nat) : Int) : Rat)) i = _
  rw [cf_range]
  split
  · rfl
  · rw [cf_ge (p := p) (i := i) (by omega)]; grind
theorem pint_len (p : Pl) : (pint p).length = if p = [] then 0 else p.length + 1 := by
  unfold pint
  split
  · rfl
  · simp
theorem pint_tr {p : Pl} (tp : Tr p) : Tr (pint p) := by
  by_cases hp : p = []
  · subst hp; exact tr_nil
  · apply tr_of_lead
    intro _
    have hl := List.length_pos_iff.2 hp
    obtain ⟨k, hk⟩ : ∃ k, p.length = k + 1 := ⟨p.length - 1, by omega⟩
    rw [pint_len, if_neg hp, show p.length + 1 - 1 = k + 1 by omega, cf_pint hp]
    have h1 := tr_lead tp hp
    rw [show p.length - 1 = k by omega] at h1
    have h2 := nz k
    intro e
    apply h1
    have : cf p k = cf p k / (((k + 1 : Nat) : Int) : Rat) * (((k + 1 : Nat) : Int) : Rat) := by grind
    rw [this, e]; grind
theorem pder_pint (p : Pl) : pder (pint p) = p := by
  by_cases hp : p = []
  · subst hp; rfl
  · apply pl_ext
    · rw [pder_len, pint_len, if_neg hp]; omega
    · intro i
      rw [cf_pder, cf_pint hp]
      have h2 := nz i
      grind
theorem pev_pint0 (p : Pl) : pev (pint p) 0 = 0 := by
  unfold pint
  split
  · rfl
  · show 0 + 0 * _ = _; grind
theorem D_psc (x : Rat) (p : Pl) : PE (pder (psc x p)) (psc x (pder p)) := fun i => by rw [cf_pder, cf_psc, cf_psc, cf_pder]; grind
theorem D_padd (a b : Pl) : PE (pder (padd a b)) (padd (pder a) (pder b)) := fun i => by rw [cf_pder, cf_padd, cf_padd, cf_pder, cf_pder]; grind
theorem nz_succ (i : Nat) : (((i + 1 + 1 : Nat) : Int) : Rat) = (((i + 1 : Nat) : Int) : Rat) + 1 := by push_cast; rfl
theorem D_cons (x : Rat) (p : Pl) : PE (pder (x :: p)) (padd p (0 :: pder p)) := fun i => by
  rw [cf_pder, cf_padd]
  cases i with
  | zero =>
    show cf p 0 * _ = cf p 0 + 0
    have : (((0 + 1 : Nat) : Int) : Rat) = 1 := rfl
    rw [this]; grind
  | succ i =>
    show cf p (i + 1) * _ = cf p (i + 1) + cf (pder p) i
    rw [cf_pder, nz_succ]; grind
theorem D_congr {a b : Pl} (h : PE a b) : PE (pder a) (pder b) := fun i => by rw [cf_pder, cf_pder, h]
/-- The product rule. -/
theorem D_mul (p r : Pl) : PE (pder (pmul p r)) (padd (pmul (pder p) r) (pmul p (pder r))) := by
  induction p with
  | nil =>
    intro i
    have e : pmul [] r = [] := rfl
    have e2 : pder [] = [] := rfl
    have e3 : pmul [] (pder r) = [] := rfl
    rw [cf_padd, e2, e, e3, e2]; show (0 : Rat) = 0 + 0; grind
  | cons x p ih =>
    have h1 : PE (pder (pmul (x :: p) r)) (padd (psc x (pder r)) (padd (pmul p r) (0 :: pder (pmul p r)))) :=
      (D_padd (psc x r) (0 :: pmul p r)).trans (PE.add (D_psc x r) (D_cons 0 (pmul p r)))
    have h2 : PE (pmul (pder (x :: p)) r) (padd (pmul p r) (0 :: pmul (pder p) r)) :=
      ((D_cons x p).mul_l r).trans ((pmul_add_l p (0 :: pder p) r).trans (PE.add (PE.rfl' _) (pmul_shift_l (pder p) r)))
    intro i
    rw [h1 i, cf_padd, cf_padd, cf_padd, h2 i, cf_padd]
    show _ = _ + cf (padd (psc x (pder r)) (0 :: pmul p (pder r))) i
    rw [cf_padd]
    cases i with
    | zero => show _ + (_ + 0) = _ + 0 + (_ + 0); grind
    | succ i =>
      show cf (psc x (pder r)) (i + 1) + (cf (pmul p r) (i + 1) + cf (pder (pmul p r)) i) = cf (pmul p r) (i + 1) + cf (pmul (pder p) r) i + (cf (psc x (pder r)) (i + 1) + cf (pmul p (pder r)) i)
      rw [ih i, cf_padd]; grind
theorem D_rule {p r : Pl} : pder (ptrim (pmul p r)) = ptrim (padd (ptrim (pmul (pder p) r)) (ptrim (pmul p (pder r)))) := by
  refine tr_ext (pder_tr (tr_ptrim _)) (tr_ptrim _) ?_
  exact (D_congr (cf_ptrim _)).trans ((D_mul p r).trans (((PE.add (cf_ptrim _) (cf_ptrim _)).symm).trans (cf_ptrim _).symm))
end Go.Proofs.YtbldlibijojbjaaGreatDoor.GB
