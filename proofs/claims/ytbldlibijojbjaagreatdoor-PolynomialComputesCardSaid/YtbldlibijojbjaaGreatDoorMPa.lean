import Derived.Test.YtbldlibijojbjaaGreatDoorMPq
import Derived.Test.YtbldlibijojbjaaGreatDoorMGc
import Derived.Test.YtbldlibijojbjaaGreatDoorMTy
import Derived.Deep.AppendLies
namespace Go.Proofs.YtbldlibijojbjaaGreatDoor.GB
set_option linter.unusedVariables false
set_option linter.unusedSimpArgs false
open Go.RowKit Go.Shelf
attribute [local go_sem ↓] Go.wp_at_zero Go.wp_at_succ

set_option maxHeartbeats 1000000 in
set_option maxRecDepth 100000 in
theorem PMul_lim (A B : Option Addr) (ca cb pn rn : Nat) (w : World) (h1 : VA (.slice A pn ca) true w) (h2 : VA (.slice B rn cb) true w) (l1 : pn ≤ 100000) (l2 : rn ≤ 100000) (p0 : 0 < pn) (r0 : 0 < rn) (hl : 18 < pn + rn) :
    Calls Tryz.prog 25 #[.slice A pn ca, .slice B rn cb] w (RetE 15 w) := by
  have a1 : (16 : Int) < (pn : Int) + (rn : Int) - 2 := by omega
  go_enter Tryz.func25, Tryz.ntmps25
  go_wp2_with fail
  refine (h1 _ (Ext.rfl' _)).mono ?_
  rintro e w1 ⟨rfl, E1⟩
  have HE1 := Lib.hid E1
  clear E1
  go_wp2_with fail
  refine (h2 _ HE1.out).mono ?_
  rintro e w2 ⟨rfl, E2⟩
  have HE2 := Lib.hid (HE1.out.tr E2)
  clear E2
  go_wp2_with fail
  go_ret2
  exact ⟨rfl, HE2.out⟩
set_option maxHeartbeats 1000000 in
set_option maxRecDepth 100000 in
theorem PMul_a (A B : Option Addr) (ca cb pn rn : Nat) (Q : World → Value → Prop) (w : World) (h1 : VA (.slice A pn ca) true w) (h2 : VA (.slice B rn cb) true w) (l1 : pn ≤ 100000) (l2 : rn ≤ 100000) (p0 : pn = 0)
    (h3 : ∀ W, Ext w W → Calls Tryz.prog 56 #[.func (.func 62) #[] #[], .slice A pn ca, .slice B rn cb] W (RetQ0 Q W)) :
    Calls Tryz.prog 25 #[.slice A pn ca, .slice B rn cb] w (RetQ0 Q w) := by
  subst p0
  go_enter Tryz.func25, Tryz.ntmps25
  go_wp2_with fail
  refine (h1 _ (Ext.rfl' _)).mono ?_
  rintro e w1 ⟨rfl, E1⟩
  have HE1 := Lib.hid E1
  clear E1
  go_wp2_with fail
  refine (h2 _ HE1.out).mono ?_
  rintro e w2 ⟨rfl, E2⟩
  have HE2 := Lib.hid (HE1.out.tr E2)
  clear E2
  go_wp2_with fail
  refine (h3 _ HE2.out).mono ?_
  rintro e w3 ⟨v, rfl, hv, E3⟩
  have HV := Lib.hid hv
  have HE3 := Lib.hid (HE2.out.tr E3)
  clear E3 hv h1 h2 h3
  go_wp2_with fail
  go_ret2
  exact ⟨_, rfl, HV.out, HE3.out⟩
set_option maxHeartbeats 1000000 in
set_option maxRecDepth 100000 in
theorem PMul_b (A B : Option Addr) (ca cb pn rn : Nat) (Q : World → Value → Prop) (w : World) (h1 : VA (.slice A pn ca) true w) (h2 : VA (.slice B rn cb) true w) (l1 : pn ≤ 100000) (l2 : rn ≤ 100000) (p0 : 0 < pn) (r0 : rn = 0)
    (h3 : ∀ W, Ext w W → Calls Tryz.prog 56 #[.func (.func 62) #[] #[], .slice A pn ca, .slice B rn cb] W (RetQ0 Q W)) :
    Calls Tryz.prog 25 #[.slice A pn ca, .slice B rn cb] w (RetQ0 Q w) := by
  subst r0
  go_enter Tryz.func25, Tryz.ntmps25
  go_wp2_with fail
  refine (h1 _ (Ext.rfl' _)).mono ?_
  rintro e w1 ⟨rfl, E1⟩
  have HE1 := Lib.hid E1
  clear E1
  go_wp2_with fail
  refine (h2 _ HE1.out).mono ?_
  rintro e w2 ⟨rfl, E2⟩
  have HE2 := Lib.hid (HE1.out.tr E2)
  clear E2
  go_wp2_with fail
  refine (h3 _ HE2.out).mono ?_
  rintro e w3 ⟨v, rfl, hv, E3⟩
  have HV := Lib.hid hv
  have HE3 := Lib.hid (HE2.out.tr E3)
  clear E3 hv h1 h2 h3
  go_wp2_with fail
  go_ret2
  exact ⟨_, rfl, HV.out, HE3.out⟩
set_option maxHeartbeats 1000000 in
set_option maxRecDepth 100000 in
theorem PMul_c (A B : Option Addr) (ca cb pn rn : Nat) (Q : World → Value → Prop) (w : World) (h1 : VA (.slice A pn ca) true w) (h2 : VA (.slice B rn cb) true w) (l1 : pn ≤ 100000) (l2 : rn ≤ 100000) (p0 : 0 < pn) (r0 : 0 < rn) (hl : pn + rn ≤ 18)
    (h3 : ∀ W, Ext w W → Calls Tryz.prog 56 #[.func (.func 62) #[] #[], .slice A pn ca, .slice B rn cb] W (RetQ0 Q W)) :
    Calls Tryz.prog 25 #[.slice A pn ca, .slice B rn cb] w (RetQ0 Q w) := by
  have a1 : ¬ ((16 : Int) < (pn : Int) + (rn : Int) - 2) := by omega
  go_enter Tryz.func25, Tryz.ntmps25
  go_wp2_with fail
  refine (h1 _ (Ext.rfl' _)).mono ?_
  rintro e w1 ⟨rfl, E1⟩
  have HE1 := Lib.hid E1
  clear E1
  go_wp2_with fail
  refine (h2 _ HE1.out).mono ?_
  rintro e w2 ⟨rfl, E2⟩
  have HE2 := Lib.hid (HE1.out.tr E2)
  clear E2
  go_wp2_with fail
  refine (h3 _ HE2.out).mono ?_
  rintro e w3 ⟨v, rfl, hv, E3⟩
  have HV := Lib.hid hv
  have HE3 := Lib.hid (HE2.out.tr E3)
  clear E3 hv h1 h2 h3
  go_wp2_with fail
  go_ret2
  exact ⟨_, rfl, HV.out, HE3.out⟩
set_option maxHeartbeats 1000000 in
set_option maxRecDepth 100000 in
theorem PMul_n1 (v1 v2 : Value) (k : Int) (w : World) (h1 : VA v1 false w) (h3 : ∀ W, Ext w W → Calls Tryz.prog 56 #[.func (.func 62) #[] #[], v1, v2] W (RetE k W)) :
    Calls Tryz.prog 25 #[v1, v2] w (RetE k w) := by
  go_enter Tryz.func25, Tryz.ntmps25
  go_wp2_with fail
  refine (h1 _ (Ext.rfl' _)).mono ?_
  rintro e w1 ⟨rfl, E1⟩
  have HE1 := Lib.hid E1
  clear E1
  go_wp2_with fail
  refine (h3 _ HE1.out).mono ?_
  rintro e w3 ⟨rfl, E3⟩
  have HE3 := Lib.hid (HE1.out.tr E3)
  clear E3 h3
  go_wp2_with fail
  go_ret2
  exact ⟨rfl, HE3.out⟩
set_option maxHeartbeats 1000000 in
set_option maxRecDepth 100000 in
theorem PMul_n2 (v1 v2 : Value) (k : Int) (w : World) (h1 : VA v1 true w) (h2 : VA v2 false w) (h3 : ∀ W, Ext w W → Calls Tryz.prog 56 #[.func (.func 62) #[] #[], v1, v2] W (RetE k W)) :
    Calls Tryz.prog 25 #[v1, v2] w (RetE k w) := by
  go_enter Tryz.func25, Tryz.ntmps25
  go_wp2_with fail
  refine (h1 _ (Ext.rfl' _)).mono ?_
  rintro e w1 ⟨rfl, E1⟩
  have HE1 := Lib.hid E1
  clear E1
  go_wp2_with fail
  refine (h2 _ HE1.out).mono ?_
  rintro e w2 ⟨rfl, E2⟩
  have HE2 := Lib.hid (HE1.out.tr E2)
  clear E2
  go_wp2_with fail
  refine (h3 _ HE2.out).mono ?_
  rintro e w3 ⟨rfl, E3⟩
  have HE3 := Lib.hid (HE2.out.tr E3)
  clear E3 h3
  go_wp2_with fail
  go_ret2
  exact ⟨rfl, HE3.out⟩
def RetE2 (k : Int) (w : World) (e : Ending) (w' : World) : Prop := e = .returned (.tuple #[.slice none 0 0, .slice none 0 0, .int .i64 k]) ∧ Ext w w'
def DivP0 (p r : Pl) (B : Nat) (w : World) (e : Ending) (w' : World) : Prop := ∃ v1 v2 q t, e = .returned (.tuple #[v1, v2, .int .i64 0]) ∧ DivRel p r q t ∧ (CB t B ∧ PB q B) ∧ PS w' v1 q ∧ PS w' v2 t ∧ Ext w w'
set_option maxHeartbeats 1000000 in
set_option maxRecDepth 100000 in
theorem PDiv_n1 (v1 v2 : Value) (w : World) (h1 : VA v1 false w) :
    Calls Tryz.prog 27 #[v1, v2] w (RetE2 1 w) := by
  go_enter Tryz.func27, Tryz.ntmps27
  go_wp2_with fail
  refine (h1 _ (Ext.rfl' _)).mono ?_
  rintro e w1 ⟨rfl, E1⟩
  have HE1 := Lib.hid E1
  clear E1
  go_wp2_with fail
  go_ret3
  exact ⟨rfl, HE1.out⟩
set_option maxHeartbeats 1000000 in
set_option maxRecDepth 100000 in
theorem PDiv_n2 (v1 v2 : Value) (w : World) (h1 : VA v1 true w) (h2 : VA v2 false w) :
    Calls Tryz.prog 27 #[v1, v2] w (RetE2 1 w) := by
  go_enter Tryz.func27, Tryz.ntmps27
  go_wp2_with fail
  refine (h1 _ (Ext.rfl' _)).mono ?_
  rintro e w1 ⟨rfl, E1⟩
  have HE1 := Lib.hid E1
  clear E1
  go_wp2_with fail
  refine (h2 _ HE1.out).mono ?_
  rintro e w2 ⟨rfl, E2⟩
  have HE2 := Lib.hid (HE1.out.tr E2)
  clear E2
  go_wp2_with fail
  go_ret3
  exact ⟨rfl, HE2.out⟩
set_option maxHeartbeats 1000000 in
set_option maxRecDepth 100000 in
theorem PDiv_zero (v1 : Value) (B : Option Addr) (cb : Nat) (w : World) (h1 : VA v1 true w) (h2 : VA (.slice B 0 cb) true w) :
    Calls Tryz.prog 27 #[v1, .slice B 0 cb] w (RetE2 16 w) := by
  go_enter Tryz.func27, Tryz.ntmps27
  go_wp2_with fail
  refine (h1 _ (Ext.rfl' _)).mono ?_
  rintro e w1 ⟨rfl, E1⟩
  have HE1 := Lib.hid E1
  clear E1
  go_wp2_with fail
  refine (h2 _ HE1.out).mono ?_
  rintro e w2 ⟨rfl, E2⟩
  have HE2 := Lib.hid (HE1.out.tr E2)
  clear E2
  go_wp2_with fail
  go_ret3
  exact ⟨rfl, HE2.out⟩
set_option maxHeartbeats 1000000 in
set_option maxRecDepth 100000 in
theorem PDiv_ok (v1 : Value) (B : Option Addr) (cb rn : Nat) (p r : Pl) (K : Nat) (w : World) (r0 : 0 < rn) (l2 : rn ≤ 100000) (h1 : VA v1 true w) (h2 : VA (.slice B rn cb) true w)
    (h3 : ∀ W, Ext w W → Calls Tryz.prog 64 #[v1, .slice B rn cb] W (DivP p r K W)) :
    Calls Tryz.prog 27 #[v1, .slice B rn cb] w (DivP0 p r K w) := by
  have r0' : ((rn : Int) == 0) = false := by rw [beq_eq_false_iff_ne]; omega
  go_enter Tryz.func27, Tryz.ntmps27
  go_wp2_with fail
  refine (h1 _ (Ext.rfl' _)).mono ?_
  rintro e w1 ⟨rfl, E1⟩
  have HE1 := Lib.hid E1
  clear E1
  go_wp2_with fail
  refine (h2 _ HE1.out).mono ?_
  rintro e w2 ⟨rfl, E2⟩
  have HE2 := Lib.hid (HE1.out.tr E2)
  clear E2
  go_wp2_with fail
  refine (h3 _ HE2.out).mono ?_
  rintro e w3 ⟨v3, v4, q, t, rfl, hd, hb, hq, ht, E3⟩
  have HD := Lib.hid hd
  have HB := Lib.hid hb
  have HQ := Lib.hid hq
  have HT := Lib.hid ht
  have HE3 := Lib.hid (HE2.out.tr E3)
  clear E3 hd hb hq ht h1 h2 h3
  go_wp2_with fail
  go_ret3
  exact ⟨_, _, q, t, rfl, HD.out, HB.out, HQ.out, HT.out, HE3.out⟩
set_option maxHeartbeats 1000000 in
set_option maxRecDepth 100000 in
theorem PMake_no (A : Option Addr) (c n : Nat) (l : List ByteArray) (w : World) (hn : n ≤ 1000000) (hl : n ≤ 17) (hcl : ∀ W, Ext w W → Calls Tryz.prog 14 #[.slice A n c] W fun e w' => ∃ v, e = .returned v ∧ SlS w' v l ∧ Ext W w') (hval : ∀ W v, Ext w W → SlS W v (tzS l) → VA v false W) :
    Calls Tryz.prog 13 #[.slice A n c] w (RetE 1 w) := by
  go_enter Tryz.func13, Tryz.ntmps13
  go_wp2_with fail
  refine (hcl _ (Ext.rfl' _)).mono ?_
  rintro e w1 ⟨v1, rfl, hv1, E1⟩
  have HE1 := Lib.hid E1
  have HV1 := Lib.hid hv1
  clear E1 hv1 hcl
  go_wp2_with fail
  refine (ptrimS_v v1 l _ HV1.out).mono ?_
  rintro e w2 ⟨v2, rfl, hv2, rfl⟩
  have HV2 := Lib.hid hv2
  clear hv2
  go_wp2_with fail
  refine (hval _ _ HE1.out HV2.out _ (Ext.rfl' _)).mono ?_
  rintro e w3 ⟨rfl, E3⟩
  have HE3 := Lib.hid (HE1.out.tr E3)
  have HV3 := Lib.hid (HV2.out.ext E3)
  clear E3 hval
  go_wp2_with fail
  go_ret2
  exact ⟨rfl, HE3.out⟩
set_option maxHeartbeats 1000000 in
set_option maxRecDepth 100000 in
theorem PMake_ok (A : Option Addr) (c n : Nat) (l : List ByteArray) (w : World) (hn : n ≤ 1000000) (hl : n ≤ 17) (hcl : ∀ W, Ext w W → Calls Tryz.prog 14 #[.slice A n c] W fun e w' => ∃ v, e = .returned v ∧ SlS w' v l ∧ Ext W w') (hval : ∀ W v, Ext w W → SlS W v (tzS l) → VA v true W) :
    Calls Tryz.prog 13 #[.slice A n c] w (RetQ0 (fun W v => SlS W v (tzS l)) w) := by
  go_enter Tryz.func13, Tryz.ntmps13
  go_wp2_with fail
  refine (hcl _ (Ext.rfl' _)).mono ?_
  rintro e w1 ⟨v1, rfl, hv1, E1⟩
  have HE1 := Lib.hid E1
  have HV1 := Lib.hid hv1
  clear E1 hv1 hcl
  go_wp2_with fail
  refine (ptrimS_v v1 l _ HV1.out).mono ?_
  rintro e w2 ⟨v2, rfl, hv2, rfl⟩
  have HV2 := Lib.hid hv2
  clear hv2
  go_wp2_with fail
  refine (hval _ _ HE1.out HV2.out _ (Ext.rfl' _)).mono ?_
  rintro e w3 ⟨rfl, E3⟩
  have HE3 := Lib.hid (HE1.out.tr E3)
  have HV3 := Lib.hid (HV2.out.ext E3)
  clear E3 hval
  go_wp2_with fail
  go_ret2
  exact ⟨_, rfl, HV3.out, HE3.out⟩
end Go.Proofs.YtbldlibijojbjaaGreatDoor.GB

namespace Go.Proofs.YtbldlibijojbjaaGreatDoor.GB
set_option linter.unusedVariables false
set_option linter.unusedSimpArgs false
open Go.RowKit Go.Shelf
attribute [local go_sem] Oper.semAt_some

/-- A place and its number. -/
abbrev NQ (b : Nat) := { x : Nat × Rat // x.1 < 1099511627776 ∧ Bd x.2 b }
/-- The numbers of p, the last first. -/
noncomputable def pdn (b : Nat) (p : Pl) (k : Nat) : List (NQ b) := open Classical in (List.range k).map fun j => if h : p.length - 1 - j < 1099511627776 ∧ Bd (cf p (p.length - 1 - j)) b then ⟨(p.length - 1 - j, cf p (p.length - 1 - j)), h⟩ else ⟨(0, 0), by decide, (Bd.of_int 0 0 (by decide)).mono (Nat.zero_le _)⟩
theorem pdn_succ {b : Nat} {p : Pl} {k m : Nat} (hm : m + k + 1 = p.length) (h1 : m < 1099511627776) (h2 : Bd (cf p m) b) : pdn b p (k + 1) = pdn b p k ++ [⟨(m, cf p m), h1, h2⟩] := by
  have e : p.length - 1 - k = m := by omega
  simp only [pdn, List.range_succ, List.map_append, List.map_cons, List.map_nil]
  congr 2
  rw [dif_pos (show p.length - 1 - k < 1099511627776 ∧ Bd (cf p (p.length - 1 - k)) b from by rw [e]; exact ⟨h1, h2⟩)]
  apply Subtype.ext
  show (p.length - 1 - k, cf p (p.length - 1 - k)) = (m, cf p m)
  rw [e]
theorem pdn_length (b : Nat) (p : Pl) (k : Nat) : (pdn b p k).length = k := by simp [pdn]
/-- The places are in order. -/
theorem pdn_prefix {b : Nat} {p : Pl} (hp : PB p b) (k : Nat) (hk : k ≤ p.length) (hl : p.length ≤ 100000) : (pdn b p k).map (fun x => x.1.2) = (p.drop (p.length - k)).reverse := by
  induction k with
  | zero => simp [pdn]
  | succ k ih =>
    obtain ⟨m, hm⟩ : ∃ m, m + k + 1 = p.length := ⟨p.length - k - 1, by omega⟩
    rw [pdn_succ hm (by omega) (hp.cf m), List.map_append, ih (by omega)]
    have e1 : p.length - (k + 1) = m := by omega
    have e2 : p.length - k = m + 1 := by omega
    rw [e1, e2, List.drop_eq_getElem_cons (by omega : m < p.length), List.reverse_cons]
    have e3 : cf p m = p[m] := cf_lt (by omega)
    show _ ++ [cf p m] = _
    rw [e3]

set_option maxHeartbeats 2000000 in
set_option maxRecDepth 100000 in
/-- The closure of slices.Backward. -/
theorem pback1_in (F : Fence) (n : Nat) (h8 : F.fn 103) (hro : F.round = none) (hn : 1 ≤ n) (l Bs s0 : Nat) (A : Option Addr) (cap : Nat) (p : Pl) (zl : Nat) (HZ : Hid (zl = p.length)) (hlen : zl ≤ 100000) (b : Nat) (hp : PB p b) (J Jx : List (NQ b) → World → Prop)
    (hY : ∀ pre x W, J pre W → pre.length < zl → YieldAt F (n - 1) Tryz.prog l #[.int .i64 (x.1.1 : Int), rtx x.1.2] W fun e W' =>
      (e = .returned (.bool true) ∧ J (pre ++ [x]) W' ∧ Kps s0 Bs W W') ∨ (e = .returned (.bool false) ∧ Jx (pre ++ [x]) W'))
    (W : World) (hBs : W.cell? ⟨Bs, 0, none⟩ = some (.slice A zl cap)) (w0 : World) (hw0 : w0.heap.size = s0) (hEw : Below s0 w0 W) (hR : PS w0 (.slice A zl cap) p) (h0 : J [] W) :
    CallsIn F n Tryz.prog 103 #[.func (.yield l) #[] #[], .pointer (some ⟨Bs, 0, none⟩)] W fun e W' => (∃ v, e = .returned v) ∧
      ((∃ ys, ys = pdn b p zl ∧ J ys W') ∨ (∃ pre, True ∧ Jx pre W')) := by
  have HR := Lib.hid hR
  clear hR
  refine callsIn_of_wp Tryz.func103 rfl h8 ?_ hro
  simp only [Tryz.ntmps103, List.size_toArray, List.length_cons, List.length_nil, Nat.reduceAdd, Nat.reduceSub, Array.replicate_succ, Array.replicate_zero, List.push_toArray, List.append_toArray, List.nil_append, List.cons_append]
  gi_wp2
  gi_loopw [3] (fun i wr => ∃ (k : Nat) (z : Int), k ≤ zl ∧ i = .int .i64 z ∧ z = (zl : Int) - 1 - k ∧ J (pdn b p k) wr ∧ Kps s0 Bs W wr)
    (fun i _ => (intOf i + 1).toNat)
  case atStart => exact ⟨0, _, Nat.zero_le _, rfl, by omega, h0, Kps.refl _ _ _⟩
  case round =>
    obtain ⟨k, z, hk, rfl, hz1, hJs, hnx⟩ := hrel
    have hbox := hnx.2 _ hBs
    by_cases hlt : k < zl
    · obtain ⟨m, rfl⟩ : ∃ m : Nat, z = m := ⟨z.toNat, by omega⟩
      have hm : m + k + 1 = zl := by omega
      have hE2 : Ext w0 wr := by unfold Ext; rw [hw0]; exact hEw.trans hnx.1
      obtain ⟨-, -, -, hcl⟩ := (HR.out.ext hE2).cell
      obtain ⟨g, off, rfl, hg, hc⟩ := hcl m (by rw [← HZ.out]; omega)
      clear hcl
      have hbx := hp.cf m
      generalize hgx : cf p m = x at hc hbx
      have hml : m < zl := by omega
      have hmb : m < 1099511627776 := by omega
      obtain ⟨fn, tmps, assign, body, hy, hR⟩ := hY _ ⟨(m, x), hmb, hbx⟩ wr hJs (by rw [pdn_length]; exact hlt)
      dsimp only at hy
      have HM := Lib.hid hm
      have HGX := Lib.hid hgx
      have HN := Lib.hid hnx
      clear hz1 hm hgx hnx hE2
      gi_wp2
      refine hR.mono ?_
      rintro e W3 (⟨rfl, hJ3, hk3⟩ | ⟨rfl, hJx3⟩)
      · gi_wp2
        go_roundw
        case rel => exact ⟨k + 1, _, by omega, rfl, by have := HM.out; omega, by rw [pdn_succ (by rw [← HZ.out]; exact HM.out) (by omega) (hp.cf m)]; have := HGX.out; subst this; exact hJ3, HN.out.t hk3⟩
        case measure => simp [intOf]
      · gi_wp2
        refine bodyPost_ret (results_none rfl _ _ _) rfl ?_
        exact ⟨⟨_, rfl⟩, .inr ⟨_, trivial, hJx3⟩⟩
    · obtain rfl : k = zl := by omega
      obtain rfl : z = -1 := by omega
      gi_wp2
      go_end0
      exact ⟨⟨_, rfl⟩, .inl ⟨_, rfl, hJs⟩⟩

set_option maxHeartbeats 1000000 in
theorem pbackward_in (F : Fence) (n : Nat) (h5 : F.fn 68) (hro : F.round = none) (a : Option Addr) (len cap : Nat) (w : World) :
    CallsIn F n Tryz.prog 68 #[.slice a len cap] w fun e w' => e = .returned (.func (.func 103) #[] #[.pointer (some ⟨w.heap.size, 0, none⟩)]) ∧ w' = w.alloc (.cells #[.slice a len cap] 25) := by
  refine callsIn_of_wp Tryz.func68 rfl h5 ?_ hro
  simp only [Tryz.ntmps68, List.size_toArray, List.length_cons, List.length_nil, Nat.reduceAdd, Nat.reduceSub, Array.replicate_succ, Array.replicate_zero, List.push_toArray, List.append_toArray, List.nil_append, List.cons_append]
  gi_wp2
  go_ret
  exact ⟨rfl, rfl⟩

theorem pback_stops (F : Fence) (n : Nat) (h8 : F.fn 103) (hro : F.round = none) (hn : 1 ≤ n) (Bs s0 : Nat) (A : Option Addr) (cap : Nat) (p : Pl) (zl : Nat) (HZ : Hid (zl = p.length)) (hlen : zl ≤ 100000) (b : Nat) (hp : PB p b)
    (w0 w : World) (hw0 : w0.heap.size = s0) (hE : Below s0 w0 w) (hBs : Bs < w.heap.size) (hR : PS w0 (.slice A zl cap) p) (hc : w.cell? ⟨Bs, 0, none⟩ = some (.slice A zl cap)) :
    SeqStopsK F n Tryz.prog 103 #[.pointer (some ⟨Bs, 0, none⟩)] (fun x : NQ b => #[Value.int .i64 (x.1.1 : Int), rtx x.1.2]) (Kps s0 Bs) (fun ys => ys = pdn b p zl)
      (fun pre => True) zl w := fun l J Jx W hW _ _ hY h0 =>
  pback1_in F n h8 hro hn l Bs s0 A cap p zl HZ hlen b hp J Jx hY W ((hW.cell (p := ⟨Bs, 0, none⟩) hBs).trans hc) w0 hw0 (hE.trans (hW.mono (by have := hE.size; omega))) hR h0
end Go.Proofs.YtbldlibijojbjaaGreatDoor.GB

namespace Go.Proofs.YtbldlibijojbjaaGreatDoor.GB
set_option linter.unusedVariables false
set_option linter.unusedSimpArgs false
open Go.RowKit Go.Shelf
attribute [local go_sem] Oper.semAt_some

/-- Horner's rule over places that come the last first. -/
def hor {b : Nat} (X : Rat) (pre : List (NQ b)) : Rat := pre.foldl (fun a x => a * X + x.1.2) 0
theorem hor_snoc {b : Nat} (X : Rat) (pre : List (NQ b)) (x : NQ b) : hor X (pre ++ [x]) = hor X pre * X + x.1.2 := by simp [hor]
theorem ext_keeps {W W' : World} (h : Ext W W') : KeepsOthers W W' := KeepsOthers.of_grownBy (ext_grown h) (fun _ _ e => by cases e)
set_option maxHeartbeats 4000000 in
set_option maxRecDepth 100000 in
theorem eval_some (A : Option Addr) (c : Nat) (p : Pl) (X : Rat) (zl : Nat) (n m : Nat) (w : World) (HZ : Hid (zl = p.length)) (hl : zl ≤ 100000) (hW : Wd w) (hA : PS w (.slice A zl c) p) (hp : PB p n) (hX : Bd X m) (hk : zl * (m + n + 1) + m + n + 4 ≤ KK)
    (hv1 : VA (.slice A zl c) true w) (hv2 : ∀ W, Ext w W → Calls Tryz.prog 41 #[rtx X] W fun e w' => e = .returned (.bool true) ∧ Ext W w') :
    Calls Tryz.prog 31 #[.slice A zl c, rtx X] w (RetR w (hor X (pdn n p zl))) := by
  refine (callsIn_wide (n := 5)).1 ?_
  have HA := Lib.hid hA
  clear hA
  refine callsIn_of_wp_marks Tryz.func31 rfl trivial ?_ rfl
  simp only [Tryz.ntmps31, List.size_toArray, List.length_cons, List.length_nil, Nat.reduceAdd, Nat.reduceSub, Array.replicate_succ, Array.replicate_zero, List.push_toArray, List.append_toArray, List.nil_append, List.cons_append]
  have E0 := (Ext.rfl' w).al (.cells #[rtx X] 30)
  have b3 := Boxed.new w 30 (rtx X)
  gi_wp2
  generalize w.alloc (.cells #[rtx X] 30) = W0 at *
  refine ⟨trivial, ?_⟩
  refine (callsIn_wide.2 (hv1 _ E0)).mono ?_
  rintro e w1 ⟨rfl, hE1⟩
  replace b3 := b3.kept (ext_grown hE1) (by simp)
  have E1 := E0.tr hE1
  have hc3 := b3.cell
  clear hE1 E0
  gi_wp2
  refine ⟨trivial, ?_⟩
  refine (callsIn_wide.2 (hv2 _ E1)).mono ?_
  rintro e w2 ⟨rfl, hE2⟩
  replace b3 := b3.kept (ext_grown hE2) (by simp)
  have E2 := E1.tr hE2
  clear hE2 E1 hc3 hv1 hv2
  gi_wp2
  have b6 : Boxed (w2.alloc (.cells #[.string ⟨#[48]⟩] 30)) w2.heap.size 30 (rtx 0) := by
    have h := Boxed.new w2 30 (.string ⟨#[48]⟩)
    rw [← rb_v, rb0]; exact h
  have hz2 : w.heap.size < w2.heap.size := b3.lt
  replace b3 := b3.alloc (.cells #[.string ⟨#[48]⟩] 30)
  have E3 := E2.al (.cells #[.string ⟨#[48]⟩] 30)
  have hz3 : (w2.alloc (.cells #[.string ⟨#[48]⟩] 30)).heap.size = w2.heap.size + 1 := World.size_alloc _ _
  generalize w2.alloc (.cells #[.string ⟨#[48]⟩] 30) = w3 at *
  refine ⟨trivial, ?_⟩
  refine (pbackward_in Fence.wide (5 - 1) trivial rfl A zl c w3).mono ?_
  rintro e w4 ⟨rfl, rfl⟩
  have bx := Boxed.new w3 25 (.slice A zl c)
  replace b3 := b3.alloc (.cells #[.slice A zl c] 25)
  replace b6 := b6.alloc (.cells #[.slice A zl c] 25)
  have E4 := E3.al (.cells #[.slice A zl c] 25)
  have hz4 : (w3.alloc (.cells #[.slice A zl c] 25)).heap.size = w2.heap.size + 1 + 1 := by rw [World.size_alloc, hz3]
  generalize w3.alloc (.cells #[.slice A zl c] 25) = w4 at *
  rw [hz3] at *
  clear E3 E2
  generalize w2.heap.size = g at *
  clear hz3
  gi_wp2
  have hst := pback_stops Fence.wide (5 - 1) trivial rfl (by omega) (g + 1) w.heap.size A c p zl HZ hl n hp w w4 rfl E4 (by omega) HA.out bx.cell
  refine wpIn_rangeFunc_ownF (F := Fence.wide) rfl (by omega) (gf := 103) (lb := #[.pointer (some ⟨g + 1, 0, none⟩)]) rfl trivial (enters_of Tryz.func103 (by kernel_rfl) rfl)
    hst Kps.t (Kps.b (by omega)) (Below.refl _ _) (fun _ => rfl)
    (fun pre W => (Boxed W g 30 (rtx (hor X pre)) ∧ Boxed W w.heap.size 30 (rtx X) ∧ Boxed W (g + 1) 25 (.slice A zl c) ∧ Bd (hor X pre) (pre.length * (m + n + 1))) ∧ Below w.heap.size w W)
    (fun _ _ _ => False)
    (OwnFrom.and (Own.from (fun s X Y row hs hg hr => ⟨(grownBy_keeps_cells hg hr hs.1 rfl).trans hs.1, (grownBy_keeps_cells hg hr hs.2.1 rfl).trans hs.2.1, (grownBy_keeps_cells hg hr hs.2.2.1 rfl).trans hs.2.2.1, hs.2.2.2⟩) _) (ownFrom_below (Nat.le_refl _) (by omega)))
    (fun _ _ _ _ _ hs _ _ => hs)
    ⟨⟨b6, b3, bx, (Bd.of_int 0 0 (by decide)).mono (Nat.zero_le _)⟩, E4⟩
    (fun x => { tmps := #[.slice A zl c, rtx X, undef, .pointer (some ⟨w.heap.size, 0, none⟩), .string ⟨#[]⟩, .int .i64 0, .pointer (some ⟨g, 0, none⟩), undef, rtx x.1.2, .slice A zl c, .bool true, .bool false, .bool false, rtx X, .bool true, .bool false, .bool false, .slice A zl c, .func (.func 103) #[] #[.pointer (some ⟨g + 1, 0, none⟩)], .int .i64 (x.1.1 : Int), rtx x.1.2, undef, undef, undef, undef, undef, undef], defers := [] }) ?assign ?body ?done ?stop
  case assign =>
    intro l x W K hK
    gi_wp2
    exact hK
  case body =>
    rintro l pre ⟨⟨i, C⟩, hi1, hbC⟩ W ⟨⟨h6, h3, hx, hbd⟩, hb⟩ hpl
    dsimp only at hi1 hbC ⊢
    have hWw := Lib.hid (Wd.ext hW hb)
    have hc6 := h6.cell
    have hc3 := h3.cell
    have hB : pre.length * (m + n + 1) ≤ zl * (m + n + 1) := Nat.mul_le_mul_right _ (by omega)
    have hM := fun W (hw : Wd W) => pmul_q (hor X pre) X _ m W hw hbd hX (by omega)
    have hAd := fun W (hw : Wd W) => padd_q (hor X pre * X) C _ n W hw (hbd.mul hX) hbC (by omega)
    have hs := hor_snoc X pre ⟨(i, C), hi1, hbC⟩
    have hbs : Bd (hor X pre * X + C) ((pre.length + 1) * (m + n + 1)) := ((hbd.mul hX).add hbC).mono (by rw [Nat.add_mul, Nat.one_mul]; omega)
    dsimp only at hs
    have HM := Lib.hid hM
    have HAd := Lib.hid hAd
    have HS := Lib.hid hs
    clear hM hAd hs hB
    gi_wp2
    refine ⟨trivial, ?_⟩
    refine (CallsIn.inRound l (callsIn_wide.2 (HM.out W hWw.out))).mono ?_
    rintro e W1 ⟨rfl, hE1⟩
    have HE1 := Lib.hid hE1
    clear hE1
    gi_wp2
    refine ⟨trivial, ?_⟩
    refine (CallsIn.inRound l (callsIn_wide.2 (HAd.out W1 (hWw.out.ext HE1.out)))).mono ?_
    rintro e W2 ⟨rfl, hE2⟩
    have HE2 := Lib.hid (HE1.out.tr hE2)
    clear hE2
    have k6 := h6.kept (ext_grown HE2.out) (by simp)
    have k3 := h3.kept (ext_grown HE2.out) (by simp)
    have kx := hx.kept (ext_grown HE2.out) (by simp)
    have d6 := k6.cell
    have e6 := k6.frozen
    gi_wp2
    have hkk : Kps w.heap.size (g + 1) W (W2.setCell ⟨g, 0, none⟩ (rtx (hor X pre * X + C))) := by
      have hbB : Below w.heap.size W W2 := HE2.out.mono hb.size
      refine ⟨hbB.setCell (p := ⟨g, 0, none⟩) (by show w.heap.size ≤ g; omega) _, fun v e => ?_⟩
      rw [World.cell?_setCell_other _ _ _ _ (by simp)]
      exact HE2.out.cell e
    refine ⟨(ext_keeps HE2.out).trans (KeepsOthers.setCell _ _ _), hkk, ⟨?_, ?_, ?_, ?_⟩, hb.trans hkk.1⟩
    · rw [HS.out]; exact k6.set _
    · exact (Below.heap_setCell _ _ _ _ (by show w.heap.size ≠ g; omega)).trans k3
    · exact (Below.heap_setCell _ _ _ _ (by show g + 1 ≠ g; omega)).trans kx
    · rw [HS.out, List.length_append, List.length_singleton]; exact hbs
  case done =>
    rintro D ys W hD rfl ⟨⟨h6, h3, hx, hbd⟩, hb⟩ hK
    have hc6 := h6.cell
    gi_wp2
    refine ⟨by simp, .inl ⟨_, _, rfl, run_takeDeferred hK, ?_⟩⟩
    refine ⟨_, results_tmp2 rfl _ _ _, ?_, ?_⟩
    · rfl
    · exact hb.trans (belowK_b (w := w) (Nat.le_refl _) W D _ _ (by omega) hK rfl rfl)
  case stop =>
    rintro D c pre W _ _ h _
    exact h.elim
end Go.Proofs.YtbldlibijojbjaaGreatDoor.GB

namespace Go.Proofs.YtbldlibijojbjaaGreatDoor.GB
set_option linter.unusedVariables false
set_option linter.unusedSimpArgs false
open Go.RowKit Go.Shelf
attribute [local go_sem ↓] Go.wp_at_zero Go.wp_at_succ

set_option maxHeartbeats 1000000 in
set_option maxRecDepth 100000 in
theorem whole_k (k : Nat) (hk : k ≤ 1000000) (w : World) (hW : Wd w) : Calls Tryz.prog 74 #[.int .i64 k] w fun e w' => e = .returned (rtx ((k : Int) : Rat)) ∧ Ext w w' := by
  have e1 : rtx ((k : Int) : Rat) = itx (k : Int) := by show Value.string _ = Value.string _; rw [rtext_of_int]
  rw [e1]
  have h := Tryz.strconv_Itoa (k : Int) (by omega) (by omega) w hW.tab
  go_enter Tryz.func74, Tryz.ntmps74
  go_wp2_with fail
  refine h.mono ?_
  rintro e w1 ⟨rfl, a, os, rfl⟩
  have hE := Ext.grow w a os
  clear h
  go_wp2_with fail
  go_ret
  exact ⟨rfl, hE⟩
/-- The derivative. -/
def pder (p : Pl) : Pl := (List.range (p.length - 1)).map fun j => cf p (j + 1) * (((j + 1 : Nat) : Int) : Rat)
/-- The integral. -/
def pint (p : Pl) : Pl := if p = [] then [] else 0 :: (List.range p.length).map fun j => cf p j / (((j + 1 : Nat) : Int) : Rat)
theorem bd_small (k : Nat) (hk : k < 1048576) : Bd ((k : Int) : Rat) 20 := Bd.of_int _ 20 (by
  have : (2 : Nat) ^ 20 = 1048576 := by decide
  omega)
set_option maxHeartbeats 4000000 in
set_option maxRecDepth 100000 in
theorem derive_ok (A : Option Addr) (c pn n : Nat) (p : Pl) (w : World) (HPL : Hid (p.length = pn)) (hl : pn ≤ 100000) (hW : Wd w) (hA : PS w (.slice A pn c) p) (hv : VA (.slice A pn c) true w) (hp : PB p n) (hk : n + 23 ≤ KK) :
    Calls Tryz.prog 33 #[.slice A pn c] w (RetQ0 (fun W v => PS W v (pder p)) w) := by
  obtain ⟨i0, hi, hz0, hz1, hz2⟩ := info_parts Tryz.infoRat
  have HA := Lib.hid hA
  have HP := Lib.hid hp
  have HW := Lib.hid hW
  clear hA hp hW
  go_enter Tryz.func33, Tryz.ntmps33
  go_wp2_with fail
  refine (hv _ (Ext.rfl' _)).mono ?_
  rintro e w0 ⟨rfl, hE0⟩
  have HE0 := Lib.hid hE0
  clear hE0 hv
  go_wp2_with fail
  go_loopw [4, 5] (fun vo vi wr => ∃ k : Nat, (k < pn ∨ k + 1 = pn ∨ k = 0) ∧ vi = .int .i64 ((k : Int) + 1) ∧ Hid (OwnS wr w.heap.size vo (((List.range k).map fun j => cf p (j + 1) * (((j + 1 : Nat) : Int) : Rat)).map rb)) ∧ Hid (Ext w wr)) (fun _ vi _ => pn - (intOf vi).toNat)
  case atStart => exact ⟨0, by omega, rfl, ⟨rfl, .inl ⟨rfl, rfl⟩⟩, HE0⟩
  case round =>
    obtain ⟨k, hk0, rfl, HO, HE⟩ := hrel
    by_cases hlt : k + 1 < pn
    · obtain ⟨-, -, -, hcl⟩ := HA.out.cell
      obtain ⟨bb, fb, rfl, hbb, hcC⟩ := hcl (k + 1) (by rw [HPL.out]; exact hlt)
      have HC0 := Lib.hid hcC
      replace hcC := HE.out.cell hcC
      have hbC := HP.out.cf (k + 1)
      have hM := fun W (hw : Wd W) => pmul_q (cf p (k + 1)) (((k + 1 : Nat) : Int) : Rat) n 20 W hw hbC (bd_small (k + 1) (by omega)) (by omega)
      have hWh := fun W (hw : Wd W) => whole_k (k + 1) (by omega) W hw
      have hS : ((List.range (k + 1)).map fun j => cf p (j + 1) * (((j + 1 : Nat) : Int) : Rat)).map rb = ((List.range k).map fun j => cf p (j + 1) * (((j + 1 : Nat) : Int) : Rat)).map rb ++ [rb (cf p (k + 1) * (((k + 1 : Nat) : Int) : Rat))] := by
        rw [List.range_succ]; simp
      have HS := Lib.hid hS
      have e2 : ((k + 1 : Nat) : Int) = (k : Int) + 1 := by push_cast; rfl
      have hv1 : Value.int .i64 ((k + 1 : Nat) : Int) = .int .i64 ((k : Int) + 1) := by rw [e2]
      rw [hv1] at hWh
      clear e2 hv1 hS hcl
      generalize hF : cf p (k + 1) * (((k + 1 : Nat) : Int) : Rat) = F at hM HS
      clear hF
      generalize (((k + 1 : Nat) : Int) : Rat) = Q at hM hWh
      generalize cf p (k + 1) = C at *
      have HM := Lib.hid hM
      have HWh := Lib.hid hWh
      have hN : (((List.range k).map fun j => cf p (j + 1) * (((j + 1 : Nat) : Int) : Rat)).map rb).length + 1 ≤ maxLen := by simp [maxLen]; omega
      have hbig : ((((List.range k).map fun j => cf p (j + 1) * (((j + 1 : Nat) : Int) : Rat)).map rb).length + 1) * 16 ≤ 140737488355328 := by simp; omega
      generalize ((List.range k).map fun j => cf p (j + 1) * (((j + 1 : Nat) : Int) : Rat)).map rb = r at *
      have HW1 : Hid (Wd wr.drew) := HW.out.ext (Ext.dr' HE)
      have a1 : (0 : Int) ≤ (k : Int) + 1 := by omega
      have a2 : ((k : Int) + 1).toNat = k + 1 := by omega
      have a3 : (k : Int) + 1 < (pn : Int) := by omega
      have a4 : (k : Int) + 1 ≤ (pn : Int) := by omega
      clear hM hWh hbC
      go_wp2_with fail
      go_region_held3 (fun w' => w'.cell? ⟨bb, fb + (k + 1), none⟩ = some (rtx C)) (((try dsimp only); (repeat' apply And.intro) <;> (first | assumption | ((go_keep); done))))
        (first
          | (go_at_call 74; (with_reducible refine (HWh.out _ HW1.out).mono ?_); rintro e w2 ⟨rfl, hE2⟩; have q0 := Ext.cellD hE2 hcC; have HE2 := Lib.hid ((Ext.dr' HE).tr hE2); have HO2 := Lib.hid (OwnS.ext (show OwnS wr.drew w.heap.size _ r from HO.out) hE2); have HW2 := Lib.hid (Wd.ext HW1.out hE2); clear hE2)
          | (go_at_call 70; (with_reducible refine (HM.out _ HW2.out).mono ?_); rintro e w3 ⟨rfl, hE3⟩; have t0 := Ext.cellH hE3 q0; have HE3 := Lib.hid (HE2.out.tr hE3); have HO3 := Lib.hid (OwnS.ext HO2.out hE3); have hb3 : w.heap.size ≤ w3.heap.size := HE3.out.size; clear hE3)
          | ((refine step_append_lies _ (by rfl) _ _ 25 (by rfl) w.heap.size 30 i0 (.string ⟨#[]⟩) 1 16 Tryz.underlying25 hi hz0 hz1 hz2 rfl (by omega) _ r.length (strs r) (by rfl) (World.ownsRow.alloc HO3.out _) ⟨w3.heap.size, 0, none⟩ 1 1 [rtx F] (by rfl) (by rfl) (World.news_of_block (cs := #[rtx F]) (t := 30) (fr := (0, 0)) (heap_alloc_new w3 _)) (by simp [Value.oneCell']) (by omega) hN hbig (by simp; omega) (w3.heap.size + 1) (by simp) ?_); intro gg cap w4 hown4 hgrow4 hat4 hlt4; have hh4 := own_grow (news := [rb F]) HO3.out HE3.out hown4 hgrow4; have s0 := Ext.cellH hh4.2 HC0.out))
      all_goals
        have HO4 := Lib.hid hh4.1
        have HE4 := Lib.hid hh4.2
        clear hh4 s0 q0 t0 hown4 hgrow4 a1 a2 a3 a4
        go_wp2
        go_roundw
        case rel => exact ⟨k + 1, by omega, by go_num, by rw [HS.out]; exact HO4, HE4⟩
        case measure => simp [intOf]; omega
    · have hke : pn - 1 = k := by omega
      have h := HO.out.sl
      rw [← hke, ← HPL.out] at h
      have HV := Lib.hid h
      clear hke h
      go_wp2
      go_ret2
      exact ⟨_, rfl, HV.out, HE.out⟩
end Go.Proofs.YtbldlibijojbjaaGreatDoor.GB

namespace Go.Proofs.YtbldlibijojbjaaGreatDoor.GB
set_option linter.unusedVariables false
set_option linter.unusedSimpArgs false
open Go.RowKit Go.Shelf
attribute [local go_sem ↓] Go.wp_at_zero Go.wp_at_succ

theorem cmpR_lt (x y : Rat) : decide (cmpR x y < 0) = decide (x < y) := by
  unfold cmpR
  by_cases h : x < y
  · rw [if_pos h, decide_eq_true h]; rfl
  · rw [if_neg h, decide_eq_false h]
    split <;> rfl
theorem cmpR_le (x y : Rat) : decide (cmpR x y ≤ 0) = decide (x ≤ y) := by
  unfold cmpR
  by_cases h : x < y
  · rw [if_pos h, decide_eq_true (Rat.le_of_lt h)]; rfl
  · rw [if_neg h]
    by_cases h2 : y < x
    · rw [if_pos h2, decide_eq_false (Rat.not_le.2 h2)]; rfl
    · rw [if_neg h2, decide_eq_true (Rat.not_lt.1 h2)]; rfl
set_option maxHeartbeats 1000000 in
set_option maxRecDepth 100000 in
theorem iless_q (x y : Rat) (m n : Nat) (w : World) (hW : Wd w) (hx : Bd x m) (hy : Bd y n) (hk : m + n + 1 ≤ KK) :
    Calls Tryz.prog 87 #[rtx x, rtx y] w fun e w' => e = .returned (.bool (decide (x < y))) ∧ Ext w w' := by
  have h := rCompare_q x y m n w hW hx hy hk
  rw [← cmpR_lt]
  generalize cmpR x y = z at h ⊢
  go_enter Tryz.func87, Tryz.ntmps87
  go_wp2_with fail
  refine h.mono ?_
  rintro e w1 ⟨rfl, hE⟩
  clear h
  go_wp2_with fail
  go_ret
  exact ⟨rfl, hE⟩
set_option maxHeartbeats 1000000 in
set_option maxRecDepth 100000 in
theorem iValid_q (x y : Rat) (m n : Nat) (w : World) (hW : Wd w) (hx : Bd x m) (hy : Bd y n) (hk : m + n + 1 ≤ KK) :
    Calls Tryz.prog 79 #[.agg #[rtx x, rtx y]] w fun e w' => e = .returned (.bool (decide (x ≤ y))) ∧ Ext w w' := by
  have h := fun W (hE : Ext w W) => rCompare_q x y m n W (hW.ext hE) hx hy hk
  rw [← cmpR_le]
  generalize cmpR x y = z at h ⊢
  have E := (Ext.rfl' w).al (.cells #[rtx x, rtx y] 44)
  go_enter Tryz.func79, Tryz.ntmps79
  go_wp2_with fail
  generalize w.alloc (.cells #[rtx x, rtx y] 44) = W0 at *
  refine (h _ E).mono ?_
  rintro e w1 ⟨rfl, hE⟩
  clear h
  go_wp2_with fail
  go_ret
  exact ⟨rfl, E.tr hE⟩
set_option maxHeartbeats 1000000 in
set_option maxRecDepth 100000 in
theorem iValid_no (s t : ByteArray) (w : World) (hW : Wd w) (hs : s.size ≤ 1000000) (ht : t.size ≤ 1000000) (hb : (ratB s.data.toList && ratB t.data.toList) = false) :
    Calls Tryz.prog 79 #[.agg #[.string s, .string t]] w fun e w' => e = .returned (.bool false) ∧ Ext w w' := by
  have h := fun W (hE : Ext w W) => rCompare_bad s t W (hW.ext hE) hs ht hb
  clear hb
  have E := (Ext.rfl' w).al (.cells #[.string s, .string t] 44)
  go_enter Tryz.func79, Tryz.ntmps79
  go_wp2_with fail
  generalize w.alloc (.cells #[.string s, .string t] 44) = W0 at *
  refine (h _ E).mono ?_
  rintro e w1 ⟨rfl, hE⟩
  clear h
  go_wp2_with fail
  go_ret
  exact ⟨rfl, E.tr hE⟩
theorem Bx.put {w : World} {b : Nat} {cs : Array Value} {T : TypeId} (h : Bx w b cs T) (j : Nat) (u : Value) : Bx (w.setCell ⟨b, j, none⟩ u) b (cs.setIfInBounds j u) T := by
  unfold Bx at h ⊢
  obtain ⟨hlt, hk⟩ := Array.getElem?_eq_some_iff.1 h
  show (w.heap.modify b _)[b]? = _
  rw [Array.getElem?_eq_getElem (by rw [Array.size_modify]; exact hlt), Array.getElem_modify_self, hk]
  rfl
theorem Bx.put0 {w : World} {b : Nat} {x y : Value} {T : TypeId} (h : Bx w b #[x, y] T) (u : Value) : Bx (w.setCell ⟨b, 0, none⟩ u) b #[u, y] T := h.put 0 u
theorem Bx.put1 {w : World} {b : Nat} {x y : Value} {T : TypeId} (h : Bx w b #[x, y] T) (u : Value) : Bx (w.setCell ⟨b, 1, none⟩ u) b #[x, u] T := h.put 1 u
/-- From the least to the greatest of some numbers, begun with one. -/
def endR (s : Rat × Rat) (a : Rat) : Rat × Rat := (if a < s.1 then a else s.1, if s.2 < a then a else s.2)
def endsR : Pl → Rat × Rat
  | [] => (0, 0)
  | x :: l => l.foldl endR (x, x)
theorem endR_bd {s : Rat × Rat} {a : Rat} {n : Nat} (h1 : Bd s.1 n) (h2 : Bd s.2 n) (ha : Bd a n) : Bd (endR s a).1 n ∧ Bd (endR s a).2 n := by
  unfold endR
  constructor
  · show Bd (if _ then _ else _) n; split <;> assumption
  · show Bd (if _ then _ else _) n; split <;> assumption
theorem take_fold (l : Pl) (s : Rat × Rat) (k : Nat) (hk : k < l.length) : (l.take (k + 1)).foldl endR s = endR ((l.take k).foldl endR s) (cf l k) := by
  rw [List.take_succ_eq_append_getElem hk, List.foldl_append, cf_lt hk]; rfl
set_option maxHeartbeats 4000000 in
set_option maxRecDepth 100000 in
theorem ends_q (b : Nat) (c : Nat) (x : Rat) (l : Pl) (ln n : Nat) (w : World) (HL : Hid (l.length = ln)) (hl0 : 0 < ln) (hl : ln ≤ 100000) (hc : ln + 1 ≤ c) (hc2 : c ≤ 1000000) (hW : Wd w) (hS : PS w (.slice (some ⟨b, 0, none⟩) (ln + 1) c) (x :: l)) (hp : PB (x :: l) n) (hk : 2 * n + 1 ≤ KK) :
    Calls Tryz.prog 88 #[.slice (some ⟨b, 0, none⟩) (ln + 1) c] w fun e w' => e = .returned (.agg #[rtx (endsR (x :: l)).1, rtx (endsR (x :: l)).2]) ∧ Ext w w' := by
  have HS := Lib.hid hS
  have HP := Lib.hid hp
  have HW := Lib.hid hW
  have hx0 : w.cell? ⟨b, 0, none⟩ = some (rtx x) := by
    obtain ⟨-, -, -, hcl⟩ := hS.cell
    obtain ⟨b', f', hb, _, h⟩ := hcl 0 (by simp)
    cases hb
    simpa using h
  have X1 := Bx.new w #[.string ⟨#[]⟩, .string ⟨#[]⟩] 44
  have E1 := (Ext.rfl' w).al (.cells #[.string ⟨#[]⟩, .string ⟨#[]⟩] 44)
  have hx1 := E1.cell hx0
  clear hS hp hW hx0
  go_enter Tryz.func88, Tryz.ntmps88
  go_wp2_with fail
  generalize w.alloc (.cells #[.string ⟨#[]⟩, .string ⟨#[]⟩] 44) = W0 at *
  have c1 : ¬ (c = 1) := by omega
  have c2 : (1 : Int) ≤ (c : Int) := by omega
  have c3 : (1 : Int) ≤ (ln : Int) + 1 := by omega
  have c4 : (0 : Int) < (ln : Int) + 1 := by omega
  have c5 : (0 : Int) ≤ (ln : Int) + 1 := by omega
  have c6 : 0 < ln + 1 := by omega
  have c7 : (0 : Int) < ((ln + 1 : Nat) : Int) := by omega
  go_region_held3 (fun w' => w'.cell? ⟨b, 0, none⟩ = some (rtx x)) (((try dsimp only); (repeat' apply And.intro) <;> (first | assumption | ((go_keep); done)))) (fail)
  all_goals
    have X2 := (X1.al (.cells #[rtx x, rtx x] 44))
    have X3 := Bx.new W0 #[rtx x, rtx x] 44
    have hz := X1.lt
    have E2 := E1.al (.cells #[rtx x, rtx x] 44)
    generalize W0.alloc (.cells #[rtx x, rtx x] 44) = W1 at *
    generalize hg : W0.heap.size = g at *
    go_wp2_with fail
    have HX2 := Lib.hid (show Bx W1.drew w.heap.size #[.string ⟨#[]⟩, .string ⟨#[]⟩] 44 from X2)
    have HX3 := Lib.hid (show Bx W1.drew g #[rtx x, rtx x] 44 from X3)
    have HE2 := Lib.hid (show Ext w W1.drew from E2.dr)
    clear X1 X2 X3 E1 E2 hx1 hg c1 c2 c3 c4 c5 c6 c7
    generalize W1.drew = W2 at *
    go_loopw [16] (fun v wr => ∃ k : Nat, k ≤ ln ∧ v = .int .i64 k ∧ Hid (Bx wr w.heap.size #[.string ⟨#[]⟩, .string ⟨#[]⟩] 44) ∧ Hid (Bx wr g #[rtx ((l.take k).foldl endR (x, x)).1, rtx ((l.take k).foldl endR (x, x)).2] 44) ∧ Hid (Ext w wr) ∧ Hid (Bd ((l.take k).foldl endR (x, x)).1 n ∧ Bd ((l.take k).foldl endR (x, x)).2 n)) (fun v _ => ln - (intOf v).toNat)
    case atStart => exact ⟨0, Nat.zero_le _, rfl, HX2, HX3, HE2, HP.out x (by simp), HP.out x (by simp)⟩
    case round =>
      clear HX2 HX3 HE2
      obtain ⟨k, hk1, rfl, HY, HX, HE, HB⟩ := hrel
      by_cases hlt : k < ln
      · obtain ⟨-, -, -, hcl⟩ := HS.out.cell
        obtain ⟨b', f', hb', _, hca⟩ := hcl (k + 1) (by have := HL.out; simp; omega)
        obtain ⟨rfl, rfl⟩ : b = b' ∧ 0 = f' := by simp at hb'; exact hb'
        have hca : w.cell? ⟨b, 1 + k, none⟩ = some (rtx (cf l k)) := by
          have e : cf (x :: l) (k + 1) = cf l k := rfl
          rw [Nat.zero_add, Nat.add_comm k 1] at hca
          rw [hca, Nat.add_comm 1 k, e]
        replace hca := HE.out.cell hca
        clear hcl hb'
        have HST := Lib.hid (take_fold l (x, x) k (by rw [HL.out]; exact hlt))
        have hba : Bd (cf l k) n := HP.out.cf (k + 1)
        have HBn := Lib.hid (endR_bd HB.out.1 HB.out.2 hba)
        have hblo := HB.out.1
        have hbhi := HB.out.2
        rw [← HST.out] at HBn
        clear HB
        generalize cf l k = a at *
        generalize (l.take k).foldl endR (x, x) = s at *
        obtain ⟨lo, hi⟩ := s
        dsimp only at *
        have c0 := HX.out.c0
        have c1 := HX.out.c1
        by_cases ha : a < lo
        · by_cases hh : hi < a
          · have hl1 := fun W (hw : Wd W) => iless_q a lo n n W hw hba hblo (by omega)
            have hl2 := fun W (hw : Wd W) => iless_q hi a n n W hw hbhi hba (by omega)
            rw [decide_eq_true ha] at hl1
            rw [decide_eq_true hh] at hl2
            have H1 := Lib.hid hl1
            have H2 := Lib.hid hl2
            clear hl1 hl2
            go_wp2_with fail
            refine (H1.out _ (HW.out.ext HE.out)).mono ?_
            rintro e w3 ⟨rfl, hE3⟩
            have HE3 := Lib.hid (HE.out.tr hE3)
            have HY3 := Lib.hid (HY.out.ext hE3)
            have HX3 := Lib.hid (HX.out.ext hE3)
            clear hE3
            have d0 := HX3.out.c0
            have d1 := HX3.out.c1
            have e0 := HX3.out.f 0
            have e1 := HX3.out.f 1
            have HX4 := Lib.hid (HX3.out.put0 (rtx a))
            have HY4 := Lib.hid (HY3.out.set (p := ⟨g, 0, none⟩) (by show w.heap.size ≠ g; omega) (rtx a))
            have HE4 := Lib.hid (show Ext w (w3.setCell ⟨g, 0, none⟩ (rtx a)) from HE3.out.setCell (p := ⟨g, 0, none⟩) (by show w.heap.size ≤ g; omega) (rtx a))
            have k0 := HX4.out.c0
            have k1 := HX4.out.c1
            go_wp2_with fail
            refine (H2.out _ (HW.out.ext HE4.out)).mono ?_
            rintro e w5 ⟨rfl, hE5⟩
            have HE5 := Lib.hid (HE4.out.tr hE5)
            have HY5 := Lib.hid (HY4.out.ext hE5)
            have HX5 := Lib.hid (HX4.out.ext hE5)
            clear hE5
            have m0 := HX5.out.c0
            have m1 := HX5.out.c1
            have q0 := HX5.out.f 0
            have q1 := HX5.out.f 1
            go_wp2_with fail
            go_roundw
            case rel => exact ⟨k + 1, by omega, by go_num, HY5.out.set (p := ⟨g, 1, none⟩) (by show w.heap.size ≠ g; omega) (rtx a), by rw [HST.out]; rw [show endR (lo, hi) a = (a, a) from by unfold endR; simp [ha, hh]]; exact HX5.out.put1 (rtx a), HE5.out.setCell (p := ⟨g, 1, none⟩) (by show w.heap.size ≤ g; omega) (rtx a), HBn⟩
            case measure => simp [intOf]; omega
          · have hskip : True := trivial
            have hl1 := fun W (hw : Wd W) => iless_q a lo n n W hw hba hblo (by omega)
            have hl2 := fun W (hw : Wd W) => iless_q hi a n n W hw hbhi hba (by omega)
            rw [decide_eq_true ha] at hl1
            rw [decide_eq_false hh] at hl2
            have H1 := Lib.hid hl1
            have H2 := Lib.hid hl2
            clear hl1 hl2
            go_wp2_with fail
            refine (H1.out _ (HW.out.ext HE.out)).mono ?_
            rintro e w3 ⟨rfl, hE3⟩
            have HE3 := Lib.hid (HE.out.tr hE3)
            have HY3 := Lib.hid (HY.out.ext hE3)
            have HX3 := Lib.hid (HX.out.ext hE3)
            clear hE3
            have d0 := HX3.out.c0
            have d1 := HX3.out.c1
            have e0 := HX3.out.f 0
            have e1 := HX3.out.f 1
            have HX4 := Lib.hid (HX3.out.put0 (rtx a))
            have HY4 := Lib.hid (HY3.out.set (p := ⟨g, 0, none⟩) (by show w.heap.size ≠ g; omega) (rtx a))
            have HE4 := Lib.hid (show Ext w (w3.setCell ⟨g, 0, none⟩ (rtx a)) from HE3.out.setCell (p := ⟨g, 0, none⟩) (by show w.heap.size ≤ g; omega) (rtx a))
            have k0 := HX4.out.c0
            have k1 := HX4.out.c1
            go_wp2_with fail
            refine (H2.out _ (HW.out.ext HE4.out)).mono ?_
            rintro e w5 ⟨rfl, hE5⟩
            have HE5 := Lib.hid (HE4.out.tr hE5)
            have HY5 := Lib.hid (HY4.out.ext hE5)
            have HX5 := Lib.hid (HX4.out.ext hE5)
            clear hE5
            have m0 := HX5.out.c0
            have m1 := HX5.out.c1
            have q0 := HX5.out.f 0
            have q1 := HX5.out.f 1
            go_wp2_with fail
            go_roundw
            case rel => exact ⟨k + 1, by omega, by go_num, HY5, by rw [HST.out]; rw [show endR (lo, hi) a = (a, hi) from by unfold endR; simp [ha, hh]]; exact HX5.out, HE5, HBn⟩
            case measure => simp [intOf]; omega
        · by_cases hh : hi < a
          · have hl1 := fun W (hw : Wd W) => iless_q a lo n n W hw hba hblo (by omega)
            have hl2 := fun W (hw : Wd W) => iless_q hi a n n W hw hbhi hba (by omega)
            rw [decide_eq_false ha] at hl1
            rw [decide_eq_true hh] at hl2
            have H1 := Lib.hid hl1
            have H2 := Lib.hid hl2
            clear hl1 hl2
            go_wp2_with fail
            refine (H1.out _ (HW.out.ext HE.out)).mono ?_
            rintro e w3 ⟨rfl, hE3⟩
            have HE3 := Lib.hid (HE.out.tr hE3)
            have HY3 := Lib.hid (HY.out.ext hE3)
            have HX3 := Lib.hid (HX.out.ext hE3)
            clear hE3
            have d0 := HX3.out.c0
            have d1 := HX3.out.c1
            have e0 := HX3.out.f 0
            have e1 := HX3.out.f 1
            have HX4 := Lib.hid HX3.out
            have HY4 := Lib.hid HY3.out
            have HE4 := Lib.hid HE3.out
            go_wp2_with fail
            refine (H2.out _ (HW.out.ext HE4.out)).mono ?_
            rintro e w5 ⟨rfl, hE5⟩
            have HE5 := Lib.hid (HE4.out.tr hE5)
            have HY5 := Lib.hid (HY4.out.ext hE5)
            have HX5 := Lib.hid (HX4.out.ext hE5)
            clear hE5
            have m0 := HX5.out.c0
            have m1 := HX5.out.c1
            have q0 := HX5.out.f 0
            have q1 := HX5.out.f 1
            go_wp2_with fail
            go_roundw
            case rel => exact ⟨k + 1, by omega, by go_num, HY5.out.set (p := ⟨g, 1, none⟩) (by show w.heap.size ≠ g; omega) (rtx a), by rw [HST.out]; rw [show endR (lo, hi) a = (lo, a) from by unfold endR; simp [ha, hh]]; exact HX5.out.put1 (rtx a), HE5.out.setCell (p := ⟨g, 1, none⟩) (by show w.heap.size ≤ g; omega) (rtx a), HBn⟩
            case measure => simp [intOf]; omega
          · have hskip : True := trivial
            have hl1 := fun W (hw : Wd W) => iless_q a lo n n W hw hba hblo (by omega)
            have hl2 := fun W (hw : Wd W) => iless_q hi a n n W hw hbhi hba (by omega)
            rw [decide_eq_false ha] at hl1
            rw [decide_eq_false hh] at hl2
            have H1 := Lib.hid hl1
            have H2 := Lib.hid hl2
            clear hl1 hl2
            go_wp2_with fail
            refine (H1.out _ (HW.out.ext HE.out)).mono ?_
            rintro e w3 ⟨rfl, hE3⟩
            have HE3 := Lib.hid (HE.out.tr hE3)
            have HY3 := Lib.hid (HY.out.ext hE3)
            have HX3 := Lib.hid (HX.out.ext hE3)
            clear hE3
            have d0 := HX3.out.c0
            have d1 := HX3.out.c1
            have e0 := HX3.out.f 0
            have e1 := HX3.out.f 1
            have HX4 := Lib.hid HX3.out
            have HY4 := Lib.hid HY3.out
            have HE4 := Lib.hid HE3.out
            go_wp2_with fail
            refine (H2.out _ (HW.out.ext HE4.out)).mono ?_
            rintro e w5 ⟨rfl, hE5⟩
            have HE5 := Lib.hid (HE4.out.tr hE5)
            have HY5 := Lib.hid (HY4.out.ext hE5)
            have HX5 := Lib.hid (HX4.out.ext hE5)
            clear hE5
            have m0 := HX5.out.c0
            have m1 := HX5.out.c1
            have q0 := HX5.out.f 0
            have q1 := HX5.out.f 1
            go_wp2_with fail
            go_roundw
            case rel => exact ⟨k + 1, by omega, by go_num, HY5, by rw [HST.out]; rw [show endR (lo, hi) a = (lo, hi) from by unfold endR; simp [ha, hh]]; exact HX5.out, HE5, HBn⟩
            case measure => simp [intOf]; omega
      · have hke : k = ln := by omega
        have hx2 : Hid ((l.take k).foldl endR (x, x) = endsR (x :: l)) := by
          unfold Hid endsR
          rw [hke, ← HL.out, List.take_length]
        rw [hx2.out] at HX
        clear hke hx2 HB
        generalize hsd : endsR (x :: l) = s at *
        have HSS := Lib.hid hsd
        clear hsd
        have c0 := HX.out.c0
        have c1 := HX.out.c1
        have d0 := HY.out.c0
        have d1 := HY.out.c1
        have e0 := HY.out.f 0
        have e1 := HY.out.f 1
        go_wp2_with fail
        obtain ⟨m0, m1⟩ := set2 HY.out (rtx s.1) (rtx s.2)
        refine bodyPost_ret (v := .agg #[rtx s.1, rtx s.2]) ?_ rfl ⟨by rw [HSS.out], ext_set2 (b := w.heap.size) HE.out (Nat.le_refl _) _ _⟩
        simp [results, Tryz.f88, go_sem, m0, m1]
end Go.Proofs.YtbldlibijojbjaaGreatDoor.GB
