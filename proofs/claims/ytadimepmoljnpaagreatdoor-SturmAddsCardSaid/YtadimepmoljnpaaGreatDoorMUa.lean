import Derived.Test.YtadimepmoljnpaaGreatDoorCOe
import Derived.Test.YtadimepmoljnpaaGreatDoorMEn
import Derived.Test.YtadimepmoljnpaaGreatDoorMRn
import Derived.RangeFuncFrom
import Derived.Test.YtadimepmoljnpaaGreatDoorMPr
namespace Go.Proofs.YtadimepmoljnpaaGreatDoor.GB
set_option linter.unusedVariables false
set_option linter.unusedSimpArgs false
open Go
/-! Sturm's chain and its changes of sign, as both sides compute them (for garboardlaw09). -/
theorem CB.neg {p : Pl} {n : Nat} (h : CB p n) : CB (pneg p) n := by
  obtain ⟨D, h0, h1, h2⟩ := h
  refine ⟨D, h0, h1, fun i => ?_⟩
  obtain ⟨z, hz, hl⟩ := h2 i
  refine ⟨-z, ?_, by rw [Int.natAbs_neg]; exact hl⟩
  rw [cf_pneg, Rat.intCast_neg, ← hz]; grind
theorem tr_pneg {p : Pl} (h : Tr p) : Tr (pneg p) := by
  by_cases hp : p = []
  · subst hp; exact tr_nil
  · have hl := lead_ne h hp
    intro e
    have hlen : (pneg p).length = p.length := by simp [pneg, psc]
    rw [List.getLast?_eq_getElem?, hlen] at e
    have e2 : cf (pneg p) (p.length - 1) = 0 := by simp only [cf, List.getD_eq_getElem?_getD, e]; rfl
    rw [cf_pneg] at e2
    unfold lead at hl
    grind
theorem pneg_len (p : Pl) : (pneg p).length = p.length := by simp [pneg, psc]
open Classical in
/-- The remainder. -/
noncomputable def prem (a b : Pl) : Pl := if h : ∃ t q, DivRel a b q t then Classical.choose h else []
theorem prem_eq {a b q t : Pl} (tb : Tr b) (h : DivRel a b q t) : prem a b = t := by
  unfold prem
  have hx : ∃ t q, DivRel a b q t := ⟨t, q, h⟩
  rw [dif_pos hx]
  obtain ⟨q', h'⟩ := Classical.choose_spec hx
  exact (DivRel.uniq tb h' h).2
/-- The chain of remainders with opposite signs. -/
noncomputable def sch : Nat → Pl → Pl → List Pl
  | 0, _, _ => []
  | f + 1, a, b => if a = [] then [] else a :: if b = [] then [] else sch f b (pneg (prem a b))
noncomputable def chainP (p : Pl) : List Pl := sch (p.length + 1) p (pder p)
theorem sch_nil (f : Nat) (b : Pl) : sch f [] b = [] := by
  cases f with
  | zero => rfl
  | succ f => unfold sch; rw [if_pos rfl]
theorem sch_step {f : Nat} {a b q t : Pl} (ha : a ≠ []) (tb : Tr b) (h : DivRel a b q t) : sch (f + 1) a b = a :: sch f b (pneg t) := by
  have hb : b ≠ [] := fun e => by have := h.lt; rw [e] at this; simp at this
  conv => lhs; unfold sch
  rw [if_neg ha, if_neg hb, prem_eq tb h]
theorem sch_last {f : Nat} {a : Pl} (ha : a ≠ []) : sch (f + 1) a [] = [a] := by
  conv => lhs; unfold sch
  rw [if_neg ha, if_pos rfl]
/-- The last sign that is not 0, and how often it has changed. -/
def chg (s : Int × Int) (x : Int) : Int × Int := if x = 0 then s else (x, if x = -s.1 then s.2 + 1 else s.2)
def sgnAt (x : Rat) (q : Pl) : Int := sgq (pev q x).num
def chgs (l : List Pl) (x : Rat) : Int × Int := (l.map (sgnAt x)).foldl chg (0, 0)
/-- How many roots a simple polynomial has in a range. -/
noncomputable def cntP (p : Pl) (lo hi : Rat) : Int := (chgs (chainP p) lo).2 - (chgs (chainP p) hi).2
theorem chgs_snoc (l : List Pl) (q : Pl) (x : Rat) : chgs (l ++ [q]) x = chg (chgs l x) (sgnAt x q) := by
  unfold chgs; rw [List.map_append, List.foldl_append]; rfl
theorem cmpR_zero (x : Rat) : cmpR x 0 = sgq x.num := by
  rw [← cmpR_sgq]
  have e1 : (0 : Rat).num = 0 := rfl
  have e2 : (0 : Rat).den = 1 := rfl
  rw [e1, e2]; congr 1; omega
/-- The changes of sign are at most the length. -/
theorem chgs_le (l : List Pl) (x : Rat) : 0 ≤ (chgs l x).2 ∧ (chgs l x).2 ≤ l.length := by
  unfold chgs
  suffices h : ∀ (m : List Int) (s : Int × Int), s.2 ≤ (m.foldl chg s).2 ∧ (m.foldl chg s).2 ≤ s.2 + m.length by
    have := h (l.map (sgnAt x)) (0, 0)
    simp at this
    exact this
  intro m
  induction m with
  | nil => intro s; simp
  | cons y m ih =>
    intro s
    have h1 := ih (chg s y)
    have h2 : s.2 ≤ (chg s y).2 ∧ (chg s y).2 ≤ s.2 + 1 := by
      unfold chg
      split
      · omega
      · dsimp only; split <;> omega
    rw [List.foldl_cons, List.length_cons]
    push_cast
    omega
theorem sgq_b (z : Int) : -1 ≤ sgq z ∧ sgq z ≤ 1 := by unfold sgq; split <;> (try split) <;> omega
theorem chgs_b (l : List Pl) (x : Rat) : -1 ≤ (chgs l x).1 ∧ (chgs l x).1 ≤ 1 := by
  unfold chgs
  suffices h : ∀ (m : List Pl) (s : Int × Int), (-1 ≤ s.1 ∧ s.1 ≤ 1) → -1 ≤ ((m.map (sgnAt x)).foldl chg s).1 ∧ ((m.map (sgnAt x)).foldl chg s).1 ≤ 1 from h l (0, 0) (by decide)
  intro m
  induction m with
  | nil => intro s h; exact h
  | cons q m ih =>
    intro s h
    rw [List.map_cons, List.foldl_cons]
    apply ih
    unfold chg
    split
    · exact h
    · exact sgq_b _
/-- The bits of a chain: as those of Euclid's algorithm. -/
structure SI (a b : Pl) (n m f N : Nat) : Prop where
  ta : Tr a
  tb : Tr b
  ca : CB a n
  cb : CB b m
  la : a.length ≤ 17
  lb : b.length ≤ 17
  hf : b.length ≤ f
  gk : gok f a.length n b.length m N = true
theorem SI.step {a b q t : Pl} {n m f N : Nat} (h : SI a b n m (f + 1) N) (hb : b ≠ []) (hd : DivRel a b q t) (hc : CB t (remB a.length n b.length m)) : SI b (pneg t) m (remB a.length n b.length m) f N := by
  have l0 := List.length_pos_iff.2 hb
  have hlt := hd.lt
  have g := h.gk
  have hl := h.lb
  have hf := h.hf
  refine ⟨h.tb, tr_pneg hd.trt, h.cb, hc.neg, h.lb, by rw [pneg_len]; omega, by rw [pneg_len]; omega, ?_⟩
  rw [pneg_len]
  unfold gok at g
  rw [if_neg (by omega)] at g
  by_cases hs : a.length < b.length
  · rw [if_pos hs, Bool.and_eq_true] at g
    have e := (DivRel.uniq h.tb hd (DivRel.short h.ta hs)).2
    subst e
    have e2 : remB t.length n b.length m = n := by unfold remB; rw [if_pos hs]
    rw [e2]; exact g.2
  · rw [if_neg hs, Bool.and_eq_true, List.all_eq_true] at g
    exact g.2 _ (List.mem_range.2 hlt)
theorem SI.bits {a b : Pl} {n m f N : Nat} (h : SI a b n m f N) : n ≤ N := gok_n _ _ _ _ _ _ h.gk
theorem SI.bits2 {a b : Pl} {n m f N : Nat} (h : SI a b n m f N) (hb : b ≠ []) : (∃ f', f = f' + 1) ∧ m ≤ N ∧ remB a.length n b.length m ≤ N := by
  have l0 := List.length_pos_iff.2 hb
  have g := h.gk
  have hf := h.hf
  cases f with
  | zero => omega
  | succ f =>
    refine ⟨⟨f, rfl⟩, ?_⟩
    unfold gok at g
    rw [if_neg (by omega)] at g
    by_cases hs : a.length < b.length
    · rw [if_pos hs, Bool.and_eq_true] at g
      have hm := gok_n _ _ _ _ _ _ g.2
      refine ⟨hm, ?_⟩
      unfold remB; rw [if_pos hs]; exact of_decide_eq_true g.1
    · rw [if_neg hs, Bool.and_eq_true] at g
      have h1 := of_decide_eq_true g.1
      refine ⟨?_, h1⟩
      unfold remB at h1; rw [if_neg hs] at h1
      unfold cdB at h1
      have : (a.length - b.length + 1) * (m + 1) = (a.length - b.length) * (m + 1) + (m + 1) := by rw [Nat.succ_mul]
      omega
end Go.Proofs.YtadimepmoljnpaaGreatDoor.GB

namespace Go.Proofs.YtadimepmoljnpaaGreatDoor.GB
set_option linter.unusedVariables false
set_option linter.unusedSimpArgs false
open Go

/-! Division and divisors, in plain words. -/
theorem padd_nil (a : Pl) : PE (padd a []) a := fun i => by rw [cf_padd, cf_ge (p := []) (Nat.zero_le _)]; grind
theorem DivRel.qlen {p r q t : Pl} (tr : Tr r) (h : DivRel p r q t) : q = [] ∨ q.length + r.length ≤ p.length + 1 := by
  by_cases hq : q = []
  · exact .inl hq
  right
  have hlt := h.lt
  have hr : r ≠ [] := by intro e; subst e; simp at hlt
  have l1 := List.length_pos_iff.2 hq
  have l2 := List.length_pos_iff.2 hr
  have ht := cf_pmul_top q r (q.length - 1) (r.length - 1) (by omega) (by omega)
  have e1 := lead_ne h.trq hq
  have e2 := lead_ne tr hr
  unfold lead at e1 e2
  rcases Nat.lt_or_ge (q.length - 1 + (r.length - 1)) p.length with hl | hl
  · omega
  · exfalso
    have h3 := h.eq (q.length - 1 + (r.length - 1))
    rw [cf_ge hl, cf_padd, ht, cf_ge (p := t) (by omega)] at h3
    have h4 : cf q (q.length - 1) * cf r (r.length - 1) = 0 := by grind
    rcases Rat.mul_eq_zero.1 h4 with h5 | h5
    · exact e1 h5
    · exact e2 h5
section
variable (v1 v2 : Value) (p r : Pl) (w : World) (hW : Wd w) (h1 : PO w v1 p 48) (h2 : PO w v2 r 48) (l1 : p.length ≤ 6) (l2 : r.length ≤ 6) (hr : r ≠ [])
include hW h1 h2 l1 l2 hr
end
end Go.Proofs.YtadimepmoljnpaaGreatDoor.GB

namespace Go.Proofs.YtadimepmoljnpaaGreatDoor.GB
set_option linter.unusedVariables false
set_option linter.unusedSimpArgs false
open Go
/-! The simple part. -/
def SimpP (p s : Pl) : Prop := ∃ g q, GcdRel p (pder p) g ∧ DivRel p g q [] ∧ s = pmon q
theorem SimpP.uniq {p s t : Pl} (h : SimpP p s) (k : SimpP p t) : s = t := by
  obtain ⟨g, q, h1, h2, rfl⟩ := h
  obtain ⟨g', q', k1, k2, rfl⟩ := k
  have e := GcdRel.uniq h1 k1
  subst e
  rw [(DivRel.uniq h1.tr h2 k2).1]
/-- The quotient by a common divisor leaves nothing, and is not nothing. -/
theorem simp_quot {p r g q t : Pl} (h : GcdRel p r g) (tp : Tr p) (hp : p ≠ []) (hd : DivRel p g q t) : t = [] ∧ q ≠ [] ∧ g ≠ [] ∧ q.length ≤ p.length := by
  have hg : g ≠ [] := by
    intro e; subst e
    exact hp (tr_zero tp h.dp.of_nil)
  obtain ⟨c, hc⟩ := h.dp
  have h2 : DivRel p g (ptrim c) [] := ⟨tr_ptrim _, tr_nil, List.length_pos_iff.2 hg, hc.trans ((PE.mul_l (cf_ptrim c).symm g).trans (padd_nil _).symm)⟩
  obtain ⟨rfl, rfl⟩ := DivRel.uniq h.tr hd h2
  have hq : ptrim c ≠ [] := by
    intro hq
    have := h2.eq
    rw [hq] at this
    exact hp (tr_zero tp (this.trans ((padd_nil _).trans (pmul_zero_l (PE.rfl' []) g))))
  have l1 := List.length_pos_iff.2 hg
  refine ⟨rfl, hq, hg, ?_⟩
  rcases h2.qlen h.tr with h3 | h3
  · exact absurd h3 hq
  · omega
theorem dvd_len {p r g : Pl} (h : GcdRel p r g) (tp : Tr p) (hp : p ≠ []) : g.length ≤ p.length := by
  have hg : g ≠ [] := by
    intro e; subst e
    exact hp (tr_zero tp h.dp.of_nil)
  obtain ⟨c, hc⟩ := h.dp
  have h2 : DivRel p g (ptrim c) [] := ⟨tr_ptrim _, tr_nil, List.length_pos_iff.2 hg, hc.trans ((PE.mul_l (cf_ptrim c).symm g).trans (padd_nil _).symm)⟩
  obtain ⟨-, hq, -, -⟩ := simp_quot h tp hp h2
  have l1 := List.length_pos_iff.2 hq
  rcases h2.qlen h.tr with h3 | h3
  · exact absurd h3 hq
  · omega
theorem simp_of {p g q t : Pl} (h : GcdRel p (pder p) g) (tp : Tr p) (hp : p ≠ []) (hd : DivRel p g q t) : SimpP p (pmon q) := by
  obtain ⟨rfl, -⟩ := simp_quot h tp hp hd
  exact ⟨g, q, h, hd, rfl⟩
theorem mul_last {q : Pl} (tq : Tr q) : ptrim (pmul q [1 / lead q]) = pmon q := by
  have h : PE (pmul q [1 / lead q]) (pmon q) := by
    intro i
    rw [pmul_cons_r q (1 / lead q) [] i, cf_padd]
    have e : cf (0 :: pmul q []) i = 0 := by
      cases i with
      | zero => rfl
      | succ i => exact pmul_nil_r q i
    rw [e]; unfold pmon; grind
  rw [ptrim_eq h, ptrim_tr (pmon_tr tq)]
theorem kk40 : 1099511627776 ≤ KK := by unfold KK; omega
theorem gokS1 : ∀ a, a < 7 → ∀ b, b < 7 → gok 6 a 320 b 360 60000 = true := by decide +kernel
theorem gokS2 : ∀ a, a < 7 → ∀ b, b < 7 → gok 6 a 5000000 b 5000000 1000000000 = true := by decide +kernel
theorem remS : ∀ a, a < 7 → ∀ b, b < 7 → (b == 0 || decide (remB a 320 b 60000 ≤ 360400)) = true := by decide +kernel
theorem cb320 {p : Pl} (h : PB p 52) (hl : p.length ≤ 6) : CB p 320 := (CB.of_pb h).mono (by have := Nat.mul_le_mul_right 52 hl; omega)
theorem cb360 {p : Pl} (h : PB p 52) (hl : p.length ≤ 6) : CB (pder p) 360 := (CB.of_pb (pder_pb h (by omega))).mono (by rw [pder_len]; have := Nat.mul_le_mul_right 72 (show p.length - 1 ≤ 5 by omega); omega)
/-- The simple part's bits: the chain begins with them. -/
theorem cbS {q : Pl} (h : PB q 360400) (hl : q.length ≤ 6) : CB (pmon q) 5000000 ∧ CB (pder (pmon q)) 5000000 := by
  have h1 := pmon_pb h
  have l1 : (pmon q).length ≤ 6 := by rw [pmon_len]; exact hl
  constructor
  · exact (CB.of_pb h1).mono (by have := Nat.mul_le_mul_right (2 * 360400 + 1) l1; omega)
  · refine (CB.of_pb (pder_pb h1 (by omega))).mono ?_
    rw [pder_len]
    have := Nat.mul_le_mul_right (2 * 360400 + 1 + 20) (show (pmon q).length - 1 ≤ 5 by omega)
    omega
theorem SI.start {q : Pl} (tq : Tr q) (h : PB q 360400) (hl : q.length ≤ 6) : SI (pmon q) (pder (pmon q)) 5000000 5000000 6 1000000000 := by
  have hc := cbS h hl
  have l1 : (pmon q).length ≤ 6 := by rw [pmon_len]; exact hl
  have l2 : (pder (pmon q)).length ≤ 6 := by rw [pder_len]; omega
  exact ⟨pmon_tr tq, pder_tr (pmon_tr tq), hc.1, hc.2, by omega, by omega, l2, gokS2 _ (by omega) _ (by omega)⟩
/-- The simple part, and its bits. -/
def SQ (p s : Pl) : Prop := ∃ q, s = pmon q ∧ SimpP p s ∧ Tr q ∧ q ≠ [] ∧ PB q 360400 ∧ q.length ≤ p.length
theorem SQ.si {p s : Pl} (h : SQ p s) (hl : p.length ≤ 6) : SI s (pder s) 5000000 5000000 6 1000000000 := by
  obtain ⟨q, rfl, -, tq, -, hb, hql⟩ := h
  exact SI.start tq hb (by omega)
theorem SQ.len {p s : Pl} (h : SQ p s) : s.length ≤ p.length := by
  obtain ⟨q, rfl, -, -, -, -, hql⟩ := h
  rw [pmon_len]; exact hql
theorem SQ.ne {p s : Pl} (h : SQ p s) : s ≠ [] := by
  obtain ⟨q, rfl, -, -, h0, -, -⟩ := h
  intro e
  have h1 := pmon_len q
  rw [e] at h1
  exact h0 (List.eq_nil_of_length_eq_zero h1.symm)
end Go.Proofs.YtadimepmoljnpaaGreatDoor.GB

namespace Go.Proofs.YtadimepmoljnpaaGreatDoor.GB
set_option linter.unusedVariables false
set_option linter.unusedSimpArgs false
open Go.RowKit Go.Shelf
attribute [local go_sem ↓] Go.wp_at_zero Go.wp_at_succ
theorem kk10 : 100000000000 ≤ KK := by unfold KK; omega
theorem rbh : rb (1 / 2) = ⟨#[49, 47, 50]⟩ := by
  have e1 : (1 / 2 : Rat).num = 1 := by decide +kernel
  have e2 : (1 / 2 : Rat).den = 2 := by decide +kernel
  unfold rb
  have e3 : Lib.itoa 1 = Lib.decDigits 1 := itoa_nat 1
  rw [rtext_frac (by rw [e2]; decide), e1, e2, e3, dd1 1 (by decide), dd1 2 (by decide)]
  rfl
set_option maxHeartbeats 8000000 in
set_option maxRecDepth 200000 in
theorem smid_v (x y : Rat) (n : Nat) (w : World) (hW : Wd w) (hx : Bd x n) (hy : Bd y n) (hk : 2 * n + 20 ≤ KK) :
    Calls Tryz.prog 101 #[.string (rb x), .string (rb y)] w fun e w' => e = .returned (.string (rb ((x + y) * (1 / 2)))) ∧ Ext w w' := by
  have HA : Hid (∀ W, Ext w W → Calls Tryz.prog 38 #[.string (rb x), .string (rb y)] W fun e w' => e = .returned (.tuple #[.string (rb (x + y)), .int .i64 0]) ∧ Ext W w') := fun W hE => rAdd_q x y n n W (hW.ext hE) hx hy (by omega)
  have HM : Hid (∀ W, Ext w W → Calls Tryz.prog 32 #[.string (rb (x + y)), .string ⟨#[49, 47, 50]⟩] W fun e w' => e = .returned (.tuple #[.string (rb ((x + y) * (1 / 2))), .int .i64 0]) ∧ Ext W w') := fun W hE => by
    rw [← rbh]
    exact rMul_q (x + y) (1 / 2) (n + n + 1) 2 W (hW.ext hE) (hx.add hy) (by decide +kernel) (by omega)
  clear hW hx hy hk
  generalize rb ((x + y) * (1 / 2)) = m at *
  generalize rb (x + y) = s at *
  generalize rb x = a at *
  generalize rb y = b at *
  go_enter Tryz.func101, Tryz.ntmps101
  go_wp2_with fail
  refine (HA.out _ (Ext.rfl' _)).mono ?_
  rintro e w1 ⟨rfl, hE⟩
  have HE := Lib.hid hE
  clear hE
  go_wp2_with fail
  refine (HM.out _ HE.out).mono ?_
  rintro e w2 ⟨rfl, hE⟩
  replace HE := Lib.hid (HE.out.tr hE)
  clear hE
  go_wp2_with fail
  go_ret
  exact ⟨rfl, HE.out⟩
set_option maxHeartbeats 8000000 in
set_option maxRecDepth 200000 in
theorem sless_v (x y : Rat) (n m : Nat) (w : World) (hW : Wd w) (hx : Bd x n) (hy : Bd y m) (hk : n + m + 20 ≤ KK) :
    Calls Tryz.prog 53 #[.string (rb x), .string (rb y)] w fun e w' => e = .returned (.bool (decide (x < y))) ∧ Ext w w' := by
  have hc := rCompare_q x y n m w hW hx hy (by omega)
  obtain ⟨k, hk2⟩ : ∃ k, cmpR x y = k := ⟨_, rfl⟩
  have hd : decide (k < 0) = decide (x < y) := by
    rw [← hk2]; unfold cmpR
    by_cases h : x < y
    · rw [if_pos h, decide_eq_true h]; rfl
    · rw [if_neg h, decide_eq_false h]; split <;> rfl
  rw [hk2] at hc
  rw [← hd]
  have HC : Hid (Calls Tryz.prog 35 #[.string (rb x), .string (rb y)] w fun e w' => e = .returned (.tuple #[.int .i64 k, .int .i64 0]) ∧ Ext w w') := hc
  clear hW hx hy hk hc hk2 hd
  generalize rb x = a at *
  generalize rb y = b at *
  go_enter Tryz.func53, Tryz.ntmps53
  go_wp2_with fail
  refine HC.out.mono ?_
  rintro e w1 ⟨rfl, hE⟩
  have HE := Lib.hid hE
  clear hE HC
  go_wp2_with fail
  go_ret
  exact ⟨rfl, HE.out⟩
set_option maxHeartbeats 8000000 in
set_option maxRecDepth 200000 in
theorem shalv_v (k : Int) (w : World) : Calls Tryz.prog 55 #[.int .i64 k] w fun e w' => e = .returned (.int .i64 (if 0 ≤ k ∧ k ≤ 24 then 0 else 2)) ∧ Ext w w' := by
  obtain ⟨r, hr⟩ : ∃ r : Int, (if 0 ≤ k ∧ k ≤ 24 then (0 : Int) else 2) = r := ⟨_, rfl⟩
  rw [hr]
  rcases (by omega : k < 0 ∨ (0 ≤ k ∧ k ≤ 24) ∨ (0 ≤ k ∧ 24 < k)) with h | h | h
  · rw [if_neg (by omega)] at hr
    subst hr
    go_enter Tryz.func55, Tryz.ntmps55
    go_wp2_with fail
    go_ret
    exact ⟨rfl, Ext.rfl' w⟩
  · rw [if_pos h] at hr
    subst hr
    obtain ⟨h1, h2⟩ := h
    go_enter Tryz.func55, Tryz.ntmps55
    go_wp2_with fail
    go_ret
    exact ⟨rfl, Ext.rfl' w⟩
  · rw [if_neg (by omega)] at hr
    subst hr
    obtain ⟨h1, h2⟩ := h
    go_enter Tryz.func55, Tryz.ntmps55
    go_wp2_with fail
    go_ret
    exact ⟨rfl, Ext.rfl' w⟩
end Go.Proofs.YtadimepmoljnpaaGreatDoor.GB

namespace Go.Proofs.YtadimepmoljnpaaGreatDoor.GB
set_option linter.unusedVariables false
set_option linter.unusedSimpArgs false
open Go Go.RowKit
/-! A range over an iterator whose elements lie in memory: what is yielded is good (R) in the world in which it is yielded. For bodies that never leave early. -/
/-- The iterator's promise. -/
def SeqR {α : Type} (F : Fence) (n : Nat) (P : Program) (g : Nat) (lb : Array Value) (encs : α → Array Value) (Kp : World → World → Prop) (R : α → World → Prop) (S : List α → Prop) (N : Nat) (w : World) : Prop :=
  ∀ (l : Nat) (J : List α → World → Prop) (W : World), Below w.heap.size w W → AbidesFrom W.heap.size J →
    (∀ pre x W1, J pre W1 → R x W1 → pre.length < N → YieldAt F (n - 1) P l (encs x) W1 fun e W' => e = .returned (.bool true) ∧ J (pre ++ [x]) W' ∧ Kp W1 W') →
    J [] W → CallsIn F n P g (#[.func (.yield l) #[] #[]] ++ lb) W fun e W' => (∃ v, e = .returned v) ∧ ∃ xs, S xs ∧ J xs W'
/-- The record and the block for deferred calls of a loop. -/
def LoopAt (d : Nat) (r : Loop) (W : World) : Prop := W.heap[d + 1]? = some (.loop r) ∧ W.heap[d]? = some (.deferred (some []))
theorem LoopAt.grown {d : Nat} {r : Loop} {A B : World} {row : Option Nat} (h : LoopAt d r A) (hg : A.grownBy B row) (hr : ∀ k, row = some k → ∃ o : Obj, A.heap[k]? = some o ∧ o.isWalk = true) : LoopAt d r B :=
  ⟨(grownBy_keeps hg hr h.1 rfl).trans h.1, (grownBy_keeps hg hr h.2 rfl).trans h.2⟩
theorem LoopAt.put {d : Nat} {r r' : Loop} {A : World} (h : LoopAt d r A) : LoopAt d r' (A.putObj (d + 1) (.loop r')) :=
  ⟨World.putObj_heap_same (Array.getElem?_eq_some_iff.1 h.1).1, (World.putObj_heap_other (by omega)).trans h.2⟩
theorem LoopAt.kept {d : Nat} {r : Loop} {A B : World} (h : LoopAt d r A) (hk : KeepsOthers A B) : LoopAt d r B := ⟨hk.same _ _ h.1 rfl, hk.same _ _ h.2 rfl⟩
theorem wpIn_range_R {F : Fence} {n : Nat} {P : Program} {α : Type} {g : Operand} {ps : Array Tmp} {assign body : Code} {Q : Exit → Act → World → Prop} {a : Act} {w : World}
    (hro : F.round = none) (h1 : 1 ≤ n) {gf : Nat} {lb : Array Value} (hg : a.eval g = .func (.func gf) #[] lb) (hFg : F.fn gf) (eg : ∀ args w, (callFunc gf args).run P w = .ok (.enter gf args) w)
    {encs : α → Array Value} {Kp : World → World → Prop} {R : α → World → Prop} {S : List α → Prop} {N : Nat} {w0 : World} (hseq : SeqR F (n - 1) P gf lb encs Kp R S N w0)
    (hKt : ∀ {A B C : World}, Kp A B → Kp B C → Kp A C) (hKb : ∀ (W : World) (l : Nat) (o o' : Obj), w.heap.size ≤ l → W.heap[l]? = some o → o.isCells = false → o.isWalk = false → Kp W (W.putObj l o'))
    (hRb : ∀ (x : α) (W : World) (l : Nat) (o o' : Obj), w.heap.size ≤ l → W.heap[l]? = some o → o.isCells = false → R x W → R x (W.putObj l o'))
    (hb0 : Below w0.heap.size w0 w) (hps : ∀ x, (encs x).size = ps.size)
    (I : List α → World → Prop) (hI : OwnFrom w.heap.size I) (h0 : I [] w) (a₁ : α → Act)
    (hassign : ∀ (l : Nat) (x : α) (W : World) (K : Act → World → Prop), K (a₁ x) W →
      assign.wpIn (F.inRound l) (n - 1 - 1) P (Exit.then K (fun _ _ _ => False)) { tmps := (ps.zip (encs x)).foldl (fun t (p, v) => t.setIfInBounds p v) a.tmps, defers := [] } W)
    (hbody : ∀ (l : Nat) (pre : List α) (x : α) (W : World), I pre W → R x W → pre.length < N → body.wpIn (F.inRound l) (n - 1 - 1) P (fun e _ W' => e = .normal ∧ KeepsOthers W W' ∧ Kp W W' ∧ I (pre ++ [x]) W') (a₁ x) W)
    (hdone : ∀ (D : Nat) (xs : List α) (W : World), w.heap.size ≤ D → S xs → I xs W → W.heap[D]? = some (.deferred (some [])) → Q .normal { a with defers := { target := .collected D, args := #[] } :: a.defers } W) :
    (Code.rangeFunc g ps assign body).wpIn F n P Q a w := by
  refine wpIn_rangeFunc fun fn hfn => ?_
  rw [hro]
  generalize hd : w.heap.size = d at *
  have key : ∀ (st : LoopState), ∃ r : Loop, r = { state := st, pending := none, fn, tmps := a.tmps, params := ps, assign, body, defers := d } := fun st => ⟨_, rfl⟩
  obtain ⟨r0, hr0⟩ := key .ready
  obtain ⟨rb, hrb⟩ := key .busy
  have hbz : rb = { r0 with state := .busy } := by rw [hr0, hrb]
  have hpar : r0.params = ps := by rw [hr0]
  obtain ⟨V, hV⟩ : ∃ V, (w.alloc (.deferred (some []))).alloc (.loop r0) = V := ⟨_, rfl⟩
  have hLV : LoopAt d r0 V := by
    rw [← hV, ← hd]
    refine ⟨?_, (Below.heap_alloc _ _ _ (by simp)).trans (World.alloc_heap_new w _)⟩
    have := World.alloc_heap_new (w.alloc (.deferred (some []))) (.loop r0)
    rwa [World.size_alloc] at this
  have hIV : I [] V := by rw [← hV]; exact hI.alloc _ (hI.alloc _ h0)
  have hsV : d ≤ V.heap.size := by rw [← hV, World.size_alloc, World.size_alloc, hd]; omega
  have hbV : Below w0.heap.size w0 V := by
    rw [← hV]; exact hb0.trans ((((Below.refl _ w).alloc (Nat.le_refl _) _).alloc (by simp) _).mono hb0.size)
  refine ⟨d + 1, [{ target := .collected d, args := #[] }], V, { target := .fn (.func gf) lb, args := #[.func (.yield (d + 1)) #[] #[]] }, V, gf, #[.func (.yield (d + 1)) #[] #[]] ++ lb, V, ?_, ?_, ?_, ?_, fun _ => h1, ?_⟩
  · rw [← hV, hr0, ← hd]; exact run_enterLoop_outer _ _ _ _ _
  · simp only [resolve, hg]
    simp [go_sem]
  · intro f' hf'
    simp [Target.leads] at hf'
    subst hf'; exact hFg
  · simp [invoke, go_sem, eg]
  have hw : ∀ {A : World} {row : Option Nat}, (∀ r, row = some r → V.heap.size ≤ r ∧ ∃ o : Obj, A.heap[r]? = some o ∧ o.isWalk = true) → (∀ r, row = some r → d ≤ r ∧ ∃ o : Obj, A.heap[r]? = some o ∧ o.isCells = false) := fun h r e => by
    obtain ⟨x1, o, x2, x3⟩ := h r e
    exact ⟨Nat.le_trans hsV x1, o, x2, Obj.not_cells_of_walk x3⟩
  refine (hseq (d + 1) (fun pre W => I pre W ∧ LoopAt d r0 W) V hbV (fun s A B row hs hg' hr => ⟨hI s A B row hs.1 hg' (hw hr), hs.2.grown hg' fun r e => (hr r e).2⟩) ?_ ⟨hIV, hLV⟩).mono ?_
  · rintro pre x W ⟨hi, hl⟩ hx hlen
    have hy := run_yield (P := P) (args := encs x) hl.1 (by rw [hpar]; exact hps x)
    rw [hr0] at hy
    refine ⟨fn, _, assign, body, hy, roundIn_of_wpIn hfn (hassign _ x W _ ⟨_, run_beginRound hl.1 (by rw [hr0]), ?_⟩)⟩
    rw [← hbz]
    have hl2 : LoopAt d rb (W.putObj (d + 1) (.loop rb)) := hl.put
    refine wpIn_mono (hbody _ pre x _ (hI.putObj _ hi (by omega) hl.1 rfl) (hRb _ _ _ _ _ (by omega) hl.1 rfl hx) hlen) ?_
    rintro e a3 W3 ⟨rfl, hk, hkp, hi3⟩
    have hl3 := hl2.kept hk
    have hr := run_endRound (P := P) none hl3.1
    have e0 : ({ rb with state := if (none : Option Code).isNone then .ready else .done, pending := none } : Loop) = r0 := by rw [hrb, hr0]; rfl
    rw [e0] at hr
    exact ⟨_, _, hr, rfl, ⟨hI.putObj _ hi3 (by omega) hl3.1 rfl, hl3.put⟩, hKt (hKt (hKb _ _ _ _ (by omega) hl.1 rfl rfl) hkp) (hKb _ _ _ _ (by omega) hl3.1 rfl rfl)⟩
  · rintro e W2 ⟨⟨v, rfl⟩, xs, hS, hi, hl⟩
    have hr := run_endLoop (P := P) hl.1 (by rw [hr0]; simp)
    have e0 : r0.pending = none := by rw [hr0]
    rw [e0] at hr
    exact ⟨none, _, hr, hdone _ xs _ (Nat.le_refl _) hS (hI.putObj _ hi (by omega) hl.1 rfl) ((World.putObj_heap_other (by omega)).trans hl.2)⟩
end Go.Proofs.YtadimepmoljnpaaGreatDoor.GB

namespace Go.Proofs.YtadimepmoljnpaaGreatDoor.GB
set_option linter.unusedVariables false
set_option linter.unusedSimpArgs false
open Go Go.RowKit
/-! What the body of a loop over a chain of polynomials keeps: all cells but boxes of one number. -/
/-- Every block of cells lies as it lay, unless it is the box of one int. -/
def IK (s0 : Nat) (W W' : World) : Prop := Below s0 W W' ∧ W.heap.size ≤ W'.heap.size ∧ ∀ (i : Nat) (cs : Array Value) (T : TypeId) (fr : Nat × Nat), W.heap[i]? = some (Obj.cells cs T fr) → W'.heap[i]? = some (Obj.cells cs T fr) ∨ ∃ k k' : Int, cs = #[Value.int .i64 k] ∧ W'.heap[i]? = some (Obj.cells #[Value.int .i64 k'] T fr)
theorem IK.tr {s0 : Nat} {A B C : World} (h : IK s0 A B) (k : IK s0 B C) : IK s0 A C := by
  refine ⟨h.1.trans k.1, Nat.le_trans h.2.1 k.2.1, fun i cs T fr e => ?_⟩
  rcases h.2.2 i cs T fr e with e1 | ⟨x, y, rfl, e1⟩
  · rcases k.2.2 i cs T fr e1 with e2 | ⟨x, y, rfl, e2⟩
    · exact .inl e2
    · exact .inr ⟨x, y, rfl, e2⟩
  · rcases k.2.2 i _ T fr e1 with e2 | ⟨x', y', e3, e2⟩
    · exact .inr ⟨x, y, rfl, e2⟩
    · exact .inr ⟨x, y', rfl, e2⟩
theorem IK.ext {s0 : Nat} {A B : World} (h : Ext A B) (hs : s0 ≤ A.heap.size) : IK s0 A B :=
  ⟨h.mono hs, h.size, fun i cs T fr e => .inl ((h.block i (Array.getElem?_eq_some_iff.1 e).1).trans e)⟩
theorem IK.b {s0 : Nat} {w : World} (hn : s0 ≤ w.heap.size) (W : World) (l : Nat) (o o' : Obj) (hl : w.heap.size ≤ l) (h : W.heap[l]? = some o) (hc : o.isCells = false) (hw : o.isWalk = false) : IK s0 W (W.putObj l o') := by
  refine ⟨belowK_b hn W l o o' hl h hc hw, (grownBy_putObj' W l o').size, fun i cs T fr e => .inl ?_⟩
  by_cases hi : i = l
  · subst hi; rw [h] at e; cases e; simp [Obj.isCells] at hc
  · exact (World.putObj_heap_other hi).trans e
/-- The box of a number is written. -/
theorem IK.set {s0 : Nat} {W : World} {g : Nat} {T : TypeId} {k : Int} (h : Bx W g #[.int .i64 k] T) (hs : s0 ≤ g) (k' : Int) : IK s0 W (W.setCell ⟨g, 0, none⟩ (.int .i64 k')) := by
  refine ⟨Below.setCell (p := ⟨g, 0, none⟩) (Below.refl _ W) hs _, by simp, fun i cs T' fr e => ?_⟩
  by_cases hi : i = g
  · subst hi
    have h2 := h.put 0 (.int .i64 k')
    unfold Bx at h h2
    rw [h] at e
    cases e
    exact .inr ⟨k, k', rfl, h2⟩
  · exact .inl ((Below.heap_setCell W ⟨g, 0, none⟩ _ i hi).trans e)
theorem cell_block {W : World} {b i : Nat} {v : Value} (h : W.cell? ⟨b, i, none⟩ = some v) : ∃ (cs : Array Value) (T : TypeId) (fr : Nat × Nat), W.heap[b]? = some (Obj.cells cs T fr) ∧ cs[i]? = some v := by
  unfold World.cell? at h
  split at h
  · rename_i c T fr e
    exact ⟨c, T, fr, e, by simpa using h⟩
  · cases h
/-- A cell that holds no number is kept. -/
theorem IK.cell {s0 : Nat} {W W' : World} (h : IK s0 W W') {b i : Nat} {v : Value} (hc : W.cell? ⟨b, i, none⟩ = some v) (hv : ∀ k, v ≠ .int .i64 k) : W'.cell? ⟨b, i, none⟩ = some v := by
  obtain ⟨cs, T, fr, e, hi⟩ := cell_block hc
  rcases h.2.2 b cs T fr e with e2 | ⟨k, k', rfl, e2⟩
  · exact (World.cell?_of_block (w := W) (w' := W') (a := ⟨b, i, none⟩) (e2.trans e.symm)).trans hc
  · exfalso
    obtain ⟨hlt, hk⟩ := Array.getElem?_eq_some_iff.1 hi
    have : i = 0 := by simpa using hlt
    subst this
    exact hv k hk.symm
theorem PS.ik {s0 : Nat} {W W' : World} {v : Value} {p : Pl} (h : PS W v p) (hk : IK s0 W W') : PS W' v p := by
  obtain ⟨A, c, rfl, h1, h2, h3⟩ := h
  refine ⟨A, c, rfl, h1, h2, fun j hj => ?_⟩
  obtain ⟨b, off, e, hb, hc⟩ := h3 j hj
  exact ⟨b, off, e, Nat.lt_of_lt_of_le hb hk.2.1, hk.cell hc fun k e => by cases e⟩
end Go.Proofs.YtadimepmoljnpaaGreatDoor.GB

namespace Go.Proofs.YtadimepmoljnpaaGreatDoor.GB
set_option linter.unusedVariables false
set_option linter.unusedSimpArgs false
open Go.RowKit Go.Shelf
attribute [local go_sem ↓] Go.wp_at_zero Go.wp_at_succ
/-- A new counter: two boxes of 0. -/
def cnt0 (s : Nat) : Value := .func (.func 137) #[] #[.pointer (some ⟨s, 0, none⟩), .pointer (some ⟨s + 1, 0, none⟩)]
set_option maxHeartbeats 8000000 in
set_option maxRecDepth 200000 in
theorem chg_new (w : World) : Calls Tryz.prog 93 #[] w fun e w' => e = .returned (cnt0 w.heap.size) ∧ w' = (w.alloc (.cells #[.int .i64 0] 3)).alloc (.cells #[.int .i64 0] 3) := by
  have b1 := (Bx.new w #[.int .i64 0] 3).al (.cells #[.int .i64 0] 3)
  have b2 := Bx.new (w.alloc (.cells #[.int .i64 0] 3)) #[.int .i64 0] 3
  rw [World.size_alloc] at b2
  go_enter Tryz.func93, Tryz.ntmps93
  go_wp2_with fail
  go_ret
  exact ⟨rfl, rfl⟩
/-- Of the blocks that were, only g and h may have been written. -/
structure Far (s0 g h : Nat) (w w' : World) : Prop where
  b : Below s0 w w'
  s : w.heap.size ≤ w'.heap.size
  o : ∀ i, i < w.heap.size → i ≠ g → i ≠ h → w'.heap[i]? = w.heap[i]?
theorem Far.ext {s0 g h : Nat} {w w' : World} (hE : Ext w w') (hs : s0 ≤ w.heap.size) : Far s0 g h w w' := ⟨hE.mono hs, hE.size, fun i hi _ _ => hE.block i hi⟩
theorem Far.set {s0 g h : Nat} {w w' : World} (hF : Far s0 g h w w') (k : Nat) (hk : k = g ∨ k = h) (h0 : s0 ≤ k) (v : Value) : Far s0 g h w (w'.setCell ⟨k, 0, none⟩ v) := by
  refine ⟨Below.setCell (p := ⟨k, 0, none⟩) hF.b h0 _, by have := hF.s; simp; omega, fun i hi h1 h2 => ?_⟩
  exact (Below.heap_setCell w' ⟨k, 0, none⟩ v i (by rcases hk with rfl | rfl <;> assumption)).trans (hF.o i hi h1 h2)
set_option maxHeartbeats 8000000 in
set_option maxRecDepth 200000 in
theorem chg_one (x : Rat) (n : Nat) (w : World) (hW : Wd w) (hx : Bd x n) (hk : n + 4 ≤ KK) (g h s0 : Nat) (hgh : g ≠ h) (h0 : s0 ≤ g) (h1 : s0 ≤ h) (a b : Int) (ha : -1 ≤ a ∧ a ≤ 1) (hb : 0 ≤ b ∧ b ≤ 1000) (hg : Bx w g #[.int .i64 a] 3) (hh : Bx w h #[.int .i64 b] 3) :
    Calls Tryz.prog 137 #[rtx x, .pointer (some ⟨g, 0, none⟩), .pointer (some ⟨h, 0, none⟩)] w fun e w' => e = .returned (.int .i64 (chg (a, b) (sgq x.num)).2) ∧ Bx w' g #[.int .i64 (chg (a, b) (sgq x.num)).1] 3 ∧ Bx w' h #[.int .i64 (chg (a, b) (sgq x.num)).2] 3 ∧ Far s0 g h w w' := by
  have hc := rCompare_q x 0 n 2 w hW hx (by decide +kernel) (by omega)
  rw [cmpR_zero] at hc
  have e0 : rtx 0 = .string ⟨#[48]⟩ := by rw [← rb_v, rb0]
  rw [e0] at hc
  have hsb := sgq_b x.num
  have HC := Lib.hid hc
  have hgs : s0 ≤ w.heap.size := by have := hg.lt; omega
  clear hc hW hx hk e0
  generalize sgq x.num = s at *
  unfold rtx at *
  generalize (⟨(rtext x).toArray⟩ : ByteArray) = t at *
  have HG := Lib.hid hg
  have HH := Lib.hid hh
  clear hg hh
  rcases Int.lt_trichotomy s 0 with hs | hs | hs
  · have e1 : (s == 0) = false := by rw [beq_eq_false_iff_ne]; omega
    by_cases hl : s = -a
    · have e2 : (s == -a) = true := by rw [beq_iff_eq]; omega
      have e3 : chg (a, b) s = (s, b + 1) := by unfold chg; rw [if_neg (by omega), if_pos hl]
      rw [e3]
      clear hl e3
      go_enter Tryz.func137, Tryz.ntmps137
      go_wp2_with fail
      refine HC.out.mono ?_
      rintro e w1 ⟨rfl, hE⟩
      have bg := HG.out.ext hE
      have bh := HH.out.ext hE
      have F1 := Far.ext (g := g) (h := h) hE hgs
      have cg : w1.cell? ⟨g, 0, none⟩ = some (.int .i64 a) := bg.c 0
      have ch : w1.cell? ⟨h, 0, none⟩ = some (.int .i64 b) := bh.c 0
      have fg := bg.f 0
      have fh := bh.f 0
      have HF := Lib.hid F1
      have HBg := Lib.hid bg
      have HBh := Lib.hid bh
      clear bg bh F1 hE
      have k1 := HBh.out.put 0 (.int .i64 (b + 1))
      have k2 := HBg.out.set (p := ⟨h, 0, none⟩) hgh (.int .i64 (b + 1))
      have k3 := k2.put 0 (.int .i64 s)
      have k4 := k1.set (p := ⟨g, 0, none⟩) (Ne.symm hgh) (.int .i64 s)
      have fg2 := k2.f 0
      have ch2 : ((w1.setCell ⟨h, 0, none⟩ (.int .i64 (b + 1))).setCell ⟨g, 0, none⟩ (.int .i64 s)).cell? ⟨h, 0, none⟩ = some (.int .i64 (b + 1)) := k4.c 0
      have HK3 := Lib.hid k3
      have HK4 := Lib.hid k4
      have HF2 := Lib.hid ((HF.out.set h (.inr rfl) h1 (.int .i64 (b + 1))).set g (.inl rfl) h0 (.int .i64 s))
      clear k1 k2 k3 k4
      go_wp2_with fail
      go_ret
      exact ⟨rfl, HK3.out, HK4.out, HF2.out⟩
    · have e2 : (s == -a) = false := by rw [beq_eq_false_iff_ne]; omega
      have e3 : chg (a, b) s = (s, b) := by unfold chg; rw [if_neg (by omega), if_neg hl]
      rw [e3]
      clear hl e3
      go_enter Tryz.func137, Tryz.ntmps137
      go_wp2_with fail
      refine HC.out.mono ?_
      rintro e w1 ⟨rfl, hE⟩
      have bg := HG.out.ext hE
      have bh := HH.out.ext hE
      have F1 := Far.ext (g := g) (h := h) hE hgs
      have cg : w1.cell? ⟨g, 0, none⟩ = some (.int .i64 a) := bg.c 0
      have ch : w1.cell? ⟨h, 0, none⟩ = some (.int .i64 b) := bh.c 0
      have fg := bg.f 0
      have fh := bh.f 0
      have HF := Lib.hid F1
      have HBg := Lib.hid bg
      have HBh := Lib.hid bh
      clear bg bh F1 hE
      have k3 := HBg.out.put 0 (.int .i64 s)
      have k4 := HBh.out.set (p := ⟨g, 0, none⟩) (Ne.symm hgh) (.int .i64 s)
      have ch2 : (w1.setCell ⟨g, 0, none⟩ (.int .i64 s)).cell? ⟨h, 0, none⟩ = some (.int .i64 b) := k4.c 0
      have HK3 := Lib.hid k3
      have HK4 := Lib.hid k4
      have HF2 := Lib.hid (HF.out.set g (.inl rfl) h0 (.int .i64 s))
      clear k3 k4
      go_wp2_with fail
      go_ret
      exact ⟨rfl, HK3.out, HK4.out, HF2.out⟩
  · subst hs
    have e3 : chg (a, b) 0 = (a, b) := by unfold chg; rw [if_pos rfl]
    rw [e3]
    clear e3
    go_enter Tryz.func137, Tryz.ntmps137
    go_wp2_with fail
    refine HC.out.mono ?_
    rintro e w1 ⟨rfl, hE⟩
    have bg := HG.out.ext hE
    have bh := HH.out.ext hE
    have F1 := Far.ext (g := g) (h := h) hE hgs
    have cg : w1.cell? ⟨g, 0, none⟩ = some (.int .i64 a) := bg.c 0
    have ch : w1.cell? ⟨h, 0, none⟩ = some (.int .i64 b) := bh.c 0
    have fg := bg.f 0
    have fh := bh.f 0
    have HF := Lib.hid F1
    have HBg := Lib.hid bg
    have HBh := Lib.hid bh
    clear bg bh F1 hE
    go_wp2_with fail
    go_ret
    exact ⟨rfl, HBg.out, HBh.out, HF.out⟩
  · have e1 : (s == 0) = false := by rw [beq_eq_false_iff_ne]; omega
    by_cases hl : s = -a
    · have e2 : (s == -a) = true := by rw [beq_iff_eq]; omega
      have e3 : chg (a, b) s = (s, b + 1) := by unfold chg; rw [if_neg (by omega), if_pos hl]
      rw [e3]
      clear hl e3
      go_enter Tryz.func137, Tryz.ntmps137
      go_wp2_with fail
      refine HC.out.mono ?_
      rintro e w1 ⟨rfl, hE⟩
      have bg := HG.out.ext hE
      have bh := HH.out.ext hE
      have F1 := Far.ext (g := g) (h := h) hE hgs
      have cg : w1.cell? ⟨g, 0, none⟩ = some (.int .i64 a) := bg.c 0
      have ch : w1.cell? ⟨h, 0, none⟩ = some (.int .i64 b) := bh.c 0
      have fg := bg.f 0
      have fh := bh.f 0
      have HF := Lib.hid F1
      have HBg := Lib.hid bg
      have HBh := Lib.hid bh
      clear bg bh F1 hE
      have k1 := HBh.out.put 0 (.int .i64 (b + 1))
      have k2 := HBg.out.set (p := ⟨h, 0, none⟩) hgh (.int .i64 (b + 1))
      have k3 := k2.put 0 (.int .i64 s)
      have k4 := k1.set (p := ⟨g, 0, none⟩) (Ne.symm hgh) (.int .i64 s)
      have fg2 := k2.f 0
      have ch2 : ((w1.setCell ⟨h, 0, none⟩ (.int .i64 (b + 1))).setCell ⟨g, 0, none⟩ (.int .i64 s)).cell? ⟨h, 0, none⟩ = some (.int .i64 (b + 1)) := k4.c 0
      have HK3 := Lib.hid k3
      have HK4 := Lib.hid k4
      have HF2 := Lib.hid ((HF.out.set h (.inr rfl) h1 (.int .i64 (b + 1))).set g (.inl rfl) h0 (.int .i64 s))
      clear k1 k2 k3 k4
      go_wp2_with fail
      go_ret
      exact ⟨rfl, HK3.out, HK4.out, HF2.out⟩
    · have e2 : (s == -a) = false := by rw [beq_eq_false_iff_ne]; omega
      have e3 : chg (a, b) s = (s, b) := by unfold chg; rw [if_neg (by omega), if_neg hl]
      rw [e3]
      clear hl e3
      go_enter Tryz.func137, Tryz.ntmps137
      go_wp2_with fail
      refine HC.out.mono ?_
      rintro e w1 ⟨rfl, hE⟩
      have bg := HG.out.ext hE
      have bh := HH.out.ext hE
      have F1 := Far.ext (g := g) (h := h) hE hgs
      have cg : w1.cell? ⟨g, 0, none⟩ = some (.int .i64 a) := bg.c 0
      have ch : w1.cell? ⟨h, 0, none⟩ = some (.int .i64 b) := bh.c 0
      have fg := bg.f 0
      have fh := bh.f 0
      have HF := Lib.hid F1
      have HBg := Lib.hid bg
      have HBh := Lib.hid bh
      clear bg bh F1 hE
      have k3 := HBg.out.put 0 (.int .i64 s)
      have k4 := HBh.out.set (p := ⟨g, 0, none⟩) (Ne.symm hgh) (.int .i64 s)
      have ch2 : (w1.setCell ⟨g, 0, none⟩ (.int .i64 s)).cell? ⟨h, 0, none⟩ = some (.int .i64 b) := k4.c 0
      have HK3 := Lib.hid k3
      have HK4 := Lib.hid k4
      have HF2 := Lib.hid (HF.out.set g (.inl rfl) h0 (.int .i64 s))
      clear k3 k4
      go_wp2_with fail
      go_ret
      exact ⟨rfl, HK3.out, HK4.out, HF2.out⟩
theorem one_div_ne {a : Rat} (h : a ≠ 0) : 1 / a ≠ 0 := by
  rw [Rat.div_def, Rat.one_mul]
  intro e
  have := Rat.mul_inv_cancel a h
  rw [e, Rat.mul_zero] at this
  exact absurd this (by decide)
/-- The value lies in memory that was made since. -/
def FrV (w : World) (v : Value) : Prop := ∀ b, v.ownBlock = some b → w.heap.size ≤ b
theorem FrV.ext {w W : World} {v : Value} (h : FrV W v) (hE : Ext w W) : FrV w v := fun b hb => Nat.le_trans hE.size (h b hb)
theorem ptimes_f (v1 v2 : Value) (p r : Pl) (m n : Nat) (w : World) (hW : Wd w) (h1 : PS w v1 p) (h2 : PS w v2 r) (hp : PB p m) (hr : PB r n) (tp : Tr p) (tr : Tr r) (l1 : p.length ≤ 100000) (l2 : r.length ≤ 100000)
    (hk : (p.length + 1) * (m + n + 1) + (m + n) + 3 ≤ KK) :
    Calls Tryz.prog 73 #[v1, v2] w (RetQ (fun W v => PS W v (ptrim (pmul p r)) ∧ FrV w v) w) := by
  obtain ⟨A, ca, rfl⟩ := h1.sl
  obtain ⟨B, cb, rfl⟩ := h2.sl
  by_cases h0 : p.length = 0 ∨ r.length = 0
  · refine (ptimes_nil A B ca cb _ _ w h0).mono ?_
    rintro e w' ⟨rfl, rfl⟩
    have e0 : ptrim (pmul p r) = [] := by
      rcases h0 with h0 | h0
      · rw [List.eq_nil_of_length_eq_zero h0]; rfl
      · rw [List.eq_nil_of_length_eq_zero h0]
        exact tr_zero (tr_ptrim _) ((cf_ptrim _).trans (pmul_nil_r p))
    rw [e0]
    exact ⟨_, rfl, ⟨PS.nil w, fun b h => by cases h⟩, Ext.rfl' _⟩
  · refine (ptimes_some A B ca cb p r m n w hW (by omega) (by omega) l1 l2 h1 h2 hp hr _ rfl hk).mono ?_
    rintro e w' ⟨O, rfl, hl, hE, hb, hps, hx⟩
    have hO : O = ptrim (pmul p r) := by
      have hpt := (pmul_tr tp tr (by intro e; rw [e] at h0; simp at h0) (by intro e; rw [e] at h0; simp at h0)).1
      exact pl_ext (by rw [hl, hpt]) (hE.trans (cf_ptrim _).symm)
    rw [hO] at hps
    exact ⟨_, rfl, ⟨hps, fun b h => by simp [Value.ownBlock] at h; omega⟩, hx⟩
theorem Mul_f (v1 v2 : Value) (p r : Pl) (n m : Nat) (w : World) (hW : Wd w) (h1 : PO w v1 p n) (h2 : PO w v2 r m) (hl : p = [] ∨ r = [] ∨ p.length + r.length ≤ 18) (hk : 20 * (n + m + 1) + 20 ≤ KK) : Calls Tryz.prog 33 #[v1, v2] w (RetQ0 (fun W v => PS W v (ptrim (pmul p r)) ∧ FrV w v) w) := by
  have a1 := h1.va hW (by omega)
  have a2 := h2.va hW (by omega)
  have b1 := h1.2.2.2
  have b2 := h2.2.2.2
  have hkk : (p.length + 1) * (n + m + 1) + (n + m) + 3 ≤ KK := by
    have : (p.length + 1) * (n + m + 1) ≤ 18 * (n + m + 1) := Nat.mul_le_mul_right _ (by omega)
    omega
  have h3 : ∀ W, Ext w W → Calls Tryz.prog 72 #[.func (.func 73) #[] #[], v1, v2] W (RetQ0 (fun W v => PS W v (ptrim (pmul p r)) ∧ FrV w v) W) := fun W hE =>
    papply_times v1 v2 _ W (a1.ext hE) (a2.ext hE) fun W' hE' => (ptimes_f v1 v2 p r n m W' ((hW.ext hE).ext hE') ((h1.1.ext hE).ext hE') ((h2.1.ext hE).ext hE') h1.2.1 h2.2.1 h1.2.2.1 h2.2.2.1 (by omega) (by omega) hkk).mono fun e w' ⟨v, e1, ⟨e2, e3⟩, e4⟩ => ⟨v, e1, ⟨e2, e3.ext (hE.tr hE')⟩, e4⟩
  obtain ⟨A, ca, rfl⟩ := h1.1.sl
  obtain ⟨B, cb, rfl⟩ := h2.1.sl
  by_cases l1 : p.length = 0
  · exact PMul_a A B ca cb _ _ _ w a1 a2 (by omega) (by omega) l1 h3
  · by_cases l2 : r.length = 0
    · exact PMul_b A B ca cb _ _ _ w a1 a2 (by omega) (by omega) (by omega) l2 h3
    · refine PMul_c A B ca cb _ _ _ w a1 a2 (by omega) (by omega) (by omega) (by omega) ?_ h3
      rcases hl with rfl | rfl | hl
      · simp at l1
      · simp at l2
      · exact hl
def RetSF (p : Pl) (w : World) (e : Ending) (w' : World) : Prop := ∃ v s, e = .returned v ∧ PS w' v s ∧ SQ p s ∧ FrV w v ∧ Ext w w'
def RetSQ (p : Pl) (w : World) (e : Ending) (w' : World) : Prop := ∃ v s, e = .returned v ∧ PS w' v s ∧ SQ p s ∧ Ext w w'
theorem rb1' : rtx 1 = .string ⟨#[49]⟩ := by rw [← rb_v]; exact congrArg Value.string (rb_nat 1 (by decide))
set_option maxHeartbeats 8000000 in
set_option maxRecDepth 200000 in
theorem ssimp_f (v1 : Value) (p : Pl) (w : World) (hW : Wd w) (h : PO w v1 p 52) (hp : p ≠ []) (hl : p.length ≤ 6) :
    Calls Tryz.prog 44 #[v1] w (RetSF p w) := by
  have hd1 := pder_pb h.2.1 (by omega)
  have hd2 := pder_tr h.2.2.1
  have hd3 : (pder p).length ≤ 5 := by rw [pder_len]; omega
  have c1 := cb320 h.2.1 hl
  have c2 := cb360 h.2.1 hl
  have kk := kk10
  have H1 := Lib.hid h
  have HW := Lib.hid hW
  have HDr := Lib.hid (Derive_p v1 p 52 w hW h (by omega))
  have HG : Hid (∀ W v2, Ext w W → PS W v2 (pder p) → Calls Tryz.prog 82 #[v1, v2] W (RetQ0 (fun W v => ∃ d, PS W v d ∧ (GcdRel p (pder p) d ∧ CB d 60000)) W)) := fun W v2 hE h2 =>
    GCD_p v1 v2 p (pder p) 52 72 W (HW.out.ext hE) (H1.out.ext hE) ⟨h2, hd1, hd2, by omega⟩ 6 60000 320 360 c1 c2 (by omega) (by omega) (by omega) (gokS1 _ (by omega) _ (by omega))
  have HV : Hid (∀ W v2 d, Ext w W → PS W v2 d → GcdRel p (pder p) d → CB d 60000 → Calls Tryz.prog 83 #[v1, v2] W (fun e w' => ∃ v1 v2 q t, e = .returned (.tuple #[v1, v2, .int .i64 0]) ∧ (SimpP p (pmon q) ∧ Tr q ∧ q ≠ [] ∧ PB q 360400 ∧ q.length ≤ p.length) ∧ PS w' v1 q ∧ PS w' v2 t ∧ Ext W w')) := fun W v2 d hE h2 hg hc => by
    obtain ⟨c, hq⟩ := hg.dp
    have hd0 : d ≠ [] := by
      intro e; subst e
      exact hp (tr_zero h.2.2.1 hg.dp.of_nil)
    have hdl := dvd_len hg h.2.2.1 hp
    have hr := remS p.length (by omega) d.length (by omega)
    have hd0' : (d.length == 0) = false := by rw [beq_eq_false_iff_ne]; have := List.length_pos_iff.2 hd0; omega
    rw [hd0', Bool.false_or] at hr
    have hr := of_decide_eq_true hr
    refine (Div_p v1 v2 p d 52 60000 W (HW.out.ext hE) (H1.out.ext hE) ⟨h2, hc.pb, hg.tr, by omega⟩ 320 60000 c1 hc hd0 (by omega)).mono ?_
    rintro e w' ⟨u1, u2, q, t, rfl, hdr, ⟨hct, hpq⟩, hu1, hu2, hE2⟩
    obtain ⟨-, s1, -, s2⟩ := simp_quot hg h.2.2.1 hp hdr
    exact ⟨u1, u2, q, t, rfl, ⟨simp_of hg h.2.2.1 hp hdr, hdr.trq, s1, hpq.mono hr, s2⟩, hu1, hu2, hE2⟩
  clear hd1 hd2 hd3 c1 c2 h hW
  go_enter Tryz.func44, Tryz.ntmps44
  go_wp2_with fail
  refine HDr.out.mono ?_
  rintro e w1 ⟨v2, rfl, hv2, hE1⟩
  have HV2 := Lib.hid hv2
  have HE1 := Lib.hid hE1
  clear hE1 HDr hv2
  go_wp2_with fail
  refine (HG.out _ _ HE1.out HV2.out).mono ?_
  rintro e w2 ⟨v3, rfl, ⟨d, hv3, hg, hc⟩, hE2⟩
  have HV3 := Lib.hid hv3
  have HE2 := Lib.hid (HE1.out.tr hE2)
  have HGd := Lib.hid hg
  have HC := Lib.hid hc
  clear hv3 hE2 hg hc HV2 HE1
  go_wp2_with fail
  refine (HV.out _ _ d HE2.out HV3.out HGd.out HC.out).mono ?_
  rintro e w3 ⟨v4, v5, q, t, rfl, hS, hv4, hv5, hE3⟩
  have HE3 := Lib.hid (HE2.out.tr hE3)
  have H4 := Lib.hid hv4
  have HS := Lib.hid hS
  clear hS hE3 hv5 hv4 HV3 HE2 HGd HC HV HG
  obtain ⟨B, cb, rfl⟩ := H4.out.sl
  have hq0 := List.length_pos_iff.2 HS.out.2.2.1
  have hql : q.length ≤ 6 := Nat.le_trans HS.out.2.2.2.2 hl
  obtain ⟨p1, hp1⟩ : ∃ p1, q.length = p1 + 1 := ⟨q.length - 1, by omega⟩
  have HLd : Hid (lead q = cf q p1) := by unfold Hid lead; rw [hp1]; rfl
  obtain ⟨-, -, -, hcl⟩ := H4.out.cell
  obtain ⟨bb, fb, rfl, hbb, hcL⟩ := hcl p1 (by omega)
  rw [← HLd.out] at hcL
  have hl0 := lead_ne HS.out.2.1 HS.out.2.2.1
  have hlb : Bd (lead q) 360400 := HS.out.2.2.2.1.cf _
  have HX : Hid (Calls Tryz.prog 84 #[.string ⟨#[49]⟩, rtx (lead q)] w3 (RetR w3 (1 / lead q))) := by
    rw [← rb1']
    exact rDiv_q 1 (lead q) 2 360400 w3 (HW.out.ext HE3.out) (by decide +kernel) hlb hl0 (by omega)
  have HM : Hid (∀ W v, Ext w3 W → PS W v [1 / lead q] → Calls Tryz.prog 33 #[.slice (some ⟨bb, fb, none⟩) q.length cb, v] W (RetQ0 (fun W' v => PS W' v (pmon q) ∧ FrV W v) W)) := fun W v hE hv => by
    rw [← mul_last HS.out.2.1]
    have hb1 : Bd (1 / lead q) 360403 := (Bd.div (a := 1) (b := lead q) (m := 2) (n := 360400) (show Bd (1 : Rat) 2 by decide +kernel) hlb).mono (by omega)
    exact Mul_f _ _ q [1 / lead q] 360400 360403 W ((HW.out.ext HE3.out).ext hE) ⟨H4.out.ext hE, HS.out.2.2.2.1, HS.out.2.1, by omega⟩ ⟨hv, fun x hx => by rw [List.mem_singleton.1 hx]; exact hb1, by unfold Tr; simpa using one_div_ne hl0, by simp⟩ (.inr (.inr (by simp; omega))) (by omega)
  have HQ : Hid (SQ p (pmon q)) := ⟨q, rfl, HS.out.1, HS.out.2.1, HS.out.2.2.1, HS.out.2.2.2.1, HS.out.2.2.2.2⟩
  have hLit := fun W => SlS.lit W [rb (1 / lead q)] 24 (by simp)
  have HLit := Lib.hid hLit
  clear hLit hlb hl0 hcl hbb HS HLd H4 hp kk
  have HP1 := Lib.hid hp1
  clear hp1
  generalize q.length = ql at *
  have b1 : IntKind.i64.wrap ((ql : Int) - 1) = (ql : Int) - 1 := by rw [IntKind.wrap_i64]; omega
  have b2 : ((ql : Int) - 1).toNat = p1 := by have := HP1.out; omega
  have b3 : (0 : Int) ≤ (ql : Int) - 1 := by omega
  have b4 : (1 : Int) ≤ (ql : Int) := by omega
  have b5 : (ql : Int) - 1 < (ql : Int) := by omega
  have b6 : (ql : Int) - 1 ≤ (ql : Int) := by omega
  generalize lead q = L at *
  go_wp2_with fail
  refine HX.out.mono ?_
  rintro e w4 ⟨rfl, hE4⟩
  have HE4 := Lib.hid hE4
  clear hE4 b1 b2 b3 b4 b5 b6 hcL
  go_wp2_with fail
  have HL := HLit.out w4
  refine (HM.out _ _ (HE4.out.al _) HL).mono ?_
  rintro e w5 ⟨v6, rfl, ⟨hv6, hfr⟩, hE5⟩
  have HFr := Lib.hid (hfr.ext (HE3.out.tr (HE4.out.al (.cells #[rtx (1 / L)] 24))))
  have HE5 := Lib.hid ((HE3.out.tr (HE4.out.al _)).tr hE5)
  have H6 := Lib.hid hv6
  clear hv6 hE5 HL hfr
  go_wp2_with fail
  go_ret
  exact ⟨_, _, rfl, H6.out, HQ.out, HFr.out, HE5.out⟩
theorem ssimp_v (v1 : Value) (p : Pl) (w : World) (hW : Wd w) (h : PO w v1 p 52) (hp : p ≠ []) (hl : p.length ≤ 6) :
    Calls Tryz.prog 44 #[v1] w (RetSQ p w) :=
  (ssimp_f v1 p w hW h hp hl).mono fun e w' ⟨v, s, h1, h2, h3, _, h5⟩ => ⟨v, s, h1, h2, h3, h5⟩
end Go.Proofs.YtadimepmoljnpaaGreatDoor.GB

namespace Go.Proofs.YtadimepmoljnpaaGreatDoor.GB
set_option linter.unusedVariables false
set_option linter.unusedSimpArgs false
open Go.RowKit Go.Shelf
attribute [local go_sem] Oper.semAt_some
/-- What is yielded: a slice, and the polynomial that it stands for. -/
abbrev YP := Value × Pl
def encY (x : YP) : Array Value := #[x.1]
def RY (x : YP) (W : World) : Prop := PO W x.1 x.2 1000000000
theorem padd_nil_l (t : Pl) : PE (padd [] t) t := by
  intro i
  rw [cf_padd]
  have e : cf [] i = 0 := by unfold cf; rfl
  rw [e]; grind
/-- What the chain's loop holds. -/
def CI (p a b : Pl) (g : Nat) : Prop := a = [] ∨ (∃ n m f, SI a b n m f 1000000000 ∧ (f ≤ 6 ∧ a.length ≤ 6)) ∧ a.length + 1 ≤ g ∧ b.length < a.length
theorem schain_v (A : Option Addr) (n c : Nat) (w : World) : Calls Tryz.prog 94 #[.slice A n c] w fun e w' => e = .returned (.func (.func 138) #[] #[.pointer (some ⟨w.heap.size, 0, none⟩)]) ∧ w' = w.alloc (.cells #[.slice A n c] 23) := by
  go_enter Tryz.func94, Tryz.ntmps94
  go_wp2_with fail
  go_ret
  exact ⟨rfl, rfl⟩
set_option maxHeartbeats 8000000 in
set_option maxRecDepth 200000 in
theorem chain1_in (n : Nat) (hn : 1 ≤ n) (l Bs s0 : Nat) (v : Value) (p : Pl) (J : List YP → World → Prop)
    (hY : ∀ pre x W, J pre W → RY x W → pre.length < 7 → YieldAt Fence.wide (n - 1) Tryz.prog l (encY x) W fun e W' => e = .returned (.bool true) ∧ J (pre ++ [x]) W' ∧ IK s0 W W')
    (W : World) (hJ : ∀ pre A B, J pre A → Ext A B → W.heap.size ≤ A.heap.size → J pre B) (hBs : W.cell? ⟨Bs, 0, none⟩ = some v) (w0 : World) (hw0 : w0.heap.size = s0) (hE : Below s0 w0 W) (hW : Wd w0) (hps : PS W v p) (hp0 : p ≠ []) (hl : p.length ≤ 6) (hsi : SI p (pder p) 5000000 5000000 6 1000000000) (h0 : J [] W) :
    CallsIn Fence.wide n Tryz.prog 138 #[.func (.yield l) #[] #[], .pointer (some ⟨Bs, 0, none⟩)] W fun e W' => (∃ v, e = .returned v) ∧ ∃ xs : List YP, xs.map Prod.snd = chainP p ∧ J xs W' := by
  have hE0 : ∀ X, Below s0 w0 X → Wd X := fun X h => hW.ext (by unfold Ext; rw [hw0]; exact h)
  have hsz : s0 ≤ W.heap.size := by rw [← hw0]; exact hE.size
  have kk := kk10
  have hps0 := hsi.ca.pb
  have hpo : PO W v p 5000000 := ⟨hps, hps0, hsi.ta, by omega⟩
  have HW := Lib.hid hE0
  have HDr := Lib.hid (Derive_p v p 5000000 W (hE0 W hE) hpo (by omega))
  have HJ := Lib.hid hJ
  have HY := Lib.hid hY
  have HSI := Lib.hid hsi
  have HPS := Lib.hid hps
  have HP0 := Lib.hid hp0
  have HJ0 := Lib.hid h0
  have HB := Lib.hid hE
  clear hW hE0 hJ hY hsi hps hps0 hpo hp0 h0 hE
  refine callsIn_of_wp Tryz.func138 rfl trivial ?_ rfl
  simp only [Tryz.ntmps138, List.size_toArray, List.length_cons, List.length_nil, Nat.reduceAdd, Nat.reduceSub, Array.replicate_succ, Array.replicate_zero, List.push_toArray, List.append_toArray, List.nil_append, List.cons_append]
  gi_wp2
  refine ⟨trivial, ?_⟩
  refine (callsIn_wide.2 HDr.out).mono ?_
  rintro e w1 ⟨v2, rfl, hv2, hE1⟩
  have HJ1 := Lib.hid (HJ.out _ _ _ HJ0.out hE1 (Nat.le_refl _))
  have H1 := Lib.hid (HPS.out.ext hE1)
  have H2 := Lib.hid hv2
  have HB1 := Lib.hid (HB.out.trans (hE1.mono hsz))
  have hs1 : W.heap.size ≤ w1.heap.size := hE1.size
  clear hE1 hv2 HDr HJ0 HB hBs HPS
  gi_wp2
  gi_loopw [3, 4] (fun a b wr => ∃ (A B : Pl) (g : Nat) (pre : List YP), Hid (PS wr a A) ∧ Hid (PS wr b B) ∧ Hid (CI p A B g) ∧ Hid (pre.map Prod.snd ++ sch g A B = chainP p) ∧ Hid (pre.length + g = p.length + 1) ∧ Hid (J pre wr) ∧ Hid (Below s0 w0 wr) ∧ W.heap.size ≤ wr.heap.size) (fun a _ _ => match a with | .slice _ l _ => l | _ => 0)
  case atStart =>
    refine ⟨p, pder p, p.length + 1, [], H1, H2, .inr ⟨⟨_, _, _, HSI.out, by omega, hl⟩, Nat.le_refl _, ?_⟩, ?_, ?_, HJ1, HB1, hs1⟩
    · rw [pder_len]; have := List.length_pos_iff.2 HP0.out; omega
    · rfl
    · unfold Hid; simp
  case round =>
    clear H1 H2 HJ1 HB1 hs1 HSI HP0
    obtain ⟨A, B, g, pre, HA, HBv, HC, HS, HG, HJr, HBr, hsr⟩ := hrel
    obtain ⟨Aa, ca, rfl⟩ := HA.out.sl
    obtain ⟨Ba, cb, rfl⟩ := HBv.out.sl
    by_cases hA : A = []
    · subst hA
      have HX : Hid (pre.map Prod.snd = chainP p) := by
        have := HS.out; rw [sch_nil, List.append_nil] at this; exact this
      simp only [List.length_nil]
      gi_wp2
      refine ⟨fun _ h => (by cases h), ?_⟩
      gi_wp2
      go_end0
      exact ⟨⟨_, rfl⟩, pre, HX.out, HJr.out⟩
    · rcases HC.out with h | ⟨⟨n1, m1, f1, hsi, hf6, ha6⟩, hag, hba⟩
      · exact absurd h hA
      have la0 := List.length_pos_iff.2 hA
      obtain ⟨g', hg'⟩ : ∃ g', g = g' + 1 := ⟨g - 1, by omega⟩
      subst hg'
      have HSI := Lib.hid hsi
      have hbn := hsi.bits
      have HPA : Hid (PO wr (.slice Aa A.length ca) A 1000000000) := ⟨HA.out, hsi.ca.pb.mono hbn, hsi.ta, by omega⟩
      obtain ⟨fn, tmps, assign, body, hy, hR⟩ := HY.out pre (.slice Aa A.length ca, A) wr HJr.out HPA.out (by have := HG.out; omega)
      simp only [encY] at hy
      have HRd := Lib.hid hR
      have HAl := Lib.hid la0
      have HA0 := Lib.hid hA
      have HBA := Lib.hid hba
      have HF := Lib.hid (And.intro hf6 (And.intro ha6 hag))
      clear hR hsi hba hf6 hag hA HC
      have lal : (0 : Int) < (A.length : Int) := by omega
      clear la0
      by_cases hB : B = []
      · subst hB
        have HX : Hid ((pre ++ [((.slice Aa A.length ca, A) : YP)]).map Prod.snd ++ sch g' [] [] = chainP p) := by
          have := HS.out
          rw [sch_last HA0.out] at this
          rw [sch_nil, List.append_nil, List.map_append]; exact this
        simp only [List.length_nil]
        gi_wp2
        refine HRd.out.mono ?_
        rintro e W3 ⟨rfl, hJ3, hk3⟩
        have HB3 := Lib.hid (HBv.out.ik hk3)
        have HJ3 := Lib.hid hJ3
        have HBl3 := Lib.hid (HBr.out.trans hk3.1)
        have hs3 : W.heap.size ≤ W3.heap.size := Nat.le_trans hsr hk3.2.1
        clear hJ3 hk3
        gi_wp2
        go_roundw
        case rel => exact ⟨[], [], g', _, HB3, SlS.nil _, .inl rfl, HX, by have := HG.out; unfold Hid; rw [List.length_append, List.length_singleton]; omega, HJ3, HBl3, hs3⟩
        case measure => exact HAl.out
      · have lb0 := List.length_pos_iff.2 hB
        have hb2 := HSI.out.bits2 hB
        obtain ⟨⟨f', hf'⟩, hm, hr⟩ := hb2
        subst hf'
        have HB0 := Lib.hid hB
        have lbl : (0 : Int) < (B.length : Int) := by omega
        have HPB : Hid (∀ X, PS X (.slice Ba B.length cb) B → PO X (.slice Ba B.length cb) B 1000000000) := fun X h => ⟨h, HSI.out.cb.pb.mono hm, HSI.out.tb, by have := HSI.out.lb; omega⟩
        have HPA2 : Hid (∀ X, PS X (.slice Aa A.length ca) A → PO X (.slice Aa A.length ca) A 1000000000) := fun X h => ⟨h, HPA.out.2⟩
        have HDv : Hid (∀ X, Below s0 w0 X → PS X (.slice Aa A.length ca) A → PS X (.slice Ba B.length cb) B → Calls Tryz.prog 83 #[.slice Aa A.length ca, .slice Ba B.length cb] X (DivP0 A B (remB A.length n1 B.length m1) X)) := fun X hx h1 h2 =>
          Div_p _ _ A B 1000000000 1000000000 X (HW.out X hx) (HPA2.out X h1) (HPB.out X h2) n1 m1 HSI.out.ca HSI.out.cb HB0.out (by have := hr; omega)
        have HSb : Hid (∀ X t v, Below s0 w0 X → PS X v t → CB t (remB A.length n1 B.length m1) → Tr t → t.length ≤ 17 → Calls Tryz.prog 139 #[.slice none 0 0, v] X (RP0 (pneg t) X)) := fun X t v hx h1 h2 h3 h4 => by
          have h := Sub_p (.slice none 0 0) v [] t 0 1000000000 X (HW.out X hx) ⟨SlS.nil _, PB.nil 0, tr_nil, Nat.zero_le _⟩ ⟨h1, h2.pb.mono hr, h3, h4⟩ (by omega)
          rwa [ptrim_eq (padd_nil_l (pneg t)), ptrim_tr (tr_pneg h3)] at h
        clear hB lb0
        gi_wp2
        refine HRd.out.mono ?_
        rintro e W3 ⟨rfl, hJ3, hk3⟩
        have HB3 := Lib.hid (HBv.out.ik hk3)
        have HA3 := Lib.hid (HA.out.ik hk3)
        have HJ3 := Lib.hid hJ3
        have HBl3 := Lib.hid (HBr.out.trans hk3.1)
        have hs3 : W.heap.size ≤ W3.heap.size := Nat.le_trans hsr hk3.2.1
        clear hJ3 hk3 hr hm
        gi_wp2
        refine ⟨trivial, ?_⟩
        refine (callsIn_wide.2 (HDv.out _ HBl3.out HA3.out HB3.out)).mono ?_
        rintro e W4 ⟨v3, v4, q, t, rfl, hd, hb, hq, ht, hE4⟩
        have HD := Lib.hid hd
        have HT := Lib.hid ht
        have HCt := Lib.hid hb.1
        have HB4 := Lib.hid (HB3.out.ext hE4)
        have HJ4 := Lib.hid (HJ.out _ _ _ HJ3.out hE4 hs3)
        have HBl4 := Lib.hid (HBl3.out.trans (hE4.mono (Nat.le_trans hsz hs3)))
        have hs4 : W.heap.size ≤ W4.heap.size := Nat.le_trans hs3 hE4.size
        clear hd hb hq ht hE4
        gi_wp2
        refine ⟨trivial, ?_⟩
        refine (callsIn_wide.2 (HSb.out _ t v4 HBl4.out HT.out HCt.out HD.out.trt (by have := HD.out.lt; have := HSI.out.lb; omega))).mono ?_
        rintro e W5 ⟨v5, rfl, hv5, hE5⟩
        have HV5 := Lib.hid hv5
        have HB5 := Lib.hid (HB4.out.ext hE5)
        have HJ5 := Lib.hid (HJ.out _ _ _ HJ4.out hE5 hs4)
        have HBl5 := Lib.hid (HBl4.out.trans (hE5.mono (Nat.le_trans hsz hs4)))
        have hs5 : W.heap.size ≤ W5.heap.size := Nat.le_trans hs4 hE5.size
        clear hv5 hE5
        gi_wp2
        go_roundw
        case rel =>
          refine ⟨B, pneg t, g', _, HB5, HV5, .inr ⟨⟨_, _, f', HSI.out.step HB0.out HD.out HCt.out, by have := HF.out; omega, by have := HF.out; have := HBA.out; omega⟩, by have := HF.out; have := HBA.out; omega, by rw [pneg_len]; exact HD.out.lt⟩, ?_, ?_, HJ5, HBl5, hs5⟩
          · have := HS.out
            rw [sch_step HA0.out HSI.out.tb HD.out] at this
            unfold Hid
            rw [List.map_append, List.append_assoc]; exact this
          · have := HG.out; unfold Hid; rw [List.length_append, List.length_singleton]; omega
        case measure => exact HBA.out
/-- The chain's iterator keeps its promise. -/
theorem chain_R (n : Nat) (hn : 1 ≤ n) (Bs s0 : Nat) (v : Value) (p : Pl) (w0 w : World) (hw0 : w0.heap.size = s0) (hE : Below s0 w0 w) (hBs : Bs < w.heap.size) (hc : w.cell? ⟨Bs, 0, none⟩ = some v) (hW : Wd w0) (hps : PS w v p) (hp0 : p ≠ []) (hl : p.length ≤ 6) (hsi : SI p (pder p) 5000000 5000000 6 1000000000) :
    SeqR Fence.wide n Tryz.prog 138 #[.pointer (some ⟨Bs, 0, none⟩)] encY (IK s0) RY (fun xs => xs.map Prod.snd = chainP p) 7 w := fun l J W hW' hab hY h0 =>
  chain1_in n hn l Bs s0 v p J hY W (fun pre A B hj hE _ => hab pre A B none hj (ext_grown hE) (fun r e => by cases e)) ((hW'.cell (p := ⟨Bs, 0, none⟩) hBs).trans hc) w0 hw0 (hE.trans (hW'.mono (by have := hE.size; omega))) hW (hps.ext hW') hp0 hl hsi h0
end Go.Proofs.YtadimepmoljnpaaGreatDoor.GB

namespace Go.Proofs.YtadimepmoljnpaaGreatDoor.GB
set_option linter.unusedVariables false
set_option linter.unusedSimpArgs false
open Go
/-! A region that draws its order, inside a loop's round: as outside of it. -/
def noDefer (ops : Array Oper) : Bool := ops.all fun o => match o.op with
  | .defer _ => false
  | _ => true
theorem semAt_nd (l : Nat) (ρ : Operand → Value) (o : Oper) (h : ∀ c, o.op ≠ .defer c) : o.semAt (some l) ρ = o.semAt none ρ := by
  rw [Oper.semAt_some l ρ o h, Oper.semAt_none]
theorem noDefer_at {ops : Array Oper} (h : noDefer ops = true) {i : Nat} {o : Oper} (hi : ops[i]? = some o) : ∀ c, o.op ≠ .defer c := by
  intro c e
  obtain ⟨hlt, he⟩ := Array.getElem?_eq_some_iff.1 hi
  have := Array.all_eq_true.1 h i hlt
  rw [he, e] at this
  cases this
theorem wpOpIn_round {F : Fence} {n : Nat} {P : Program} {ops : Array Oper} {Q : Exit → Act → World → Prop} {i l : Nat} {K : Act → World → Prop} {a : Act} {w : World} (hro : F.round = none) (hd : noDefer ops = true) (h : wpOpIn F n P ops Q i K a w) : wpOpIn (F.inRound l) n P ops Q i K a w := by
  unfold wpOpIn at *
  cases ho : ops[i]? with
  | none => simp only [ho] at h ⊢; exact h
  | some o =>
    simp only [ho] at h ⊢
    split
    · rename_i hw
      simp only [hw, if_true] at h
      unfold Oper.wpIn at *
      refine ⟨h.1, ?_⟩
      have h2 := h.2
      rw [hro] at h2
      rw [Fence.inRound_round, semAt_nd l _ o (noDefer_at hd ho)]
      generalize (o.semAt none a.eval).run P w = r at *
      cases r with
      | ok x w' => cases x <;> exact h2
      | halt x w' => cases x <;> exact h2
    · rename_i hw
      simp only [hw] at h
      exact h
theorem wpAnyIn_round {F : Fence} {n : Nat} {P : Program} {md : Region.Mode} {ops : Array Oper} {Q : Exit → Act → World → Prop} {l : Nat} (hro : F.round = none) (hd : noDefer ops = true) :
    ∀ (fuel : Nat) (listed : Array Bool) (a : Act) (w : World), wpAnyIn F n P md ops Q fuel listed a w → wpAnyIn (F.inRound l) n P md ops Q fuel listed a w := by
  intro fuel
  induction fuel with
  | zero => intro listed a w h; exact h
  | succ fuel ih =>
    intro listed a w h
    refine ⟨h.1, fun i hi => ?_⟩
    exact wpOpIn_mono (fun a w => ih _ a w) (wpOpIn_round hro hd (h.2 i hi))
theorem wpIn_region_round {F : Fence} {n : Nat} {P : Program} {ops : Array Oper} {Q : Exit → Act → World → Prop} {id l : Nat} {a : Act} {w : World} (hro : F.round = none) (hm : P.follows .mixedOrders = true) (hd : noDefer ops = true)
    (h : wpAnyIn F n P .any ops Q ops.size (Array.replicate ops.size false) a w.drew) : (Code.region id ops true).wpIn (F.inRound l) n P Q a w :=
  wpIn_region_any hm (wpAnyIn_round hro hd _ _ _ _ h)
end Go.Proofs.YtadimepmoljnpaaGreatDoor.GB
