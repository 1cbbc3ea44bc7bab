import Derived.Test.YtbldlibijojbjaaGreatDoorMYy
import Derived.IntWalk
namespace Go.Proofs.YtbldlibijojbjaaGreatDoor.GB
set_option linter.unusedVariables false
set_option linter.unusedSimpArgs false

abbrev Pl := List Rat
def cf (p : Pl) (i : Nat) : Rat := p.getD i 0
def PE (p q : Pl) : Prop := ∀ i, cf p i = cf q i
theorem PE.rfl' (p : Pl) : PE p p := fun _ => rfl
theorem PE.symm {p q : Pl} (h : PE p q) : PE q p := fun i => (h i).symm
theorem PE.trans {p q r : Pl} (h : PE p q) (k : PE q r) : PE p r := fun i => (h i).trans (k i)
@[simp] theorem cf_nil (i : Nat) : cf [] i = 0 := by simp [cf]
@[simp] theorem cf_zero (x : Rat) (p : Pl) : cf (x :: p) 0 = x := by simp [cf]
@[simp] theorem cf_succ (x : Rat) (p : Pl) (i : Nat) : cf (x :: p) (i + 1) = cf p i := by simp [cf]
theorem cf_lt {p : Pl} {i : Nat} (h : i < p.length) : cf p i = p[i] := by simp [cf, h]
theorem cf_ge {p : Pl} {i : Nat} (h : p.length ≤ i) : cf p i = 0 := by simp [cf, h]
theorem PE.cons {x : Rat} {p q : Pl} (h : PE p q) : PE (x :: p) (x :: q) := fun i => by cases i <;> simp [h _]
theorem PE.tail {x y : Rat} {p q : Pl} (h : PE (x :: p) (y :: q)) : x = y ∧ PE p q := ⟨by simpa using h 0, fun i => by simpa using h (i + 1)⟩

/-! ### Without zeros at the end -/
def ptrim : Pl → Pl
  | [] => []
  | x :: p => match ptrim p with
    | [] => if x = 0 then [] else [x]
    | q => x :: q
def Tr (p : Pl) : Prop := p.getLast? ≠ some 0
theorem cf_ptrim (p : Pl) : PE (ptrim p) p := by
  induction p with
  | nil => exact PE.rfl' _
  | cons x p ih =>
    rw [ptrim]
    split
    · rename_i h
      rw [h] at ih
      split
      · rename_i h0; subst h0
        intro i; cases i with
        | zero => simp
        | succ i => have := ih i; simpa using this
      · exact PE.cons ih
    · exact PE.cons ih
theorem tr_nil : Tr [] := by simp [Tr]
theorem tr_cons {x : Rat} {p : Pl} (h : Tr (x :: p)) : Tr p := by
  unfold Tr at *; cases p with
  | nil => simp
  | cons y p => rwa [List.getLast?_cons_cons] at h
theorem tr_ptrim (p : Pl) : Tr (ptrim p) := by
  induction p with
  | nil => exact tr_nil
  | cons x p ih =>
    rw [ptrim]
    split
    · split
      · exact tr_nil
      · rename_i h; simp [Tr]; exact h
    · rename_i q hq
      cases hp : ptrim p with
      | nil => exact absurd hp hq
      | cons y q => unfold Tr; rw [List.getLast?_cons_cons, ← hp]; exact ih
theorem tr_zero {p : Pl} (h : Tr p) (h0 : PE p []) : p = [] := by
  induction p with
  | nil => rfl
  | cons x p ih =>
    have h1 := ih (tr_cons h) (fun i => by have := h0 (i + 1); simpa using this)
    subst h1
    have : x = 0 := by simpa using h0 0
    subst this; simp [Tr] at h
theorem tr_ext {p q : Pl} (hp : Tr p) (hq : Tr q) (h : PE p q) : p = q := by
  induction p generalizing q with
  | nil => exact (tr_zero hq h.symm).symm
  | cons x p ih =>
    cases q with
    | nil => exact tr_zero hp h
    | cons y q =>
      obtain ⟨rfl, h2⟩ := h.tail
      rw [ih (tr_cons hp) (tr_cons hq) h2]
theorem ptrim_tr {p : Pl} (h : Tr p) : ptrim p = p := tr_ext (tr_ptrim p) h (cf_ptrim p)
theorem ptrim_eq {p q : Pl} (h : PE p q) : ptrim p = ptrim q := tr_ext (tr_ptrim p) (tr_ptrim q) ((cf_ptrim p).trans (h.trans (cf_ptrim q).symm))
theorem ptrim_len (p : Pl) : (ptrim p).length ≤ p.length := by
  induction p with
  | nil => simp [ptrim]
  | cons x p ih =>
    rw [ptrim]; split
    · split <;> simp
    · simp; exact ih
theorem tr_len {p : Pl} (h : Tr p) (n : Nat) (hz : ∀ i, n ≤ i → cf p i = 0) : p.length ≤ n := by
  rcases Nat.lt_or_ge n p.length with hlt | hge
  · exfalso
    have hne : p ≠ [] := by intro e; subst e; simp at hlt
    have h1 := hz (p.length - 1) (by omega)
    rw [cf_lt (by omega)] at h1
    apply h
    rw [List.getLast?_eq_getElem?, List.getElem?_eq_getElem (by omega), h1]
  · exact hge
theorem tr_lead {p : Pl} (h : Tr p) (hne : p ≠ []) : cf p (p.length - 1) ≠ 0 := by
  have := List.length_pos_iff.2 hne
  intro h0
  have := tr_len h (p.length - 1) (fun i hi => by
    rcases Nat.eq_or_lt_of_le hi with e | e
    · rw [← e]; exact h0
    · exact cf_ge (by omega))
  omega

/-! ### Sums and products -/
def padd : Pl → Pl → Pl
  | [], b => b
  | a, [] => a
  | x :: a, y :: b => (x + y) :: padd a b
theorem cf_padd (a b : Pl) (i : Nat) : cf (padd a b) i = cf a i + cf b i := by
  induction a generalizing b i with
  | nil => cases b <;> simp [padd] <;> grind
  | cons x a ih =>
    cases b with
    | nil => simp [padd]; grind
    | cons y b => cases i <;> simp [padd, ih]
def psc (c : Rat) (p : Pl) : Pl := p.map (c * ·)
theorem cf_psc (c : Rat) (p : Pl) (i : Nat) : cf (psc c p) i = c * cf p i := by
  induction p generalizing i with
  | nil => simp [psc]
  | cons x p ih =>
    cases i with
    | zero => simp [psc]
    | succ i => have := ih i; simp [psc] at this ⊢; exact this
def pneg (p : Pl) : Pl := psc (-1) p
def pmul : Pl → Pl → Pl
  | [], _ => []
  | x :: a, b => padd (psc x b) (0 :: pmul a b)
theorem cf_pmul_zero (x : Rat) (a b : Pl) : cf (pmul (x :: a) b) 0 = x * cf b 0 := by rw [pmul, cf_padd, cf_psc]; simp; grind
theorem cf_pmul_succ (x : Rat) (a b : Pl) (i : Nat) : cf (pmul (x :: a) b) (i + 1) = x * cf b (i + 1) + cf (pmul a b) i := by rw [pmul, cf_padd, cf_psc]; simp
def pev : Pl → Rat → Rat
  | [], _ => 0
  | x :: a, t => x + t * pev a t
theorem PE.add {a b c d : Pl} (h : PE a c) (k : PE b d) : PE (padd a b) (padd c d) := fun i => by rw [cf_padd, cf_padd, h, k]
theorem PE.sc {a b : Pl} (c : Rat) (h : PE a b) : PE (psc c a) (psc c b) := fun i => by rw [cf_psc, cf_psc, h]
theorem pmul_zero_l {a : Pl} (h : PE a []) (b : Pl) : PE (pmul a b) [] := by
  induction a with
  | nil => exact PE.rfl' _
  | cons x a ih =>
    have h0 : x = 0 := by simpa using h 0
    have h1 := ih (fun i => by have := h (i + 1); simpa using this)
    intro i; cases i with
    | zero => rw [cf_pmul_zero, h0]; simp
    | succ i => rw [cf_pmul_succ, h0, h1 i]; simp; grind
theorem PE.mul_l {a c : Pl} (h : PE a c) (b : Pl) : PE (pmul a b) (pmul c b) := by
  induction a generalizing c with
  | nil => exact (pmul_zero_l h.symm b).symm
  | cons x a ih =>
    cases c with
    | nil => exact pmul_zero_l h b
    | cons y c =>
      obtain ⟨rfl, h2⟩ := h.tail
      intro i; cases i with
      | zero => rw [cf_pmul_zero, cf_pmul_zero]
      | succ i => rw [cf_pmul_succ, cf_pmul_succ, ih h2 i]
theorem PE.mul_r (a : Pl) {b d : Pl} (h : PE b d) : PE (pmul a b) (pmul a d) := by
  induction a with
  | nil => exact PE.rfl' _
  | cons x a ih =>
    intro i; cases i with
    | zero => rw [cf_pmul_zero, cf_pmul_zero, h]
    | succ i => rw [cf_pmul_succ, cf_pmul_succ, h, ih i]
theorem pmul_nil_r (a : Pl) : PE (pmul a []) [] := by
  induction a with
  | nil => exact PE.rfl' _
  | cons x a ih =>
    intro i; cases i with
    | zero => rw [cf_pmul_zero]; simp
    | succ i => rw [cf_pmul_succ, ih i]; simp; grind
theorem pmul_cons_r (a : Pl) (y : Rat) (b : Pl) : PE (pmul a (y :: b)) (padd (psc y a) (0 :: pmul a b)) := by
  induction a with
  | nil => intro i; simp [pmul, psc, padd]; cases i <;> simp
  | cons x a ih =>
    intro i; cases i with
    | zero => rw [cf_pmul_zero, cf_padd, cf_psc]; simp; grind
    | succ i =>
      rw [cf_pmul_succ, cf_padd, cf_psc, ih i, cf_padd, cf_psc]
      simp
      cases i with
      | zero => rw [cf_pmul_zero]; simp; grind
      | succ i => rw [cf_pmul_succ]; simp; grind
theorem pmul_comm (a b : Pl) : PE (pmul a b) (pmul b a) := by
  induction a with
  | nil => exact (pmul_nil_r b).symm
  | cons x a ih =>
    intro i
    rw [pmul_cons_r b x a i, pmul, cf_padd, cf_padd]
    cases i with
    | zero => simp
    | succ i => simp [ih i]
theorem pmul_add_l (a b c : Pl) : PE (pmul (padd a b) c) (padd (pmul a c) (pmul b c)) := by
  induction a generalizing b with
  | nil => intro i; simp [padd, pmul]
  | cons x a ih =>
    cases b with
    | nil => intro i; rw [cf_padd]; simp [padd, pmul]; grind
    | cons y b =>
      intro i
      rw [cf_padd, padd]
      cases i with
      | zero => rw [cf_pmul_zero, cf_pmul_zero, cf_pmul_zero]; grind
      | succ i => rw [cf_pmul_succ, cf_pmul_succ, cf_pmul_succ, ih b i, cf_padd]; grind
theorem pmul_add_r (a b c : Pl) : PE (pmul a (padd b c)) (padd (pmul a b) (pmul a c)) :=
  (pmul_comm _ _).trans ((pmul_add_l b c a).trans ((pmul_comm b a).add (pmul_comm c a)))
theorem pmul_sc_l (k : Rat) (a b : Pl) : PE (pmul (psc k a) b) (psc k (pmul a b)) := by
  induction a with
  | nil => exact PE.rfl' _
  | cons x a ih =>
    intro i
    have e : psc k (x :: a) = (k * x) :: psc k a := rfl
    rw [cf_psc, e]
    cases i with
    | zero => rw [cf_pmul_zero, cf_pmul_zero]; grind
    | succ i => rw [cf_pmul_succ, cf_pmul_succ, ih i, cf_psc]; grind
theorem pmul_sc_r (k : Rat) (a b : Pl) : PE (pmul a (psc k b)) (psc k (pmul a b)) :=
  (pmul_comm _ _).trans ((pmul_sc_l k b a).trans (PE.sc k (pmul_comm b a)))
theorem pmul_shift_l (a b : Pl) : PE (pmul (0 :: a) b) (0 :: pmul a b) := by
  intro i; cases i with
  | zero => rw [cf_pmul_zero]; simp
  | succ i => rw [cf_pmul_succ]; simp; grind
theorem pmul_assoc (a b c : Pl) : PE (pmul (pmul a b) c) (pmul a (pmul b c)) := by
  induction a with
  | nil => exact PE.rfl' _
  | cons x a ih =>
    rw [pmul, pmul]
    refine (pmul_add_l _ _ c).trans (PE.add (pmul_sc_l x b c) ?_)
    exact (pmul_shift_l _ c).trans (PE.cons ih)
end Go.Proofs.YtbldlibijojbjaaGreatDoor.GB

namespace Go.Proofs.YtbldlibijojbjaaGreatDoor.GB
set_option linter.unusedVariables false
set_option linter.unusedSimpArgs false

theorem cf_pmul_high (a b : Pl) (i : Nat) (h : a.length + b.length ≤ i + 1) : cf (pmul a b) i = 0 := by
  induction a generalizing i with
  | nil => simp [pmul]
  | cons x a ih =>
    simp only [List.length_cons] at h
    cases i with
    | zero =>
      rw [cf_pmul_zero, cf_ge (by omega)]; grind
    | succ i =>
      rw [cf_pmul_succ, cf_ge (by omega), ih i (by omega)]; grind
theorem cf_pmul_top (a b : Pl) (m n : Nat) (ha : a.length = m + 1) (hb : b.length = n + 1) : cf (pmul a b) (m + n) = cf a m * cf b n := by
  induction a generalizing m with
  | nil => simp at ha
  | cons x a ih =>
    cases m with
    | zero =>
      have : a = [] := List.length_eq_zero_iff.1 (by simpa using ha)
      subst this
      rw [Nat.zero_add, cf_zero]
      cases n with
      | zero => rw [cf_pmul_zero]
      | succ n => rw [cf_pmul_succ]; simp [pmul]; grind
    | succ m =>
      simp only [List.length_cons] at ha
      rw [show m + 1 + n = (m + n) + 1 by omega, cf_pmul_succ, ih m (by omega), cf_ge (by omega), cf_succ]; grind
def lead (p : Pl) : Rat := cf p (p.length - 1)
theorem lead_ne {p : Pl} (h : Tr p) (hne : p ≠ []) : lead p ≠ 0 := tr_lead h hne
/-- The product of trimmed polynomials. -/
theorem pmul_tr {a b : Pl} (ha : Tr a) (hb : Tr b) (h1 : a ≠ []) (h2 : b ≠ []) : (ptrim (pmul a b)).length = a.length + b.length - 1 ∧ lead (ptrim (pmul a b)) = lead a * lead b := by
  have l1 := List.length_pos_iff.2 h1
  have l2 := List.length_pos_iff.2 h2
  have ht := cf_pmul_top a b (a.length - 1) (b.length - 1) (by omega) (by omega)
  have hne : cf a (a.length - 1) * cf b (b.length - 1) ≠ 0 := by
    have e1 := lead_ne ha h1; have e2 := lead_ne hb h2
    unfold lead at e1 e2
    intro h0
    rcases Rat.mul_eq_zero.1 h0 with h | h
    · exact e1 h
    · exact e2 h
  have hle : (ptrim (pmul a b)).length ≤ a.length + b.length - 1 := tr_len (tr_ptrim _) _ (fun i hi => by rw [cf_ptrim]; exact cf_pmul_high a b i (by omega))
  have hge : a.length - 1 + (b.length - 1) < (ptrim (pmul a b)).length := by
    rcases Nat.lt_or_ge (a.length - 1 + (b.length - 1)) (ptrim (pmul a b)).length with h | h
    · exact h
    · have := cf_ge h; rw [cf_ptrim, ht] at this; exact absurd this hne
  have e : (ptrim (pmul a b)).length = a.length + b.length - 1 := by omega
  refine ⟨e, ?_⟩
  unfold lead
  rw [e, cf_ptrim, show a.length + b.length - 1 - 1 = a.length - 1 + (b.length - 1) by omega, ht]
/-! ### Division -/
structure DivRel (p r q t : Pl) : Prop where
  trq : Tr q
  trt : Tr t
  lt : t.length < r.length
  eq : PE p (padd (pmul q r) t)
theorem cf_pneg (p : Pl) (i : Nat) : cf (pneg p) i = - cf p i := by unfold pneg; rw [cf_psc]; grind
theorem DivRel.uniq {p r q t q' t' : Pl} (hr : Tr r) (h : DivRel p r q t) (k : DivRel p r q' t') : q = q' ∧ t = t' := by
  have hrn : r ≠ [] := by intro e; have := h.lt; rw [e] at this; simp at this
  -- (q - q') r = t' - t
  have e1 : PE (pmul (padd q (pneg q')) r) (padd t' (pneg t)) := by
    intro i
    have h1 := h.eq i; have h2 := k.eq i
    rw [cf_padd] at h1 h2
    have h3 := pmul_add_l q (pneg q') r i
    rw [cf_padd] at h3
    have h4 := pmul_sc_l (-1) q' r i
    rw [cf_psc] at h4
    rw [h3, cf_padd, cf_pneg]
    have h5 : cf (pmul (pneg q') r) i = -1 * cf (pmul q' r) i := h4
    rw [h5]; grind
  have hq : q = q' := by
    refine tr_ext h.trq k.trq ?_
    have hd : ptrim (padd q (pneg q')) = [] := by
      by_cases hn : ptrim (padd q (pneg q')) = []
      · exact hn
      · exfalso
        have h6 := pmul_tr (tr_ptrim (padd q (pneg q'))) hr hn hrn
        have h7 : ptrim (pmul (ptrim (padd q (pneg q'))) r) = ptrim (padd t' (pneg t)) := ptrim_eq ((PE.mul_l (cf_ptrim _) r).trans e1)
        have h8 : (ptrim (padd t' (pneg t))).length ≤ r.length - 1 := tr_len (tr_ptrim _) _ (fun i hi => by
          have := h.lt; have := k.lt
          rw [cf_ptrim, cf_padd, cf_pneg, cf_ge (by omega), cf_ge (by omega)]; grind)
        have l1 := List.length_pos_iff.2 hn
        have l2 := List.length_pos_iff.2 hrn
        rw [h7] at h6
        omega
    intro i
    have h9 := cf_ptrim (padd q (pneg q')) i
    rw [hd, cf_padd, cf_pneg] at h9
    simp at h9; grind
  refine ⟨hq, tr_ext h.trt k.trt ?_⟩
  subst hq
  intro i
  have h1 := h.eq i; have h2 := k.eq i
  rw [cf_padd] at h1 h2
  grind

/-! ### The greatest common divisor -/
def Dvd (d p : Pl) : Prop := ∃ c, PE p (pmul c d)
structure GcdRel (p r d : Pl) : Prop where
  tr : Tr d
  monic : d = [] ∨ lead d = 1
  dp : Dvd d p
  dr : Dvd d r
  bez : ∃ a b, PE d (padd (pmul a p) (pmul b r))
theorem pmul_one (p : Pl) : PE (pmul [1] p) p := by
  intro i
  cases i with
  | zero => rw [cf_pmul_zero]; grind
  | succ i => rw [cf_pmul_succ]; simp [pmul]; grind
theorem Dvd.add {a b c : Pl} (h : Dvd a b) (k : Dvd a c) : Dvd a (padd b c) := by
  obtain ⟨x, hx⟩ := h; obtain ⟨y, hy⟩ := k
  exact ⟨padd x y, (hx.add hy).trans (pmul_add_l x y a).symm⟩
theorem Dvd.mul (x : Pl) {a b : Pl} (h : Dvd a b) : Dvd a (pmul x b) := by
  obtain ⟨y, hy⟩ := h
  exact ⟨pmul x y, (PE.mul_r x hy).trans (pmul_assoc x y a).symm⟩
theorem Dvd.congr {a b c : Pl} (h : Dvd a b) (k : PE b c) : Dvd a c := by obtain ⟨x, hx⟩ := h; exact ⟨x, k.symm.trans hx⟩
theorem Dvd.nil (a : Pl) : Dvd a [] := ⟨[], PE.rfl' _⟩
theorem Dvd.of_nil {p : Pl} (h : Dvd [] p) : PE p [] := by obtain ⟨x, hx⟩ := h; exact hx.trans (pmul_nil_r x)
theorem GcdRel.uniq {p r d e : Pl} (h : GcdRel p r d) (k : GcdRel p r e) : d = e := by
  have key : ∀ {d e : Pl}, GcdRel p r d → GcdRel p r e → Dvd d e := by
    intro d e h k
    obtain ⟨a, b, hab⟩ := k.bez
    exact ((h.dp.mul a).add (h.dr.mul b)).congr hab.symm
  have h1 := key h k
  have h2 := key k h
  by_cases hd : d = []
  · subst hd; exact (tr_zero k.tr h1.of_nil).symm
  · by_cases he : e = []
    · subst he; exact absurd (tr_zero h.tr h2.of_nil) hd
    · have md := h.monic.resolve_left hd
      have me := k.monic.resolve_left he
      obtain ⟨x, hx⟩ := h1
      obtain ⟨y, hy⟩ := h2
      -- the lengths
      have hx' : PE e (pmul (ptrim x) d) := hx.trans (PE.mul_l (cf_ptrim x).symm d)
      have hy' : PE d (pmul (ptrim y) e) := hy.trans (PE.mul_l (cf_ptrim y).symm e)
      have hxn : ptrim x ≠ [] := by intro e0; rw [e0] at hx'; exact he (tr_zero k.tr hx')
      have hyn : ptrim y ≠ [] := by intro e0; rw [e0] at hy'; exact hd (tr_zero h.tr hy')
      have lx := pmul_tr (tr_ptrim x) h.tr hxn hd
      have ly := pmul_tr (tr_ptrim y) k.tr hyn he
      rw [← ptrim_eq hx', ptrim_tr k.tr] at lx
      rw [← ptrim_eq hy', ptrim_tr h.tr] at ly
      have p1 := List.length_pos_iff.2 hxn
      have p2 := List.length_pos_iff.2 hyn
      have hlx : (ptrim x).length = 1 := by omega
      obtain ⟨c, hc⟩ := List.length_eq_one_iff.1 hlx
      have hc1 : c = 1 := by
        have := lx.2
        rw [hc, md, me] at this
        simp [lead] at this
        grind
      subst hc1
      rw [hc] at hx'
      refine tr_ext h.tr k.tr (PE.symm ?_)
      refine hx'.trans ?_
      intro i
      cases i with
      | zero => rw [cf_pmul_zero]; grind
      | succ i => rw [cf_pmul_succ]; simp [pmul]; grind
end Go.Proofs.YtbldlibijojbjaaGreatDoor.GB

namespace Go.Proofs.YtbldlibijojbjaaGreatDoor.GB
set_option linter.unusedVariables false
set_option linter.unusedSimpArgs false

theorem cf_set (p : Pl) (j : Nat) (y : Rat) (i : Nat) (h : j < p.length) : cf (p.set j y) i = if i = j then y else cf p i := by
  unfold cf
  rw [List.getD_eq_getElem?_getD, List.getElem?_set, List.getD_eq_getElem?_getD]
  split
  · rename_i e; subst e; simp [h]
  · rename_i e; rw [if_neg (fun e' => e e'.symm)]
theorem cf_append (a b : Pl) (i : Nat) : cf (a ++ b) i = if i < a.length then cf a i else cf b (i - a.length) := by
  unfold cf; split
  · rename_i h; simp [List.getElem?_append_left h]
  · rename_i h; simp [List.getElem?_append_right (Nat.le_of_not_lt h)]
theorem cf_take (p : Pl) (k i : Nat) : cf (p.take k) i = if i < k then cf p i else 0 := by
  unfold cf; split
  · rename_i h; simp [List.getElem?_take, h]
  · rename_i h; simp [List.getElem?_take, h]
theorem cf_zeros (k i : Nat) : cf (List.replicate k 0) i = 0 := by
  unfold cf; by_cases h : i < k <;> simp [h]
def pmono (k : Nat) (f : Rat) : Pl := List.replicate k 0 ++ [f]
theorem cf_pmono (k : Nat) (f : Rat) (i : Nat) : cf (pmono k f) i = if i = k then f else 0 := by
  unfold pmono
  rw [cf_append, cf_zeros, List.length_replicate]
  by_cases h : i < k
  · rw [if_pos h, if_neg (by omega)]
  · rw [if_neg h]
    by_cases e : i = k
    · rw [if_pos e, e, Nat.sub_self]; simp
    · rw [if_neg e, cf_ge (by simp; omega)]
theorem cf_mono_mul (k : Nat) (f : Rat) (r : Pl) (i : Nat) : cf (pmul (pmono k f) r) i = if i < k then 0 else f * cf r (i - k) := by
  induction k generalizing i with
  | zero =>
    simp only [pmono, List.replicate_zero, List.nil_append, Nat.not_lt_zero, if_false, Nat.sub_zero]
    cases i with
    | zero => rw [cf_pmul_zero]
    | succ i => rw [cf_pmul_succ]; simp [pmul]; grind
  | succ k ih =>
    have e : pmono (k + 1) f = 0 :: pmono k f := by simp [pmono, List.replicate_succ]
    rw [e]
    have h := pmul_shift_l (pmono k f) r i
    rw [h]
    cases i with
    | zero => simp
    | succ i => rw [cf_succ, ih]; simp
theorem take_mono (p : Pl) (i : Nat) : PE (p.take (i + 1)) (padd (p.take i) (pmono i (cf p i))) := by
  intro x
  rw [cf_padd, cf_take, cf_take, cf_pmono]
  by_cases h : x = i
  · subst h; simp; grind
  · by_cases h2 : x < i
    · rw [if_pos (by omega), if_pos h2, if_neg h]; grind
    · rw [if_neg (by omega), if_neg h2, if_neg h]; grind
/-- One more term of a product. -/
theorem times_step {O A r : Pl} {i k : Nat} {a y : Rat} (h : PE O (padd A (pmul (pmono i a) (r.take k)))) (hl : i + k < O.length) (hy : y = cf O (i + k) + a * cf r k) :
    PE (O.set (i + k) y) (padd A (pmul (pmono i a) (r.take (k + 1)))) := by
  intro x
  have hx := h x
  rw [cf_set _ _ _ _ hl, cf_padd, cf_mono_mul, cf_take] at *
  have hk := h (i + k)
  rw [cf_padd, cf_mono_mul, cf_take] at hk
  by_cases e : x = i + k
  · subst e
    rw [if_pos rfl, hy, hk]
    simp
    grind
  · rw [if_neg e, hx]
    by_cases h2 : x < i
    · simp [h2]
    · simp only [if_neg h2]
      by_cases h3 : x - i < k
      · rw [if_pos h3, if_pos (by omega)]
      · rw [if_neg h3, if_neg (by omega)]
theorem times_row {O p r : Pl} {i : Nat} {a : Rat} (h : PE O (padd (pmul (p.take i) r) (pmul (pmono i a) r))) (ha : a = cf p i) : PE O (pmul (p.take (i + 1)) r) := by
  subst ha
  exact h.trans ((pmul_add_l _ _ r).symm.trans (PE.mul_l (take_mono p i).symm r))

/-! ### The steps of a division -/
structure DInv (p r Q R : Pl) (k : Nat) : Prop where
  eq : PE p (padd (pmul Q r) R)
  hi : ∀ i, k + r.length ≤ i + 1 → cf R i = 0
  lo : ∀ i, i < k → cf Q i = 0
theorem DInv.step {p r Q R R' : Pl} {k : Nat} {f : Rat} (h : DInv p r Q R (k + 1)) (hr : r ≠ []) (hl : lead r ≠ 0) (hf : f = cf R (k + (r.length - 1)) / lead r) (hk : k < Q.length)
    (hR : PE R' (padd R (pmul (pmono k (-f)) r))) : DInv p r (Q.set k f) R' k := by
  have l1 := List.length_pos_iff.2 hr
  refine ⟨?_, ?_, ?_⟩
  · have hQ : PE (Q.set k f) (padd Q (pmono k f)) := by
      intro x
      rw [cf_set _ _ _ _ hk, cf_padd, cf_pmono]
      by_cases e : x = k
      · subst e; rw [if_pos rfl, if_pos rfl, h.lo x (by omega)]; grind
      · rw [if_neg e, if_neg e]; grind
    intro x
    have h1 := h.eq x
    have h2 := (PE.mul_l hQ r) x
    have h3 := (pmul_add_l Q (pmono k f) r) x
    have h4 := hR x
    rw [cf_padd] at h1 h3 h4
    rw [cf_padd, h2, h3, h4, h1, cf_mono_mul, cf_mono_mul]
    split <;> grind
  · intro i hi
    rw [hR i, cf_padd, cf_mono_mul, if_neg (by omega)]
    by_cases e : i = k + (r.length - 1)
    · subst e
      rw [show k + (r.length - 1) - k = r.length - 1 by omega]
      have : cf r (r.length - 1) = lead r := rfl
      rw [this, hf]
      have hx : cf R (k + (r.length - 1)) / lead r * lead r = cf R (k + (r.length - 1)) := by grind
      grind
    · rw [h.hi i (by omega), cf_ge (by omega : r.length ≤ i - k)]; grind
  · intro i hi
    rw [cf_set _ _ _ _ hk, if_neg (by omega)]
    exact h.lo i (by omega)
theorem DInv.start (p r : Pl) (n : Nat) (h : p.length + 1 ≤ n + r.length) : DInv p r (List.replicate n 0) p n := by
  refine ⟨?_, fun i hi => cf_ge (by omega), fun i _ => cf_zeros _ _⟩
  intro x
  rw [cf_padd, pmul_zero_l (fun i => cf_zeros _ i) r x]
  simp; grind
theorem DInv.done {p r Q R : Pl} (h : DInv p r Q R 0) (hr : r ≠ []) : DivRel p r (ptrim Q) (ptrim R) := by
  have l1 := List.length_pos_iff.2 hr
  refine ⟨tr_ptrim _, tr_ptrim _, ?_, h.eq.trans (PE.add (PE.mul_l (cf_ptrim Q).symm r) (cf_ptrim R).symm)⟩
  have := tr_len (tr_ptrim R) (r.length - 1) (fun i hi => by rw [cf_ptrim]; exact h.hi i (by omega))
  omega

/-! ### The remainders -/
theorem GcdRel.base {p : Pl} (hp : Tr p) (hne : p ≠ []) : GcdRel p [] (psc (1 / lead p) p) := by
  have hl := lead_ne hp hne
  have e : (psc (1 / lead p) p).length = p.length := by simp [psc]
  refine ⟨?_, .inr ?_, ⟨[lead p], ?_⟩, Dvd.nil _, ⟨[1 / lead p], [], ?_⟩⟩
  · have l1 := List.length_pos_iff.2 hne
    unfold Tr
    rw [List.getLast?_eq_getElem?, e, List.getElem?_eq_getElem (by omega)]
    intro h0
    have h1 : cf (psc (1 / lead p) p) (p.length - 1) = 0 := by rw [cf_lt (by omega)]; exact Option.some.inj h0
    rw [cf_psc] at h1
    have : lead p = cf p (p.length - 1) := rfl
    grind
  · unfold lead at *; rw [e, cf_psc]; grind
  · intro i
    cases i with
    | zero => rw [cf_pmul_zero, cf_psc]; grind
    | succ i => rw [cf_pmul_succ, cf_psc]; simp [pmul]; grind
  · intro i
    rw [cf_psc, cf_padd]
    cases i with
    | zero => rw [cf_pmul_zero]; simp [pmul]; grind
    | succ i => rw [cf_pmul_succ]; simp [pmul]; grind
theorem GcdRel.nil : GcdRel [] [] [] := ⟨tr_nil, .inl rfl, Dvd.nil _, Dvd.nil _, ⟨[], [], fun i => by simp [pmul, padd]⟩⟩
/-- A divisor of the divisor and of (a multiple of) the remainder. -/
theorem GcdRel.step {p r q t s d : Pl} {c : Rat} (h : PE p (padd (pmul q r) t)) (hc : c ≠ 0) (hs : PE s (psc c t)) (k : GcdRel r s d) : GcdRel p r d := by
  have ht : PE t (pmul [1 / c] s) := by
    intro i
    cases i with
    | zero => rw [cf_pmul_zero, hs 0, cf_psc]; grind
    | succ i => rw [cf_pmul_succ, hs (i + 1), cf_psc]; simp [pmul]; grind
  refine ⟨k.tr, k.monic, ?_, k.dp, ?_⟩
  · exact ((k.dp.mul q).add (k.dr.mul [1 / c])).congr ((PE.add (PE.rfl' _) ht.symm).trans h.symm)
  · obtain ⟨a, b, hab⟩ := k.bez
    -- d = a r + b s = a r + c b (p - q r)
    refine ⟨psc c b, padd a (pneg (psc c (pmul b q))), ?_⟩
    intro i
    have h1 := hab i
    have h2 := (PE.mul_r b hs) i
    have h3 := (pmul_sc_r c b t) i
    have h4 := (PE.mul_r (psc c b) h) i
    have h5 := (pmul_add_r (psc c b) (pmul q r) t) i
    have h6 := (pmul_sc_l c b (pmul q r)) i
    have h7 := (pmul_sc_l c b t) i
    have h8 := (pmul_add_l a (pneg (psc c (pmul b q))) r) i
    have h9 : cf (pmul (pneg (psc c (pmul b q))) r) i = -1 * (c * cf (pmul (pmul b q) r) i) := by
      have := (pmul_sc_l (-1) (psc c (pmul b q)) r) i
      rw [cf_psc, pmul_sc_l c (pmul b q) r i, cf_psc] at this
      exact this
    have h10 := (pmul_assoc b q r) i
    rw [cf_padd] at h1 h5 h8
    rw [cf_psc] at h3 h6 h7
    rw [cf_padd, h1, h2, h3, h4, h5, h6, h7, h8, h9, h10]
    grind
end Go.Proofs.YtbldlibijojbjaaGreatDoor.GB

namespace Go.Proofs.YtbldlibijojbjaaGreatDoor.GB
set_option linter.unusedVariables false
set_option linter.unusedSimpArgs false
open Go.RowKit Go.Shelf
attribute [local go_sem ↓] Go.wp_at_zero Go.wp_at_succ

/-- The text of a number. -/
def rb (q : Rat) : ByteArray := ⟨(rtext q).toArray⟩
theorem rb_v (q : Rat) : Value.string (rb q) = rtx q := rfl
theorem rb0 : rb 0 = ⟨#[48]⟩ := by
  unfold rb
  rw [rtext_int rfl]
  have h := itoa_nat 0
  rw [Lib.decDigits] at h
  exact congrArg (fun l : List UInt8 => (⟨l.toArray⟩ : ByteArray)) h
theorem isZ_rb (q : Rat) : isZ (rb q) = decide (q = 0) := by
  unfold isZ
  have h := rtx_eq q 0
  have h0 : (⟨(rtext 0).toArray⟩ : ByteArray).toList = [48] := by
    have := rb0
    unfold rb at this
    rw [this, ByteArray.toList_eq]
  rw [h0] at h
  exact h
theorem cf_snoc0 (p : Pl) : PE (p ++ [0]) p := by
  intro i
  rw [cf_append]
  split
  · rfl
  · rename_i h
    rw [cf_ge (Nat.not_lt.1 h)]
    rcases Nat.eq_zero_or_pos (i - p.length) with e | e
    · rw [e]; rfl
    · exact cf_ge (by simp only [List.length_singleton]; omega)
theorem tzS_rb (p : Pl) : tzS (p.map rb) = (ptrim p).map rb := by
  generalize hn : p.length = n
  induction n generalizing p with
  | zero => rw [List.eq_nil_of_length_eq_zero hn]; exact tzS_nil
  | succ n ih =>
    obtain ⟨q, x, rfl⟩ : ∃ q x, p = q ++ [x] := ⟨p.dropLast, p.getLast (by intro e; rw [e] at hn; cases hn), (List.dropLast_concat_getLast _).symm⟩
    have hq : q.length = n := by simpa using hn
    rw [List.map_append, List.map_singleton]
    by_cases h : x = 0
    · subst h
      rw [tzS_zero _ _ (by rw [isZ_rb]; rfl), ih q hq, ptrim_eq (cf_snoc0 q)]
    · rw [tzS_last _ _ (by rw [isZ_rb]; exact decide_eq_false h), ptrim_tr (by unfold Tr; rw [List.getLast?_concat]; simpa using h), List.map_append, List.map_singleton]
theorem atS_rb (p : Pl) (i : Nat) : atS (p.map rb) i = rb (cf p i) := by
  unfold atS cf
  simp only [List.getD_eq_getElem?_getD, List.getElem?_map]
  cases p[i]? with
  | none => exact rb0.symm
  | some x => rfl
/-- All numbers of a polynomial have at most n bits. -/
def PB (p : Pl) (n : Nat) : Prop := ∀ q ∈ p, Bd q n
theorem PB.cf {p : Pl} {n : Nat} (h : PB p n) (i : Nat) : Bd (cf p i) n := by
  unfold GB.cf
  rw [List.getD_eq_getElem?_getD]
  cases e : p[i]? with
  | none => exact (Bd.of_int 0 0 (by decide)).mono (Nat.zero_le _)
  | some x => exact h x (List.mem_of_getElem? e)
theorem PB.mono {p : Pl} {m n : Nat} (h : PB p m) (hm : m ≤ n) : PB p n := fun q hq => (h q hq).mono hm
theorem PB.nil (n : Nat) : PB [] n := fun q hq => by cases hq
theorem PB.of_cf {p : Pl} {n : Nat} (h : ∀ i, Bd (GB.cf p i) n) : PB p n := by
  intro q hq
  obtain ⟨i, hi, rfl⟩ := List.mem_iff_getElem.1 hq
  rw [← cf_lt hi]
  exact h i
/-- A slice that reads as a polynomial's numbers. -/
def PS (w : World) (v : Value) (p : Pl) : Prop := SlS w v (p.map rb)
theorem PS.ext {w w' : World} {v : Value} {p : Pl} (h : PS w v p) (hE : Ext w w') : PS w' v p := SlS.ext h hE
set_option maxHeartbeats 1000000 in
set_option maxRecDepth 100000 in
theorem pzadd_g (A B : Option Addr) (c d : Nat) (l m : List ByteArray) (g : Nat → ByteArray) (w : World) (hl : l.length ≤ 100000) (hm : m.length ≤ 100000)
    (hA : SlS w (.slice A l.length c) l) (hB : SlS w (.slice B m.length d) m)
    (hop : ∀ i W, Ext w W → Calls Tryz.prog 69 #[.string (atS l i), .string (atS m i)] W fun e w' => e = .returned (.string (g i)) ∧ Ext W w') :
    Calls Tryz.prog 92 #[.slice A l.length c, .slice B m.length d, .func (.func 69) #[] #[]] w fun e w' => ∃ v, e = .returned v ∧ SlS w' v (tzS ((List.range (max l.length m.length)).map g)) ∧ Ext w w' := by
  obtain ⟨i0, hi, hz0, hz1, hz2⟩ := info_parts Tryz.infoRat
  have HA := Lib.hid hA
  have HB := Lib.hid hB
  have HL : Hid (l.length ≤ 100000) := hl
  have HM : Hid (m.length ≤ 100000) := hm
  clear hA hB
  go_enter Tryz.func92, Tryz.ntmps92
  go_wp2_with fail
  go_loopw [7, 14] (fun vo vi wr => ∃ k : Nat, k ≤ max l.length m.length ∧ vi = .int .i64 k ∧ Hid (OwnS wr w.heap.size vo ((List.range k).map g)) ∧ Hid (Ext w wr)) (fun _ vi _ => max l.length m.length - (intOf vi).toNat)
  case atStart => exact ⟨0, Nat.zero_le _, rfl, ⟨rfl, .inl ⟨rfl, rfl⟩⟩, Ext.rfl' _⟩
  case round =>
    obtain ⟨k, hk, rfl, HO, HE⟩ := hrel
    by_cases hlt : k < max l.length m.length
    · have hk9 : k ≤ 1099511627776 := by omega
      have hN : ((List.range k).map g).length + 1 ≤ maxLen := by simp [maxLen]; omega
      have hbig : (((List.range k).map g).length + 1) * 16 ≤ 140737488355328 := by simp; omega
      have hs : List.range (k + 1) = List.range k ++ [k] := List.range_succ
      have HS : Hid ((List.range (k + 1)).map g = (List.range k).map g ++ [g k]) := by unfold Hid; rw [hs]; simp
      have hopk := hop k
      clear hs
      go_wp2_with fail
      refine (at_any _ l k _ hk9 (HA.out.ext HE.out)).mono ?_
      rintro e w1 ⟨rfl, rfl⟩
      go_wp2_with fail
      refine (at_any _ m k _ hk9 (HB.out.ext HE.out)).mono ?_
      rintro e w1 ⟨rfl, rfl⟩
      go_wp2_with fail
      refine (hopk _ HE.out).mono ?_
      rintro e w1 ⟨rfl, hE1⟩
      have HE1 := Lib.hid (HE.out.tr hE1)
      have HO1 := Lib.hid (HO.out.ext hE1)
      have hbase1 : w.heap.size ≤ w1.heap.size := HE1.out.size
      clear hE1
      generalize (List.range k).map g = r at *
      go_wp2_with (at_builtin; (refine wpList_append_own _ rfl _ _ 55 rfl w.heap.size 30 i0 (.string ⟨#[]⟩) 1 16 Tryz.underlying55 hi hz0 hz1 hz2 rfl (by decide) _ r.length (strs r) rfl (World.ownsRow.alloc HO1.out _) ⟨w1.heap.size, 0, none⟩ 1 1 _ rfl rfl (cell_one_new _ _ _) (by simp [Value.oneCell']) hN hbig (by simp; omega) ?_); intro v' w2 hown2 hgrow2 _)
      all_goals
        obtain ⟨p1, p2⟩ := own_grow (news := [g k]) HO1.out HE1.out hown2 hgrow2
        go_roundw
        case rel => exact ⟨k + 1, by omega, by go_num, by rw [HS.out]; exact p1, p2⟩
        case measure => simp [intOf]; omega
    · have hke : k = max l.length m.length := by omega
      subst hke
      have HP := Lib.hid HO.out.sl
      clear hop
      go_wp2_with fail
      refine (ptrimS_v _ _ _ HP.out).mono ?_
      rintro e w1 ⟨v', rfl, hv, rfl⟩
      have HV := Lib.hid hv
      clear hv
      go_wp2_with fail
      go_ret
      exact ⟨_, rfl, HV.out, HE.out⟩
set_option maxHeartbeats 1000000 in
set_option maxRecDepth 100000 in
theorem pzsub_g (A B : Option Addr) (c d : Nat) (l m : List ByteArray) (g : Nat → ByteArray) (w : World) (hl : l.length ≤ 100000) (hm : m.length ≤ 100000)
    (hA : SlS w (.slice A l.length c) l) (hB : SlS w (.slice B m.length d) m)
    (hop : ∀ i W, Ext w W → Calls Tryz.prog 95 #[.string (atS l i), .string (atS m i)] W fun e w' => e = .returned (.string (g i)) ∧ Ext W w') :
    Calls Tryz.prog 92 #[.slice A l.length c, .slice B m.length d, .func (.func 95) #[] #[]] w fun e w' => ∃ v, e = .returned v ∧ SlS w' v (tzS ((List.range (max l.length m.length)).map g)) ∧ Ext w w' := by
  obtain ⟨i0, hi, hz0, hz1, hz2⟩ := info_parts Tryz.infoRat
  have HA := Lib.hid hA
  have HB := Lib.hid hB
  have HL : Hid (l.length ≤ 100000) := hl
  have HM : Hid (m.length ≤ 100000) := hm
  clear hA hB
  go_enter Tryz.func92, Tryz.ntmps92
  go_wp2_with fail
  go_loopw [7, 14] (fun vo vi wr => ∃ k : Nat, k ≤ max l.length m.length ∧ vi = .int .i64 k ∧ Hid (OwnS wr w.heap.size vo ((List.range k).map g)) ∧ Hid (Ext w wr)) (fun _ vi _ => max l.length m.length - (intOf vi).toNat)
  case atStart => exact ⟨0, Nat.zero_le _, rfl, ⟨rfl, .inl ⟨rfl, rfl⟩⟩, Ext.rfl' _⟩
  case round =>
    obtain ⟨k, hk, rfl, HO, HE⟩ := hrel
    by_cases hlt : k < max l.length m.length
    · have hk9 : k ≤ 1099511627776 := by omega
      have hN : ((List.range k).map g).length + 1 ≤ maxLen := by simp [maxLen]; omega
      have hbig : (((List.range k).map g).length + 1) * 16 ≤ 140737488355328 := by simp; omega
      have hs : List.range (k + 1) = List.range k ++ [k] := List.range_succ
      have HS : Hid ((List.range (k + 1)).map g = (List.range k).map g ++ [g k]) := by unfold Hid; rw [hs]; simp
      have hopk := hop k
      clear hs
      go_wp2_with fail
      refine (at_any _ l k _ hk9 (HA.out.ext HE.out)).mono ?_
      rintro e w1 ⟨rfl, rfl⟩
      go_wp2_with fail
      refine (at_any _ m k _ hk9 (HB.out.ext HE.out)).mono ?_
      rintro e w1 ⟨rfl, rfl⟩
      go_wp2_with fail
      refine (hopk _ HE.out).mono ?_
      rintro e w1 ⟨rfl, hE1⟩
      have HE1 := Lib.hid (HE.out.tr hE1)
      have HO1 := Lib.hid (HO.out.ext hE1)
      have hbase1 : w.heap.size ≤ w1.heap.size := HE1.out.size
      clear hE1
      generalize (List.range k).map g = r at *
      go_wp2_with (at_builtin; (refine wpList_append_own _ rfl _ _ 55 rfl w.heap.size 30 i0 (.string ⟨#[]⟩) 1 16 Tryz.underlying55 hi hz0 hz1 hz2 rfl (by decide) _ r.length (strs r) rfl (World.ownsRow.alloc HO1.out _) ⟨w1.heap.size, 0, none⟩ 1 1 _ rfl rfl (cell_one_new _ _ _) (by simp [Value.oneCell']) hN hbig (by simp; omega) ?_); intro v' w2 hown2 hgrow2 _)
      all_goals
        obtain ⟨p1, p2⟩ := own_grow (news := [g k]) HO1.out HE1.out hown2 hgrow2
        go_roundw
        case rel => exact ⟨k + 1, by omega, by go_num, by rw [HS.out]; exact p1, p2⟩
        case measure => simp [intOf]; omega
    · have hke : k = max l.length m.length := by omega
      subst hke
      have HP := Lib.hid HO.out.sl
      clear hop
      go_wp2_with fail
      refine (ptrimS_v _ _ _ HP.out).mono ?_
      rintro e w1 ⟨v', rfl, hv, rfl⟩
      have HV := Lib.hid hv
      clear hv
      go_wp2_with fail
      go_ret
      exact ⟨_, rfl, HV.out, HE.out⟩
theorem cf_range (f : Nat → Rat) (N i : Nat) : cf ((List.range N).map f) i = if i < N then f i else 0 := by
  unfold cf
  rw [List.getD_eq_getElem?_getD]
  split
  · rename_i h; simp [List.getElem?_map, List.getElem?_range h]
  · rename_i h; rw [List.getElem?_eq_none (by simpa using h)]; rfl
theorem rb_range (f : Nat → Rat) (N : Nat) : (List.range N).map (fun i => rb (f i)) = ((List.range N).map f).map rb := by rw [List.map_map]; rfl
theorem range_add (p r : Pl) : ptrim ((List.range (max p.length r.length)).map fun i => cf p i + cf r i) = ptrim (padd p r) := by
  apply ptrim_eq
  intro i
  rw [cf_range, cf_padd]
  split
  · rfl
  · rw [cf_ge (by omega), cf_ge (by omega)]; grind
theorem range_sub (p r : Pl) : ptrim ((List.range (max p.length r.length)).map fun i => cf p i - cf r i) = ptrim (padd p (pneg r)) := by
  apply ptrim_eq
  intro i
  rw [cf_range, cf_padd, cf_pneg]
  split
  · rw [Rat.sub_eq_add_neg]
  · rw [cf_ge (by omega), cf_ge (by omega)]; grind
set_option maxHeartbeats 1000000 in
set_option maxRecDepth 100000 in
theorem pplus_v (v1 v2 : Value) (p r : Pl) (m n : Nat) (w : World) (hW : Wd w) (h1 : PS w v1 p) (h2 : PS w v2 r) (hp : PB p m) (hr : PB r n) (hk : m + n + 3 ≤ KK) (l1 : p.length ≤ 100000) (l2 : r.length ≤ 100000) :
    Calls Tryz.prog 57 #[v1, v2] w fun e w' => ∃ v, e = .returned v ∧ PS w' v (ptrim (padd p r)) ∧ Ext w w' := by
  obtain ⟨A, c, rfl, a1, a2, a3⟩ := h1
  obtain ⟨B, d, rfl, b1, b2, b3⟩ := h2
  have h := pzadd_g A B c d (p.map rb) (r.map rb) (fun i => rb (cf p i + cf r i)) w (by simpa using l1) (by simpa using l2) ⟨A, c, rfl, a1, a2, a3⟩ ⟨B, d, rfl, b1, b2, b3⟩ (by
    intro i W hE
    rw [atS_rb, atS_rb]
    exact padd_q (cf p i) (cf r i) m n W (hW.ext hE) (hp.cf i) (hr.cf i) hk)
  simp only [List.length_map] at h ⊢
  rw [rb_range, tzS_rb, range_add] at h
  clear a1 a2 a3 b1 b2 b3 hp hr
  unfold PS
  generalize p.length = n1 at *
  generalize r.length = n2 at *
  generalize (ptrim (padd p r)).map rb = L at *
  go_enter Tryz.func57, Tryz.ntmps57
  go_wp2_with fail
  refine h.mono ?_
  rintro e w1 ⟨v, rfl, hv, hE⟩
  have HV := Lib.hid hv
  clear h hv
  go_wp2_with fail
  go_ret
  exact ⟨_, rfl, HV.out, hE⟩
set_option maxHeartbeats 1000000 in
set_option maxRecDepth 100000 in
theorem pminus_v (v1 v2 : Value) (p r : Pl) (m n : Nat) (w : World) (hW : Wd w) (h1 : PS w v1 p) (h2 : PS w v2 r) (hp : PB p m) (hr : PB r n) (hk : m + n + 3 ≤ KK) (l1 : p.length ≤ 100000) (l2 : r.length ≤ 100000) :
    Calls Tryz.prog 60 #[v1, v2] w fun e w' => ∃ v, e = .returned v ∧ PS w' v (ptrim (padd p (pneg r))) ∧ Ext w w' := by
  obtain ⟨A, c, rfl, a1, a2, a3⟩ := h1
  obtain ⟨B, d, rfl, b1, b2, b3⟩ := h2
  have h := pzsub_g A B c d (p.map rb) (r.map rb) (fun i => rb (cf p i - cf r i)) w (by simpa using l1) (by simpa using l2) ⟨A, c, rfl, a1, a2, a3⟩ ⟨B, d, rfl, b1, b2, b3⟩ (by
    intro i W hE
    rw [atS_rb, atS_rb]
    exact psub_q (cf p i) (cf r i) m n W (hW.ext hE) (hp.cf i) (hr.cf i) hk)
  simp only [List.length_map] at h ⊢
  rw [rb_range, tzS_rb, range_sub] at h
  clear a1 a2 a3 b1 b2 b3 hp hr
  unfold PS
  generalize p.length = n1 at *
  generalize r.length = n2 at *
  generalize (ptrim (padd p (pneg r))).map rb = L at *
  go_enter Tryz.func60, Tryz.ntmps60
  go_wp2_with fail
  refine h.mono ?_
  rintro e w1 ⟨v, rfl, hv, hE⟩
  have HV := Lib.hid hv
  clear h hv
  go_wp2_with fail
  go_ret
  exact ⟨_, rfl, HV.out, hE⟩
end Go.Proofs.YtbldlibijojbjaaGreatDoor.GB

namespace Go.Proofs.YtbldlibijojbjaaGreatDoor.GB
set_option linter.unusedVariables false
set_option linter.unusedSimpArgs false
open Go.RowKit Go.Shelf
attribute [local go_sem ↓] Go.wp_at_zero Go.wp_at_succ

theorem madeS (n : Nat) : (madeCells (Value.string ⟨#[]⟩).cells (n * 1)).toList = strs (List.replicate n ⟨#[]⟩) := by
  apply List.ext_getElem
  · simp [madeCells, strs]
  · intro i h1 h2
    simp [madeCells, strs, Value.cells, Nat.mod_one]
theorem OwnS.cellAt {w : World} {base g c : Nat} {l : List ByteArray} (h : OwnS w base (.slice (some ⟨g, 0, none⟩) l.length c) l) (j : Nat) (hj : j < l.length) : w.cell? ⟨g, j, none⟩ = some (.string l[j]) := by
  have := World.ownsRow.cellAt h j (by omega)
  rw [this]; simp [strs, hj]
theorem OwnS.store {w : World} {base g c : Nat} {l : List ByteArray} (h : OwnS w base (.slice (some ⟨g, 0, none⟩) l.length c) l) (j : Nat) (x : ByteArray) :
    OwnS (w.setCell ⟨g, j, none⟩ (.string x)) base (.slice (some ⟨g, 0, none⟩) (l.set j x).length c) (l.set j x) := by
  have := (World.ownsRow.stored h j (.string x)).1
  unfold OwnS
  rw [List.length_set]
  have e : strs (l.set j x) = (strs l).set j (.string x) := by simp [strs, List.map_set]
  rw [e]; exact this
/-- A row of the call's own that holds a polynomial's numbers. -/
def OwnP (w : World) (base g c n : Nat) (O : Pl) : Prop := O.length = n ∧ OwnS w base (.slice (some ⟨g, 0, none⟩) (O.map rb).length c) (O.map rb)
theorem OwnP.ext {w w' : World} {base g c n : Nat} {O : Pl} (h : OwnP w base g c n O) (hE : Ext w w') : OwnP w' base g c n O := ⟨h.1, h.2.ext hE⟩
theorem OwnP.cell {w : World} {base g c n : Nat} {O : Pl} (h : OwnP w base g c n O) (j : Nat) (hj : j < n) : w.cell? ⟨g, j, none⟩ = some (rtx (cf O j)) := by
  have hj' : j < O.length := by rw [h.1]; exact hj
  have := h.2.cellAt j (by simpa using hj')
  rw [this, cf_lt hj']
  simp [rb]
theorem OwnP.froz {w : World} {base g c n : Nat} {O : Pl} (h : OwnP w base g c n O) (j : Nat) : w.frozen? ⟨g, j, none⟩ = false := World.ownsRow.frozenAt h.2 j
theorem OwnP.store {w : World} {base g c n : Nat} {O : Pl} (h : OwnP w base g c n O) (j : Nat) (q : Rat) : OwnP (w.setCell ⟨g, j, none⟩ (rtx q)) base g c n (O.set j q) := by
  refine ⟨by rw [List.length_set]; exact h.1, ?_⟩
  have := h.2.store j (rb q)
  rw [List.map_set]
  exact this
theorem OwnP.ps {w : World} {base g c n : Nat} {O : Pl} (h : OwnP w base g c n O) : PS w (.slice (some ⟨g, 0, none⟩) n c) O := by
  have := h.2.sl
  rwa [List.length_map, h.1] at this
theorem pl_ext {p q : Pl} (hl : p.length = q.length) (h : PE p q) : p = q := by
  apply List.ext_getElem hl
  intro i h1 h2
  have := h i
  rwa [cf_lt h1, cf_lt h2] at this
theorem PS.cell {w : World} {A : Option Addr} {n c : Nat} {p : Pl} (h : PS w (.slice A n c) p) : n = p.length ∧ p.length ≤ c ∧ c ≤ 9223372036854775807 ∧ ∀ k, k < p.length → ∃ b off, A = some ⟨b, off, none⟩ ∧ b < w.heap.size ∧ w.cell? ⟨b, off + k, none⟩ = some (rtx (cf p k)) := by
  obtain ⟨A', c', hv, h1, h2, h3⟩ := h
  injection hv with e1 e2 e3
  subst e1 e3
  rw [List.length_map] at e2 h1
  refine ⟨e2, h1, h2, fun k hk => ?_⟩
  obtain ⟨b, off, e, hb, hc⟩ := h3 k (by simpa using hk)
  exact ⟨b, off, e, hb, by rw [hc, cf_lt hk]; simp [rb]⟩
theorem PS.sl {w : World} {v : Value} {p : Pl} (h : PS w v p) : ∃ A c, v = .slice A p.length c := by
  obtain ⟨A', c', hv, h1, h2, h3⟩ := h
  rw [List.length_map] at hv
  exact ⟨A', c', hv⟩

/-- What the product's rows hold: the sum so far, with its bits. -/
def TB (p r : Pl) (B i k : Nat) (O : Pl) : Prop :=
  PE O (padd (pmul (p.take i) r) (pmul (pmono i (cf p i)) (r.take k))) ∧ (∀ j, j < i + k → Bd (cf O j) ((i + 1) * B)) ∧ (∀ j, i + k ≤ j → Bd (cf O j) (i * B))
theorem TB.row0 {p r : Pl} {B i : Nat} {O : Pl} (h1 : PE O (pmul (p.take i) r)) (h2 : ∀ j, Bd (cf O j) (i * B)) : TB p r B i 0 O := by
  refine ⟨?_, fun j hj => (h2 j).mono (Nat.mul_le_mul_right _ (by omega)), fun j _ => h2 j⟩
  intro t
  rw [cf_padd, h1 t, List.take_zero]
  have := pmul_nil_r (pmono i (cf p i)) t
  rw [this]
  have e : cf ([] : Pl) t = 0 := cf_ge (Nat.zero_le _)
  rw [e]; grind
theorem TB.step {p r : Pl} {B i k m n : Nat} {O : Pl} {y : Rat} (h : TB p r B i k O) (hp : PB p m) (hr : PB r n) (hB : B = m + n + 1) (hl : i + k < O.length) (hy : y = cf O (i + k) + cf p i * cf r k) : TB p r B i (k + 1) (O.set (i + k) y) := by
  obtain ⟨h1, h2, h3⟩ := h
  refine ⟨times_step h1 hl hy, fun j hj => ?_, fun j hj => ?_⟩
  · rw [cf_set _ _ _ _ hl]
    split
    · subst hB
      rw [hy]
      refine ((h3 (i + k) (Nat.le_refl _)).add ((hp.cf i).mul (hr.cf k))).mono ?_
      rw [Nat.add_mul, Nat.one_mul]; omega
    · exact h2 j (by omega)
  · rw [cf_set _ _ _ _ hl, if_neg (by omega)]
    exact h3 j (by omega)
theorem TB.done {p r : Pl} {B i : Nat} {O : Pl} (h : TB p r B i r.length O) (hlen : ∀ j, i + r.length ≤ j → cf O j = 0 ∨ True) : PE O (pmul (p.take (i + 1)) r) ∧ ∀ j, Bd (cf O j) ((i + 1) * B) := by
  obtain ⟨h1, h2, h3⟩ := h
  rw [List.take_length] at h1
  refine ⟨times_row h1 rfl, fun j => ?_⟩
  rcases Nat.lt_or_ge j (i + r.length) with hj | hj
  · exact h2 j hj
  · exact (h3 j hj).mono (Nat.mul_le_mul_right _ (by omega))
theorem cf_rep0 (n j : Nat) : cf (List.replicate n 0) j = 0 := cf_zeros n j
end Go.Proofs.YtbldlibijojbjaaGreatDoor.GB

namespace Go.Proofs.YtbldlibijojbjaaGreatDoor.GB
set_option linter.unusedVariables false
set_option linter.unusedSimpArgs false
open Go.RowKit Go.Shelf
attribute [local go_sem ↓] Go.wp_at_zero Go.wp_at_succ

theorem OwnP.drH {w : World} {base g c n : Nat} {O : Pl} (h : Hid (OwnP w base g c n O)) : Hid (OwnP w.drew base g c n O) := h
/-- Zeros so far. -/
def zfill (N k : Nat) : List ByteArray := List.replicate k ⟨#[48]⟩ ++ List.replicate (N - k) ⟨#[]⟩
theorem zfill_len {N k : Nat} (h : k ≤ N) : (zfill N k).length = N := by unfold zfill; simp; omega
theorem zfill_set {N k : Nat} (h : k < N) : (zfill N k).set k ⟨#[48]⟩ = zfill N (k + 1) := by
  unfold zfill
  rw [List.set_append_right _ _ (by simp)]
  have e : N - k = (N - (k + 1)) + 1 := by omega
  rw [e, List.replicate_succ, List.length_replicate, Nat.sub_self, List.set_cons_zero, List.replicate_succ', List.append_assoc]
  rfl
theorem zfill_end (N : Nat) : zfill N N = (List.replicate N (0 : Rat)).map rb := by
  unfold zfill
  rw [Nat.sub_self, List.map_replicate, rb0]
  simp
set_option maxHeartbeats 4000000 in
set_option maxRecDepth 100000 in
theorem ptimes_some (A B : Option Addr) (ca cb : Nat) (p r : Pl) (m n : Nat) (w : World) (hW : Wd w) (hp0 : 0 < p.length) (hr0 : 0 < r.length) (l1 : p.length ≤ 100000) (l2 : r.length ≤ 100000)
    (hA : PS w (.slice A p.length ca) p) (hB : PS w (.slice B r.length cb) r) (hp : PB p m) (hr : PB r n) (BB' : Nat) (hBB : BB' = m + n + 1) (hk : (p.length + 1) * BB' + (m + n) + 3 ≤ KK) :
    Calls Tryz.prog 62 #[.slice A p.length ca, .slice B r.length cb] w fun e w' => ∃ O : Pl, e = .returned (.slice (some ⟨w.heap.size, 0, none⟩) (p.length + r.length - 1) (p.length + r.length - 1)) ∧ O.length = p.length + r.length - 1 ∧ PE O (pmul p r) ∧ PB O (p.length * BB') ∧ PS w' (.slice (some ⟨w.heap.size, 0, none⟩) (p.length + r.length - 1) (p.length + r.length - 1)) O ∧ Ext w w' := by
  obtain ⟨i0, hi, hz0, hz1, hz2⟩ := info_parts Tryz.infoRat
  obtain ⟨N, hN⟩ : ∃ N, p.length + r.length - 1 = N := ⟨_, rfl⟩
  have hNi : (p.length : Int) + (r.length : Int) - 1 = (N : Int) := by omega
  have hN9 : N ≤ 200000 := by omega
  have HN := Lib.hid hN
  have HK := Lib.hid hk
  have HBB := Lib.hid hBB
  rw [hN]
  have hp0' : ((p.length : Int) == 0) = false := by rw [beq_eq_false_iff_ne]; omega
  have hr0' : ((r.length : Int) == 0) = false := by rw [beq_eq_false_iff_ne]; omega
  have HA := Lib.hid hA
  have HB := Lib.hid hB
  have HW := Lib.hid hW
  have HP := Lib.hid hp
  have HR := Lib.hid hr
  clear hA hB hW hp hr hN hk hBB
  generalize hpl : p.length = pn at *
  generalize hrl : r.length = rn at *
  have HPL := Lib.hid hpl
  have HRL := Lib.hid hrl
  clear hpl hrl
  go_enter Tryz.func62, Tryz.ntmps62
  go_wp2_with (refine wpList_make_full _ rfl _ _ _ rfl w.heap.size 30 i0 (.string ⟨#[]⟩) 1 Tryz.underlying55 hi hz0 hz1 _ _ _ _ N rfl rfl (by simp) (by simp) (by rw [hz2]; omega) (by unfold maxLen; omega) (Nat.le_refl _) ?_; intro w1 hown1 hgrow1)
  clear hNi hp0' hr0'
  have hE1 : Hid (Ext w w1) := (Ext.rfl' w).gr0 hgrow1
  have hO1 : Hid (OwnS w1 w.heap.size (.slice (some ⟨w.heap.size, 0, none⟩) (zfill N 0).length N) (zfill N 0)) := by
    rw [madeS] at hown1
    have e : zfill N 0 = List.replicate N ⟨#[]⟩ := by simp [zfill]
    rw [e]
    simpa [OwnS, Hid] using hown1
  clear hown1 hgrow1
  go_loopw [28] (fun v wr => ∃ k : Nat, k ≤ N ∧ v = .int .i64 k ∧ Hid (OwnS wr w.heap.size (.slice (some ⟨w.heap.size, 0, none⟩) (zfill N k).length N) (zfill N k)) ∧ Hid (Ext w wr)) (fun v _ => N - (intOf v).toNat)
  case atStart => exact ⟨0, Nat.zero_le _, rfl, hO1, hE1⟩
  case round =>
    obtain ⟨k, hk, rfl, HO, HE⟩ := hrel
    clear hO1 hE1
    by_cases hlt : k < N
    · have hzl : (zfill N k).length = N := zfill_len hk
      have hck := HO.out.cellAt k (by rw [hzl]; exact hlt)
      have hfk : wr.frozen? ⟨w.heap.size, k, none⟩ = false := World.ownsRow.frozenAt HO.out k
      generalize (zfill N k)[k]'(by rw [hzl]; exact hlt) = s0 at hck
      have HO2 := Lib.hid (HO.out.store k ⟨#[48]⟩)
      rw [zfill_set hlt] at HO2
      clear hzl
      go_wp2
      go_roundw
      case rel => exact ⟨k + 1, by omega, by go_num, HO2, HE.out.setCell (Nat.le_refl _) _⟩
      case measure => simp [intOf]; omega
    · have hke : k = N := by omega
      have HO3 : Hid (OwnP wr w.heap.size w.heap.size N N (List.replicate N 0)) := by
        refine ⟨by simp, ?_⟩
        have := HO.out
        rw [hke, zfill_end] at this
        exact this
      have HTs : Hid (PE (List.replicate N 0) (pmul (p.take 0) r) ∧ ∀ j, Bd (cf (List.replicate N 0) j) (0 * BB')) := by
        refine ⟨fun j => ?_, fun j => ?_⟩
        · rw [cf_rep0, List.take_zero]; exact (cf_ge (Nat.zero_le _)).symm
        · rw [cf_rep0]; exact (Bd.of_int 0 0 (by decide)).mono (Nat.zero_le _)
      clear hke HO
      obtain ⟨wz, hwz⟩ : ∃ wz : World, wz = wr := ⟨_, rfl⟩
      subst hwz
      go_wp2
      go_loopw [37] (fun v wr => ∃ (i : Nat) (O : Pl), i ≤ pn ∧ v = .int .i64 i ∧ Hid (PE O (pmul (p.take i) r) ∧ ∀ j, Bd (cf O j) (i * BB')) ∧ Hid (OwnP wr w.heap.size w.heap.size N N O) ∧ Hid (Ext w wr)) (fun v _ => pn - (intOf v).toNat)
      case atStart => exact ⟨0, _, Nat.zero_le _, rfl, HTs, HO3, HE⟩
      case round =>
        obtain ⟨i, O, hi1, rfl, HT, HO, HE⟩ := hrel
        clear HTs HO3
        by_cases hlti : i < pn
        · obtain ⟨-, -, -, hcp⟩ := (HA.out.ext HE.out).cell
          obtain ⟨ba, fa, rfl, hba, hca⟩ := hcp i (by rw [HPL.out]; exact hlti)
          clear hcp
          have hbx := HP.out.cf i
          generalize hx : cf p i = x at hca hbx
          have HX := Lib.hid hx
          have HTB : Hid (TB p r BB' i 0 O) := TB.row0 HT.out.1 HT.out.2
          clear hx
          obtain ⟨wo, hwo⟩ : ∃ wo : World, wo = wr := ⟨_, rfl⟩
          subst hwo
          go_wp2
          go_loopw [44] (fun v wr => ∃ (k : Nat) (O : Pl), k ≤ rn ∧ v = .int .i64 k ∧ Hid (TB p r BB' i k O) ∧ Hid (OwnP wr w.heap.size w.heap.size N N O) ∧ Hid (Ext w wr)) (fun v _ => rn - (intOf v).toNat)
          case atStart => exact ⟨0, O, Nat.zero_le _, rfl, HTB, HO, HE⟩
          case round =>
            clear HT HTB HO HE O hba hca
            obtain ⟨k, O, hk1, rfl, HT, HO, HE⟩ := hrel
            by_cases hltk : k < rn
            · obtain ⟨-, -, -, hcr⟩ := (HB.out.ext HE.out).cell
              obtain ⟨bb, fb, rfl, hbb, hcb⟩ := hcr k (by rw [HRL.out]; exact hltk)
              clear hcr
              have hby := HR.out.cf k
              generalize hy : cf r k = y at hcb hby
              have HY := Lib.hid hy
              have hik : i + k < N := by have := HN.out; omega
              have hcc := HO.out.cell (i + k) hik
              have hbP := HT.out.2.2 (i + k) (Nat.le_refl _)
              generalize hP : cf O (i + k) = P at hcc hbP
              have HPe := Lib.hid hP
              have hib : i * BB' ≤ pn * BB' := Nat.mul_le_mul_right _ hi1
              have hpb : (pn + 1) * BB' = pn * BB' + BB' := Nat.succ_mul _ _
              have hkk := HK.out
              have hbb := HBB.out
              have hM := fun W (hw : Wd W) => pmul_q x y m n W hw hbx hby (by omega)
              have hAd := fun W (hw : Wd W) => padd_q P (x * y) (i * BB') (m + n) W hw hbP (hbx.mul hby) (by omega)
              clear hy hP hib hpb hkk hbb
              have hs1 : IntKind.i64.wrap ((i : Int) + (k : Int)) = (i : Int) + (k : Int) := by rw [IntKind.wrap_i64]; omega
              have hs2 : 0 ≤ (i : Int) + (k : Int) := by omega
              have hs3 : ((i : Int) + (k : Int)).toNat = i + k := by omega
              have hs4 : (i : Int) + (k : Int) < (N : Int) := by omega
              have hs5 : (i : Int) + (k : Int) ≤ (N : Int) := by omega
              have HW1 : Hid (Wd wr.drew) := HW.out.ext (Ext.dr' HE)
              generalize hz : x * y = z at hM hAd
              have HZ := Lib.hid hz
              clear hz
              go_wp2_with fail
              go_region_with (first
                  | (go_at_call 70; (with_reducible refine (hM _ HW1.out).mono ?_); rintro e w2 ⟨rfl, hE2⟩; have q0 := Ext.cellD hE2 hcc; have HO2 := Lib.hid (OwnP.ext (OwnP.drH HO).out hE2); have HE2 := Lib.hid ((Ext.dr' HE).tr hE2); have HW2 := Lib.hid (Wd.ext HW1.out hE2); clear hE2)
                  | (go_at_call 69; (with_reducible refine (hAd _ HW2.out).mono ?_); rintro e w3 ⟨rfl, hE3⟩; have t0 := Ext.cellH hE3 q0; have HO3 := Lib.hid (OwnP.ext HO2.out hE3); have HE3 := Lib.hid (HE2.out.tr hE3); have f0 := OwnP.froz HO3.out (i + k); clear hE3))
              all_goals
                clear hM hAd
                have HT2 := Lib.hid (HT.out.step HP.out HR.out HBB.out (by rw [HO.out.1]; exact hik) (show P + z = cf O (i + k) + cf p i * cf r k from by rw [HPe.out, HX.out, HY.out, HZ.out]))
                have HO4 := Lib.hid (HO3.out.store (i + k) (P + z))
                go_wp2
                go_roundw
                case rel => exact ⟨k + 1, _, by omega, by go_num, HT2, HO4, HE3.out.setCell (Nat.le_refl _) _⟩
                case measure => simp [intOf]; omega
            · have hke : k = rn := by omega
              have HT2 : Hid (PE O (pmul (p.take (i + 1)) r) ∧ ∀ j, Bd (cf O j) ((i + 1) * BB')) := by
                have h := HT.out
                rw [hke, ← HRL.out] at h
                exact h.done (fun _ _ => .inr trivial)
              clear hke
              go_wp2
              go_roundw
              case rel => exact ⟨i + 1, O, by omega, by go_num, HT2, HO, HE⟩
              case measure => simp [intOf]; omega
        · have hie : i = pn := by omega
          have HT2 : Hid (PE O (pmul p r)) := by
            have h := HT.out.1
            rw [hie, ← HPL.out, List.take_length] at h
            exact h
          have HT3 : Hid (PB O (pn * BB')) := by
            have h := HT.out.2
            rw [hie] at h
            exact PB.of_cf h
          clear hie
          go_wp2
          go_ret
          exact ⟨O, rfl, HO.out.1, HT2.out, HT3.out, HO.out.ps, HE.out⟩
set_option maxHeartbeats 1000000 in
set_option maxRecDepth 100000 in
theorem ptimes_nil (A B : Option Addr) (ca cb pn rn : Nat) (w : World) (h : pn = 0 ∨ rn = 0) :
    Calls Tryz.prog 62 #[.slice A pn ca, .slice B rn cb] w fun e w' => e = .returned (.slice none 0 0) ∧ w = w' := by
  by_cases h0 : pn = 0
  · subst h0
    clear h
    go_enter Tryz.func62, Tryz.ntmps62
    go_wp2_with fail
    go_ret
    exact ⟨rfl, rfl⟩
  · obtain rfl : rn = 0 := by omega
    have hp0' : ((pn : Int) == 0) = false := by rw [beq_eq_false_iff_ne]; omega
    clear h h0
    go_enter Tryz.func62, Tryz.ntmps62
    go_wp2_with fail
    go_ret
    exact ⟨rfl, rfl⟩
theorem PS.nil (w : World) : PS w (.slice none 0 0) [] := SlS.nil w
/-- The call hands back a polynomial's numbers. -/
def RetP (w : World) (q : Pl) (e : Ending) (w' : World) : Prop := ∃ v, e = .returned v ∧ PS w' v q ∧ Ext w w'
theorem ptimes_v (v1 v2 : Value) (p r : Pl) (m n : Nat) (w : World) (hW : Wd w) (h1 : PS w v1 p) (h2 : PS w v2 r) (hp : PB p m) (hr : PB r n) (tp : Tr p) (tr : Tr r) (l1 : p.length ≤ 100000) (l2 : r.length ≤ 100000)
    (hk : (p.length + 1) * (m + n + 1) + (m + n) + 3 ≤ KK) :
    Calls Tryz.prog 62 #[v1, v2] w (RetP w (ptrim (pmul p r))) := by
  obtain ⟨A, ca, rfl⟩ := h1.sl
  obtain ⟨B, cb, rfl⟩ := h2.sl
  by_cases h0 : p.length = 0 ∨ r.length = 0
  · refine (ptimes_nil A B ca cb _ _ w h0).mono ?_
    rintro e w' ⟨rfl, rfl⟩
    have e0 : ptrim (pmul p r) = [] := by
      rcases h0 with h0 | h0
      · rw [List.eq_nil_of_length_eq_zero h0]; rfl
      · rw [List.eq_nil_of_length_eq_zero h0]
        exact tr_zero (tr_ptrim _) ((cf_ptrim _).trans (pmul_nil_r p))
    rw [e0]
    exact ⟨_, rfl, PS.nil w, Ext.rfl' _⟩
  · refine (ptimes_some A B ca cb p r m n w hW (by omega) (by omega) l1 l2 h1 h2 hp hr _ rfl hk).mono ?_
    rintro e w' ⟨O, rfl, hl, hE, hb, hps, hx⟩
    have hO : O = ptrim (pmul p r) := by
      have hpt := (pmul_tr tp tr (by intro e; rw [e] at h0; simp at h0) (by intro e; rw [e] at h0; simp at h0)).1
      exact pl_ext (by rw [hl, hpt]) (hE.trans (cf_ptrim _).symm)
    rw [hO] at hps
    exact ⟨_, rfl, hps, hx⟩
theorem PB.trim {p : Pl} {n : Nat} (h : ∀ j, Bd (GB.cf p j) n) : PB (ptrim p) n := PB.of_cf fun j => by rw [cf_ptrim p j]; exact h j
end Go.Proofs.YtbldlibijojbjaaGreatDoor.GB
