import Derived.Test.YtbldlibijojbjaaGreatDoorMCl
namespace Go.Proofs.YtbldlibijojbjaaGreatDoor.GB
set_option linter.unusedVariables false
set_option linter.unusedSimpArgs false

theorem cf_pmul_high (a b : Pl) (i : Nat) (h : a.length + b.length ≤ i + 1) : cf (pmul a b) i = 0 := by
  induction a generalizing i with
  | nil => simp [pmul]
  | cons x a ih =>
    simp only [List.length_cons] at h
    cases i with
    | zero =>
      rw [cf_pmul_zero, cf_ge (by omega)]; grind
    | succ i =>
      rw [cf_pmul_succ, cf_ge (by omega), ih i (by omega)]; grind
theorem cf_pmul_top (a b : Pl) (m n : Nat) (ha : a.length = m + 1) (hb : b.length = n + 1) : cf (pmul a b) (m + n) = cf a m * cf b n := by
  induction a generalizing m with
  | nil => simp at ha
  | cons x a ih =>
    cases m with
    | zero =>
      have : a = [] := List.length_eq_zero_iff.1 (by simpa using ha)
      subst this
      rw [Nat.zero_add, cf_zero]
      cases n with
      | zero => rw [cf_pmul_zero]
      | succ n => rw [cf_pmul_succ]; simp [pmul]; grind
    | succ m =>
      simp only [List.length_cons] at ha
      rw [show m + 1 + n = (m + n) + 1 by omega, cf_pmul_succ, ih m (by omega), cf_ge (by omega), cf_succ]; grind
def lead (p : Pl) : Rat := cf p (p.length - 1)
theorem lead_ne {p : Pl} (h : Tr p) (hne : p ≠ []) : lead p ≠ 0 := tr_lead h hne
/-- The product of trimmed polynomials. -/
theorem pmul_tr {a b : Pl} (ha : Tr a) (hb : Tr b) (h1 : a ≠ []) (h2 : b ≠ []) : (ptrim (pmul a b)).length = a.length + b.length - 1 ∧ lead (ptrim (pmul a b)) = lead a * lead b := by
  have l1 := List.length_pos_iff.2 h1
  have l2 := List.length_pos_iff.2 h2
  have ht := cf_pmul_top a b (a.length - 1) (b.length - 1) (by omega) (by omega)
  have hne : cf a (a.length - 1) * cf b (b.length - 1) ≠ 0 := by
    have e1 := lead_ne ha h1; have e2 := lead_ne hb h2
    unfold lead at e1 e2
    intro h0
    rcases Rat.mul_eq_zero.1 h0 with h | h
    · exact e1 h
    · exact e2 h
  have hle : (ptrim (pmul a b)).length ≤ a.length + b.length - 1 := tr_len (tr_ptrim _) _ (fun i hi => by rw [cf_ptrim]; exact cf_pmul_high a b i (by omega))
  have hge : a.length - 1 + (b.length - 1) < (ptrim (pmul a b)).length := by
    rcases Nat.lt_or_ge (a.length - 1 + (b.length - 1)) (ptrim (pmul a b)).length with h | h
    · exact h
    · have := cf_ge h; rw [cf_ptrim, ht] at this; exact absurd this hne
  have e : (ptrim (pmul a b)).length = a.length + b.length - 1 := by omega
  refine ⟨e, ?_⟩
  unfold lead
  rw [e, cf_ptrim, show a.length + b.length - 1 - 1 = a.length - 1 + (b.length - 1) by omega, ht]
theorem pmul_ne {a b : Pl} (ha : Tr a) (hb : Tr b) (h1 : a ≠ []) (h2 : b ≠ []) : ¬ PE (pmul a b) [] := by
  intro h
  have := (pmul_tr ha hb h1 h2).1
  rw [ptrim_eq h] at this
  have l1 := List.length_pos_iff.2 h1
  have l2 := List.length_pos_iff.2 h2
  simp [ptrim] at this
  omega

/-! ### Division -/
structure DivRel (p r q t : Pl) : Prop where
  trq : Tr q
  trt : Tr t
  lt : t.length < r.length
  eq : PE p (padd (pmul q r) t)
theorem cf_pneg (p : Pl) (i : Nat) : cf (pneg p) i = - cf p i := by unfold pneg; rw [cf_psc]; grind
theorem DivRel.uniq {p r q t q' t' : Pl} (hr : Tr r) (h : DivRel p r q t) (k : DivRel p r q' t') : q = q' ∧ t = t' := by
  have hrn : r ≠ [] := by intro e; have := h.lt; rw [e] at this; simp at this
  -- (q - q') r = t' - t
  have e1 : PE (pmul (padd q (pneg q')) r) (padd t' (pneg t)) := by
    intro i
    have h1 := h.eq i; have h2 := k.eq i
    rw [cf_padd] at h1 h2
    have h3 := pmul_add_l q (pneg q') r i
    rw [cf_padd] at h3
    have h4 := pmul_sc_l (-1) q' r i
    rw [cf_psc] at h4
    rw [h3, cf_padd, cf_pneg]
    have h5 : cf (pmul (pneg q') r) i = -1 * cf (pmul q' r) i := h4
    rw [h5]; grind
  have hq : q = q' := by
    refine tr_ext h.trq k.trq ?_
    have hd : ptrim (padd q (pneg q')) = [] := by
      by_cases hn : ptrim (padd q (pneg q')) = []
      · exact hn
      · exfalso
        have h6 := pmul_tr (tr_ptrim (padd q (pneg q'))) hr hn hrn
        have h7 : ptrim (pmul (ptrim (padd q (pneg q'))) r) = ptrim (padd t' (pneg t)) := ptrim_eq ((PE.mul_l (cf_ptrim _) r).trans e1)
        have h8 : (ptrim (padd t' (pneg t))).length ≤ r.length - 1 := tr_len (tr_ptrim _) _ (fun i hi => by
          have := h.lt; have := k.lt
          rw [cf_ptrim, cf_padd, cf_pneg, cf_ge (by omega), cf_ge (by omega)]; grind)
        have l1 := List.length_pos_iff.2 hn
        have l2 := List.length_pos_iff.2 hrn
        rw [h7] at h6
        omega
    intro i
    have h9 := cf_ptrim (padd q (pneg q')) i
    rw [hd, cf_padd, cf_pneg] at h9
    simp at h9; grind
  refine ⟨hq, tr_ext h.trt k.trt ?_⟩
  subst hq
  intro i
  have h1 := h.eq i; have h2 := k.eq i
  rw [cf_padd] at h1 h2
  grind

/-! ### The greatest common divisor -/
def Dvd (d p : Pl) : Prop := ∃ c, PE p (pmul c d)
structure GcdRel (p r d : Pl) : Prop where
  tr : Tr d
  monic : d = [] ∨ lead d = 1
  dp : Dvd d p
  dr : Dvd d r
  bez : ∃ a b, PE d (padd (pmul a p) (pmul b r))
theorem pmul_one (p : Pl) : PE (pmul [1] p) p := by
  intro i
  cases i with
  | zero => rw [cf_pmul_zero]; grind
  | succ i => rw [cf_pmul_succ]; simp [pmul]; grind
theorem Dvd.refl (p : Pl) : Dvd p p := ⟨[1], (pmul_one p).symm⟩
theorem Dvd.trans {a b c : Pl} (h : Dvd a b) (k : Dvd b c) : Dvd a c := by
  obtain ⟨x, hx⟩ := h; obtain ⟨y, hy⟩ := k
  exact ⟨pmul y x, hy.trans ((PE.mul_r y hx).trans (pmul_assoc y x a).symm)⟩
theorem Dvd.add {a b c : Pl} (h : Dvd a b) (k : Dvd a c) : Dvd a (padd b c) := by
  obtain ⟨x, hx⟩ := h; obtain ⟨y, hy⟩ := k
  exact ⟨padd x y, (hx.add hy).trans (pmul_add_l x y a).symm⟩
theorem Dvd.mul (x : Pl) {a b : Pl} (h : Dvd a b) : Dvd a (pmul x b) := by
  obtain ⟨y, hy⟩ := h
  exact ⟨pmul x y, (PE.mul_r x hy).trans (pmul_assoc x y a).symm⟩
theorem Dvd.congr {a b c : Pl} (h : Dvd a b) (k : PE b c) : Dvd a c := by obtain ⟨x, hx⟩ := h; exact ⟨x, k.symm.trans hx⟩
theorem Dvd.nil (a : Pl) : Dvd a [] := ⟨[], PE.rfl' _⟩
theorem Dvd.of_nil {p : Pl} (h : Dvd [] p) : PE p [] := by obtain ⟨x, hx⟩ := h; exact hx.trans (pmul_nil_r x)
theorem GcdRel.uniq {p r d e : Pl} (h : GcdRel p r d) (k : GcdRel p r e) : d = e := by
  have key : ∀ {d e : Pl}, GcdRel p r d → GcdRel p r e → Dvd d e := by
    intro d e h k
    obtain ⟨a, b, hab⟩ := k.bez
    exact ((h.dp.mul a).add (h.dr.mul b)).congr hab.symm
  have h1 := key h k
  have h2 := key k h
  by_cases hd : d = []
  · subst hd; exact (tr_zero k.tr h1.of_nil).symm
  · by_cases he : e = []
    · subst he; exact absurd (tr_zero h.tr h2.of_nil) hd
    · have md := h.monic.resolve_left hd
      have me := k.monic.resolve_left he
      obtain ⟨x, hx⟩ := h1
      obtain ⟨y, hy⟩ := h2
      -- the lengths
      have hx' : PE e (pmul (ptrim x) d) := hx.trans (PE.mul_l (cf_ptrim x).symm d)
      have hy' : PE d (pmul (ptrim y) e) := hy.trans (PE.mul_l (cf_ptrim y).symm e)
      have hxn : ptrim x ≠ [] := by intro e0; rw [e0] at hx'; exact he (tr_zero k.tr hx')
      have hyn : ptrim y ≠ [] := by intro e0; rw [e0] at hy'; exact hd (tr_zero h.tr hy')
      have lx := pmul_tr (tr_ptrim x) h.tr hxn hd
      have ly := pmul_tr (tr_ptrim y) k.tr hyn he
      rw [← ptrim_eq hx', ptrim_tr k.tr] at lx
      rw [← ptrim_eq hy', ptrim_tr h.tr] at ly
      have p1 := List.length_pos_iff.2 hxn
      have p2 := List.length_pos_iff.2 hyn
      have hlx : (ptrim x).length = 1 := by omega
      obtain ⟨c, hc⟩ := List.length_eq_one_iff.1 hlx
      have hc1 : c = 1 := by
        have := lx.2
        rw [hc, md, me] at this
        simp [lead] at this
        grind
      subst hc1
      rw [hc] at hx'
      refine tr_ext h.tr k.tr (PE.symm ?_)
      refine hx'.trans ?_
      intro i
      cases i with
      | zero => rw [cf_pmul_zero]; grind
      | succ i => rw [cf_pmul_succ]; simp [pmul]; grind
end Go.Proofs.YtbldlibijojbjaaGreatDoor.GB

namespace Go.Proofs.YtbldlibijojbjaaGreatDoor.GB
set_option linter.unusedVariables false
set_option linter.unusedSimpArgs false

theorem cf_set (p : Pl) (j : Nat) (y : Rat) (i : Nat) (h : j < p.length) : cf (p.set j y) i = if i = j then y else cf p i := by
  unfold cf
  rw [List.getD_eq_getElem?_getD, List.getElem?_set, List.getD_eq_getElem?_getD]
  split
  · rename_i e; subst e; simp [h]
  · rename_i e; rw [if_neg (fun e' => e e'.symm)]
theorem cf_append (a b : Pl) (i : Nat) : cf (a ++ b) i = if i < a.length then cf a i else cf b (i - a.length) := by
  unfold cf; split
  · rename_i h; simp [List.getElem?_append_left h]
  · rename_i h; simp [List.getElem?_append_right (Nat.le_of_not_lt h)]
theorem cf_take (p : Pl) (k i : Nat) : cf (p.take k) i = if i < k then cf p i else 0 := by
  unfold cf; split
  · rename_i h; simp [List.getElem?_take, h]
  · rename_i h; simp [List.getElem?_take, h]
theorem cf_zeros (k i : Nat) : cf (List.replicate k 0) i = 0 := by
  unfold cf; by_cases h : i < k <;> simp [h]
def pmono (k : Nat) (f : Rat) : Pl := List.replicate k 0 ++ [f]
theorem cf_pmono (k : Nat) (f : Rat) (i : Nat) : cf (pmono k f) i = if i = k then f else 0 := by
  unfold pmono
  rw [cf_append, cf_zeros, List.length_replicate]
  by_cases h : i < k
  · rw [if_pos h, if_neg (by omega)]
  · rw [if_neg h]
    by_cases e : i = k
    · rw [if_pos e, e, Nat.sub_self]; simp
    · rw [if_neg e, cf_ge (by simp; omega)]
theorem cf_mono_mul (k : Nat) (f : Rat) (r : Pl) (i : Nat) : cf (pmul (pmono k f) r) i = if i < k then 0 else f * cf r (i - k) := by
  induction k generalizing i with
  | zero =>
    simp only [pmono, List.replicate_zero, List.nil_append, Nat.not_lt_zero, if_false, Nat.sub_zero]
    cases i with
    | zero => rw [cf_pmul_zero]
    | succ i => rw [cf_pmul_succ]; simp [pmul]; grind
  | succ k ih =>
    have e : pmono (k + 1) f = 0 :: pmono k f := by simp [pmono, List.replicate_succ]
    rw [e]
    have h := pmul_shift_l (pmono k f) r i
    rw [h]
    cases i with
    | zero => simp
    | succ i => rw [cf_succ, ih]; simp
theorem take_mono (p : Pl) (i : Nat) : PE (p.take (i + 1)) (padd (p.take i) (pmono i (cf p i))) := by
  intro x
  rw [cf_padd, cf_take, cf_take, cf_pmono]
  by_cases h : x = i
  · subst h; simp; grind
  · by_cases h2 : x < i
    · rw [if_pos (by omega), if_pos h2, if_neg h]; grind
    · rw [if_neg (by omega), if_neg h2, if_neg h]; grind
/-- One more term of a product. -/
theorem times_step {O A r : Pl} {i k : Nat} {a y : Rat} (h : PE O (padd A (pmul (pmono i a) (r.take k)))) (hl : i + k < O.length) (hy : y = cf O (i + k) + a * cf r k) :
    PE (O.set (i + k) y) (padd A (pmul (pmono i a) (r.take (k + 1)))) := by
  intro x
  have hx := h x
  rw [cf_set _ _ _ _ hl, cf_padd, cf_mono_mul, cf_take] at *
  have hk := h (i + k)
  rw [cf_padd, cf_mono_mul, cf_take] at hk
  by_cases e : x = i + k
  · subst e
    rw [if_pos rfl, hy, hk]
    simp
    grind
  · rw [if_neg e, hx]
    by_cases h2 : x < i
    · simp [h2]
    · simp only [if_neg h2]
      by_cases h3 : x - i < k
      · rw [if_pos h3, if_pos (by omega)]
      · rw [if_neg h3, if_neg (by omega)]
theorem times_row {O p r : Pl} {i : Nat} {a : Rat} (h : PE O (padd (pmul (p.take i) r) (pmul (pmono i a) r))) (ha : a = cf p i) : PE O (pmul (p.take (i + 1)) r) := by
  subst ha
  exact h.trans ((pmul_add_l _ _ r).symm.trans (PE.mul_l (take_mono p i).symm r))

/-! ### The steps of a division -/
structure DInv (p r Q R : Pl) (k : Nat) : Prop where
  eq : PE p (padd (pmul Q r) R)
  hi : ∀ i, k + r.length ≤ i + 1 → cf R i = 0
  lo : ∀ i, i < k → cf Q i = 0
theorem DInv.step {p r Q R R' : Pl} {k : Nat} {f : Rat} (h : DInv p r Q R (k + 1)) (hr : r ≠ []) (hl : lead r ≠ 0) (hf : f = cf R (k + (r.length - 1)) / lead r) (hk : k < Q.length)
    (hR : PE R' (padd R (pmul (pmono k (-f)) r))) : DInv p r (Q.set k f) R' k := by
  have l1 := List.length_pos_iff.2 hr
  refine ⟨?_, ?_, ?_⟩
  · have hQ : PE (Q.set k f) (padd Q (pmono k f)) := by
      intro x
      rw [cf_set _ _ _ _ hk, cf_padd, cf_pmono]
      by_cases e : x = k
      · subst e; rw [if_pos rfl, if_pos rfl, h.lo x (by omega)]; grind
      · rw [if_neg e, if_neg e]; grind
    intro x
    have h1 := h.eq x
    have h2 := (PE.mul_l hQ r) x
    have h3 := (pmul_add_l Q (pmono k f) r) x
    have h4 := hR x
    rw [cf_padd] at h1 h3 h4
    rw [cf_padd, h2, h3, h4, h1, cf_mono_mul, cf_mono_mul]
    split <;> grind
  · intro i hi
    rw [hR i, cf_padd, cf_mono_mul, if_neg (by omega)]
    by_cases e : i = k + (r.length - 1)
    · subst e
      rw [show k + (r.length - 1) - k = r.length - 1 by omega]
      have : cf r (r.length - 1) = lead r := rfl
      rw [this, hf]
      have hx : cf R (k + (r.length - 1)) / lead r * lead r = cf R (k + (r.length - 1)) := by grind
      grind
    · rw [h.hi i (by omega), cf_ge (by omega : r.length ≤ i - k)]; grind
  · intro i hi
    rw [cf_set _ _ _ _ hk, if_neg (by omega)]
    exact h.lo i (by omega)
theorem DInv.start (p r : Pl) (n : Nat) (h : p.length + 1 ≤ n + r.length) : DInv p r (List.replicate n 0) p n := by
  refine ⟨?_, fun i hi => cf_ge (by omega), fun i _ => cf_zeros _ _⟩
  intro x
  rw [cf_padd, pmul_zero_l (fun i => cf_zeros _ i) r x]
  simp; grind
theorem DInv.done {p r Q R : Pl} (h : DInv p r Q R 0) (hr : r ≠ []) : DivRel p r (ptrim Q) (ptrim R) := by
  have l1 := List.length_pos_iff.2 hr
  refine ⟨tr_ptrim _, tr_ptrim _, ?_, h.eq.trans (PE.add (PE.mul_l (cf_ptrim Q).symm r) (cf_ptrim R).symm)⟩
  have := tr_len (tr_ptrim R) (r.length - 1) (fun i hi => by rw [cf_ptrim]; exact h.hi i (by omega))
  omega

/-! ### The remainders -/
theorem GcdRel.base {p : Pl} (hp : Tr p) (hne : p ≠ []) : GcdRel p [] (psc (1 / lead p) p) := by
  have hl := lead_ne hp hne
  have e : (psc (1 / lead p) p).length = p.length := by simp [psc]
  refine ⟨?_, .inr ?_, ⟨[lead p], ?_⟩, Dvd.nil _, ⟨[1 / lead p], [], ?_⟩⟩
  · have l1 := List.length_pos_iff.2 hne
    unfold Tr
    rw [List.getLast?_eq_getElem?, e, List.getElem?_eq_getElem (by omega)]
    intro h0
    have h1 : cf (psc (1 / lead p) p) (p.length - 1) = 0 := by rw [cf_lt (by omega)]; exact Option.some.inj h0
    rw [cf_psc] at h1
    have : lead p = cf p (p.length - 1) := rfl
    grind
  · unfold lead at *; rw [e, cf_psc]; grind
  · intro i
    cases i with
    | zero => rw [cf_pmul_zero, cf_psc]; grind
    | succ i => rw [cf_pmul_succ, cf_psc]; simp [pmul]; grind
  · intro i
    rw [cf_psc, cf_padd]
    cases i with
    | zero => rw [cf_pmul_zero]; simp [pmul]; grind
    | succ i => rw [cf_pmul_succ]; simp [pmul]; grind
theorem GcdRel.nil : GcdRel [] [] [] := ⟨tr_nil, .inl rfl, Dvd.nil _, Dvd.nil _, ⟨[], [], fun i => by simp [pmul, padd]⟩⟩
/-- A divisor of the divisor and of (a multiple of) the remainder. -/
theorem GcdRel.step {p r q t s d : Pl} {c : Rat} (h : PE p (padd (pmul q r) t)) (hc : c ≠ 0) (hs : PE s (psc c t)) (k : GcdRel r s d) : GcdRel p r d := by
  have ht : PE t (pmul [1 / c] s) := by
    intro i
    cases i with
    | zero => rw [cf_pmul_zero, hs 0, cf_psc]; grind
    | succ i => rw [cf_pmul_succ, hs (i + 1), cf_psc]; simp [pmul]; grind
  refine ⟨k.tr, k.monic, ?_, k.dp, ?_⟩
  · exact ((k.dp.mul q).add (k.dr.mul [1 / c])).congr ((PE.add (PE.rfl' _) ht.symm).trans h.symm)
  · obtain ⟨a, b, hab⟩ := k.bez
    -- d = a r + b s = a r + c b (p - q r)
    refine ⟨psc c b, padd a (pneg (psc c (pmul b q))), ?_⟩
    intro i
    have h1 := hab i
    have h2 := (PE.mul_r b hs) i
    have h3 := (pmul_sc_r c b t) i
    have h4 := (PE.mul_r (psc c b) h) i
    have h5 := (pmul_add_r (psc c b) (pmul q r) t) i
    have h6 := (pmul_sc_l c b (pmul q r)) i
    have h7 := (pmul_sc_l c b t) i
    have h8 := (pmul_add_l a (pneg (psc c (pmul b q))) r) i
    have h9 : cf (pmul (pneg (psc c (pmul b q))) r) i = -1 * (c * cf (pmul (pmul b q) r) i) := by
      have := (pmul_sc_l (-1) (psc c (pmul b q)) r) i
      rw [cf_psc, pmul_sc_l c (pmul b q) r i, cf_psc] at this
      exact this
    have h10 := (pmul_assoc b q r) i
    rw [cf_padd] at h1 h5 h8
    rw [cf_psc] at h3 h6 h7
    rw [cf_padd, h1, h2, h3, h4, h5, h6, h7, h8, h9, h10]
    grind
theorem GcdRel.symm {p r d : Pl} (h : GcdRel p r d) : GcdRel r p d := by
  obtain ⟨a, b, hab⟩ := h.bez
  exact ⟨h.tr, h.monic, h.dr, h.dp, ⟨b, a, fun i => by rw [hab i, cf_padd, cf_padd]; grind⟩⟩
end Go.Proofs.YtbldlibijojbjaaGreatDoor.GB
