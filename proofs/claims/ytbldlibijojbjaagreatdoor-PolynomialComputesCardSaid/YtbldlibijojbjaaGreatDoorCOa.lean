import Derived.Test.YtbldlibijojbjaaGreatDoorCJt
namespace Go.Proofs.YtbldlibijojbjaaGreatDoor.GB
set_option linter.unusedVariables false
set_option linter.unusedSimpArgs false
open Go
/-! Products, quotients, common divisors, as the reference computes them. -/
theorem cf_tms (p r : Pl) (i x : Nat) : cf (pmul (p.take (i + 1)) r) x = cf (pmul (p.take i) r) x + (if x < i then 0 else cf p i * cf r (x - i)) := by
  have h1 : PE (p.take (i + 1)) (padd (p.take i) (pmono i (cf p i))) := fun y => by
    rw [cf_padd, cf_take, cf_take, cf_pmono]
    rcases (by omega : y < i ∨ y = i ∨ i < y) with h | h | h
    · rw [if_pos (by omega), if_pos h, if_neg (by omega)]; grind
    · rw [if_pos (by omega), if_neg (by omega), if_pos h, h]; grind
    · rw [if_neg (by omega), if_neg (by omega), if_neg (by omega)]; grind
  have h2 := ((h1.mul_l r).trans (pmul_add_l _ _ _)) x
  rw [h2, cf_padd, cf_mono_mul]
theorem tms_step (p r : Pl) (i : Nat) : ptrim (padd (ptrim (pmul (p.take i) r)) (prs i (ptrim (psc (cf p i) r)))) = ptrim (pmul (p.take (i + 1)) r) := by
  apply ptrim_eq
  intro x
  rw [cf_tms, cf_padd, cf_ptrim, cf_prs]
  split
  · rfl
  · rw [cf_ptrim, cf_psc]
theorem PB.tms {p r : Pl} {n m : Nat} (hp : PB p n) (hr : PB r m) (i : Nat) : PB (GB.ptrim (pmul (p.take i) r)) (i * (n + m + 1)) := by
  refine PB.trim fun x => ?_
  induction i generalizing x with
  | zero =>
    have e : GB.cf (pmul (p.take 0) r) x = 0 := by rw [List.take_zero]; exact cf_ge (Nat.zero_le _)
    rw [e]; exact (Bd.of_int 0 0 (by decide)).mono (Nat.zero_le _)
  | succ i ih =>
    rw [cf_tms]
    have e : (i + 1) * (n + m + 1) = i * (n + m + 1) + (n + m) + 1 := by rw [Nat.succ_mul]; omega
    rw [e]
    refine (ih x).add ?_
    split
    · exact (Bd.of_int 0 0 (by decide)).mono (Nat.zero_le _)
    · exact (hp.cf i).mul (hr.cf _)
theorem tms_len (p r : Pl) (i : Nat) : (ptrim (pmul (p.take i) r)).length ≤ i + r.length := by
  refine tr_len (tr_ptrim _) _ fun x hx => ?_
  rw [cf_ptrim]
  exact cf_pmul_high _ _ _ (by rw [List.length_take]; omega)
theorem prs_one (j : Nat) (f : Rat) : prs j [f] = pmono j f := by unfold prs pmono; rw [if_neg (by simp)]
theorem pneg_ref (p r : Pl) : ptrim (padd p (ptrim (psc (-1) r))) = ptrim (padd p (pneg r)) := ptrim_eq fun i => by rw [cf_padd, cf_padd, cf_ptrim]; rfl
/-- The bits of a quotient's number. -/
def ovX (lp n lr m : Nat) : Nat := cdB n m (lp - lr + 1) + m
/-- What the reference's division holds behind s steps. -/
structure OVI (p r P Q : Pl) (n m s : Nat) : Prop where
  trP : Tr P
  trQ : Tr Q
  cb : CB P (cdB n m s)
  pb : PB Q (s * (ovX p.length n r.length m + 1))
  eq : PE p (padd (pmul Q r) P)
  len : P.length + s ≤ p.length
  lenQ : Q.length ≤ p.length
  st : s ≤ p.length + 1 - r.length
theorem OVI.start {p r : Pl} {n m : Nat} (tp : Tr p) (h : CB p n) : OVI p r p [] n m 0 := by
  refine ⟨tp, tr_nil, h.mono (by unfold cdB; omega), PB.nil _, fun i => ?_, by omega, Nat.zero_le _, Nat.zero_le _⟩
  rw [cf_padd]
  have e : cf (pmul [] r) i = 0 := cf_ge (Nat.zero_le _)
  rw [e]; grind
theorem OVI.f {p r P Q : Pl} {n m s : Nat} (h : OVI p r P Q n m s) (hr : CB r m) (tr : Tr r) (hr0 : r ≠ []) (hl : r.length ≤ P.length) : Bd (lead P / lead r) (ovX p.length n r.length m) := by
  have hs := (h.cb.step (a := P.length - 1) (j := 0) (R' := []) hr (lead_ne tr hr0) rfl).1
  have := h.len
  exact hs.mono (by unfold ovX; have := cdB_mono (n := n) (m := m) (show s ≤ p.length - r.length + 1 by omega); omega)
theorem OVI.step {p r P Q : Pl} {n m s : Nat} (h : OVI p r P Q n m s) (hr : CB r m) (tr : Tr r) (hr0 : r ≠ []) (hl : r.length ≤ P.length) :
    OVI p r (ptrim (padd P (pneg (ptrim (pmul (pmono (P.length - r.length) (lead P / lead r)) r))))) (ptrim (padd Q (pmono (P.length - r.length) (lead P / lead r)))) n m (s + 1) := by
  have l0 := List.length_pos_iff.2 hr0
  have hf := h.f hr tr hr0 hl
  have hlr := lead_ne tr hr0
  have hlen := h.len
  have hlq := h.lenQ
  have hE : PE (ptrim (padd P (pneg (ptrim (pmul (pmono (P.length - r.length) (lead P / lead r)) r))))) (padd P (pmul (pmono (P.length - r.length) (-(lead P / lead r))) r)) := fun x => by
    rw [cf_ptrim, cf_padd, cf_padd, cf_pneg, cf_ptrim, cf_mono_mul, cf_mono_mul]
    split <;> grind
  refine ⟨tr_ptrim _, tr_ptrim _, ?_, ?_, ?_, ?_, ?_, by omega⟩
  · have := (h.cb.step (a := P.length - 1) (j := P.length - r.length) hr hlr rfl).2 hE
    rw [cdB_succ]; exact this
  · refine PB.trim fun x => ?_
    rw [cf_padd, Nat.succ_mul]
    refine ((h.pb.cf x).add (n := ovX p.length n r.length m) ?_).mono (by omega)
    rw [cf_pmono]; split
    · exact hf
    · exact (Bd.of_int 0 0 (by decide)).mono (Nat.zero_le _)
  · intro x
    have h1 := ((PE.mul_l (cf_ptrim (padd Q (pmono (P.length - r.length) (lead P / lead r)))) r).trans (pmul_add_l _ _ _)) x
    rw [cf_padd, h1, cf_padd, cf_ptrim, cf_padd, cf_pneg, cf_ptrim, h.eq x, cf_padd]
    grind
  · have h2 : (ptrim (padd P (pneg (ptrim (pmul (pmono (P.length - r.length) (lead P / lead r)) r))))).length ≤ P.length - 1 := by
      refine tr_len (tr_ptrim _) _ fun x hx => ?_
      rw [hE x, cf_padd, cf_mono_mul, if_neg (by omega)]
      by_cases hx2 : x = P.length - 1
      · have e1 : cf P x = lead P := by rw [hx2]; rfl
        have e2 : x - (P.length - r.length) = r.length - 1 := by omega
        have e3 : cf r (x - (P.length - r.length)) = lead r := by rw [e2]; rfl
        rw [e1, e3]; grind
      · rw [cf_ge (p := P) (by omega), cf_ge (p := r) (by omega)]; grind
    omega
  · refine Nat.le_trans (ptrim_len _) ?_
    rw [padd_len]
    have e : (pmono (P.length - r.length) (lead P / lead r)).length = P.length - r.length + 1 := by simp [pmono]
    rw [e]; omega
theorem over_lt {P r : Pl} (tr : Tr r) (hr0 : r ≠ []) (hl : r.length ≤ P.length) : (ptrim (padd P (pneg (ptrim (pmul (pmono (P.length - r.length) (lead P / lead r)) r))))).length < P.length := by
  have l0 := List.length_pos_iff.2 hr0
  have hlr := lead_ne tr hr0
  have h2 : (ptrim (padd P (pneg (ptrim (pmul (pmono (P.length - r.length) (lead P / lead r)) r))))).length ≤ P.length - 1 := by
    refine tr_len (tr_ptrim _) _ fun x hx => ?_
    rw [cf_ptrim, cf_padd, cf_pneg, cf_ptrim, cf_mono_mul, if_neg (by omega)]
    by_cases hx2 : x = P.length - 1
    · have e1 : cf P x = lead P := by rw [hx2]; rfl
      have e2 : x - (P.length - r.length) = r.length - 1 := by omega
      have e3 : cf r (x - (P.length - r.length)) = lead r := by rw [e2]; rfl
      rw [e1, e3]; grind
    · rw [cf_ge (p := P) (by omega), cf_ge (p := r) (by omega)]; grind
  omega
theorem OVI.done {p r P Q : Pl} {n m s : Nat} (h : OVI p r P Q n m s) (hl : P.length < r.length) : DivRel p r Q P := ⟨h.trQ, h.trP, hl, h.eq⟩
theorem OVI.rem {p r P Q : Pl} {n m s : Nat} (h : OVI p r P Q n m s) : CB P (remB p.length n r.length m) ∧ PB Q (p.length * (ovX p.length n r.length m + 1)) := by
  have hlen := h.len
  have hst := h.st
  constructor
  · unfold remB
    by_cases hs : p.length < r.length
    · rw [if_pos hs]
      have h1 : s = 0 := by omega
      subst h1
      exact h.cb.mono (by unfold cdB; omega)
    · rw [if_neg hs]
      exact h.cb.mono (cdB_mono (by omega))
  · exact h.pb.mono (Nat.mul_le_mul_right _ (by omega))
theorem gok_n : ∀ (f lp n lr m N : Nat), gok f lp n lr m N = true → n ≤ N := by
  intro f lp n lr m N h
  cases f with
  | zero => exact of_decide_eq_true h
  | succ f =>
    unfold gok at h
    split at h
    · exact of_decide_eq_true h
    · split at h
      · rw [Bool.and_eq_true] at h; exact of_decide_eq_true h.1
      · rename_i h1 h2
        rw [Bool.and_eq_true] at h
        have := of_decide_eq_true h.1
        unfold remB at this; rw [if_neg h2] at this; unfold cdB at this
        omega
/-- What the reference's loop of the greatest common divisor holds. -/
def RI (p r P R : Pl) (n m f N : Nat) : Prop := Tr P ∧ Tr R ∧ CB P n ∧ CB R m ∧ P.length ≤ 17 ∧ R.length ≤ 17 ∧ R.length ≤ f ∧ gok f P.length n R.length m N = true ∧ ∀ d, GcdRel P R d → GcdRel p r d
theorem RI.step {p r P R q t : Pl} {n m f N : Nat} (h : RI p r P R n m (f + 1) N) (hr : R ≠ []) (hd : DivRel P R q t) (hb : CB t (remB P.length n R.length m)) : RI p r R t m (remB P.length n R.length m) f N := by
  obtain ⟨t1, t2, b1, b2, l1, l3, l2, g, hg⟩ := h
  have l0 := List.length_pos_iff.2 hr
  have hlt := hd.lt
  refine ⟨t2, hd.trt, b2, hb, l3, by omega, by omega, ?_, fun d hd2 => hg d (GcdRel.step hd.eq (c := 1) (by decide) (fun i => by rw [cf_psc]; grind) hd2)⟩
  unfold gok at g
  rw [if_neg (by omega)] at g
  by_cases hs : P.length < R.length
  · rw [if_pos hs, Bool.and_eq_true] at g
    have e := (DivRel.uniq t2 hd (DivRel.short t1 hs)).2
    subst e
    have e2 : remB t.length n R.length m = n := by unfold remB; rw [if_pos hs]
    rw [e2]; exact g.2
  · rw [if_neg hs, Bool.and_eq_true, List.all_eq_true] at g
    exact g.2 _ (List.mem_range.2 hlt)
theorem RI.done {p r P : Pl} {n m f N : Nat} (h : RI p r P [] n m f N) : GcdRel p r (pmon P) := by
  obtain ⟨t1, t2, b1, b2, l1, l3, l2, g, hg⟩ := h
  refine hg _ ?_
  by_cases hP : P = []
  · subst hP; exact GcdRel.nil
  · exact GcdRel.base t1 hP
theorem RI.bits {p r P R : Pl} {n m f N : Nat} (h : RI p r P R n m f N) (hr : R ≠ []) : (∃ f', f = f' + 1) ∧ n ≤ N ∧ m ≤ N ∧ cdB n m (P.length - R.length + 1) ≤ 2 * N + 1 := by
  obtain ⟨t1, t2, b1, b2, l1, l3, l2, g, hg⟩ := h
  have l0 := List.length_pos_iff.2 hr
  have hn := gok_n _ _ _ _ _ _ g
  cases f with
  | zero => omega
  | succ f =>
    refine ⟨⟨f, rfl⟩, hn, ?_⟩
    unfold gok at g
    rw [if_neg (by omega)] at g
    by_cases hs : P.length < R.length
    · rw [if_pos hs, Bool.and_eq_true] at g
      have hm := gok_n _ _ _ _ _ _ g.2
      have e : P.length - R.length + 1 = 1 := by omega
      rw [e]; unfold cdB; omega
    · rw [if_neg hs, Bool.and_eq_true] at g
      have h1 := of_decide_eq_true g.1
      unfold remB at h1; rw [if_neg hs] at h1
      refine ⟨?_, by omega⟩
      unfold cdB at h1
      have : (P.length - R.length + 1) * (m + 1) = (P.length - R.length) * (m + 1) + (m + 1) := by rw [Nat.succ_mul]
      omega
end Go.Proofs.YtbldlibijojbjaaGreatDoor.GB
