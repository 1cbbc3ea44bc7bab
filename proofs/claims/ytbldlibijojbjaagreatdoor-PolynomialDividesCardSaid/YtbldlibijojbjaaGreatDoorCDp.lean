import Derived.Test.YtbldlibijojbjaaGreatDoorCRw
namespace Go.Proofs.YtbldlibijojbjaaGreatDoor.GB
set_option linter.unusedVariables false
set_option linter.unusedSimpArgs false
open Go

/-! Division and divisors, in plain words. -/
theorem padd_nil (a : Pl) : PE (padd a []) a := fun i => by rw [cf_padd, cf_ge (p := []) (Nat.zero_le _)]; grind
theorem DivRel.qlen {p r q t : Pl} (tr : Tr r) (h : DivRel p r q t) : q = [] ∨ q.length + r.length ≤ p.length + 1 := by
  by_cases hq : q = []
  · exact .inl hq
  right
  have hlt := h.lt
  have hr : r ≠ [] := by intro e; subst e; simp at hlt
  have l1 := List.length_pos_iff.2 hq
  have l2 := List.length_pos_iff.2 hr
  have ht := cf_pmul_top q r (q.length - 1) (r.length - 1) (by omega) (by omega)
  have e1 := lead_ne h.trq hq
  have e2 := lead_ne tr hr
  unfold lead at e1 e2
  rcases Nat.lt_or_ge (q.length - 1 + (r.length - 1)) p.length with hl | hl
  · omega
  · exfalso
    have h3 := h.eq (q.length - 1 + (r.length - 1))
    rw [cf_ge hl, cf_padd, ht, cf_ge (p := t) (by omega)] at h3
    have h4 : cf q (q.length - 1) * cf r (r.length - 1) = 0 := by grind
    rcases Rat.mul_eq_zero.1 h4 with h5 | h5
    · exact e1 h5
    · exact e2 h5
theorem div_back {p r q t : Pl} (tp : Tr p) (h : DivRel p r q t) : ptrim (padd (ptrim (pmul q r)) t) = p :=
  tr_ext (tr_ptrim _) tp ((cf_ptrim _).trans ((PE.add (cf_ptrim _) (PE.rfl' _)).trans h.eq.symm))
theorem div_exact {p d a x : Pl} (td : Tr d) (hd : d ≠ []) (h : DivRel p d a x) (hv : Dvd d p) : x = [] ∧ PE p (pmul a d) := by
  obtain ⟨c, hc⟩ := hv
  have h2 : DivRel p d (ptrim c) [] := ⟨tr_ptrim _, tr_nil, List.length_pos_iff.2 hd, hc.trans ((PE.mul_l (cf_ptrim c).symm d).trans (padd_nil _).symm)⟩
  obtain ⟨e1, e2⟩ := h.uniq td h2
  subst e2
  exact ⟨rfl, h.eq.trans (padd_nil _)⟩
theorem gcd_quot {p r d a b : Pl} (h : GcdRel p r d) (hd : d ≠ []) (ha : PE p (pmul a d)) (hb : PE r (pmul b d)) : GcdRel a b [1] := by
  obtain ⟨u, v, huv⟩ := h.bez
  have t1 : Tr ([1] : Pl) := by simp [Tr]
  have key : PE (padd (pmul u a) (pmul v b)) [1] := by
    have h1 : PE d (pmul (padd (pmul u a) (pmul v b)) d) := huv.trans ((PE.add ((PE.mul_r u ha).trans (pmul_assoc u a d).symm) ((PE.mul_r v hb).trans (pmul_assoc v b d).symm)).trans (pmul_add_l _ _ d).symm)
    generalize padd (pmul u a) (pmul v b) = e at h1
    have h2 : PE (pmul (padd e (pneg [1])) d) [] := by
      intro i
      have h3 := h1 i
      have h4 := pmul_add_l e (pneg [1]) d i
      have h5 := pmul_sc_l (-1) [1] d i
      have h6 := pmul_one d i
      rw [cf_psc, h6] at h5
      have h7 : cf (pmul (pneg [1]) d) i = -1 * cf d i := h5
      rw [h4, cf_padd, h7, cf_ge (p := []) (Nat.zero_le _)]
      grind
    by_cases hn : ptrim (padd e (pneg [1])) = []
    · intro i
      have h9 := cf_ptrim (padd e (pneg [1])) i
      rw [hn, cf_padd, cf_pneg, cf_ge (p := []) (Nat.zero_le _)] at h9
      grind
    · exact absurd ((PE.mul_l (cf_ptrim _) d).trans h2) (pmul_ne (tr_ptrim _) h.tr hn hd)
  refine ⟨t1, .inr rfl, ⟨a, ((pmul_comm a [1]).trans (pmul_one a)).symm⟩, ⟨b, ((pmul_comm b [1]).trans (pmul_one b)).symm⟩, ⟨u, v, key.symm⟩⟩
theorem gcd_ne {p r d : Pl} (h : GcdRel p r d) (tr : Tr r) (hr : r ≠ []) : d ≠ [] ∧ lead d = 1 := by
  have hd : d ≠ [] := by
    intro e; subst e
    exact hr (tr_zero tr h.dr.of_nil)
  exact ⟨hd, h.monic.resolve_left hd⟩
theorem gcd_len {p r d : Pl} (h : GcdRel p r d) (tr : Tr r) (hr : r ≠ []) : d.length ≤ r.length := by
  obtain ⟨hd, -⟩ := gcd_ne h tr hr
  obtain ⟨c, hc⟩ := h.dr
  have h2 : DivRel r d (ptrim c) [] := ⟨tr_ptrim _, tr_nil, List.length_pos_iff.2 hd, hc.trans ((PE.mul_l (cf_ptrim c).symm d).trans (padd_nil _).symm)⟩
  by_cases hq : ptrim c = []
  · exfalso
    have := h2.eq
    rw [hq] at this
    exact hr (tr_zero tr (this.trans ((padd_nil _).trans (pmul_zero_l (PE.rfl' []) d))))
  · have l1 := List.length_pos_iff.2 hq
    rcases h2.qlen h.tr with h3 | h3
    · exact absurd h3 hq
    · omega
theorem remB_le {lp n lr m : Nat} (h : lp ≤ 6) (h0 : 0 < lr) : remB lp n lr m ≤ n + 6 * (m + 1) := by
  unfold remB
  split
  · omega
  · unfold cdB
    have : (lp - lr + 1) * (m + 1) ≤ 6 * (m + 1) := Nat.mul_le_mul_right _ (by omega)
    omega
theorem gok1 : ∀ a, a < 7 → ∀ b, b < 7 → gok 6 a 288 b 288 48840 = true := by decide +kernel
theorem gok2 : ∀ a, a < 7 → ∀ b, b < 7 → gok 6 a 2053050 b 2053050 1073741824 = true := by decide +kernel
theorem cb288 {p : Pl} (h : PB p 48) (hl : p.length ≤ 6) : CB p 288 := (CB.of_pb h).mono (by have := Nat.mul_le_mul_right 48 hl; omega)
theorem cb6 {p : Pl} {n : Nat} (h : PB p n) (hl : p.length ≤ 6) (hn : n ≤ 342175) : CB p 2053050 := (CB.of_pb h).mono (by have := Nat.mul_le_mul hl hn; omega)
section
variable (v1 v2 : Value) (p r : Pl) (w : World) (hW : Wd w) (h1 : PO w v1 p 48) (h2 : PO w v2 r 48) (l1 : p.length ≤ 6) (l2 : r.length ≤ 6) (hr : r ≠ [])
include hW h1 h2 l1 l2 hr
/-- Quotient and remainder. -/
theorem dv_div : Calls Tryz.prog 27 #[v1, v2] w fun e w' => ∃ v3 v4 q t, e = .returned (.tuple #[v3, v4, .int .i64 0]) ∧ DivRel p r q t ∧ PO w' v3 q 2022 ∧ PO w' v4 t 2022 ∧ q.length ≤ 6 ∧ Ext w w' := by
  have hb := remB_le (n := 288) (m := 288) l1 (List.length_pos_iff.2 hr)
  refine (Div_p v1 v2 p r 48 48 w hW h1 h2 288 288 (cb288 h1.2.1 l1) (cb288 h2.2.1 l2) hr (by have := kk32; omega)).mono ?_
  rintro e w' ⟨v3, v4, q, t, rfl, hd, ⟨ht, hq⟩, s3, s4, hE⟩
  have hql : q.length ≤ 6 := by
    have := List.length_pos_iff.2 hr
    rcases hd.qlen h2.2.2.1 with h | h
    · rw [h]; exact Nat.zero_le _
    · omega
  have hlt := hd.lt
  exact ⟨v3, v4, q, t, rfl, hd, ⟨s3, hq.mono (by omega), hd.trq, by omega⟩, ⟨s4, ht.pb.mono (by omega), hd.trt, by omega⟩, hql, hE⟩
/-- The greatest common divisor. -/
theorem dv_gcd : Calls Tryz.prog 29 #[v1, v2] w fun e w' => ∃ v d, e = .returned (.tuple #[v, .int .i64 0]) ∧ (GcdRel p r d ∧ CB d 48840) ∧ PO w' v d 48840 ∧ (d ≠ [] ∧ lead d = 1 ∧ d.length ≤ 6) ∧ Ext w w' := by
  refine (GCD_p v1 v2 p r 48 48 w hW h1 h2 6 48840 288 288 (cb288 h1.2.1 l1) (cb288 h2.2.1 l2) l2 (by have := kk32; omega) (by have := kk32; omega) (gok1 _ (by omega) _ (by omega))).mono ?_
  rintro e w' ⟨v, rfl, ⟨d, h3, hd, hc⟩, hE⟩
  have hn := gcd_ne hd h2.2.2.1 hr
  have hl := gcd_len hd h2.2.2.1 hr
  exact ⟨v, d, rfl, ⟨hd, hc⟩, ⟨h3, hc.pb, hd.tr, by omega⟩, ⟨hn.1, hn.2, by omega⟩, hE⟩
end
/-- Division by a divisor. -/
theorem dv_quot (v1 v2 : Value) (p d : Pl) (w : World) (hW : Wd w) (h1 : PO w v1 p 48) (h2 : PO w v2 d 48840) (l1 : p.length ≤ 6) (hc : CB d 48840) (hd : d ≠ []) (hv : Dvd d p) :
    Calls Tryz.prog 27 #[v1, v2] w fun e w' => ∃ v3 v4 a, e = .returned (.tuple #[v3, v4, .int .i64 0]) ∧ PE p (pmul a d) ∧ PO w' v3 a 342175 ∧ PS w' v4 [] ∧ a.length ≤ 6 ∧ Ext w w' := by
  have hb := remB_le (n := 288) (m := 48840) l1 (List.length_pos_iff.2 hd)
  refine (Div_p v1 v2 p d 48 48840 w hW h1 h2 288 48840 (cb288 h1.2.1 l1) hc hd (by have := kk32; omega)).mono ?_
  rintro e w' ⟨v3, v4, q, t, rfl, hdv, ⟨ht, hq⟩, s3, s4, hE⟩
  obtain ⟨rfl, hpe⟩ := div_exact h2.2.2.1 hd hdv hv
  have hql : q.length ≤ 6 := by
    have := List.length_pos_iff.2 hd
    rcases hdv.qlen h2.2.2.1 with h | h
    · rw [h]; exact Nat.zero_le _
    · omega
  exact ⟨v3, v4, q, rfl, hpe, ⟨s3, hq.mono (by omega), hdv.trq, by omega⟩, s4, hql, hE⟩
/-- What is left has no common divisor. -/
theorem dv_one (v1 v2 : Value) (p r d a b : Pl) (w : World) (hW : Wd w) (h1 : PO w v1 a 342175) (h2 : PO w v2 b 342175) (l1 : a.length ≤ 6) (l2 : b.length ≤ 6) (hd : d ≠ []) (hg : GcdRel p r d) (ha : PE p (pmul a d)) (hb : PE r (pmul b d)) :
    Calls Tryz.prog 29 #[v1, v2] w fun e w' => ∃ A c, e = .returned (.tuple #[.slice A 1 c, .int .i64 0]) ∧ Ext w w' := by
  refine (GCD_p v1 v2 a b 342175 342175 w hW h1 h2 6 1073741824 2053050 2053050 (cb6 h1.2.1 l1 (Nat.le_refl _)) (cb6 h2.2.1 l2 (Nat.le_refl _)) l2 (by have := kk32; omega) (by have := kk32; omega) (gok2 _ (by omega) _ (by omega))).mono ?_
  rintro e w' ⟨v, rfl, ⟨c, h3, hc, -⟩, hE⟩
  cases hc.uniq (gcd_quot hg hd ha hb)
  obtain ⟨A, ca, rfl⟩ := h3.sl
  exact ⟨A, ca, rfl, hE⟩
end Go.Proofs.YtbldlibijojbjaaGreatDoor.GB
