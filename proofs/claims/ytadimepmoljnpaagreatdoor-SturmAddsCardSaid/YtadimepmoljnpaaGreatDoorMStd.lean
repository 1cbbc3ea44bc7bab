import Derived.Test.YtadimepmoljnpaaGreatDoorMUh
namespace Go.Proofs.YtadimepmoljnpaaGreatDoor.GB
set_option linter.unusedVariables false
set_option linter.unusedSimpArgs false
open Go
theorem cop_psc {a b : Pl} {c : Rat} (hc : c ≠ 0) (h : Cop a b) : Cop (psc c a) (psc c b) := by
  obtain ⟨u, v, huv⟩ := h
  refine ⟨psc (1 / c) u, psc (1 / c) v, fun x => ?_⟩
  have e1 := huv x
  have e2 : 1 / c * c = 1 := by grind
  simp only [pev_psc]; grind
theorem pev_pder_psc (c : Rat) (p : Pl) (x : Rat) : pev (pder (psc c p)) x = c * pev (pder p) x := by rw [pev_PE (D_psc c p), pev_psc]
theorem Cop.ev {a b d : Pl} (h : Cop a b) (k : ∀ x, pev d x = pev b x) : Cop a d := by
  obtain ⟨u, v, huv⟩ := h
  exact ⟨u, v, fun x => by rw [k]; exact huv x⟩
/-- A power that is away from 0. -/
theorem pow_away {s : Pl} {a b : Rat} (h : Away (pev s) a b) (k : Nat) : ∃ m, 0 < m ∧ ∀ x, a ≤ x → x ≤ b → m ≤ pev (ppow s k) x ∨ pev (ppow s k) x ≤ -m := by
  obtain ⟨m, hm, h1⟩ := h
  have h2 : ∀ x, a ≤ x → x ≤ b → m ≤ pev s x ∨ pev s x ≤ -m := fun x k1 k2 => by
    rcases h1 with h1 | h1
    · exact .inl (h1 x k1 k2)
    · exact .inr (h1 x k1 k2)
  induction k with
  | zero => exact ⟨1, by decide, fun x _ _ => by rw [ppow, pev_one]; exact .inl Rat.le_refl⟩
  | succ k ih =>
    obtain ⟨n, hn, ih⟩ := ih
    refine ⟨m * n, Rat.mul_pos hm hn, fun x k1 k2 => ?_⟩
    rw [ppow, pev_pmul]
    have hy := h2 x k1 k2
    have hz := ih x k1 k2
    clear ih h2 h1
    generalize pev s x = y at *
    generalize pev (ppow s k) x = z at *
    have key : ∀ y z : Rat, m ≤ y → n ≤ z → m * n ≤ y * z := fun y z h1 h2 => by
      have e1 := Rat.mul_nonneg (show 0 ≤ y - m by grind) (show 0 ≤ z by grind)
      have e2 := Rat.mul_nonneg (show 0 ≤ m by grind) (show 0 ≤ z - n by grind)
      grind
    rcases hy with hy | hy <;> rcases hz with hz | hz
    · have := key y z hy hz; grind
    · have := key y (-z) hy (by grind); grind
    · have := key (-y) z (by grind) hz; grind
    · have := key (-y) (-z) (by grind) (by grind); grind
/-- Nowhere near 0: of one sign. -/
theorem away_of {p : Pl} {a b m : Rat} (hab : a ≤ b) (hm : 0 < m) (h : ∀ x, a ≤ x → x ≤ b → m ≤ pev p x ∨ pev p x ≤ -m) : Away (pev p) a b := by
  obtain ⟨M, hM⟩ := wi_ends a b
  obtain ⟨K, hK, hK1⟩ : ∃ K, lB M p ≤ K ∧ 1 ≤ K := ⟨rmx (lB M p) 1, rmx_l _ _, rmx_r _ _⟩
  obtain ⟨d, hd⟩ : ∃ d, K * d = m := ⟨m / K, by grind⟩
  have hd0 : 0 < d := by
    apply Classical.byContradiction
    intro hn
    have := Rat.mul_nonneg (show 0 ≤ -d by grind) (show 0 ≤ K by grind); grind
  refine step_ind hd0 (Away (pev p)) a b (fun u v h1 h2 h3 h4 => ⟨m, hm, ?_⟩) (fun u w v _ h1 h2 _ => Away.joined h1 h2) a b Rat.le_refl hab Rat.le_refl
  have hn : ∀ x, u ≤ x → x ≤ v → -m ≤ pev p x - pev p u ∧ pev p x - pev p u ≤ m := fun x k1 k2 =>
    near_val hK (hM u h1 (by grind)) (hM x (by grind) (by grind)) k1 (by
      have := Rat.mul_nonneg (show 0 ≤ K by grind) (show 0 ≤ d - (x - u) by grind); grind)
  rcases h u h1 (by grind) with h5 | h5
  · refine .inl fun x k1 k2 => ?_
    have := hn x k1 k2
    rcases h x (by grind) (by grind) with h6 | h6 <;> grind
  · refine .inr fun x k1 k2 => ?_
    have := hn x k1 k2
    rcases h x (by grind) (by grind) with h6 | h6 <;> grind
theorem dv_away {p s : Pl} {k : Nat} {a b : Rat} (hab : a ≤ b) (hd : Dv p (ppow s k)) (h : Away (pev s) a b) : Away (pev p) a b := by
  obtain ⟨m, hm, h1⟩ := pow_away h k
  obtain ⟨c, hc⟩ := hd
  obtain ⟨M, hM⟩ := wi_ends a b
  obtain ⟨B, hB, hB1⟩ : ∃ B, bB M c ≤ B ∧ 1 ≤ B := ⟨rmx (bB M c) 1, rmx_l _ _, rmx_r _ _⟩
  obtain ⟨e, he⟩ : ∃ e, B * e = m := ⟨m / B, by grind⟩
  have he0 : 0 < e := by
    apply Classical.byContradiction
    intro hn
    have := Rat.mul_nonneg (show 0 ≤ -e by grind) (show 0 ≤ B by grind); grind
  refine away_of hab he0 fun x k1 k2 => ?_
  apply Classical.byContradiction
  intro hn
  obtain ⟨g, hg, hge⟩ : ∃ g, Wi (pev p x) g ∧ g < e := ⟨rab (pev p x), rab_wi _, by unfold rab; split <;> grind⟩
  have h3 := ((bB_ok (hM x k1 k2) c).mono hB).mul hg
  rw [← hc x] at h3
  obtain ⟨h4, h5⟩ := h3
  have h6 := Rat.mul_pos (show 0 < B by grind) (show 0 < e - g by grind)
  rcases h1 x k1 k2 with h7 | h7 <;> grind
/-- What the simple part tells. -/
theorem simp_all {p s : Pl} (tp : Tr p) (hp : p ≠ []) (h : SimpP p s) :
    TinyAll (pev s) (vch s) ∧ (∀ x, pev p x = 0 ↔ pev s x = 0) ∧ (∀ a b, a ≤ b → Away (pev s) a b → Away (pev p) a b) ∧ Dv s p ∧ s ≠ [] ∧ Tr s := by
  obtain ⟨g, q, hg, hd, rfl⟩ := h
  have hq : ∀ x, pev p x = pev q x * pev g x := fun x => by rw [pev_PE hd.eq, pev_padd, pev_pmul]; simp only [pev]; grind
  obtain ⟨h1, k, h2⟩ := simple_facts tp hp hg hq
  have hpn := not_nil tp hp
  have hq0 : q ≠ [] := by
    intro e
    exact hpn (EV.pe fun x => by rw [hq x, e]; simp [pev])
  have hl := lead_ne hd.trq hq0
  obtain ⟨c, hc⟩ : ∃ c, c = 1 / lead q := ⟨_, rfl⟩
  have hcl : c * lead q = 1 := by rw [hc]; grind
  have hc0 : c ≠ 0 := by intro e; rw [e] at hcl; grind
  have e1 : pmon q = psc c q := by rw [hc]; rfl
  have ev : ∀ x, pev (pmon q) x = c * pev q x := fun x => by rw [e1, pev_psc]
  have hs0 : pmon q ≠ [] := by rw [e1]; intro e; exact hq0 (by cases q with | nil => rfl | cons _ _ => cases e)
  have hcop : Cop (pmon q) (pder (pmon q)) := by
    rw [e1]
    exact (cop_psc hc0 h1).ev fun x => by rw [pev_pder_psc, pev_psc]
  have hpow : ∀ k x, pev (ppow q k) x = pev (ppow (psc (lead q) (pmon q)) k) x := fun k x => by
    induction k with
    | zero => rfl
    | succ k ih => rw [ppow, ppow, pev_pmul, pev_pmul, ih, pev_psc, ev]; grind
  have hzero : ∀ x, pev p x = 0 ↔ pev (pmon q) x = 0 := fun x => by
    rw [ev]
    constructor
    · intro h0
      obtain ⟨m, hm⟩ := h2
      have h3 : pev (ppow q k) x = 0 := by rw [hm x, h0]; grind
      have h4 : ∀ k, pev (ppow q k) x = 0 → pev q x = 0 := fun k => by
        induction k with
        | zero => intro h; rw [ppow, pev_one] at h; exact absurd h (by decide)
        | succ k ih =>
          intro h
          rw [ppow, pev_pmul] at h
          rcases Rat.mul_eq_zero.1 h with h | h
          · exact h
          · exact ih h
      rw [h4 k h3]; grind
    · intro h0
      rcases Rat.mul_eq_zero.1 h0 with h | h
      · exact absurd h hc0
      · rw [hq, h]; grind
  refine ⟨fun M => tiny (pmon_tr hd.trq) hs0 hcop (pder_tr (pmon_tr hd.trq)) M, hzero, fun a b hab ha => ?_, ⟨psc (lead q) g, fun x => by rw [pev_psc, ev, hq]; grind⟩, hs0, pmon_tr hd.trq⟩
  refine dv_away hab h2 ?_
  obtain ⟨m, hm, h3⟩ := ha
  refine away_of hab (m := m * rab (lead q)) ?_ fun x k1 k2 => ?_
  · refine Rat.mul_pos hm ?_
    unfold rab; split <;> grind
  · have e2 : pev q x = lead q * pev (pmon q) x := by rw [ev]; grind
    rw [e2]
    have hr : (0 < lead q ∧ rab (lead q) = lead q) ∨ (lead q < 0 ∧ rab (lead q) = - lead q) := by
      unfold rab; split <;> grind
    rcases h3 with h3 | h3
    · have h4 := h3 x k1 k2
      rcases hr with ⟨r1, r2⟩ | ⟨r1, r2⟩ <;> rw [r2]
      · have := Rat.mul_nonneg (show 0 ≤ lead q by grind) (show 0 ≤ pev (pmon q) x - m by grind); grind
      · have := Rat.mul_nonneg (show 0 ≤ -lead q by grind) (show 0 ≤ pev (pmon q) x - m by grind); grind
    · have h4 := h3 x k1 k2
      rcases hr with ⟨r1, r2⟩ | ⟨r1, r2⟩ <;> rw [r2]
      · have := Rat.mul_nonneg (show 0 ≤ lead q by grind) (show 0 ≤ -pev (pmon q) x - m by grind); grind
      · have := Rat.mul_nonneg (show 0 ≤ -lead q by grind) (show 0 ≤ -pev (pmon q) x - m by grind); grind
end Go.Proofs.YtadimepmoljnpaaGreatDoor.GB

namespace Go.Proofs.YtadimepmoljnpaaGreatDoor.GB
set_option linter.unusedVariables false
set_option linter.unusedSimpArgs false
open Go
/-- Isolation by halving. -/
noncomputable def isoL (s : Pl) : Nat → Rat → Rat → List (Rat × Rat) × Bool
  | 0, lo, hi => if cntP s lo hi = 0 then ([], true) else if cntP s lo hi = 1 then ([(lo, hi)], true) else ([], false)
  | k + 1, lo, hi => if cntP s lo hi = 0 then ([], true) else if cntP s lo hi = 1 then ([(lo, hi)], true) else
      ((isoL s k lo ((lo + hi) * (1 / 2))).1 ++ (isoL s k ((lo + hi) * (1 / 2)) hi).1, (isoL s k lo ((lo + hi) * (1 / 2))).2 && (isoL s k ((lo + hi) * (1 / 2)) hi).2)
/-- One halving of a range with one root. -/
noncomputable def nar1 (s : Pl) (I : Rat × Rat) : Rat × Rat := if cntP s I.1 ((I.1 + I.2) * (1 / 2)) = 1 then (I.1, (I.1 + I.2) * (1 / 2)) else ((I.1 + I.2) * (1 / 2), I.2)
noncomputable def narL (s : Pl) : Nat → Rat × Rat → Rat × Rat
  | 0, I => I
  | k + 1, I => narL s k (nar1 s I)
theorem mid_lt {a b : Rat} (h : a < b) : a < (a + b) * (1 / 2) ∧ (a + b) * (1 / 2) < b := by constructor <;> grind
def MonV (V : Rat → Int) : Prop := ∀ a b, a ≤ b → V b ≤ V a
theorem TinyAll.monV {f : Rat → Rat} {V : Rat → Int} (H : TinyAll f V) : MonV V := fun _ _ h => H.mono h
theorem isoL_zero {s : Pl} {k : Nat} {lo hi : Rat} (h : cntP s lo hi = 0) : isoL s k lo hi = ([], true) := by
  cases k <;> unfold isoL <;> rw [if_pos h]
theorem isoL_one {s : Pl} {k : Nat} {lo hi : Rat} (h : cntP s lo hi = 1) : isoL s k lo hi = ([(lo, hi)], true) := by
  cases k <;> unfold isoL <;> rw [if_neg (by omega), if_pos h]
theorem isoL_end {s : Pl} {lo hi : Rat} (h : cntP s lo hi ≠ 0) (h1 : cntP s lo hi ≠ 1) : isoL s 0 lo hi = ([], false) := by
  unfold isoL; rw [if_neg h, if_neg h1]
theorem isoL_step {s : Pl} {k : Nat} {lo hi : Rat} (h : cntP s lo hi ≠ 0) (h1 : cntP s lo hi ≠ 1) : isoL s (k + 1) lo hi = ((isoL s k lo ((lo + hi) * (1 / 2))).1 ++ (isoL s k ((lo + hi) * (1 / 2)) hi).1, (isoL s k lo ((lo + hi) * (1 / 2))).2 && (isoL s k ((lo + hi) * (1 / 2)) hi).2) := by
  conv => lhs; unfold isoL
  rw [if_neg h, if_neg h1]
theorem isoL_len {s : Pl} (hm : MonV (vch s)) : ∀ (k : Nat) (lo hi : Rat), lo < hi → ((isoL s k lo hi).1.length : Int) ≤ cntP s lo hi := by
  intro k
  induction k with
  | zero =>
    intro lo hi h
    have h0 := hm lo hi (by grind)
    by_cases h1 : cntP s lo hi = 0
    · rw [isoL_zero h1, h1]; simp
    · by_cases h2 : cntP s lo hi = 1
      · rw [isoL_one h2, h2]; simp
      · rw [isoL_end h1 h2, cntP_v]; simp; omega
  | succ k ih =>
    intro lo hi h
    by_cases h1 : cntP s lo hi = 0
    · rw [isoL_zero h1, h1]; simp
    · by_cases h2 : cntP s lo hi = 1
      · rw [isoL_one h2, h2]; simp
      · rw [isoL_step h1 h2]
        obtain ⟨m1, m2⟩ := mid_lt h
        have i1 := ih _ _ m1
        have i2 := ih _ _ m2
        rw [cntP_v] at *
        rw [List.length_append]; push_cast
        omega
end Go.Proofs.YtadimepmoljnpaaGreatDoor.GB
