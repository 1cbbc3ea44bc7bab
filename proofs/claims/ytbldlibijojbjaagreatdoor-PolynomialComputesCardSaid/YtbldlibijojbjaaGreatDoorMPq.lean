import Derived.Test.YtbldlibijojbjaaGreatDoorMPl
namespace Go.Proofs.YtbldlibijojbjaaGreatDoor.GB
set_option linter.unusedVariables false
set_option linter.unusedSimpArgs false
open Go.RowKit Go.Shelf
attribute [local go_sem ↓] Go.wp_at_zero Go.wp_at_succ

/-- A row of texts, known whole. -/
def AtS (w : World) (g c : Nat) (l : List ByteArray) : Prop := OwnS w 0 (.slice (some ⟨g, 0, none⟩) l.length c) l
theorem AtS.ext {w w' : World} {g c : Nat} {l : List ByteArray} (h : AtS w g c l) (hE : Ext w w') : AtS w' g c l := OwnS.ext h hE
theorem AtS.cell {w : World} {g c : Nat} {l : List ByteArray} (h : AtS w g c l) (j : Nat) (hj : j < l.length) : w.cell? ⟨g, j, none⟩ = some (.string l[j]) := OwnS.cellAt h j hj
theorem AtS.froz {w : World} {g c : Nat} {l : List ByteArray} (h : AtS w g c l) (j : Nat) : w.frozen? ⟨g, j, none⟩ = false := World.ownsRow.frozenAt h j
theorem AtS.store {w : World} {g c : Nat} {l : List ByteArray} (h : AtS w g c l) (j : Nat) (x : ByteArray) : AtS (w.setCell ⟨g, j, none⟩ (.string x)) g c (l.set j x) := OwnS.store h j x
theorem AtS.far {w : World} {g c g' : Nat} {l : List ByteArray} (h : AtS w g c l) (hne : g ≠ g') (j : Nat) (x : Value) : AtS (w.setCell ⟨g', j, none⟩ x) g c l := by
  refine World.ownsRow.kept h (row := some g') ?_ (.inr (by simp [Value.ownBlock]; exact hne))
  exact ⟨rfl, rfl, rfl, by simp [World.setCell], fun i hi hne' => Below.heap_setCell _ _ _ _ (by simpa using hne')⟩
theorem OwnS.at_ {w : World} {base : Nat} {v : Value} {l : List ByteArray} (h : OwnS w base v l) (hne : 0 < l.length) : ∃ g c, v = .slice (some ⟨g, 0, none⟩) l.length c ∧ base ≤ g ∧ g < w.heap.size ∧ AtS w g c l := by
  rcases h.2 with ⟨_, h0⟩ | ⟨g, cap, cur, rfl, hg, hh, h1, h2, h3, h4⟩
  · omega
  · exact ⟨g, cap, rfl, hg, (Array.getElem?_eq_some_iff.1 hh).1, h.1, .inr ⟨g, cap, cur, rfl, Nat.zero_le _, hh, h1, h2, h3, h4⟩⟩
theorem AtS.sl {w : World} {g c : Nat} {l : List ByteArray} (h : AtS w g c l) : SlS w (.slice (some ⟨g, 0, none⟩) l.length c) l := OwnS.sl h
/-- A row of numbers. -/
def AtP (w : World) (g c n : Nat) (R : Pl) : Prop := R.length = n ∧ AtS w g c (R.map rb)
theorem AtP.ext {w w' : World} {g c n : Nat} {R : Pl} (h : AtP w g c n R) (hE : Ext w w') : AtP w' g c n R := ⟨h.1, h.2.ext hE⟩
theorem AtP.drH {w : World} {g c n : Nat} {R : Pl} (h : Hid (AtP w g c n R)) : Hid (AtP w.drew g c n R) := h
theorem AtP.cell {w : World} {g c n : Nat} {R : Pl} (h : AtP w g c n R) (j : Nat) (hj : j < n) : w.cell? ⟨g, j, none⟩ = some (rtx (cf R j)) := by
  have hj' : j < R.length := by rw [h.1]; exact hj
  have := h.2.cell j (by simpa using hj')
  rw [this, cf_lt hj']; simp [rb]
theorem AtP.froz {w : World} {g c n : Nat} {R : Pl} (h : AtP w g c n R) (j : Nat) : w.frozen? ⟨g, j, none⟩ = false := h.2.froz j
theorem AtP.store {w : World} {g c n : Nat} {R : Pl} (h : AtP w g c n R) (j : Nat) (q : Rat) : AtP (w.setCell ⟨g, j, none⟩ (rtx q)) g c n (R.set j q) := by
  refine ⟨by rw [List.length_set]; exact h.1, ?_⟩
  have := h.2.store j (rb q)
  rw [List.map_set]
  exact this
theorem AtP.far {w : World} {g c n g' : Nat} {R : Pl} (h : AtP w g c n R) (hne : g ≠ g') (j : Nat) (x : Value) : AtP (w.setCell ⟨g', j, none⟩ x) g c n R := ⟨h.1, h.2.far hne j x⟩
theorem AtP.ps {w : World} {g c n : Nat} {R : Pl} (h : AtP w g c n R) : PS w (.slice (some ⟨g, 0, none⟩) n c) R := by
  have := h.2.sl
  rwa [List.length_map, h.1] at this
/-- The quotient so far: the numbers from k on. -/
def qf (Q : Pl) (k : Nat) : List ByteArray := List.replicate k ⟨#[]⟩ ++ (Q.drop k).map rb
theorem qf_len {Q : Pl} {k : Nat} (h : k ≤ Q.length) : (qf Q k).length = Q.length := by unfold qf; simp; omega
theorem qf_set {Q : Pl} {k : Nat} {f : Rat} (h : k < Q.length) : (qf Q (k + 1)).set k (rb f) = qf (Q.set k f) k := by
  unfold qf
  rw [List.replicate_succ', List.append_assoc, List.set_append_right _ _ (by simp)]
  rw [List.length_replicate, Nat.sub_self, List.singleton_append, List.set_cons_zero]
  congr 1
  rw [List.map_drop, List.map_drop, List.map_set]
  have hk : k < (Q.map rb).length := by simpa using h
  generalize Q.map rb = L at *
  rw [List.drop_set, if_neg (by omega), Nat.sub_self]
  rw [List.drop_eq_getElem_cons hk, List.set_cons_zero]
theorem qf_zero (Q : Pl) : qf Q 0 = Q.map rb := by unfold qf; simp
def AtQ (w : World) (g n : Nat) (Q : Pl) (k : Nat) : Prop := Q.length = n ∧ k ≤ n ∧ OwnS w 0 (.slice (some ⟨g, 0, none⟩) n n) (qf Q k)
theorem AtQ.at_ {w : World} {g n : Nat} {Q : Pl} {k : Nat} (h : AtQ w g n Q k) : AtS w g n (qf Q k) := by
  unfold AtS; rw [qf_len (by rw [h.1]; exact h.2.1), h.1]; exact h.2.2
theorem AtQ.ext {w w' : World} {g n : Nat} {Q : Pl} {k : Nat} (h : AtQ w g n Q k) (hE : Ext w w') : AtQ w' g n Q k := ⟨h.1, h.2.1, h.2.2.ext hE⟩
theorem AtQ.drH {w : World} {g n : Nat} {Q : Pl} {k : Nat} (h : Hid (AtQ w g n Q k)) : Hid (AtQ w.drew g n Q k) := h
theorem AtQ.cell {w : World} {g n : Nat} {Q : Pl} {k : Nat} (h : AtQ w g n Q k) (hk : k < n) : w.cell? ⟨g, k, none⟩ = some (rtx (cf Q k)) := by
  have hl := qf_len (Q := Q) (k := k) (by rw [h.1]; exact h.2.1)
  have hkQ : k < Q.length := by rw [h.1]; exact hk
  rw [h.at_.cell k (by rw [hl]; exact hkQ), cf_lt hkQ]
  simp only [qf]
  rw [List.getElem_append_right (by simp)]
  simp [rb]
theorem AtQ.cell' {w : World} {g n : Nat} {Q : Pl} {k j : Nat} (h : AtQ w g n Q k) (hj : j < n) : ∃ s, w.cell? ⟨g, j, none⟩ = some (.string s) := by
  have hl := qf_len (Q := Q) (k := k) (by rw [h.1]; exact h.2.1)
  exact ⟨_, h.at_.cell j (by rw [hl, h.1]; exact hj)⟩
theorem AtQ.froz {w : World} {g n : Nat} {Q : Pl} {k : Nat} (h : AtQ w g n Q k) (j : Nat) : w.frozen? ⟨g, j, none⟩ = false := h.at_.froz j
theorem AtQ.far {w : World} {g n g' : Nat} {Q : Pl} {k : Nat} (h : AtQ w g n Q k) (hne : g ≠ g') (j : Nat) (x : Value) : AtQ (w.setCell ⟨g', j, none⟩ x) g n Q k := by
  refine ⟨h.1, h.2.1, ?_⟩
  have := h.at_.far hne j x
  unfold AtS at this
  rwa [qf_len (by rw [h.1]; exact h.2.1), h.1] at this
theorem AtQ.store {w : World} {g n : Nat} {Q : Pl} {k : Nat} (h : AtQ w g n Q (k + 1)) (f : Rat) : AtQ (w.setCell ⟨g, k, none⟩ (rtx f)) g n (Q.set k f) k := by
  have hk : k < Q.length := by rw [h.1]; exact h.2.1
  refine ⟨by rw [List.length_set]; exact h.1, Nat.le_of_succ_le h.2.1, ?_⟩
  have := h.at_.store k (rb f)
  rw [qf_set hk] at this
  unfold AtS at this
  rwa [qf_len (by rw [List.length_set]; omega), List.length_set, h.1] at this
theorem AtQ.atP {w : World} {g n : Nat} {Q : Pl} (h : AtQ w g n Q 0) : AtP w g n n Q := by
  refine ⟨h.1, ?_⟩
  have := h.at_
  rwa [qf_zero] at this

/-- Numbers over one denominator. -/
def CB (p : Pl) (n : Nat) : Prop := ∃ D : Nat, 0 < D ∧ D ≤ 2 ^ n ∧ ∀ i, ∃ z : Int, cf p i * (D : Rat) = (z : Rat) ∧ z.natAbs < 2 ^ n
theorem ratnz {D : Nat} (h : 0 < D) : (D : Rat) ≠ 0 := by
  intro e
  have : (D : Rat) = ((0 : Nat) : Rat) := e
  have := Rat.natCast_inj.1 this
  omega
theorem CB.bd {p : Pl} {n : Nat} (h : CB p n) (i : Nat) : Bd (cf p i) n := by
  obtain ⟨D, h0, h1, h2⟩ := h
  obtain ⟨z, hz, hl⟩ := h2 i
  have hd := ratnz h0
  have e : cf p i = mkRat z D := by
    rw [Rat.mkRat_eq_div, ← hz]
    show _ = _ * (D : Rat) / (D : Rat)
    grind
  rw [e]; exact Bd.of_mkRat (by omega) hl h1
theorem CB.pb {p : Pl} {n : Nat} (h : CB p n) : PB p n := PB.of_cf h.bd
theorem CB.mono {p : Pl} {m n : Nat} (h : CB p m) (hm : m ≤ n) : CB p n := by
  obtain ⟨D, h0, h1, h2⟩ := h
  have hp : 2 ^ m ≤ 2 ^ n := Nat.pow_le_pow_right (by omega) hm
  refine ⟨D, h0, Nat.le_trans h1 hp, fun i => ?_⟩
  obtain ⟨z, hz, hl⟩ := h2 i
  exact ⟨z, hz, Nat.lt_of_lt_of_le hl hp⟩
theorem CB.congr {p q : Pl} {n : Nat} (h : CB p n) (e : PE q p) : CB q n := by
  obtain ⟨D, h0, h1, h2⟩ := h
  refine ⟨D, h0, h1, fun i => ?_⟩
  rw [e i]; exact h2 i
theorem CB.nil (n : Nat) : CB [] n := by
  refine ⟨1, by decide, Nat.two_pow_pos n, fun i => ⟨0, ?_, Nat.two_pow_pos n⟩⟩
  rw [cf_ge (Nat.zero_le _), Rat.zero_mul]; rfl
theorem CB.cons {c : Rat} {p : Pl} {m n : Nat} (hc : Bd c m) (h : CB p n) : CB (c :: p) (m + n) := by
  obtain ⟨D, h0, h1, h2⟩ := h
  have hd := ratnz c.den_pos
  have hcd : (c.num : Rat) / ((c.den : Nat) : Rat) = c := by
    have h := Rat.mkRat_eq_div c.num c.den
    rw [Rat.mkRat_self] at h
    exact h.symm
  have e0 : ((c.den * D : Nat) : Rat) = (c.den : Rat) * (D : Rat) := Rat.natCast_mul _ _
  refine ⟨c.den * D, Nat.mul_pos c.den_pos h0, by rw [Nat.pow_add]; exact Nat.mul_le_mul hc.2 h1, fun i => ?_⟩
  cases i with
  | zero =>
    refine ⟨c.num * (D : Int), ?_, ?_⟩
    · rw [cf_zero, e0, Rat.intCast_mul]
      show c * ((c.den : Rat) * (D : Rat)) = (c.num : Rat) * (D : Rat)
      have e1 : c * (c.den : Rat) = (c.num : Rat) := by
        have e2 : (c.num : Rat) / (c.den : Rat) * (c.den : Rat) = (c.num : Rat) := by grind
        rw [hcd] at e2; exact e2
      rw [← e1]; grind
    · rw [Int.natAbs_mul, Int.natAbs_natCast, Nat.pow_add]
      exact Nat.mul_lt_mul_of_lt_of_le hc.1 h1 (Nat.lt_of_lt_of_le h0 h1)
  | succ i =>
    obtain ⟨z, hz, hl⟩ := h2 i
    refine ⟨(c.den : Int) * z, ?_, ?_⟩
    · rw [cf_succ, e0, Rat.intCast_mul, ← hz]
      show _ = (c.den : Rat) * _
      grind
    · rw [Int.natAbs_mul, Int.natAbs_natCast, Nat.pow_add]
      exact Nat.mul_lt_mul_of_le_of_lt hc.2 hl (Nat.lt_of_lt_of_le c.den_pos hc.2)
theorem CB.of_pb {p : Pl} {n : Nat} (h : PB p n) : CB p (p.length * n) := by
  induction p with
  | nil => exact CB.nil _
  | cons c p ih =>
    have h1 := CB.cons (h c (by simp)) (ih fun q hq => h q (by simp [hq]))
    exact h1.mono (by rw [List.length_cons, Nat.succ_mul]; omega)
theorem sgn_abs (z : Int) : ∃ s : Int, s.natAbs = 1 ∧ ((z.natAbs : Nat) : Rat) = (s : Rat) * (z : Rat) := by
  by_cases h : 0 ≤ z
  · refine ⟨1, rfl, ?_⟩
    have e : ((z.natAbs : Nat) : Int) = 1 * z := by omega
    rw [← Rat.intCast_mul, ← e]; rfl
  · refine ⟨-1, rfl, ?_⟩
    have e : ((z.natAbs : Nat) : Int) = -1 * z := by omega
    rw [← Rat.intCast_mul, ← e]; rfl
theorem nz_of {c : Rat} {D : Nat} {z : Int} (hc : c ≠ 0) (h0 : 0 < D) (hz : c * (D : Rat) = (z : Rat)) : z ≠ 0 := by
  intro e
  rw [e] at hz
  have hd := ratnz h0
  rcases Rat.mul_eq_zero.1 (show c * (D : Rat) = 0 from hz) with h | h
  · exact hc h
  · exact hd h
/-- The leading coefficient made 1. -/
theorem CB.mon {p : Pl} {n : Nat} (tp : Tr p) (h : CB p n) : CB (psc (1 / lead p) p) n := by
  by_cases hp : p = []
  · subst hp; exact CB.nil n
  have hl := lead_ne tp hp
  obtain ⟨D, h0, h1, h2⟩ := h
  obtain ⟨y, hy, hyl⟩ := h2 (p.length - 1)
  have hy' : lead p * (D : Rat) = (y : Rat) := hy
  have hyz := nz_of hl h0 hy'
  obtain ⟨s, hs1, hs2⟩ := sgn_abs y
  refine ⟨y.natAbs, by omega, Nat.le_of_lt hyl, fun i => ?_⟩
  obtain ⟨z, hz, hzl⟩ := h2 i
  refine ⟨s * z, ?_, by rw [Int.natAbs_mul, hs1, Nat.one_mul]; exact hzl⟩
  rw [cf_psc, hs2, Rat.intCast_mul, ← hz, ← hy']
  grind
/-- One step of a division. -/
theorem CB.step {R r R' : Pl} {a j n m : Nat} {f : Rat} (h : CB R n) (hr : CB r m) (hl0 : lead r ≠ 0) (hf : f = cf R a / lead r) :
    Bd f (n + m) ∧ (PE R' (padd R (pmul (pmono j (-f)) r)) → CB R' (n + m + 1)) := by
  obtain ⟨D, h0, h1, h2⟩ := h
  obtain ⟨E, k0, k1, k2⟩ := hr
  obtain ⟨za, hza, hzal⟩ := h2 a
  obtain ⟨zl, hzl, hzll⟩ := k2 (r.length - 1)
  have hzl' : lead r * (E : Rat) = (zl : Rat) := hzl
  have hnz := nz_of hl0 k0 hzl'
  obtain ⟨s, hs1, hs2⟩ := sgn_abs zl
  have hfl : f * lead r = cf R a := by rw [hf]; grind
  have hk : f * ((zl : Rat) * (D : Rat)) = (za : Rat) * (E : Rat) := by rw [← hzl', ← hza, ← hfl]; grind
  have hnat : 0 < zl.natAbs := by omega
  have e0 : ((zl.natAbs * D : Nat) : Rat) = (zl.natAbs : Rat) * (D : Rat) := Rat.natCast_mul _ _
  have hpos : 0 < zl.natAbs * D := Nat.mul_pos hnat h0
  have hle : zl.natAbs * D ≤ 2 ^ (n + m) := by rw [Nat.pow_add, Nat.mul_comm]; exact Nat.mul_le_mul h1 (Nat.le_of_lt hzll)
  have hlt : za.natAbs * E < 2 ^ (n + m) := by rw [Nat.pow_add]; exact Nat.mul_lt_mul_of_lt_of_le hzal k1 (Nat.two_pow_pos m)
  constructor
  · have e : f = mkRat (s * (za * (E : Int))) (zl.natAbs * D) := by
      rw [Rat.mkRat_eq_div]
      have hnz2 := ratnz hpos
      have e2 : f * ((zl.natAbs * D : Nat) : Rat) = ((s * (za * (E : Int)) : Int) : Rat) := by
        rw [e0, hs2, Rat.intCast_mul, Rat.intCast_mul]
        show f * ((s : Rat) * (zl : Rat) * (D : Rat)) = (s : Rat) * ((za : Rat) * (E : Rat))
        rw [← hk]; grind
      rw [← e2]
      show _ = f * ((zl.natAbs * D : Nat) : Rat) / ((zl.natAbs * D : Nat) : Rat)
      grind
    rw [e]
    refine Bd.of_mkRat (by omega) ?_ hle
    rw [Int.natAbs_mul, hs1, Nat.one_mul, Int.natAbs_mul, Int.natAbs_natCast]; exact hlt
  · intro h'
    have hp2 : 2 ^ (n + m + 1) = 2 ^ (n + m) + 2 ^ (n + m) := by rw [Nat.pow_succ]; omega
    refine ⟨zl.natAbs * D, hpos, by omega, fun x => ?_⟩
    obtain ⟨z, hz, hzb⟩ := h2 x
    have hy : ∃ y : Int, cf (pmul (pmono j (-f)) r) x * ((E : Rat)) = -f * (y : Rat) ∧ y.natAbs < 2 ^ m := by
      rw [cf_mono_mul]
      by_cases hx : x < j
      · refine ⟨0, ?_, Nat.two_pow_pos m⟩
        rw [if_pos hx]
        show (0 : Rat) * _ = -f * 0
        grind
      · obtain ⟨y, hy, hyl⟩ := k2 (x - j)
        refine ⟨y, ?_, hyl⟩
        rw [if_neg hx, ← hy]; grind
    obtain ⟨y, hy, hyl⟩ := hy
    refine ⟨s * (z * zl - za * y), ?_, ?_⟩
    · rw [h' x, cf_padd, e0, hs2, Rat.intCast_mul, Rat.intCast_sub, Rat.intCast_mul, Rat.intCast_mul, ← hz]
      have hE := ratnz k0
      generalize cf (pmul (pmono j (-f)) r) x = c at *
      generalize cf R x = u at *
      have e3 : c * ((zl : Rat) * (D : Rat)) = -((za : Rat) * (y : Rat)) := by
        have e4 : c * ((zl : Rat) * (D : Rat)) * (E : Rat) = -((za : Rat) * (y : Rat)) * (E : Rat) := by
          have : c * ((zl : Rat) * (D : Rat)) * (E : Rat) = (c * (E : Rat)) * ((zl : Rat) * (D : Rat)) := by grind
          rw [this, hy]
          have : -f * (y : Rat) * ((zl : Rat) * (D : Rat)) = -(f * ((zl : Rat) * (D : Rat))) * (y : Rat) := by grind
          rw [this, hk]; grind
        grind
      grind
    · rw [Int.natAbs_mul, hs1, Nat.one_mul]
      have b1 : (z * zl).natAbs < 2 ^ (n + m) := by rw [Int.natAbs_mul, Nat.pow_add]; exact Nat.mul_lt_mul_of_lt_of_le hzb (Nat.le_of_lt hzll) (Nat.two_pow_pos m)
      have b2 : (za * y).natAbs < 2 ^ (n + m) := by rw [Int.natAbs_mul, Nat.pow_add]; exact Nat.mul_lt_mul_of_lt_of_le hzal (Nat.le_of_lt hyl) (Nat.two_pow_pos m)
      omega
/-- The bits behind some steps of a division. -/
def cdB (n m s : Nat) : Nat := n + s * (m + 1)
theorem cdB_succ (n m s : Nat) : cdB n m (s + 1) = cdB n m s + m + 1 := by unfold cdB; rw [Nat.succ_mul]; omega
theorem cdB_mono {n m s t : Nat} (h : s ≤ t) : cdB n m s ≤ cdB n m t := by unfold cdB; have := Nat.mul_le_mul_right (m + 1) h; omega
/-- What the loop over the places knows of the sizes. -/
def QB (R Q : Pl) (B : Nat) : Prop := CB R B ∧ ∀ x, Bd (cf Q x) B
theorem QB.start {p : Pl} {n m k : Nat} (h : CB p n) : QB p (List.replicate k 0) (cdB n m 0) := by
  refine ⟨h.mono (by unfold cdB; omega), fun x => ?_⟩
  rw [cf_zeros]; exact (Bd.of_int 0 0 (by decide)).mono (Nat.zero_le _)
theorem QB.step {R Q R' r : Pl} {B1 B2 m k a j : Nat} {f : Rat} (h : QB R Q B1) (hr : CB r m) (hl0 : lead r ≠ 0) (hf : f = cf R a / lead r) (h' : PE R' (padd R (pmul (pmono j (-f)) r))) (hB : B2 = B1 + m + 1) (hk : k < Q.length) : QB R' (Q.set k f) B2 := by
  have hs := h.1.step (R' := R') (j := j) hr hl0 hf
  refine ⟨(hs.2 h').mono (by omega), fun x => ?_⟩
  rw [cf_set _ _ _ _ hk]
  split
  · exact hs.1.mono (by omega)
  · exact (h.2 x).mono (by omega)
/-- Inside a step: the numbers from j + i on are as before. -/
def DB (R0 r : Pl) (f : Rat) (j i : Nat) (R : Pl) : Prop :=
  PE R (padd R0 (pmul (pmono j (-f)) (r.take i))) ∧ ∀ x, j + i ≤ x → cf R x = cf R0 x
theorem DB.start {R0 r : Pl} {f : Rat} {j : Nat} : DB R0 r f j 0 R0 := by
  refine ⟨?_, fun x _ => rfl⟩
  intro t
  rw [cf_padd, List.take_zero]
  have := pmul_nil_r (pmono j (-f)) t
  rw [this]
  have e : cf ([] : Pl) t = 0 := cf_ge (Nat.zero_le _)
  rw [e]; grind
theorem DB.step {R0 r : Pl} {f : Rat} {j i : Nat} {R : Pl} {y : Rat} (h : DB R0 r f j i R) (hl : j + i < R.length) (hy : y = cf R (j + i) - f * cf r i) : DB R0 r f j (i + 1) (R.set (j + i) y) := by
  obtain ⟨h1, h3⟩ := h
  refine ⟨times_step h1 hl (by rw [hy]; grind), fun x hx => ?_⟩
  rw [cf_set _ _ _ _ hl, if_neg (by omega)]
  exact h3 x (by omega)
theorem DB.done {R0 r : Pl} {f : Rat} {j : Nat} {R : Pl} (h : DB R0 r f j r.length R) : PE R (padd R0 (pmul (pmono j (-f)) r)) := by
  obtain ⟨h1, h3⟩ := h
  rw [List.take_length] at h1
  exact h1
end Go.Proofs.YtbldlibijojbjaaGreatDoor.GB

namespace Go.Proofs.YtbldlibijojbjaaGreatDoor.GB
set_option linter.unusedVariables false
set_option linter.unusedSimpArgs false
open Go.RowKit Go.Shelf
attribute [local go_sem ↓] Go.wp_at_zero Go.wp_at_succ

/-- What a long division hands back. -/
def DivP (p r : Pl) (B : Nat) (w : World) (e : Ending) (w' : World) : Prop := ∃ v1 v2 q t, e = .returned (.tuple #[v1, v2]) ∧ DivRel p r q t ∧ (CB t B ∧ PB q B) ∧ PS w' v1 q ∧ PS w' v2 t ∧ Ext w w'
set_option maxHeartbeats 8000000 in
set_option maxRecDepth 100000 in
theorem pdiv_long (A B : Option Addr) (ca cb : Nat) (p r : Pl) (m n : Nat) (w : World) (hW : Wd w) (hr0 : 0 < r.length) (hle : r.length ≤ p.length) (l1 : p.length ≤ 100000)
    (hA : PS w (.slice A p.length ca) p) (hB : PS w (.slice B r.length cb) r) (hp : CB p n) (hr : CB r m) (tr : Tr r) (hk : 2 * cdB n m (p.length - r.length + 1) + 6 ≤ KK) :
    Calls Tryz.prog 64 #[.slice A p.length ca, .slice B r.length cb] w (DivP p r (cdB n m (p.length - r.length + 1)) w) := by
  obtain ⟨i0, hi, hz0, hz1, hz2⟩ := info_parts Tryz.infoRat
  obtain ⟨r1, hr1⟩ : ∃ r1, r.length = r1 + 1 := ⟨r.length - 1, by omega⟩
  obtain ⟨N1, hN1⟩ : ∃ N1, p.length = N1 + 1 + r1 := ⟨p.length - 1 - r1, by omega⟩
  have hNN : p.length - r.length + 1 = N1 + 1 := by omega
  rw [hNN] at hk ⊢
  have hNi : (p.length : Int) - (r.length : Int) + 1 = ((N1 + 1 : Nat) : Int) := by omega
  have hN9 : N1 ≤ 200000 := by omega
  have HK := Lib.hid hk
  have HA := Lib.hid hA
  have HB := Lib.hid hB
  have HW := Lib.hid hW
  have HP := Lib.hid hp
  have HR := Lib.hid hr
  have HTr := Lib.hid tr
  have hlt : decide (p.length < r.length) = false := decide_eq_false (by omega)
  clear hA hB hW hp hr tr hk hNN
  have hcl := fun W (hE : Ext w W) => clone49_v (.slice A p.length ca) (p.map rb) W (HA.out.ext hE) (by simp; omega)
  have HR1 := Lib.hid hr1
  have HN1 := Lib.hid hN1
  clear hr1 hN1
  generalize hpl : p.length = pn at *
  generalize hrl : r.length = rn at *
  have HPL := Lib.hid hpl
  have HRL := Lib.hid hrl
  clear hpl hrl
  go_enter Tryz.func64, Tryz.ntmps64
  go_wp2_with fail
  refine (hcl _ (Ext.rfl' _)).mono ?_
  rintro e w1 ⟨v1, rfl, hO, hE1⟩
  obtain ⟨g1, c1, hv, hb1, hg1, hAt⟩ := hO.at_ (by simp; have := HPL.out; omega)
  rw [List.length_map, HPL.out] at hv
  subst hv
  have HR0 : Hid (AtP w1 g1 c1 pn p) := ⟨HPL.out, hAt⟩
  have HE1 := Lib.hid hE1
  clear hO hAt hE1 hcl
  go_wp2_with (refine wpList_make_full _ rfl _ _ _ rfl 0 30 i0 (.string ⟨#[]⟩) 1 Tryz.underlying55 hi hz0 hz1 _ _ _ _ (N1 + 1) rfl rfl (by simp) (by simp) (by rw [hz2]; omega) (by unfold maxLen; omega) (Nat.zero_le _) ?_; intro w2 hown2 hgrow2)
  have HQ0 : Hid (AtQ w2 w1.heap.size (N1 + 1) (List.replicate (N1 + 1) 0) (N1 + 1)) := by
    refine ⟨by simp, Nat.le_refl _, ?_⟩
    rw [madeS] at hown2
    have e : qf (List.replicate (N1 + 1) 0) (N1 + 1) = List.replicate (N1 + 1) ⟨#[]⟩ := by simp [qf]
    rw [e]
    simpa [OwnS, Hid] using hown2
  have hE2 : Ext w1 w2 := (Ext.rfl' w1).gr0 hgrow2
  have HR2 := Lib.hid (HR0.out.ext hE2)
  have HE2 := Lib.hid (HE1.out.tr hE2)
  have n12 : g1 ≠ w1.heap.size := by omega
  have n21 : w1.heap.size ≠ g1 := by omega
  have hb2 : w.heap.size ≤ w1.heap.size := HE1.out.size
  clear hown2 hgrow2 hE2 HR0 HE1 hg1 hNi hlt
  generalize w1.heap.size = g2 at *
  have HD0 : Hid (DInv p r (List.replicate (N1 + 1) 0) p (N1 + 1)) := DInv.start p r (N1 + 1) (by rw [HPL.out, HRL.out]; have := HN1.out; have := HR1.out; omega)
  go_loopw [8] (fun v wr => ∃ (k : Nat) (z : Int) (Q R : Pl), k ≤ N1 + 1 ∧ v = .int .i64 z ∧ Hid (z = (k : Int) - 1) ∧ Hid (DInv p r Q R k) ∧ Hid (QB R Q (cdB n m (N1 + 1 - k))) ∧ Hid (AtP wr g1 c1 pn R) ∧ Hid (AtQ wr g2 (N1 + 1) Q k) ∧ Hid (Ext w wr)) (fun v _ => (intOf v + 1).toNat)
  case atStart => exact ⟨N1 + 1, _, _, p, Nat.le_refl _, rfl, (by unfold Hid; push_cast; omega), HD0, (by unfold Hid; rw [Nat.sub_self]; exact QB.start HP.out), HR2, HQ0, HE2⟩
  case round =>
    clear HD0 HR2 HQ0 HE2
    obtain ⟨k, z, Q, R, hk, rfl, HZ, HD, HBd, HRr, HQ, HE⟩ := hrel
    cases k with
    | zero =>
      obtain rfl : z = -1 := by have := HZ.out; omega
      have hS1 := HQ.out.atP.ps
      have hS2 := HRr.out.ps
      have HS1 := Lib.hid hS1
      have HS2 := Lib.hid hS2
      clear hS1 hS2
      go_wp2_with fail
      refine (ptrimS_v _ _ _ HS1.out).mono ?_
      rintro e w3 ⟨v3, rfl, hv3, rfl⟩
      have HV3 := Lib.hid hv3
      clear hv3
      go_wp2_with fail
      refine (ptrimS_v _ _ _ HS2.out).mono ?_
      rintro e w3 ⟨v4, rfl, hv4, rfl⟩
      have HV4 := Lib.hid hv4
      clear hv4
      go_wp2_with fail
      go_ret2
      refine ⟨_, _, ptrim Q, ptrim R, rfl, HD.out.done (by intro e; have := HRL.out; rw [e] at this; have := HR1.out; simp at *; omega), ⟨HBd.out.1.congr (cf_ptrim _), PB.trim HBd.out.2⟩, ?_, ?_, HE.out⟩
      · have := HV3.out
        rwa [tzS_rb] at this
      · have := HV4.out
        rwa [tzS_rb] at this
    | succ k =>
      obtain rfl : z = (k : Int) := by have := HZ.out; omega
      clear HZ
      have hr1 := HR1.out
      have hn1 := HN1.out
      have hkr : k + r1 < pn := by omega
      have hr1n : r1 < rn := by omega
      have hkN : k < N1 + 1 := by omega
      obtain ⟨s, hs⟩ : ∃ s, s = N1 - k := ⟨_, rfl⟩
      have hs1 : N1 + 1 - (k + 1) = s := by omega
      have hs2 : N1 + 1 - k = s + 1 := by omega
      have hB2 : cdB n m (s + 1) = cdB n m s + m + 1 := cdB_succ n m s
      have hB3 : cdB n m (s + 1) ≤ cdB n m (N1 + 1) := cdB_mono (by omega)
      have hKo := HK.out
      rw [hs1] at HBd
      have HS2 : Hid (cdB n m (N1 + 1 - k) = cdB n m (s + 1)) := by unfold Hid; rw [hs2]
      generalize cdB n m (s + 1) = B2 at *
      generalize cdB n m s = B1 at *
      generalize cdB n m (N1 + 1) = B9 at *
      have hB12 : B1 + m + 3 ≤ KK := by omega
      have hcP := HRr.out.cell (k + r1) hkr
      have hbP := HBd.out.1.bd (k + r1)
      obtain ⟨-, -, -, hcl⟩ := HB.out.cell
      obtain ⟨bb, fb, rfl, hbb, hcL⟩ := hcl r1 (by rw [HRL.out]; exact hr1n)
      replace hcL := HE.out.cell hcL
      have nb1 : bb ≠ g1 := by omega
      have nb2 : bb ≠ g2 := by omega
      clear hcl hbb
      have hbL := HR.out.bd r1
      have hL0 : cf r r1 ≠ 0 := by
        have h := lead_ne HTr.out (by intro e; have := HRL.out; rw [e] at this; simp at this; omega)
        unfold lead at h
        rwa [HRL.out, show rn - 1 = r1 by omega] at h
      have HLd : Hid (lead r = cf r r1) := by unfold Hid lead; rw [HRL.out, show rn - 1 = r1 by omega]
      have HPP : Hid (cf R (k + (r.length - 1)) = cf R (k + r1)) := by unfold Hid; rw [HRL.out, show rn - 1 = r1 by omega]
      generalize cf R (k + r1) = P at hcP hbP HPP
      generalize cf r r1 = L at hcL hbL hL0 HLd
      have HF : Hid (P / L = cf R (k + (r.length - 1)) / lead r) := by unfold Hid; rw [HPP.out, HLd.out]
      have hbf : Bd (P / L) (B1 + m) := (HBd.out.1.step (R' := R) (j := 0) HR.out (by rw [HLd.out]; exact hL0) HF.out).1
      have hDv := fun W (hw : Wd W) => pdiv_q P L B1 m W hw hbP hbL hL0 hB12
      generalize P / L = f at hDv hbf HF
      have HL0 := Lib.hid hL0
      have HBf := Lib.hid hbf
      have HDB0 : Hid (DB R r f k 0 R) := DB.start
      have HB2 := Lib.hid hB2
      have HB9 : Hid (2 * B2 + 6 ≤ KK) := by unfold Hid; omega
      have HDV := Lib.hid hDv
      clear hB2 hB3 hKo hs hs1 hs2 hL0 hbf hB12 hDv hbP hbL
      obtain ⟨s9, hq0⟩ := HQ.out.cell' hkN
      have hq1 := HQ.out.froz k
      have a1 : IntKind.i64.wrap ((k : Int) + (rn : Int)) = (k : Int) + (rn : Int) := by rw [IntKind.wrap_i64]; omega
      have a2 : IntKind.i64.wrap ((k : Int) + (rn : Int) - 1) = (k : Int) + (rn : Int) - 1 := by rw [IntKind.wrap_i64]; omega
      have a3 : ((k : Int) + (rn : Int) - 1).toNat = k + r1 := by omega
      have a4 : (0 : Int) ≤ (k : Int) + (rn : Int) - 1 := by omega
      have a5 : (1 : Int) ≤ (k : Int) + (rn : Int) := by omega
      have a6 : (k : Int) + (rn : Int) - 1 < (pn : Int) := by omega
      have a7 : (k : Int) + (rn : Int) - 1 ≤ (pn : Int) := by omega
      have a8 : (k : Int) < (N1 : Int) + 1 := by omega
      have a9 : (k : Int) ≤ (N1 : Int) + 1 := by omega
      have b1 : IntKind.i64.wrap ((rn : Int) - 1) = (rn : Int) - 1 := by rw [IntKind.wrap_i64]; omega
      have b2 : ((rn : Int) - 1).toNat = r1 := by omega
      have b3 : (0 : Int) ≤ (rn : Int) - 1 := by omega
      have b4 : (1 : Int) ≤ (rn : Int) := by omega
      have b5 : (rn : Int) - 1 < (rn : Int) := by omega
      have b6 : (rn : Int) - 1 ≤ (rn : Int) := by omega
      have HW1 : Hid (Wd wr.drew) := HW.out.ext (Ext.dr' HE)
      clear hr1 hn1
      go_wp2_with fail
      go_region_held3 (fun w' => w'.cell? ⟨g1, k + r1, none⟩ = some (rtx P) ∧ w'.cell? ⟨bb, fb + r1, none⟩ = some (rtx L)) (((try dsimp only); (repeat' apply And.intro) <;> (first | assumption | (rw [World.cell?_setCell_other _ _ _ _ (by simp [n12, nb2, n21]; done)]; assumption) | (rw [World.cell?_setCell_other _ _ _ _ (by intro h; injection h with h; omega)]; assumption))))
        (first
        | (go_at_call 76; (with_reducible refine (HDV.out _ HW1.out).mono ?_); rintro e w3 ⟨rfl, hE3⟩; have HQ3 := Lib.hid (AtQ.ext (AtQ.drH HQ).out hE3); have HR3 := Lib.hid (AtP.ext (AtP.drH HRr).out hE3); have HE3 := Lib.hid ((Ext.dr' HE).tr hE3); have t0 := Ext.cellD hE3 hq0; have t1 := Ext.cellD hE3 hcP; have t2 := Ext.cellD hE3 hcL; have f0 := AtQ.froz HQ3.out k; clear hE3))
      have HQ4 := Lib.hid (HQ3.out.store f)
      have HR4 := Lib.hid (HR3.out.far n12 k (rtx f))
      have HE4 := Lib.hid (HE3.out.setCell (p := ⟨g2, k, none⟩) hb2 (rtx f))
      clear HQ3 HR3 HE3 t0 t1 t2 f0 hq0 hq1 HQ HRr HE HW1 hcP hcL a1 a2 a3 a4 a5 a6 a7 a8 a9 b1 b2 b3 b4 b5 b6
      generalize w3.setCell ⟨g2, k, none⟩ (rtx f) = w4 at *
      rename_i hHeld
      clear hHeld
      have HNQ : Hid ((Q.set k f).length = N1 + 1) := HQ4.out.1
      have HQk : Hid (cf (Q.set k f) k = f) := by
        unfold Hid
        have : k < Q.length := by have := HNQ.out; rw [List.length_set] at this; omega
        rw [cf_set _ _ _ _ this, if_pos rfl]
      have HD2 : ∀ R', PE R' (padd R (pmul (pmono k (-f)) r)) → DInv p r (Q.set k f) R' k := fun R' hR' => HD.out.step (by intro e; have := HRL.out; rw [e] at this; simp at this; omega) (by rw [HLd.out]; exact HL0.out) HF.out (by have := HNQ.out; rw [List.length_set] at this; omega) hR'
      have HDD := Lib.hid HD2
      have HQBb : Hid (∀ R', PE R' (padd R (pmul (pmono k (-f)) r)) → QB R' (Q.set k f) B2) := fun R' hR' => HBd.out.step HR.out (by rw [HLd.out]; exact HL0.out) HF.out hR' HB2.out (by have := HNQ.out; rw [List.length_set] at this; omega)
      have HBR : Hid (∀ x, Bd (cf R x) B1) := HBd.out.1.bd
      clear HD2 HD HBd
      generalize Q.set k f = Q' at *
      go_wp2
      go_loopw [53] (fun v wr => ∃ (i : Nat) (R' : Pl), i ≤ rn ∧ v = .int .i64 i ∧ Hid (DB R r f k i R') ∧ Hid (AtP wr g1 c1 pn R') ∧ Hid (AtQ wr g2 (N1 + 1) Q' k) ∧ Hid (Ext w wr)) (fun v _ => rn - (intOf v).toNat)
      case atStart => exact ⟨0, R, Nat.zero_le _, rfl, HDB0, HR4, HQ4, HE4⟩
      case round =>
        clear HDB0 HR4 HQ4 HE4
        obtain ⟨i, R', hi1, rfl, HT, HRr, HQ, HE⟩ := hrel
        by_cases hlti : i < rn
        · obtain ⟨-, -, -, hcl⟩ := HB.out.cell
          obtain ⟨b', f', hbf, hbb, hcC⟩ := hcl i (by rw [HRL.out]; exact hlti)
          obtain ⟨rfl, rfl⟩ : bb = b' ∧ fb = f' := by simp at hbf; exact hbf
          replace hcC := HE.out.cell hcC
          clear hcl hbb hbf
          have hikp : i + k < pn := by have := HN1.out; have := HR1.out; omega
          have hcP := HRr.out.cell (i + k) hikp
          have hfP := HRr.out.froz (i + k)
          have hcF := HQ.out.cell hkN
          rw [HQk.out] at hcF
          have hbP : Bd (cf R' (i + k)) B1 := by
            have := HBR.out (k + i)
            rw [← HT.out.2 (k + i) (Nat.le_refl _), Nat.add_comm k i] at this
            exact this
          have hbC := HR.out.bd i
          generalize hC : cf r i = C at hcC hbC
          generalize hP : cf R' (i + k) = P' at hcP hbP
          have HC := Lib.hid hC
          have HPq := Lib.hid hP
          have hK9 := HB9.out
          have hK8 := HB2.out
          have hM := fun W (hw : Wd W) => pmul_q f C (B1 + m) m W hw HBf.out hbC (by omega)
          have hS := fun W (hw : Wd W) => psub_q P' (f * C) B1 (B1 + m + m) W hw hbP (HBf.out.mul hbC) (by omega)
          generalize hZ : f * C = Z at hM hS
          have HZ := Lib.hid hZ
          have HM := Lib.hid hM
          have HS := Lib.hid hS
          clear hC hP hZ hK8 hK9 hM hS hbP hbC
          have a1 : IntKind.i64.wrap ((i : Int) + (k : Int)) = (i : Int) + (k : Int) := by rw [IntKind.wrap_i64]; omega
          have a2 : 0 ≤ (i : Int) + (k : Int) := by omega
          have a3 : ((i : Int) + (k : Int)).toNat = i + k := by omega
          have a4 : (i : Int) + (k : Int) < (pn : Int) := by omega
          have a5 : (i : Int) + (k : Int) ≤ (pn : Int) := by omega
          have a8 : (k : Int) < (N1 : Int) + 1 := by omega
          have a9 : (k : Int) ≤ (N1 : Int) + 1 := by omega
          have HW1 : Hid (Wd wr.drew) := HW.out.ext (Ext.dr' HE)
          go_wp2_with fail
          go_region_with (first
            | (go_at_call 70; (with_reducible refine (HM.out _ HW1.out).mono ?_); rintro e w5 ⟨rfl, hE5⟩; have q0 := Ext.cellD hE5 hcP; have HR5 := Lib.hid (AtP.ext (AtP.drH HRr).out hE5); have HQ5 := Lib.hid (AtQ.ext (AtQ.drH HQ).out hE5); have HE5 := Lib.hid ((Ext.dr' HE).tr hE5); have HW5 := Lib.hid (Wd.ext HW1.out hE5); clear hE5)
            | (go_at_call 95; (with_reducible refine (HS.out _ HW5.out).mono ?_); rintro e w6 ⟨rfl, hE6⟩; have t0 := Ext.cellH hE6 q0; have HR6 := Lib.hid (AtP.ext HR5.out hE6); have HQ6 := Lib.hid (AtQ.ext HQ5.out hE6); have HE6 := Lib.hid (HE5.out.tr hE6); have f0 := AtP.froz HR6.out (i + k); clear hE6))
          all_goals
            have HT2 : Hid (DB R r f k (i + 1) (R'.set (i + k) (P' - Z))) := by
              have h := HT.out.step (by rw [HRr.out.1]; omega) (show P' - Z = cf R' (k + i) - f * cf r i from by rw [Nat.add_comm k i, HPq.out, HC.out, HZ.out])
              rwa [Nat.add_comm k i] at h
            have HR7 := Lib.hid (HR6.out.store (i + k) (P' - Z))
            have HQ7 := Lib.hid (HQ6.out.far n21 (i + k) (rtx (P' - Z)))
            have HE7 := Lib.hid (HE6.out.setCell (p := ⟨g1, i + k, none⟩) hb1 (rtx (P' - Z)))
            go_wp2
            go_roundw
            case rel => exact ⟨i + 1, _, by omega, by go_num, HT2, HR7, HQ7, HE7⟩
            case measure => simp [intOf]; omega
        · have hie : i = rn := by omega
          have HD3 : Hid (DInv p r Q' R' k ∧ QB R' Q' B2) := by
            have h := HT.out
            rw [hie, ← HRL.out] at h
            have h2 := h.done
            exact ⟨HDD.out R' h2, HQBb.out R' h2⟩
          have HBd2 : Hid (QB R' Q' (cdB n m (N1 + 1 - k))) := by unfold Hid; rw [HS2.out]; exact HD3.out.2
          clear hie
          go_wp2
          go_roundw
          case rel => exact ⟨k, (k : Int) - 1, Q', R', by omega, rfl, rfl, HD3.out.1, HBd2, HRr, HQ, HE⟩
          case measure => first | (simp [intOf]; done) | (simp [intOf]; omega)
end Go.Proofs.YtbldlibijojbjaaGreatDoor.GB

namespace Go.Proofs.YtbldlibijojbjaaGreatDoor.GB
set_option linter.unusedVariables false
set_option linter.unusedSimpArgs false
open Go.RowKit Go.Shelf
attribute [local go_sem ↓] Go.wp_at_zero Go.wp_at_succ

/-- The bits of a remainder. -/
def remB (lp n lr m : Nat) : Nat := if lp < lr then n else cdB n m (lp - lr + 1)
theorem DivRel.short {p r : Pl} (tp : Tr p) (hlt : p.length < r.length) : DivRel p r [] p := ⟨tr_nil, tp, hlt, fun i => by
    rw [cf_padd]
    have e : cf (pmul [] r) i = 0 := cf_ge (Nat.zero_le _)
    rw [e]; grind⟩
set_option maxHeartbeats 1000000 in
set_option maxRecDepth 100000 in
theorem pdiv_short (A B : Option Addr) (ca cb : Nat) (p r : Pl) (n : Nat) (w : World) (hlt : p.length < r.length) (l1 : p.length ≤ 100000)
    (hA : PS w (.slice A p.length ca) p) (hp : CB p n) (tp : Tr p) :
    Calls Tryz.prog 64 #[.slice A p.length ca, .slice B r.length cb] w (DivP p r n w) := by
  have hcl := clone49_v (.slice A p.length ca) (p.map rb) w hA (by simpa using Nat.le_trans l1 (by omega))
  have hlt' : decide (p.length < r.length) = true := decide_eq_true hlt
  have HD : Hid (DivRel p r [] p) := DivRel.short tp hlt
  have HP := Lib.hid hp
  clear hA hp tp hlt
  generalize p.length = pn at *
  generalize r.length = rn at *
  go_enter Tryz.func64, Tryz.ntmps64
  go_wp2_with fail
  refine hcl.mono ?_
  rintro e w1 ⟨v1, rfl, hO, hE1⟩
  have HS := Lib.hid (show PS w1 v1 p from hO.sl)
  have HE1 := Lib.hid hE1
  clear hcl hO hE1
  go_wp2_with fail
  go_ret2
  exact ⟨_, _, [], p, rfl, HD.out, ⟨HP.out, PB.nil _⟩, PS.nil _, HS.out, HE1.out⟩
theorem pdiv_v (v1 v2 : Value) (p r : Pl) (m n : Nat) (w : World) (hW : Wd w) (h1 : PS w v1 p) (h2 : PS w v2 r) (hp : CB p n) (hr : CB r m) (tp : Tr p) (tr : Tr r) (hr0 : r ≠ []) (l1 : p.length ≤ 100000)
    (hk : 2 * remB p.length n r.length m + 6 ≤ KK) :
    Calls Tryz.prog 64 #[v1, v2] w (DivP p r (remB p.length n r.length m) w) := by
  obtain ⟨A, ca, rfl⟩ := h1.sl
  obtain ⟨B, cb, rfl⟩ := h2.sl
  have l0 := List.length_pos_iff.2 hr0
  unfold remB at *
  by_cases h : p.length < r.length
  · rw [if_pos h] at *
    exact pdiv_short A B ca cb p r n w h l1 h1 hp tp
  · rw [if_neg h] at *
    exact pdiv_long A B ca cb p r m n w hW l0 (Nat.not_lt.1 h) l1 h1 h2 hp hr tr hk
/-- With the leading coefficient 1. -/
def pmon (p : Pl) : Pl := psc (1 / lead p) p
theorem pmon_nil : pmon [] = [] := rfl
theorem pmon_map (p : Pl) : pmon p = p.map (fun c => c / lead p) := by
  unfold pmon psc
  apply List.map_congr_left
  intro x _
  show 1 / lead p * x = x / lead p
  rw [Rat.div_def, Rat.div_def, Rat.one_mul, Rat.mul_comm]
theorem pmon_len (p : Pl) : (pmon p).length = p.length := by rw [pmon_map, List.length_map]
theorem pmon_take (p : Pl) (k : Nat) (hk : k < p.length) : ((p.take (k + 1)).map fun c => c / lead p) = ((p.take k).map fun c => c / lead p) ++ [cf p k / lead p] := by
  rw [List.take_succ_eq_append_getElem hk, List.map_append, List.map_singleton, cf_lt hk]
theorem pmon_pb {p : Pl} {n : Nat} (hp : PB p n) : PB (pmon p) (2 * n + 1) := by
  rw [pmon_map]
  intro q hq
  obtain ⟨c, hc, rfl⟩ := List.mem_map.1 hq
  exact ((hp c hc).div (hp.cf _)).mono (by omega)
theorem pmon_tr {p : Pl} (tp : Tr p) : Tr (pmon p) := by
  by_cases h : p = []
  · subst h; exact tr_nil
  · exact (GcdRel.base tp h).tr
set_option maxHeartbeats 1000000 in
set_option maxRecDepth 100000 in
theorem pmonic_some (A : Option Addr) (ca : Nat) (p : Pl) (n : Nat) (w : World) (hW : Wd w) (hp0 : 0 < p.length) (l1 : p.length ≤ 100000)
    (hA : PS w (.slice A p.length ca) p) (hp : PB p n) (tp : Tr p) (hk : 2 * n + 4 ≤ KK) :
    Calls Tryz.prog 101 #[.slice A p.length ca] w (RetP w (pmon p)) := by
  obtain ⟨i0, hi, hz0, hz1, hz2⟩ := info_parts Tryz.infoRat
  obtain ⟨p1, hp1⟩ : ∃ p1, p.length = p1 + 1 := ⟨p.length - 1, by omega⟩
  have HLd : Hid (lead p = cf p p1) := by unfold Hid lead; rw [hp1]; rfl
  have HL0 : Hid (cf p p1 ≠ 0) := by
    have h := lead_ne tp (by intro e; rw [e] at hp0; simp at hp0)
    rwa [HLd.out] at h
  have HA := Lib.hid hA
  have HW := Lib.hid hW
  have HP := Lib.hid hp
  have HK := Lib.hid hk
  have HP1 := Lib.hid hp1
  clear hA hW hp hk tp hp1
  generalize hpl : p.length = pn at *
  have HPL := Lib.hid hpl
  clear hpl
  go_enter Tryz.func101, Tryz.ntmps101
  go_wp2_with fail
  go_loopw [3, 8] (fun vo vi wr => ∃ k : Nat, k ≤ pn ∧ vi = .int .i64 k ∧ Hid (OwnS wr w.heap.size vo (((p.take k).map fun c => c / lead p).map rb)) ∧ Hid (Ext w wr)) (fun _ vi _ => pn - (intOf vi).toNat)
  case atStart => exact ⟨0, Nat.zero_le _, rfl, by unfold Hid; rw [List.take_zero]; exact ⟨rfl, .inl ⟨rfl, rfl⟩⟩, Ext.rfl' _⟩
  case round =>
    obtain ⟨k, hk, rfl, HO, HE⟩ := hrel
    by_cases hlt : k < pn
    · obtain ⟨-, -, -, hcl⟩ := HA.out.cell
      obtain ⟨bb, fb, rfl, hbb, hcC⟩ := hcl k (by rw [HPL.out]; exact hlt)
      obtain ⟨b', f', hbf, hbb', hcL⟩ := hcl p1 (by rw [HPL.out]; have := HP1.out; omega)
      obtain ⟨rfl, rfl⟩ : bb = b' ∧ fb = f' := by simp at hbf; exact hbf
      replace hcC := HE.out.cell hcC
      replace hcL := HE.out.cell hcL
      have hbC := HP.out.cf k
      have hbL := HP.out.cf p1
      have HS : Hid (((p.take (k + 1)).map fun c => c / lead p).map rb = ((p.take k).map fun c => c / lead p).map rb ++ [rb (cf p k / cf p p1)]) := by
        unfold Hid
        rw [pmon_take p k (by rw [HPL.out]; exact hlt), List.map_append, List.map_singleton, HLd.out]
      have hl0 := HL0.out
      have hKo := HK.out
      have hD := fun W (hw : Wd W) => pdiv_q (cf p k) (cf p p1) n n W hw hbC hbL hl0 (by omega)
      generalize cf p k / cf p p1 = f at hD HS
      have HD := Lib.hid hD
      clear hD hl0 hKo hbC hbL hcl hbb hbb' hbf
      generalize cf p k = C at *
      generalize cf p p1 = L at *
      have hN : (((p.take k).map fun c => c / lead p).map rb).length + 1 ≤ maxLen := by simp [maxLen]; omega
      have hbig : ((((p.take k).map fun c => c / lead p).map rb).length + 1) * 16 ≤ 140737488355328 := by simp; omega
      generalize ((p.take k).map fun c => c / lead p).map rb = r at *
      have b1 : IntKind.i64.wrap ((pn : Int) - 1) = (pn : Int) - 1 := by rw [IntKind.wrap_i64]; omega
      have b2 : ((pn : Int) - 1).toNat = p1 := by have := HP1.out; omega
      have b3 : (0 : Int) ≤ (pn : Int) - 1 := by omega
      have b4 : (1 : Int) ≤ (pn : Int) := by omega
      have b5 : (pn : Int) - 1 < (pn : Int) := by omega
      have b6 : (pn : Int) - 1 ≤ (pn : Int) := by omega
      go_wp2_with fail
      refine (HD.out _ (HW.out.ext HE.out)).mono ?_
      rintro e w1 ⟨rfl, hE1⟩
      have HE1 := Lib.hid (HE.out.tr hE1)
      have HO1 := Lib.hid (HO.out.ext hE1)
      have hbase1 : w.heap.size ≤ w1.heap.size := HE1.out.size
      clear hE1 b1 b2 b3 b4 b5 b6
      go_wp2_with (at_builtin; (refine wpList_append_own _ rfl _ _ 55 rfl w.heap.size 30 i0 (.string ⟨#[]⟩) 1 16 Tryz.underlying55 hi hz0 hz1 hz2 rfl (by decide) _ r.length (strs r) rfl (World.ownsRow.alloc HO1.out _) ⟨w1.heap.size, 0, none⟩ 1 1 _ rfl rfl (cell_one_new _ _ _) (by simp [Value.oneCell']) hN hbig (by simp; omega) ?_); intro v' w2 hown2 hgrow2 _)
      all_goals
        obtain ⟨p1', p2'⟩ := own_grow (news := [rb f]) HO1.out HE1.out hown2 hgrow2
        go_roundw
        case rel => exact ⟨k + 1, by omega, by go_num, by rw [HS.out]; exact p1', p2'⟩
        case measure => simp [intOf]; omega
    · have hke : k = pn := by omega
      have h := HO.out.sl
      rw [hke, ← HPL.out, List.take_length, ← pmon_map] at h
      have HV := Lib.hid h
      clear hke h
      go_wp2
      go_ret
      exact ⟨_, rfl, HV.out, HE.out⟩
set_option maxHeartbeats 1000000 in
set_option maxRecDepth 100000 in
theorem pmonic_nil (A : Option Addr) (ca : Nat) (w : World) :
    Calls Tryz.prog 101 #[.slice A 0 ca] w fun e w' => e = .returned (.slice none 0 0) ∧ w' = w := by
  go_enter Tryz.func101, Tryz.ntmps101
  go_wp2
  go_loop [3, 8] (fun o v => o = .slice none 0 0 ∧ v = .int .i64 0) (fun _ _ => 0)
  case atStart => exact ⟨rfl, rfl⟩
  case round =>
    obtain ⟨rfl, rfl⟩ := hrel
    go_wp2
    go_ret
    exact ⟨rfl, rfl⟩
theorem pmonic_v (v : Value) (p : Pl) (n : Nat) (w : World) (hW : Wd w) (h1 : PS w v p) (hp : PB p n) (tp : Tr p) (l1 : p.length ≤ 100000) (hk : 2 * n + 4 ≤ KK) :
    Calls Tryz.prog 101 #[v] w (RetP w (pmon p)) := by
  obtain ⟨A, ca, rfl⟩ := h1.sl
  rcases Nat.eq_zero_or_pos p.length with h | h
  · have e := List.eq_nil_of_length_eq_zero h
    subst e
    refine (pmonic_nil A ca w).mono ?_
    rintro e w' ⟨rfl, rfl⟩
    rw [pmon_nil]
    exact ⟨_, rfl, PS.nil _, Ext.rfl' _⟩
  · exact pmonic_some A ca p n w hW h l1 h1 hp tp hk
end Go.Proofs.YtbldlibijojbjaaGreatDoor.GB

namespace Go.Proofs.YtbldlibijojbjaaGreatDoor.GB
set_option linter.unusedVariables false
set_option linter.unusedSimpArgs false
open Go.RowKit Go.Shelf
attribute [local go_sem ↓] Go.wp_at_zero Go.wp_at_succ

/-- The bits that Euclid's algorithm needs are at most N. -/
def gok : Nat → Nat → Nat → Nat → Nat → Nat → Bool
  | 0, _, n, _, _, N => decide (n ≤ N)
  | f + 1, lp, n, lr, m, N => if lr = 0 then decide (n ≤ N) else if lp < lr then decide (n ≤ N) && gok f lr m lp n N else decide (remB lp n lr m ≤ N) && (List.range lr).all fun l => gok f lr m l (remB lp n lr m) N
/-- What the loop of the greatest common divisor holds. -/
def GI (p r P R : Pl) (n m f N : Nat) : Prop := Tr P ∧ Tr R ∧ CB P n ∧ CB R m ∧ P.length ≤ 100000 ∧ R.length ≤ 100000 ∧ R.length ≤ f ∧ (gok f P.length n R.length m N = true ∧ 2 * N + 6 ≤ KK) ∧ ∀ d, GcdRel P R d → GcdRel p r d
theorem GcdRel.mon {p r q t d : Pl} (h : DivRel p r q t) (k : GcdRel r (pmon t) d) : GcdRel p r d := by
  by_cases ht : t = []
  · subst ht
    exact GcdRel.step h.eq (c := 1) (by decide) (fun i => by rw [cf_psc]; simp [pmon_nil]) k
  · exact GcdRel.step h.eq (c := 1 / lead t) (by have := lead_ne h.trt ht; intro e; have e2 : 1 / lead t * lead t = 1 := by grind
                                                 rw [e] at e2; grind) (PE.rfl' _) k
theorem GI.step {p r P R q t : Pl} {n m f N : Nat} (h : GI p r P R n m (f + 1) N) (hr : R ≠ []) (hd : DivRel P R q t) (hb : CB t (remB P.length n R.length m)) : GI p r R (pmon t) m (remB P.length n R.length m) f N := by
  obtain ⟨t1, t2, b1, b2, l1, l3, l2, ⟨g, gk⟩, hg⟩ := h
  have l0 := List.length_pos_iff.2 hr
  have hlt := hd.lt
  refine ⟨t2, pmon_tr hd.trt, b2, CB.mon hd.trt hb, l3, by rw [pmon_len]; omega, by rw [pmon_len]; omega, ⟨?_, gk⟩, fun d hd2 => hg d (GcdRel.mon hd hd2)⟩
  rw [pmon_len]
  unfold gok at g
  rw [if_neg (by omega)] at g
  by_cases hs : P.length < R.length
  · rw [if_pos hs, Bool.and_eq_true] at g
    have e := (DivRel.uniq t2 hd (DivRel.short t1 hs)).2
    subst e
    have e2 : remB t.length n R.length m = n := by unfold remB; rw [if_pos hs]
    rw [e2]; exact g.2
  · rw [if_neg hs, Bool.and_eq_true, List.all_eq_true] at g
    exact g.2 _ (List.mem_range.2 hlt)
theorem GI.done {p r P : Pl} {n m f N : Nat} (h : GI p r P [] n m f N) : GcdRel p r (pmon P) ∧ CB (pmon P) N ∧ 2 * n + 4 ≤ KK := by
  obtain ⟨t1, t2, b1, b2, l1, l3, l2, ⟨g, gk⟩, hg⟩ := h
  have hn : n ≤ N := by
    cases f with
    | zero => exact of_decide_eq_true g
    | succ f => unfold gok at g; rw [if_pos (show ([] : Pl).length = 0 from rfl)] at g; exact of_decide_eq_true g
  refine ⟨hg _ ?_, (CB.mon t1 b1).mono hn, by omega⟩
  by_cases hP : P = []
  · subst hP; exact GcdRel.nil
  · exact GcdRel.base t1 hP
theorem GI.bits {p r P R : Pl} {n m f N : Nat} (h : GI p r P R n m f N) (hr : R ≠ []) : ∃ f', f = f' + 1 ∧ 2 * remB P.length n R.length m + 6 ≤ KK := by
  obtain ⟨t1, t2, b1, b2, l1, l3, l2, ⟨g, gk⟩, hg⟩ := h
  have l0 := List.length_pos_iff.2 hr
  cases f with
  | zero => omega
  | succ f =>
    refine ⟨f, rfl, ?_⟩
    unfold gok at g
    rw [if_neg (by omega)] at g
    by_cases hs : P.length < R.length
    · rw [if_pos hs, Bool.and_eq_true] at g
      have := of_decide_eq_true g.1
      unfold remB; rw [if_pos hs]; omega
    · rw [if_neg hs, Bool.and_eq_true] at g
      have := of_decide_eq_true g.1
      omega
set_option maxHeartbeats 2000000 in
set_option maxRecDepth 100000 in
theorem pcommon_v (v1 v2 : Value) (p r : Pl) (n m f N : Nat) (w : World) (hW : Wd w) (h1 : PS w v1 p) (h2 : PS w v2 r) (hI : GI p r p r n m f N) :
    Calls Tryz.prog 66 #[v1, v2] w fun e w' => ∃ v d, e = .returned v ∧ (GcdRel p r d ∧ CB d N) ∧ PS w' v d ∧ Ext w w' := by
  have HW := Lib.hid hW
  have H1 := Lib.hid h1
  have H2 := Lib.hid h2
  have HI := Lib.hid hI
  clear hW h1 h2 hI
  go_enter Tryz.func66, Tryz.ntmps66
  go_wp2_with fail
  go_loopw [0, 1] (fun a b wr => ∃ (P R : Pl) (n m f : Nat), Hid (PS wr a P) ∧ Hid (PS wr b R) ∧ Hid (GI p r P R n m f N) ∧ Hid (Ext w wr)) (fun _ b _ => match b with | .slice _ l _ => l | _ => 0)
  case atStart => exact ⟨p, r, n, m, f, H1, H2, HI, Ext.rfl' _⟩
  case round =>
    clear H1 H2 HI
    obtain ⟨P, R, n, m, f, H1, H2, HI, HE⟩ := hrel
    obtain ⟨B, cb, rfl⟩ := H2.out.sl
    by_cases hR : R = []
    · subst hR
      have HD := Lib.hid HI.out.done
      have hmo := fun W (hE : Ext w W) (hps : PS W u0 P) => pmonic_v u0 P n W (HW.out.ext hE) hps HI.out.2.2.1.pb HI.out.1 HI.out.2.2.2.2.1 HD.out.2.2
      have HM := Lib.hid hmo
      clear hmo
      simp only [List.length_nil]
      go_wp2_with fail
      refine (HM.out _ HE.out H1.out).mono ?_
      rintro e w1 ⟨v, rfl, hv, hE1⟩
      have HV := Lib.hid hv
      have HE1 := Lib.hid (HE.out.tr hE1)
      clear hv hE1
      go_wp2_with fail
      go_ret
      exact ⟨_, _, rfl, ⟨HD.out.1, HD.out.2.1⟩, HV.out, HE1.out⟩
    · have l0 := List.length_pos_iff.2 hR
      obtain ⟨f', hf, hbk⟩ := HI.out.bits hR
      have HR0 := Lib.hid hR
      have HBk := Lib.hid hbk
      have hdv := pdiv_v u0 (.slice B R.length cb) P R m n wr (HW.out.ext HE.out) H1.out H2.out HI.out.2.2.1 HI.out.2.2.2.1 HI.out.1 HI.out.2.1 hR HI.out.2.2.2.2.1 (by omega)
      have HDv := Lib.hid hdv
      have HF := Lib.hid hf
      have HRl := Lib.hid (show R.length ≤ 100000 from HI.out.2.2.2.2.2.1)
      clear hR hbk hdv hf
      generalize hrl : R.length = rl at *
      have HRL := Lib.hid hrl
      clear hrl
      go_wp2_with fail
      refine HDv.out.mono ?_
      rintro e w1 ⟨v3, v4, q, t, rfl, hd, hb, hq, ht, hE1⟩
      have HD := Lib.hid hd
      have HE1 := Lib.hid (HE.out.tr hE1)
      have HT := Lib.hid ht
      have HB := Lib.hid hb.1
      have H21 := Lib.hid (H2.out.ext hE1)
      clear hd hb hq ht hE1
      have hmo := pmonic_v v4 t _ w1 (HW.out.ext HE1.out) HT.out HB.out.pb HD.out.trt (by have := HD.out.lt; have := HRL.out; have := HRl.out; omega) (by have h1 := HBk.out; omega)
      have HM := Lib.hid hmo
      clear hmo
      go_wp2_with fail
      refine HM.out.mono ?_
      rintro e w2 ⟨v5, rfl, hv, hE2⟩
      have HV := Lib.hid hv
      have HE2 := Lib.hid (HE1.out.tr hE2)
      have H22 := Lib.hid (H21.out.ext hE2)
      clear hv hE2
      obtain ⟨C, cc, rfl⟩ := HV.out.sl
      have hms : (pmon t).length < rl := by rw [pmon_len]; have := HD.out.lt; have := HRL.out; omega
      have HMS := Lib.hid hms
      clear hms
      have h := HI.out
      rw [HF.out] at h
      have hb2 := HB.out
      rw [← HRL.out] at hb2
      have HI2 := Lib.hid (h.step HR0.out HD.out hb2)
      clear h hb2
      go_wp2
      go_roundw
      case rel => exact ⟨R, pmon t, m, _, f', H22, HV, HI2, HE2⟩
      case measure => exact HMS.out
end Go.Proofs.YtbldlibijojbjaaGreatDoor.GB

namespace Go.Proofs.YtbldlibijojbjaaGreatDoor.GB
set_option linter.unusedVariables false
set_option linter.unusedSimpArgs false
open Go.RowKit Go.Shelf
attribute [local go_sem ↓] Go.wp_at_zero Go.wp_at_succ

/-- No text is long. -/
def SB (l : List ByteArray) : Prop := ∀ s ∈ l, s.size ≤ 1000000
/-- Valid hands back a bool. -/
def VA (v : Value) (b : Bool) (w : World) : Prop := ∀ W, Ext w W → Calls Tryz.prog 16 #[v] W fun e w' => e = .returned (.bool b) ∧ Ext W w'
theorem VA.ext {v : Value} {b : Bool} {w w' : World} (h : VA v b w) (hE : Ext w w') : VA v b w' := fun W hW => h W (hE.tr hW)
theorem pValid_any (v : Value) (l : List ByteArray) (w : World) (hW : Wd w) (h : SlS w v l) (hs : SB l) : VA v (polB l) w := by
  intro W hE
  obtain ⟨A, c, rfl, h1, h2, h3⟩ := h.ext hE
  unfold polB
  exact pvalid_g A c l (fun s => !ratB s.data.toList) W h1 h2 h3 (fun _ j hj W' hE' => vclos _ _ W' (rValid_any _ W' ((hW.ext hE).ext hE') (hs _ (List.getElem_mem hj))))
theorem last_rb {p : Pl} (tp : Tr p) : lastZ (p.map rb) = false := by
  unfold lastZ
  rw [List.getLast?_map]
  cases h : p.getLast? with
  | none => rfl
  | some x =>
    simp only [Option.map_some]
    rw [isZ_rb]
    apply decide_eq_false
    intro e
    rw [e] at h
    exact tp h
theorem pValid_p (v : Value) (p : Pl) (n : Nat) (w : World) (hW : Wd w) (h : PS w v p) (hp : PB p n) (tp : Tr p) (hl : p.length ≤ 17) (hn : n + 1 ≤ KK) : VA v true w := by
  intro W hE
  obtain ⟨A, c, rfl, h1, h2, h3⟩ := h.ext hE
  have hh := pvalid_g A c (p.map rb) (fun _ => false) W h1 h2 h3 (fun _ j hj W' hE' => by
    have hj' : j < p.length := by simpa using hj
    have e : (p.map rb)[j] = rb p[j] := by simp
    rw [e]
    exact vclos _ true W' (rValid_q p[j] n W' ((hW.ext hE).ext hE') (hp _ (List.getElem_mem hj')) hn))
  rw [last_rb tp] at hh
  have e1 : decide ((p.map rb).length ≤ 17) = true := decide_eq_true (by simpa using hl)
  have e2 : (p.map rb).any (fun _ => false) = false := by simp
  rw [e1, e2] at hh
  exact hh
/-- A list of texts is a polynomial's, just if it passes. -/
theorem polB_iff (l : List ByteArray) : polB l = true ↔ ∃ p : Pl, l = p.map rb ∧ Tr p ∧ p.length ≤ 17 := by
  constructor
  · intro h
    unfold polB at h
    simp only [Bool.and_eq_true, decide_eq_true_eq, Bool.not_eq_true'] at h
    obtain ⟨⟨h1, h2⟩, h3⟩ := h
    have hq : ∀ s ∈ l, ∃ q, s = rb q := by
      intro s hs
      rw [List.any_eq_false] at h3
      have := h3 s hs
      obtain ⟨q, hq⟩ := ratB_t (l := s.data.toList) (by simpa using this)
      exact ⟨q, list_of hq⟩
    have hp : ∃ p : Pl, l = p.map rb := by
      clear h1 h2 h3
      induction l with
      | nil => exact ⟨[], rfl⟩
      | cons s l ih =>
        obtain ⟨q, rfl⟩ := hq s (by simp)
        obtain ⟨p, rfl⟩ := ih (fun s hs => hq s (by simp [hs]))
        exact ⟨q :: p, rfl⟩
    obtain ⟨p, rfl⟩ := hp
    refine ⟨p, rfl, ?_, by simpa using h1⟩
    intro e
    unfold lastZ at h2
    rw [List.getLast?_map, e] at h2
    simp only [Option.map_some] at h2
    rw [isZ_rb] at h2
    simp at h2
  · rintro ⟨p, rfl, tp, hl⟩
    unfold polB
    rw [last_rb tp]
    have e1 : decide ((p.map rb).length ≤ 17) = true := decide_eq_true (by simpa using hl)
    have e2 : ((p.map rb).any fun s => !ratB s.data.toList) = false := by
      rw [List.any_eq_false]
      intro s hs
      obtain ⟨q, _, rfl⟩ := List.mem_map.1 hs
      have : ratB (rb q).data.toList = true := ratB_of ⟨q, rfl⟩
      rw [this]; simp
    rw [e1, e2]
    rfl
/-- A value that has what Q says. -/
def RetQ (Q : World → Value → Prop) (w : World) (e : Ending) (w' : World) : Prop := ∃ v, e = .returned v ∧ Q w' v ∧ Ext w w'
def RetQ0 (Q : World → Value → Prop) (w : World) (e : Ending) (w' : World) : Prop := ∃ v, e = .returned (.tuple #[v, .int .i64 0]) ∧ Q w' v ∧ Ext w w'
def RetE (k : Int) (w : World) (e : Ending) (w' : World) : Prop := e = .returned (.tuple #[.slice none 0 0, .int .i64 k]) ∧ Ext w w'
set_option maxHeartbeats 1000000 in
set_option maxRecDepth 100000 in
theorem papply_plus (v1 v2 : Value) (Q : World → Value → Prop) (w : World) (h1 : VA v1 true w) (h2 : VA v2 true w)
    (h3 : ∀ W, Ext w W → Calls Tryz.prog 57 #[v1, v2] W (RetQ Q W)) :
    Calls Tryz.prog 56 #[.func (.func 57) #[] #[], v1, v2] w (RetQ0 Q w) := by
  go_enter Tryz.func56, Tryz.ntmps56
  go_wp2_with fail
  refine (h1 _ (Ext.rfl' _)).mono ?_
  rintro e w1 ⟨rfl, E1⟩
  have HE1 := Lib.hid E1
  clear E1
  go_wp2_with fail
  refine (h2 _ HE1.out).mono ?_
  rintro e w2 ⟨rfl, E2⟩
  have HE2 := Lib.hid (HE1.out.tr E2)
  clear E2
  go_wp2_with fail
  refine (h3 _ HE2.out).mono ?_
  rintro e w3 ⟨v, rfl, hv, E3⟩
  have HV := Lib.hid hv
  have HE3 := Lib.hid (HE2.out.tr E3)
  clear E3 hv h1 h2 h3
  go_wp2_with fail
  go_ret2
  exact ⟨_, rfl, HV.out, HE3.out⟩
set_option maxHeartbeats 1000000 in
set_option maxRecDepth 100000 in
theorem papply_minus (v1 v2 : Value) (Q : World → Value → Prop) (w : World) (h1 : VA v1 true w) (h2 : VA v2 true w)
    (h3 : ∀ W, Ext w W → Calls Tryz.prog 60 #[v1, v2] W (RetQ Q W)) :
    Calls Tryz.prog 56 #[.func (.func 60) #[] #[], v1, v2] w (RetQ0 Q w) := by
  go_enter Tryz.func56, Tryz.ntmps56
  go_wp2_with fail
  refine (h1 _ (Ext.rfl' _)).mono ?_
  rintro e w1 ⟨rfl, E1⟩
  have HE1 := Lib.hid E1
  clear E1
  go_wp2_with fail
  refine (h2 _ HE1.out).mono ?_
  rintro e w2 ⟨rfl, E2⟩
  have HE2 := Lib.hid (HE1.out.tr E2)
  clear E2
  go_wp2_with fail
  refine (h3 _ HE2.out).mono ?_
  rintro e w3 ⟨v, rfl, hv, E3⟩
  have HV := Lib.hid hv
  have HE3 := Lib.hid (HE2.out.tr E3)
  clear E3 hv h1 h2 h3
  go_wp2_with fail
  go_ret2
  exact ⟨_, rfl, HV.out, HE3.out⟩
set_option maxHeartbeats 1000000 in
set_option maxRecDepth 100000 in
theorem papply_times (v1 v2 : Value) (Q : World → Value → Prop) (w : World) (h1 : VA v1 true w) (h2 : VA v2 true w)
    (h3 : ∀ W, Ext w W → Calls Tryz.prog 62 #[v1, v2] W (RetQ Q W)) :
    Calls Tryz.prog 56 #[.func (.func 62) #[] #[], v1, v2] w (RetQ0 Q w) := by
  go_enter Tryz.func56, Tryz.ntmps56
  go_wp2_with fail
  refine (h1 _ (Ext.rfl' _)).mono ?_
  rintro e w1 ⟨rfl, E1⟩
  have HE1 := Lib.hid E1
  clear E1
  go_wp2_with fail
  refine (h2 _ HE1.out).mono ?_
  rintro e w2 ⟨rfl, E2⟩
  have HE2 := Lib.hid (HE1.out.tr E2)
  clear E2
  go_wp2_with fail
  refine (h3 _ HE2.out).mono ?_
  rintro e w3 ⟨v, rfl, hv, E3⟩
  have HV := Lib.hid hv
  have HE3 := Lib.hid (HE2.out.tr E3)
  clear E3 hv h1 h2 h3
  go_wp2_with fail
  go_ret2
  exact ⟨_, rfl, HV.out, HE3.out⟩
set_option maxHeartbeats 1000000 in
set_option maxRecDepth 100000 in
theorem papply_common (v1 v2 : Value) (Q : World → Value → Prop) (w : World) (h1 : VA v1 true w) (h2 : VA v2 true w)
    (h3 : ∀ W, Ext w W → Calls Tryz.prog 66 #[v1, v2] W (RetQ Q W)) :
    Calls Tryz.prog 56 #[.func (.func 66) #[] #[], v1, v2] w (RetQ0 Q w) := by
  go_enter Tryz.func56, Tryz.ntmps56
  go_wp2_with fail
  refine (h1 _ (Ext.rfl' _)).mono ?_
  rintro e w1 ⟨rfl, E1⟩
  have HE1 := Lib.hid E1
  clear E1
  go_wp2_with fail
  refine (h2 _ HE1.out).mono ?_
  rintro e w2 ⟨rfl, E2⟩
  have HE2 := Lib.hid (HE1.out.tr E2)
  clear E2
  go_wp2_with fail
  refine (h3 _ HE2.out).mono ?_
  rintro e w3 ⟨v, rfl, hv, E3⟩
  have HV := Lib.hid hv
  have HE3 := Lib.hid (HE2.out.tr E3)
  clear E3 hv h1 h2 h3
  go_wp2_with fail
  go_ret2
  exact ⟨_, rfl, HV.out, HE3.out⟩
set_option maxHeartbeats 1000000 in
set_option maxRecDepth 100000 in
theorem papply_no1 (f v1 v2 : Value) (w : World) (h1 : VA v1 false w) :
    Calls Tryz.prog 56 #[f, v1, v2] w (RetE 1 w) := by
  go_enter Tryz.func56, Tryz.ntmps56
  go_wp2_with fail
  refine (h1 _ (Ext.rfl' _)).mono ?_
  rintro e w1 ⟨rfl, E1⟩
  have HE1 := Lib.hid E1
  clear E1
  go_wp2_with fail
  go_ret2
  exact ⟨rfl, HE1.out⟩
set_option maxHeartbeats 1000000 in
set_option maxRecDepth 100000 in
theorem papply_no2 (f v1 v2 : Value) (w : World) (h1 : VA v1 true w) (h2 : VA v2 false w) :
    Calls Tryz.prog 56 #[f, v1, v2] w (RetE 1 w) := by
  go_enter Tryz.func56, Tryz.ntmps56
  go_wp2_with fail
  refine (h1 _ (Ext.rfl' _)).mono ?_
  rintro e w1 ⟨rfl, E1⟩
  have HE1 := Lib.hid E1
  clear E1
  go_wp2_with fail
  refine (h2 _ HE1.out).mono ?_
  rintro e w2 ⟨rfl, E2⟩
  have HE2 := Lib.hid (HE1.out.tr E2)
  clear E2
  go_wp2_with fail
  go_ret2
  exact ⟨rfl, HE2.out⟩
theorem papply_no (f v1 v2 : Value) (a b : Bool) (w : World) (h1 : VA v1 a w) (h2 : VA v2 b w) (h : (a && b) = false) : Calls Tryz.prog 56 #[f, v1, v2] w (RetE 1 w) := by
  cases a
  · exact papply_no1 f v1 v2 w h1
  · cases b
    · exact papply_no2 f v1 v2 w h1 h2
    · cases h
set_option maxHeartbeats 1000000 in
set_option maxRecDepth 100000 in
theorem PAdd_ok (v1 v2 : Value) (Q : World → Value → Prop) (w : World) (h1 : ∀ W, Ext w W → Calls Tryz.prog 56 #[.func (.func 57) #[] #[], v1, v2] W (RetQ0 Q W)) : Calls Tryz.prog 20 #[v1, v2] w (RetQ0 Q w) := by
  go_enter Tryz.func20, Tryz.ntmps20
  go_wp2_with fail
  refine (h1 _ (Ext.rfl' _)).mono ?_
  rintro e w1 ⟨v, rfl, hv, hE⟩
  have HV := Lib.hid hv
  clear hv h1
  go_wp2_with fail
  go_ret2
  exact ⟨_, rfl, HV.out, hE⟩
set_option maxHeartbeats 1000000 in
set_option maxRecDepth 100000 in
theorem PAdd_no (v1 v2 : Value) (k : Int) (w : World) (h1 : ∀ W, Ext w W → Calls Tryz.prog 56 #[.func (.func 57) #[] #[], v1, v2] W (RetE k W)) : Calls Tryz.prog 20 #[v1, v2] w (RetE k w) := by
  go_enter Tryz.func20, Tryz.ntmps20
  go_wp2_with fail
  refine (h1 _ (Ext.rfl' _)).mono ?_
  rintro e w1 ⟨rfl, hE⟩
  clear h1
  go_wp2_with fail
  go_ret2
  exact ⟨rfl, hE⟩
set_option maxHeartbeats 1000000 in
set_option maxRecDepth 100000 in
theorem PSub_ok (v1 v2 : Value) (Q : World → Value → Prop) (w : World) (h1 : ∀ W, Ext w W → Calls Tryz.prog 56 #[.func (.func 60) #[] #[], v1, v2] W (RetQ0 Q W)) : Calls Tryz.prog 23 #[v1, v2] w (RetQ0 Q w) := by
  go_enter Tryz.func23, Tryz.ntmps23
  go_wp2_with fail
  refine (h1 _ (Ext.rfl' _)).mono ?_
  rintro e w1 ⟨v, rfl, hv, hE⟩
  have HV := Lib.hid hv
  clear hv h1
  go_wp2_with fail
  go_ret2
  exact ⟨_, rfl, HV.out, hE⟩
set_option maxHeartbeats 1000000 in
set_option maxRecDepth 100000 in
theorem PSub_no (v1 v2 : Value) (k : Int) (w : World) (h1 : ∀ W, Ext w W → Calls Tryz.prog 56 #[.func (.func 60) #[] #[], v1, v2] W (RetE k W)) : Calls Tryz.prog 23 #[v1, v2] w (RetE k w) := by
  go_enter Tryz.func23, Tryz.ntmps23
  go_wp2_with fail
  refine (h1 _ (Ext.rfl' _)).mono ?_
  rintro e w1 ⟨rfl, hE⟩
  clear h1
  go_wp2_with fail
  go_ret2
  exact ⟨rfl, hE⟩
set_option maxHeartbeats 1000000 in
set_option maxRecDepth 100000 in
theorem PGCD_ok (v1 v2 : Value) (Q : World → Value → Prop) (w : World) (h1 : ∀ W, Ext w W → Calls Tryz.prog 56 #[.func (.func 66) #[] #[], v1, v2] W (RetQ0 Q W)) : Calls Tryz.prog 29 #[v1, v2] w (RetQ0 Q w) := by
  go_enter Tryz.func29, Tryz.ntmps29
  go_wp2_with fail
  refine (h1 _ (Ext.rfl' _)).mono ?_
  rintro e w1 ⟨v, rfl, hv, hE⟩
  have HV := Lib.hid hv
  clear hv h1
  go_wp2_with fail
  go_ret2
  exact ⟨_, rfl, HV.out, hE⟩
set_option maxHeartbeats 1000000 in
set_option maxRecDepth 100000 in
theorem PGCD_no (v1 v2 : Value) (k : Int) (w : World) (h1 : ∀ W, Ext w W → Calls Tryz.prog 56 #[.func (.func 66) #[] #[], v1, v2] W (RetE k W)) : Calls Tryz.prog 29 #[v1, v2] w (RetE k w) := by
  go_enter Tryz.func29, Tryz.ntmps29
  go_wp2_with fail
  refine (h1 _ (Ext.rfl' _)).mono ?_
  rintro e w1 ⟨rfl, hE⟩
  clear h1
  go_wp2_with fail
  go_ret2
  exact ⟨rfl, hE⟩
end Go.Proofs.YtbldlibijojbjaaGreatDoor.GB
