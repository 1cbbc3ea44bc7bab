import Derived.Test.YtbldlibijojbjaaGreatDoorCPu
namespace Go.Proofs.YtbldlibijojbjaaGreatDoor.GB
set_option linter.unusedVariables false
set_option linter.unusedSimpArgs false
open Go.RowKit Go.Shelf
attribute [local go_sem ↓] Go.wp_at_zero Go.wp_at_succ

/-- A row of texts, known whole. -/
def AtS (w : World) (g c : Nat) (l : List ByteArray) : Prop := OwnS w 0 (.slice (some ⟨g, 0, none⟩) l.length c) l
theorem AtS.ext {w w' : World} {g c : Nat} {l : List ByteArray} (h : AtS w g c l) (hE : Ext w w') : AtS w' g c l := OwnS.ext h hE
theorem AtS.cell {w : World} {g c : Nat} {l : List ByteArray} (h : AtS w g c l) (j : Nat) (hj : j < l.length) : w.cell? ⟨g, j, none⟩ = some (.string l[j]) := OwnS.cellAt h j hj
theorem AtS.froz {w : World} {g c : Nat} {l : List ByteArray} (h : AtS w g c l) (j : Nat) : w.frozen? ⟨g, j, none⟩ = false := World.ownsRow.frozenAt h j
theorem AtS.store {w : World} {g c : Nat} {l : List ByteArray} (h : AtS w g c l) (j : Nat) (x : ByteArray) : AtS (w.setCell ⟨g, j, none⟩ (.string x)) g c (l.set j x) := OwnS.store h j x
theorem AtS.far {w : World} {g c g' : Nat} {l : List ByteArray} (h : AtS w g c l) (hne : g ≠ g') (j : Nat) (x : Value) : AtS (w.setCell ⟨g', j, none⟩ x) g c l := by
  refine World.ownsRow.kept h (row := some g') ?_ (.inr (by simp [Value.ownBlock]; exact hne))
  exact ⟨rfl, rfl, rfl, by simp [World.setCell], fun i hi hne' => Below.heap_setCell _ _ _ _ (by simpa using hne')⟩
theorem OwnS.at_ {w : World} {base : Nat} {v : Value} {l : List ByteArray} (h : OwnS w base v l) (hne : 0 < l.length) : ∃ g c, v = .slice (some ⟨g, 0, none⟩) l.length c ∧ base ≤ g ∧ g < w.heap.size ∧ AtS w g c l := by
  rcases h.2 with ⟨_, h0⟩ | ⟨g, cap, cur, rfl, hg, hh, h1, h2, h3, h4⟩
  · omega
  · exact ⟨g, cap, rfl, hg, (Array.getElem?_eq_some_iff.1 hh).1, h.1, .inr ⟨g, cap, cur, rfl, Nat.zero_le _, hh, h1, h2, h3, h4⟩⟩
theorem AtS.sl {w : World} {g c : Nat} {l : List ByteArray} (h : AtS w g c l) : SlS w (.slice (some ⟨g, 0, none⟩) l.length c) l := OwnS.sl h
/-- A row of numbers. -/
def AtP (w : World) (g c n : Nat) (R : Pl) : Prop := R.length = n ∧ AtS w g c (R.map rb)
theorem AtP.ext {w w' : World} {g c n : Nat} {R : Pl} (h : AtP w g c n R) (hE : Ext w w') : AtP w' g c n R := ⟨h.1, h.2.ext hE⟩
theorem AtP.drH {w : World} {g c n : Nat} {R : Pl} (h : Hid (AtP w g c n R)) : Hid (AtP w.drew g c n R) := h
theorem AtP.cell {w : World} {g c n : Nat} {R : Pl} (h : AtP w g c n R) (j : Nat) (hj : j < n) : w.cell? ⟨g, j, none⟩ = some (rtx (cf R j)) := by
  have hj' : j < R.length := by rw [h.1]; exact hj
  have := h.2.cell j (by simpa using hj')
  rw [this, cf_lt hj']; simp [rb]
theorem AtP.froz {w : World} {g c n : Nat} {R : Pl} (h : AtP w g c n R) (j : Nat) : w.frozen? ⟨g, j, none⟩ = false := h.2.froz j
theorem AtP.store {w : World} {g c n : Nat} {R : Pl} (h : AtP w g c n R) (j : Nat) (q : Rat) : AtP (w.setCell ⟨g, j, none⟩ (rtx q)) g c n (R.set j q) := by
  refine ⟨by rw [List.length_set]; exact h.1, ?_⟩
  have := h.2.store j (rb q)
  rw [List.map_set]
  exact this
theorem AtP.far {w : World} {g c n g' : Nat} {R : Pl} (h : AtP w g c n R) (hne : g ≠ g') (j : Nat) (x : Value) : AtP (w.setCell ⟨g', j, none⟩ x) g c n R := ⟨h.1, h.2.far hne j x⟩
theorem AtP.ps {w : World} {g c n : Nat} {R : Pl} (h : AtP w g c n R) : PS w (.slice (some ⟨g, 0, none⟩) n c) R := by
  have := h.2.sl
  rwa [List.length_map, h.1] at this
/-- The quotient so far: the numbers from k on. -/
def qf (Q : Pl) (k : Nat) : List ByteArray := List.replicate k ⟨#[]⟩ ++ (Q.drop k).map rb
theorem qf_len {Q : Pl} {k : Nat} (h : k ≤ Q.length) : (qf Q k).length = Q.length := by unfold qf; simp; omega
theorem qf_set {Q : Pl} {k : Nat} {f : Rat} (h : k < Q.length) : (qf Q (k + 1)).set k (rb f) = qf (Q.set k f) k := by
  unfold qf
  rw [List.replicate_succ', List.append_assoc, List.set_append_right _ _ (by simp)]
  rw [List.length_replicate, Nat.sub_self, List.singleton_append, List.set_cons_zero]
  congr 1
  rw [List.map_drop, List.map_drop, List.map_set]
  have hk : k < (Q.map rb).length := by simpa using h
  generalize Q.map rb = L at *
  rw [List.drop_set, if_neg (by omega), Nat.sub_self]
  rw [List.drop_eq_getElem_cons hk, List.set_cons_zero]
theorem qf_zero (Q : Pl) : qf Q 0 = Q.map rb := by unfold qf; simp
def AtQ (w : World) (g n : Nat) (Q : Pl) (k : Nat) : Prop := Q.length = n ∧ k ≤ n ∧ OwnS w 0 (.slice (some ⟨g, 0, none⟩) n n) (qf Q k)
theorem AtQ.at_ {w : World} {g n : Nat} {Q : Pl} {k : Nat} (h : AtQ w g n Q k) : AtS w g n (qf Q k) := by
  unfold AtS; rw [qf_len (by rw [h.1]; exact h.2.1), h.1]; exact h.2.2
theorem AtQ.ext {w w' : World} {g n : Nat} {Q : Pl} {k : Nat} (h : AtQ w g n Q k) (hE : Ext w w') : AtQ w' g n Q k := ⟨h.1, h.2.1, h.2.2.ext hE⟩
theorem AtQ.drH {w : World} {g n : Nat} {Q : Pl} {k : Nat} (h : Hid (AtQ w g n Q k)) : Hid (AtQ w.drew g n Q k) := h
theorem AtQ.cell {w : World} {g n : Nat} {Q : Pl} {k : Nat} (h : AtQ w g n Q k) (hk : k < n) : w.cell? ⟨g, k, none⟩ = some (rtx (cf Q k)) := by
  have hl := qf_len (Q := Q) (k := k) (by rw [h.1]; exact h.2.1)
  have hkQ : k < Q.length := by rw [h.1]; exact hk
  rw [h.at_.cell k (by rw [hl]; exact hkQ), cf_lt hkQ]
  simp only [qf]
  rw [List.getElem_append_right (by simp)]
  simp [rb]
theorem AtQ.cell' {w : World} {g n : Nat} {Q : Pl} {k j : Nat} (h : AtQ w g n Q k) (hj : j < n) : ∃ s, w.cell? ⟨g, j, none⟩ = some (.string s) := by
  have hl := qf_len (Q := Q) (k := k) (by rw [h.1]; exact h.2.1)
  exact ⟨_, h.at_.cell j (by rw [hl, h.1]; exact hj)⟩
theorem AtQ.froz {w : World} {g n : Nat} {Q : Pl} {k : Nat} (h : AtQ w g n Q k) (j : Nat) : w.frozen? ⟨g, j, none⟩ = false := h.at_.froz j
theorem AtQ.far {w : World} {g n g' : Nat} {Q : Pl} {k : Nat} (h : AtQ w g n Q k) (hne : g ≠ g') (j : Nat) (x : Value) : AtQ (w.setCell ⟨g', j, none⟩ x) g n Q k := by
  refine ⟨h.1, h.2.1, ?_⟩
  have := h.at_.far hne j x
  unfold AtS at this
  rwa [qf_len (by rw [h.1]; exact h.2.1), h.1] at this
theorem AtQ.store {w : World} {g n : Nat} {Q : Pl} {k : Nat} (h : AtQ w g n Q (k + 1)) (f : Rat) : AtQ (w.setCell ⟨g, k, none⟩ (rtx f)) g n (Q.set k f) k := by
  have hk : k < Q.length := by rw [h.1]; exact h.2.1
  refine ⟨by rw [List.length_set]; exact h.1, Nat.le_of_succ_le h.2.1, ?_⟩
  have := h.at_.store k (rb f)
  rw [qf_set hk] at this
  unfold AtS at this
  rwa [qf_len (by rw [List.length_set]; omega), List.length_set, h.1] at this
theorem AtQ.atP {w : World} {g n : Nat} {Q : Pl} (h : AtQ w g n Q 0) : AtP w g n n Q := by
  refine ⟨h.1, ?_⟩
  have := h.at_
  rwa [qf_zero] at this

/-- Numbers over one denominator. -/
def CB (p : Pl) (n : Nat) : Prop := ∃ D : Nat, 0 < D ∧ D ≤ 2 ^ n ∧ ∀ i, ∃ z : Int, cf p i * (D : Rat) = (z : Rat) ∧ z.natAbs < 2 ^ n
theorem ratnz {D : Nat} (h : 0 < D) : (D : Rat) ≠ 0 := by
  intro e
  have : (D : Rat) = ((0 : Nat) : Rat) := e
  have := Rat.natCast_inj.1 this
  omega
theorem CB.bd {p : Pl} {n : Nat} (h : CB p n) (i : Nat) : Bd (cf p i) n := by
  obtain ⟨D, h0, h1, h2⟩ := h
  obtain ⟨z, hz, hl⟩ := h2 i
  have hd := ratnz h0
  have e : cf p i = mkRat z D := by
    rw [Rat.mkRat_eq_div, ← hz]
    show _ = _ * (D : Rat) / (D : Rat)
    grind
  rw [e]; exact Bd.of_mkRat (by omega) hl h1
theorem CB.pb {p : Pl} {n : Nat} (h : CB p n) : PB p n := PB.of_cf h.bd
theorem CB.mono {p : Pl} {m n : Nat} (h : CB p m) (hm : m ≤ n) : CB p n := by
  obtain ⟨D, h0, h1, h2⟩ := h
  have hp : 2 ^ m ≤ 2 ^ n := Nat.pow_le_pow_right (by omega) hm
  refine ⟨D, h0, Nat.le_trans h1 hp, fun i => ?_⟩
  obtain ⟨z, hz, hl⟩ := h2 i
  exact ⟨z, hz, Nat.lt_of_lt_of_le hl hp⟩
theorem CB.congr {p q : Pl} {n : Nat} (h : CB p n) (e : PE q p) : CB q n := by
  obtain ⟨D, h0, h1, h2⟩ := h
  refine ⟨D, h0, h1, fun i => ?_⟩
  rw [e i]; exact h2 i
theorem CB.nil (n : Nat) : CB [] n := by
  refine ⟨1, by decide, Nat.two_pow_pos n, fun i => ⟨0, ?_, Nat.two_pow_pos n⟩⟩
  rw [cf_ge (Nat.zero_le _), Rat.zero_mul]; rfl
theorem CB.cons {c : Rat} {p : Pl} {m n : Nat} (hc : Bd c m) (h : CB p n) : CB (c :: p) (m + n) := by
  obtain ⟨D, h0, h1, h2⟩ := h
  have hd := ratnz c.den_pos
  have hcd : (c.num : Rat) / ((c.den : Nat) : Rat) = c := by
    have h := Rat.mkRat_eq_div c.num c.den
    rw [Rat.mkRat_self] at h
    exact h.symm
  have e0 : ((c.den * D : Nat) : Rat) = (c.den : Rat) * (D : Rat) := Rat.natCast_mul _ _
  refine ⟨c.den * D, Nat.mul_pos c.den_pos h0, by rw [Nat.pow_add]; exact Nat.mul_le_mul hc.2 h1, fun i => ?_⟩
  cases i with
  | zero =>
    refine ⟨c.num * (D : Int), ?_, ?_⟩
    · rw [cf_zero, e0, Rat.intCast_mul]
      show c * ((c.den : Rat) * (D : Rat)) = (c.num : Rat) * (D : Rat)
      have e1 : c * (c.den : Rat) = (c.num : Rat) := by
        have e2 : (c.num : Rat) / (c.den : Rat) * (c.den : Rat) = (c.num : Rat) := by grind
        rw [hcd] at e2; exact e2
      rw [← e1]; grind
    · rw [Int.natAbs_mul, Int.natAbs_natCast, Nat.pow_add]
      exact Nat.mul_lt_mul_of_lt_of_le hc.1 h1 (Nat.lt_of_lt_of_le h0 h1)
  | succ i =>
    obtain ⟨z, hz, hl⟩ := h2 i
    refine ⟨(c.den : Int) * z, ?_, ?_⟩
    · rw [cf_succ, e0, Rat.intCast_mul, ← hz]
      show _ = (c.den : Rat) * _
      grind
    · rw [Int.natAbs_mul, Int.natAbs_natCast, Nat.pow_add]
      exact Nat.mul_lt_mul_of_le_of_lt hc.2 hl (Nat.lt_of_lt_of_le c.den_pos hc.2)
theorem CB.of_pb {p : Pl} {n : Nat} (h : PB p n) : CB p (p.length * n) := by
  induction p with
  | nil => exact CB.nil _
  | cons c p ih =>
    have h1 := CB.cons (h c (by simp)) (ih fun q hq => h q (by simp [hq]))
    exact h1.mono (by rw [List.length_cons, Nat.succ_mul]; omega)
theorem sgn_abs (z : Int) : ∃ s : Int, s.natAbs = 1 ∧ ((z.natAbs : Nat) : Rat) = (s : Rat) * (z : Rat) := by
  by_cases h : 0 ≤ z
  · refine ⟨1, rfl, ?_⟩
    have e : ((z.natAbs : Nat) : Int) = 1 * z := by omega
    rw [← Rat.intCast_mul, ← e]; rfl
  · refine ⟨-1, rfl, ?_⟩
    have e : ((z.natAbs : Nat) : Int) = -1 * z := by omega
    rw [← Rat.intCast_mul, ← e]; rfl
theorem nz_of {c : Rat} {D : Nat} {z : Int} (hc : c ≠ 0) (h0 : 0 < D) (hz : c * (D : Rat) = (z : Rat)) : z ≠ 0 := by
  intro e
  rw [e] at hz
  have hd := ratnz h0
  rcases Rat.mul_eq_zero.1 (show c * (D : Rat) = 0 from hz) with h | h
  · exact hc h
  · exact hd h
/-- The leading coefficient made 1. -/
theorem CB.mon {p : Pl} {n : Nat} (tp : Tr p) (h : CB p n) : CB (psc (1 / lead p) p) n := by
  by_cases hp : p = []
  · subst hp; exact CB.nil n
  have hl := lead_ne tp hp
  obtain ⟨D, h0, h1, h2⟩ := h
  obtain ⟨y, hy, hyl⟩ := h2 (p.length - 1)
  have hy' : lead p * (D : Rat) = (y : Rat) := hy
  have hyz := nz_of hl h0 hy'
  obtain ⟨s, hs1, hs2⟩ := sgn_abs y
  refine ⟨y.natAbs, by omega, Nat.le_of_lt hyl, fun i => ?_⟩
  obtain ⟨z, hz, hzl⟩ := h2 i
  refine ⟨s * z, ?_, by rw [Int.natAbs_mul, hs1, Nat.one_mul]; exact hzl⟩
  rw [cf_psc, hs2, Rat.intCast_mul, ← hz, ← hy']
  grind
/-- One step of a division. -/
theorem CB.step {R r R' : Pl} {a j n m : Nat} {f : Rat} (h : CB R n) (hr : CB r m) (hl0 : lead r ≠ 0) (hf : f = cf R a / lead r) :
    Bd f (n + m) ∧ (PE R' (padd R (pmul (pmono j (-f)) r)) → CB R' (n + m + 1)) := by
  obtain ⟨D, h0, h1, h2⟩ := h
  obtain ⟨E, k0, k1, k2⟩ := hr
  obtain ⟨za, hza, hzal⟩ := h2 a
  obtain ⟨zl, hzl, hzll⟩ := k2 (r.length - 1)
  have hzl' : lead r * (E : Rat) = (zl : Rat) := hzl
  have hnz := nz_of hl0 k0 hzl'
  obtain ⟨s, hs1, hs2⟩ := sgn_abs zl
  have hfl : f * lead r = cf R a := by rw [hf]; grind
  have hk : f * ((zl : Rat) * (D : Rat)) = (za : Rat) * (E : Rat) := by rw [← hzl', ← hza, ← hfl]; grind
  have hnat : 0 < zl.natAbs := by omega
  have e0 : ((zl.natAbs * D : Nat) : Rat) = (zl.natAbs : Rat) * (D : Rat) := Rat.natCast_mul _ _
  have hpos : 0 < zl.natAbs * D := Nat.mul_pos hnat h0
  have hle : zl.natAbs * D ≤ 2 ^ (n + m) := by rw [Nat.pow_add, Nat.mul_comm]; exact Nat.mul_le_mul h1 (Nat.le_of_lt hzll)
  have hlt : za.natAbs * E < 2 ^ (n + m) := by rw [Nat.pow_add]; exact Nat.mul_lt_mul_of_lt_of_le hzal k1 (Nat.two_pow_pos m)
  constructor
  · have e : f = mkRat (s * (za * (E : Int))) (zl.natAbs * D) := by
      rw [Rat.mkRat_eq_div]
      have hnz2 := ratnz hpos
      have e2 : f * ((zl.natAbs * D : Nat) : Rat) = ((s * (za * (E : Int)) : Int) : Rat) := by
        rw [e0, hs2, Rat.intCast_mul, Rat.intCast_mul]
        show f * ((s : Rat) * (zl : Rat) * (D : Rat)) = (s : Rat) * ((za : Rat) * (E : Rat))
        rw [← hk]; grind
      rw [← e2]
      show _ = f * ((zl.natAbs * D : Nat) : Rat) / ((zl.natAbs * D : Nat) : Rat)
      grind
    rw [e]
    refine Bd.of_mkRat (by omega) ?_ hle
    rw [Int.natAbs_mul, hs1, Nat.one_mul, Int.natAbs_mul, Int.natAbs_natCast]; exact hlt
  · intro h'
    have hp2 : 2 ^ (n + m + 1) = 2 ^ (n + m) + 2 ^ (n + m) := by rw [Nat.pow_succ]; omega
    refine ⟨zl.natAbs * D, hpos, by omega, fun x => ?_⟩
    obtain ⟨z, hz, hzb⟩ := h2 x
    have hy : ∃ y : Int, cf (pmul (pmono j (-f)) r) x * ((E : Rat)) = -f * (y : Rat) ∧ y.natAbs < 2 ^ m := by
      rw [cf_mono_mul]
      by_cases hx : x < j
      · refine ⟨0, ?_, Nat.two_pow_pos m⟩
        rw [if_pos hx]
        show (0 : Rat) * _ = -f * 0
        grind
      · obtain ⟨y, hy, hyl⟩ := k2 (x - j)
        refine ⟨y, ?_, hyl⟩
        rw [if_neg hx, ← hy]; grind
    obtain ⟨y, hy, hyl⟩ := hy
    refine ⟨s * (z * zl - za * y), ?_, ?_⟩
    · rw [h' x, cf_padd, e0, hs2, Rat.intCast_mul, Rat.intCast_sub, Rat.intCast_mul, Rat.intCast_mul, ← hz]
      have hE := ratnz k0
      generalize cf (pmul (pmono j (-f)) r) x = c at *
      generalize cf R x = u at *
      have e3 : c * ((zl : Rat) * (D : Rat)) = -((za : Rat) * (y : Rat)) := by
        have e4 : c * ((zl : Rat) * (D : Rat)) * (E : Rat) = -((za : Rat) * (y : Rat)) * (E : Rat) := by
          have : c * ((zl : Rat) * (D : Rat)) * (E : Rat) = (c * (E : Rat)) * ((zl : Rat) * (D : Rat)) := by grind
          rw [this, hy]
          have : -f * (y : Rat) * ((zl : Rat) * (D : Rat)) = -(f * ((zl : Rat) * (D : Rat))) * (y : Rat) := by grind
          rw [this, hk]; grind
        grind
      grind
    · rw [Int.natAbs_mul, hs1, Nat.one_mul]
      have b1 : (z * zl).natAbs < 2 ^ (n + m) := by rw [Int.natAbs_mul, Nat.pow_add]; exact Nat.mul_lt_mul_of_lt_of_le hzb (Nat.le_of_lt hzll) (Nat.two_pow_pos m)
      have b2 : (za * y).natAbs < 2 ^ (n + m) := by rw [Int.natAbs_mul, Nat.pow_add]; exact Nat.mul_lt_mul_of_lt_of_le hzal (Nat.le_of_lt hyl) (Nat.two_pow_pos m)
      omega
/-- The bits behind some steps of a division. -/
def cdB (n m s : Nat) : Nat := n + s * (m + 1)
theorem cdB_succ (n m s : Nat) : cdB n m (s + 1) = cdB n m s + m + 1 := by unfold cdB; rw [Nat.succ_mul]; omega
theorem cdB_mono {n m s t : Nat} (h : s ≤ t) : cdB n m s ≤ cdB n m t := by unfold cdB; have := Nat.mul_le_mul_right (m + 1) h; omega
/-- What the loop over the places knows of the sizes. -/
def QB (R Q : Pl) (B : Nat) : Prop := CB R B ∧ ∀ x, Bd (cf Q x) B
theorem QB.start {p : Pl} {n m k : Nat} (h : CB p n) : QB p (List.replicate k 0) (cdB n m 0) := by
  refine ⟨h.mono (by unfold cdB; omega), fun x => ?_⟩
  rw [cf_zeros]; exact (Bd.of_int 0 0 (by decide)).mono (Nat.zero_le _)
theorem QB.step {R Q R' r : Pl} {B1 B2 m k a j : Nat} {f : Rat} (h : QB R Q B1) (hr : CB r m) (hl0 : lead r ≠ 0) (hf : f = cf R a / lead r) (h' : PE R' (padd R (pmul (pmono j (-f)) r))) (hB : B2 = B1 + m + 1) (hk : k < Q.length) : QB R' (Q.set k f) B2 := by
  have hs := h.1.step (R' := R') (j := j) hr hl0 hf
  refine ⟨(hs.2 h').mono (by omega), fun x => ?_⟩
  rw [cf_set _ _ _ _ hk]
  split
  · exact hs.1.mono (by omega)
  · exact (h.2 x).mono (by omega)
/-- Inside a step: the numbers from j + i on are as before. -/
def DB (R0 r : Pl) (f : Rat) (j i : Nat) (R : Pl) : Prop :=
  PE R (padd R0 (pmul (pmono j (-f)) (r.take i))) ∧ ∀ x, j + i ≤ x → cf R x = cf R0 x
theorem DB.start {R0 r : Pl} {f : Rat} {j : Nat} : DB R0 r f j 0 R0 := by
  refine ⟨?_, fun x _ => rfl⟩
  intro t
  rw [cf_padd, List.take_zero]
  have := pmul_nil_r (pmono j (-f)) t
  rw [this]
  have e : cf ([] : Pl) t = 0 := cf_ge (Nat.zero_le _)
  rw [e]; grind
theorem DB.step {R0 r : Pl} {f : Rat} {j i : Nat} {R : Pl} {y : Rat} (h : DB R0 r f j i R) (hl : j + i < R.length) (hy : y = cf R (j + i) - f * cf r i) : DB R0 r f j (i + 1) (R.set (j + i) y) := by
  obtain ⟨h1, h3⟩ := h
  refine ⟨times_step h1 hl (by rw [hy]; grind), fun x hx => ?_⟩
  rw [cf_set _ _ _ _ hl, if_neg (by omega)]
  exact h3 x (by omega)
theorem DB.done {R0 r : Pl} {f : Rat} {j : Nat} {R : Pl} (h : DB R0 r f j r.length R) : PE R (padd R0 (pmul (pmono j (-f)) r)) := by
  obtain ⟨h1, h3⟩ := h
  rw [List.take_length] at h1
  exact h1
end Go.Proofs.YtbldlibijojbjaaGreatDoor.GB
