import Derived.Test.YtbldlibijojbjaaGreatDoorCPu
namespace Go.Proofs.YtbldlibijojbjaaGreatDoor.GB
set_option linter.unusedVariables false
set_option linter.unusedSimpArgs false
open Go.RowKit Go.Shelf
attribute [local go_sem ↓] Go.wp_at_zero Go.wp_at_succ

/-- A row of texts, known whole. -/
def AtS (w : World) (g c : Nat) (l : List ByteArray) : Prop := OwnS w 0 (.slice (some ⟨g, 0, none⟩) l.length c) l
theorem AtS.ext {w w' : World} {g c : Nat} {l : List ByteArray} (h : AtS w g c l) (hE : Ext w w') : AtS w' g c l := OwnS.ext h hE
theorem AtS.cell {w : World} {g c : Nat} {l : List ByteArray} (h : AtS w g c l) (j : Nat) (hj : j < l.length) : w.cell? ⟨g, j, none⟩ = some (.string l[j]) := OwnS.cellAt h j hj
theorem AtS.froz {w : World} {g c : Nat} {l : List ByteArray} (h : AtS w g c l) (j : Nat) : w.frozen? ⟨g, j, none⟩ = false := World.ownsRow.frozenAt h j
theorem AtS.store {w : World} {g c : Nat} {l : List ByteArray} (h : AtS w g c l) (j : Nat) (x : ByteArray) : AtS (w.setCell ⟨g, j, none⟩ (.string x)) g c (l.set j x) := OwnS.store h j x
theorem AtS.far {w : World} {g c g' : Nat} {l : List ByteArray} (h : AtS w g c l) (hne : g ≠ g') (j : Nat) (x : Value) : AtS (w.setCell ⟨g', j, none⟩ x) g c l := by
  refine World.ownsRow.kept h (row := some g') ?_ (.inr (by simp [Value.ownBlock]; exact hne))
  exact ⟨rfl, rfl, rfl, by simp [World.setCell], fun i hi hne' => Below.heap_setCell _ _ _ _ (by simpa using hne')⟩
theorem OwnS.at_ {w : World} {base : Nat} {v : Value} {l : List ByteArray} (h : OwnS w base v l) (hne : 0 < l.length) : ∃ g c, v = .slice (some ⟨g, 0, none⟩) l.length c ∧ base ≤ g ∧ g < w.heap.size ∧ AtS w g c l := by
  rcases h.2 with ⟨_, h0⟩ | ⟨g, cap, cur, rfl, hg, hh, h1, h2, h3, h4⟩
  · omega
  · exact ⟨g, cap, rfl, hg, (Array.getElem?_eq_some_iff.1 hh).1, h.1, .inr ⟨g, cap, cur, rfl, Nat.zero_le _, hh, h1, h2, h3, h4⟩⟩
theorem AtS.sl {w : World} {g c : Nat} {l : List ByteArray} (h : AtS w g c l) : SlS w (.slice (some ⟨g, 0, none⟩) l.length c) l := OwnS.sl h
/-- A row of numbers. -/
def AtP (w : World) (g c n : Nat) (R : Pl) : Prop := R.length = n ∧ AtS w g c (R.map rb)
theorem AtP.ext {w w' : World} {g c n : Nat} {R : Pl} (h : AtP w g c n R) (hE : Ext w w') : AtP w' g c n R := ⟨h.1, h.2.ext hE⟩
theorem AtP.drH {w : World} {g c n : Nat} {R : Pl} (h : Hid (AtP w g c n R)) : Hid (AtP w.drew g c n R) := h
theorem AtP.cell {w : World} {g c n : Nat} {R : Pl} (h : AtP w g c n R) (j : Nat) (hj : j < n) : w.cell? ⟨g, j, none⟩ = some (rtx (cf R j)) := by
  have hj' : j < R.length := by rw [h.1]; exact hj
  have := h.2.cell j (by simpa using hj')
  rw [this, cf_lt hj']; simp [rb]
theorem AtP.froz {w : World} {g c n : Nat} {R : Pl} (h : AtP w g c n R) (j : Nat) : w.frozen? ⟨g, j, none⟩ = false := h.2.froz j
theorem AtP.store {w : World} {g c n : Nat} {R : Pl} (h : AtP w g c n R) (j : Nat) (q : Rat) : AtP (w.setCell ⟨g, j, none⟩ (rtx q)) g c n (R.set j q) := by
  refine ⟨by rw [List.length_set]; exact h.1, ?_⟩
  have := h.2.store j (rb q)
  rw [List.map_set]
  exact this
theorem AtP.far {w : World} {g c n g' : Nat} {R : Pl} (h : AtP w g c n R) (hne : g ≠ g') (j : Nat) (x : Value) : AtP (w.setCell ⟨g', j, none⟩ x) g c n R := ⟨h.1, h.2.far hne j x⟩
theorem AtP.ps {w : World} {g c n : Nat} {R : Pl} (h : AtP w g c n R) : PS w (.slice (some ⟨g, 0, none⟩) n c) R := by
  have := h.2.sl
  rwa [List.length_map, h.1] at this
/-- The quotient so far: the numbers from k on. -/
def qf (Q : Pl) (k : Nat) : List ByteArray := List.replicate k ⟨#[]⟩ ++ (Q.drop k).map rb
theorem qf_len {Q : Pl} {k : Nat} (h : k ≤ Q.length) : (qf Q k).length = Q.length := by unfold qf; simp; omega
theorem qf_set {Q : Pl} {k : Nat} {f : Rat} (h : k < Q.length) : (qf Q (k + 1)).set k (rb f) = qf (Q.set k f) k := by
  unfold qf
  rw [List.replicate_succ', List.append_assoc, List.set_append_right _ _ (by simp)]
  rw [List.length_replicate, Nat.sub_self, List.singleton_append, List.set_cons_zero]
  congr 1
  rw [List.map_drop, List.map_drop, List.map_set]
  have hk : k < (Q.map rb).length := by simpa using h
  generalize Q.map rb = L at *
  rw [List.drop_set, if_neg (by omega), Nat.sub_self]
  rw [List.drop_eq_getElem_cons hk, List.set_cons_zero]
theorem qf_zero (Q : Pl) : qf Q 0 = Q.map rb := by unfold qf; simp
def AtQ (w : World) (g n : Nat) (Q : Pl) (k : Nat) : Prop := Q.length = n ∧ k ≤ n ∧ OwnS w 0 (.slice (some ⟨g, 0, none⟩) n n) (qf Q k)
theorem AtQ.at_ {w : World} {g n : Nat} {Q : Pl} {k : Nat} (h : AtQ w g n Q k) : AtS w g n (qf Q k) := by
  unfold AtS; rw [qf_len (by rw [h.1]; exact h.2.1), h.1]; exact h.2.2
theorem AtQ.ext {w w' : World} {g n : Nat} {Q : Pl} {k : Nat} (h : AtQ w g n Q k) (hE : Ext w w') : AtQ w' g n Q k := ⟨h.1, h.2.1, h.2.2.ext hE⟩
theorem AtQ.drH {w : World} {g n : Nat} {Q : Pl} {k : Nat} (h : Hid (AtQ w g n Q k)) : Hid (AtQ w.drew g n Q k) := h
theorem AtQ.cell {w : World} {g n : Nat} {Q : Pl} {k : Nat} (h : AtQ w g n Q k) (hk : k < n) : w.cell? ⟨g, k, none⟩ = some (rtx (cf Q k)) := by
  have hl := qf_len (Q := Q) (k := k) (by rw [h.1]; exact h.2.1)
  have hkQ : k < Q.length := by rw [h.1]; exact hk
  rw [h.at_.cell k (by rw [hl]; exact hkQ), cf_lt hkQ]
  simp only [qf]
  rw [List.getElem_append_right (by simp)]
  simp [rb]
theorem AtQ.cell' {w : World} {g n : Nat} {Q : Pl} {k j : Nat} (h : AtQ w g n Q k) (hj : j < n) : ∃ s, w.cell? ⟨g, j, none⟩ = some (.string s) := by
  have hl := qf_len (Q := Q) (k := k) (by rw [h.1]; exact h.2.1)
  exact ⟨_, h.at_.cell j (by rw [hl, h.1]; exact hj)⟩
theorem AtQ.froz {w : World} {g n : Nat} {Q : Pl} {k : Nat} (h : AtQ w g n Q k) (j : Nat) : w.frozen? ⟨g, j, none⟩ = false := h.at_.froz j
theorem AtQ.far {w : World} {g n g' : Nat} {Q : Pl} {k : Nat} (h : AtQ w g n Q k) (hne : g ≠ g') (j : Nat) (x : Value) : AtQ (w.setCell ⟨g', j, none⟩ x) g n Q k := by
  refine ⟨h.1, h.2.1, ?_⟩
  have := h.at_.far hne j x
  unfold AtS at this
  rwa [qf_len (by rw [h.1]; exact h.2.1), h.1] at this
theorem AtQ.store {w : World} {g n : Nat} {Q : Pl} {k : Nat} (h : AtQ w g n Q (k + 1)) (f : Rat) : AtQ (w.setCell ⟨g, k, none⟩ (rtx f)) g n (Q.set k f) k := by
  have hk : k < Q.length := by rw [h.1]; exact h.2.1
  refine ⟨by rw [List.length_set]; exact h.1, Nat.le_of_succ_le h.2.1, ?_⟩
  have := h.at_.store k (rb f)
  rw [qf_set hk] at this
  unfold AtS at this
  rwa [qf_len (by rw [List.length_set]; omega), List.length_set, h.1] at this
theorem AtQ.atP {w : World} {g n : Nat} {Q : Pl} (h : AtQ w g n Q 0) : AtP w g n n Q := by
  refine ⟨h.1, ?_⟩
  have := h.at_
  rwa [qf_zero] at this

/-- The bits behind some steps of a division. -/
def divB (n m : Nat) : Nat → Nat
  | 0 => n
  | s + 1 => 2 * divB n m s + 2 * m + 2
theorem divB_mono {n m s t : Nat} (h : s ≤ t) : divB n m s ≤ divB n m t := by
  induction t with
  | zero => have : s = 0 := by omega
            subst this; exact Nat.le_refl _
  | succ t ih =>
    rcases Nat.lt_or_ge t s with h1 | h1
    · have : s = t + 1 := by omega
      subst this; exact Nat.le_refl _
    · have := ih h1
      show divB n m s ≤ 2 * divB n m t + 2 * m + 2
      omega
theorem divB_m {n m s : Nat} (h : 0 < s) : 2 * m + 2 ≤ divB n m s := by
  cases s with
  | zero => omega
  | succ s => show _ ≤ 2 * divB n m s + 2 * m + 2; omega
/-- Inside a step: the numbers below j + i are done. -/
def DB (R0 r : Pl) (f : Rat) (B1 B2 j i : Nat) (R : Pl) : Prop :=
  PE R (padd R0 (pmul (pmono j (-f)) (r.take i))) ∧ (∀ x, x < j + i → Bd (cf R x) B2) ∧ (∀ x, j + i ≤ x → Bd (cf R x) B1)
theorem DB.start {R0 r : Pl} {f : Rat} {B1 B2 j : Nat} (h : ∀ x, Bd (cf R0 x) B1) (hB : B1 ≤ B2) : DB R0 r f B1 B2 j 0 R0 := by
  refine ⟨?_, fun x _ => (h x).mono hB, fun x _ => h x⟩
  intro t
  rw [cf_padd, List.take_zero]
  have := pmul_nil_r (pmono j (-f)) t
  rw [this]
  have e : cf ([] : Pl) t = 0 := cf_ge (Nat.zero_le _)
  rw [e]; grind
theorem DB.step {R0 r : Pl} {f : Rat} {B1 B2 j i m : Nat} {R : Pl} {y : Rat} (h : DB R0 r f B1 B2 j i R) (hf : Bd f (B1 + m + 1)) (hr : PB r m) (hB : B2 = 2 * B1 + 2 * m + 2) (hl : j + i < R.length) (hy : y = cf R (j + i) - f * cf r i) : DB R0 r f B1 B2 j (i + 1) (R.set (j + i) y) := by
  obtain ⟨h1, h2, h3⟩ := h
  refine ⟨times_step h1 hl (by rw [hy]; grind), fun x hx => ?_, fun x hx => ?_⟩
  · rw [cf_set _ _ _ _ hl]
    split
    · rw [hy, hB]
      exact ((h3 (j + i) (Nat.le_refl _)).sub (hf.mul (hr.cf i))).mono (by omega)
    · exact h2 x (by omega)
  · rw [cf_set _ _ _ _ hl, if_neg (by omega)]
    exact h3 x (by omega)
theorem DB.done {R0 r : Pl} {f : Rat} {B1 B2 j : Nat} {R : Pl} (h : DB R0 r f B1 B2 j r.length R) (hB : B1 ≤ B2) : PE R (padd R0 (pmul (pmono j (-f)) r)) ∧ ∀ x, Bd (cf R x) B2 := by
  obtain ⟨h1, h2, h3⟩ := h
  rw [List.take_length] at h1
  refine ⟨h1, fun x => ?_⟩
  rcases Nat.lt_or_ge x (j + r.length) with hj | hj
  · exact h2 x hj
  · exact (h3 x hj).mono hB
end Go.Proofs.YtbldlibijojbjaaGreatDoor.GB
