import Derived.Test.YtadimepmoljnpaaGreatDoorMRn
import Derived.IntWalk
namespace Go.Proofs.YtadimepmoljnpaaGreatDoor.GB
set_option linter.unusedVariables false
set_option linter.unusedSimpArgs false

theorem cf_set (p : Pl) (j : Nat) (y : Rat) (i : Nat) (h : j < p.length) : cf (p.set j y) i = if i = j then y else cf p i := by
  unfold cf
  rw [List.getD_eq_getElem?_getD, List.getElem?_set, List.getD_eq_getElem?_getD]
  split
  · rename_i e; subst e; simp [h]
  · rename_i e; rw [if_neg (fun e' => e e'.symm)]
theorem cf_append (a b : Pl) (i : Nat) : cf (a ++ b) i = if i < a.length then cf a i else cf b (i - a.length) := by
  unfold cf; split
  · rename_i h; simp [List.getElem?_append_left h]
  · rename_i h; simp [List.getElem?_append_right (Nat.le_of_not_lt h)]
theorem cf_take (p : Pl) (k i : Nat) : cf (p.take k) i = if i < k then cf p i else 0 := by
  unfold cf; split
  · rename_i h; simp [List.getElem?_take, h]
  · rename_i h; simp [List.getElem?_take, h]
theorem cf_zeros (k i : Nat) : cf (List.replicate k 0) i = 0 := by
  unfold cf; by_cases h : i < k <;> simp [h]
def pmono (k : Nat) (f : Rat) : Pl := List.replicate k 0 ++ [f]
theorem cf_pmono (k : Nat) (f : Rat) (i : Nat) : cf (pmono k f) i = if i = k then f else 0 := by
  unfold pmono
  rw [cf_append, cf_zeros, List.length_replicate]
  by_cases h : i < k
  · rw [if_pos h, if_neg (by omega)]
  · rw [if_neg h]
    by_cases e : i = k
    · rw [if_pos e, e, Nat.sub_self]; simp
    · rw [if_neg e, cf_ge (by simp; omega)]
theorem cf_mono_mul (k : Nat) (f : Rat) (r : Pl) (i : Nat) : cf (pmul (pmono k f) r) i = if i < k then 0 else f * cf r (i - k) := by
  induction k generalizing i with
  | zero =>
    simp only [pmono, List.replicate_zero, List.nil_append, Nat.not_lt_zero, if_false, Nat.sub_zero]
    cases i with
    | zero => rw [cf_pmul_zero]
    | succ i => rw [cf_pmul_succ]; simp [pmul]; grind
  | succ k ih =>
    have e : pmono (k + 1) f = 0 :: pmono k f := by simp [pmono, List.replicate_succ]
    rw [e]
    have h := pmul_shift_l (pmono k f) r i
    rw [h]
    cases i with
    | zero => simp
    | succ i => rw [cf_succ, ih]; simp
theorem take_mono (p : Pl) (i : Nat) : PE (p.take (i + 1)) (padd (p.take i) (pmono i (cf p i))) := by
  intro x
  rw [cf_padd, cf_take, cf_take, cf_pmono]
  by_cases h : x = i
  · subst h; simp; grind
  · by_cases h2 : x < i
    · rw [if_pos (by omega), if_pos h2, if_neg h]; grind
    · rw [if_neg (by omega), if_neg h2, if_neg h]; grind
/-- One more term of a product. -/
theorem times_step {O A r : Pl} {i k : Nat} {a y : Rat} (h : PE O (padd A (pmul (pmono i a) (r.take k)))) (hl : i + k < O.length) (hy : y = cf O (i + k) + a * cf r k) :
    PE (O.set (i + k) y) (padd A (pmul (pmono i a) (r.take (k + 1)))) := by
  intro x
  have hx := h x
  rw [cf_set _ _ _ _ hl, cf_padd, cf_mono_mul, cf_take] at *
  have hk := h (i + k)
  rw [cf_padd, cf_mono_mul, cf_take] at hk
  by_cases e : x = i + k
  · subst e
    rw [if_pos rfl, hy, hk]
    simp
    grind
  · rw [if_neg e, hx]
    by_cases h2 : x < i
    · simp [h2]
    · simp only [if_neg h2]
      by_cases h3 : x - i < k
      · rw [if_pos h3, if_pos (by omega)]
      · rw [if_neg h3, if_neg (by omega)]
theorem times_row {O p r : Pl} {i : Nat} {a : Rat} (h : PE O (padd (pmul (p.take i) r) (pmul (pmono i a) r))) (ha : a = cf p i) : PE O (pmul (p.take (i + 1)) r) := by
  subst ha
  exact h.trans ((pmul_add_l _ _ r).symm.trans (PE.mul_l (take_mono p i).symm r))

/-! ### The steps of a division -/
structure DInv (p r Q R : Pl) (k : Nat) : Prop where
  eq : PE p (padd (pmul Q r) R)
  hi : ∀ i, k + r.length ≤ i + 1 → cf R i = 0
  lo : ∀ i, i < k → cf Q i = 0
theorem DInv.step {p r Q R R' : Pl} {k : Nat} {f : Rat} (h : DInv p r Q R (k + 1)) (hr : r ≠ []) (hl : lead r ≠ 0) (hf : f = cf R (k + (r.length - 1)) / lead r) (hk : k < Q.length)
    (hR : PE R' (padd R (pmul (pmono k (-f)) r))) : DInv p r (Q.set k f) R' k := by
  have l1 := List.length_pos_iff.2 hr
  refine ⟨?_, ?_, ?_⟩
  · have hQ : PE (Q.set k f) (padd Q (pmono k f)) := by
      intro x
      rw [cf_set _ _ _ _ hk, cf_padd, cf_pmono]
      by_cases e : x = k
      · subst e; rw [if_pos rfl, if_pos rfl, h.lo x (by omega)]; grind
      · rw [if_neg e, if_neg e]; grind
    intro x
    have h1 := h.eq x
    have h2 := (PE.mul_l hQ r) x
    have h3 := (pmul_add_l Q (pmono k f) r) x
    have h4 := hR x
    rw [cf_padd] at h1 h3 h4
    rw [cf_padd, h2, h3, h4, h1, cf_mono_mul, cf_mono_mul]
    split <;> grind
  · intro i hi
    rw [hR i, cf_padd, cf_mono_mul, if_neg (by omega)]
    by_cases e : i = k + (r.length - 1)
    · subst e
      rw [show k + (r.length - 1) - k = r.length - 1 by omega]
      have : cf r (r.length - 1) = lead r := rfl
      rw [this, hf]
      have hx : cf R (k + (r.length - 1)) / lead r * lead r = cf R (k + (r.length - 1)) := by grind
      grind
    · rw [h.hi i (by omega), cf_ge (by omega : r.length ≤ i - k)]; grind
  · intro i hi
    rw [cf_set _ _ _ _ hk, if_neg (by omega)]
    exact h.lo i (by omega)
theorem DInv.start (p r : Pl) (n : Nat) (h : p.length + 1 ≤ n + r.length) : DInv p r (List.replicate n 0) p n := by
  refine ⟨?_, fun i hi => cf_ge (by omega), fun i _ => cf_zeros _ _⟩
  intro x
  rw [cf_padd, pmul_zero_l (fun i => cf_zeros _ i) r x]
  simp; grind
theorem DInv.done {p r Q R : Pl} (h : DInv p r Q R 0) (hr : r ≠ []) : DivRel p r (ptrim Q) (ptrim R) := by
  have l1 := List.length_pos_iff.2 hr
  refine ⟨tr_ptrim _, tr_ptrim _, ?_, h.eq.trans (PE.add (PE.mul_l (cf_ptrim Q).symm r) (cf_ptrim R).symm)⟩
  have := tr_len (tr_ptrim R) (r.length - 1) (fun i hi => by rw [cf_ptrim]; exact h.hi i (by omega))
  omega

/-! ### The remainders -/
theorem GcdRel.base {p : Pl} (hp : Tr p) (hne : p ≠ []) : GcdRel p [] (psc (1 / lead p) p) := by
  have hl := lead_ne hp hne
  have e : (psc (1 / lead p) p).length = p.length := by simp [psc]
  refine ⟨?_, .inr ?_, ⟨[lead p], ?_⟩, Dvd.nil _, ⟨[1 / lead p], [], ?_⟩⟩
  · have l1 := List.length_pos_iff.2 hne
    unfold Tr
    rw [List.getLast?_eq_getElem?, e, List.getElem?_eq_getElem (by omega)]
    intro h0
    have h1 : cf (psc (1 / lead p) p) (p.length - 1) = 0 := by rw [cf_lt (by omega)]; exact Option.some.inj h0
    rw [cf_psc] at h1
    have : lead p = cf p (p.length - 1) := rfl
    grind
  · unfold lead at *; rw [e, cf_psc]; grind
  · intro i
    cases i with
    | zero => rw [cf_pmul_zero, cf_psc]; grind
    | succ i => rw [cf_pmul_succ, cf_psc]; simp [pmul]; grind
  · intro i
    rw [cf_psc, cf_padd]
    cases i with
    | zero => rw [cf_pmul_zero]; simp [pmul]; grind
    | succ i => rw [cf_pmul_succ]; simp [pmul]; grind
theorem GcdRel.nil : GcdRel [] [] [] := ⟨tr_nil, .inl rfl, Dvd.nil _, Dvd.nil _, ⟨[], [], fun i => by simp [pmul, padd]⟩⟩
/-- A divisor of the divisor and of (a multiple of) the remainder. -/
theorem GcdRel.step {p r q t s d : Pl} {c : Rat} (h : PE p (padd (pmul q r) t)) (hc : c ≠ 0) (hs : PE s (psc c t)) (k : GcdRel r s d) : GcdRel p r d := by
  have ht : PE t (pmul [1 / c] s) := by
    intro i
    cases i with
    | zero => rw [cf_pmul_zero, hs 0, cf_psc]; grind
    | succ i => rw [cf_pmul_succ, hs (i + 1), cf_psc]; simp [pmul]; grind
  refine ⟨k.tr, k.monic, ?_, k.dp, ?_⟩
  · exact ((k.dp.mul q).add (k.dr.mul [1 / c])).congr ((PE.add (PE.rfl' _) ht.symm).trans h.symm)
  · obtain ⟨a, b, hab⟩ := k.bez
    -- d = a r + b s = a r + c b (p - q r)
    refine ⟨psc c b, padd a (pneg (psc c (pmul b q))), ?_⟩
    intro i
    have h1 := hab i
    have h2 := (PE.mul_r b hs) i
    have h3 := (pmul_sc_r c b t) i
    have h4 := (PE.mul_r (psc c b) h) i
    have h5 := (pmul_add_r (psc c b) (pmul q r) t) i
    have h6 := (pmul_sc_l c b (pmul q r)) i
    have h7 := (pmul_sc_l c b t) i
    have h8 := (pmul_add_l a (pneg (psc c (pmul b q))) r) i
    have h9 : cf (pmul (pneg (psc c (pmul b q))) r) i = -1 * (c * cf (pmul (pmul b q) r) i) := by
      have := (pmul_sc_l (-1) (psc c (pmul b q)) r) i
      rw [cf_psc, pmul_sc_l c (pmul b q) r i, cf_psc] at this
      exact this
    have h10 := (pmul_assoc b q r) i
    rw [cf_padd] at h1 h5 h8
    rw [cf_psc] at h3 h6 h7
    rw [cf_padd, h1, h2, h3, h4, h5, h6, h7, h8, h9, h10]
    grind
end Go.Proofs.YtadimepmoljnpaaGreatDoor.GB

namespace Go.Proofs.YtadimepmoljnpaaGreatDoor.GB
set_option linter.unusedVariables false
set_option linter.unusedSimpArgs false
open Go.RowKit Go.Shelf
attribute [local go_sem ↓] Go.wp_at_zero Go.wp_at_succ

/-- The text of a number. -/
def rb (q : Rat) : ByteArray := ⟨(rtext q).toArray⟩
theorem rb_v (q : Rat) : Value.string (rb q) = rtx q := rfl
theorem rb0 : rb 0 = ⟨#[48]⟩ := by
  unfold rb
  rw [rtext_int rfl]
  have h := itoa_nat 0
  rw [Lib.decDigits] at h
  exact congrArg (fun l : List UInt8 => (⟨l.toArray⟩ : ByteArray)) h
theorem isZ_rb (q : Rat) : isZ (rb q) = decide (q = 0) := by
  unfold isZ
  have h := rtx_eq q 0
  have h0 : (⟨(rtext 0).toArray⟩ : ByteArray).toList = [48] := by
    have := rb0
    unfold rb at this
    rw [this, ByteArray.toList_eq]
  rw [h0] at h
  exact h
theorem cf_snoc0 (p : Pl) : PE (p ++ [0]) p := by
  intro i
  rw [cf_append]
  split
  · rfl
  · rename_i h
    rw [cf_ge (Nat.not_lt.1 h)]
    rcases Nat.eq_zero_or_pos (i - p.length) with e | e
    · rw [e]; rfl
    · exact cf_ge (by simp only [List.length_singleton]; omega)
theorem tzS_rb (p : Pl) : tzS (p.map rb) = (ptrim p).map rb := by
  generalize hn : p.length = n
  induction n generalizing p with
  | zero => rw [List.eq_nil_of_length_eq_zero hn]; exact tzS_nil
  | succ n ih =>
    obtain ⟨q, x, rfl⟩ : ∃ q x, p = q ++ [x] := ⟨p.dropLast, p.getLast (by intro e; rw [e] at hn; cases hn), (List.dropLast_concat_getLast _).symm⟩
    have hq : q.length = n := by simpa using hn
    rw [List.map_append, List.map_singleton]
    by_cases h : x = 0
    · subst h
      rw [tzS_zero _ _ (by rw [isZ_rb]; rfl), ih q hq, ptrim_eq (cf_snoc0 q)]
    · rw [tzS_last _ _ (by rw [isZ_rb]; exact decide_eq_false h), ptrim_tr (by unfold Tr; rw [List.getLast?_concat]; simpa using h), List.map_append, List.map_singleton]
theorem atS_rb (p : Pl) (i : Nat) : atS (p.map rb) i = rb (cf p i) := by
  unfold atS cf
  simp only [List.getD_eq_getElem?_getD, List.getElem?_map]
  cases p[i]? with
  | none => exact rb0.symm
  | some x => rfl
/-- All numbers of a polynomial have at most n bits. -/
def PB (p : Pl) (n : Nat) : Prop := ∀ q ∈ p, Bd q n
theorem PB.cf {p : Pl} {n : Nat} (h : PB p n) (i : Nat) : Bd (cf p i) n := by
  unfold GB.cf
  rw [List.getD_eq_getElem?_getD]
  cases e : p[i]? with
  | none => exact (Bd.of_int 0 0 (by decide)).mono (Nat.zero_le _)
  | some x => exact h x (List.mem_of_getElem? e)
theorem PB.mono {p : Pl} {m n : Nat} (h : PB p m) (hm : m ≤ n) : PB p n := fun q hq => (h q hq).mono hm
theorem PB.nil (n : Nat) : PB [] n := fun q hq => by cases hq
theorem PB.of_cf {p : Pl} {n : Nat} (h : ∀ i, Bd (GB.cf p i) n) : PB p n := by
  intro q hq
  obtain ⟨i, hi, rfl⟩ := List.mem_iff_getElem.1 hq
  rw [← cf_lt hi]
  exact h i
/-- A slice that reads as a polynomial's numbers. -/
def PS (w : World) (v : Value) (p : Pl) : Prop := SlS w v (p.map rb)
theorem PS.ext {w w' : World} {v : Value} {p : Pl} (h : PS w v p) (hE : Ext w w') : PS w' v p := SlS.ext h hE
set_option maxHeartbeats 1000000 in
set_option maxRecDepth 100000 in
theorem pzadd_g (A B : Option Addr) (c d : Nat) (l m : List ByteArray) (g : Nat → ByteArray) (w : World) (hl : l.length ≤ 100000) (hm : m.length ≤ 100000)
    (hA : SlS w (.slice A l.length c) l) (hB : SlS w (.slice B m.length d) m)
    (hop : ∀ i W, Ext w W → Calls Tryz.prog 67 #[.string (atS l i), .string (atS m i)] W fun e w' => e = .returned (.string (g i)) ∧ Ext W w') :
    Calls Tryz.prog 203 #[.slice A l.length c, .slice B m.length d, .func (.func 67) #[] #[]] w fun e w' => ∃ v, e = .returned v ∧ SlS w' v (tzS ((List.range (max l.length m.length)).map g)) ∧ Ext w w' := by
  obtain ⟨i0, hi, hz0, hz1, hz2⟩ := info_parts Tryz.infoRat
  have HA := Lib.hid hA
  have HB := Lib.hid hB
  have HL : Hid (l.length ≤ 100000) := hl
  have HM : Hid (m.length ≤ 100000) := hm
  clear hA hB
  go_enter Tryz.func203, Tryz.ntmps203
  go_wp2_with fail
  go_loopw [7, 14] (fun vo vi wr => ∃ k : Nat, k ≤ max l.length m.length ∧ vi = .int .i64 k ∧ Hid (OwnS wr w.heap.size vo ((List.range k).map g)) ∧ Hid (Ext w wr)) (fun _ vi _ => max l.length m.length - (intOf vi).toNat)
  case atStart => exact ⟨0, Nat.zero_le _, rfl, ⟨rfl, .inl ⟨rfl, rfl⟩⟩, Ext.rfl' _⟩
  case round =>
    obtain ⟨k, hk, rfl, HO, HE⟩ := hrel
    by_cases hlt : k < max l.length m.length
    · have hk9 : k ≤ 1099511627776 := by omega
      have hN : ((List.range k).map g).length + 1 ≤ maxLen := by simp [maxLen]; omega
      have hbig : (((List.range k).map g).length + 1) * 16 ≤ 140737488355328 := by simp; omega
      have hs : List.range (k + 1) = List.range k ++ [k] := List.range_succ
      have HS : Hid ((List.range (k + 1)).map g = (List.range k).map g ++ [g k]) := by unfold Hid; rw [hs]; simp
      have hopk := hop k
      clear hs
      go_wp2_with fail
      refine (at_any _ l k _ hk9 (HA.out.ext HE.out)).mono ?_
      rintro e w1 ⟨rfl, rfl⟩
      go_wp2_with fail
      refine (at_any _ m k _ hk9 (HB.out.ext HE.out)).mono ?_
      rintro e w1 ⟨rfl, rfl⟩
      go_wp2_with fail
      refine (hopk _ HE.out).mono ?_
      rintro e w1 ⟨rfl, hE1⟩
      have HE1 := Lib.hid (HE.out.tr hE1)
      have HO1 := Lib.hid (HO.out.ext hE1)
      have hbase1 : w.heap.size ≤ w1.heap.size := HE1.out.size
      clear hE1
      generalize (List.range k).map g = r at *
      go_wp2_with (at_builtin; (refine wpList_append_own _ rfl _ _ 115 rfl w.heap.size 24 i0 (.string ⟨#[]⟩) 1 16 Tryz.underlying115 hi hz0 hz1 hz2 rfl (by decide) _ r.length (strs r) rfl (World.ownsRow.alloc HO1.out _) ⟨w1.heap.size, 0, none⟩ 1 1 _ rfl rfl (cell_one_new _ _ _) (by simp [Value.oneCell']) hN hbig (by simp; omega) ?_); intro v' w2 hown2 hgrow2 _)
      all_goals
        obtain ⟨p1, p2⟩ := own_grow (news := [g k]) HO1.out HE1.out hown2 hgrow2
        go_roundw
        case rel => exact ⟨k + 1, by omega, by go_num, by rw [HS.out]; exact p1, p2⟩
        case measure => simp [intOf]; omega
    · have hke : k = max l.length m.length := by omega
      subst hke
      have HP := Lib.hid HO.out.sl
      clear hop
      go_wp2_with fail
      refine (ptrimS_v _ _ _ HP.out).mono ?_
      rintro e w1 ⟨v', rfl, hv, rfl⟩
      have HV := Lib.hid hv
      clear hv
      go_wp2_with fail
      go_ret
      exact ⟨_, rfl, HV.out, HE.out⟩
set_option maxHeartbeats 1000000 in
set_option maxRecDepth 100000 in
theorem pzsub_g (A B : Option Addr) (c d : Nat) (l m : List ByteArray) (g : Nat → ByteArray) (w : World) (hl : l.length ≤ 100000) (hm : m.length ≤ 100000)
    (hA : SlS w (.slice A l.length c) l) (hB : SlS w (.slice B m.length d) m)
    (hop : ∀ i W, Ext w W → Calls Tryz.prog 166 #[.string (atS l i), .string (atS m i)] W fun e w' => e = .returned (.string (g i)) ∧ Ext W w') :
    Calls Tryz.prog 203 #[.slice A l.length c, .slice B m.length d, .func (.func 166) #[] #[]] w fun e w' => ∃ v, e = .returned v ∧ SlS w' v (tzS ((List.range (max l.length m.length)).map g)) ∧ Ext w w' := by
  obtain ⟨i0, hi, hz0, hz1, hz2⟩ := info_parts Tryz.infoRat
  have HA := Lib.hid hA
  have HB := Lib.hid hB
  have HL : Hid (l.length ≤ 100000) := hl
  have HM : Hid (m.length ≤ 100000) := hm
  clear hA hB
  go_enter Tryz.func203, Tryz.ntmps203
  go_wp2_with fail
  go_loopw [7, 14] (fun vo vi wr => ∃ k : Nat, k ≤ max l.length m.length ∧ vi = .int .i64 k ∧ Hid (OwnS wr w.heap.size vo ((List.range k).map g)) ∧ Hid (Ext w wr)) (fun _ vi _ => max l.length m.length - (intOf vi).toNat)
  case atStart => exact ⟨0, Nat.zero_le _, rfl, ⟨rfl, .inl ⟨rfl, rfl⟩⟩, Ext.rfl' _⟩
  case round =>
    obtain ⟨k, hk, rfl, HO, HE⟩ := hrel
    by_cases hlt : k < max l.length m.length
    · have hk9 : k ≤ 1099511627776 := by omega
      have hN : ((List.range k).map g).length + 1 ≤ maxLen := by simp [maxLen]; omega
      have hbig : (((List.range k).map g).length + 1) * 16 ≤ 140737488355328 := by simp; omega
      have hs : List.range (k + 1) = List.range k ++ [k] := List.range_succ
      have HS : Hid ((List.range (k + 1)).map g = (List.range k).map g ++ [g k]) := by unfold Hid; rw [hs]; simp
      have hopk := hop k
      clear hs
      go_wp2_with fail
      refine (at_any _ l k _ hk9 (HA.out.ext HE.out)).mono ?_
      rintro e w1 ⟨rfl, rfl⟩
      go_wp2_with fail
      refine (at_any _ m k _ hk9 (HB.out.ext HE.out)).mono ?_
      rintro e w1 ⟨rfl, rfl⟩
      go_wp2_with fail
      refine (hopk _ HE.out).mono ?_
      rintro e w1 ⟨rfl, hE1⟩
      have HE1 := Lib.hid (HE.out.tr hE1)
      have HO1 := Lib.hid (HO.out.ext hE1)
      have hbase1 : w.heap.size ≤ w1.heap.size := HE1.out.size
      clear hE1
      generalize (List.range k).map g = r at *
      go_wp2_with (at_builtin; (refine wpList_append_own _ rfl _ _ 115 rfl w.heap.size 24 i0 (.string ⟨#[]⟩) 1 16 Tryz.underlying115 hi hz0 hz1 hz2 rfl (by decide) _ r.length (strs r) rfl (World.ownsRow.alloc HO1.out _) ⟨w1.heap.size, 0, none⟩ 1 1 _ rfl rfl (cell_one_new _ _ _) (by simp [Value.oneCell']) hN hbig (by simp; omega) ?_); intro v' w2 hown2 hgrow2 _)
      all_goals
        obtain ⟨p1, p2⟩ := own_grow (news := [g k]) HO1.out HE1.out hown2 hgrow2
        go_roundw
        case rel => exact ⟨k + 1, by omega, by go_num, by rw [HS.out]; exact p1, p2⟩
        case measure => simp [intOf]; omega
    · have hke : k = max l.length m.length := by omega
      subst hke
      have HP := Lib.hid HO.out.sl
      clear hop
      go_wp2_with fail
      refine (ptrimS_v _ _ _ HP.out).mono ?_
      rintro e w1 ⟨v', rfl, hv, rfl⟩
      have HV := Lib.hid hv
      clear hv
      go_wp2_with fail
      go_ret
      exact ⟨_, rfl, HV.out, HE.out⟩
theorem cf_range (f : Nat → Rat) (N i : Nat) : cf ((List.range N).map f) i = if i < N then f i else 0 := by
  unfold cf
  rw [List.getD_eq_getElem?_getD]
  split
  · rename_i h; simp [List.getElem?_map, List.getElem?_range h]
  · rename_i h; rw [List.getElem?_eq_none (by simpa using h)]; rfl
theorem rb_range (f : Nat → Rat) (N : Nat) : (List.range N).map (fun i => rb (f i)) = ((List.range N).map f).map rb := by rw [List.map_map]; rfl
theorem range_add (p r : Pl) : ptrim ((List.range (max p.length r.length)).map fun i => cf p i + cf r i) = ptrim (padd p r) := by
  apply ptrim_eq
  intro i
  rw [cf_range, cf_padd]
  split
  · rfl
  · rw [cf_ge (by omega), cf_ge (by omega)]; grind
theorem range_sub (p r : Pl) : ptrim ((List.range (max p.length r.length)).map fun i => cf p i - cf r i) = ptrim (padd p (pneg r)) := by
  apply ptrim_eq
  intro i
  rw [cf_range, cf_padd, cf_pneg]
  split
  · rw [Rat.sub_eq_add_neg]
  · rw [cf_ge (by omega), cf_ge (by omega)]; grind
set_option maxHeartbeats 1000000 in
set_option maxRecDepth 100000 in
theorem pminus_v (v1 v2 : Value) (p r : Pl) (m n : Nat) (w : World) (hW : Wd w) (h1 : PS w v1 p) (h2 : PS w v2 r) (hp : PB p m) (hr : PB r n) (hk : m + n + 3 ≤ KK) (l1 : p.length ≤ 100000) (l2 : r.length ≤ 100000) :
    Calls Tryz.prog 178 #[v1, v2] w fun e w' => ∃ v, e = .returned v ∧ PS w' v (ptrim (padd p (pneg r))) ∧ Ext w w' := by
  obtain ⟨A, c, rfl, a1, a2, a3⟩ := h1
  obtain ⟨B, d, rfl, b1, b2, b3⟩ := h2
  have h := pzsub_g A B c d (p.map rb) (r.map rb) (fun i => rb (cf p i - cf r i)) w (by simpa using l1) (by simpa using l2) ⟨A, c, rfl, a1, a2, a3⟩ ⟨B, d, rfl, b1, b2, b3⟩ (by
    intro i W hE
    rw [atS_rb, atS_rb]
    exact psub_q (cf p i) (cf r i) m n W (hW.ext hE) (hp.cf i) (hr.cf i) hk)
  simp only [List.length_map] at h ⊢
  rw [rb_range, tzS_rb, range_sub] at h
  clear a1 a2 a3 b1 b2 b3 hp hr
  unfold PS
  generalize p.length = n1 at *
  generalize r.length = n2 at *
  generalize (ptrim (padd p (pneg r))).map rb = L at *
  go_enter Tryz.func178, Tryz.ntmps178
  go_wp2_with fail
  refine h.mono ?_
  rintro e w1 ⟨v, rfl, hv, hE⟩
  have HV := Lib.hid hv
  clear h hv
  go_wp2_with fail
  go_ret
  exact ⟨_, rfl, HV.out, hE⟩
end Go.Proofs.YtadimepmoljnpaaGreatDoor.GB

namespace Go.Proofs.YtadimepmoljnpaaGreatDoor.GB
set_option linter.unusedVariables false
set_option linter.unusedSimpArgs false
open Go.RowKit Go.Shelf
attribute [local go_sem ↓] Go.wp_at_zero Go.wp_at_succ

theorem madeS (n : Nat) : (madeCells (Value.string ⟨#[]⟩).cells (n * 1)).toList = strs (List.replicate n ⟨#[]⟩) := by
  apply List.ext_getElem
  · simp [madeCells, strs]
  · intro i h1 h2
    simp [madeCells, strs, Value.cells, Nat.mod_one]
theorem OwnS.cellAt {w : World} {base g c : Nat} {l : List ByteArray} (h : OwnS w base (.slice (some ⟨g, 0, none⟩) l.length c) l) (j : Nat) (hj : j < l.length) : w.cell? ⟨g, j, none⟩ = some (.string l[j]) := by
  have := World.ownsRow.cellAt h j (by omega)
  rw [this]; simp [strs, hj]
theorem OwnS.store {w : World} {base g c : Nat} {l : List ByteArray} (h : OwnS w base (.slice (some ⟨g, 0, none⟩) l.length c) l) (j : Nat) (x : ByteArray) :
    OwnS (w.setCell ⟨g, j, none⟩ (.string x)) base (.slice (some ⟨g, 0, none⟩) (l.set j x).length c) (l.set j x) := by
  have := (World.ownsRow.stored h j (.string x)).1
  unfold OwnS
  rw [List.length_set]
  have e : strs (l.set j x) = (strs l).set j (.string x) := by simp [strs, List.map_set]
  rw [e]; exact this
/-- A row of the call's own that holds a polynomial's numbers. -/
def OwnP (w : World) (base g c n : Nat) (O : Pl) : Prop := O.length = n ∧ OwnS w base (.slice (some ⟨g, 0, none⟩) (O.map rb).length c) (O.map rb)
theorem OwnP.ext {w w' : World} {base g c n : Nat} {O : Pl} (h : OwnP w base g c n O) (hE : Ext w w') : OwnP w' base g c n O := ⟨h.1, h.2.ext hE⟩
theorem OwnP.cell {w : World} {base g c n : Nat} {O : Pl} (h : OwnP w base g c n O) (j : Nat) (hj : j < n) : w.cell? ⟨g, j, none⟩ = some (rtx (cf O j)) := by
  have hj' : j < O.length := by rw [h.1]; exact hj
  have := h.2.cellAt j (by simpa using hj')
  rw [this, cf_lt hj']
  simp [rb]
theorem OwnP.froz {w : World} {base g c n : Nat} {O : Pl} (h : OwnP w base g c n O) (j : Nat) : w.frozen? ⟨g, j, none⟩ = false := World.ownsRow.frozenAt h.2 j
theorem OwnP.store {w : World} {base g c n : Nat} {O : Pl} (h : OwnP w base g c n O) (j : Nat) (q : Rat) : OwnP (w.setCell ⟨g, j, none⟩ (rtx q)) base g c n (O.set j q) := by
  refine ⟨by rw [List.length_set]; exact h.1, ?_⟩
  have := h.2.store j (rb q)
  rw [List.map_set]
  exact this
theorem OwnP.ps {w : World} {base g c n : Nat} {O : Pl} (h : OwnP w base g c n O) : PS w (.slice (some ⟨g, 0, none⟩) n c) O := by
  have := h.2.sl
  rwa [List.length_map, h.1] at this
theorem pl_ext {p q : Pl} (hl : p.length = q.length) (h : PE p q) : p = q := by
  apply List.ext_getElem hl
  intro i h1 h2
  have := h i
  rwa [cf_lt h1, cf_lt h2] at this
theorem PS.cell {w : World} {A : Option Addr} {n c : Nat} {p : Pl} (h : PS w (.slice A n c) p) : n = p.length ∧ p.length ≤ c ∧ c ≤ 9223372036854775807 ∧ ∀ k, k < p.length → ∃ b off, A = some ⟨b, off, none⟩ ∧ b < w.heap.size ∧ w.cell? ⟨b, off + k, none⟩ = some (rtx (cf p k)) := by
  obtain ⟨A', c', hv, h1, h2, h3⟩ := h
  injection hv with e1 e2 e3
  subst e1 e3
  rw [List.length_map] at e2 h1
  refine ⟨e2, h1, h2, fun k hk => ?_⟩
  obtain ⟨b, off, e, hb, hc⟩ := h3 k (by simpa using hk)
  exact ⟨b, off, e, hb, by rw [hc, cf_lt hk]; simp [rb]⟩
theorem PS.sl {w : World} {v : Value} {p : Pl} (h : PS w v p) : ∃ A c, v = .slice A p.length c := by
  obtain ⟨A', c', hv, h1, h2, h3⟩ := h
  rw [List.length_map] at hv
  exact ⟨A', c', hv⟩

/-- What the product's rows hold: the sum so far, with its bits. -/
def TB (p r : Pl) (B i k : Nat) (O : Pl) : Prop :=
  PE O (padd (pmul (p.take i) r) (pmul (pmono i (cf p i)) (r.take k))) ∧ (∀ j, j < i + k → Bd (cf O j) ((i + 1) * B)) ∧ (∀ j, i + k ≤ j → Bd (cf O j) (i * B))
theorem TB.row0 {p r : Pl} {B i : Nat} {O : Pl} (h1 : PE O (pmul (p.take i) r)) (h2 : ∀ j, Bd (cf O j) (i * B)) : TB p r B i 0 O := by
  refine ⟨?_, fun j hj => (h2 j).mono (Nat.mul_le_mul_right _ (by omega)), fun j _ => h2 j⟩
  intro t
  rw [cf_padd, h1 t, List.take_zero]
  have := pmul_nil_r (pmono i (cf p i)) t
  rw [this]
  have e : cf ([] : Pl) t = 0 := cf_ge (Nat.zero_le _)
  rw [e]; grind
theorem TB.step {p r : Pl} {B i k m n : Nat} {O : Pl} {y : Rat} (h : TB p r B i k O) (hp : PB p m) (hr : PB r n) (hB : B = m + n + 1) (hl : i + k < O.length) (hy : y = cf O (i + k) + cf p i * cf r k) : TB p r B i (k + 1) (O.set (i + k) y) := by
  obtain ⟨h1, h2, h3⟩ := h
  refine ⟨times_step h1 hl hy, fun j hj => ?_, fun j hj => ?_⟩
  · rw [cf_set _ _ _ _ hl]
    split
    · subst hB
      rw [hy]
      refine ((h3 (i + k) (Nat.le_refl _)).add ((hp.cf i).mul (hr.cf k))).mono ?_
      rw [Nat.add_mul, Nat.one_mul]; omega
    · exact h2 j (by omega)
  · rw [cf_set _ _ _ _ hl, if_neg (by omega)]
    exact h3 j (by omega)
theorem TB.done {p r : Pl} {B i : Nat} {O : Pl} (h : TB p r B i r.length O) (hlen : ∀ j, i + r.length ≤ j → cf O j = 0 ∨ True) : PE O (pmul (p.take (i + 1)) r) ∧ ∀ j, Bd (cf O j) ((i + 1) * B) := by
  obtain ⟨h1, h2, h3⟩ := h
  rw [List.take_length] at h1
  refine ⟨times_row h1 rfl, fun j => ?_⟩
  rcases Nat.lt_or_ge j (i + r.length) with hj | hj
  · exact h2 j hj
  · exact (h3 j hj).mono (Nat.mul_le_mul_right _ (by omega))
theorem cf_rep0 (n j : Nat) : cf (List.replicate n 0) j = 0 := cf_zeros n j
end Go.Proofs.YtadimepmoljnpaaGreatDoor.GB

namespace Go.Proofs.YtadimepmoljnpaaGreatDoor.GB
set_option linter.unusedVariables false
set_option linter.unusedSimpArgs false
open Go.RowKit Go.Shelf
attribute [local go_sem ↓] Go.wp_at_zero Go.wp_at_succ

theorem OwnP.drH {w : World} {base g c n : Nat} {O : Pl} (h : Hid (OwnP w base g c n O)) : Hid (OwnP w.drew base g c n O) := h
/-- Zeros so far. -/
def zfill (N k : Nat) : List ByteArray := List.replicate k ⟨#[48]⟩ ++ List.replicate (N - k) ⟨#[]⟩
theorem zfill_len {N k : Nat} (h : k ≤ N) : (zfill N k).length = N := by unfold zfill; simp; omega
theorem zfill_set {N k : Nat} (h : k < N) : (zfill N k).set k ⟨#[48]⟩ = zfill N (k + 1) := by
  unfold zfill
  rw [List.set_append_right _ _ (by simp)]
  have e : N - k = (N - (k + 1)) + 1 := by omega
  rw [e, List.replicate_succ, List.length_replicate, Nat.sub_self, List.set_cons_zero, List.replicate_succ', List.append_assoc]
  rfl
theorem zfill_end (N : Nat) : zfill N N = (List.replicate N (0 : Rat)).map rb := by
  unfold zfill
  rw [Nat.sub_self, List.map_replicate, rb0]
  simp
set_option maxHeartbeats 4000000 in
set_option maxRecDepth 100000 in
theorem ptimes_some (A B : Option Addr) (ca cb : Nat) (p r : Pl) (m n : Nat) (w : World) (hW : Wd w) (hp0 : 0 < p.length) (hr0 : 0 < r.length) (l1 : p.length ≤ 100000) (l2 : r.length ≤ 100000)
    (hA : PS w (.slice A p.length ca) p) (hB : PS w (.slice B r.length cb) r) (hp : PB p m) (hr : PB r n) (BB' : Nat) (hBB : BB' = m + n + 1) (hk : (p.length + 1) * BB' + (m + n) + 3 ≤ KK) :
    Calls Tryz.prog 73 #[.slice A p.length ca, .slice B r.length cb] w fun e w' => ∃ O : Pl, e = .returned (.slice (some ⟨w.heap.size, 0, none⟩) (p.length + r.length - 1) (p.length + r.length - 1)) ∧ O.length = p.length + r.length - 1 ∧ PE O (pmul p r) ∧ PB O (p.length * BB') ∧ PS w' (.slice (some ⟨w.heap.size, 0, none⟩) (p.length + r.length - 1) (p.length + r.length - 1)) O ∧ Ext w w' := by
  obtain ⟨i0, hi, hz0, hz1, hz2⟩ := info_parts Tryz.infoRat
  obtain ⟨N, hN⟩ : ∃ N, p.length + r.length - 1 = N := ⟨_, rfl⟩
  have hNi : (p.length : Int) + (r.length : Int) - 1 = (N : Int) := by omega
  have hN9 : N ≤ 200000 := by omega
  have HN := Lib.hid hN
  have HK := Lib.hid hk
  have HBB := Lib.hid hBB
  rw [hN]
  have hp0' : ((p.length : Int) == 0) = false := by rw [beq_eq_false_iff_ne]; omega
  have hr0' : ((r.length : Int) == 0) = false := by rw [beq_eq_false_iff_ne]; omega
  have HA := Lib.hid hA
  have HB := Lib.hid hB
  have HW := Lib.hid hW
  have HP := Lib.hid hp
  have HR := Lib.hid hr
  clear hA hB hW hp hr hN hk hBB
  generalize hpl : p.length = pn at *
  generalize hrl : r.length = rn at *
  have HPL := Lib.hid hpl
  have HRL := Lib.hid hrl
  clear hpl hrl
  go_enter Tryz.func73, Tryz.ntmps73
  go_wp2_with (refine wpList_make_full _ rfl _ _ _ rfl w.heap.size 24 i0 (.string ⟨#[]⟩) 1 Tryz.underlying115 hi hz0 hz1 _ _ _ _ N rfl rfl (by simp) (by simp) (by rw [hz2]; omega) (by unfold maxLen; omega) (Nat.le_refl _) ?_; intro w1 hown1 hgrow1)
  clear hNi hp0' hr0'
  have hE1 : Hid (Ext w w1) := (Ext.rfl' w).gr0 hgrow1
  have hO1 : Hid (OwnS w1 w.heap.size (.slice (some ⟨w.heap.size, 0, none⟩) (zfill N 0).length N) (zfill N 0)) := by
    rw [madeS] at hown1
    have e : zfill N 0 = List.replicate N ⟨#[]⟩ := by simp [zfill]
    rw [e]
    simpa [OwnS, Hid] using hown1
  clear hown1 hgrow1
  go_loopw [28] (fun v wr => ∃ k : Nat, k ≤ N ∧ v = .int .i64 k ∧ Hid (OwnS wr w.heap.size (.slice (some ⟨w.heap.size, 0, none⟩) (zfill N k).length N) (zfill N k)) ∧ Hid (Ext w wr)) (fun v _ => N - (intOf v).toNat)
  case atStart => exact ⟨0, Nat.zero_le _, rfl, hO1, hE1⟩
  case round =>
    obtain ⟨k, hk, rfl, HO, HE⟩ := hrel
    clear hO1 hE1
    by_cases hlt : k < N
    · have hzl : (zfill N k).length = N := zfill_len hk
      have hck := HO.out.cellAt k (by rw [hzl]; exact hlt)
      have hfk : wr.frozen? ⟨w.heap.size, k, none⟩ = false := World.ownsRow.frozenAt HO.out k
      generalize (zfill N k)[k]'(by rw [hzl]; exact hlt) = s0 at hck
      have HO2 := Lib.hid (HO.out.store k ⟨#[48]⟩)
      rw [zfill_set hlt] at HO2
      clear hzl
      go_wp2
      go_roundw
      case rel => exact ⟨k + 1, by omega, by go_num, HO2, HE.out.setCell (Nat.le_refl _) _⟩
      case measure => simp [intOf]; omega
    · have hke : k = N := by omega
      have HO3 : Hid (OwnP wr w.heap.size w.heap.size N N (List.replicate N 0)) := by
        refine ⟨by simp, ?_⟩
        have := HO.out
        rw [hke, zfill_end] at this
        exact this
      have HTs : Hid (PE (List.replicate N 0) (pmul (p.take 0) r) ∧ ∀ j, Bd (cf (List.replicate N 0) j) (0 * BB')) := by
        refine ⟨fun j => ?_, fun j => ?_⟩
        · rw [cf_rep0, List.take_zero]; exact (cf_ge (Nat.zero_le _)).symm
        · rw [cf_rep0]; exact (Bd.of_int 0 0 (by decide)).mono (Nat.zero_le _)
      clear hke HO
      obtain ⟨wz, hwz⟩ : ∃ wz : World, wz = wr := ⟨_, rfl⟩
      subst hwz
      go_wp2
      go_loopw [37] (fun v wr => ∃ (i : Nat) (O : Pl), i ≤ pn ∧ v = .int .i64 i ∧ Hid (PE O (pmul (p.take i) r) ∧ ∀ j, Bd (cf O j) (i * BB')) ∧ Hid (OwnP wr w.heap.size w.heap.size N N O) ∧ Hid (Ext w wr)) (fun v _ => pn - (intOf v).toNat)
      case atStart => exact ⟨0, _, Nat.zero_le _, rfl, HTs, HO3, HE⟩
      case round =>
        obtain ⟨i, O, hi1, rfl, HT, HO, HE⟩ := hrel
        clear HTs HO3
        by_cases hlti : i < pn
        · obtain ⟨-, -, -, hcp⟩ := (HA.out.ext HE.out).cell
          obtain ⟨ba, fa, rfl, hba, hca⟩ := hcp i (by rw [HPL.out]; exact hlti)
          clear hcp
          have hbx := HP.out.cf i
          generalize hx : cf p i = x at hca hbx
          have HX := Lib.hid hx
          have HTB : Hid (TB p r BB' i 0 O) := TB.row0 HT.out.1 HT.out.2
          clear hx
          obtain ⟨wo, hwo⟩ : ∃ wo : World, wo = wr := ⟨_, rfl⟩
          subst hwo
          go_wp2
          go_loopw [44] (fun v wr => ∃ (k : Nat) (O : Pl), k ≤ rn ∧ v = .int .i64 k ∧ Hid (TB p r BB' i k O) ∧ Hid (OwnP wr w.heap.size w.heap.size N N O) ∧ Hid (Ext w wr)) (fun v _ => rn - (intOf v).toNat)
          case atStart => exact ⟨0, O, Nat.zero_le _, rfl, HTB, HO, HE⟩
          case round =>
            clear HT HTB HO HE O hba hca
            obtain ⟨k, O, hk1, rfl, HT, HO, HE⟩ := hrel
            by_cases hltk : k < rn
            · obtain ⟨-, -, -, hcr⟩ := (HB.out.ext HE.out).cell
              obtain ⟨bb, fb, rfl, hbb, hcb⟩ := hcr k (by rw [HRL.out]; exact hltk)
              clear hcr
              have hby := HR.out.cf k
              generalize hy : cf r k = y at hcb hby
              have HY := Lib.hid hy
              have hik : i + k < N := by have := HN.out; omega
              have hcc := HO.out.cell (i + k) hik
              have hbP := HT.out.2.2 (i + k) (Nat.le_refl _)
              generalize hP : cf O (i + k) = P at hcc hbP
              have HPe := Lib.hid hP
              have hib : i * BB' ≤ pn * BB' := Nat.mul_le_mul_right _ hi1
              have hpb : (pn + 1) * BB' = pn * BB' + BB' := Nat.succ_mul _ _
              have hkk := HK.out
              have hbb := HBB.out
              have hM := fun W (hw : Wd W) => pmul_q x y m n W hw hbx hby (by omega)
              have hAd := fun W (hw : Wd W) => padd_q P (x * y) (i * BB') (m + n) W hw hbP (hbx.mul hby) (by omega)
              clear hy hP hib hpb hkk hbb
              have hs1 : IntKind.i64.wrap ((i : Int) + (k : Int)) = (i : Int) + (k : Int) := by rw [IntKind.wrap_i64]; omega
              have hs2 : 0 ≤ (i : Int) + (k : Int) := by omega
              have hs3 : ((i : Int) + (k : Int)).toNat = i + k := by omega
              have hs4 : (i : Int) + (k : Int) < (N : Int) := by omega
              have hs5 : (i : Int) + (k : Int) ≤ (N : Int) := by omega
              have HW1 : Hid (Wd wr.drew) := HW.out.ext (Ext.dr' HE)
              generalize hz : x * y = z at hM hAd
              have HZ := Lib.hid hz
              clear hz
              go_wp2_with fail
              go_region_with (first
                  | (go_at_call 68; (with_reducible refine (hM _ HW1.out).mono ?_); rintro e w2 ⟨rfl, hE2⟩; have q0 := Ext.cellD hE2 hcc; have HO2 := Lib.hid (OwnP.ext (OwnP.drH HO).out hE2); have HE2 := Lib.hid ((Ext.dr' HE).tr hE2); have HW2 := Lib.hid (Wd.ext HW1.out hE2); clear hE2)
                  | (go_at_call 67; (with_reducible refine (hAd _ HW2.out).mono ?_); rintro e w3 ⟨rfl, hE3⟩; have t0 := Ext.cellH hE3 q0; have HO3 := Lib.hid (OwnP.ext HO2.out hE3); have HE3 := Lib.hid (HE2.out.tr hE3); have f0 := OwnP.froz HO3.out (i + k); clear hE3))
              all_goals
                clear hM hAd
                have HT2 := Lib.hid (HT.out.step HP.out HR.out HBB.out (by rw [HO.out.1]; exact hik) (show P + z = cf O (i + k) + cf p i * cf r k from by rw [HPe.out, HX.out, HY.out, HZ.out]))
                have HO4 := Lib.hid (HO3.out.store (i + k) (P + z))
                go_wp2
                go_roundw
                case rel => exact ⟨k + 1, _, by omega, by go_num, HT2, HO4, HE3.out.setCell (Nat.le_refl _) _⟩
                case measure => simp [intOf]; omega
            · have hke : k = rn := by omega
              have HT2 : Hid (PE O (pmul (p.take (i + 1)) r) ∧ ∀ j, Bd (cf O j) ((i + 1) * BB')) := by
                have h := HT.out
                rw [hke, ← HRL.out] at h
                exact h.done (fun _ _ => .inr trivial)
              clear hke
              go_wp2
              go_roundw
              case rel => exact ⟨i + 1, O, by omega, by go_num, HT2, HO, HE⟩
              case measure => simp [intOf]; omega
        · have hie : i = pn := by omega
          have HT2 : Hid (PE O (pmul p r)) := by
            have h := HT.out.1
            rw [hie, ← HPL.out, List.take_length] at h
            exact h
          have HT3 : Hid (PB O (pn * BB')) := by
            have h := HT.out.2
            rw [hie] at h
            exact PB.of_cf h
          clear hie
          go_wp2
          go_ret
          exact ⟨O, rfl, HO.out.1, HT2.out, HT3.out, HO.out.ps, HE.out⟩
set_option maxHeartbeats 1000000 in
set_option maxRecDepth 100000 in
theorem ptimes_nil (A B : Option Addr) (ca cb pn rn : Nat) (w : World) (h : pn = 0 ∨ rn = 0) :
    Calls Tryz.prog 73 #[.slice A pn ca, .slice B rn cb] w fun e w' => e = .returned (.slice none 0 0) ∧ w = w' := by
  by_cases h0 : pn = 0
  · subst h0
    clear h
    go_enter Tryz.func73, Tryz.ntmps73
    go_wp2_with fail
    go_ret
    exact ⟨rfl, rfl⟩
  · obtain rfl : rn = 0 := by omega
    have hp0' : ((pn : Int) == 0) = false := by rw [beq_eq_false_iff_ne]; omega
    clear h h0
    go_enter Tryz.func73, Tryz.ntmps73
    go_wp2_with fail
    go_ret
    exact ⟨rfl, rfl⟩
theorem PS.nil (w : World) : PS w (.slice none 0 0) [] := SlS.nil w
/-- The call hands back a polynomial's numbers. -/
def RetP (w : World) (q : Pl) (e : Ending) (w' : World) : Prop := ∃ v, e = .returned v ∧ PS w' v q ∧ Ext w w'
theorem PB.trim {p : Pl} {n : Nat} (h : ∀ j, Bd (GB.cf p j) n) : PB (ptrim p) n := PB.of_cf fun j => by rw [cf_ptrim p j]; exact h j
end Go.Proofs.YtadimepmoljnpaaGreatDoor.GB

namespace Go.Proofs.YtadimepmoljnpaaGreatDoor.GB
set_option linter.unusedVariables false
set_option linter.unusedSimpArgs false
open Go.RowKit Go.Shelf
attribute [local go_sem ↓] Go.wp_at_zero Go.wp_at_succ

/-- A row of texts, known whole. -/
def AtS (w : World) (g c : Nat) (l : List ByteArray) : Prop := OwnS w 0 (.slice (some ⟨g, 0, none⟩) l.length c) l
theorem AtS.ext {w w' : World} {g c : Nat} {l : List ByteArray} (h : AtS w g c l) (hE : Ext w w') : AtS w' g c l := OwnS.ext h hE
theorem AtS.cell {w : World} {g c : Nat} {l : List ByteArray} (h : AtS w g c l) (j : Nat) (hj : j < l.length) : w.cell? ⟨g, j, none⟩ = some (.string l[j]) := OwnS.cellAt h j hj
theorem AtS.froz {w : World} {g c : Nat} {l : List ByteArray} (h : AtS w g c l) (j : Nat) : w.frozen? ⟨g, j, none⟩ = false := World.ownsRow.frozenAt h j
theorem AtS.store {w : World} {g c : Nat} {l : List ByteArray} (h : AtS w g c l) (j : Nat) (x : ByteArray) : AtS (w.setCell ⟨g, j, none⟩ (.string x)) g c (l.set j x) := OwnS.store h j x
theorem AtS.far {w : World} {g c g' : Nat} {l : List ByteArray} (h : AtS w g c l) (hne : g ≠ g') (j : Nat) (x : Value) : AtS (w.setCell ⟨g', j, none⟩ x) g c l := by
  refine World.ownsRow.kept h (row := some g') ?_ (.inr (by simp [Value.ownBlock]; exact hne))
  exact ⟨rfl, rfl, rfl, by simp [World.setCell], fun i hi hne' => Below.heap_setCell _ _ _ _ (by simpa using hne')⟩
theorem OwnS.at_ {w : World} {base : Nat} {v : Value} {l : List ByteArray} (h : OwnS w base v l) (hne : 0 < l.length) : ∃ g c, v = .slice (some ⟨g, 0, none⟩) l.length c ∧ base ≤ g ∧ g < w.heap.size ∧ AtS w g c l := by
  rcases h.2 with ⟨_, h0⟩ | ⟨g, cap, cur, rfl, hg, hh, h1, h2, h3, h4⟩
  · omega
  · exact ⟨g, cap, rfl, hg, (Array.getElem?_eq_some_iff.1 hh).1, h.1, .inr ⟨g, cap, cur, rfl, Nat.zero_le _, hh, h1, h2, h3, h4⟩⟩
theorem AtS.sl {w : World} {g c : Nat} {l : List ByteArray} (h : AtS w g c l) : SlS w (.slice (some ⟨g, 0, none⟩) l.length c) l := OwnS.sl h
/-- A row of numbers. -/
def AtP (w : World) (g c n : Nat) (R : Pl) : Prop := R.length = n ∧ AtS w g c (R.map rb)
theorem AtP.ext {w w' : World} {g c n : Nat} {R : Pl} (h : AtP w g c n R) (hE : Ext w w') : AtP w' g c n R := ⟨h.1, h.2.ext hE⟩
theorem AtP.drH {w : World} {g c n : Nat} {R : Pl} (h : Hid (AtP w g c n R)) : Hid (AtP w.drew g c n R) := h
theorem AtP.cell {w : World} {g c n : Nat} {R : Pl} (h : AtP w g c n R) (j : Nat) (hj : j < n) : w.cell? ⟨g, j, none⟩ = some (rtx (cf R j)) := by
  have hj' : j < R.length := by rw [h.1]; exact hj
  have := h.2.cell j (by simpa using hj')
  rw [this, cf_lt hj']; simp [rb]
theorem AtP.froz {w : World} {g c n : Nat} {R : Pl} (h : AtP w g c n R) (j : Nat) : w.frozen? ⟨g, j, none⟩ = false := h.2.froz j
theorem AtP.store {w : World} {g c n : Nat} {R : Pl} (h : AtP w g c n R) (j : Nat) (q : Rat) : AtP (w.setCell ⟨g, j, none⟩ (rtx q)) g c n (R.set j q) := by
  refine ⟨by rw [List.length_set]; exact h.1, ?_⟩
  have := h.2.store j (rb q)
  rw [List.map_set]
  exact this
theorem AtP.far {w : World} {g c n g' : Nat} {R : Pl} (h : AtP w g c n R) (hne : g ≠ g') (j : Nat) (x : Value) : AtP (w.setCell ⟨g', j, none⟩ x) g c n R := ⟨h.1, h.2.far hne j x⟩
theorem AtP.ps {w : World} {g c n : Nat} {R : Pl} (h : AtP w g c n R) : PS w (.slice (some ⟨g, 0, none⟩) n c) R := by
  have := h.2.sl
  rwa [List.length_map, h.1] at this
/-- The quotient so far: the numbers from k on. -/
def qf (Q : Pl) (k : Nat) : List ByteArray := List.replicate k ⟨#[]⟩ ++ (Q.drop k).map rb
theorem qf_len {Q : Pl} {k : Nat} (h : k ≤ Q.length) : (qf Q k).length = Q.length := by unfold qf; simp; omega
theorem qf_set {Q : Pl} {k : Nat} {f : Rat} (h : k < Q.length) : (qf Q (k + 1)).set k (rb f) = qf (Q.set k f) k := by
  unfold qf
  rw [List.replicate_succ', List.append_assoc, List.set_append_right _ _ (by simp)]
  rw [List.length_replicate, Nat.sub_self, List.singleton_append, List.set_cons_zero]
  congr 1
  rw [List.map_drop, List.map_drop, List.map_set]
  have hk : k < (Q.map rb).length := by simpa using h
  generalize Q.map rb = L at *
  rw [List.drop_set, if_neg (by omega), Nat.sub_self]
  rw [List.drop_eq_getElem_cons hk, List.set_cons_zero]
theorem qf_zero (Q : Pl) : qf Q 0 = Q.map rb := by unfold qf; simp
def AtQ (w : World) (g n : Nat) (Q : Pl) (k : Nat) : Prop := Q.length = n ∧ k ≤ n ∧ OwnS w 0 (.slice (some ⟨g, 0, none⟩) n n) (qf Q k)
theorem AtQ.at_ {w : World} {g n : Nat} {Q : Pl} {k : Nat} (h : AtQ w g n Q k) : AtS w g n (qf Q k) := by
  unfold AtS; rw [qf_len (by rw [h.1]; exact h.2.1), h.1]; exact h.2.2
theorem AtQ.ext {w w' : World} {g n : Nat} {Q : Pl} {k : Nat} (h : AtQ w g n Q k) (hE : Ext w w') : AtQ w' g n Q k := ⟨h.1, h.2.1, h.2.2.ext hE⟩
theorem AtQ.drH {w : World} {g n : Nat} {Q : Pl} {k : Nat} (h : Hid (AtQ w g n Q k)) : Hid (AtQ w.drew g n Q k) := h
theorem AtQ.cell {w : World} {g n : Nat} {Q : Pl} {k : Nat} (h : AtQ w g n Q k) (hk : k < n) : w.cell? ⟨g, k, none⟩ = some (rtx (cf Q k)) := by
  have hl := qf_len (Q := Q) (k := k) (by rw [h.1]; exact h.2.1)
  have hkQ : k < Q.length := by rw [h.1]; exact hk
  rw [h.at_.cell k (by rw [hl]; exact hkQ), cf_lt hkQ]
  simp only [qf]
  rw [List.getElem_append_right (by simp)]
  simp [rb]
theorem AtQ.cell' {w : World} {g n : Nat} {Q : Pl} {k j : Nat} (h : AtQ w g n Q k) (hj : j < n) : ∃ s, w.cell? ⟨g, j, none⟩ = some (.string s) := by
  have hl := qf_len (Q := Q) (k := k) (by rw [h.1]; exact h.2.1)
  exact ⟨_, h.at_.cell j (by rw [hl, h.1]; exact hj)⟩
theorem AtQ.froz {w : World} {g n : Nat} {Q : Pl} {k : Nat} (h : AtQ w g n Q k) (j : Nat) : w.frozen? ⟨g, j, none⟩ = false := h.at_.froz j
theorem AtQ.far {w : World} {g n g' : Nat} {Q : Pl} {k : Nat} (h : AtQ w g n Q k) (hne : g ≠ g') (j : Nat) (x : Value) : AtQ (w.setCell ⟨g', j, none⟩ x) g n Q k := by
  refine ⟨h.1, h.2.1, ?_⟩
  have := h.at_.far hne j x
  unfold AtS at this
  rwa [qf_len (by rw [h.1]; exact h.2.1), h.1] at this
theorem AtQ.store {w : World} {g n : Nat} {Q : Pl} {k : Nat} (h : AtQ w g n Q (k + 1)) (f : Rat) : AtQ (w.setCell ⟨g, k, none⟩ (rtx f)) g n (Q.set k f) k := by
  have hk : k < Q.length := by rw [h.1]; exact h.2.1
  refine ⟨by rw [List.length_set]; exact h.1, Nat.le_of_succ_le h.2.1, ?_⟩
  have := h.at_.store k (rb f)
  rw [qf_set hk] at this
  unfold AtS at this
  rwa [qf_len (by rw [List.length_set]; omega), List.length_set, h.1] at this
theorem AtQ.atP {w : World} {g n : Nat} {Q : Pl} (h : AtQ w g n Q 0) : AtP w g n n Q := by
  refine ⟨h.1, ?_⟩
  have := h.at_
  rwa [qf_zero] at this

/-- Numbers over one denominator. -/
def CB (p : Pl) (n : Nat) : Prop := ∃ D : Nat, 0 < D ∧ D ≤ 2 ^ n ∧ ∀ i, ∃ z : Int, cf p i * (D : Rat) = (z : Rat) ∧ z.natAbs < 2 ^ n
theorem ratnz {D : Nat} (h : 0 < D) : (D : Rat) ≠ 0 := by
  intro e
  have : (D : Rat) = ((0 : Nat) : Rat) := e
  have := Rat.natCast_inj.1 this
  omega
theorem CB.bd {p : Pl} {n : Nat} (h : CB p n) (i : Nat) : Bd (cf p i) n := by
  obtain ⟨D, h0, h1, h2⟩ := h
  obtain ⟨z, hz, hl⟩ := h2 i
  have hd := ratnz h0
  have e : cf p i = mkRat z D := by
    rw [Rat.mkRat_eq_div, ← hz]
    show _ = _ * (D : Rat) / (D : Rat)
    grind
  rw [e]; exact Bd.of_mkRat (by omega) hl h1
theorem CB.pb {p : Pl} {n : Nat} (h : CB p n) : PB p n := PB.of_cf h.bd
theorem CB.mono {p : Pl} {m n : Nat} (h : CB p m) (hm : m ≤ n) : CB p n := by
  obtain ⟨D, h0, h1, h2⟩ := h
  have hp : 2 ^ m ≤ 2 ^ n := Nat.pow_le_pow_right (by omega) hm
  refine ⟨D, h0, Nat.le_trans h1 hp, fun i => ?_⟩
  obtain ⟨z, hz, hl⟩ := h2 i
  exact ⟨z, hz, Nat.lt_of_lt_of_le hl hp⟩
theorem CB.congr {p q : Pl} {n : Nat} (h : CB p n) (e : PE q p) : CB q n := by
  obtain ⟨D, h0, h1, h2⟩ := h
  refine ⟨D, h0, h1, fun i => ?_⟩
  rw [e i]; exact h2 i
theorem CB.nil (n : Nat) : CB [] n := by
  refine ⟨1, by decide, Nat.two_pow_pos n, fun i => ⟨0, ?_, Nat.two_pow_pos n⟩⟩
  rw [cf_ge (Nat.zero_le _), Rat.zero_mul]; rfl
theorem CB.cons {c : Rat} {p : Pl} {m n : Nat} (hc : Bd c m) (h : CB p n) : CB (c :: p) (m + n) := by
  obtain ⟨D, h0, h1, h2⟩ := h
  have hd := ratnz c.den_pos
  have hcd : (c.num : Rat) / ((c.den : Nat) : Rat) = c := by
    have h := Rat.mkRat_eq_div c.num c.den
    rw [Rat.mkRat_self] at h
    exact h.symm
  have e0 : ((c.den * D : Nat) : Rat) = (c.den : Rat) * (D : Rat) := Rat.natCast_mul _ _
  refine ⟨c.den * D, Nat.mul_pos c.den_pos h0, by rw [Nat.pow_add]; exact Nat.mul_le_mul hc.2 h1, fun i => ?_⟩
  cases i with
  | zero =>
    refine ⟨c.num * (D : Int), ?_, ?_⟩
    · rw [cf_zero, e0, Rat.intCast_mul]
      show c * ((c.den : Rat) * (D : Rat)) = (c.num : Rat) * (D : Rat)
      have e1 : c * (c.den : Rat) = (c.num : Rat) := by
        have e2 : (c.num : Rat) / (c.den : Rat) * (c.den : Rat) = (c.num : Rat) := by grind
        rw [hcd] at e2; exact e2
      rw [← e1]; grind
    · rw [Int.natAbs_mul, Int.natAbs_natCast, Nat.pow_add]
      exact Nat.mul_lt_mul_of_lt_of_le hc.1 h1 (Nat.lt_of_lt_of_le h0 h1)
  | succ i =>
    obtain ⟨z, hz, hl⟩ := h2 i
    refine ⟨(c.den : Int) * z, ?_, ?_⟩
    · rw [cf_succ, e0, Rat.intCast_mul, ← hz]
      show _ = (c.den : Rat) * _
      grind
    · rw [Int.natAbs_mul, Int.natAbs_natCast, Nat.pow_add]
      exact Nat.mul_lt_mul_of_le_of_lt hc.2 hl (Nat.lt_of_lt_of_le c.den_pos hc.2)
theorem CB.of_pb {p : Pl} {n : Nat} (h : PB p n) : CB p (p.length * n) := by
  induction p with
  | nil => exact CB.nil _
  | cons c p ih =>
    have h1 := CB.cons (h c (by simp)) (ih fun q hq => h q (by simp [hq]))
    exact h1.mono (by rw [List.length_cons, Nat.succ_mul]; omega)
theorem sgn_abs (z : Int) : ∃ s : Int, s.natAbs = 1 ∧ ((z.natAbs : Nat) : Rat) = (s : Rat) * (z : Rat) := by
  by_cases h : 0 ≤ z
  · refine ⟨1, rfl, ?_⟩
    have e : ((z.natAbs : Nat) : Int) = 1 * z := by omega
    rw [← Rat.intCast_mul, ← e]; rfl
  · refine ⟨-1, rfl, ?_⟩
    have e : ((z.natAbs : Nat) : Int) = -1 * z := by omega
    rw [← Rat.intCast_mul, ← e]; rfl
theorem nz_of {c : Rat} {D : Nat} {z : Int} (hc : c ≠ 0) (h0 : 0 < D) (hz : c * (D : Rat) = (z : Rat)) : z ≠ 0 := by
  intro e
  rw [e] at hz
  have hd := ratnz h0
  rcases Rat.mul_eq_zero.1 (show c * (D : Rat) = 0 from hz) with h | h
  · exact hc h
  · exact hd h
/-- The leading coefficient made 1. -/
theorem CB.mon {p : Pl} {n : Nat} (tp : Tr p) (h : CB p n) : CB (psc (1 / lead p) p) n := by
  by_cases hp : p = []
  · subst hp; exact CB.nil n
  have hl := lead_ne tp hp
  obtain ⟨D, h0, h1, h2⟩ := h
  obtain ⟨y, hy, hyl⟩ := h2 (p.length - 1)
  have hy' : lead p * (D : Rat) = (y : Rat) := hy
  have hyz := nz_of hl h0 hy'
  obtain ⟨s, hs1, hs2⟩ := sgn_abs y
  refine ⟨y.natAbs, by omega, Nat.le_of_lt hyl, fun i => ?_⟩
  obtain ⟨z, hz, hzl⟩ := h2 i
  refine ⟨s * z, ?_, by rw [Int.natAbs_mul, hs1, Nat.one_mul]; exact hzl⟩
  rw [cf_psc, hs2, Rat.intCast_mul, ← hz, ← hy']
  grind
/-- One step of a division. -/
theorem CB.step {R r R' : Pl} {a j n m : Nat} {f : Rat} (h : CB R n) (hr : CB r m) (hl0 : lead r ≠ 0) (hf : f = cf R a / lead r) :
    Bd f (n + m) ∧ (PE R' (padd R (pmul (pmono j (-f)) r)) → CB R' (n + m + 1)) := by
  obtain ⟨D, h0, h1, h2⟩ := h
  obtain ⟨E, k0, k1, k2⟩ := hr
  obtain ⟨za, hza, hzal⟩ := h2 a
  obtain ⟨zl, hzl, hzll⟩ := k2 (r.length - 1)
  have hzl' : lead r * (E : Rat) = (zl : Rat) := hzl
  have hnz := nz_of hl0 k0 hzl'
  obtain ⟨s, hs1, hs2⟩ := sgn_abs zl
  have hfl : f * lead r = cf R a := by rw [hf]; grind
  have hk : f * ((zl : Rat) * (D : Rat)) = (za : Rat) * (E : Rat) := by rw [← hzl', ← hza, ← hfl]; grind
  have hnat : 0 < zl.natAbs := by omega
  have e0 : ((zl.natAbs * D : Nat) : Rat) = (zl.natAbs : Rat) * (D : Rat) := Rat.natCast_mul _ _
  have hpos : 0 < zl.natAbs * D := Nat.mul_pos hnat h0
  have hle : zl.natAbs * D ≤ 2 ^ (n + m) := by rw [Nat.pow_add, Nat.mul_comm]; exact Nat.mul_le_mul h1 (Nat.le_of_lt hzll)
  have hlt : za.natAbs * E < 2 ^ (n + m) := by rw [Nat.pow_add]; exact Nat.mul_lt_mul_of_lt_of_le hzal k1 (Nat.two_pow_pos m)
  constructor
  · have e : f = mkRat (s * (za * (E : Int))) (zl.natAbs * D) := by
      rw [Rat.mkRat_eq_div]
      have hnz2 := ratnz hpos
      have e2 : f * ((zl.natAbs * D : Nat) : Rat) = ((s * (za * (E : Int)) : Int) : Rat) := by
        rw [e0, hs2, Rat.intCast_mul, Rat.intCast_mul]
        show f * ((s : Rat) * (zl : Rat) * (D : Rat)) = (s : Rat) * ((za : Rat) * (E : Rat))
        rw [← hk]; grind
      rw [← e2]
      show _ = f * ((zl.natAbs * D : Nat) : Rat) / ((zl.natAbs * D : Nat) : Rat)
      grind
    rw [e]
    refine Bd.of_mkRat (by omega) ?_ hle
    rw [Int.natAbs_mul, hs1, Nat.one_mul, Int.natAbs_mul, Int.natAbs_natCast]; exact hlt
  · intro h'
    have hp2 : 2 ^ (n + m + 1) = 2 ^ (n + m) + 2 ^ (n + m) := by rw [Nat.pow_succ]; omega
    refine ⟨zl.natAbs * D, hpos, by omega, fun x => ?_⟩
    obtain ⟨z, hz, hzb⟩ := h2 x
    have hy : ∃ y : Int, cf (pmul (pmono j (-f)) r) x * ((E : Rat)) = -f * (y : Rat) ∧ y.natAbs < 2 ^ m := by
      rw [cf_mono_mul]
      by_cases hx : x < j
      · refine ⟨0, ?_, Nat.two_pow_pos m⟩
        rw [if_pos hx]
        show (0 : Rat) * _ = -f * 0
        grind
      · obtain ⟨y, hy, hyl⟩ := k2 (x - j)
        refine ⟨y, ?_, hyl⟩
        rw [if_neg hx, ← hy]; grind
    obtain ⟨y, hy, hyl⟩ := hy
    refine ⟨s * (z * zl - za * y), ?_, ?_⟩
    · rw [h' x, cf_padd, e0, hs2, Rat.intCast_mul, Rat.intCast_sub, Rat.intCast_mul, Rat.intCast_mul, ← hz]
      have hE := ratnz k0
      generalize cf (pmul (pmono j (-f)) r) x = c at *
      generalize cf R x = u at *
      have e3 : c * ((zl : Rat) * (D : Rat)) = -((za : Rat) * (y : Rat)) := by
        have e4 : c * ((zl : Rat) * (D : Rat)) * (E : Rat) = -((za : Rat) * (y : Rat)) * (E : Rat) := by
          have : c * ((zl : Rat) * (D : Rat)) * (E : Rat) = (c * (E : Rat)) * ((zl : Rat) * (D : Rat)) := by grind
          rw [this, hy]
          have : -f * (y : Rat) * ((zl : Rat) * (D : Rat)) = -(f * ((zl : Rat) * (D : Rat))) * (y : Rat) := by grind
          rw [this, hk]; grind
        grind
      grind
    · rw [Int.natAbs_mul, hs1, Nat.one_mul]
      have b1 : (z * zl).natAbs < 2 ^ (n + m) := by rw [Int.natAbs_mul, Nat.pow_add]; exact Nat.mul_lt_mul_of_lt_of_le hzb (Nat.le_of_lt hzll) (Nat.two_pow_pos m)
      have b2 : (za * y).natAbs < 2 ^ (n + m) := by rw [Int.natAbs_mul, Nat.pow_add]; exact Nat.mul_lt_mul_of_lt_of_le hzal (Nat.le_of_lt hyl) (Nat.two_pow_pos m)
      omega
/-- The bits behind some steps of a division. -/
def cdB (n m s : Nat) : Nat := n + s * (m + 1)
theorem cdB_succ (n m s : Nat) : cdB n m (s + 1) = cdB n m s + m + 1 := by unfold cdB; rw [Nat.succ_mul]; omega
theorem cdB_mono {n m s t : Nat} (h : s ≤ t) : cdB n m s ≤ cdB n m t := by unfold cdB; have := Nat.mul_le_mul_right (m + 1) h; omega
/-- What the loop over the places knows of the sizes. -/
def QB (R Q : Pl) (B : Nat) : Prop := CB R B ∧ ∀ x, Bd (cf Q x) B
theorem QB.start {p : Pl} {n m k : Nat} (h : CB p n) : QB p (List.replicate k 0) (cdB n m 0) := by
  refine ⟨h.mono (by unfold cdB; omega), fun x => ?_⟩
  rw [cf_zeros]; exact (Bd.of_int 0 0 (by decide)).mono (Nat.zero_le _)
theorem QB.step {R Q R' r : Pl} {B1 B2 m k a j : Nat} {f : Rat} (h : QB R Q B1) (hr : CB r m) (hl0 : lead r ≠ 0) (hf : f = cf R a / lead r) (h' : PE R' (padd R (pmul (pmono j (-f)) r))) (hB : B2 = B1 + m + 1) (hk : k < Q.length) : QB R' (Q.set k f) B2 := by
  have hs := h.1.step (R' := R') (j := j) hr hl0 hf
  refine ⟨(hs.2 h').mono (by omega), fun x => ?_⟩
  rw [cf_set _ _ _ _ hk]
  split
  · exact hs.1.mono (by omega)
  · exact (h.2 x).mono (by omega)
/-- Inside a step: the numbers from j + i on are as before. -/
def DB (R0 r : Pl) (f : Rat) (j i : Nat) (R : Pl) : Prop :=
  PE R (padd R0 (pmul (pmono j (-f)) (r.take i))) ∧ ∀ x, j + i ≤ x → cf R x = cf R0 x
theorem DB.start {R0 r : Pl} {f : Rat} {j : Nat} : DB R0 r f j 0 R0 := by
  refine ⟨?_, fun x _ => rfl⟩
  intro t
  rw [cf_padd, List.take_zero]
  have := pmul_nil_r (pmono j (-f)) t
  rw [this]
  have e : cf ([] : Pl) t = 0 := cf_ge (Nat.zero_le _)
  rw [e]; grind
theorem DB.step {R0 r : Pl} {f : Rat} {j i : Nat} {R : Pl} {y : Rat} (h : DB R0 r f j i R) (hl : j + i < R.length) (hy : y = cf R (j + i) - f * cf r i) : DB R0 r f j (i + 1) (R.set (j + i) y) := by
  obtain ⟨h1, h3⟩ := h
  refine ⟨times_step h1 hl (by rw [hy]; grind), fun x hx => ?_⟩
  rw [cf_set _ _ _ _ hl, if_neg (by omega)]
  exact h3 x (by omega)
theorem DB.done {R0 r : Pl} {f : Rat} {j : Nat} {R : Pl} (h : DB R0 r f j r.length R) : PE R (padd R0 (pmul (pmono j (-f)) r)) := by
  obtain ⟨h1, h3⟩ := h
  rw [List.take_length] at h1
  exact h1
end Go.Proofs.YtadimepmoljnpaaGreatDoor.GB
