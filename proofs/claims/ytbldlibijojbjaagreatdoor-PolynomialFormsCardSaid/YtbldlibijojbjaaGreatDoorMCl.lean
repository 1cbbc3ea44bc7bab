import Derived.Test.YtbldlibijojbjaaGreatDoorMRo
import Derived.Lib.LazyBuf
namespace Go.Proofs.YtbldlibijojbjaaGreatDoor.GB
set_option linter.unusedVariables false
set_option linter.unusedSimpArgs false
open Go.RowKit Go.Shelf
attribute [local go_sem ↓] Go.wp_at_zero Go.wp_at_succ

theorem Tryz.infoRat : (Tryz.prog.info? 30).map (fun i => (i.zero, i.size, i.bytes)) = some (some (.string ⟨#[]⟩), 1, 16) := by kernel_rfl
theorem strs_one (l : List ByteArray) : ∀ u ∈ strs l, u.oneCell' = true := by
  intro u hu
  obtain ⟨_, _, rfl⟩ := List.mem_map.1 hu
  rfl
/-- The cells behind an address. -/
theorem RdS.cells {w : World} {ad : Addr} {l : List ByteArray} (h : RdS w (some ad) l) : ∀ j u, (strs l)[j]? = some u → w.cell? (ad.add j) = some u := by
  intro j u hu
  obtain ⟨hj, rfl⟩ := List.getElem?_eq_some_iff.1 hu
  have hj' : j < l.length := by simpa [strs] using hj
  obtain ⟨b, off, e, h1, h2⟩ := h j hj'
  cases e
  simp only [Addr.add, strs, List.getElem_map]
  by_cases h0 : j = 0
  · subst h0; simpa using h2
  · rw [if_neg h0]; exact h2
theorem own_grow {w wr w2 : World} {v v' : Value} {l : List ByteArray} {o : Obj} {news : List ByteArray} (HO : OwnS wr w.heap.size v l) (HE : Ext w wr)
    (hown : w2.ownsRow w.heap.size 30 1 v' (l.length + news.length) (strs l ++ strs news)) (hgrow : (wr.alloc o).grownBy w2 v.ownBlock) : OwnS w2 w.heap.size v' (l ++ news) ∧ Ext w w2 := by
  refine ⟨?_, (HE.al o).gr hgrow ?_⟩
  · unfold OwnS
    rw [strs_append, List.length_append]
    exact hown
  · intro k hk
    rcases HO.2 with ⟨rfl, _⟩ | ⟨g, cap, cur, rfl, hb, _⟩
    · simp [Value.ownBlock] at hk
    · have : g = k := by simpa [Value.ownBlock] using hk
      omega
set_option maxHeartbeats 1000000 in
set_option maxRecDepth 100000 in
theorem clone22_nil (c : Nat) (w : World) :
    Calls Tryz.prog 14 #[.slice none 0 c] w fun e w' => e = .returned (.slice none 0 0) ∧ w = w' := by
  have hnil := fun W => Go.run_eql_slice_nil (P := Tryz.prog) W 22 30 none 0 c Tryz.underlying22
  go_enter Tryz.func14, Tryz.ntmps14
  go_wp2_with fail
  go_ret
  exact ⟨rfl, rfl⟩
set_option maxHeartbeats 1000000 in
set_option maxRecDepth 100000 in
theorem clone22_some (ad : Addr) (c : Nat) (l : List ByteArray) (w : World) (hm : l.length ≤ 1000000) (hr : RdS w (some ad) l) :
    Calls Tryz.prog 14 #[.slice (some ad) l.length c] w fun e w' => ∃ v, e = .returned v ∧ OwnS w' w.heap.size v l ∧ Ext w w' := by
  obtain ⟨i0, hi, hz0, hz1, hz2⟩ := info_parts Tryz.infoRat
  have hnil := fun W => Go.run_eql_slice_nil (P := Tryz.prog) W 22 30 (some ad) l.length c Tryz.underlying22
  have hmax : 0 + l.length ≤ maxLen := by unfold maxLen; omega
  have hbig : (0 + l.length) * 16 ≤ 140737488355328 := by omega
  have HO : OwnS (w.alloc (.cells #[] 30)) w.heap.size (.slice (some ⟨w.heap.size, 0, none⟩) 0 0) [] :=
    ⟨rfl, .inr ⟨w.heap.size, 0, #[], rfl, Nat.le_refl _, World.alloc_heap_new w _, Nat.le_refl _, by simp [maxLen], rfl, rfl⟩⟩
  have HE : Ext w (w.alloc (.cells #[] 30)) := (Ext.rfl' w).al _
  have hsrc := (hr.ext HE).cells
  have h1 := strs_one l
  have hlen : (strs l).length = l.length * 1 := by rw [strs_length, Nat.mul_one]
  clear hr
  go_enter Tryz.func14, Tryz.ntmps14
  go_wp2_with (at_builtin; (refine wpList_append_own _ rfl _ _ 22 rfl w.heap.size 30 i0 (.string ⟨#[]⟩) 1 16 Tryz.underlying22 hi hz0 hz1 hz2 rfl (by decide) _ 0 [] rfl HO ad l.length c (strs l) rfl hlen hsrc h1 hmax hbig (by simp) ?_); intro v' w2 hown2 hgrow2 _)
  go_ret
  refine ⟨_, rfl, ?_, HE.gr hgrow2 (fun k hk => by have h9 : w.heap.size = k := Option.some.inj hk; omega)⟩
  unfold OwnS
  simpa using hown2
theorem clone22_v (v : Value) (l : List ByteArray) (w : World) (h : SlS w v l) (hm : l.length ≤ 1000000) :
    Calls Tryz.prog 14 #[v] w fun e w' => ∃ v', e = .returned v' ∧ OwnS w' w.heap.size v' l ∧ Ext w w' := by
  obtain ⟨A, c, rfl, h1, h2, h3⟩ := h
  cases A with
  | none =>
    cases l with
    | nil => exact (clone22_nil c w).mono fun e w' ⟨he, hw⟩ => ⟨_, he, ⟨rfl, .inl ⟨rfl, rfl⟩⟩, hw ▸ Ext.rfl' _⟩
    | cons a l => obtain ⟨b, off, e, _⟩ := h3 0 (by simp); cases e
  | some ad => exact clone22_some ad c l w hm h3
set_option maxHeartbeats 1000000 in
set_option maxRecDepth 100000 in
theorem clone49_nil (c : Nat) (w : World) :
    Calls Tryz.prog 99 #[.slice none 0 c] w fun e w' => e = .returned (.slice none 0 0) ∧ w = w' := by
  have hnil := fun W => Go.run_eql_slice_nil (P := Tryz.prog) W 55 30 none 0 c Tryz.underlying55
  go_enter Tryz.func99, Tryz.ntmps99
  go_wp2_with fail
  go_ret
  exact ⟨rfl, rfl⟩
set_option maxHeartbeats 1000000 in
set_option maxRecDepth 100000 in
theorem clone49_some (ad : Addr) (c : Nat) (l : List ByteArray) (w : World) (hm : l.length ≤ 1000000) (hr : RdS w (some ad) l) :
    Calls Tryz.prog 99 #[.slice (some ad) l.length c] w fun e w' => ∃ v, e = .returned v ∧ OwnS w' w.heap.size v l ∧ Ext w w' := by
  obtain ⟨i0, hi, hz0, hz1, hz2⟩ := info_parts Tryz.infoRat
  have hnil := fun W => Go.run_eql_slice_nil (P := Tryz.prog) W 55 30 (some ad) l.length c Tryz.underlying55
  have hmax : 0 + l.length ≤ maxLen := by unfold maxLen; omega
  have hbig : (0 + l.length) * 16 ≤ 140737488355328 := by omega
  have HO : OwnS (w.alloc (.cells #[] 30)) w.heap.size (.slice (some ⟨w.heap.size, 0, none⟩) 0 0) [] :=
    ⟨rfl, .inr ⟨w.heap.size, 0, #[], rfl, Nat.le_refl _, World.alloc_heap_new w _, Nat.le_refl _, by simp [maxLen], rfl, rfl⟩⟩
  have HE : Ext w (w.alloc (.cells #[] 30)) := (Ext.rfl' w).al _
  have hsrc := (hr.ext HE).cells
  have h1 := strs_one l
  have hlen : (strs l).length = l.length * 1 := by rw [strs_length, Nat.mul_one]
  clear hr
  go_enter Tryz.func99, Tryz.ntmps99
  go_wp2_with (at_builtin; (refine wpList_append_own _ rfl _ _ 55 rfl w.heap.size 30 i0 (.string ⟨#[]⟩) 1 16 Tryz.underlying55 hi hz0 hz1 hz2 rfl (by decide) _ 0 [] rfl HO ad l.length c (strs l) rfl hlen hsrc h1 hmax hbig (by simp) ?_); intro v' w2 hown2 hgrow2 _)
  go_ret
  refine ⟨_, rfl, ?_, HE.gr hgrow2 (fun k hk => by have h9 : w.heap.size = k := Option.some.inj hk; omega)⟩
  unfold OwnS
  simpa using hown2
theorem clone49_v (v : Value) (l : List ByteArray) (w : World) (h : SlS w v l) (hm : l.length ≤ 1000000) :
    Calls Tryz.prog 99 #[v] w fun e w' => ∃ v', e = .returned v' ∧ OwnS w' w.heap.size v' l ∧ Ext w w' := by
  obtain ⟨A, c, rfl, h1, h2, h3⟩ := h
  cases A with
  | none =>
    cases l with
    | nil => exact (clone49_nil c w).mono fun e w' ⟨he, hw⟩ => ⟨_, he, ⟨rfl, .inl ⟨rfl, rfl⟩⟩, hw ▸ Ext.rfl' _⟩
    | cons a l => obtain ⟨b, off, e, _⟩ := h3 0 (by simp); cases e
  | some ad => exact clone49_some ad c l w hm h3
set_option maxHeartbeats 1000000 in
set_option maxRecDepth 100000 in
theorem cloneP_nil (c : Nat) (w : World) :
    Calls Tryz.prog 21 #[.slice none 0 c] w fun e w' => e = .returned (.slice none 0 0) ∧ w = w' := by
  have hnil := fun W => Go.run_eql_slice_nil (P := Tryz.prog) W 25 30 none 0 c Tryz.underlying25
  go_enter Tryz.func21, Tryz.ntmps21
  go_wp2_with fail
  go_ret
  exact ⟨rfl, rfl⟩
set_option maxHeartbeats 1000000 in
set_option maxRecDepth 100000 in
theorem cloneP_some (ad : Addr) (c : Nat) (l : List ByteArray) (w : World) (hm : l.length ≤ 1000000) (hr : RdS w (some ad) l) :
    Calls Tryz.prog 21 #[.slice (some ad) l.length c] w fun e w' => ∃ v, e = .returned v ∧ OwnS w' w.heap.size v l ∧ Ext w w' := by
  obtain ⟨i0, hi, hz0, hz1, hz2⟩ := info_parts Tryz.infoRat
  have hnil := fun W => Go.run_eql_slice_nil (P := Tryz.prog) W 25 30 (some ad) l.length c Tryz.underlying25
  have hmax : 0 + l.length ≤ maxLen := by unfold maxLen; omega
  have hbig : (0 + l.length) * 16 ≤ 140737488355328 := by omega
  have HO : OwnS (w.alloc (.cells #[] 30)) w.heap.size (.slice (some ⟨w.heap.size, 0, none⟩) 0 0) [] :=
    ⟨rfl, .inr ⟨w.heap.size, 0, #[], rfl, Nat.le_refl _, World.alloc_heap_new w _, Nat.le_refl _, by simp [maxLen], rfl, rfl⟩⟩
  have HE : Ext w (w.alloc (.cells #[] 30)) := (Ext.rfl' w).al _
  have hsrc := (hr.ext HE).cells
  have h1 := strs_one l
  have hlen : (strs l).length = l.length * 1 := by rw [strs_length, Nat.mul_one]
  clear hr
  go_enter Tryz.func21, Tryz.ntmps21
  go_wp2_with (at_builtin; (refine wpList_append_own _ rfl _ _ 25 rfl w.heap.size 30 i0 (.string ⟨#[]⟩) 1 16 Tryz.underlying25 hi hz0 hz1 hz2 rfl (by decide) _ 0 [] rfl HO ad l.length c (strs l) rfl hlen hsrc h1 hmax hbig (by simp) ?_); intro v' w2 hown2 hgrow2 _)
  go_ret
  refine ⟨_, rfl, ?_, HE.gr hgrow2 (fun k hk => by have h9 : w.heap.size = k := Option.some.inj hk; omega)⟩
  unfold OwnS
  simpa using hown2
theorem cloneP_v (v : Value) (l : List ByteArray) (w : World) (h : SlS w v l) (hm : l.length ≤ 1000000) :
    Calls Tryz.prog 21 #[v] w fun e w' => ∃ v', e = .returned v' ∧ OwnS w' w.heap.size v' l ∧ Ext w w' := by
  obtain ⟨A, c, rfl, h1, h2, h3⟩ := h
  cases A with
  | none =>
    cases l with
    | nil => exact (cloneP_nil c w).mono fun e w' ⟨he, hw⟩ => ⟨_, he, ⟨rfl, .inl ⟨rfl, rfl⟩⟩, hw ▸ Ext.rfl' _⟩
    | cons a l => obtain ⟨b, off, e, _⟩ := h3 0 (by simp); cases e
  | some ad => exact cloneP_some ad c l w hm h3
end Go.Proofs.YtbldlibijojbjaaGreatDoor.GB

namespace Go.Proofs.YtbldlibijojbjaaGreatDoor.GB
set_option linter.unusedVariables false
set_option linter.unusedSimpArgs false

abbrev Pl := List Rat
def cf (p : Pl) (i : Nat) : Rat := p.getD i 0
def PE (p q : Pl) : Prop := ∀ i, cf p i = cf q i
theorem PE.rfl' (p : Pl) : PE p p := fun _ => rfl
theorem PE.symm {p q : Pl} (h : PE p q) : PE q p := fun i => (h i).symm
theorem PE.trans {p q r : Pl} (h : PE p q) (k : PE q r) : PE p r := fun i => (h i).trans (k i)
@[simp] theorem cf_nil (i : Nat) : cf [] i = 0 := by simp [cf]
@[simp] theorem cf_zero (x : Rat) (p : Pl) : cf (x :: p) 0 = x := by simp [cf]
@[simp] theorem cf_succ (x : Rat) (p : Pl) (i : Nat) : cf (x :: p) (i + 1) = cf p i := by simp [cf]
theorem cf_lt {p : Pl} {i : Nat} (h : i < p.length) : cf p i = p[i] := by simp [cf, h]
theorem cf_ge {p : Pl} {i : Nat} (h : p.length ≤ i) : cf p i = 0 := by simp [cf, h]
theorem PE.cons {x : Rat} {p q : Pl} (h : PE p q) : PE (x :: p) (x :: q) := fun i => by cases i <;> simp [h _]
theorem PE.tail {x y : Rat} {p q : Pl} (h : PE (x :: p) (y :: q)) : x = y ∧ PE p q := ⟨by simpa using h 0, fun i => by simpa using h (i + 1)⟩

/-! ### Without zeros at the end -/
def ptrim : Pl → Pl
  | [] => []
  | x :: p => match ptrim p with
    | [] => if x = 0 then [] else [x]
    | q => x :: q
def Tr (p : Pl) : Prop := p.getLast? ≠ some 0
theorem cf_ptrim (p : Pl) : PE (ptrim p) p := by
  induction p with
  | nil => exact PE.rfl' _
  | cons x p ih =>
    rw [ptrim]
    split
    · rename_i h
      rw [h] at ih
      split
      · rename_i h0; subst h0
        intro i; cases i with
        | zero => simp
        | succ i => have := ih i; simpa using this
      · exact PE.cons ih
    · exact PE.cons ih
theorem tr_nil : Tr [] := by simp [Tr]
theorem tr_cons {x : Rat} {p : Pl} (h : Tr (x :: p)) : Tr p := by
  unfold Tr at *; cases p with
  | nil => simp
  | cons y p => rwa [List.getLast?_cons_cons] at h
theorem tr_ptrim (p : Pl) : Tr (ptrim p) := by
  induction p with
  | nil => exact tr_nil
  | cons x p ih =>
    rw [ptrim]
    split
    · split
      · exact tr_nil
      · rename_i h; simp [Tr]; exact h
    · rename_i q hq
      cases hp : ptrim p with
      | nil => exact absurd hp hq
      | cons y q => unfold Tr; rw [List.getLast?_cons_cons, ← hp]; exact ih
theorem tr_zero {p : Pl} (h : Tr p) (h0 : PE p []) : p = [] := by
  induction p with
  | nil => rfl
  | cons x p ih =>
    have h1 := ih (tr_cons h) (fun i => by have := h0 (i + 1); simpa using this)
    subst h1
    have : x = 0 := by simpa using h0 0
    subst this; simp [Tr] at h
theorem tr_ext {p q : Pl} (hp : Tr p) (hq : Tr q) (h : PE p q) : p = q := by
  induction p generalizing q with
  | nil => exact (tr_zero hq h.symm).symm
  | cons x p ih =>
    cases q with
    | nil => exact tr_zero hp h
    | cons y q =>
      obtain ⟨rfl, h2⟩ := h.tail
      rw [ih (tr_cons hp) (tr_cons hq) h2]
theorem ptrim_tr {p : Pl} (h : Tr p) : ptrim p = p := tr_ext (tr_ptrim p) h (cf_ptrim p)
theorem ptrim_eq {p q : Pl} (h : PE p q) : ptrim p = ptrim q := tr_ext (tr_ptrim p) (tr_ptrim q) ((cf_ptrim p).trans (h.trans (cf_ptrim q).symm))
theorem ptrim_len (p : Pl) : (ptrim p).length ≤ p.length := by
  induction p with
  | nil => simp [ptrim]
  | cons x p ih =>
    rw [ptrim]; split
    · split <;> simp
    · simp; exact ih
theorem tr_len {p : Pl} (h : Tr p) (n : Nat) (hz : ∀ i, n ≤ i → cf p i = 0) : p.length ≤ n := by
  rcases Nat.lt_or_ge n p.length with hlt | hge
  · exfalso
    have hne : p ≠ [] := by intro e; subst e; simp at hlt
    have h1 := hz (p.length - 1) (by omega)
    rw [cf_lt (by omega)] at h1
    apply h
    rw [List.getLast?_eq_getElem?, List.getElem?_eq_getElem (by omega), h1]
  · exact hge
theorem tr_lead {p : Pl} (h : Tr p) (hne : p ≠ []) : cf p (p.length - 1) ≠ 0 := by
  have := List.length_pos_iff.2 hne
  intro h0
  have := tr_len h (p.length - 1) (fun i hi => by
    rcases Nat.eq_or_lt_of_le hi with e | e
    · rw [← e]; exact h0
    · exact cf_ge (by omega))
  omega

/-! ### Sums and products -/
def padd : Pl → Pl → Pl
  | [], b => b
  | a, [] => a
  | x :: a, y :: b => (x + y) :: padd a b
theorem cf_padd (a b : Pl) (i : Nat) : cf (padd a b) i = cf a i + cf b i := by
  induction a generalizing b i with
  | nil => cases b <;> simp [padd] <;> grind
  | cons x a ih =>
    cases b with
    | nil => simp [padd]; grind
    | cons y b => cases i <;> simp [padd, ih]
def psc (c : Rat) (p : Pl) : Pl := p.map (c * ·)
theorem cf_psc (c : Rat) (p : Pl) (i : Nat) : cf (psc c p) i = c * cf p i := by
  induction p generalizing i with
  | nil => simp [psc]
  | cons x p ih =>
    cases i with
    | zero => simp [psc]
    | succ i => have := ih i; simp [psc] at this ⊢; exact this
def pneg (p : Pl) : Pl := psc (-1) p
def pmul : Pl → Pl → Pl
  | [], _ => []
  | x :: a, b => padd (psc x b) (0 :: pmul a b)
theorem cf_pmul_zero (x : Rat) (a b : Pl) : cf (pmul (x :: a) b) 0 = x * cf b 0 := by rw [pmul, cf_padd, cf_psc]; simp; grind
theorem cf_pmul_succ (x : Rat) (a b : Pl) (i : Nat) : cf (pmul (x :: a) b) (i + 1) = x * cf b (i + 1) + cf (pmul a b) i := by rw [pmul, cf_padd, cf_psc]; simp
def pev : Pl → Rat → Rat
  | [], _ => 0
  | x :: a, t => x + t * pev a t
theorem pev_nilE {p : Pl} (h : PE p []) (t : Rat) : pev p t = 0 := by
  induction p with
  | nil => rfl
  | cons x p ih =>
    have h0 : x = 0 := by simpa using h 0
    rw [pev, ih (fun i => by have := h (i + 1); simpa using this), h0]; grind
theorem pev_PE {p q : Pl} (h : PE p q) (t : Rat) : pev p t = pev q t := by
  induction p generalizing q with
  | nil => exact (pev_nilE h.symm t).symm
  | cons x p ih =>
    cases q with
    | nil => exact pev_nilE h t
    | cons y q => obtain ⟨rfl, h2⟩ := h.tail; rw [pev, pev, ih h2]
theorem pev_padd (a b : Pl) (t : Rat) : pev (padd a b) t = pev a t + pev b t := by
  induction a generalizing b with
  | nil => simp [padd, pev]; grind
  | cons x a ih =>
    cases b with
    | nil => simp [padd, pev]; grind
    | cons y b => simp [padd, pev, ih]; grind
theorem pev_psc (c : Rat) (p : Pl) (t : Rat) : pev (psc c p) t = c * pev p t := by
  induction p with
  | nil => simp [psc, pev]
  | cons x p ih => simp only [psc, List.map_cons, pev] at ih ⊢; rw [ih]; grind
theorem pev_pmul (a b : Pl) (t : Rat) : pev (pmul a b) t = pev a t * pev b t := by
  induction a with
  | nil => simp [pmul, pev]
  | cons x a ih => rw [pmul, pev_padd, pev_psc, pev, pev, ih]; grind

theorem PE.add {a b c d : Pl} (h : PE a c) (k : PE b d) : PE (padd a b) (padd c d) := fun i => by rw [cf_padd, cf_padd, h, k]
theorem PE.sc {a b : Pl} (c : Rat) (h : PE a b) : PE (psc c a) (psc c b) := fun i => by rw [cf_psc, cf_psc, h]
theorem pmul_zero_l {a : Pl} (h : PE a []) (b : Pl) : PE (pmul a b) [] := by
  induction a with
  | nil => exact PE.rfl' _
  | cons x a ih =>
    have h0 : x = 0 := by simpa using h 0
    have h1 := ih (fun i => by have := h (i + 1); simpa using this)
    intro i; cases i with
    | zero => rw [cf_pmul_zero, h0]; simp
    | succ i => rw [cf_pmul_succ, h0, h1 i]; simp; grind
theorem PE.mul_l {a c : Pl} (h : PE a c) (b : Pl) : PE (pmul a b) (pmul c b) := by
  induction a generalizing c with
  | nil => exact (pmul_zero_l h.symm b).symm
  | cons x a ih =>
    cases c with
    | nil => exact pmul_zero_l h b
    | cons y c =>
      obtain ⟨rfl, h2⟩ := h.tail
      intro i; cases i with
      | zero => rw [cf_pmul_zero, cf_pmul_zero]
      | succ i => rw [cf_pmul_succ, cf_pmul_succ, ih h2 i]
theorem PE.mul_r (a : Pl) {b d : Pl} (h : PE b d) : PE (pmul a b) (pmul a d) := by
  induction a with
  | nil => exact PE.rfl' _
  | cons x a ih =>
    intro i; cases i with
    | zero => rw [cf_pmul_zero, cf_pmul_zero, h]
    | succ i => rw [cf_pmul_succ, cf_pmul_succ, h, ih i]
theorem PE.mul {a b c d : Pl} (h : PE a c) (k : PE b d) : PE (pmul a b) (pmul c d) := (h.mul_l b).trans (PE.mul_r c k)
theorem pmul_nil_r (a : Pl) : PE (pmul a []) [] := by
  induction a with
  | nil => exact PE.rfl' _
  | cons x a ih =>
    intro i; cases i with
    | zero => rw [cf_pmul_zero]; simp
    | succ i => rw [cf_pmul_succ, ih i]; simp; grind
theorem pmul_cons_r (a : Pl) (y : Rat) (b : Pl) : PE (pmul a (y :: b)) (padd (psc y a) (0 :: pmul a b)) := by
  induction a with
  | nil => intro i; simp [pmul, psc, padd]; cases i <;> simp
  | cons x a ih =>
    intro i; cases i with
    | zero => rw [cf_pmul_zero, cf_padd, cf_psc]; simp; grind
    | succ i =>
      rw [cf_pmul_succ, cf_padd, cf_psc, ih i, cf_padd, cf_psc]
      simp
      cases i with
      | zero => rw [cf_pmul_zero]; simp; grind
      | succ i => rw [cf_pmul_succ]; simp; grind
theorem pmul_comm (a b : Pl) : PE (pmul a b) (pmul b a) := by
  induction a with
  | nil => exact (pmul_nil_r b).symm
  | cons x a ih =>
    intro i
    rw [pmul_cons_r b x a i, pmul, cf_padd, cf_padd]
    cases i with
    | zero => simp
    | succ i => simp [ih i]
theorem pmul_add_l (a b c : Pl) : PE (pmul (padd a b) c) (padd (pmul a c) (pmul b c)) := by
  induction a generalizing b with
  | nil => intro i; simp [padd, pmul]
  | cons x a ih =>
    cases b with
    | nil => intro i; rw [cf_padd]; simp [padd, pmul]; grind
    | cons y b =>
      intro i
      rw [cf_padd, padd]
      cases i with
      | zero => rw [cf_pmul_zero, cf_pmul_zero, cf_pmul_zero]; grind
      | succ i => rw [cf_pmul_succ, cf_pmul_succ, cf_pmul_succ, ih b i, cf_padd]; grind
theorem pmul_add_r (a b c : Pl) : PE (pmul a (padd b c)) (padd (pmul a b) (pmul a c)) :=
  (pmul_comm _ _).trans ((pmul_add_l b c a).trans ((pmul_comm b a).add (pmul_comm c a)))
theorem pmul_sc_l (k : Rat) (a b : Pl) : PE (pmul (psc k a) b) (psc k (pmul a b)) := by
  induction a with
  | nil => exact PE.rfl' _
  | cons x a ih =>
    intro i
    have e : psc k (x :: a) = (k * x) :: psc k a := rfl
    rw [cf_psc, e]
    cases i with
    | zero => rw [cf_pmul_zero, cf_pmul_zero]; grind
    | succ i => rw [cf_pmul_succ, cf_pmul_succ, ih i, cf_psc]; grind
theorem pmul_sc_r (k : Rat) (a b : Pl) : PE (pmul a (psc k b)) (psc k (pmul a b)) :=
  (pmul_comm _ _).trans ((pmul_sc_l k b a).trans (PE.sc k (pmul_comm b a)))
theorem pmul_shift_l (a b : Pl) : PE (pmul (0 :: a) b) (0 :: pmul a b) := by
  intro i; cases i with
  | zero => rw [cf_pmul_zero]; simp
  | succ i => rw [cf_pmul_succ]; simp; grind
theorem pmul_assoc (a b c : Pl) : PE (pmul (pmul a b) c) (pmul a (pmul b c)) := by
  induction a with
  | nil => exact PE.rfl' _
  | cons x a ih =>
    rw [pmul, pmul]
    refine (pmul_add_l _ _ c).trans (PE.add (pmul_sc_l x b c) ?_)
    exact (pmul_shift_l _ c).trans (PE.cons ih)
end Go.Proofs.YtbldlibijojbjaaGreatDoor.GB
