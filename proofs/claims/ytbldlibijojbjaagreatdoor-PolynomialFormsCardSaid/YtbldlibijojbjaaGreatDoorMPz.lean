import Derived.Test.YtbldlibijojbjaaGreatDoorMCl
import Derived.Test.YtbldlibijojbjaaGreatDoorMPd
import Derived.IntWalk
namespace Go.Proofs.YtbldlibijojbjaaGreatDoor.GB
set_option linter.unusedVariables false
set_option linter.unusedSimpArgs false
open Go.RowKit Go.Shelf
attribute [local go_sem ↓] Go.wp_at_zero Go.wp_at_succ

/-- The text of a number. -/
def rb (q : Rat) : ByteArray := ⟨(rtext q).toArray⟩
theorem rb_v (q : Rat) : Value.string (rb q) = rtx q := rfl
theorem rb0 : rb 0 = ⟨#[48]⟩ := by
  unfold rb
  rw [rtext_int rfl]
  have h := itoa_nat 0
  rw [Lib.decDigits] at h
  exact congrArg (fun l : List UInt8 => (⟨l.toArray⟩ : ByteArray)) h
theorem isZ_rb (q : Rat) : isZ (rb q) = decide (q = 0) := by
  unfold isZ
  have h := rtx_eq q 0
  have h0 : (⟨(rtext 0).toArray⟩ : ByteArray).toList = [48] := by
    have := rb0
    unfold rb at this
    rw [this, ByteArray.toList_eq]
  rw [h0] at h
  exact h
theorem cf_snoc0 (p : Pl) : PE (p ++ [0]) p := by
  intro i
  rw [cf_append]
  split
  · rfl
  · rename_i h
    rw [cf_ge (Nat.not_lt.1 h)]
    rcases Nat.eq_zero_or_pos (i - p.length) with e | e
    · rw [e]; rfl
    · exact cf_ge (by simp only [List.length_singleton]; omega)
theorem tzS_rb (p : Pl) : tzS (p.map rb) = (ptrim p).map rb := by
  generalize hn : p.length = n
  induction n generalizing p with
  | zero => rw [List.eq_nil_of_length_eq_zero hn]; exact tzS_nil
  | succ n ih =>
    obtain ⟨q, x, rfl⟩ : ∃ q x, p = q ++ [x] := ⟨p.dropLast, p.getLast (by intro e; rw [e] at hn; cases hn), (List.dropLast_concat_getLast _).symm⟩
    have hq : q.length = n := by simpa using hn
    rw [List.map_append, List.map_singleton]
    by_cases h : x = 0
    · subst h
      rw [tzS_zero _ _ (by rw [isZ_rb]; rfl), ih q hq, ptrim_eq (cf_snoc0 q)]
    · rw [tzS_last _ _ (by rw [isZ_rb]; exact decide_eq_false h), ptrim_tr (by unfold Tr; rw [List.getLast?_concat]; simpa using h), List.map_append, List.map_singleton]
theorem atS_rb (p : Pl) (i : Nat) : atS (p.map rb) i = rb (cf p i) := by
  unfold atS cf
  simp only [List.getD_eq_getElem?_getD, List.getElem?_map]
  cases p[i]? with
  | none => exact rb0.symm
  | some x => rfl
/-- All numbers of a polynomial have at most n bits. -/
def PB (p : Pl) (n : Nat) : Prop := ∀ q ∈ p, Bd q n
theorem PB.cf {p : Pl} {n : Nat} (h : PB p n) (i : Nat) : Bd (cf p i) n := by
  unfold GB.cf
  rw [List.getD_eq_getElem?_getD]
  cases e : p[i]? with
  | none => exact (Bd.of_int 0 0 (by decide)).mono (Nat.zero_le _)
  | some x => exact h x (List.mem_of_getElem? e)
theorem PB.mono {p : Pl} {m n : Nat} (h : PB p m) (hm : m ≤ n) : PB p n := fun q hq => (h q hq).mono hm
theorem PB.nil (n : Nat) : PB [] n := fun q hq => by cases hq
theorem PB.of_cf {p : Pl} {n : Nat} (h : ∀ i, Bd (GB.cf p i) n) : PB p n := by
  intro q hq
  obtain ⟨i, hi, rfl⟩ := List.mem_iff_getElem.1 hq
  rw [← cf_lt hi]
  exact h i
/-- A slice that reads as a polynomial's numbers. -/
def PS (w : World) (v : Value) (p : Pl) : Prop := SlS w v (p.map rb)
theorem PS.ext {w w' : World} {v : Value} {p : Pl} (h : PS w v p) (hE : Ext w w') : PS w' v p := SlS.ext h hE
set_option maxHeartbeats 1000000 in
set_option maxRecDepth 100000 in
theorem pzadd_g (A B : Option Addr) (c d : Nat) (l m : List ByteArray) (g : Nat → ByteArray) (w : World) (hl : l.length ≤ 100000) (hm : m.length ≤ 100000)
    (hA : SlS w (.slice A l.length c) l) (hB : SlS w (.slice B m.length d) m)
    (hop : ∀ i W, Ext w W → Calls Tryz.prog 69 #[.string (atS l i), .string (atS m i)] W fun e w' => e = .returned (.string (g i)) ∧ Ext W w') :
    Calls Tryz.prog 92 #[.slice A l.length c, .slice B m.length d, .func (.func 69) #[] #[]] w fun e w' => ∃ v, e = .returned v ∧ SlS w' v (tzS ((List.range (max l.length m.length)).map g)) ∧ Ext w w' := by
  obtain ⟨i0, hi, hz0, hz1, hz2⟩ := info_parts Tryz.infoRat
  have HA := Lib.hid hA
  have HB := Lib.hid hB
  have HL : Hid (l.length ≤ 100000) := hl
  have HM : Hid (m.length ≤ 100000) := hm
  clear hA hB
  go_enter Tryz.func92, Tryz.ntmps92
  go_wp2_with fail
  go_loopw [7, 14] (fun vo vi wr => ∃ k : Nat, k ≤ max l.length m.length ∧ vi = .int .i64 k ∧ Hid (OwnS wr w.heap.size vo ((List.range k).map g)) ∧ Hid (Ext w wr)) (fun _ vi _ => max l.length m.length - (intOf vi).toNat)
  case atStart => exact ⟨0, Nat.zero_le _, rfl, ⟨rfl, .inl ⟨rfl, rfl⟩⟩, Ext.rfl' _⟩
  case round =>
    obtain ⟨k, hk, rfl, HO, HE⟩ := hrel
    by_cases hlt : k < max l.length m.length
    · have hk9 : k ≤ 1099511627776 := by omega
      have hN : ((List.range k).map g).length + 1 ≤ maxLen := by simp [maxLen]; omega
      have hbig : (((List.range k).map g).length + 1) * 16 ≤ 140737488355328 := by simp; omega
      have hs : List.range (k + 1) = List.range k ++ [k] := List.range_succ
      have HS : Hid ((List.range (k + 1)).map g = (List.range k).map g ++ [g k]) := by unfold Hid; rw [hs]; simp
      have hopk := hop k
      clear hs
      go_wp2_with fail
      refine (at_any _ l k _ hk9 (HA.out.ext HE.out)).mono ?_
      rintro e w1 ⟨rfl, rfl⟩
      go_wp2_with fail
      refine (at_any _ m k _ hk9 (HB.out.ext HE.out)).mono ?_
      rintro e w1 ⟨rfl, rfl⟩
      go_wp2_with fail
      refine (hopk _ HE.out).mono ?_
      rintro e w1 ⟨rfl, hE1⟩
      have HE1 := Lib.hid (HE.out.tr hE1)
      have HO1 := Lib.hid (HO.out.ext hE1)
      have hbase1 : w.heap.size ≤ w1.heap.size := HE1.out.size
      clear hE1
      generalize (List.range k).map g = r at *
      go_wp2_with (at_builtin; (refine wpList_append_own _ rfl _ _ 55 rfl w.heap.size 30 i0 (.string ⟨#[]⟩) 1 16 Tryz.underlying55 hi hz0 hz1 hz2 rfl (by decide) _ r.length (strs r) rfl (World.ownsRow.alloc HO1.out _) ⟨w1.heap.size, 0, none⟩ 1 1 _ rfl rfl (cell_one_new _ _ _) (by simp [Value.oneCell']) hN hbig (by simp; omega) ?_); intro v' w2 hown2 hgrow2 _)
      all_goals
        obtain ⟨p1, p2⟩ := own_grow (news := [g k]) HO1.out HE1.out hown2 hgrow2
        go_roundw
        case rel => exact ⟨k + 1, by omega, by go_num, by rw [HS.out]; exact p1, p2⟩
        case measure => simp [intOf]; omega
    · have hke : k = max l.length m.length := by omega
      subst hke
      have HP := Lib.hid HO.out.sl
      clear hop
      go_wp2_with fail
      refine (ptrimS_v _ _ _ HP.out).mono ?_
      rintro e w1 ⟨v', rfl, hv, rfl⟩
      have HV := Lib.hid hv
      clear hv
      go_wp2_with fail
      go_ret
      exact ⟨_, rfl, HV.out, HE.out⟩
set_option maxHeartbeats 1000000 in
set_option maxRecDepth 100000 in
theorem pzsub_g (A B : Option Addr) (c d : Nat) (l m : List ByteArray) (g : Nat → ByteArray) (w : World) (hl : l.length ≤ 100000) (hm : m.length ≤ 100000)
    (hA : SlS w (.slice A l.length c) l) (hB : SlS w (.slice B m.length d) m)
    (hop : ∀ i W, Ext w W → Calls Tryz.prog 95 #[.string (atS l i), .string (atS m i)] W fun e w' => e = .returned (.string (g i)) ∧ Ext W w') :
    Calls Tryz.prog 92 #[.slice A l.length c, .slice B m.length d, .func (.func 95) #[] #[]] w fun e w' => ∃ v, e = .returned v ∧ SlS w' v (tzS ((List.range (max l.length m.length)).map g)) ∧ Ext w w' := by
  obtain ⟨i0, hi, hz0, hz1, hz2⟩ := info_parts Tryz.infoRat
  have HA := Lib.hid hA
  have HB := Lib.hid hB
  have HL : Hid (l.length ≤ 100000) := hl
  have HM : Hid (m.length ≤ 100000) := hm
  clear hA hB
  go_enter Tryz.func92, Tryz.ntmps92
  go_wp2_with fail
  go_loopw [7, 14] (fun vo vi wr => ∃ k : Nat, k ≤ max l.length m.length ∧ vi = .int .i64 k ∧ Hid (OwnS wr w.heap.size vo ((List.range k).map g)) ∧ Hid (Ext w wr)) (fun _ vi _ => max l.length m.length - (intOf vi).toNat)
  case atStart => exact ⟨0, Nat.zero_le _, rfl, ⟨rfl, .inl ⟨rfl, rfl⟩⟩, Ext.rfl' _⟩
  case round =>
    obtain ⟨k, hk, rfl, HO, HE⟩ := hrel
    by_cases hlt : k < max l.length m.length
    · have hk9 : k ≤ 1099511627776 := by omega
      have hN : ((List.range k).map g).length + 1 ≤ maxLen := by simp [maxLen]; omega
      have hbig : (((List.range k).map g).length + 1) * 16 ≤ 140737488355328 := by simp; omega
      have hs : List.range (k + 1) = List.range k ++ [k] := List.range_succ
      have HS : Hid ((List.range (k + 1)).map g = (List.range k).map g ++ [g k]) := by unfold Hid; rw [hs]; simp
      have hopk := hop k
      clear hs
      go_wp2_with fail
      refine (at_any _ l k _ hk9 (HA.out.ext HE.out)).mono ?_
      rintro e w1 ⟨rfl, rfl⟩
      go_wp2_with fail
      refine (at_any _ m k _ hk9 (HB.out.ext HE.out)).mono ?_
      rintro e w1 ⟨rfl, rfl⟩
      go_wp2_with fail
      refine (hopk _ HE.out).mono ?_
      rintro e w1 ⟨rfl, hE1⟩
      have HE1 := Lib.hid (HE.out.tr hE1)
      have HO1 := Lib.hid (HO.out.ext hE1)
      have hbase1 : w.heap.size ≤ w1.heap.size := HE1.out.size
      clear hE1
      generalize (List.range k).map g = r at *
      go_wp2_with (at_builtin; (refine wpList_append_own _ rfl _ _ 55 rfl w.heap.size 30 i0 (.string ⟨#[]⟩) 1 16 Tryz.underlying55 hi hz0 hz1 hz2 rfl (by decide) _ r.length (strs r) rfl (World.ownsRow.alloc HO1.out _) ⟨w1.heap.size, 0, none⟩ 1 1 _ rfl rfl (cell_one_new _ _ _) (by simp [Value.oneCell']) hN hbig (by simp; omega) ?_); intro v' w2 hown2 hgrow2 _)
      all_goals
        obtain ⟨p1, p2⟩ := own_grow (news := [g k]) HO1.out HE1.out hown2 hgrow2
        go_roundw
        case rel => exact ⟨k + 1, by omega, by go_num, by rw [HS.out]; exact p1, p2⟩
        case measure => simp [intOf]; omega
    · have hke : k = max l.length m.length := by omega
      subst hke
      have HP := Lib.hid HO.out.sl
      clear hop
      go_wp2_with fail
      refine (ptrimS_v _ _ _ HP.out).mono ?_
      rintro e w1 ⟨v', rfl, hv, rfl⟩
      have HV := Lib.hid hv
      clear hv
      go_wp2_with fail
      go_ret
      exact ⟨_, rfl, HV.out, HE.out⟩
theorem cf_range (f : Nat → Rat) (N i : Nat) : cf ((List.range N).map f) i = if i < N then f i else 0 := by
  unfold cf
  rw [List.getD_eq_getElem?_getD]
  split
  · rename_i h; simp [List.getElem?_map, List.getElem?_range h]
  · rename_i h; rw [List.getElem?_eq_none (by simpa using h)]; rfl
theorem rb_range (f : Nat → Rat) (N : Nat) : (List.range N).map (fun i => rb (f i)) = ((List.range N).map f).map rb := by rw [List.map_map]; rfl
theorem range_add (p r : Pl) : ptrim ((List.range (max p.length r.length)).map fun i => cf p i + cf r i) = ptrim (padd p r) := by
  apply ptrim_eq
  intro i
  rw [cf_range, cf_padd]
  split
  · rfl
  · rw [cf_ge (by omega), cf_ge (by omega)]; grind
theorem range_sub (p r : Pl) : ptrim ((List.range (max p.length r.length)).map fun i => cf p i - cf r i) = ptrim (padd p (pneg r)) := by
  apply ptrim_eq
  intro i
  rw [cf_range, cf_padd, cf_pneg]
  split
  · rw [Rat.sub_eq_add_neg]
  · rw [cf_ge (by omega), cf_ge (by omega)]; grind
set_option maxHeartbeats 1000000 in
set_option maxRecDepth 100000 in
theorem pplus_v (v1 v2 : Value) (p r : Pl) (m n : Nat) (w : World) (hW : Wd w) (h1 : PS w v1 p) (h2 : PS w v2 r) (hp : PB p m) (hr : PB r n) (hk : m + n + 3 ≤ KK) (l1 : p.length ≤ 100000) (l2 : r.length ≤ 100000) :
    Calls Tryz.prog 57 #[v1, v2] w fun e w' => ∃ v, e = .returned v ∧ PS w' v (ptrim (padd p r)) ∧ Ext w w' := by
  obtain ⟨A, c, rfl, a1, a2, a3⟩ := h1
  obtain ⟨B, d, rfl, b1, b2, b3⟩ := h2
  have h := pzadd_g A B c d (p.map rb) (r.map rb) (fun i => rb (cf p i + cf r i)) w (by simpa using l1) (by simpa using l2) ⟨A, c, rfl, a1, a2, a3⟩ ⟨B, d, rfl, b1, b2, b3⟩ (by
    intro i W hE
    rw [atS_rb, atS_rb]
    exact padd_q (cf p i) (cf r i) m n W (hW.ext hE) (hp.cf i) (hr.cf i) hk)
  simp only [List.length_map] at h ⊢
  rw [rb_range, tzS_rb, range_add] at h
  clear a1 a2 a3 b1 b2 b3 hp hr
  unfold PS
  generalize p.length = n1 at *
  generalize r.length = n2 at *
  generalize (ptrim (padd p r)).map rb = L at *
  go_enter Tryz.func57, Tryz.ntmps57
  go_wp2_with fail
  refine h.mono ?_
  rintro e w1 ⟨v, rfl, hv, hE⟩
  have HV := Lib.hid hv
  clear h hv
  go_wp2_with fail
  go_ret
  exact ⟨_, rfl, HV.out, hE⟩
set_option maxHeartbeats 1000000 in
set_option maxRecDepth 100000 in
theorem pminus_v (v1 v2 : Value) (p r : Pl) (m n : Nat) (w : World) (hW : Wd w) (h1 : PS w v1 p) (h2 : PS w v2 r) (hp : PB p m) (hr : PB r n) (hk : m + n + 3 ≤ KK) (l1 : p.length ≤ 100000) (l2 : r.length ≤ 100000) :
    Calls Tryz.prog 60 #[v1, v2] w fun e w' => ∃ v, e = .returned v ∧ PS w' v (ptrim (padd p (pneg r))) ∧ Ext w w' := by
  obtain ⟨A, c, rfl, a1, a2, a3⟩ := h1
  obtain ⟨B, d, rfl, b1, b2, b3⟩ := h2
  have h := pzsub_g A B c d (p.map rb) (r.map rb) (fun i => rb (cf p i - cf r i)) w (by simpa using l1) (by simpa using l2) ⟨A, c, rfl, a1, a2, a3⟩ ⟨B, d, rfl, b1, b2, b3⟩ (by
    intro i W hE
    rw [atS_rb, atS_rb]
    exact psub_q (cf p i) (cf r i) m n W (hW.ext hE) (hp.cf i) (hr.cf i) hk)
  simp only [List.length_map] at h ⊢
  rw [rb_range, tzS_rb, range_sub] at h
  clear a1 a2 a3 b1 b2 b3 hp hr
  unfold PS
  generalize p.length = n1 at *
  generalize r.length = n2 at *
  generalize (ptrim (padd p (pneg r))).map rb = L at *
  go_enter Tryz.func60, Tryz.ntmps60
  go_wp2_with fail
  refine h.mono ?_
  rintro e w1 ⟨v, rfl, hv, hE⟩
  have HV := Lib.hid hv
  clear h hv
  go_wp2_with fail
  go_ret
  exact ⟨_, rfl, HV.out, hE⟩
end Go.Proofs.YtbldlibijojbjaaGreatDoor.GB

namespace Go.Proofs.YtbldlibijojbjaaGreatDoor.GB
set_option linter.unusedVariables false
set_option linter.unusedSimpArgs false
open Go.RowKit Go.Shelf
attribute [local go_sem ↓] Go.wp_at_zero Go.wp_at_succ

theorem madeS (n : Nat) : (madeCells (Value.string ⟨#[]⟩).cells (n * 1)).toList = strs (List.replicate n ⟨#[]⟩) := by
  apply List.ext_getElem
  · simp [madeCells, strs]
  · intro i h1 h2
    simp [madeCells, strs, Value.cells, Nat.mod_one]
theorem OwnS.cellAt {w : World} {base g c : Nat} {l : List ByteArray} (h : OwnS w base (.slice (some ⟨g, 0, none⟩) l.length c) l) (j : Nat) (hj : j < l.length) : w.cell? ⟨g, j, none⟩ = some (.string l[j]) := by
  have := World.ownsRow.cellAt h j (by omega)
  rw [this]; simp [strs, hj]
theorem OwnS.store {w : World} {base g c : Nat} {l : List ByteArray} (h : OwnS w base (.slice (some ⟨g, 0, none⟩) l.length c) l) (j : Nat) (x : ByteArray) :
    OwnS (w.setCell ⟨g, j, none⟩ (.string x)) base (.slice (some ⟨g, 0, none⟩) (l.set j x).length c) (l.set j x) := by
  have := (World.ownsRow.stored h j (.string x)).1
  unfold OwnS
  rw [List.length_set]
  have e : strs (l.set j x) = (strs l).set j (.string x) := by simp [strs, List.map_set]
  rw [e]; exact this
/-- A row of the call's own that holds a polynomial's numbers. -/
def OwnP (w : World) (base g c n : Nat) (O : Pl) : Prop := O.length = n ∧ OwnS w base (.slice (some ⟨g, 0, none⟩) (O.map rb).length c) (O.map rb)
theorem OwnP.ext {w w' : World} {base g c n : Nat} {O : Pl} (h : OwnP w base g c n O) (hE : Ext w w') : OwnP w' base g c n O := ⟨h.1, h.2.ext hE⟩
theorem OwnP.cell {w : World} {base g c n : Nat} {O : Pl} (h : OwnP w base g c n O) (j : Nat) (hj : j < n) : w.cell? ⟨g, j, none⟩ = some (rtx (cf O j)) := by
  have hj' : j < O.length := by rw [h.1]; exact hj
  have := h.2.cellAt j (by simpa using hj')
  rw [this, cf_lt hj']
  simp [rb]
theorem OwnP.froz {w : World} {base g c n : Nat} {O : Pl} (h : OwnP w base g c n O) (j : Nat) : w.frozen? ⟨g, j, none⟩ = false := World.ownsRow.frozenAt h.2 j
theorem OwnP.store {w : World} {base g c n : Nat} {O : Pl} (h : OwnP w base g c n O) (j : Nat) (q : Rat) : OwnP (w.setCell ⟨g, j, none⟩ (rtx q)) base g c n (O.set j q) := by
  refine ⟨by rw [List.length_set]; exact h.1, ?_⟩
  have := h.2.store j (rb q)
  rw [List.map_set]
  exact this
theorem OwnP.ps {w : World} {base g c n : Nat} {O : Pl} (h : OwnP w base g c n O) : PS w (.slice (some ⟨g, 0, none⟩) n c) O := by
  have := h.2.sl
  rwa [List.length_map, h.1] at this
theorem pl_ext {p q : Pl} (hl : p.length = q.length) (h : PE p q) : p = q := by
  apply List.ext_getElem hl
  intro i h1 h2
  have := h i
  rwa [cf_lt h1, cf_lt h2] at this
theorem PS.cell {w : World} {A : Option Addr} {n c : Nat} {p : Pl} (h : PS w (.slice A n c) p) : n = p.length ∧ p.length ≤ c ∧ c ≤ 9223372036854775807 ∧ ∀ k, k < p.length → ∃ b off, A = some ⟨b, off, none⟩ ∧ b < w.heap.size ∧ w.cell? ⟨b, off + k, none⟩ = some (rtx (cf p k)) := by
  obtain ⟨A', c', hv, h1, h2, h3⟩ := h
  injection hv with e1 e2 e3
  subst e1 e3
  rw [List.length_map] at e2 h1
  refine ⟨e2, h1, h2, fun k hk => ?_⟩
  obtain ⟨b, off, e, hb, hc⟩ := h3 k (by simpa using hk)
  exact ⟨b, off, e, hb, by rw [hc, cf_lt hk]; simp [rb]⟩
theorem PS.sl {w : World} {v : Value} {p : Pl} (h : PS w v p) : ∃ A c, v = .slice A p.length c := by
  obtain ⟨A', c', hv, h1, h2, h3⟩ := h
  rw [List.length_map] at hv
  exact ⟨A', c', hv⟩

/-- What the product's rows hold: the sum so far, with its bits. -/
def TB (p r : Pl) (B i k : Nat) (O : Pl) : Prop :=
  PE O (padd (pmul (p.take i) r) (pmul (pmono i (cf p i)) (r.take k))) ∧ (∀ j, j < i + k → Bd (cf O j) ((i + 1) * B)) ∧ (∀ j, i + k ≤ j → Bd (cf O j) (i * B))
theorem TB.row0 {p r : Pl} {B i : Nat} {O : Pl} (h1 : PE O (pmul (p.take i) r)) (h2 : ∀ j, Bd (cf O j) (i * B)) : TB p r B i 0 O := by
  refine ⟨?_, fun j hj => (h2 j).mono (Nat.mul_le_mul_right _ (by omega)), fun j _ => h2 j⟩
  intro t
  rw [cf_padd, h1 t, List.take_zero]
  have := pmul_nil_r (pmono i (cf p i)) t
  rw [this]
  have e : cf ([] : Pl) t = 0 := cf_ge (Nat.zero_le _)
  rw [e]; grind
theorem TB.step {p r : Pl} {B i k m n : Nat} {O : Pl} {y : Rat} (h : TB p r B i k O) (hp : PB p m) (hr : PB r n) (hB : B = m + n + 1) (hl : i + k < O.length) (hy : y = cf O (i + k) + cf p i * cf r k) : TB p r B i (k + 1) (O.set (i + k) y) := by
  obtain ⟨h1, h2, h3⟩ := h
  refine ⟨times_step h1 hl hy, fun j hj => ?_, fun j hj => ?_⟩
  · rw [cf_set _ _ _ _ hl]
    split
    · subst hB
      rw [hy]
      refine ((h3 (i + k) (Nat.le_refl _)).add ((hp.cf i).mul (hr.cf k))).mono ?_
      rw [Nat.add_mul, Nat.one_mul]; omega
    · exact h2 j (by omega)
  · rw [cf_set _ _ _ _ hl, if_neg (by omega)]
    exact h3 j (by omega)
theorem TB.done {p r : Pl} {B i : Nat} {O : Pl} (h : TB p r B i r.length O) (hlen : ∀ j, i + r.length ≤ j → cf O j = 0 ∨ True) : PE O (pmul (p.take (i + 1)) r) ∧ ∀ j, Bd (cf O j) ((i + 1) * B) := by
  obtain ⟨h1, h2, h3⟩ := h
  rw [List.take_length] at h1
  refine ⟨times_row h1 rfl, fun j => ?_⟩
  rcases Nat.lt_or_ge j (i + r.length) with hj | hj
  · exact h2 j hj
  · exact (h3 j hj).mono (Nat.mul_le_mul_right _ (by omega))
theorem cf_rep0 (n j : Nat) : cf (List.replicate n 0) j = 0 := cf_zeros n j
end Go.Proofs.YtbldlibijojbjaaGreatDoor.GB
