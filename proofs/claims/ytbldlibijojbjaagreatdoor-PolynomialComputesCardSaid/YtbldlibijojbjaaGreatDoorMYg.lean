import Derived.Test.YtbldlibijojbjaaGreatDoorMYe
import Derived.Test.YtbldlibijojbjaaGreatDoorMSh
namespace Go.Proofs.YtbldlibijojbjaaGreatDoor.GB
set_option linter.unusedVariables false
set_option linter.unusedSimpArgs false
open Go.RowKit Go.Shelf
attribute [local go_sem ↓] Go.wp_at_zero Go.wp_at_succ
theorem Tryz.infoQ : (Tryz.prog.info? 86).map (fun i => (i.zero, i.size, i.bytes)) = some (some (.agg #[.bool false, .slice none 0 0, .slice none 0 0]), 3, 56) := by kernel_rfl
abbrev V3 := Value × Value × Value
def qcells (l : List V3) : List Value := l.flatMap fun t => [t.1, t.2.1, t.2.2]
theorem qcells_len (l : List V3) : (qcells l).length = l.length * 3 := by
  induction l with
  | nil => rfl
  | cons t l ih => unfold qcells at *; rw [List.flatMap_cons, List.length_append, ih, List.length_cons]; simp; omega
theorem qcells_append (a b : List V3) : qcells (a ++ b) = qcells a ++ qcells b := by unfold qcells; rw [List.flatMap_append]
theorem qcells_get (l : List V3) : ∀ j (h : j < l.length), (qcells l)[3 * j]? = some l[j].1 ∧ (qcells l)[3 * j + 1]? = some l[j].2.1 ∧ (qcells l)[3 * j + 2]? = some l[j].2.2 := by
  induction l with
  | nil => intro j h; simp at h
  | cons t l ih =>
    intro j h
    have e : qcells (t :: l) = t.1 :: t.2.1 :: t.2.2 :: qcells l := rfl
    cases j with
    | zero => rw [e]; exact ⟨rfl, rfl, rfl⟩
    | succ j =>
      have h' : j < l.length := by simpa using h
      obtain ⟨a, b, c⟩ := ih j h'
      rw [e, show 3 * (j + 1) = 3 * j + 1 + 1 + 1 by omega]
      exact ⟨a, b, c⟩
/-- What a list of triples stands for. -/
def QL (w : World) (l : List V3) (p : Pl) : Prop := l.length = p.length ∧ ∀ j (h : j < l.length), QV w (.agg #[l[j].1, l[j].2.1, l[j].2.2]) (cf p j)
theorem QL.ext {w w' : World} {l : List V3} {p : Pl} (h : QL w l p) (hE : Ext w w') : QL w' l p := ⟨h.1, fun j hj => (h.2 j hj).ext hE⟩
theorem QL.snoc {w : World} {l : List V3} {p : Pl} {t : V3} {q : Rat} (h : QL w l p) (ht : QV w (.agg #[t.1, t.2.1, t.2.2]) q) : QL w (l ++ [t]) (p ++ [q]) := by
  refine ⟨by simp [h.1], fun j hj => ?_⟩
  have hl := h.1
  by_cases e : j < l.length
  · have := h.2 j e
    rw [List.getElem_append_left e]
    have e2 : cf (p ++ [q]) j = cf p j := by simp only [cf, List.getD_eq_getElem?_getD]; rw [List.getElem?_append_left (by omega)]
    rw [e2]; exact this
  · have hj2 : j = l.length := by simp at hj; omega
    subst hj2
    have e2 : cf (p ++ [q]) l.length = q := by simp only [cf, List.getD_eq_getElem?_getD]; rw [List.getElem?_append_right (by omega)]; simp [hl]
    rw [e2, List.getElem_append_right (Nat.le_refl _)]
    simpa using ht
/-- A slice of the call's own, of rational numbers of the reference. -/
def OwnQ (w : World) (base : Nat) (v : Value) (l : List V3) (p : Pl) : Prop := w.ownsRow base 86 3 v l.length (qcells l) ∧ QL w l p
theorem OwnQ.ext {w w' : World} {base : Nat} {v : Value} {l : List V3} {p : Pl} (h : OwnQ w base v l p) (hb : Ext w w') : OwnQ w' base v l p :=
  ⟨World.ownsRow.kept h.1 (row := none) ⟨hb.os, hb.tape, hb.output, hb.size, fun i hi _ => hb.block i hi⟩ (by cases v.ownBlock <;> simp), h.2.ext hb⟩
/-- A slice that reads as a polynomial of the reference. -/
def RdQ (w : World) (A : Option Addr) (p : Pl) : Prop := ∀ j, j < p.length → ∃ b off x y z, A = some ⟨b, off, none⟩ ∧ b < w.heap.size ∧ w.cell? ⟨b, off + 3 * j, none⟩ = some x ∧ w.cell? ⟨b, off + (3 * j + 1), none⟩ = some y ∧ w.cell? ⟨b, off + (3 * j + 2), none⟩ = some z ∧ QV w (.agg #[x, y, z]) (cf p j)
theorem RdQ.ext {w w' : World} {A : Option Addr} {p : Pl} (h : RdQ w A p) (hE : Ext w w') : RdQ w' A p := fun j hj => by
  obtain ⟨b, off, x, y, z, e, h1, h2, h3, h4, h5⟩ := h j hj
  exact ⟨b, off, x, y, z, e, Nat.lt_of_lt_of_le h1 hE.size, hE.cell h2, hE.cell h3, hE.cell h4, h5.ext hE⟩
theorem RdQ.take {w : World} {A : Option Addr} {p : Pl} (h : RdQ w A p) (k : Nat) : RdQ w A (p.take k) := fun j hj => by
  have hj' : j < k ∧ j < p.length := by simp at hj; omega
  obtain ⟨b, off, x, y, z, e, h1, h2, h3, h4, h5⟩ := h j hj'.2
  exact ⟨b, off, x, y, z, e, h1, h2, h3, h4, by rw [cf_take, if_pos hj'.1]; exact h5⟩
def PQ (w : World) (v : Value) (p : Pl) : Prop := ∃ A c, v = .slice A p.length c ∧ p.length ≤ c ∧ c ≤ 9223372036854775807 ∧ RdQ w A p
theorem PQ.ext {w w' : World} {v : Value} {p : Pl} (h : PQ w v p) (hE : Ext w w') : PQ w' v p := by
  obtain ⟨A, c, e, h1, h2, h3⟩ := h; exact ⟨A, c, e, h1, h2, h3.ext hE⟩
theorem PQ.nil (w : World) : PQ w (.slice none 0 0) [] := ⟨none, 0, rfl, Nat.le_refl _, by decide, fun j hj => by simp at hj⟩
theorem OwnQ.pq {w : World} {base : Nat} {v : Value} {l : List V3} {p : Pl} (h : OwnQ w base v l p) : PQ w v p := by
  obtain ⟨h0, hl, hq⟩ := h
  rcases h0.2 with ⟨hv, hn⟩ | ⟨g, cap, cur, hv, hg, hh, h1, h2, h3, h4⟩
  · refine ⟨none, 0, by rw [hv, ← hl, hn], by omega, by decide, fun j hj => by omega⟩
  · refine ⟨_, cap, by rw [hv, hl], by omega, by unfold maxLen at h2; omega, fun j hj => ?_⟩
    have hj' : j < l.length := by omega
    subst hv
    obtain ⟨a, b, c⟩ := qcells_get l j hj'
    refine ⟨g, 0, _, _, _, rfl, (Array.getElem?_eq_some_iff.1 hh).1, ?_, ?_, ?_, hq j hj'⟩
    · rw [Nat.zero_add, World.ownsRow.cellAt h0 _ (by omega)]; exact a
    · rw [Nat.zero_add, World.ownsRow.cellAt h0 _ (by omega)]; exact b
    · rw [Nat.zero_add, World.ownsRow.cellAt h0 _ (by omega)]; exact c
/-- Words stay when a row of rational numbers grows. -/
theorem SlN.grown {w w2 : World} {o : Obj} {v v0 : Value} {n : Nat} (h : SlN w v n) (hg : (w.alloc o).grownBy w2 v0.ownBlock) (hT : ∀ g, v0.ownBlock = some g → ∃ cur fr, w.heap[g]? = some (.cells cur 86 fr)) : SlN w2 v n := by
  obtain ⟨A, c, rfl, h1, h2, h3, h4⟩ := h
  have hk : ∀ a, A = some a → w2.heap[a.block]? = w.heap[a.block]? ∧ a.block < w.heap.size := by
    intro a ha
    obtain ⟨cs', fr, h5⟩ := h4 a ha
    have hlt := (Array.getElem?_eq_some_iff.1 h5).1
    have h6 := hg.block a.block (by simp; omega) (by
      intro e
      obtain ⟨cur, fr2, h7⟩ := hT _ e.symm
      rw [h5] at h7
      injection h7 with h7
      injection h7 with _ h7
      exact absurd h7 (by decide))
    exact ⟨h6.trans (Below.heap_alloc _ _ _ hlt), hlt⟩
  have hsz : w.heap.size ≤ w2.heap.size := Nat.le_trans (by simp) hg.size
  refine ⟨A, c, rfl, h1, h2, fun j hj => ?_, fun a ha => ?_⟩
  · obtain ⟨b, off, e, hb, hcell⟩ := h3 j hj
    exact ⟨b, off, e, Nat.lt_of_lt_of_le hb hsz, (World.cell?_of_block (w := w) (w' := w2) (a := ⟨b, off + j, none⟩) (hk _ e).1).trans hcell⟩
  · obtain ⟨cs', fr, h5⟩ := h4 a ha
    exact ⟨cs', fr, (hk a ha).1.trans h5⟩
theorem QV.grown {w w2 : World} {o : Obj} {v v0 : Value} {q : Rat} (h : QV w v q) (hg : (w.alloc o).grownBy w2 v0.ownBlock) (hT : ∀ g, v0.ownBlock = some g → ∃ cur fr, w.heap[g]? = some (.cells cur 86 fr)) : QV w2 v q := by
  obtain ⟨vn, vd, e, h1, h2⟩ := h; exact ⟨vn, vd, e, SlN.grown h1 hg hT, SlN.grown h2 hg hT⟩
theorem ownq_push {w wr w2 : World} {v v' : Value} {l : List V3} {p : Pl} {o : Obj} {t : V3} {q : Rat} (HO : OwnQ wr w.heap.size v l p) (HE : Ext w wr) (ht : QV wr (.agg #[t.1, t.2.1, t.2.2]) q)
    (hown : w2.ownsRow w.heap.size 86 3 v' (l.length + 1) (qcells l ++ [t.1, t.2.1, t.2.2])) (hgrow : (wr.alloc o).grownBy w2 v.ownBlock) : OwnQ w2 w.heap.size v' (l ++ [t]) (p ++ [q]) ∧ Ext w w2 := by
  have hT : ∀ g, v.ownBlock = some g → ∃ cur fr, wr.heap[g]? = some (.cells cur 86 fr) := by
    intro g hg
    rcases HO.1.2 with ⟨rfl, _⟩ | ⟨g', cap, cur, rfl, hb, hh, _⟩
    · simp [Value.ownBlock] at hg
    · have : g' = g := by simpa [Value.ownBlock] using hg
      subst this
      exact ⟨cur, _, hh⟩
  refine ⟨⟨?_, ?_⟩, (HE.al o).gr hgrow ?_⟩
  · rw [qcells_append, List.length_append]
    exact hown
  · have h1 : QL w2 l p := ⟨HO.2.1, fun j hj => (HO.2.2 j hj).grown hgrow hT⟩
    exact h1.snoc (ht.grown hgrow hT)
  · intro k hk
    rcases HO.1.2 with ⟨rfl, _⟩ | ⟨g, cap, cur, rfl, hb, _⟩
    · simp [Value.ownBlock] at hk
    · have : g = k := by simpa [Value.ownBlock] using hk
      omega
end Go.Proofs.YtbldlibijojbjaaGreatDoor.GB

namespace Go.Proofs.YtbldlibijojbjaaGreatDoor.GB
set_option linter.unusedVariables false
set_option linter.unusedSimpArgs false
open Go.RowKit Go.Shelf
attribute [local go_sem ↓] Go.wp_at_zero Go.wp_at_succ
/-- What numbers answers. -/
def NumP (l : List ByteArray) (w : World) (e : Ending) (w' : World) : Prop := (∃ v p, e = .returned (.tuple #[v, .bool true]) ∧ PQ w' v p ∧ l = p.map rb ∧ Ext w w') ∨ (e = .returned (.tuple #[.slice none 0 0, .bool false]) ∧ (∃ s ∈ l, ratB s.data.toList = false) ∧ Ext w w')
theorem take_map {l : List ByteArray} {p : Pl} {k : Nat} {q : Rat} (h : l.take k = p.map rb) (hk : k < l.length) (hq : l[k].data.toList = rtext q) : l.take (k + 1) = (p ++ [q]).map rb := by
  rw [List.take_succ_eq_append_getElem hk, h, List.map_append, List.map_singleton]
  congr 2
  exact list_of hq
set_option maxHeartbeats 2000000 in
set_option maxRecDepth 100000 in
theorem numbers_any (A : Option Addr) (c ln : Nat) (l : List ByteArray) (w : World) (M L : Nat) (HLN : Hid (l.length = ln)) (hl : ln ≤ 1000) (hr : RdS w A l) (hs : ∀ s ∈ l, s.size ≤ L) (hL : L ≤ 1000000) (hOv : OverC M w) (hM : (wds M).length ≤ 1099511627776) (hMs : 10 ^ L ≤ M) :
    Calls Tryz.prog 48 #[.slice A ln c] w (NumP l w) := by
  obtain ⟨i0, hi, hz0, hz1, hz2⟩ := info_parts Tryz.infoQ
  have HR := Lib.hid hr
  have HF : Hid (∀ j, (h : j < l.length) → ∀ W, Ext w W → Calls Tryz.prog 71 #[.string l[j]] W (QF l[j].data.toList W)) := fun j h W hE =>
    q3From_any l[j] W M (Nat.le_trans (hs _ (List.getElem_mem h)) hL) (hOv.ext hE) hM (Nat.le_trans (Nat.pow_le_pow_right (by omega) (hs _ (List.getElem_mem h))) hMs)
  clear hr hs hOv hM hMs
  go_enter Tryz.func48, Tryz.ntmps48
  go_wp2
  go_loopw [4, 5] (fun vo vi wr => ∃ (k : Nat) (q : List V3) (p : Pl), k ≤ ln ∧ q.length = k ∧ vi = .int .i64 k ∧ Hid (l.take k = p.map rb) ∧ Hid (OwnQ wr w.heap.size vo q p) ∧ Hid (Ext w wr)) (fun _ vi _ => ln - (intOf vi).toNat)
  case atStart => exact ⟨0, [], [], Nat.zero_le _, rfl, rfl, by unfold Hid; simp, ⟨⟨rfl, .inl ⟨rfl, rfl⟩⟩, rfl, fun j h => by simp at h⟩, Ext.rfl' w⟩
  case round =>
    obtain ⟨k, q, p, hk, hqk, rfl, HT, HO, HE⟩ := hrel
    by_cases hlt : k < ln
    · have hkl : k < l.length := by rw [HLN.out]; exact hlt
      obtain ⟨bb, off, rfl, hbb, hcell⟩ := HR.out k hkl
      replace hcell := HE.out.cell hcell
      have hF := HF.out k hkl wr HE.out
      have HTM : Hid (∀ x, l[k].data.toList = rtext x → l.take (k + 1) = (p ++ [x]).map rb) := fun x hx => take_map HT.out hkl hx
      have HMem : Hid (l[k] ∈ l) := List.getElem_mem hkl
      have HF1 := Lib.hid hF
      clear hF hbb
      generalize l[k] = s at *
      go_wp2_with fail
      refine HF1.out.mono ?_
      rintro e w1 ⟨v, x, rfl, hq, hx, hE⟩
      have HE1 := Lib.hid (HE.out.tr hE)
      have HO1 := Lib.hid (HO.out.ext hE)
      obtain ⟨b, A1, la, ca, B1, lb, cb, rfl, -, -, -⟩ := hq.ex
      cases hrb : ratB s.data.toList
      · have HBad : Hid (∃ s ∈ l, ratB s.data.toList = false) := ⟨s, HMem.out, hrb⟩
        clear hq hx hE hcell HO HE HF1 HTM
        go_wp2_with fail
        go_ret2
        exact .inr ⟨rfl, HBad.out, HE1.out.al _⟩
      · obtain ⟨y, hy⟩ := ratB_t hrb
        obtain rfl := hx y hy
        have HTk := Lib.hid (HTM.out x hy)
        have hO2 := HO1.out.ext ((Ext.rfl' w1).al (.cells #[.bool b, .slice A1 la ca, .slice B1 lb cb] 86))
        have hq2 := hq.ext ((Ext.rfl' w1).al (.cells #[.bool b, .slice A1 la ca, .slice B1 lb cb] 86))
        have HO2 := Lib.hid hO2
        have HQ2 := Lib.hid hq2
        have HE2 := Lib.hid (HE1.out.al (.cells #[.bool b, .slice A1 la ca, .slice B1 lb cb] 86))
        have hbase : w.heap.size ≤ w1.heap.size := HE1.out.size
        have hmax : q.length + 1 ≤ maxLen := by unfold maxLen; omega
        have hbig : (q.length + 1) * 56 ≤ 140737488355328 := by omega
        clear hq hx hE hcell HO HE HF1 HTM hO2 hq2 HO1 HE1 hy
        have hnew : ((w1.alloc (.cells #[.bool b, .slice A1 la ca, .slice B1 lb cb] 86)).alloc (.cells #[.bool b, .slice A1 la ca, .slice B1 lb cb] 86)).heap[w1.heap.size + 1]? = some (.cells #[.bool b, .slice A1 la ca, .slice B1 lb cb] 86 (0, 0)) := by
          have h := World.alloc_heap_new (w1.alloc (.cells #[.bool b, .slice A1 la ca, .slice B1 lb cb] 86)) (.cells #[.bool b, .slice A1 la ca, .slice B1 lb cb] 86)
          rw [World.size_alloc] at h; exact h
        have HNew := Lib.hid hnew
        clear hnew
        go_wp2_with (at_builtin; (refine wpList_append_own _ rfl _ _ 58 rfl w.heap.size 86 i0 (.agg #[.bool false, .slice none 0 0, .slice none 0 0]) 3 56 Tryz.underlying58 hi hz0 hz1 hz2 rfl (by decide) _ q.length (qcells q) rfl (World.ownsRow.alloc HO2.out.1 _) ⟨w1.heap.size + 1, 0, none⟩ 1 1 [.bool b, .slice A1 la ca, .slice B1 lb cb] rfl rfl (World.news_of_block (cs := #[.bool b, .slice A1 la ca, .slice B1 lb cb]) (t := 86) (fr := (0, 0)) HNew.out) (by simp [Value.oneCell']) hmax hbig (by simp; omega) ?_); intro v' w2 hown2 hgrow2 _)
        all_goals
          obtain ⟨p1, p2⟩ := ownq_push (t := (.bool b, .slice A1 la ca, .slice B1 lb cb)) HO2.out HE2.out HQ2.out hown2 hgrow2
          go_roundw
          case rel => exact ⟨k + 1, q ++ [(.bool b, .slice A1 la ca, .slice B1 lb cb)], p ++ [x], by omega, by simp; omega, by go_num, HTk, Lib.hid p1, Lib.hid p2⟩
          case measure => simp [intOf]; omega
    · have hke : k = ln := by omega
      have HAll : Hid (l = p.map rb) := by
        have h := HT.out
        rw [hke, ← show l.length = ln from HLN.out, List.take_length] at h
        exact h
      have HV := Lib.hid HO.out.pq
      clear hke
      go_wp2
      go_ret2
      exact .inl ⟨_, p, rfl, HV.out, HAll.out, HE.out⟩
end Go.Proofs.YtbldlibijojbjaaGreatDoor.GB

namespace Go.Proofs.YtbldlibijojbjaaGreatDoor.GB
set_option linter.unusedVariables false
set_option linter.unusedSimpArgs false
open Go.RowKit Go.Shelf
attribute [local go_sem ↓] Go.wp_at_zero Go.wp_at_succ
theorem ptrim_take {p : Pl} {k : Nat} (hk : k < p.length) (h : cf p k = 0) : ptrim (p.take (k + 1)) = ptrim (p.take k) := by
  apply ptrim_eq
  intro i
  rw [cf_take, cf_take]
  by_cases h1 : i < k
  · rw [if_pos h1, if_pos (by omega)]
  · rw [if_neg h1]
    by_cases h2 : i < k + 1
    · rw [if_pos h2, show i = k by omega, h]
    · rw [if_neg h2]
theorem ptrim_stop {p : Pl} {k : Nat} (hk : k < p.length) (h : cf p k ≠ 0) : ptrim (p.take (k + 1)) = p.take (k + 1) := by
  apply ptrim_tr
  intro e
  rw [List.take_succ_eq_append_getElem hk, List.getLast?_concat] at e
  injection e with e
  apply h
  rw [cf_lt hk]; exact e
theorem PQ.rd {w : World} {A : Option Addr} {n c : Nat} {p : Pl} (h : PQ w (.slice A n c) p) : n = p.length ∧ p.length ≤ c ∧ c ≤ 9223372036854775807 ∧ RdQ w A p := by
  obtain ⟨A', c', e, h1, h2, h3⟩ := h
  injection e with e1 e2 e3
  subst e1 e3
  exact ⟨e2, h1, h2, h3⟩
theorem PQ.slc {w : World} {v : Value} {p : Pl} (h : PQ w v p) : ∃ A c, v = .slice A p.length c := by
  obtain ⟨A, c, e, _⟩ := h; exact ⟨A, c, e⟩
theorem sgq_num (q : Rat) : (sgq q.num == 0) = decide (q = 0) := by
  rw [sgq0, decide_eq_decide]
  exact Rat.num_eq_zero
set_option maxHeartbeats 2000000 in
set_option maxRecDepth 100000 in
theorem q8trim_any (v : Value) (p : Pl) (w : World) (h : PQ w v p) (hl : p.length ≤ 1000) :
    Calls Tryz.prog 50 #[v] w fun e w' => ∃ v', e = .returned v' ∧ PQ w' v' (ptrim p) ∧ Ext w w' := by
  obtain ⟨A, c, rfl⟩ := h.slc
  obtain ⟨-, h1, h2, h3⟩ := h.rd
  have HR := Lib.hid h3
  clear h h3
  obtain ⟨n, hn⟩ : ∃ n, p.length = n := ⟨_, rfl⟩
  have HN := Lib.hid hn
  rw [hn] at h1 hl ⊢
  clear hn
  go_enter Tryz.func50, Tryz.ntmps50
  go_wp2
  go_loopw [0] (fun v wr => ∃ k : Nat, k ≤ n ∧ v = .slice A k c ∧ Hid (ptrim (p.take k) = ptrim p) ∧ Hid (Ext w wr)) (fun v _ => match v with | .slice _ k _ => k | _ => 0)
  case atStart => exact ⟨n, Nat.le_refl _, rfl, by unfold Hid; rw [← show p.length = n from HN.out, List.take_length], Ext.rfl' w⟩
  case round =>
    obtain ⟨k, hk, rfl, HT, HE⟩ := hrel
    have HV : ∀ W, Hid (Ext w W) → k = (ptrim p).length → ptrim p = p.take k → PQ W (.slice A k c) (ptrim p) := by
      intro W hE e1 e2
      refine ⟨A, c, by rw [e1], by omega, h2, ?_⟩
      rw [e2]
      exact (HR.out.ext hE.out).take k
    cases k with
    | zero =>
      have hf : ptrim p = p.take 0 := by rw [← HT.out, List.take_zero]; rfl
      have HVV := Lib.hid (HV wr HE (by rw [hf]; simp) hf)
      clear HV
      go_wp2
      go_ret
      exact ⟨_, rfl, HVV.out, HE.out⟩
    | succ k =>
      have hkp : k < p.length := by have := HN.out; omega
      obtain ⟨bb, off, x, y, z, rfl, hbb, c0, c1, c2, hq⟩ := HR.out k hkp
      replace c0 := HE.out.cell c0
      replace c1 := HE.out.cell c1
      replace c2 := HE.out.cell c2
      have hq' := hq.ext HE.out
      obtain ⟨b, A1, la, ca, B1, lb, cb, hv, -, -, -⟩ := hq'.ex
      simp only [Value.agg.injEq, Array.mk.injEq, List.cons.injEq, and_true] at hv
      obtain ⟨rfl, rfl, rfl⟩ := hv
      have hs := q3Sign_any _ _ wr hq'
      have HS := Lib.hid hs
      have HZ0 := Lib.hid (sgq_num (cf p k))
      have a0 : off + 3 * k + 1 = off + (3 * k + 1) := by omega
      have a1 : off + 3 * k + 2 = off + (3 * k + 2) := by omega
      have a2 : off + k * 3 = off + 3 * k := by omega
      have HT1 : Hid (cf p k = 0 → ptrim (p.take k) = ptrim p) := fun h => by rw [← ptrim_take hkp h]; exact HT.out
      have HT2 : Hid (cf p k ≠ 0 → ptrim p = p.take (k + 1)) := fun h => by rw [← HT.out]; exact ptrim_stop hkp h
      have HVV := Lib.hid HV
      clear HV hq hq' hs
      generalize sgq (cf p k).num = sg at *
      cases hz : (sg == 0)
      · have hne : cf p k ≠ 0 := of_decide_eq_false (HZ0.out.symm.trans hz)
        have HT3 := Lib.hid (HT2.out hne)
        have HLen : Hid (k + 1 = (ptrim p).length) := by unfold Hid; rw [HT3.out, List.length_take]; have := HN.out; omega
        clear hne
        go_wp2_with fail
        refine HS.out.mono ?_
        rintro e w1 ⟨rfl, hE⟩
        have HE2 := Lib.hid (HE.out.tr hE)
        have HVW := Lib.hid (HVV.out w1 HE2 HLen.out HT3.out)
        clear hE HS c0 c1 c2
        go_wp2_with fail
        go_ret
        exact ⟨_, rfl, HVW.out, HE2.out⟩
      · have HT3 := Lib.hid (HT1.out (of_decide_eq_true (HZ0.out.symm.trans hz)))
        go_wp2_with fail
        refine HS.out.mono ?_
        rintro e w1 ⟨rfl, hE⟩
        have HE2 := Lib.hid (HE.out.tr hE)
        clear hE HS c0 c1 c2
        go_wp2
        go_roundw
        case rel => exact ⟨k, by omega, rfl, HT3, HE2⟩
        case measure => simp
theorem pb_fit {p : Pl} {n : Nat} (hp : PB p n) (hn : n + 1 ≤ KK) (j : Nat) : Fit (cf p j).num.natAbs ∧ Fit (cf p j).den := by
  have h := hp.cf j
  exact ⟨Fit.of (k := n) (by omega) h.1, Fit.of (k := n + 1) hn (Nat.lt_of_le_of_lt h.2 (Nat.pow_lt_pow_right (by omega) (by omega)))⟩
set_option maxHeartbeats 2000000 in
set_option maxRecDepth 100000 in
theorem q8To_any (v : Value) (p : Pl) (n : Nat) (w : World) (h : PQ w v p) (hl : p.length ≤ 1000) (hp : PB p n) (hn : n + 1 ≤ KK) :
    Calls Tryz.prog 49 #[v] w fun e w' => ∃ v', e = .returned v' ∧ SlS w' v' (p.map rb) ∧ Ext w w' := by
  obtain ⟨i0, hi, hz0, hz1, hz2⟩ := info_parts Tryz.infoRat
  obtain ⟨A, c, rfl⟩ := h.slc
  obtain ⟨-, h1, h2, h3⟩ := h.rd
  have HR := Lib.hid h3
  have HFit := Lib.hid (pb_fit hp hn)
  clear h h3 hp hn
  obtain ⟨ln, hln⟩ : ∃ n, p.length = n := ⟨_, rfl⟩
  have HN := Lib.hid hln
  rw [hln] at h1 hl ⊢
  clear hln
  go_enter Tryz.func49, Tryz.ntmps49
  go_wp2
  go_loopw [3, 4] (fun vo vi wr => ∃ (k : Nat), k ≤ ln ∧ vi = .int .i64 k ∧ Hid (OwnS wr w.heap.size vo ((p.take k).map rb)) ∧ Hid (Ext w wr)) (fun _ vi _ => ln - (intOf vi).toNat)
  case atStart => exact ⟨0, Nat.zero_le _, rfl, ⟨rfl, .inl ⟨rfl, rfl⟩⟩, Ext.rfl' w⟩
  case round =>
    obtain ⟨k, hk, rfl, HO, HE⟩ := hrel
    by_cases hlt : k < ln
    · have hkp : k < p.length := by have := HN.out; omega
      obtain ⟨bb, off, x, y, z, rfl, hbb, c0, c1, c2, hq⟩ := HR.out k hkp
      replace c0 := HE.out.cell c0
      replace c1 := HE.out.cell c1
      replace c2 := HE.out.cell c2
      have hq' := hq.ext HE.out
      obtain ⟨b, A1, la, ca, B1, lb, cb, hv, -, -, -⟩ := hq'.ex
      simp only [Value.agg.injEq, Array.mk.injEq, List.cons.injEq, and_true] at hv
      obtain ⟨rfl, rfl, rfl⟩ := hv
      have hs := q3To_any _ _ wr hq' (HFit.out k).1 (HFit.out k).2
      have HS := Lib.hid hs
      have a0 : off + 3 * k + 1 = off + (3 * k + 1) := by omega
      have a1 : off + 3 * k + 2 = off + (3 * k + 2) := by omega
      have a2 : off + k * 3 = off + 3 * k := by omega
      have HTk : Hid ((p.take (k + 1)).map rb = (p.take k).map rb ++ [rb (cf p k)]) := by
        unfold Hid
        rw [List.take_succ_eq_append_getElem hkp, List.map_append, List.map_singleton, cf_lt hkp]
      have hN : ((p.take k).map rb).length + 1 ≤ maxLen := by simp [maxLen]; omega
      have hbig : (((p.take k).map rb).length + 1) * 16 ≤ 140737488355328 := by simp; omega
      clear hq hq' hs hbb
      generalize (p.take k).map rb = r at *
      generalize cf p k = C at *
      go_wp2_with fail
      refine HS.out.mono ?_
      rintro e w1 ⟨rfl, hE⟩
      have HE1 := Lib.hid (HE.out.tr hE)
      have HO1 := Lib.hid (HO.out.ext hE)
      have hbase1 : w.heap.size ≤ w1.heap.size := HE1.out.size
      clear hE HS c0 c1 c2
      go_wp2_with (at_builtin; (refine wpList_append_own _ rfl _ _ 25 rfl w.heap.size 30 i0 (.string ⟨#[]⟩) 1 16 Tryz.underlying25 hi hz0 hz1 hz2 rfl (by decide) _ r.length (strs r) rfl (World.ownsRow.alloc HO1.out _) ⟨w1.heap.size, 0, none⟩ 1 1 _ rfl rfl (cell_one_new _ _ _) (by simp [Value.oneCell']) hN hbig (by simp; omega) ?_); intro v' w2 hown2 hgrow2 _)
      all_goals
        obtain ⟨p1', p2'⟩ := own_grow (news := [rb C]) HO1.out HE1.out hown2 hgrow2
        go_roundw
        case rel => exact ⟨k + 1, by omega, by go_num, by rw [HTk.out]; exact p1', p2'⟩
        case measure => simp [intOf]; omega
    · have hke : k = ln := by omega
      have hV : SlS wr u3 (p.map rb) := by
        have h := HO.out.sl
        rw [hke, ← show p.length = ln from HN.out, List.take_length] at h
        exact h
      have HV := Lib.hid hV
      clear hke hV
      go_wp2
      go_ret
      exact ⟨_, rfl, HV.out, HE.out⟩
end Go.Proofs.YtbldlibijojbjaaGreatDoor.GB
