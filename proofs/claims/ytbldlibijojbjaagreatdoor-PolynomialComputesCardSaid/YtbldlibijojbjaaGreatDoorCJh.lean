import Derived.Test.YtbldlibijojbjaaGreatDoorCJd
namespace Go.Proofs.YtbldlibijojbjaaGreatDoor.GB
set_option linter.unusedVariables false
set_option linter.unusedSimpArgs false
open Go.RowKit Go.Shelf
attribute [local go_sem ↓] Go.wp_at_zero Go.wp_at_succ
theorem SlN.grown0 {w w2 : World} {v v0 : Value} {n : Nat} (h : SlN w v n) (hg : w.grownBy w2 v0.ownBlock) (hT : ∀ g, v0.ownBlock = some g → ∃ cur fr, w.heap[g]? = some (.cells cur 86 fr)) : SlN w2 v n := by
  obtain ⟨A, c, rfl, h1, h2, h3, h4⟩ := h
  have hk : ∀ a, A = some a → w2.heap[a.block]? = w.heap[a.block]? := by
    intro a ha
    obtain ⟨cs', fr, h5⟩ := h4 a ha
    have hlt := (Array.getElem?_eq_some_iff.1 h5).1
    exact hg.block a.block hlt (by
      intro e
      obtain ⟨cur, fr2, h7⟩ := hT _ e.symm
      rw [h5] at h7
      injection h7 with h7
      injection h7 with _ h7
      exact absurd h7 (by decide))
  have hsz : w.heap.size ≤ w2.heap.size := hg.size
  refine ⟨A, c, rfl, h1, h2, fun j hj => ?_, fun a ha => ?_⟩
  · obtain ⟨b, off, e, hb, hcell⟩ := h3 j hj
    exact ⟨b, off, e, Nat.lt_of_lt_of_le hb hsz, (World.cell?_of_block (w := w) (w' := w2) (a := ⟨b, off + j, none⟩) (show w2.heap[b]? = w.heap[b]? from hk _ e)).trans hcell⟩
  · obtain ⟨cs', fr, h5⟩ := h4 a ha
    exact ⟨cs', fr, (hk a ha).trans h5⟩
theorem QV.grown0 {w w2 : World} {v v0 : Value} {q : Rat} (h : QV w v q) (hg : w.grownBy w2 v0.ownBlock) (hT : ∀ g, v0.ownBlock = some g → ∃ cur fr, w.heap[g]? = some (.cells cur 86 fr)) : QV w2 v q := by
  obtain ⟨vn, vd, e, h1, h2⟩ := h; exact ⟨vn, vd, e, SlN.grown0 h1 hg hT, SlN.grown0 h2 hg hT⟩
theorem QL.append {w : World} {l m : List V3} {p r : Pl} (h : QL w l p) (k : QL w m r) : QL w (l ++ m) (p ++ r) := by
  refine ⟨by simp [h.1, k.1], fun j hj => ?_⟩
  have hl := h.1
  by_cases e : j < l.length
  · have := h.2 j e
    rw [List.getElem_append_left e]
    have e2 : cf (p ++ r) j = cf p j := by simp only [cf, List.getD_eq_getElem?_getD]; rw [List.getElem?_append_left (by omega)]
    rw [e2]; exact this
  · have hj2 : j - l.length < m.length := by simp at hj; omega
    have e2 : cf (p ++ r) j = cf r (j - l.length) := by simp only [cf, List.getD_eq_getElem?_getD]; rw [List.getElem?_append_right (by omega), hl]
    rw [e2, List.getElem_append_right (by omega)]
    exact k.2 _ hj2
theorem ownq_app {w wr w2 : World} {v v' : Value} {l m : List V3} {p r : Pl} (HO : OwnQ wr w.heap.size v l p) (HE : Ext w wr) (hm : QL wr m r)
    (hown : w2.ownsRow w.heap.size 86 3 v' (l.length + m.length) (qcells l ++ qcells m)) (hgrow : wr.grownBy w2 v.ownBlock) : OwnQ w2 w.heap.size v' (l ++ m) (p ++ r) ∧ Ext w w2 := by
  have hT : ∀ g, v.ownBlock = some g → ∃ cur fr, wr.heap[g]? = some (.cells cur 86 fr) := by
    intro g hg
    rcases HO.1.2 with ⟨rfl, _⟩ | ⟨g', cap, cur, rfl, hb, hh, _⟩
    · simp [Value.ownBlock] at hg
    · have : g' = g := by simpa [Value.ownBlock] using hg
      subst this
      exact ⟨cur, _, hh⟩
  refine ⟨⟨?_, ?_⟩, HE.gr hgrow ?_⟩
  · rw [qcells_append, List.length_append]
    exact hown
  · have h1 : QL w2 l p := ⟨HO.2.1, fun j hj => (HO.2.2 j hj).grown0 hgrow hT⟩
    have h2 : QL w2 m r := ⟨hm.1, fun j hj => (hm.2 j hj).grown0 hgrow hT⟩
    exact h1.append h2
  · intro k hk
    rcases HO.1.2 with ⟨rfl, _⟩ | ⟨g, cap, cur, rfl, hb, _⟩
    · simp [Value.ownBlock] at hk
    · have : g = k := by simpa [Value.ownBlock] using hk
      omega
theorem rdq_vals {w : World} {A : Option Addr} {p : Pl} (h : RdQ w A p) (hne : 0 < p.length) : ∃ b off, A = some ⟨b, off, none⟩ ∧ ∃ m : List V3, QL w m p ∧ (qcells m).length = p.length * 3 ∧ (∀ j u, (qcells m)[j]? = some u → w.cell? ((⟨b, off, none⟩ : Addr).add j) = some u) ∧ ∀ u ∈ qcells m, u.oneCell' = true := by
  obtain ⟨b, off, -, -, -, hA, -⟩ := h 0 hne
  have hx : ∀ j : Fin p.length, ∃ t : V3, w.cell? ⟨b, off + 3 * j, none⟩ = some t.1 ∧ w.cell? ⟨b, off + (3 * j + 1), none⟩ = some t.2.1 ∧ w.cell? ⟨b, off + (3 * j + 2), none⟩ = some t.2.2 ∧ QV w (.agg #[t.1, t.2.1, t.2.2]) (cf p j) := by
    intro j
    obtain ⟨b', off', x, y, z, hA', h1, h2, h3, h4, h5⟩ := h j j.2
    rw [hA] at hA'
    cases hA'
    exact ⟨(x, y, z), h2, h3, h4, h5⟩
  obtain ⟨f, hf⟩ : ∃ f : Fin p.length → V3, ∀ j : Fin p.length, w.cell? ⟨b, off + 3 * j, none⟩ = some (f j).1 ∧ w.cell? ⟨b, off + (3 * j + 1), none⟩ = some (f j).2.1 ∧ w.cell? ⟨b, off + (3 * j + 2), none⟩ = some (f j).2.2 ∧ QV w (.agg #[(f j).1, (f j).2.1, (f j).2.2]) (cf p j) :=
    ⟨fun j => Classical.choose (hx j), fun j => Classical.choose_spec (hx j)⟩
  have hl : (List.ofFn f).length = p.length := List.length_ofFn
  refine ⟨b, off, hA, List.ofFn f, ⟨hl, fun j hj => ?_⟩, by rw [qcells_len, hl], fun j u hu => ?_, fun u hu => ?_⟩
  · rw [List.getElem_ofFn]
    exact (hf ⟨j, by omega⟩).2.2.2
  · have hj : j < (qcells (List.ofFn f)).length := (List.getElem?_eq_some_iff.1 hu).1
    rw [qcells_len, hl] at hj
    have hj3 : j / 3 < (List.ofFn f).length := by omega
    obtain ⟨g1, g2, g3⟩ := qcells_get (List.ofFn f) (j / 3) hj3
    have hF := hf ⟨j / 3, by omega⟩
    rw [List.getElem_ofFn] at g1 g2 g3
    have hadd : (⟨b, off, none⟩ : Addr).add j = ⟨b, off + j, none⟩ := by
      simp only [Addr.add]
      by_cases h0 : j = 0
      · subst h0; simp
      · rw [if_neg h0]
    rw [hadd]
    rcases (by omega : j = 3 * (j / 3) ∨ j = 3 * (j / 3) + 1 ∨ j = 3 * (j / 3) + 2) with e | e | e
    · rw [e] at hu ⊢; rw [g1] at hu; cases hu; exact hF.1
    · rw [e] at hu ⊢; rw [g2] at hu; cases hu; exact hF.2.1
    · rw [e] at hu ⊢; rw [g3] at hu; cases hu; exact hF.2.2.1
  · unfold qcells at hu
    obtain ⟨t, ht, hu⟩ := List.mem_flatMap.1 hu
    obtain ⟨j, rfl⟩ := List.mem_ofFn.1 ht
    obtain ⟨s1, A1, la, ca, B1, lb, cb, hv, -, -, -⟩ := (hf j).2.2.2.ex
    simp only [Value.agg.injEq, Array.mk.injEq, List.cons.injEq, and_true] at hv
    obtain ⟨e1, e2, e3⟩ := hv
    simp only [List.mem_cons, List.not_mem_nil, or_false] at hu
    rcases hu with rfl | rfl | rfl
    · rw [e1]; rfl
    · rw [e2]; rfl
    · rw [e3]; rfl
/-- The product with a power of the variable. -/
def prs (k : Nat) (p : Pl) : Pl := if p = [] then [] else List.replicate k 0 ++ p
theorem cf_prs (k : Nat) (p : Pl) (i : Nat) : cf (prs k p) i = if i < k then 0 else cf p (i - k) := by
  unfold prs
  split
  · rename_i h; subst h; simp [cf]
  · split
    · simp only [cf, List.getD_eq_getElem?_getD]; rw [List.getElem?_append_left (by simp; omega), List.getElem?_replicate]; simp [*]
    · simp only [cf, List.getD_eq_getElem?_getD]; rw [List.getElem?_append_right (by simp; omega)]; simp
theorem prs_len (k : Nat) (p : Pl) : (prs k p).length = if p = [] then 0 else k + p.length := by
  unfold prs; split <;> simp
theorem PB.prs {p : Pl} {n : Nat} (h : PB p n) (k : Nat) : PB (prs k p) n := by
  intro q hq
  unfold GB.prs at hq
  split at hq
  · cases hq
  · rcases List.mem_append.1 hq with hq | hq
    · rw [(List.mem_replicate.1 hq).2]; exact (Bd.of_int 0 0 (by decide)).mono (Nat.zero_le _)
    · exact h q hq
set_option maxHeartbeats 8000000 in
set_option maxRecDepth 200000 in
theorem q8Raise_v (v1 : Value) (p : Pl) (d : Nat) (w : World) (h1 : PQ w v1 p) (l1 : p.length ≤ 500) (hd : d ≤ 500) :
    Calls Tryz.prog 98 #[v1, .int .i64 d] w (RetPQ (prs d p) w) := by
  obtain ⟨i0, hi, hz0, hz1, hz2⟩ := info_parts Tryz.infoQ
  obtain ⟨A, ca, rfl⟩ := h1.slc
  obtain ⟨-, hc1, hc2, hr⟩ := h1.rd
  obtain ⟨lp, hlp⟩ : ∃ k, p.length = k := ⟨_, rfl⟩
  by_cases h0 : lp = 0
  · have hp0 : p = [] := List.eq_nil_of_length_eq_zero (by omega)
    have hpr : prs d p = [] := by rw [hp0]; rfl
    rw [hpr, hlp, h0]
    clear h1 hr hlp
    go_enter Tryz.func98, Tryz.ntmps98
    go_wp2_with fail
    go_ret
    exact ⟨_, rfl, PQ.nil _, Ext.rfl' _⟩
  · have hpr : Hid (prs d p = List.replicate d 0 ++ p) := by unfold Hid prs; rw [if_neg (fun e => h0 (by rw [← hlp, e]; rfl))]
    rw [hpr.out]
    have HR := Lib.hid hr
    have HLN := Lib.hid hlp
    have HI0 : Hid (∀ W, Calls Tryz.prog 97 #[.int .i64 0] W (RetQ3 0 W)) := fun W => q3Int_any 0 W (by omega) (by omega)
    rw [hlp] at l1 ⊢
    have hzz : ((lp : Int) == 0) = false := beq_eq_false_iff_ne.2 (by omega)
    clear h1 hr hlp hc1 hc2 hpr
    go_enter Tryz.func98, Tryz.ntmps98
    go_wp2_with fail
    go_loopw [5, 6] (fun vo vi wr => ∃ (k : Nat) (q : List V3), k ≤ d ∧ q.length = k ∧ vi = .int .i64 k ∧ Hid (OwnQ wr w.heap.size vo q (List.replicate k 0)) ∧ Hid (Ext w wr)) (fun _ vi _ => d - (intOf vi).toNat)
    case atStart => exact ⟨0, [], Nat.zero_le _, rfl, rfl, OwnQ.nil _ _, Ext.rfl' w⟩
    case round =>
      obtain ⟨k, q, hk, hqk, rfl, HO, HE⟩ := hrel
      by_cases hlt : k < d
      · have hmax : q.length + 1 ≤ maxLen := by unfold maxLen; omega
        have hbig : (q.length + 1) * 56 ≤ 140737488355328 := by omega
        have hlz : (k : Int) < (d : Int) := by omega
        go_wp2_with fail
        refine (HI0.out _).mono ?_
        rintro e w3 ⟨v, rfl, hv, hE⟩
        obtain ⟨s3, Z3, l3, c3, Y3, m3, d3, rfl, -, -, -⟩ := hv.ex
        have HO3 := OwnQ.hext HO hE
        have HE3 := Lib.hid (HE.out.tr hE)
        have HV3 := Lib.hid hv
        have hb3 : w.heap.size ≤ w3.heap.size := HE3.out.size
        clear hE hv HO HE
        go_wp2_with (at_builtin; (refine wpList_append_own _ rfl _ _ 58 rfl w.heap.size 86 i0 (.agg #[.bool false, .slice none 0 0, .slice none 0 0]) 3 56 Tryz.underlying58 hi hz0 hz1 hz2 rfl (by decide) _ q.length (qcells q) rfl (World.ownsRow.alloc HO3.out.1 _) ⟨w3.heap.size, 0, none⟩ 1 1 [.bool s3, .slice Z3 l3 c3, .slice Y3 m3 d3] rfl rfl (World.news_of_block (cs := #[.bool s3, .slice Z3 l3 c3, .slice Y3 m3 d3]) (t := 86) (fr := (0, 0)) (heap_alloc_new w3 _)) (by simp [Value.oneCell']) hmax hbig (by simp; omega) ?_); intro v' wz hown hgrow _)
        all_goals
          obtain ⟨p1, p2⟩ := ownq_push (t := (.bool s3, .slice Z3 l3 c3, .slice Y3 m3 d3)) HO3.out HE3.out HV3.out hown hgrow
          go_roundw
          case rel => exact ⟨k + 1, q ++ [(.bool s3, .slice Z3 l3 c3, .slice Y3 m3 d3)], by omega, by simp; omega, by go_num, by unfold Hid; rw [List.replicate_succ']; exact p1, p2⟩
          case measure => simp [intOf]; omega
      · have hke : k = d := by omega
        subst hke
        obtain ⟨b, off, rfl, m, hm, hml, hmc, hm1⟩ := rdq_vals (HR.out.ext HE.out) (by rw [HLN.out]; omega)
        have hmm : m.length = lp := by rw [hm.1]; exact HLN.out
        rw [show p.length = lp from HLN.out] at hml
        have HM := Lib.hid hm
        have hmax : q.length + lp ≤ maxLen := by unfold maxLen; omega
        have hbig : (q.length + lp) * 56 ≤ 140737488355328 := by omega
        have hlz : ¬ (k : Int) < (k : Int) := by omega
        have hb3 : w.heap.size ≤ wr.heap.size := HE.out.size
        have HMM := Lib.hid hmm
        clear hm hmm hk
        go_wp2_with (at_builtin; (refine wpList_append_own _ rfl _ _ 58 rfl w.heap.size 86 i0 (.agg #[.bool false, .slice none 0 0, .slice none 0 0]) 3 56 Tryz.underlying58 hi hz0 hz1 hz2 rfl (by decide) _ q.length (qcells q) rfl HO.out.1 ⟨b, off, none⟩ lp ca (qcells m) rfl hml hmc hm1 hmax hbig hb3 ?_); intro v' wz hown hgrow _)
        all_goals
          rw [← show m.length = lp from HMM.out] at hown
          obtain ⟨p1, p2⟩ := ownq_app HO.out HE.out HM.out hown hgrow
          have P1 := Lib.hid p1.pq
          have P2 := Lib.hid p2
          clear p1 p2 hown hgrow
          go_wp2
          go_ret
          exact ⟨_, rfl, P1.out, P2.out⟩
end Go.Proofs.YtbldlibijojbjaaGreatDoor.GB
