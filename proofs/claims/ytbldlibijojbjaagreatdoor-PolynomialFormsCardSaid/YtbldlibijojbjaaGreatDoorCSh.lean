import Derived.Test.YtbldlibijojbjaaGreatDoorMBk
namespace Go.Proofs.YtbldlibijojbjaaGreatDoor.GB
set_option linter.unusedVariables false
set_option linter.unusedSimpArgs false
open Go.RowKit Go.Shelf
attribute [local go_sem] Oper.semAt_some

/-- One round of a shift. -/
def shr (a c : Rat) (O : Pl) : Pl := ptrim (padd (ptrim (pmul O [a, 1])) (ptrim [c]))
def shf {b : Nat} (a : Rat) (pre : List (NQ b)) : Pl := pre.foldl (fun O x => shr a x.1.2 O) []
theorem shf_snoc {b : Nat} (a : Rat) (pre : List (NQ b)) (x : NQ b) : shf a (pre ++ [x]) = shr a x.1.2 (shf a pre) := by simp [shf]
/-- The bits behind some rounds. -/
def sfB (n m : Nat) : Nat → Nat
  | 0 => 0
  | k + 1 => 2 * sfB n m k + m + n + 2
theorem sfB_mono {n m s t : Nat} (h : s ≤ t) : sfB n m s ≤ sfB n m t := by
  induction t with
  | zero => have : s = 0 := by omega
            subst this; exact Nat.le_refl _
  | succ t ih =>
    rcases Nat.lt_or_ge t s with h1 | h1
    · have : s = t + 1 := by omega
      subst this; exact Nat.le_refl _
    · have := ih h1
      show sfB n m s ≤ 2 * sfB n m t + m + n + 2
      omega
theorem cf_lin (O : Pl) (a : Rat) (j : Nat) : cf (pmul O [a, 1]) j = a * cf O j + (match j with | 0 => 0 | i + 1 => cf O i) := by
  rw [pmul_comm O [a, 1] j]
  cases j with
  | zero => rw [cf_pmul_zero, Rat.add_zero]
  | succ i => rw [cf_pmul_succ, pmul_one O i]
theorem shr_pb {a c : Rat} {O : Pl} {n m b : Nat} (hO : PB O b) (ha : Bd a m) (hc : Bd c n) : PB (ptrim (pmul O [a, 1])) (2 * b + m + 1) ∧ PB (shr a c O) (2 * b + m + n + 2) := by
  have h1 : PB (ptrim (pmul O [a, 1])) (2 * b + m + 1) := PB.trim fun j => by
    rw [cf_lin]
    cases j with
    | zero => exact ((ha.mul (hO.cf 0)).add ((Bd.of_int 0 0 (by decide)).mono (Nat.zero_le b))).mono (by omega)
    | succ i => exact ((ha.mul (hO.cf (i + 1))).add (hO.cf i)).mono (by omega)
  refine ⟨h1, PB.trim fun j => ?_⟩
  rw [cf_padd]
  have h2 : PB (ptrim [c]) n := PB.trim fun i => by
    cases i with
    | zero => exact hc
    | succ i => have e : cf [c] (i + 1) = 0 := cf_ge (by simp); rw [e]; exact (Bd.of_int 0 0 (by decide)).mono (Nat.zero_le _)
  exact ((h1.cf j).add (h2.cf j)).mono (by omega)
theorem shr_tr (a c : Rat) (O : Pl) : Tr (shr a c O) := tr_ptrim _
theorem padd_len (a b : Pl) : (padd a b).length = max a.length b.length := by
  induction a generalizing b with
  | nil => cases b <;> simp [padd]
  | cons x a ih => cases b with
    | nil => simp [padd]
    | cons y b => simp [padd, ih]
theorem pmul_len (a b : Pl) : (pmul a b).length ≤ a.length + b.length := by
  induction a with
  | nil => simp [pmul]
  | cons x a ih => rw [pmul, padd_len]; simp [psc]; omega
theorem shr_len (a c : Rat) (O : Pl) : (shr a c O).length ≤ O.length + 2 := by
  unfold shr
  refine Nat.le_trans (ptrim_len _) ?_
  rw [padd_len]
  have h1 := ptrim_len (pmul O [a, 1])
  have h2 := pmul_len O [a, 1]
  have h3 := ptrim_len [c]
  simp at h2 h3
  omega
theorem PS.new (W : World) (p : Pl) (T : TypeId) (hl : p.length ≤ 100000) : PS (W.alloc (.cells (p.map rtx).toArray T)) (.slice (some ⟨W.heap.size, 0, none⟩) p.length p.length) p := by
  refine ⟨some ⟨W.heap.size, 0, none⟩, p.length, by rw [List.length_map], by simp, ?_, ?_⟩
  · omega
  · intro j hj
    refine ⟨W.heap.size, 0, rfl, by simp, ?_⟩
    have hj' : j < p.length := by simpa using hj
    rw [Lib.cell_of_heap (World.alloc_heap_new W _)]
    simp [hj', rb]
theorem PS.kept {X Y : World} {v : Value} {p : Pl} {row : Option Nat} (h : PS X v p) (hg : X.grownBy Y row) (hr : ∀ r, row = some r → ∃ o : Obj, X.heap[r]? = some o ∧ o.isCells = false) : PS Y v p := by
  obtain ⟨A, c, rfl, h1, h2, h3⟩ := h
  refine ⟨A, c, rfl, h1, h2, fun j hj => ?_⟩
  obtain ⟨b, off, e, hb, hc⟩ := h3 j hj
  exact ⟨b, off, e, Nat.lt_of_lt_of_le hb hg.size, cell_kept hc hg hr⟩
theorem PS.set_box {W : World} {v : Value} {p : Pl} {g : Nat} {T : TypeId} {A : Option Addr} {n c : Nat} (h : PS W v p) (hb : Boxed W g T (.slice A n c)) (u : Value) : PS (W.setCell ⟨g, 0, none⟩ u) v p := by
  obtain ⟨A', c', rfl, h1, h2, h3⟩ := h
  refine ⟨A', c', rfl, h1, h2, fun j hj => ?_⟩
  obtain ⟨b, off, e, hb', hc⟩ := h3 j hj
  have hne : b ≠ g := by
    rintro rfl
    rw [Lib.cell_of_heap (show W.heap[b]? = some (.cells #[.slice A n c] T (0, 0)) from hb)] at hc
    cases hk : off + j with
    | zero => rw [hk] at hc; simp at hc
    | succ k => rw [hk] at hc; simp at hc
  refine ⟨b, off, e, by simp [World.setCell]; exact hb', ?_⟩
  rw [World.cell?_setCell_other _ _ _ _ (by simp [Ne.symm hne])]
  exact hc
theorem shf_len {b : Nat} (a : Rat) (pre : List (NQ b)) : (shf a pre).length ≤ 2 * pre.length := by
  generalize hk : pre.length = k
  induction k generalizing pre with
  | zero => rw [List.eq_nil_of_length_eq_zero hk]; simp [shf]
  | succ k ih =>
    obtain ⟨q, x, rfl⟩ : ∃ q x, pre = q ++ [x] := ⟨pre.dropLast, pre.getLast (by intro e; rw [e] at hk; cases hk), (List.dropLast_concat_getLast _).symm⟩
    rw [shf_snoc]
    have := ih q (by simpa using hk)
    have := shr_len a x.1.2 (shf a q)
    omega
theorem shf_tr {b : Nat} (a : Rat) (pre : List (NQ b)) : Tr (shf a pre) := by
  rcases List.eq_nil_or_concat pre with rfl | ⟨q, x, rfl⟩
  · exact tr_nil
  · rw [List.concat_eq_append, shf_snoc]; exact shr_tr _ _ _
theorem tr_a1 (a : Rat) : Tr [a, 1] := by simp [Tr]
set_option maxHeartbeats 4000000 in
set_option maxRecDepth 100000 in
theorem shift_some (A : Option Addr) (c : Nat) (p : Pl) (X : Rat) (zl : Nat) (n m : Nat) (w : World) (HZ : Hid (zl = p.length)) (hl : zl ≤ 1000) (hW : Wd w) (hA : PS w (.slice A zl c) p) (hp : PB p n) (hX : Bd X m) (hm1 : 1 ≤ m)
    (hk : (2 * zl + 1) * (sfB n m zl + m + 1) + sfB n m zl + m + n + 10 ≤ KK)
    (hv1 : VA (.slice A zl c) true w) (hv2 : ∀ W, Ext w W → Calls Tryz.prog 41 #[rtx X] W fun e w' => e = .returned (.bool true) ∧ Ext W w') :
    Calls Tryz.prog 37 #[.slice A zl c, rtx X] w (RetQ0 (fun W v => PS W v (shf X (pdn n p zl))) w) := by
  refine (callsIn_wide (n := 5)).1 ?_
  have HA := Lib.hid hA
  clear hA
  refine callsIn_of_wp_marks Tryz.func37 rfl trivial ?_ rfl
  simp only [Tryz.ntmps37, List.size_toArray, List.length_cons, List.length_nil, Nat.reduceAdd, Nat.reduceSub, Array.replicate_succ, Array.replicate_zero, List.push_toArray, List.append_toArray, List.nil_append, List.cons_append]
  have E0 := (Ext.rfl' w).al (.cells #[rtx X] 30)
  have b3 := Boxed.new w 30 (rtx X)
  gi_wp2
  generalize w.alloc (.cells #[rtx X] 30) = W0 at *
  refine ⟨trivial, ?_⟩
  refine (callsIn_wide.2 (hv1 _ E0)).mono ?_
  rintro e w1 ⟨rfl, hE1⟩
  replace b3 := b3.kept (ext_grown hE1) (by simp)
  have E1 := E0.tr hE1
  have hc3 := b3.cell
  clear hE1 E0
  gi_wp2
  refine ⟨trivial, ?_⟩
  refine (callsIn_wide.2 (hv2 _ E1)).mono ?_
  rintro e w2 ⟨rfl, hE2⟩
  replace b3 := b3.kept (ext_grown hE2) (by simp)
  have E2 := E1.tr hE2
  clear hE2 E1 hc3 hv1 hv2
  gi_wp2
  have b6 := Boxed.new w2 55 (.slice none 0 0)
  have hz2 : w.heap.size < w2.heap.size := b3.lt
  replace b3 := b3.alloc (.cells #[.slice none 0 0] 55)
  have E3 := E2.al (.cells #[.slice none 0 0] 55)
  have hz3 : (w2.alloc (.cells #[.slice none 0 0] 55)).heap.size = w2.heap.size + 1 := World.size_alloc _ _
  generalize w2.alloc (.cells #[.slice none 0 0] 55) = w3 at *
  refine ⟨trivial, ?_⟩
  refine (pbackward_in Fence.wide (5 - 1) trivial rfl A zl c w3).mono ?_
  rintro e w4 ⟨rfl, rfl⟩
  have bx := Boxed.new w3 25 (.slice A zl c)
  replace b3 := b3.alloc (.cells #[.slice A zl c] 25)
  replace b6 := b6.alloc (.cells #[.slice A zl c] 25)
  have E4 := E3.al (.cells #[.slice A zl c] 25)
  have hz4 : (w3.alloc (.cells #[.slice A zl c] 25)).heap.size = w2.heap.size + 1 + 1 := by rw [World.size_alloc, hz3]
  generalize w3.alloc (.cells #[.slice A zl c] 25) = w4 at *
  rw [hz3] at *
  clear E3 E2
  generalize w2.heap.size = g at *
  clear hz3
  gi_wp2
  have hst := pback_stops Fence.wide (5 - 1) trivial rfl (by omega) (g + 1) w.heap.size A c p zl HZ (by omega) n hp w w4 rfl E4 (by omega) HA.out bx.cell
  refine wpIn_rangeFunc_ownF (F := Fence.wide) rfl (by omega) (gf := 103) (lb := #[.pointer (some ⟨g + 1, 0, none⟩)]) rfl trivial (enters_of Tryz.func103 (by kernel_rfl) rfl)
    hst Kps.t (Kps.b (by omega)) (Below.refl _ _) (fun _ => rfl)
    (fun pre W => ((∃ v, Boxed W g 55 v ∧ PS W v (shf X pre)) ∧ Boxed W w.heap.size 30 (rtx X) ∧ Boxed W (g + 1) 25 (.slice A zl c) ∧ PB (shf X pre) (sfB n m pre.length)) ∧ Below w.heap.size w W)
    (fun _ _ _ => False)
    (OwnFrom.and (Own.from (fun s X Y row hs hg hr => ⟨(by obtain ⟨v, h1, h2⟩ := hs.1; exact ⟨v, (grownBy_keeps_cells hg hr h1 rfl).trans h1, h2.kept hg hr⟩), (grownBy_keeps_cells hg hr hs.2.1 rfl).trans hs.2.1, (grownBy_keeps_cells hg hr hs.2.2.1 rfl).trans hs.2.2.1, hs.2.2.2⟩) _) (ownFrom_below (Nat.le_refl _) (by omega)))
    (fun _ _ _ _ _ hs _ _ => hs)
    ⟨⟨⟨_, b6, PS.nil _⟩, b3, bx, PB.nil _⟩, E4⟩
    (fun x => { tmps := #[.slice A zl c, rtx X, undef, .pointer (some ⟨w.heap.size, 0, none⟩), .slice none 0 0, .int .i64 0, .pointer (some ⟨g, 0, none⟩), undef, rtx x.1.2, .slice A zl c, .bool true, .bool false, .bool false, rtx X, .bool true, .bool false, .bool false, .slice A zl c, .func (.func 103) #[] #[.pointer (some ⟨g + 1, 0, none⟩)], .int .i64 (x.1.1 : Int), rtx x.1.2, undef, undef, undef, undef, undef, undef, undef, undef, undef], defers := [] }) ?assign ?body ?done ?stop
  case assign =>
    intro l x W K hK
    gi_wp2
    exact hK
  case body =>
    rintro l pre ⟨⟨i, C⟩, hi1, hbC⟩ W ⟨⟨⟨v, h6, hv⟩, h3, hx, hbd⟩, hb⟩ hpl
    dsimp only at hi1 hbC ⊢
    obtain ⟨B, cb, rfl⟩ := hv.sl
    have hWw : Wd W := Wd.ext hW hb
    have hc6 := h6.cell
    have hc3 := h3.cell
    have hlen := shf_len X pre
    have htr := shf_tr X pre
    have hsb : sfB n m (pre.length + 1) ≤ sfB n m zl := sfB_mono (by omega)
    have hse : sfB n m (pre.length + 1) = 2 * sfB n m pre.length + m + n + 2 := rfl
    have hs := shf_snoc X pre ⟨(i, C), hi1, hbC⟩
    dsimp only at hs
    generalize hO : shf X pre = O at *
    obtain ⟨hb1, hb2⟩ := shr_pb hbd hX hbC
    rw [← hse] at hb2
    have hX1 : PB [X, 1] m := by
      intro q hq
      simp at hq
      rcases hq with rfl | rfl
      · exact hX
      · exact (Bd.of_int 1 1 (by decide)).mono hm1
    have hC1 : PB [C] n := by intro q hq; simp at hq; subst hq; exact hbC
    have hkk : (O.length + 1) * (sfB n m pre.length + m + 1) + (sfB n m pre.length + m) + 3 ≤ KK := by
      have : (O.length + 1) * (sfB n m pre.length + m + 1) ≤ (2 * zl + 1) * (sfB n m zl + m + 1) := Nat.mul_le_mul (by omega) (by omega)
      omega
    have hT := fun W' (hE : Ext W W') (v2 : Value) (h2 : PS W' v2 [X, 1]) => ptimes_v (.slice B O.length cb) v2 O [X, 1] _ m W' (hWw.ext hE) (hv.ext hE) h2 hbd hX1 htr (tr_a1 X) (by omega) (by simp) hkk
    have hP := fun W' (hE : Ext W W') (v1 v2 : Value) (h1 : PS W' v1 (ptrim (pmul O [X, 1]))) (h2 : PS W' v2 (ptrim [C])) => pplus_v v1 v2 _ _ _ n W' (hWw.ext hE) h1 h2 hb1 (PB.trim hC1.cf) (by omega) (by have h1 := ptrim_len (pmul O [X, 1]); have h2 := pmul_len O [X, 1]; simp at h2; omega) (by have h1 := ptrim_len [C]; simp at h1; omega)
    have HT := Lib.hid hT
    have HPp := Lib.hid hP
    have HS := Lib.hid hs
    have HB2 := Lib.hid hb2
    have HOe := Lib.hid hO
    clear hT hP hs hb2 hO hb1 hse hsb hkk
    generalize hol : O.length = ol at *
    have HOL := Lib.hid hol
    clear hol
    have e1 : rtx 1 = .string ⟨#[49]⟩ := by
      show Value.string _ = Value.string _
      have h1 : rtext 1 = [49] := by
        rw [rtext_int rfl]
        have h := itoa_nat 1
        rw [dec_small (by omega)] at h
        exact h
      rw [h1]
    have hp1 := PS.new W [X, 1] 30 (by simp)
    simp only [List.map_cons, List.map_nil, List.length_cons, List.length_nil] at hp1
    rw [e1] at hp1
    have HE1 := Lib.hid ((Ext.rfl' W).al (.cells #[rtx X, .string ⟨#[49]⟩] 30))
    have HP1 := Lib.hid hp1
    clear hp1 e1 hv
    gi_wp2
    refine ⟨trivial, ?_⟩
    refine (CallsIn.inRound l (callsIn_wide.2 (HT.out _ HE1.out _ HP1.out))).mono ?_
    rintro e W1 ⟨v1, rfl, hv1, hE1⟩
    have HE2 := Lib.hid (HE1.out.tr hE1)
    have HV1 := Lib.hid hv1
    clear hE1 hv1
    gi_wp2
    have hp2 := PS.new W1 [C] 30 (by simp)
    simp only [List.map_cons, List.map_nil, List.length_cons, List.length_nil] at hp2
    have HE3 := Lib.hid (HE2.out.al (.cells #[rtx C] 30))
    have HP2 := Lib.hid hp2
    have HV2 := Lib.hid (HV1.out.ext ((Ext.rfl' W1).al (.cells #[rtx C] 30)))
    clear hp2
    refine ⟨trivial, ?_⟩
    refine (CallsIn.inRound l (callsIn_wide.2 (ptrimS_v _ _ _ HP2.out))).mono ?_
    rintro e W2 ⟨v2, rfl, hv2, rfl⟩
    rw [tzS_rb] at hv2
    have HV3 := Lib.hid hv2
    clear hv2
    gi_wp2
    refine ⟨trivial, ?_⟩
    refine (CallsIn.inRound l (callsIn_wide.2 (HPp.out _ HE3.out _ _ HV2.out HV3.out))).mono ?_
    rintro e W3 ⟨v3, rfl, hv3, hE3⟩
    have HE4 := Lib.hid (HE3.out.tr hE3)
    clear hE3
    obtain ⟨B3, c3, rfl⟩ := PS.sl (p := shr X C O) hv3
    have HV4 := Lib.hid hv3
    clear hv3
    have k6 := h6.kept (ext_grown HE4.out) (by simp)
    have k3 := h3.kept (ext_grown HE4.out) (by simp)
    have kx := hx.kept (ext_grown HE4.out) (by simp)
    have d6 := k6.cell
    have e6 := k6.frozen
    gi_wp2
    have hkk : Kps w.heap.size (g + 1) W (W3.setCell ⟨g, 0, none⟩ (.slice B3 (shr X C O).length c3)) := by
      have hbB : Below w.heap.size W W3 := HE4.out.mono hb.size
      refine ⟨hbB.setCell (p := ⟨g, 0, none⟩) (by show w.heap.size ≤ g; omega) _, fun v e => ?_⟩
      rw [World.cell?_setCell_other _ _ _ _ (by simp)]
      exact HE4.out.cell e
    refine ⟨(ext_keeps HE4.out).trans (KeepsOthers.setCell _ _ _), hkk, ⟨⟨_, k6.set _, ?_⟩, ?_, ?_, ?_⟩, hb.trans hkk.1⟩
    · rw [HS.out]; exact PS.set_box HV4.out k6 _
    · exact (Below.heap_setCell _ _ _ _ (by show w.heap.size ≠ g; omega)).trans k3
    · exact (Below.heap_setCell _ _ _ _ (by show g + 1 ≠ g; omega)).trans kx
    · rw [HS.out, List.length_append, List.length_singleton]; exact HB2.out
  case done =>
    rintro D ys W hD rfl ⟨⟨⟨v, h6, hv⟩, h3, hx, hbd⟩, hb⟩ hK
    obtain ⟨B, cb, rfl⟩ := hv.sl
    have hc6 := h6.cell
    have HV := Lib.hid hv
    clear hv
    gi_wp2
    refine ⟨by simp, .inl ⟨_, _, rfl, run_takeDeferred hK, ?_⟩⟩
    refine ⟨_, results_tmp2 rfl _ _ _, ?_⟩
    exact ⟨_, rfl, HV.out.kept (grownBy_putObj' W D _) (fun r e => by cases e; exact ⟨_, hK, rfl⟩), hb.trans (belowK_b (w := w) (Nat.le_refl _) W D _ _ (by omega) hK rfl rfl)⟩
  case stop =>
    rintro D c pre W _ _ h _
    exact h.elim
end Go.Proofs.YtbldlibijojbjaaGreatDoor.GB
