import Derived.Test.YtbldlibijojbjaaGreatDoorMPa
import Derived.Test.YtbldlibijojbjaaGreatDoorMIk
import Derived.Test.YtbldlibijojbjaaGreatDoorMPq
import Derived.Test.YtbldlibijojbjaaGreatDoorMNum
import Derived.Deep.RegionHeld3
import Derived.Test.YtbldlibijojbjaaGreatDoorCIp
namespace Go.Proofs.YtbldlibijojbjaaGreatDoor.GB
set_option linter.unusedVariables false
set_option linter.unusedSimpArgs false
open Go.RowKit Go.Shelf
attribute [local go_sem] Oper.semAt_some

/-- One round of a shift. -/
def shr (a c : Rat) (O : Pl) : Pl := ptrim (padd (ptrim (pmul O [a, 1])) (ptrim [c]))
def shf {b : Nat} (a : Rat) (pre : List (NQ b)) : Pl := pre.foldl (fun O x => shr a x.1.2 O) []
theorem shf_snoc {b : Nat} (a : Rat) (pre : List (NQ b)) (x : NQ b) : shf a (pre ++ [x]) = shr a x.1.2 (shf a pre) := by simp [shf]
/-- The bits behind some rounds. -/
def sfB (n m : Nat) : Nat → Nat
  | 0 => 0
  | k + 1 => 2 * sfB n m k + m + n + 2
theorem sfB_mono {n m s t : Nat} (h : s ≤ t) : sfB n m s ≤ sfB n m t := by
  induction t with
  | zero => have : s = 0 := by omega
            subst this; exact Nat.le_refl _
  | succ t ih =>
    rcases Nat.lt_or_ge t s with h1 | h1
    · have : s = t + 1 := by omega
      subst this; exact Nat.le_refl _
    · have := ih h1
      show sfB n m s ≤ 2 * sfB n m t + m + n + 2
      omega
theorem cf_lin (O : Pl) (a : Rat) (j : Nat) : cf (pmul O [a, 1]) j = a * cf O j + (match j with | 0 => 0 | i + 1 => cf O i) := by
  rw [pmul_comm O [a, 1] j]
  cases j with
  | zero => rw [cf_pmul_zero, Rat.add_zero]
  | succ i => rw [cf_pmul_succ, pmul_one O i]
theorem shr_pb {a c : Rat} {O : Pl} {n m b : Nat} (hO : PB O b) (ha : Bd a m) (hc : Bd c n) : PB (ptrim (pmul O [a, 1])) (2 * b + m + 1) ∧ PB (shr a c O) (2 * b + m + n + 2) := by
  have h1 : PB (ptrim (pmul O [a, 1])) (2 * b + m + 1) := PB.trim fun j => by
    rw [cf_lin]
    cases j with
    | zero => exact ((ha.mul (hO.cf 0)).add ((Bd.of_int 0 0 (by decide)).mono (Nat.zero_le b))).mono (by omega)
    | succ i => exact ((ha.mul (hO.cf (i + 1))).add (hO.cf i)).mono (by omega)
  refine ⟨h1, PB.trim fun j => ?_⟩
  rw [cf_padd]
  have h2 : PB (ptrim [c]) n := PB.trim fun i => by
    cases i with
    | zero => exact hc
    | succ i => have e : cf [c] (i + 1) = 0 := cf_ge (by simp); rw [e]; exact (Bd.of_int 0 0 (by decide)).mono (Nat.zero_le _)
  exact ((h1.cf j).add (h2.cf j)).mono (by omega)
theorem shr_tr (a c : Rat) (O : Pl) : Tr (shr a c O) := tr_ptrim _
theorem padd_len (a b : Pl) : (padd a b).length = max a.length b.length := by
  induction a generalizing b with
  | nil => cases b <;> simp [padd]
  | cons x a ih => cases b with
    | nil => simp [padd]
    | cons y b => simp [padd, ih]
theorem pmul_len (a b : Pl) : (pmul a b).length ≤ a.length + b.length := by
  induction a with
  | nil => simp [pmul]
  | cons x a ih => rw [pmul, padd_len]; simp [psc]; omega
theorem shr_len (a c : Rat) (O : Pl) : (shr a c O).length ≤ O.length + 2 := by
  unfold shr
  refine Nat.le_trans (ptrim_len _) ?_
  rw [padd_len]
  have h1 := ptrim_len (pmul O [a, 1])
  have h2 := pmul_len O [a, 1]
  have h3 := ptrim_len [c]
  simp at h2 h3
  omega
theorem PS.new (W : World) (p : Pl) (T : TypeId) (hl : p.length ≤ 100000) : PS (W.alloc (.cells (p.map rtx).toArray T)) (.slice (some ⟨W.heap.size, 0, none⟩) p.length p.length) p := by
  refine ⟨some ⟨W.heap.size, 0, none⟩, p.length, by rw [List.length_map], by simp, ?_, ?_⟩
  · omega
  · intro j hj
    refine ⟨W.heap.size, 0, rfl, by simp, ?_⟩
    have hj' : j < p.length := by simpa using hj
    rw [Lib.cell_of_heap (World.alloc_heap_new W _)]
    simp [hj', rb]
theorem PS.kept {X Y : World} {v : Value} {p : Pl} {row : Option Nat} (h : PS X v p) (hg : X.grownBy Y row) (hr : ∀ r, row = some r → ∃ o : Obj, X.heap[r]? = some o ∧ o.isCells = false) : PS Y v p := by
  obtain ⟨A, c, rfl, h1, h2, h3⟩ := h
  refine ⟨A, c, rfl, h1, h2, fun j hj => ?_⟩
  obtain ⟨b, off, e, hb, hc⟩ := h3 j hj
  exact ⟨b, off, e, Nat.lt_of_lt_of_le hb hg.size, cell_kept hc hg hr⟩
theorem PS.set_box {W : World} {v : Value} {p : Pl} {g : Nat} {T : TypeId} {A : Option Addr} {n c : Nat} (h : PS W v p) (hb : Boxed W g T (.slice A n c)) (u : Value) : PS (W.setCell ⟨g, 0, none⟩ u) v p := by
  obtain ⟨A', c', rfl, h1, h2, h3⟩ := h
  refine ⟨A', c', rfl, h1, h2, fun j hj => ?_⟩
  obtain ⟨b, off, e, hb', hc⟩ := h3 j hj
  have hne : b ≠ g := by
    rintro rfl
    rw [Lib.cell_of_heap (show W.heap[b]? = some (.cells #[.slice A n c] T (0, 0)) from hb)] at hc
    cases hk : off + j with
    | zero => rw [hk] at hc; simp at hc
    | succ k => rw [hk] at hc; simp at hc
  refine ⟨b, off, e, by simp [World.setCell]; exact hb', ?_⟩
  rw [World.cell?_setCell_other _ _ _ _ (by simp [Ne.symm hne])]
  exact hc
theorem shf_len {b : Nat} (a : Rat) (pre : List (NQ b)) : (shf a pre).length ≤ 2 * pre.length := by
  generalize hk : pre.length = k
  induction k generalizing pre with
  | zero => rw [List.eq_nil_of_length_eq_zero hk]; simp [shf]
  | succ k ih =>
    obtain ⟨q, x, rfl⟩ : ∃ q x, pre = q ++ [x] := ⟨pre.dropLast, pre.getLast (by intro e; rw [e] at hk; cases hk), (List.dropLast_concat_getLast _).symm⟩
    rw [shf_snoc]
    have := ih q (by simpa using hk)
    have := shr_len a x.1.2 (shf a q)
    omega
theorem shf_tr {b : Nat} (a : Rat) (pre : List (NQ b)) : Tr (shf a pre) := by
  rcases List.eq_nil_or_concat pre with rfl | ⟨q, x, rfl⟩
  · exact tr_nil
  · rw [List.concat_eq_append, shf_snoc]; exact shr_tr _ _ _
theorem tr_a1 (a : Rat) : Tr [a, 1] := by simp [Tr]
set_option maxHeartbeats 4000000 in
set_option maxRecDepth 100000 in
theorem shift_some (A : Option Addr) (c : Nat) (p : Pl) (X : Rat) (zl : Nat) (n m : Nat) (w : World) (HZ : Hid (zl = p.length)) (hl : zl ≤ 1000) (hW : Wd w) (hA : PS w (.slice A zl c) p) (hp : PB p n) (hX : Bd X m) (hm1 : 1 ≤ m)
    (hk : (2 * zl + 1) * (sfB n m zl + m + 1) + sfB n m zl + m + n + 10 ≤ KK)
    (hv1 : VA (.slice A zl c) true w) (hv2 : ∀ W, Ext w W → Calls Tryz.prog 41 #[rtx X] W fun e w' => e = .returned (.bool true) ∧ Ext W w') :
    Calls Tryz.prog 37 #[.slice A zl c, rtx X] w (RetQ0 (fun W v => PS W v (shf X (pdn n p zl))) w) := by
  refine (callsIn_wide (n := 5)).1 ?_
  have HA := Lib.hid hA
  clear hA
  refine callsIn_of_wp_marks Tryz.func37 rfl trivial ?_ rfl
  simp only [Tryz.ntmps37, List.size_toArray, List.length_cons, List.length_nil, Nat.reduceAdd, Nat.reduceSub, Array.replicate_succ, Array.replicate_zero, List.push_toArray, List.append_toArray, List.nil_append, List.cons_append]
  have E0 := (Ext.rfl' w).al (.cells #[rtx X] 30)
  have b3 := Boxed.new w 30 (rtx X)
  gi_wp2
  generalize w.alloc (.cells #[rtx X] 30) = W0 at *
  refine ⟨trivial, ?_⟩
  refine (callsIn_wide.2 (hv1 _ E0)).mono ?_
  rintro e w1 ⟨rfl, hE1⟩
  replace b3 := b3.kept (ext_grown hE1) (by simp)
  have E1 := E0.tr hE1
  have hc3 := b3.cell
  clear hE1 E0
  gi_wp2
  refine ⟨trivial, ?_⟩
  refine (callsIn_wide.2 (hv2 _ E1)).mono ?_
  rintro e w2 ⟨rfl, hE2⟩
  replace b3 := b3.kept (ext_grown hE2) (by simp)
  have E2 := E1.tr hE2
  clear hE2 E1 hc3 hv1 hv2
  gi_wp2
  have b6 := Boxed.new w2 55 (.slice none 0 0)
  have hz2 : w.heap.size < w2.heap.size := b3.lt
  replace b3 := b3.alloc (.cells #[.slice none 0 0] 55)
  have E3 := E2.al (.cells #[.slice none 0 0] 55)
  have hz3 : (w2.alloc (.cells #[.slice none 0 0] 55)).heap.size = w2.heap.size + 1 := World.size_alloc _ _
  generalize w2.alloc (.cells #[.slice none 0 0] 55) = w3 at *
  refine ⟨trivial, ?_⟩
  refine (pbackward_in Fence.wide (5 - 1) trivial rfl A zl c w3).mono ?_
  rintro e w4 ⟨rfl, rfl⟩
  have bx := Boxed.new w3 25 (.slice A zl c)
  replace b3 := b3.alloc (.cells #[.slice A zl c] 25)
  replace b6 := b6.alloc (.cells #[.slice A zl c] 25)
  have E4 := E3.al (.cells #[.slice A zl c] 25)
  have hz4 : (w3.alloc (.cells #[.slice A zl c] 25)).heap.size = w2.heap.size + 1 + 1 := by rw [World.size_alloc, hz3]
  generalize w3.alloc (.cells #[.slice A zl c] 25) = w4 at *
  rw [hz3] at *
  clear E3 E2
  generalize w2.heap.size = g at *
  clear hz3
  gi_wp2
  have hst := pback_stops Fence.wide (5 - 1) trivial rfl (by omega) (g + 1) w.heap.size A c p zl HZ (by omega) n hp w w4 rfl E4 (by omega) HA.out bx.cell
  refine wpIn_rangeFunc_ownF (F := Fence.wide) rfl (by omega) (gf := 103) (lb := #[.pointer (some ⟨g + 1, 0, none⟩)]) rfl trivial (enters_of Tryz.func103 (by kernel_rfl) rfl)
    hst Kps.t (Kps.b (by omega)) (Below.refl _ _) (fun _ => rfl)
    (fun pre W => ((∃ v, Boxed W g 55 v ∧ PS W v (shf X pre)) ∧ Boxed W w.heap.size 30 (rtx X) ∧ Boxed W (g + 1) 25 (.slice A zl c) ∧ PB (shf X pre) (sfB n m pre.length)) ∧ Below w.heap.size w W)
    (fun _ _ _ => False)
    (OwnFrom.and (Own.from (fun s X Y row hs hg hr => ⟨(by obtain ⟨v, h1, h2⟩ := hs.1; exact ⟨v, (grownBy_keeps_cells hg hr h1 rfl).trans h1, h2.kept hg hr⟩), (grownBy_keeps_cells hg hr hs.2.1 rfl).trans hs.2.1, (grownBy_keeps_cells hg hr hs.2.2.1 rfl).trans hs.2.2.1, hs.2.2.2⟩) _) (ownFrom_below (Nat.le_refl _) (by omega)))
    (fun _ _ _ _ _ hs _ _ => hs)
    ⟨⟨⟨_, b6, PS.nil _⟩, b3, bx, PB.nil _⟩, E4⟩
    (fun x => { tmps := #[.slice A zl c, rtx X, undef, .pointer (some ⟨w.heap.size, 0, none⟩), .slice none 0 0, .int .i64 0, .pointer (some ⟨g, 0, none⟩), undef, rtx x.1.2, .slice A zl c, .bool true, .bool false, .bool false, rtx X, .bool true, .bool false, .bool false, .slice A zl c, .func (.func 103) #[] #[.pointer (some ⟨g + 1, 0, none⟩)], .int .i64 (x.1.1 : Int), rtx x.1.2, undef, undef, undef, undef, undef, undef, undef, undef, undef], defers := [] }) ?assign ?body ?done ?stop
  case assign =>
    intro l x W K hK
    gi_wp2
    exact hK
  case body =>
    rintro l pre ⟨⟨i, C⟩, hi1, hbC⟩ W ⟨⟨⟨v, h6, hv⟩, h3, hx, hbd⟩, hb⟩ hpl
    dsimp only at hi1 hbC ⊢
    obtain ⟨B, cb, rfl⟩ := hv.sl
    have hWw : Wd W := Wd.ext hW hb
    have hc6 := h6.cell
    have hc3 := h3.cell
    have hlen := shf_len X pre
    have htr := shf_tr X pre
    have hsb : sfB n m (pre.length + 1) ≤ sfB n m zl := sfB_mono (by omega)
    have hse : sfB n m (pre.length + 1) = 2 * sfB n m pre.length + m + n + 2 := rfl
    have hs := shf_snoc X pre ⟨(i, C), hi1, hbC⟩
    dsimp only at hs
    generalize hO : shf X pre = O at *
    obtain ⟨hb1, hb2⟩ := shr_pb hbd hX hbC
    rw [← hse] at hb2
    have hX1 : PB [X, 1] m := by
      intro q hq
      simp at hq
      rcases hq with rfl | rfl
      · exact hX
      · exact (Bd.of_int 1 1 (by decide)).mono hm1
    have hC1 : PB [C] n := by intro q hq; simp at hq; subst hq; exact hbC
    have hkk : (O.length + 1) * (sfB n m pre.length + m + 1) + (sfB n m pre.length + m) + 3 ≤ KK := by
      have : (O.length + 1) * (sfB n m pre.length + m + 1) ≤ (2 * zl + 1) * (sfB n m zl + m + 1) := Nat.mul_le_mul (by omega) (by omega)
      omega
    have hT := fun W' (hE : Ext W W') (v2 : Value) (h2 : PS W' v2 [X, 1]) => ptimes_v (.slice B O.length cb) v2 O [X, 1] _ m W' (hWw.ext hE) (hv.ext hE) h2 hbd hX1 htr (tr_a1 X) (by omega) (by simp) hkk
    have hP := fun W' (hE : Ext W W') (v1 v2 : Value) (h1 : PS W' v1 (ptrim (pmul O [X, 1]))) (h2 : PS W' v2 (ptrim [C])) => pplus_v v1 v2 _ _ _ n W' (hWw.ext hE) h1 h2 hb1 (PB.trim hC1.cf) (by omega) (by have h1 := ptrim_len (pmul O [X, 1]); have h2 := pmul_len O [X, 1]; simp at h2; omega) (by have h1 := ptrim_len [C]; simp at h1; omega)
    have HT := Lib.hid hT
    have HPp := Lib.hid hP
    have HS := Lib.hid hs
    have HB2 := Lib.hid hb2
    have HOe := Lib.hid hO
    clear hT hP hs hb2 hO hb1 hse hsb hkk
    generalize hol : O.length = ol at *
    have HOL := Lib.hid hol
    clear hol
    have e1 : rtx 1 = .string ⟨#[49]⟩ := by
      show Value.string _ = Value.string _
      have h1 : rtext 1 = [49] := by
        rw [rtext_int rfl]
        have h := itoa_nat 1
        rw [dec_small (by omega)] at h
        exact h
      rw [h1]
    have hp1 := PS.new W [X, 1] 30 (by simp)
    simp only [List.map_cons, List.map_nil, List.length_cons, List.length_nil] at hp1
    rw [e1] at hp1
    have HE1 := Lib.hid ((Ext.rfl' W).al (.cells #[rtx X, .string ⟨#[49]⟩] 30))
    have HP1 := Lib.hid hp1
    clear hp1 e1 hv
    gi_wp2
    refine ⟨trivial, ?_⟩
    refine (CallsIn.inRound l (callsIn_wide.2 (HT.out _ HE1.out _ HP1.out))).mono ?_
    rintro e W1 ⟨v1, rfl, hv1, hE1⟩
    have HE2 := Lib.hid (HE1.out.tr hE1)
    have HV1 := Lib.hid hv1
    clear hE1 hv1
    gi_wp2
    have hp2 := PS.new W1 [C] 30 (by simp)
    simp only [List.map_cons, List.map_nil, List.length_cons, List.length_nil] at hp2
    have HE3 := Lib.hid (HE2.out.al (.cells #[rtx C] 30))
    have HP2 := Lib.hid hp2
    have HV2 := Lib.hid (HV1.out.ext ((Ext.rfl' W1).al (.cells #[rtx C] 30)))
    clear hp2
    refine ⟨trivial, ?_⟩
    refine (CallsIn.inRound l (callsIn_wide.2 (ptrimS_v _ _ _ HP2.out))).mono ?_
    rintro e W2 ⟨v2, rfl, hv2, rfl⟩
    rw [tzS_rb] at hv2
    have HV3 := Lib.hid hv2
    clear hv2
    gi_wp2
    refine ⟨trivial, ?_⟩
    refine (CallsIn.inRound l (callsIn_wide.2 (HPp.out _ HE3.out _ _ HV2.out HV3.out))).mono ?_
    rintro e W3 ⟨v3, rfl, hv3, hE3⟩
    have HE4 := Lib.hid (HE3.out.tr hE3)
    clear hE3
    obtain ⟨B3, c3, rfl⟩ := PS.sl (p := shr X C O) hv3
    have HV4 := Lib.hid hv3
    clear hv3
    have k6 := h6.kept (ext_grown HE4.out) (by simp)
    have k3 := h3.kept (ext_grown HE4.out) (by simp)
    have kx := hx.kept (ext_grown HE4.out) (by simp)
    have d6 := k6.cell
    have e6 := k6.frozen
    gi_wp2
    have hkk : Kps w.heap.size (g + 1) W (W3.setCell ⟨g, 0, none⟩ (.slice B3 (shr X C O).length c3)) := by
      have hbB : Below w.heap.size W W3 := HE4.out.mono hb.size
      refine ⟨hbB.setCell (p := ⟨g, 0, none⟩) (by show w.heap.size ≤ g; omega) _, fun v e => ?_⟩
      rw [World.cell?_setCell_other _ _ _ _ (by simp)]
      exact HE4.out.cell e
    refine ⟨(ext_keeps HE4.out).trans (KeepsOthers.setCell _ _ _), hkk, ⟨⟨_, k6.set _, ?_⟩, ?_, ?_, ?_⟩, hb.trans hkk.1⟩
    · rw [HS.out]; exact PS.set_box HV4.out k6 _
    · exact (Below.heap_setCell _ _ _ _ (by show w.heap.size ≠ g; omega)).trans k3
    · exact (Below.heap_setCell _ _ _ _ (by show g + 1 ≠ g; omega)).trans kx
    · rw [HS.out, List.length_append, List.length_singleton]; exact HB2.out
  case done =>
    rintro D ys W hD rfl ⟨⟨⟨v, h6, hv⟩, h3, hx, hbd⟩, hb⟩ hK
    obtain ⟨B, cb, rfl⟩ := hv.sl
    have hc6 := h6.cell
    have HV := Lib.hid hv
    clear hv
    gi_wp2
    refine ⟨by simp, .inl ⟨_, _, rfl, run_takeDeferred hK, ?_⟩⟩
    refine ⟨_, results_tmp2 rfl _ _ _, ?_⟩
    exact ⟨_, rfl, HV.out.kept (grownBy_putObj' W D _) (fun r e => by cases e; exact ⟨_, hK, rfl⟩), hb.trans (belowK_b (w := w) (Nat.le_refl _) W D _ _ (by omega) hK rfl rfl)⟩
  case stop =>
    rintro D c pre W _ _ h _
    exact h.elim
end Go.Proofs.YtbldlibijojbjaaGreatDoor.GB

namespace Go.Proofs.YtbldlibijojbjaaGreatDoor.GB
set_option linter.unusedVariables false
set_option linter.unusedSimpArgs false
open Go.RowKit Go.Shelf
attribute [local go_sem ↓] Go.wp_at_zero Go.wp_at_succ

set_option maxHeartbeats 1000000 in
set_option maxRecDepth 100000 in
theorem integrate_nil (A : Option Addr) (c : Nat) (w : World) (hv : VA (.slice A 0 c) true w) :
    Calls Tryz.prog 35 #[.slice A 0 c] w (RetQ0 (fun W v => PS W v []) w) := by
  go_enter Tryz.func35, Tryz.ntmps35
  go_wp2_with fail
  refine (hv _ (Ext.rfl' _)).mono ?_
  rintro e w0 ⟨rfl, hE0⟩
  go_wp2_with fail
  go_ret2
  exact ⟨_, rfl, PS.nil _, hE0⟩
set_option maxHeartbeats 1000000 in
set_option maxRecDepth 100000 in
theorem integrate_lim (A : Option Addr) (c pn : Nat) (w : World) (h17 : 16 < pn) (hl : pn ≤ 100000) (hv : VA (.slice A pn c) true w) :
    Calls Tryz.prog 35 #[.slice A pn c] w (RetE 15 w) := by
  have h0 : ((pn : Int) == 0) = false := by rw [beq_eq_false_iff_ne]; omega
  go_enter Tryz.func35, Tryz.ntmps35
  go_wp2_with fail
  refine (hv _ (Ext.rfl' _)).mono ?_
  rintro e w0 ⟨rfl, hE0⟩
  go_wp2_with fail
  go_ret2
  exact ⟨rfl, hE0⟩
set_option maxHeartbeats 1000000 in
set_option maxRecDepth 100000 in
theorem integrate_no (v : Value) (w : World) (hv : VA v false w) :
    Calls Tryz.prog 35 #[v] w (RetE 1 w) := by
  go_enter Tryz.func35, Tryz.ntmps35
  go_wp2_with fail
  refine (hv _ (Ext.rfl' _)).mono ?_
  rintro e w0 ⟨rfl, hE0⟩
  go_wp2_with fail
  go_ret2
  exact ⟨rfl, hE0⟩
set_option maxHeartbeats 1000000 in
set_option maxRecDepth 100000 in
theorem derive_no (v : Value) (w : World) (hv : VA v false w) :
    Calls Tryz.prog 33 #[v] w (RetE 1 w) := by
  go_enter Tryz.func33, Tryz.ntmps33
  go_wp2_with fail
  refine (hv _ (Ext.rfl' _)).mono ?_
  rintro e w0 ⟨rfl, hE0⟩
  go_wp2_with fail
  go_ret2
  exact ⟨rfl, hE0⟩
set_option maxHeartbeats 4000000 in
set_option maxRecDepth 100000 in
theorem integrate_ok (A : Option Addr) (c pn n : Nat) (p : Pl) (w : World) (HPL : Hid (p.length = pn)) (h0 : 0 < pn) (hl : pn ≤ 16) (hW : Wd w) (hA : PS w (.slice A pn c) p) (hv : VA (.slice A pn c) true w) (hp : PB p n) (hk : n + 23 ≤ KK) :
    Calls Tryz.prog 35 #[.slice A pn c] w (RetQ0 (fun W v => PS W v (pint p)) w) := by
  obtain ⟨i0, hi, hz0, hz1, hz2⟩ := info_parts Tryz.infoRat
  have HA := Lib.hid hA
  have HP := Lib.hid hp
  have HW := Lib.hid hW
  have h0' : ((pn : Int) == 0) = false := by rw [beq_eq_false_iff_ne]; omega
  have hl' : ¬ (16 : Int) < (pn : Int) := by omega
  clear hA hp hW
  go_enter Tryz.func35, Tryz.ntmps35
  go_wp2_with fail
  refine (hv _ (Ext.rfl' _)).mono ?_
  rintro e w0 ⟨rfl, hE0⟩
  have HE0 := Lib.hid hE0
  have hb0 : w.heap.size ≤ w0.heap.size := hE0.size
  have HO0 : Hid (OwnS (w0.alloc (.cells #[.string ⟨#[48]⟩] 30)) w.heap.size (.slice (some ⟨w0.heap.size, 0, none⟩) 1 1) ((0 :: (List.range 0).map fun j => cf p j / (((j + 1 : Nat) : Int) : Rat)).map rb)) := by
    refine ⟨rfl, .inr ⟨w0.heap.size, 1, #[.string ⟨#[48]⟩], rfl, hb0, World.alloc_heap_new w0 _, Nat.le_refl _, by simp [maxLen], rfl, ?_⟩⟩
    simp [strs, rb0]
  have HE0' := Lib.hid (hE0.al (.cells #[.string ⟨#[48]⟩] 30))
  clear hE0 hv
  go_wp2_with fail
  go_loopw [4, 22] (fun vo vi wr => ∃ k : Nat, k ≤ pn ∧ vi = .int .i64 (k : Int) ∧ Hid (OwnS wr w.heap.size vo ((0 :: (List.range k).map fun j => cf p j / (((j + 1 : Nat) : Int) : Rat)).map rb)) ∧ Hid (Ext w wr)) (fun _ vi _ => pn - (intOf vi).toNat)
  case atStart => exact ⟨0, Nat.zero_le _, rfl, HO0, HE0'⟩
  case round =>
    obtain ⟨k, hk0, rfl, HO, HE⟩ := hrel
    clear HO0 HE0 HE0'
    by_cases hlt : k < pn
    · obtain ⟨-, -, -, hcl⟩ := HA.out.cell
      obtain ⟨bb, fb, rfl, hbb, hcC⟩ := hcl k (by rw [HPL.out]; exact hlt)
      replace hcC := HE.out.cell hcC
      have hbC := HP.out.cf k
      have hq0 : (((k + 1 : Nat) : Int) : Rat) ≠ 0 := by
        intro e
        have := Rat.intCast_inj.1 (e.trans Rat.intCast_zero.symm)
        omega
      have hM := fun W (hw : Wd W) => pdiv_q (cf p k) (((k + 1 : Nat) : Int) : Rat) n 20 W hw hbC (bd_small (k + 1) (by omega)) hq0 (by omega)
      have hWh := fun W (hw : Wd W) => whole_k (k + 1) (by omega) W hw
      have hS : ((0 :: (List.range (k + 1)).map fun j => cf p j / (((j + 1 : Nat) : Int) : Rat)).map rb) = ((0 :: (List.range k).map fun j => cf p j / (((j + 1 : Nat) : Int) : Rat)).map rb) ++ [rb (cf p k / (((k + 1 : Nat) : Int) : Rat))] := by
        rw [List.range_succ]; simp
      have HS := Lib.hid hS
      have e2 : ((k + 1 : Nat) : Int) = (k : Int) + 1 := by push_cast; rfl
      have hv1 : Value.int .i64 ((k + 1 : Nat) : Int) = .int .i64 ((k : Int) + 1) := by rw [e2]
      rw [hv1] at hWh
      clear e2 hv1 hS hcl hq0
      generalize hF : cf p k / (((k + 1 : Nat) : Int) : Rat) = F at hM HS
      clear hF
      generalize (((k + 1 : Nat) : Int) : Rat) = Q at hM hWh
      generalize cf p k = C at *
      have HM := Lib.hid hM
      have HWh := Lib.hid hWh
      have hN : ((0 :: (List.range k).map fun j => cf p j / (((j + 1 : Nat) : Int) : Rat)).map rb).length + 1 ≤ maxLen := by simp [maxLen]; omega
      have hbig : (((0 :: (List.range k).map fun j => cf p j / (((j + 1 : Nat) : Int) : Rat)).map rb).length + 1) * 16 ≤ 140737488355328 := by simp; omega
      generalize ((0 :: (List.range k).map fun j => cf p j / (((j + 1 : Nat) : Int) : Rat)).map rb) = r at *
      clear hM hWh hbC
      go_wp2_with fail
      refine (HWh.out _ (HW.out.ext HE.out)).mono ?_
      rintro e w2 ⟨rfl, hE2⟩
      have HE2 := Lib.hid (HE.out.tr hE2)
      have HO2 := Lib.hid (HO.out.ext hE2)
      clear hE2
      go_wp2_with fail
      refine (HM.out _ (HW.out.ext HE2.out)).mono ?_
      rintro e w3 ⟨rfl, hE3⟩
      have HE3 := Lib.hid (HE2.out.tr hE3)
      have HO3 := Lib.hid (HO2.out.ext hE3)
      have hbase1 : w.heap.size ≤ w3.heap.size := HE3.out.size
      clear hE3
      go_wp2_with (at_builtin; (refine wpList_append_own _ rfl _ _ 25 rfl w.heap.size 30 i0 (.string ⟨#[]⟩) 1 16 Tryz.underlying25 hi hz0 hz1 hz2 rfl (by decide) _ r.length (strs r) rfl (World.ownsRow.alloc HO3.out _) ⟨w3.heap.size, 0, none⟩ 1 1 _ rfl rfl (cell_one_new _ _ _) (by simp [Value.oneCell']) hN hbig (by simp; omega) ?_); intro v' w4 hown4 hgrow4 _)
      all_goals
        obtain ⟨p1, p2⟩ := own_grow (news := [rb F]) HO3.out HE3.out hown4 hgrow4
        go_roundw
        case rel => exact ⟨k + 1, by omega, by go_num, by rw [HS.out]; exact p1, p2⟩
        case measure => simp [intOf]; omega
    · have hke : k = pn := by omega
      have h := HO.out.sl
      have hpi : pint p = 0 :: (List.range p.length).map fun j => cf p j / (((j + 1 : Nat) : Int) : Rat) := by
        unfold pint
        rw [if_neg (by intro e; have := HPL.out; rw [e] at this; simp at this; omega)]
      rw [hke, ← HPL.out, ← hpi] at h
      have HV := Lib.hid h
      clear hke h hpi
      go_wp2
      go_ret2
      exact ⟨_, rfl, HV.out, HE.out⟩
end Go.Proofs.YtbldlibijojbjaaGreatDoor.GB

namespace Go.Proofs.YtbldlibijojbjaaGreatDoor.GB
set_option linter.unusedVariables false
set_option linter.unusedSimpArgs false
open Go

/-! Values along a list. -/
theorem hor_pev {b : Nat} (X : Rat) (p : Pl) (hp : PB p b) (hl : p.length ≤ 100000) : hor X (pdn b p p.length) = pev p X := by
  have h1 : hor X (pdn b p p.length) = ((pdn b p p.length).map (fun x => x.1.2)).foldl (fun a x => a * X + x) 0 := by
    unfold hor; rw [List.foldl_map]
  rw [h1, pdn_prefix hp _ (Nat.le_refl _) hl, Nat.sub_self, List.drop_zero, List.foldl_reverse]
  clear h1 hp hl
  induction p with
  | nil => rfl
  | cons a p ih => rw [List.foldr_cons, ih]; show _ = a + X * pev p X; grind
/-- The polynomial moved by a. -/
def pshf (a : Rat) (p : Pl) : Pl := p.foldr (fun c O => shr a c O) []
theorem shf_pshf {b : Nat} (a : Rat) (p : Pl) (hp : PB p b) (hl : p.length ≤ 100000) : shf a (pdn b p p.length) = pshf a p := by
  have h1 : shf a (pdn b p p.length) = ((pdn b p p.length).map (fun x => x.1.2)).foldl (fun O c => shr a c O) [] := by
    unfold shf; rw [List.foldl_map]
  rw [h1, pdn_prefix hp _ (Nat.le_refl _) hl, Nat.sub_self, List.drop_zero, List.foldl_reverse]
  rfl
/-- The enclosure. -/
def penc (I : Rat × Rat) (p : Pl) : Rat × Rat := p.foldr (fun c a => iaddR (imulR a I) (c, c)) (0, 0)
theorem enc_penc {b : Nat} (I : Rat × Rat) (p : Pl) (hp : PB p b) (hl : p.length ≤ 100000) : enc I (pdn b p p.length) = penc I p := by
  have h1 : enc I (pdn b p p.length) = ((pdn b p p.length).map (fun x => x.1.2)).foldl (fun a c => iaddR (imulR a I) (c, c)) (0, 0) := by
    unfold enc; rw [List.foldl_map]
  rw [h1, pdn_prefix hp _ (Nat.le_refl _) hl, Nat.sub_self, List.drop_zero, List.foldl_reverse]
  rfl
theorem pshf_tr (a : Rat) (p : Pl) : Tr (pshf a p) := by
  cases p with
  | nil => exact tr_nil
  | cons c p => exact shr_tr _ _ _
theorem shr_len_eq (a c : Rat) {O : Pl} (hO : Tr O) (h : O ≠ [] ∨ c ≠ 0) : (shr a c O).length = O.length + 1 := by
  by_cases h0 : O = []
  · subst h0
    have hc : c ≠ 0 := by rcases h with h | h; exact absurd rfl h; exact h
    have e : shr a c [] = ptrim (ptrim [c]) := rfl
    have t1 : Tr [c] := by simp [Tr, hc]
    rw [e, ptrim_tr t1, ptrim_tr t1]; rfl
  · have hl := List.length_pos_iff.2 h0
    have h2 := pmul_tr hO (tr_a1 a) h0 (by simp)
    obtain ⟨hlen, hlead⟩ := h2
    have e2 : (O.length + [a, 1].length - 1) = O.length + 1 := by simp
    rw [e2] at hlen
    have hz : (ptrim [c]).length ≤ 1 := ptrim_len [c]
    have ht : Tr (padd (ptrim (pmul O [a, 1])) (ptrim [c])) := by
      intro e
      have hll : (padd (ptrim (pmul O [a, 1])) (ptrim [c])).length = O.length + 1 := by rw [padd_len, hlen]; omega
      rw [List.getLast?_eq_getElem?, hll] at e
      have e3 : cf (padd (ptrim (pmul O [a, 1])) (ptrim [c])) O.length = 0 := by
        have e4 : O.length + 1 - 1 = O.length := by omega
        rw [e4] at e
        simp only [cf, List.getD_eq_getElem?_getD, e]; rfl
      rw [cf_padd, cf_ge (p := ptrim [c]) (by omega)] at e3
      have e5 : cf (ptrim (pmul O [a, 1])) O.length = lead O * lead [a, 1] := by
        rw [← hlead]; unfold lead; rw [hlen]; rfl
      have e6 : lead [a, 1] = 1 := rfl
      have := lead_ne hO h0
      rw [e5, e6] at e3
      grind
    show (ptrim (padd (ptrim (pmul O [a, 1])) (ptrim [c]))).length = _
    rw [ptrim_tr ht, padd_len, hlen]; omega
theorem pshf_len (a : Rat) {p : Pl} (tp : Tr p) : (pshf a p).length = p.length := by
  induction p with
  | nil => rfl
  | cons c p ih =>
    have ih := ih (tr_cons tp)
    show (shr a c (pshf a p)).length = _
    rw [shr_len_eq a c (pshf_tr a p), ih]; rfl
    by_cases h : p = []
    · subst h; right; intro e; subst e; exact tp rfl
    · left; intro e; rw [e] at ih; exact h (List.eq_nil_of_length_eq_zero ih.symm)
theorem pshf_pb (a : Rat) {p : Pl} {n m : Nat} (hp : PB p n) (ha : Bd a m) : PB (pshf a p) (sfB n m p.length) := by
  induction p with
  | nil => exact PB.nil _
  | cons c p ih =>
    have h := (shr_pb (ih fun q hq => hp q (by simp [hq])) ha (hp c (by simp))).2
    exact h
theorem pder_pb {p : Pl} {n : Nat} (hp : PB p n) (hl : p.length ≤ 100000) : PB (pder p) (n + 20) := by
  intro q hq
  obtain ⟨j, hj, rfl⟩ := List.mem_map.1 hq
  have hj' := List.mem_range.1 hj
  exact (hp.cf _).mul (bd_small _ (by omega))
theorem pint_pb {p : Pl} {n : Nat} (hp : PB p n) (hl : p.length ≤ 100000) : PB (pint p) (n + 21) := by
  intro q hq
  unfold pint at hq
  split at hq
  · cases hq
  · rcases List.mem_cons.1 hq with rfl | hq
    · exact (Bd.of_int 0 0 (by decide)).mono (Nat.zero_le _)
    · obtain ⟨j, hj, rfl⟩ := List.mem_map.1 hq
      have hj' := List.mem_range.1 hj
      have h := bd_small (j + 1) (by omega)
      exact (hp.cf _).div h
/-! Contracts at valid polynomials. -/
/-- The value stands for the valid polynomial p of n bits. -/
def PO (w : World) (v : Value) (p : Pl) (n : Nat) : Prop := PS w v p ∧ PB p n ∧ Tr p ∧ p.length ≤ 17
theorem PO.va {w : World} {v : Value} {p : Pl} {n : Nat} (h : PO w v p n) (hW : Wd w) (hn : n + 1 ≤ KK) : VA v true w := pValid_p v p n w hW h.1 h.2.1 h.2.2.1 h.2.2.2 hn
def RP0 (q : Pl) (w : World) : Ending → World → Prop := RetQ0 (fun W v => PS W v q) w
section
variable (v1 v2 : Value) (p r : Pl) (n m : Nat) (w : World) (hW : Wd w) (h1 : PO w v1 p n) (h2 : PO w v2 r m)
include hW h1 h2
theorem Add_p (hk : n + m + 3 ≤ KK) : Calls Tryz.prog 20 #[v1, v2] w (RP0 (ptrim (padd p r)) w) :=
  PAdd_ok v1 v2 _ w fun W hE => papply_plus v1 v2 _ W ((h1.va hW (by omega)).ext hE) ((h2.va hW (by omega)).ext hE) fun W' hE' =>
    (pplus_v v1 v2 p r n m W' ((hW.ext hE).ext hE') ((h1.1.ext hE).ext hE') ((h2.1.ext hE).ext hE') h1.2.1 h2.2.1 hk (by have := h1.2.2.2; omega) (by have := h2.2.2.2; omega)).mono fun e w' h => h
theorem Sub_p (hk : n + m + 3 ≤ KK) : Calls Tryz.prog 23 #[v1, v2] w (RP0 (ptrim (padd p (pneg r))) w) :=
  PSub_ok v1 v2 _ w fun W hE => papply_minus v1 v2 _ W ((h1.va hW (by omega)).ext hE) ((h2.va hW (by omega)).ext hE) fun W' hE' =>
    (pminus_v v1 v2 p r n m W' ((hW.ext hE).ext hE') ((h1.1.ext hE).ext hE') ((h2.1.ext hE).ext hE') h1.2.1 h2.2.1 hk (by have := h1.2.2.2; omega) (by have := h2.2.2.2; omega)).mono fun e w' h => h
theorem GCD_p (f N n' m' : Nat) (c1 : CB p n') (c2 : CB r m') (hf : r.length ≤ f) (hk : n + m + 3 ≤ KK) (hN : 2 * N + 6 ≤ KK) (hg : gok f p.length n' r.length m' N = true) : Calls Tryz.prog 29 #[v1, v2] w (RetQ0 (fun W v => ∃ d, PS W v d ∧ (GcdRel p r d ∧ CB d N)) w) :=
  PGCD_ok v1 v2 _ w fun W hE => papply_common v1 v2 _ W ((h1.va hW (by omega)).ext hE) ((h2.va hW (by omega)).ext hE) fun W' hE' =>
    (pcommon_v v1 v2 p r n' m' f N W' ((hW.ext hE).ext hE') ((h1.1.ext hE).ext hE') ((h2.1.ext hE).ext hE') ⟨h1.2.2.1, h2.2.2.1, c1, c2, by have := h1.2.2.2; omega, by have := h2.2.2.2; omega, hf, ⟨hg, hN⟩, fun d h => h⟩).mono fun e w' ⟨v, d, h1, h2, h3, h4⟩ => ⟨v, h1, ⟨d, h3, h2⟩, h4⟩
theorem Mul_lim (l1 : p ≠ []) (l2 : r ≠ []) (hl : 18 < p.length + r.length) (hk : n + m + 3 ≤ KK) : Calls Tryz.prog 25 #[v1, v2] w (RetE 15 w) := by
  have a1 := h1.va hW (by omega)
  have a2 := h2.va hW (by omega)
  obtain ⟨A, ca, rfl⟩ := h1.1.sl
  obtain ⟨B, cb, rfl⟩ := h2.1.sl
  exact PMul_lim A B ca cb _ _ w a1 a2 (by have := h1.2.2.2; omega) (by have := h2.2.2.2; omega) (List.length_pos_iff.2 l1) (List.length_pos_iff.2 l2) hl
theorem Mul_p (hl : p = [] ∨ r = [] ∨ p.length + r.length ≤ 18) (hk : 20 * (n + m + 1) + 20 ≤ KK) : Calls Tryz.prog 25 #[v1, v2] w (RP0 (ptrim (pmul p r)) w) := by
  have a1 := h1.va hW (by omega)
  have a2 := h2.va hW (by omega)
  have b1 := h1.2.2.2
  have b2 := h2.2.2.2
  have hkk : (p.length + 1) * (n + m + 1) + (n + m) + 3 ≤ KK := by
    have : (p.length + 1) * (n + m + 1) ≤ 18 * (n + m + 1) := Nat.mul_le_mul_right _ (by omega)
    omega
  have h3 : ∀ W, Ext w W → Calls Tryz.prog 56 #[.func (.func 62) #[] #[], v1, v2] W (RP0 (ptrim (pmul p r)) W) := fun W hE =>
    papply_times v1 v2 _ W (a1.ext hE) (a2.ext hE) fun W' hE' => (ptimes_v v1 v2 p r n m W' ((hW.ext hE).ext hE') ((h1.1.ext hE).ext hE') ((h2.1.ext hE).ext hE') h1.2.1 h2.2.1 h1.2.2.1 h2.2.2.1 (by omega) (by omega) hkk).mono fun e w' h => h
  obtain ⟨A, ca, rfl⟩ := h1.1.sl
  obtain ⟨B, cb, rfl⟩ := h2.1.sl
  by_cases l1 : p.length = 0
  · exact PMul_a A B ca cb _ _ _ w a1 a2 (by omega) (by omega) l1 h3
  · by_cases l2 : r.length = 0
    · exact PMul_b A B ca cb _ _ _ w a1 a2 (by omega) (by omega) (by omega) l2 h3
    · refine PMul_c A B ca cb _ _ _ w a1 a2 (by omega) (by omega) (by omega) (by omega) ?_ h3
      rcases hl with rfl | rfl | hl
      · exact absurd rfl l1
      · exact absurd rfl l2
      · exact hl
theorem Div_p (n' m' : Nat) (c1 : CB p n') (c2 : CB r m') (hr0 : r ≠ []) (hk : 2 * remB p.length n' r.length m' + n + m + 6 ≤ KK) : Calls Tryz.prog 27 #[v1, v2] w (DivP0 p r (remB p.length n' r.length m') w) := by
  have a1 := h1.va hW (by omega)
  have a2 := h2.va hW (by omega)
  have b1 := h1.2.2.2
  have b2 := h2.2.2.2
  have h3 := fun W (hE : Ext w W) => pdiv_v v1 v2 p r m' n' W (hW.ext hE) (h1.1.ext hE) (h2.1.ext hE) c1 c2 h1.2.2.1 h2.2.2.1 hr0 (by omega) (by omega)
  obtain ⟨B, cb, rfl⟩ := h2.1.sl
  exact PDiv_ok v1 B cb _ p r _ w (List.length_pos_iff.2 hr0) (by omega) a1 a2 h3
end
theorem Div_p0 (v1 v2 : Value) (p : Pl) (n : Nat) (w : World) (hW : Wd w) (h1 : PO w v1 p n) (h2 : PS w v2 []) (hk : n + 1 ≤ KK) : Calls Tryz.prog 27 #[v1, v2] w (RetE2 16 w) := by
  have a1 := h1.va hW (by omega)
  have a2 : VA v2 true w := pValid_p v2 [] 0 w hW h2 (PB.nil 0) tr_nil (Nat.zero_le _) (by omega)
  obtain ⟨B, cb, rfl⟩ := h2.sl
  exact PDiv_zero v1 B cb w a1 a2
section
variable (v : Value) (p : Pl) (n : Nat) (w : World) (hW : Wd w) (h : PO w v p n)
include hW h
theorem Eval_p (X : Rat) (m : Nat) (hX : Bd X m) (hk : 20 * (m + n + 1) + 20 ≤ KK) : Calls Tryz.prog 31 #[v, rtx X] w (RetR w (pev p X)) := by
  have a1 := h.va hW (by omega)
  have b1 := h.2.2.2
  obtain ⟨A, c, rfl⟩ := h.1.sl
  have hh := eval_some A c p X p.length n m w (Lib.hid rfl) (by omega) hW h.1 h.2.1 hX (by
    have : p.length * (m + n + 1) ≤ 17 * (m + n + 1) := Nat.mul_le_mul_right _ b1
    omega) a1 (fun W hE => rValid_q X m W (hW.ext hE) hX (by omega))
  rwa [hor_pev X p h.2.1 (by omega)] at hh
theorem Derive_p (hk : n + 23 ≤ KK) : Calls Tryz.prog 33 #[v] w (RP0 (pder p) w) := by
  have a1 := h.va hW (by omega)
  have b1 := h.2.2.2
  obtain ⟨A, c, rfl⟩ := h.1.sl
  exact derive_ok A c _ n p w (Lib.hid rfl) (by omega) hW h.1 a1 h.2.1 hk
theorem Integrate_p (hl : p.length ≤ 16) (hk : n + 23 ≤ KK) : Calls Tryz.prog 35 #[v] w (RP0 (pint p) w) := by
  have a1 := h.va hW (by omega)
  by_cases h0 : p = []
  · subst h0
    obtain ⟨A, c, rfl⟩ := h.1.sl
    exact integrate_nil A c w a1
  · obtain ⟨A, c, rfl⟩ := h.1.sl
    exact integrate_ok A c _ n p w (Lib.hid rfl) (List.length_pos_iff.2 h0) hl hW h.1 a1 h.2.1 hk
theorem Integrate_lim (hl : 16 < p.length) (hk : n + 23 ≤ KK) : Calls Tryz.prog 35 #[v] w (RetE 15 w) := by
  have a1 := h.va hW (by omega)
  have b1 := h.2.2.2
  obtain ⟨A, c, rfl⟩ := h.1.sl
  exact integrate_lim A c _ w hl (by omega) a1
theorem Shift_p (X : Rat) (m : Nat) (hX : Bd X m) (hm : 1 ≤ m) (hk : 40 * (sfB n m 17 + m + n + 2) ≤ KK) : Calls Tryz.prog 37 #[v, rtx X] w (RP0 (pshf X p) w) := by
  have a1 := h.va hW (by omega)
  have b1 := h.2.2.2
  obtain ⟨A, c, rfl⟩ := h.1.sl
  have hh := shift_some A c p X p.length n m w (Lib.hid rfl) (by omega) hW h.1 h.2.1 hX hm (by
    have e1 : sfB n m p.length ≤ sfB n m 17 := sfB_mono b1
    have e2 : (2 * p.length + 1) * (sfB n m p.length + m + 1) ≤ 35 * (sfB n m 17 + m + 1) := Nat.mul_le_mul (by omega) (by omega)
    omega) a1 (fun W hE => rValid_q X m W (hW.ext hE) hX (by omega))
  rwa [shf_pshf X p h.2.1 (by omega)] at hh
theorem Enclose_p (I1 I2 : Rat) (m : Nat) (h1 : Bd I1 m) (h2 : Bd I2 m) (hle : I1 ≤ I2) (hk : 40 * (m + n + 1) + 40 ≤ KK) : Calls Tryz.prog 39 #[v, .agg #[rtx I1, rtx I2]] w fun e w' => e = .returned (.tuple #[IQ (penc (I1, I2) p), .int .i64 0]) ∧ Ext w w' := by
  have a1 := h.va hW (by omega)
  have b1 := h.2.2.2
  obtain ⟨A, c, rfl⟩ := h.1.sl
  have hh := enclose_some A c p I1 I2 p.length n m w (Lib.hid rfl) (by omega) hW h.1 h.2.1 h1 h2 hle (by
    have : p.length * (m + n + 1) ≤ 17 * (m + n + 1) := Nat.mul_le_mul_right _ b1
    omega) a1 (fun W hE => (iValid_q I1 I2 m m W (hW.ext hE) h1 h2 (by omega)).mono fun e w' h => by rw [decide_eq_true hle] at h; exact h)
  rwa [enc_penc (I1, I2) p h.2.1 (by omega)] at hh
end
end Go.Proofs.YtbldlibijojbjaaGreatDoor.GB

namespace Go.Proofs.YtbldlibijojbjaaGreatDoor.GB
set_option linter.unusedVariables false
set_option linter.unusedSimpArgs false
open Go
/-! Derivatives and integrals of lists of numbers. -/
theorem cf_pder (p : Pl) (i : Nat) : cf (pder p) i = cf p (i + 1) * (((i + 1 : Nat) : Int) : Rat) := by
  unfold pder
  rw [cf_range]
  split
  · rfl
  · rw [cf_ge (p := p) (i := i + 1) (by omega)]; grind
theorem pder_len (p : Pl) : (pder p).length = p.length - 1 := by simp [pder]
theorem nz (i : Nat) : (((i + 1 : Nat) : Int) : Rat) ≠ 0 := by
  intro e
  have : ((i + 1 : Nat) : Int) = 0 := by exact_mod_cast e
  omega
theorem tr_of_lead {p : Pl} (h : p ≠ [] → cf p (p.length - 1) ≠ 0) : Tr p := by
  intro e
  have hne : p ≠ [] := by intro h0; subst h0; cases e
  apply h hne
  rw [List.getLast?_eq_getElem?] at e
  simp only [cf, List.getD_eq_getElem?_getD, e]; rfl
theorem pder_tr {p : Pl} (tp : Tr p) : Tr (pder p) := by
  apply tr_of_lead
  intro hne
  have hl : 0 < p.length - 1 := by rw [← pder_len]; exact List.length_pos_iff.2 hne
  have hp : p ≠ [] := by intro e; subst e; simp at hl
  rw [cf_pder, pder_len]
  have e1 : p.length - 1 - 1 + 1 = p.length - 1 := by omega
  have h1 := tr_lead tp hp
  have h2 := nz (p.length - 1 - 1)
  rw [e1] at h2 ⊢
  intro e
  rcases Rat.mul_eq_zero.1 e with h | h
  · exact h1 h
  · exact h2 h
theorem cf_pint {p : Pl} (hne : p ≠ []) (i : Nat) : cf (pint p) (i + 1) = cf p i / (((i + 1 : Nat) : Int) : Rat) := by
  unfold pint
  rw [if_neg hne]
  show cf ((List.range p.length).map fun j => cf p j / (((j + 1 : Nat) : Int) : Rat)) i = _
  rw [cf_range]
  split
  · rfl
  · rw [cf_ge (p := p) (i := i) (by omega)]; grind
theorem pint_len (p : Pl) : (pint p).length = if p = [] then 0 else p.length + 1 := by
  unfold pint
  split
  · rfl
  · simp
theorem pint_tr {p : Pl} (tp : Tr p) : Tr (pint p) := by
  by_cases hp : p = []
  · subst hp; exact tr_nil
  · apply tr_of_lead
    intro _
    have hl := List.length_pos_iff.2 hp
    obtain ⟨k, hk⟩ : ∃ k, p.length = k + 1 := ⟨p.length - 1, by omega⟩
    rw [pint_len, if_neg hp, show p.length + 1 - 1 = k + 1 by omega, cf_pint hp]
    have h1 := tr_lead tp hp
    rw [show p.length - 1 = k by omega] at h1
    have h2 := nz k
    intro e
    apply h1
    have : cf p k = cf p k / (((k + 1 : Nat) : Int) : Rat) * (((k + 1 : Nat) : Int) : Rat) := by grind
    rw [this, e]; grind
end Go.Proofs.YtbldlibijojbjaaGreatDoor.GB

namespace Go.Proofs.YtbldlibijojbjaaGreatDoor.GB
set_option linter.unusedVariables false
set_option linter.unusedSimpArgs false
open Go.RowKit

theorem bytes_inj {s t : ByteArray} (h : s.toList = t.toList) : s = t := by
  rw [ByteArray.toList_eq, ByteArray.toList_eq] at h
  cases s; cases t
  congr 1
  exact Array.toList_inj.1 h
theorem sEq (s t : ByteArray) : (s.toList == t.toList) = decide (s = t) := by
  by_cases h : s = t
  · subst h; simp
  · have : s.toList ≠ t.toList := fun e => h (bytes_inj e)
    simp [h, this]
theorem take_ne {l m : List ByteArray} {k : Nat} (h1 : k < l.length) (h2 : k < m.length) (h : l[k] ≠ m[k]) : ¬ l = m := by
  rintro rfl; exact h rfl
set_option maxHeartbeats 1000000 in
set_option maxRecDepth 100000 in
theorem Same_v (v1 v2 : Value) (l m : List ByteArray) (w : World) (h1 : SlS w v1 l) (h2 : SlS w v2 m) :
    Calls Tryz.prog 18 #[v1, v2] w fun e w' => e = .returned (.bool (decide (l = m))) ∧ Ext w w' := by
  obtain ⟨A, c, rfl, a1, a2, a3⟩ := h1
  obtain ⟨B, d, rfl, b1, b2, b3⟩ := h2
  by_cases hl : l.length = m.length
  · have hl' : ((l.length : Int) == (m.length : Int)) = true := by simp [hl]
    obtain ⟨n, hn⟩ : ∃ n, n = l.length := ⟨_, rfl⟩
    have HN : Hid (l.length = n) := hn.symm
    have HM : Hid (m.length = n) := by show m.length = n; omega
    rw [show l.length = n from HN.out] at a1 ⊢
    rw [show m.length = n from HM.out] at b1 ⊢
    clear hn hl hl'
    go_enter Tryz.func18, Tryz.ntmps18
    go_wp2
    go_loopw [5] (fun v wr => ∃ k : Nat, k ≤ n ∧ v = .int .i64 (k : Int) ∧ Hid (l.take k = m.take k) ∧ Hid (Ext w wr)) (fun v _ => n - (intOf v).toNat)
    case atStart => exact ⟨0, Nat.zero_le _, rfl, rfl, Ext.rfl' _⟩
    case round =>
      obtain ⟨k, hk, rfl, HT, HE⟩ := hrel
      by_cases hlt : k < n
      · have k1 : k < l.length := by rw [HN.out]; exact hlt
        have k2 : k < m.length := by rw [HM.out]; exact hlt
        obtain ⟨b, off, rfl, hb, hc⟩ := a3 k k1
        obtain ⟨b', off', rfl, hb', hc'⟩ := b3 k k2
        replace hc := HE.out.cell hc
        replace hc' := HE.out.cell hc'
        by_cases hs : l[k] = m[k]
        · have HT' : Hid (l.take (k + 1) = m.take (k + 1)) := by
            show l.take (k + 1) = m.take (k + 1)
            rw [List.take_succ_eq_append_getElem k1, List.take_succ_eq_append_getElem k2, HT.out, hs]
          have hq : (l[k].toList == m[k].toList) = true := by rw [sEq]; simp [hs]
          clear hs
          generalize l[k] = s at *
          generalize m[k] = t at *
          go_wp2
          go_region_with (fail)
          all_goals
            go_wp2
            go_roundw
            case rel => exact ⟨k + 1, by omega, by go_num, HT', Ext.dr' HE⟩
            case measure => simp [intOf]; omega
        · have hq : (l[k].toList == m[k].toList) = false := by rw [sEq]; simp [hs]
          have HR := Lib.hid (take_ne k1 k2 hs)
          clear hs
          generalize l[k] = s at *
          generalize m[k] = t at *
          go_wp2
          go_region_with (fail)
          all_goals
            go_wp2
            go_ret
            exact ⟨by rw [decide_eq_false HR.out]; rfl, Ext.dr' HE⟩
      · have HR : Hid (l = m) := by
          have := HT.out
          rwa [List.take_of_length_le (by have : l.length = n := HN.out; omega), List.take_of_length_le (by have : m.length = n := HM.out; omega)] at this
        have hk' : k = n := by omega
        subst hk'
        go_wp2
        go_ret
        exact ⟨by rw [decide_eq_true HR.out]; rfl, HE⟩
  · have hne : ¬ l = m := fun e => hl (by rw [e])
    rw [decide_eq_false hne]
    have hl' : ((l.length : Int) == (m.length : Int)) = false := by rw [beq_eq_false_iff_ne]; omega
    have hl2 : ¬ ((l.length : Int) = (m.length : Int)) := by omega
    clear hne hl
    go_enter Tryz.func18, Tryz.ntmps18
    go_wp2
    go_ret
    exact ⟨rfl, Ext.rfl' _⟩
/-- Short texts. -/
def fewB (l : List ByteArray) : Bool := l.all (fun s => decide (s.size ≤ 12)) && (decide (l.length ≤ 6) || decide (16 ≤ l.length ∧ l.length ≤ 18))
theorem fewB_len {l : List ByteArray} (h : fewB l = true) : l.length ≤ 18 := by
  unfold fewB at h; simp at h; omega
theorem fewB_txt {l : List ByteArray} (h : fewB l = true) : ∀ s ∈ l, s.size ≤ 12 := by
  unfold fewB at h; simp at h; exact h.1
theorem few_no {l : List ByteArray} {k : Nat} (h1 : k < l.length) (h : 12 < l[k].size) : fewB l = false := by
  unfold fewB
  have : l.all (fun s => decide (s.size ≤ 12)) = false := by
    rw [List.all_eq_false]; exact ⟨l[k], List.getElem_mem h1, by simp; omega⟩
  rw [this]; rfl
set_option maxHeartbeats 1000000 in
set_option maxRecDepth 100000 in
theorem Few_v (v1 : Value) (l : List ByteArray) (w : World) (h1 : SlS w v1 l) :
    Calls Tryz.prog 12 #[v1] w fun e w' => e = .returned (.bool (fewB l)) ∧ w = w' := by
  obtain ⟨A, c, rfl, a1, a2, a3⟩ := h1
  obtain ⟨n, hn⟩ : ∃ n, n = l.length := ⟨_, rfl⟩
  have HN : Hid (l.length = n) := hn.symm
  rw [show l.length = n from HN.out] at a1 ⊢
  clear hn
  go_enter Tryz.func12, Tryz.ntmps12
  go_wp2
  go_loop [3] (fun v => ∃ k : Nat, k ≤ n ∧ v = .int .i64 (k : Int) ∧ Hid (∀ s ∈ l.take k, s.size ≤ 12)) (fun v => n - (intOf v).toNat)
  case atStart => exact ⟨0, Nat.zero_le _, rfl, fun s hs => by cases hs⟩
  case round =>
    obtain ⟨k, hk, rfl, HT⟩ := hrel
    by_cases hlt : k < n
    · have k1 : k < l.length := by rw [HN.out]; exact hlt
      obtain ⟨b, off, rfl, hb, hc⟩ := a3 k k1
      by_cases hs : l[k].size ≤ 12
      · have HT' : Hid (∀ s ∈ l.take (k + 1), s.size ≤ 12) := by
          intro s hm
          rw [List.take_succ_eq_append_getElem k1] at hm
          rcases List.mem_append.1 hm with hm | hm
          · exact HT.out s hm
          · rw [List.mem_singleton.1 hm]; exact hs
        generalize l[k] = s at *
        have hs2 : ¬ ((12 : Int) < (s.size : Int)) := by omega
        have hs3 : ¬ (12 < s.size) := by omega
        go_wp2
        go_round
        case rel => exact ⟨k + 1, by omega, by go_num, HT'⟩
        case measure => simp [intOf]; omega
      · have HR := Lib.hid (few_no k1 (Nat.not_le.1 hs))
        generalize l[k] = s at *
        have hs2 : ((12 : Int) < (s.size : Int)) := by omega
        have hs3 : (12 < s.size) := by omega
        go_wp2
        go_ret
        exact ⟨by rw [HR.out]; rfl, rfl⟩
    · have HA : Hid (fewB l = (decide (n ≤ 6) || decide (16 ≤ n ∧ n ≤ 18))) := by
        have := HT.out
        rw [List.take_of_length_le (by have : l.length = n := HN.out; omega)] at this
        show fewB l = _
        unfold fewB
        have : l.all (fun s => decide (s.size ≤ 12)) = true := by rw [List.all_eq_true]; intro s hs; simpa using this s hs
        rw [this, show l.length = n from HN.out]; rfl
      have hk' : k = n := by omega
      subst hk'
      have HA2 := HA.out
      by_cases c1 : k ≤ 6
      · have c2 : ((k : Int) ≤ 6) := by omega
        go_wp2
        go_ret
        exact ⟨rfl, rfl⟩
      · have c2 : ¬ ((k : Int) ≤ 6) := by omega
        by_cases c3 : 16 ≤ k
        · have c4 : (16 : Int) ≤ (k : Int) := by omega
          by_cases c5 : k ≤ 18
          · have c6 : (k : Int) ≤ 18 := by omega
            go_wp2
            go_ret
            exact ⟨rfl, rfl⟩
          · have c6 : ¬ (k : Int) ≤ 18 := by omega
            go_wp2
            go_ret
            exact ⟨rfl, rfl⟩
        · have c4 : ¬ (16 : Int) ≤ (k : Int) := by omega
          go_wp2
          go_ret
          exact ⟨rfl, rfl⟩
end Go.Proofs.YtbldlibijojbjaaGreatDoor.GB

namespace Go.Proofs.YtbldlibijojbjaaGreatDoor.GB
set_option linter.unusedVariables false
set_option linter.unusedSimpArgs false
open Go.RowKit Go.Shelf
attribute [local go_sem ↓] Go.wp_at_zero Go.wp_at_succ
/-- A list of values, and the texts of each. -/
abbrev VL := List (Value × List ByteArray)
def RdV (w : World) (A : Option Addr) (l : VL) : Prop := ∀ j, (h : j < l.length) → ∃ b off, A = some ⟨b, off, none⟩ ∧ b < w.heap.size ∧ w.cell? ⟨b, off + j, none⟩ = some l[j].1 ∧ SlS w l[j].1 l[j].2
/-- All of the first k are short. -/
def FewK (l : VL) (k : Nat) : Prop := ∀ j, (h : j < l.length) → j < k → fewB l[j].2 = true
theorem FewK.step {l : VL} {k : Nat} (h : FewK l k) (hk : k < l.length) (h0 : fewB l[k].2 = true) : FewK l (k + 1) := by
  intro j hj hjk
  by_cases e : j = k
  · subst e; exact h0
  · exact h j hj (by omega)
theorem FewK.all {l : VL} {k : Nat} (h : FewK l k) (hk : l.length ≤ k) : l.all (fun x => fewB x.2) = true := by
  rw [List.all_eq_true]
  intro x hx
  obtain ⟨j, hj, rfl⟩ := List.mem_iff_getElem.1 hx
  exact h j hj (by omega)
theorem few_fail {l : VL} {k : Nat} (hk : k < l.length) (h0 : fewB l[k].2 = false) : l.all (fun x => fewB x.2) = false := by
  rw [List.all_eq_false]
  exact ⟨l[k], List.getElem_mem _, by rw [h0]; simp⟩
def IdxF (r : Bool) (w : World) (e : Ending) (w' : World) : Prop := ∃ i : Int, e = .returned (.int .i64 i) ∧ decide (0 ≤ i) = r ∧ Ext w w'
set_option maxHeartbeats 1000000 in
set_option maxRecDepth 100000 in
theorem few1_v (v : Value) (l : List ByteArray) (w : World) (h : SlS w v l) :
    Calls Tryz.prog 55 #[v] w fun e w' => e = .returned (.bool (!fewB l)) ∧ w = w' := by
  have hf := Few_v v l w h
  generalize fewB l = r at hf ⊢
  cases r
  all_goals
    go_enter Tryz.func55, Tryz.ntmps55
    go_wp2_with fail
    refine hf.mono ?_
    rintro e w1 ⟨rfl, rfl⟩
    clear hf
    go_wp2_with fail
    go_ret
    exact ⟨rfl, rfl⟩
set_option maxHeartbeats 1000000 in
set_option maxRecDepth 100000 in
theorem indexp_any (A : Option Addr) (c : Nat) (l : VL) (w : World) (hl : l.length ≤ 1000) (hr : RdV w A l) :
    Calls Tryz.prog 91 #[.slice A l.length c, .func (.func 55) #[] #[]] w (IdxF (!l.all (fun x => fewB x.2)) w) := by
  go_enter Tryz.func91, Tryz.ntmps91
  go_wp2_with fail
  go_loop [8] (fun v => ∃ k : Nat, k ≤ l.length ∧ v = .int .i64 k ∧ Hid (FewK l k)) (fun v => l.length - (intOf v).toNat)
  case atStart => exact ⟨0, Nat.zero_le _, rfl, fun j hj h => by omega⟩
  case round =>
    obtain ⟨k, hk, rfl, HN⟩ := hrel
    by_cases hlt : k < l.length
    · obtain ⟨q, off, rfl, hb, hcell, hs⟩ := hr k hlt
      have hck := few1_v _ _ w hs
      cases h0 : fewB l[k].2
      · have HT := Lib.hid (few_fail hlt h0)
        rw [h0] at hck
        clear h0 hs
        generalize l[k].1 = s at *
        go_wp2_with fail
        refine hck.mono ?_
        rintro e w1 ⟨rfl, rfl⟩
        go_wp2_with fail
        go_ret
        exact ⟨_, rfl, by rw [HT.out]; simp, Ext.rfl' _⟩
      · have HN2 := Lib.hid (HN.out.step hlt h0)
        rw [h0] at hck
        clear h0 hs
        generalize l[k].1 = s at *
        go_wp2_with fail
        refine hck.mono ?_
        rintro e w1 ⟨rfl, rfl⟩
        go_wp2_with fail
        go_round
        case rel => exact ⟨k + 1, by omega, by go_num, HN2⟩
        case measure => simp [intOf]; omega
    · have HT := Lib.hid (HN.out.all (Nat.not_lt.1 hlt))
      go_wp2_with fail
      go_ret
      exact ⟨_, rfl, by rw [HT.out]; rfl, Ext.rfl' _⟩
set_option maxHeartbeats 1000000 in
set_option maxRecDepth 100000 in
theorem containsp_any (A : Option Addr) (c : Nat) (l : VL) (w : World) (hl : l.length ≤ 1000) (hr : RdV w A l) :
    Calls Tryz.prog 54 #[.slice A l.length c, .func (.func 55) #[] #[]] w fun e w' => e = .returned (.bool (!l.all (fun x => fewB x.2))) ∧ Ext w w' := by
  have h := indexp_any A c l w hl hr
  clear hr
  generalize l.all (fun x => fewB x.2) = r at h ⊢
  generalize l.length = n at *
  go_enter Tryz.func54, Tryz.ntmps54
  go_wp2_with fail
  refine h.mono ?_
  rintro e w1 ⟨i, rfl, hi, hE⟩
  clear h
  go_wp2_with fail
  go_ret
  exact ⟨rfl, hE⟩
set_option maxHeartbeats 1000000 in
set_option maxRecDepth 100000 in
theorem few_any (x : ByteArray) (A : Option Addr) (c : Nat) (l : VL) (w : World) (hl : l.length ≤ 1000) (hr : RdV w A l) :
    Calls Tryz.prog 19 #[.string x, .slice A l.length c] w fun e w' => e = .returned (.bool (decide (x.size ≤ 20) && l.all (fun x => fewB x.2))) ∧ Ext w w' := by
  have h := containsp_any A c l w hl hr
  clear hr
  generalize l.all (fun x => fewB x.2) = r at h ⊢
  generalize l.length = n at *
  by_cases hx : x.size ≤ 20
  · have hx2 : (x.size : Int) ≤ 20 := by omega
    rw [decide_eq_true hx]
    cases r
    all_goals
      go_enter Tryz.func19, Tryz.ntmps19
      go_wp2_with fail
      refine h.mono ?_
      rintro e w1 ⟨rfl, hE⟩
      clear h
      go_wp2_with fail
      go_ret
      exact ⟨rfl, hE⟩
  · have hx2 : ¬ (x.size : Int) ≤ 20 := by omega
    rw [decide_eq_false hx]
    clear h
    go_enter Tryz.func19, Tryz.ntmps19
    go_wp2_with fail
    go_ret
    exact ⟨rfl, Ext.rfl' _⟩
theorem two_polys (w : World) (v1 v2 : Value) (l m : List ByteArray) (T : TypeId) (h1 : SlS w v1 l) (h2 : SlS w v2 m) : RdV (w.alloc (.cells #[v1, v2] T)) (some ⟨w.heap.size, 0, none⟩) [(v1, l), (v2, m)] := by
  intro j hj
  have hE := (Ext.rfl' w).al (.cells #[v1, v2] T)
  refine ⟨w.heap.size, 0, rfl, by simp, ?_, ?_⟩
  · rw [Lib.cell_of_heap (World.alloc_heap_new w _)]
    rcases j with _ | _ | j
    · rfl
    · rfl
    · simp at hj; omega
  · rcases j with _ | _ | j
    · exact h1.ext hE
    · exact h2.ext hE
    · simp at hj; omega
end Go.Proofs.YtbldlibijojbjaaGreatDoor.GB

namespace Go.Proofs.YtbldlibijojbjaaGreatDoor.GB
set_option linter.unusedVariables false
set_option linter.unusedSimpArgs false
open Go
open Go.Lib (decDigits itoa)
theorem dd1 (n : Nat) (h : n < 10) : decDigits n = [UInt8.ofNat (48 + n)] := by rw [decDigits, dif_pos h]
theorem rb_nat (n : Nat) (h : n < 10) : rb ((n : Int) : Rat) = ⟨#[UInt8.ofNat (48 + n)]⟩ := by
  unfold rb
  rw [rtext_of_int, itoa, if_neg (by omega), Int.toNat_natCast, dd1 n h]
theorem rb_neg (n : Nat) (h0 : 0 < n) (h : n < 10) : rb ((-(n : Int) : Int) : Rat) = ⟨#[45, UInt8.ofNat (48 + n)]⟩ := by
  unfold rb
  rw [rtext_of_int, itoa, if_pos (by omega), Int.natAbs_neg, Int.natAbs_natCast, dd1 n h]
theorem rb1 : rb 1 = ⟨#[49]⟩ := rb_nat 1 (by decide)
theorem rb2 : rb 2 = ⟨#[50]⟩ := rb_nat 2 (by decide)
theorem rb3 : rb 3 = ⟨#[51]⟩ := rb_nat 3 (by decide)
theorem rbm1 : rb (-1) = ⟨#[45, 49]⟩ := rb_neg 1 (by decide) (by decide)
theorem rbm2 : rb (-2) = ⟨#[45, 50]⟩ := rb_neg 2 (by decide) (by decide)
theorem rbm4 : rb (-4) = ⟨#[45, 52]⟩ := rb_neg 4 (by decide) (by decide)
theorem rbm8 : rb (-8) = ⟨#[45, 56]⟩ := rb_neg 8 (by decide) (by decide)
theorem rbm13 : rb (-1 / 3) = ⟨#[45, 49, 47, 51]⟩ := by
  have e1 : (-1 / 3 : Rat).num = -1 := by decide +kernel
  have e2 : (-1 / 3 : Rat).den = 3 := by decide +kernel
  unfold rb
  rw [rtext_frac (by rw [e2]; decide), e1, e2, itoa, if_pos (by decide), show (-1 : Int).natAbs = 1 from rfl, dd1 1 (by decide), dd1 3 (by decide)]
  rfl
/-- A slice of new strings. -/
theorem SlS.lit (W : World) (l : List ByteArray) (T : TypeId) (hl : l.length ≤ 100000) : SlS (W.alloc (.cells (strs l).toArray T)) (.slice (some ⟨W.heap.size, 0, none⟩) l.length l.length) l := by
  refine ⟨some ⟨W.heap.size, 0, none⟩, l.length, rfl, Nat.le_refl _, by omega, ?_⟩
  intro j hj
  refine ⟨W.heap.size, 0, rfl, by simp, ?_⟩
  rw [Lib.cell_of_heap (World.alloc_heap_new W _)]
  simp [hj, strs]
theorem kk32 : 4294967296 ≤ KK := by decide +kernel
instance (q : Rat) (n : Nat) : Decidable (Bd q n) := by unfold Bd; infer_instance
instance (p : Pl) (n : Nat) : Decidable (PB p n) := by unfold PB; infer_instance
instance (p : Pl) : Decidable (Tr p) := by unfold Tr; infer_instance
theorem PO.lit {w : World} {v : Value} {p : Pl} (n : Nat) (h : PS w v p) (h2 : PB p n ∧ Tr p ∧ p.length ≤ 17) : PO w v p n := ⟨h, h2⟩
def pA : Pl := [1, 1]
def pB : Pl := [1, -1]
def pP : Pl := [1, 0, -1]
def pI : Pl := [0, 1, 0, -1 / 3]
def pX : Pl := [0, -1, 1]
theorem pA_rb : pA.map rb = [⟨#[49]⟩, ⟨#[49]⟩] := by simp [pA, rb1]
theorem pB_rb : pB.map rb = [⟨#[49]⟩, ⟨#[45, 49]⟩] := by simp [pB, rb1, rbm1]
theorem pP_rb : pP.map rb = [⟨#[49]⟩, ⟨#[48]⟩, ⟨#[45, 49]⟩] := by simp [pP, rb0, rb1, rbm1]
theorem pI_rb : pI.map rb = [⟨#[48]⟩, ⟨#[49]⟩, ⟨#[48]⟩, ⟨#[45, 49, 47, 51]⟩] := by simp [pI, rb0, rb1, rbm13]
theorem pX_rb : pX.map rb = [⟨#[48]⟩, ⟨#[45, 49]⟩, ⟨#[49]⟩] := by simp [pX, rb0, rb1, rbm1]
theorem aw_mul (v1 v2 : Value) (w : World) (hW : Wd w) (h1 : PS w v1 pA) (h2 : PS w v2 pB) : Calls Tryz.prog 25 #[v1, v2] w (RP0 pP w) := by
  have h := Mul_p v1 v2 pA pB 4 4 w hW (PO.lit 4 h1 (by decide +kernel)) (PO.lit 4 h2 (by decide +kernel)) (.inr (.inr (by decide))) (by have := kk32; omega)
  rwa [show ptrim (pmul pA pB) = pP by decide +kernel] at h
theorem pe_lit {a b : Pl} (h : ptrim b = a) : PE a b := h ▸ cf_ptrim _
theorem aw_div (v1 v2 : Value) (w : World) (hW : Wd w) (h1 : PS w v1 pP) (h2 : PS w v2 pA) : Calls Tryz.prog 27 #[v1, v2] w fun e w' => ∃ v3 v4, e = .returned (.tuple #[v3, v4, .int .i64 0]) ∧ PS w' v3 pB ∧ PS w' v4 [] ∧ Ext w w' := by
  have hk : 2 * remB pP.length (pP.length * 4) pA.length (pA.length * 4) + 4 + 4 + 6 ≤ 4294967296 := by decide +kernel
  have b1 := PO.lit 4 h1 (by decide +kernel)
  have b2 := PO.lit 4 h2 (by decide +kernel)
  refine (Div_p v1 v2 pP pA 4 4 w hW b1 b2 _ _ (CB.of_pb b1.2.1) (CB.of_pb b2.2.1) (by decide) (Nat.le_trans hk kk32)).mono ?_
  rintro e w' ⟨v3, v4, q, t, rfl, hd, -, h3, h4, hE⟩
  have hd2 : DivRel pP pA pB [] := ⟨by decide +kernel, by decide +kernel, by decide, pe_lit (by decide +kernel)⟩
  obtain ⟨rfl, rfl⟩ := hd.uniq (by decide +kernel) hd2
  exact ⟨v3, v4, rfl, h3, h4, hE⟩
theorem aw_int (v : Value) (w : World) (hW : Wd w) (h : PS w v pP) : Calls Tryz.prog 35 #[v] w (RP0 pI w) := by
  have h := Integrate_p v pP 4 w hW (PO.lit 4 h (by decide +kernel)) (by decide) (by have := kk32; omega)
  rwa [show pint pP = pI by decide +kernel] at h
theorem aw_enc (v : Value) (w : World) (hW : Wd w) (h : PS w v pX) : Calls Tryz.prog 39 #[v, .agg #[.string ⟨#[45, 49]⟩, .string ⟨#[50]⟩]] w fun e w' => e = .returned (.tuple #[.agg #[.string ⟨#[45, 52]⟩, .string ⟨#[50]⟩], .int .i64 0]) ∧ Ext w w' := by
  have h := Enclose_p v pX 4 w hW (PO.lit 4 h (by decide +kernel)) (-1) 2 4 (by decide +kernel) (by decide +kernel) (by decide +kernel) (by have := kk32; omega)
  rw [show penc (-1, 2) pX = (-4, 2) by decide +kernel] at h
  simpa only [IQ, ← rb_v, rbm1, rb2, rbm4] using h
theorem aw_der (v : Value) (w : World) (hW : Wd w) (h : PS w v pI) : Calls Tryz.prog 33 #[v] w (RP0 pP w) := by
  have h := Derive_p v pI 4 w hW (PO.lit 4 h (by decide +kernel)) (by have := kk32; omega)
  rwa [show pder pI = pP by decide +kernel] at h
theorem aw_shift (v : Value) (w : World) (hW : Wd w) (h : PS w v pP) : Calls Tryz.prog 37 #[v, .string ⟨#[49]⟩] w (RP0 [0, -2, -1] w) := by
  have h := Shift_p v pP 4 w hW (PO.lit 4 h (by decide +kernel)) 1 4 (by decide +kernel) (by decide) (Nat.le_trans (show 40 * (sfB 4 4 17 + 4 + 4 + 2) ≤ 4294967296 by decide +kernel) kk32)
  rwa [show pshf 1 pP = [0, -2, -1] by decide +kernel, ← rb_v, rb1] at h
theorem aw_eval (v : Value) (w : World) (hW : Wd w) (h : PS w v pP) : Calls Tryz.prog 31 #[v, .string ⟨#[51]⟩] w fun e w' => e = .returned (.tuple #[.string ⟨#[45, 56]⟩, .int .i64 0]) ∧ Ext w w' := by
  have h := Eval_p v pP 4 w hW (PO.lit 4 h (by decide +kernel)) 3 4 (by decide +kernel) (by have := kk32; omega)
  rw [show pev pP 3 = -8 by decide +kernel, ← rb_v, rb3] at h
  refine h.mono fun e w' hh => ?_
  unfold RetR at hh
  rwa [← rb_v, rbm8] at hh
theorem aw_gcd (v1 v2 : Value) (w : World) (hW : Wd w) (h1 : PS w v1 pP) (h2 : PS w v2 pA) : Calls Tryz.prog 29 #[v1, v2] w (RP0 pA w) := by
  have b1 := PO.lit 4 h1 (by decide +kernel)
  have b2 := PO.lit 4 h2 (by decide +kernel)
  refine (GCD_p v1 v2 pP pA 4 4 w hW b1 b2 2 1000 _ _ (CB.of_pb b1.2.1) (CB.of_pb b2.2.1) (by decide) (by have := kk32; omega) (by have := kk32; omega) (by decide +kernel)).mono ?_
  rintro e w' ⟨v, rfl, ⟨d, h3, hd, -⟩, hE⟩
  have hd2 : GcdRel pP pA pA := ⟨by decide +kernel, .inr (by decide +kernel), ⟨pB, pe_lit (by decide +kernel)⟩, ⟨[1], pe_lit (by decide +kernel)⟩, ⟨[], [1], pe_lit (by decide +kernel)⟩⟩
  cases hd.uniq hd2
  exact ⟨v, rfl, h3, hE⟩
theorem aw_add (v1 v2 : Value) (w : World) (hW : Wd w) (h1 : PS w v1 pA) (h2 : PS w v2 pB) : Calls Tryz.prog 20 #[v1, v2] w (RP0 [2] w) := by
  have h := Add_p v1 v2 pA pB 4 4 w hW (PO.lit 4 h1 (by decide +kernel)) (PO.lit 4 h2 (by decide +kernel)) (by have := kk32; omega)
  rwa [show ptrim (padd pA pB) = [2] by decide +kernel] at h
theorem aw_sub (v1 v2 : Value) (w : World) (hW : Wd w) (h1 : PS w v1 pA) (h2 : PS w v2 pB) : Calls Tryz.prog 23 #[v1, v2] w (RP0 [0, 2] w) := by
  have h := Sub_p v1 v2 pA pB 4 4 w hW (PO.lit 4 h1 (by decide +kernel)) (PO.lit 4 h2 (by decide +kernel)) (by have := kk32; omega)
  rwa [show ptrim (padd pA (pneg pB)) = [0, 2] by decide +kernel] at h
end Go.Proofs.YtbldlibijojbjaaGreatDoor.GB
