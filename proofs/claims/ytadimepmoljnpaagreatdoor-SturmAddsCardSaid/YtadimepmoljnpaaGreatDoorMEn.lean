import Derived.Test.YtadimepmoljnpaaGreatDoorMPr
import Derived.Test.YtadimepmoljnpaaGreatDoorMDe
import Derived.Test.YtadimepmoljnpaaGreatDoorMNum
import Derived.Deep.RegionHeld3
import Derived.Test.YtadimepmoljnpaaGreatDoorCIp
import Derived.Test.YtadimepmoljnpaaGreatDoorMRn
namespace Go.Proofs.YtadimepmoljnpaaGreatDoor.GB
set_option linter.unusedVariables false
set_option linter.unusedSimpArgs false
open Go.RowKit Go.Shelf
attribute [local go_sem] Oper.semAt_some

/-- Horner's rule with intervals. -/
def enc {b : Nat} (I : Rat × Rat) (pre : List (NQ b)) : Rat × Rat := pre.foldl (fun a x => iaddR (imulR a I) (x.1.2, x.1.2)) (0, 0)
theorem enc_snoc {b : Nat} (I : Rat × Rat) (pre : List (NQ b)) (x : NQ b) : enc I (pre ++ [x]) = iaddR (imulR (enc I pre) I) (x.1.2, x.1.2) := by simp [enc]
theorem enc_le {b : Nat} (I : Rat × Rat) (pre : List (NQ b)) : (enc I pre).1 ≤ (enc I pre).2 := by
  rcases List.eq_nil_or_concat pre with rfl | ⟨q, x, rfl⟩
  · exact Rat.le_refl
  · rw [List.concat_eq_append, enc_snoc]; exact endsR_le _ _
theorem Bx.kept {W W' : World} {row : Option Nat} {b : Nat} {cs : Array Value} {T : TypeId} (h : Bx W b cs T) (hg : W.grownBy W' row) (hr : ∀ r, row = some r → ∃ o : Obj, W.heap[r]? = some o ∧ o.isCells = false) : Bx W' b cs T := (grownBy_keeps_cells hg hr h rfl).trans h
set_option maxHeartbeats 8000000 in
set_option maxRecDepth 100000 in
theorem enclose_some (A : Option Addr) (c : Nat) (p : Pl) (I1 I2 : Rat) (zl : Nat) (n m : Nat) (w : World) (HZ : Hid (zl = p.length)) (hl : zl ≤ 1000) (hW : Wd w) (hA : PS w (.slice A zl c) p) (hp : PB p n) (hI1 : Bd I1 m) (hI2 : Bd I2 m) (hle : I1 ≤ I2)
    (hk : 2 * (zl * (m + n + 1) + m + n) + 20 ≤ KK)
    (hv1 : VA (.slice A zl c) true w) (hv2 : ∀ W, Ext w W → Calls Tryz.prog 34 #[.agg #[rtx I1, rtx I2]] W fun e w' => e = .returned (.bool true) ∧ Ext W w') :
    Calls Tryz.prog 63 #[.slice A zl c, .agg #[rtx I1, rtx I2]] w fun e w' => e = .returned (.tuple #[IQ (enc (I1, I2) (pdn n p zl)), .int .i64 0]) ∧ Ext w w' := by
  refine (callsIn_wide (n := 5)).1 ?_
  have HA := Lib.hid hA
  clear hA
  refine callsIn_of_wp_marks Tryz.func63 rfl trivial ?_ rfl
  simp only [Tryz.ntmps63, List.size_toArray, List.length_cons, List.length_nil, Nat.reduceAdd, Nat.reduceSub, Array.replicate_succ, Array.replicate_zero, List.push_toArray, List.append_toArray, List.nil_append, List.cons_append]
  obtain ⟨b3, b4, E0⟩ := boxes2 w #[rtx I1, rtx I2] #[.string ⟨#[]⟩, .string ⟨#[]⟩] 26
  gi_wp2
  generalize (w.alloc (.cells #[rtx I1, rtx I2] 26)).alloc (.cells #[.string ⟨#[]⟩, .string ⟨#[]⟩] 26) = W0 at *
  refine ⟨trivial, ?_⟩
  refine (callsIn_wide.2 (hv1 _ E0)).mono ?_
  rintro e w1 ⟨rfl, hE1⟩
  replace b3 := b3.ext hE1
  replace b4 := b4.ext hE1
  have E1 := E0.tr hE1
  obtain ⟨c30, c31, -, -⟩ := b3.e2
  clear hE1 E0
  gi_wp2
  refine ⟨trivial, ?_⟩
  refine (callsIn_wide.2 (hv2 _ E1)).mono ?_
  rintro e w2 ⟨rfl, hE2⟩
  replace b3 := b3.ext hE2
  replace b4 := b4.ext hE2
  have E2 := E1.tr hE2
  clear hE2 E1 c30 c31 hv1 hv2
  gi_wp2
  have b6 : Bx (w2.alloc (.cells #[.string ⟨#[48]⟩, .string ⟨#[48]⟩] 26)) w2.heap.size #[rtx 0, rtx 0] 26 := by
    have h := Bx.new w2 #[.string ⟨#[48]⟩, .string ⟨#[48]⟩] 26
    rw [← rb_v, rb0]; exact h
  have hz2 : w.heap.size + 1 < w2.heap.size := b4.lt
  replace b3 := b3.al (.cells #[.string ⟨#[48]⟩, .string ⟨#[48]⟩] 26)
  replace b4 := b4.al (.cells #[.string ⟨#[48]⟩, .string ⟨#[48]⟩] 26)
  have E3 := E2.al (.cells #[.string ⟨#[48]⟩, .string ⟨#[48]⟩] 26)
  have hz3 : (w2.alloc (.cells #[.string ⟨#[48]⟩, .string ⟨#[48]⟩] 26)).heap.size = w2.heap.size + 1 := World.size_alloc _ _
  generalize w2.alloc (.cells #[.string ⟨#[48]⟩, .string ⟨#[48]⟩] 26) = w3 at *
  refine ⟨trivial, ?_⟩
  refine (pbackward_in Fence.wide (5 - 1) trivial rfl A zl c w3).mono ?_
  rintro e w4 ⟨rfl, rfl⟩
  have bx := Boxed.new w3 23 (.slice A zl c)
  replace b3 := b3.al (.cells #[.slice A zl c] 23)
  replace b4 := b4.al (.cells #[.slice A zl c] 23)
  replace b6 := b6.al (.cells #[.slice A zl c] 23)
  have E4 := E3.al (.cells #[.slice A zl c] 23)
  have hz4 : (w3.alloc (.cells #[.slice A zl c] 23)).heap.size = w2.heap.size + 1 + 1 := by rw [World.size_alloc, hz3]
  generalize w3.alloc (.cells #[.slice A zl c] 23) = w4 at *
  rw [hz3] at *
  clear E3 E2
  generalize w2.heap.size = g at *
  clear hz3
  gi_wp2
  have hst := pback_stops Fence.wide (5 - 1) trivial rfl (by omega) (g + 1) w.heap.size A c p zl HZ (by omega) n hp w w4 rfl E4 (by omega) HA.out bx.cell
  refine wpIn_rangeFunc_ownF (F := Fence.wide) rfl (by omega) (gf := 110) (lb := #[.pointer (some ⟨g + 1, 0, none⟩)]) rfl trivial (enters_of Tryz.func110 (by kernel_rfl) rfl)
    hst Kps.t (Kps.b (by omega)) (Below.refl _ _) (fun _ => rfl)
    (fun pre W => (Bx W g #[rtx (enc (I1, I2) pre).1, rtx (enc (I1, I2) pre).2] 26 ∧ Bx W w.heap.size #[rtx I1, rtx I2] 26 ∧ Boxed W (g + 1) 23 (.slice A zl c) ∧ (Bd (enc (I1, I2) pre).1 (pre.length * (m + n + 1)) ∧ Bd (enc (I1, I2) pre).2 (pre.length * (m + n + 1))) ∧ Bx W (w.heap.size + 1) #[.string ⟨#[]⟩, .string ⟨#[]⟩] 26) ∧ Below w.heap.size w W)
    (fun _ _ _ => False)
    (OwnFrom.and (Own.from (fun s X Y row hs hg hr => ⟨hs.1.kept hg hr, hs.2.1.kept hg hr, (grownBy_keeps_cells hg hr hs.2.2.1 rfl).trans hs.2.2.1, hs.2.2.2.1, hs.2.2.2.2.kept hg hr⟩) _) (ownFrom_below (Nat.le_refl _) (by omega)))
    (fun _ _ _ _ _ hs _ _ => hs)
    ⟨⟨b6, b3, bx, ⟨(Bd.of_int 0 0 (by decide)).mono (Nat.zero_le _), (Bd.of_int 0 0 (by decide)).mono (Nat.zero_le _)⟩, b4⟩, E4⟩
    (fun x => { tmps := #[.slice A zl c, .agg #[rtx I1, rtx I2], undef, .pointer (some ⟨w.heap.size, 0, none⟩), .pointer (some ⟨w.heap.size + 1, 0, none⟩), .int .i64 0, .pointer (some ⟨g, 0, none⟩), undef, rtx x.1.2, .slice A zl c, .bool true, .bool false, .bool false, .agg #[rtx I1, rtx I2], .bool true, .bool false, .bool false, undef, .agg #[.string ⟨#[48]⟩, .string ⟨#[48]⟩], .slice A zl c, .func (.func 110) #[] #[.pointer (some ⟨g + 1, 0, none⟩)], .int .i64 (x.1.1 : Int), rtx x.1.2, undef, undef, undef, undef, undef, undef, undef, undef, undef, undef, undef, undef, undef, undef, undef], defers := [] }) ?assign ?body ?done ?stop
  case assign =>
    intro l x W K hK
    gi_wp2
    exact hK
  case body =>
    rintro l pre ⟨⟨i, C⟩, hi1, hbC⟩ W ⟨⟨h6, h3, hx, hbd, h4⟩, hb⟩ hpl
    dsimp only at hi1 hbC ⊢
    have hWw := Lib.hid (Wd.ext hW hb)
    obtain ⟨c60, c61, -, -⟩ := h6.e2
    obtain ⟨c30, c31, -, -⟩ := h3.e2
    have hB : pre.length * (m + n + 1) ≤ zl * (m + n + 1) := Nat.mul_le_mul_right _ (by omega)
    have hs := enc_snoc (I1, I2) pre ⟨(i, C), hi1, hbC⟩
    have hle2 := enc_le (I1, I2) pre
    dsimp only at hs
    generalize hA0 : enc (I1, I2) pre = a at *
    have hM := fun W (hw : Wd W) => iMul_q a (I1, I2) _ m W hw hbd ⟨hI1, hI2⟩ hle2 hle (by omega)
    have hmb := imulR_bd hbd (b := (I1, I2)) ⟨hI1, hI2⟩
    have hml : (imulR a (I1, I2)).1 ≤ (imulR a (I1, I2)).2 := endsR_le _ _
    generalize imulR a (I1, I2) = q at *
    have hAd := fun W (hw : Wd W) => iAdd_q q (C, C) _ n W hw hmb ⟨hbC, hbC⟩ hml Rat.le_refl (by omega)
    have hab := iaddR_bd hmb (b := (C, C)) ⟨hbC, hbC⟩
    generalize iaddR q (C, C) = t at *
    have hbs : Bd t.1 ((pre.length + 1) * (m + n + 1)) ∧ Bd t.2 ((pre.length + 1) * (m + n + 1)) := by
      have e : (pre.length + 1) * (m + n + 1) = pre.length * (m + n + 1) + (m + n + 1) := Nat.succ_mul _ _
      exact ⟨hab.1.mono (by omega), hab.2.mono (by omega)⟩
    have HM := Lib.hid hM
    have HAd := Lib.hid hAd
    have HS := Lib.hid hs
    clear hM hAd hs hB hab hmb hml hle2 hA0
    gi_wp2
    refine ⟨trivial, ?_⟩
    refine (CallsIn.inRound l (callsIn_wide.2 (HM.out W hWw.out))).mono ?_
    rintro e W1 ⟨rfl, hE1⟩
    have HE1 := Lib.hid hE1
    have k6 := h6.ext hE1
    obtain ⟨d60, d61, e60, e61⟩ := k6.e2
    clear hE1
    gi_wp2
    have kk := k6.put0 (rtx q.1)
    have kk2 := kk.put1 (rtx q.2)
    obtain ⟨p60, p61, r60, r61⟩ := kk2.e2
    have hbW1 : Below w.heap.size W W1 := HE1.out.mono hb.size
    have hbW2 : Below w.heap.size W ((W1.setCell ⟨g, 0, none⟩ (rtx q.1)).setCell ⟨g, 1, none⟩ (rtx q.2)) := (hbW1.setCell (p := ⟨g, 0, none⟩) (by show w.heap.size ≤ g; omega) _).setCell (p := ⟨g, 1, none⟩) (by show w.heap.size ≤ g; omega) _
    have hWW2 : Hid (Wd ((W1.setCell ⟨g, 0, none⟩ (rtx q.1)).setCell ⟨g, 1, none⟩ (rtx q.2))) := Wd.ext hW (hb.trans hbW2)
    have k4 := ((h4.ext HE1.out).set (p := ⟨g, 0, none⟩) (by show w.heap.size + 1 ≠ g; omega) (rtx q.1)).set (p := ⟨g, 1, none⟩) (by show w.heap.size + 1 ≠ g; omega) (rtx q.2)
    have k3 := ((h3.ext HE1.out).set (p := ⟨g, 0, none⟩) (by show w.heap.size ≠ g; omega) (rtx q.1)).set (p := ⟨g, 1, none⟩) (by show w.heap.size ≠ g; omega) (rtx q.2)
    have kx : Boxed ((W1.setCell ⟨g, 0, none⟩ (rtx q.1)).setCell ⟨g, 1, none⟩ (rtx q.2)) (g + 1) 23 (.slice A zl c) := ((Bx.ext (cs := #[.slice A zl c]) hx HE1.out).set (p := ⟨g, 0, none⟩) (by show g + 1 ≠ g; omega) (rtx q.1)).set (p := ⟨g, 1, none⟩) (by show g + 1 ≠ g; omega) (rtx q.2)
    have hkeep : Hid (KeepsOthers W ((W1.setCell ⟨g, 0, none⟩ (rtx q.1)).setCell ⟨g, 1, none⟩ (rtx q.2))) := ((ext_keeps HE1.out).trans (KeepsOthers.setCell _ _ _)).trans (KeepsOthers.setCell _ _ _)
    generalize (W1.setCell ⟨g, 0, none⟩ (rtx q.1)).setCell ⟨g, 1, none⟩ (rtx q.2) = W2 at *
    clear kk k6 d60 d61 e60 e61
    refine ⟨trivial, ?_⟩
    refine (CallsIn.inRound l (callsIn_wide.2 (HAd.out W2 hWW2.out))).mono ?_
    rintro e W3 ⟨rfl, hE3⟩
    have HE3 := Lib.hid hE3
    have k7 := kk2.ext hE3
    obtain ⟨d60, d61, e60, e61⟩ := k7.e2
    clear hE3
    gi_wp2
    have hbW3 : Below w.heap.size W W3 := hbW2.trans (HE3.out.mono (by have := hb.size; have := hbW2.size; omega))
    have hbW4 : Below w.heap.size W ((W3.setCell ⟨g, 0, none⟩ (rtx t.1)).setCell ⟨g, 1, none⟩ (rtx t.2)) := (hbW3.setCell (p := ⟨g, 0, none⟩) (by show w.heap.size ≤ g; omega) _).setCell (p := ⟨g, 1, none⟩) (by show w.heap.size ≤ g; omega) _
    have j4 := ((k4.ext HE3.out).set (p := ⟨g, 0, none⟩) (by show w.heap.size + 1 ≠ g; omega) (rtx t.1)).set (p := ⟨g, 1, none⟩) (by show w.heap.size + 1 ≠ g; omega) (rtx t.2)
    have j3 := ((k3.ext HE3.out).set (p := ⟨g, 0, none⟩) (by show w.heap.size ≠ g; omega) (rtx t.1)).set (p := ⟨g, 1, none⟩) (by show w.heap.size ≠ g; omega) (rtx t.2)
    have jx : Boxed ((W3.setCell ⟨g, 0, none⟩ (rtx t.1)).setCell ⟨g, 1, none⟩ (rtx t.2)) (g + 1) 23 (.slice A zl c) := ((Bx.ext (cs := #[.slice A zl c]) kx HE3.out).set (p := ⟨g, 0, none⟩) (by show g + 1 ≠ g; omega) (rtx t.1)).set (p := ⟨g, 1, none⟩) (by show g + 1 ≠ g; omega) (rtx t.2)
    have j6 := (k7.put0 (rtx t.1)).put1 (rtx t.2)
    have hkk : Kps w.heap.size (g + 1) W ((W3.setCell ⟨g, 0, none⟩ (rtx t.1)).setCell ⟨g, 1, none⟩ (rtx t.2)) := by
      refine ⟨hbW4, fun v e => ?_⟩
      rw [hx.cell] at e
      rw [jx.cell]; exact e
    refine ⟨((hkeep.out.trans (ext_keeps HE3.out)).trans (KeepsOthers.setCell _ _ _)).trans (KeepsOthers.setCell _ _ _), hkk, ⟨?_, j3, jx, ?_, j4⟩, hb.trans hkk.1⟩
    · rw [HS.out]; exact j6
    · rw [HS.out, List.length_append, List.length_singleton]; exact hbs
  case done =>
    rintro D ys W hD rfl ⟨⟨h6, h3, hx, hbd, h4⟩, hb⟩ hK
    obtain ⟨c60, c61, -, -⟩ := h6.e2
    obtain ⟨c40, c41, f40, f41⟩ := h4.e2
    gi_wp2
    generalize enc (I1, I2) (pdn n p zl) = s at *
    have kk := (h4.put0 (rtx s.1)).put1 (rtx s.2)
    have hD' : D ≠ w.heap.size + 1 := by omega
    have hK' : ((W.setCell ⟨w.heap.size + 1, 0, none⟩ (rtx s.1)).setCell ⟨w.heap.size + 1, 1, none⟩ (rtx s.2)).heap[D]? = some (.deferred (some [])) := by
      rw [Below.heap_setCell _ _ _ _ hD', Below.heap_setCell _ _ _ _ hD']; exact hK
    refine ⟨by simp, .inl ⟨_, _, rfl, run_takeDeferred hK', ?_⟩⟩
    have hk2 := Bx.kept kk (grownBy_putObj' _ D (.deferred none)) (fun r e => by cases e; exact ⟨_, hK', rfl⟩)
    obtain ⟨m0, m1, -, -⟩ := hk2.e2
    refine ⟨.tuple #[IQ s, .int .i64 0], ?_, rfl, ?_⟩
    · simp [results, Tryz.f63, go_sem, m0, m1, IQ]
    · exact ((hb.setCell (p := ⟨w.heap.size + 1, 0, none⟩) (by show w.heap.size ≤ w.heap.size + 1; omega) _).setCell (p := ⟨w.heap.size + 1, 1, none⟩) (by show w.heap.size ≤ w.heap.size + 1; omega) _).trans (belowK_b (w := w) (Nat.le_refl _) _ D _ _ (by omega) hK' rfl rfl)
  case stop =>
    rintro D c pre W _ _ h _
    exact h.elim
end Go.Proofs.YtadimepmoljnpaaGreatDoor.GB

namespace Go.Proofs.YtadimepmoljnpaaGreatDoor.GB
set_option linter.unusedVariables false
set_option linter.unusedSimpArgs false
open Go.RowKit Go.Shelf
attribute [local go_sem] Oper.semAt_some
/-- rational.Valid hands back a bool. -/
def RVA (v : Value) (b : Bool) (w : World) : Prop := ∀ W, Ext w W → Calls Tryz.prog 31 #[v] W fun e w' => e = .returned (.bool b) ∧ Ext W w'
/-- interval.Valid hands back a bool. -/
def IVA (v : Value) (b : Bool) (w : World) : Prop := ∀ W, Ext w W → Calls Tryz.prog 34 #[v] W fun e w' => e = .returned (.bool b) ∧ Ext W w'
end Go.Proofs.YtadimepmoljnpaaGreatDoor.GB

namespace Go.Proofs.YtadimepmoljnpaaGreatDoor.GB
set_option linter.unusedVariables false
set_option linter.unusedSimpArgs false
open Go.RowKit Go.Shelf
attribute [local go_sem] Oper.semAt_some

end Go.Proofs.YtadimepmoljnpaaGreatDoor.GB

namespace Go.Proofs.YtadimepmoljnpaaGreatDoor.GB
set_option linter.unusedVariables false
set_option linter.unusedSimpArgs false
open Go.RowKit Go.Shelf
attribute [local go_sem ↓] Go.wp_at_zero Go.wp_at_succ

end Go.Proofs.YtadimepmoljnpaaGreatDoor.GB

namespace Go.Proofs.YtadimepmoljnpaaGreatDoor.GB
set_option linter.unusedVariables false
set_option linter.unusedSimpArgs false
open Go

/-! Values along a list. -/
theorem hor_pev {b : Nat} (X : Rat) (p : Pl) (hp : PB p b) (hl : p.length ≤ 100000) : hor X (pdn b p p.length) = pev p X := by
  have h1 : hor X (pdn b p p.length) = ((pdn b p p.length).map (fun x => x.1.2)).foldl (fun a x => a * X + x) 0 := by
    unfold hor; rw [List.foldl_map]
  rw [h1, pdn_prefix hp _ (Nat.le_refl _) hl, Nat.sub_self, List.drop_zero, List.foldl_reverse]
  clear h1 hp hl
  induction p with
  | nil => rfl
  | cons a p ih => rw [List.foldr_cons, ih]; show _ = a + X * pev p X; grind
/-- The enclosure. -/
def penc (I : Rat × Rat) (p : Pl) : Rat × Rat := p.foldr (fun c a => iaddR (imulR a I) (c, c)) (0, 0)
theorem enc_penc {b : Nat} (I : Rat × Rat) (p : Pl) (hp : PB p b) (hl : p.length ≤ 100000) : enc I (pdn b p p.length) = penc I p := by
  have h1 : enc I (pdn b p p.length) = ((pdn b p p.length).map (fun x => x.1.2)).foldl (fun a c => iaddR (imulR a I) (c, c)) (0, 0) := by
    unfold enc; rw [List.foldl_map]
  rw [h1, pdn_prefix hp _ (Nat.le_refl _) hl, Nat.sub_self, List.drop_zero, List.foldl_reverse]
  rfl
theorem pder_pb {p : Pl} {n : Nat} (hp : PB p n) (hl : p.length ≤ 100000) : PB (pder p) (n + 20) := by
  intro q hq
  obtain ⟨j, hj, rfl⟩ := List.mem_map.1 hq
  have hj' := List.mem_range.1 hj
  exact (hp.cf _).mul (bd_small _ (by omega))
/-! Contracts at valid polynomials. -/
/-- The value stands for the valid polynomial p of n bits. -/
def PO (w : World) (v : Value) (p : Pl) (n : Nat) : Prop := PS w v p ∧ PB p n ∧ Tr p ∧ p.length ≤ 17
theorem PO.ext {w w' : World} {v : Value} {p : Pl} {n : Nat} (h : PO w v p n) (hE : Ext w w') : PO w' v p n := ⟨h.1.ext hE, h.2⟩
theorem PO.va {w : World} {v : Value} {p : Pl} {n : Nat} (h : PO w v p n) (hW : Wd w) (hn : n + 1 ≤ KK) : VA v true w := pValid_p v p n w hW h.1 h.2.1 h.2.2.1 h.2.2.2 hn
def RP0 (q : Pl) (w : World) : Ending → World → Prop := RetQ0 (fun W v => PS W v q) w
section
variable (v1 v2 : Value) (p r : Pl) (n m : Nat) (w : World) (hW : Wd w) (h1 : PO w v1 p n) (h2 : PO w v2 r m)
include hW h1 h2
theorem Sub_p (hk : n + m + 3 ≤ KK) : Calls Tryz.prog 139 #[v1, v2] w (RP0 (ptrim (padd p (pneg r))) w) :=
  PSub_ok v1 v2 _ w fun W hE => papply_minus v1 v2 _ W ((h1.va hW (by omega)).ext hE) ((h2.va hW (by omega)).ext hE) fun W' hE' =>
    (pminus_v v1 v2 p r n m W' ((hW.ext hE).ext hE') ((h1.1.ext hE).ext hE') ((h2.1.ext hE).ext hE') h1.2.1 h2.2.1 hk (by have := h1.2.2.2; omega) (by have := h2.2.2.2; omega)).mono fun e w' h => h
theorem GCD_p (f N n' m' : Nat) (c1 : CB p n') (c2 : CB r m') (hf : r.length ≤ f) (hk : n + m + 3 ≤ KK) (hN : 2 * N + 6 ≤ KK) (hg : gok f p.length n' r.length m' N = true) : Calls Tryz.prog 82 #[v1, v2] w (RetQ0 (fun W v => ∃ d, PS W v d ∧ (GcdRel p r d ∧ CB d N)) w) :=
  PGCD_ok v1 v2 _ w fun W hE => papply_common v1 v2 _ W ((h1.va hW (by omega)).ext hE) ((h2.va hW (by omega)).ext hE) fun W' hE' =>
    (pcommon_v v1 v2 p r n' m' f N W' ((hW.ext hE).ext hE') ((h1.1.ext hE).ext hE') ((h2.1.ext hE).ext hE') ⟨h1.2.2.1, h2.2.2.1, c1, c2, by have := h1.2.2.2; omega, by have := h2.2.2.2; omega, hf, ⟨hg, hN⟩, fun d h => h⟩).mono fun e w' ⟨v, d, h1, h2, h3, h4⟩ => ⟨v, h1, ⟨d, h3, h2⟩, h4⟩
theorem Div_p (n' m' : Nat) (c1 : CB p n') (c2 : CB r m') (hr0 : r ≠ []) (hk : 2 * remB p.length n' r.length m' + n + m + 6 ≤ KK) : Calls Tryz.prog 83 #[v1, v2] w (DivP0 p r (remB p.length n' r.length m') w) := by
  have a1 := h1.va hW (by omega)
  have a2 := h2.va hW (by omega)
  have b1 := h1.2.2.2
  have b2 := h2.2.2.2
  have h3 := fun W (hE : Ext w W) => pdiv_v v1 v2 p r m' n' W (hW.ext hE) (h1.1.ext hE) (h2.1.ext hE) c1 c2 h1.2.2.1 h2.2.2.1 hr0 (by omega) (by omega)
  obtain ⟨B, cb, rfl⟩ := h2.1.sl
  exact PDiv_ok v1 B cb _ p r _ w (List.length_pos_iff.2 hr0) (by omega) a1 a2 h3
end
section
variable (v : Value) (p : Pl) (n : Nat) (w : World) (hW : Wd w) (h : PO w v p n)
include hW h
theorem Eval_p (X : Rat) (m : Nat) (hX : Bd X m) (hk : 20 * (m + n + 1) + 20 ≤ KK) : Calls Tryz.prog 28 #[v, rtx X] w (RetR w (pev p X)) := by
  have a1 := h.va hW (by omega)
  have b1 := h.2.2.2
  obtain ⟨A, c, rfl⟩ := h.1.sl
  have hh := eval_some A c p X p.length n m w (Lib.hid rfl) (by omega) hW h.1 h.2.1 hX (by
    have : p.length * (m + n + 1) ≤ 17 * (m + n + 1) := Nat.mul_le_mul_right _ b1
    omega) a1 (fun W hE => rValid_q X m W (hW.ext hE) hX (by omega))
  rwa [hor_pev X p h.2.1 (by omega)] at hh
theorem Derive_p (hk : n + 23 ≤ KK) : Calls Tryz.prog 62 #[v] w (RP0 (pder p) w) := by
  have a1 := h.va hW (by omega)
  have b1 := h.2.2.2
  obtain ⟨A, c, rfl⟩ := h.1.sl
  exact derive_ok A c _ n p w (Lib.hid rfl) (by omega) hW h.1 a1 h.2.1 hk
theorem Enclose_p (I1 I2 : Rat) (m : Nat) (h1 : Bd I1 m) (h2 : Bd I2 m) (hle : I1 ≤ I2) (hk : 40 * (m + n + 1) + 40 ≤ KK) : Calls Tryz.prog 63 #[v, .agg #[rtx I1, rtx I2]] w fun e w' => e = .returned (.tuple #[IQ (penc (I1, I2) p), .int .i64 0]) ∧ Ext w w' := by
  have a1 := h.va hW (by omega)
  have b1 := h.2.2.2
  obtain ⟨A, c, rfl⟩ := h.1.sl
  have hh := enclose_some A c p I1 I2 p.length n m w (Lib.hid rfl) (by omega) hW h.1 h.2.1 h1 h2 hle (by
    have : p.length * (m + n + 1) ≤ 17 * (m + n + 1) := Nat.mul_le_mul_right _ b1
    omega) a1 (fun W hE => (iValid_q I1 I2 m m W (hW.ext hE) h1 h2 (by omega)).mono fun e w' h => by rw [decide_eq_true hle] at h; exact h)
  rwa [enc_penc (I1, I2) p h.2.1 (by omega)] at hh
end
end Go.Proofs.YtadimepmoljnpaaGreatDoor.GB

namespace Go.Proofs.YtadimepmoljnpaaGreatDoor.GB
set_option linter.unusedVariables false
set_option linter.unusedSimpArgs false
open Go
/-! Derivatives and integrals of lists of numbers. -/
theorem cf_pder (p : Pl) (i : Nat) : cf (pder p) i = cf p (i + 1) * (((i + 1 : Nat) : Int) : Rat) := by
  unfold pder
  rw [cf_range]
  split
  · rfl
  · rw [cf_ge (p := p) (i := i + 1) (by omega)]; grind
theorem pder_len (p : Pl) : (pder p).length = p.length - 1 := by simp [pder]
theorem nz (i : Nat) : (((i + 1 : Nat) : Int) : Rat) ≠ 0 := by
  intro e
  have : ((i + 1 : Nat) : Int) = 0 := by exact_mod_cast e
  omega
theorem tr_of_lead {p : Pl} (h : p ≠ [] → cf p (p.length - 1) ≠ 0) : Tr p := by
  intro e
  have hne : p ≠ [] := by intro h0; subst h0; cases e
  apply h hne
  rw [List.getLast?_eq_getElem?] at e
  simp only [cf, List.getD_eq_getElem?_getD, e]; rfl
theorem pder_tr {p : Pl} (tp : Tr p) : Tr (pder p) := by
  apply tr_of_lead
  intro hne
  have hl : 0 < p.length - 1 := by rw [← pder_len]; exact List.length_pos_iff.2 hne
  have hp : p ≠ [] := by intro e; subst e; simp at hl
  rw [cf_pder, pder_len]
  have e1 : p.length - 1 - 1 + 1 = p.length - 1 := by omega
  have h1 := tr_lead tp hp
  have h2 := nz (p.length - 1 - 1)
  rw [e1] at h2 ⊢
  intro e
  rcases Rat.mul_eq_zero.1 e with h | h
  · exact h1 h
  · exact h2 h
theorem D_psc (x : Rat) (p : Pl) : PE (pder (psc x p)) (psc x (pder p)) := fun i => by rw [cf_pder, cf_psc, cf_psc, cf_pder]; grind
theorem D_padd (a b : Pl) : PE (pder (padd a b)) (padd (pder a) (pder b)) := fun i => by rw [cf_pder, cf_padd, cf_padd, cf_pder, cf_pder]; grind
theorem nz_succ (i : Nat) : (((i + 1 + 1 : Nat) : Int) : Rat) = (((i + 1 : Nat) : Int) : Rat) + 1 := by push_cast; rfl
theorem D_cons (x : Rat) (p : Pl) : PE (pder (x :: p)) (padd p (0 :: pder p)) := fun i => by
  rw [cf_pder, cf_padd]
  cases i with
  | zero =>
    show cf p 0 * _ = cf p 0 + 0
    have : (((0 + 1 : Nat) : Int) : Rat) = 1 := rfl
    rw [this]; grind
  | succ i =>
    show cf p (i + 1) * _ = cf p (i + 1) + cf (pder p) i
    rw [cf_pder, nz_succ]; grind
theorem D_congr {a b : Pl} (h : PE a b) : PE (pder a) (pder b) := fun i => by rw [cf_pder, cf_pder, h]
/-- The product rule. -/
theorem D_mul (p r : Pl) : PE (pder (pmul p r)) (padd (pmul (pder p) r) (pmul p (pder r))) := by
  induction p with
  | nil =>
    intro i
    have e : pmul [] r = [] := rfl
    have e2 : pder [] = [] := rfl
    have e3 : pmul [] (pder r) = [] := rfl
    rw [cf_padd, e2, e, e3, e2]; show (0 : Rat) = 0 + 0; grind
  | cons x p ih =>
    have h1 : PE (pder (pmul (x :: p) r)) (padd (psc x (pder r)) (padd (pmul p r) (0 :: pder (pmul p r)))) :=
      (D_padd (psc x r) (0 :: pmul p r)).trans (PE.add (D_psc x r) (D_cons 0 (pmul p r)))
    have h2 : PE (pmul (pder (x :: p)) r) (padd (pmul p r) (0 :: pmul (pder p) r)) :=
      ((D_cons x p).mul_l r).trans ((pmul_add_l p (0 :: pder p) r).trans (PE.add (PE.rfl' _) (pmul_shift_l (pder p) r)))
    intro i
    rw [h1 i, cf_padd, cf_padd, cf_padd, h2 i, cf_padd]
    show _ = _ + cf (padd (psc x (pder r)) (0 :: pmul p (pder r))) i
    rw [cf_padd]
    cases i with
    | zero => show _ + (_ + 0) = _ + 0 + (_ + 0); grind
    | succ i =>
      show cf (psc x (pder r)) (i + 1) + (cf (pmul p r) (i + 1) + cf (pder (pmul p r)) i) = cf (pmul p r) (i + 1) + cf (pmul (pder p) r) i + (cf (psc x (pder r)) (i + 1) + cf (pmul p (pder r)) i)
      rw [ih i, cf_padd]; grind
end Go.Proofs.YtadimepmoljnpaaGreatDoor.GB

namespace Go.Proofs.YtadimepmoljnpaaGreatDoor.GB
set_option linter.unusedVariables false
set_option linter.unusedSimpArgs false
open Go.RowKit

theorem bytes_inj {s t : ByteArray} (h : s.toList = t.toList) : s = t := by
  rw [ByteArray.toList_eq, ByteArray.toList_eq] at h
  cases s; cases t
  congr 1
  exact Array.toList_inj.1 h
theorem sEq (s t : ByteArray) : (s.toList == t.toList) = decide (s = t) := by
  by_cases h : s = t
  · subst h; simp
  · have : s.toList ≠ t.toList := fun e => h (bytes_inj e)
    simp [h, this]
theorem take_ne {l m : List ByteArray} {k : Nat} (h1 : k < l.length) (h2 : k < m.length) (h : l[k] ≠ m[k]) : ¬ l = m := by
  rintro rfl; exact h rfl
set_option maxHeartbeats 1000000 in
set_option maxRecDepth 100000 in
theorem Same_v (v1 v2 : Value) (l m : List ByteArray) (w : World) (h1 : SlS w v1 l) (h2 : SlS w v2 m) :
    Calls Tryz.prog 19 #[v1, v2] w fun e w' => e = .returned (.bool (decide (l = m))) ∧ Ext w w' := by
  obtain ⟨A, c, rfl, a1, a2, a3⟩ := h1
  obtain ⟨B, d, rfl, b1, b2, b3⟩ := h2
  by_cases hl : l.length = m.length
  · have hl' : ((l.length : Int) == (m.length : Int)) = true := by simp [hl]
    obtain ⟨n, hn⟩ : ∃ n, n = l.length := ⟨_, rfl⟩
    have HN : Hid (l.length = n) := hn.symm
    have HM : Hid (m.length = n) := by show m.length = n; omega
    rw [show l.length = n from HN.out] at a1 ⊢
    rw [show m.length = n from HM.out] at b1 ⊢
    clear hn hl hl'
    go_enter Tryz.func19, Tryz.ntmps19
    go_wp2
    go_loopw [5] (fun v wr => ∃ k : Nat, k ≤ n ∧ v = .int .i64 (k : Int) ∧ Hid (l.take k = m.take k) ∧ Hid (Ext w wr)) (fun v _ => n - (intOf v).toNat)
    case atStart => exact ⟨0, Nat.zero_le _, rfl, rfl, Ext.rfl' _⟩
    case round =>
      obtain ⟨k, hk, rfl, HT, HE⟩ := hrel
      by_cases hlt : k < n
      · have k1 : k < l.length := by rw [HN.out]; exact hlt
        have k2 : k < m.length := by rw [HM.out]; exact hlt
        obtain ⟨b, off, rfl, hb, hc⟩ := a3 k k1
        obtain ⟨b', off', rfl, hb', hc'⟩ := b3 k k2
        replace hc := HE.out.cell hc
        replace hc' := HE.out.cell hc'
        by_cases hs : l[k] = m[k]
        · have HT' : Hid (l.take (k + 1) = m.take (k + 1)) := by
            show l.take (k + 1) = m.take (k + 1)
            rw [List.take_succ_eq_append_getElem k1, List.take_succ_eq_append_getElem k2, HT.out, hs]
          have hq : (l[k].toList == m[k].toList) = true := by rw [sEq]; simp [hs]
          clear hs
          generalize l[k] = s at *
          generalize m[k] = t at *
          go_wp2
          go_region_with (fail)
          all_goals
            go_wp2
            go_roundw
            case rel => exact ⟨k + 1, by omega, by go_num, HT', Ext.dr' HE⟩
            case measure => simp [intOf]; omega
        · have hq : (l[k].toList == m[k].toList) = false := by rw [sEq]; simp [hs]
          have HR := Lib.hid (take_ne k1 k2 hs)
          clear hs
          generalize l[k] = s at *
          generalize m[k] = t at *
          go_wp2
          go_region_with (fail)
          all_goals
            go_wp2
            go_ret
            exact ⟨by rw [decide_eq_false HR.out]; rfl, Ext.dr' HE⟩
      · have HR : Hid (l = m) := by
          have := HT.out
          rwa [List.take_of_length_le (by have : l.length = n := HN.out; omega), List.take_of_length_le (by have : m.length = n := HM.out; omega)] at this
        have hk' : k = n := by omega
        subst hk'
        go_wp2
        go_ret
        exact ⟨by rw [decide_eq_true HR.out]; rfl, HE⟩
  · have hne : ¬ l = m := fun e => hl (by rw [e])
    rw [decide_eq_false hne]
    have hl' : ((l.length : Int) == (m.length : Int)) = false := by rw [beq_eq_false_iff_ne]; omega
    have hl2 : ¬ ((l.length : Int) = (m.length : Int)) := by omega
    clear hne hl
    go_enter Tryz.func19, Tryz.ntmps19
    go_wp2
    go_ret
    exact ⟨rfl, Ext.rfl' _⟩
end Go.Proofs.YtadimepmoljnpaaGreatDoor.GB

namespace Go.Proofs.YtadimepmoljnpaaGreatDoor.GB
set_option linter.unusedVariables false
set_option linter.unusedSimpArgs false
open Go.RowKit Go.Shelf
attribute [local go_sem ↓] Go.wp_at_zero Go.wp_at_succ
end Go.Proofs.YtadimepmoljnpaaGreatDoor.GB

namespace Go.Proofs.YtadimepmoljnpaaGreatDoor.GB
set_option linter.unusedVariables false
set_option linter.unusedSimpArgs false
open Go
open Go.Lib (decDigits itoa)
theorem dd1 (n : Nat) (h : n < 10) : decDigits n = [UInt8.ofNat (48 + n)] := by rw [decDigits, dif_pos h]
theorem rb_nat (n : Nat) (h : n < 10) : rb ((n : Int) : Rat) = ⟨#[UInt8.ofNat (48 + n)]⟩ := by
  unfold rb
  rw [rtext_of_int, itoa, if_neg (by omega), Int.toNat_natCast, dd1 n h]
theorem rb_neg (n : Nat) (h0 : 0 < n) (h : n < 10) : rb ((-(n : Int) : Int) : Rat) = ⟨#[45, UInt8.ofNat (48 + n)]⟩ := by
  unfold rb
  rw [rtext_of_int, itoa, if_pos (by omega), Int.natAbs_neg, Int.natAbs_natCast, dd1 n h]
theorem rb1 : rb 1 = ⟨#[49]⟩ := rb_nat 1 (by decide)
theorem rb2 : rb 2 = ⟨#[50]⟩ := rb_nat 2 (by decide)
theorem rbm1 : rb (-1) = ⟨#[45, 49]⟩ := rb_neg 1 (by decide) (by decide)
theorem rbm2 : rb (-2) = ⟨#[45, 50]⟩ := rb_neg 2 (by decide) (by decide)
/-- A slice of new strings. -/
theorem SlS.lit (W : World) (l : List ByteArray) (T : TypeId) (hl : l.length ≤ 100000) : SlS (W.alloc (.cells (strs l).toArray T)) (.slice (some ⟨W.heap.size, 0, none⟩) l.length l.length) l := by
  refine ⟨some ⟨W.heap.size, 0, none⟩, l.length, rfl, Nat.le_refl _, by omega, ?_⟩
  intro j hj
  refine ⟨W.heap.size, 0, rfl, by simp, ?_⟩
  rw [Lib.cell_of_heap (World.alloc_heap_new W _)]
  simp [hj, strs]
theorem kk32 : 4294967296 ≤ KK := by decide +kernel
instance (q : Rat) (n : Nat) : Decidable (Bd q n) := by unfold Bd; infer_instance
instance (p : Pl) (n : Nat) : Decidable (PB p n) := by unfold PB; infer_instance
instance (p : Pl) : Decidable (Tr p) := by unfold Tr; infer_instance
theorem PO.lit {w : World} {v : Value} {p : Pl} (n : Nat) (h : PS w v p) (h2 : PB p n ∧ Tr p ∧ p.length ≤ 17) : PO w v p n := ⟨h, h2⟩
def pX : Pl := [0, -1, 1]
theorem pX_rb : pX.map rb = [⟨#[48]⟩, ⟨#[45, 49]⟩, ⟨#[49]⟩] := by simp [pX, rb0, rb1, rbm1]
end Go.Proofs.YtadimepmoljnpaaGreatDoor.GB

namespace Go.Proofs.YtadimepmoljnpaaGreatDoor.GB
set_option linter.unusedVariables false
set_option linter.unusedSimpArgs false
open Go.RowKit Go.Shelf
attribute [local go_sem ↓] Go.wp_at_zero Go.wp_at_succ
theorem aw_same (v1 v2 : Value) (p : Pl) (w : World) (h1 : PS w v1 p) (h2 : PS w v2 p) : Calls Tryz.prog 19 #[v1, v2] w fun e w' => e = .returned (.bool true) ∧ Ext w w' := by
  have h := Same_v v1 v2 _ _ w h1 h2
  rwa [decide_eq_true rfl] at h
def p2 : Pl := [2]
def p1 : Pl := [1]
theorem PS.hext {w w' : World} {v : Value} {p : Pl} (h : Hid (PS w v p)) (hE : Ext w w') : Hid (PS w' v p) := h.out.ext hE
theorem Wd.hext {w w' : World} (h : Hid (Wd w)) (hE : Ext w w') : Hid (Wd w') := h.out.ext hE
end Go.Proofs.YtadimepmoljnpaaGreatDoor.GB

namespace Go.Proofs.YtadimepmoljnpaaGreatDoor.GB
set_option linter.unusedVariables false
set_option linter.unusedSimpArgs false
open Go.RowKit Go.Shelf
attribute [local go_sem ↓] Go.wp_at_zero Go.wp_at_succ
theorem SlS.slc {w : World} {v : Value} {l : List ByteArray} (h : SlS w v l) : ∃ A c, v = .slice A l.length c := by
  obtain ⟨A, c, e, _⟩ := h; exact ⟨A, c, e⟩
end Go.Proofs.YtadimepmoljnpaaGreatDoor.GB

namespace Go.Proofs.YtadimepmoljnpaaGreatDoor.GB
set_option linter.unusedVariables false
set_option linter.unusedSimpArgs false
open Go.RowKit Go.Shelf
attribute [local go_sem ↓] Go.wp_at_zero Go.wp_at_succ
theorem pev_bd {p : Pl} {n m : Nat} {x : Rat} (hp : PB p n) (hx : Bd x m) : Bd (pev p x) (p.length * (m + n + 1)) := by
  induction p with
  | nil => exact Bd.of_int 0 _ (by rw [Int.natAbs_zero]; exact Nat.two_pow_pos _)
  | cons a p ih =>
    have h1 : Bd a n := hp a (by simp)
    have h2 := ih fun q hq => hp q (by simp [hq])
    have e : (a :: p).length * (m + n + 1) = p.length * (m + n + 1) + (m + n + 1) := by rw [List.length_cons, Nat.succ_mul]
    rw [e]
    exact (h1.add (hx.mul h2)).mono (by omega)
theorem rva_any (s : ByteArray) (w : World) (hW : Wd w) (hs : s.size ≤ 1000000) (b : Bool) (hb : ratB s.data.toList = b) : RVA (.string s) b w := fun W hE => by
  have h := rValid_any s W (hW.ext hE) hs
  rwa [hb] at h
end Go.Proofs.YtadimepmoljnpaaGreatDoor.GB
