import Derived.Test.YtbldlibijojbjaaGreatDoorMBk
import Derived.Test.YtbldlibijojbjaaGreatDoorCIm
namespace Go.Proofs.YtbldlibijojbjaaGreatDoor.GB
set_option linter.unusedVariables false
set_option linter.unusedSimpArgs false
open Go.RowKit Go.Shelf
attribute [local go_sem] Oper.semAt_some

/-- Horner's rule with intervals. -/
def enc {b : Nat} (I : Rat × Rat) (pre : List (NQ b)) : Rat × Rat := pre.foldl (fun a x => iaddR (imulR a I) (x.1.2, x.1.2)) (0, 0)
theorem enc_snoc {b : Nat} (I : Rat × Rat) (pre : List (NQ b)) (x : NQ b) : enc I (pre ++ [x]) = iaddR (imulR (enc I pre) I) (x.1.2, x.1.2) := by simp [enc]
theorem enc_le {b : Nat} (I : Rat × Rat) (pre : List (NQ b)) : (enc I pre).1 ≤ (enc I pre).2 := by
  rcases List.eq_nil_or_concat pre with rfl | ⟨q, x, rfl⟩
  · exact Rat.le_refl
  · rw [List.concat_eq_append, enc_snoc]; exact endsR_le _ _
theorem Bx.kept {W W' : World} {row : Option Nat} {b : Nat} {cs : Array Value} {T : TypeId} (h : Bx W b cs T) (hg : W.grownBy W' row) (hr : ∀ r, row = some r → ∃ o : Obj, W.heap[r]? = some o ∧ o.isCells = false) : Bx W' b cs T := (grownBy_keeps_cells hg hr h rfl).trans h
set_option maxHeartbeats 8000000 in
set_option maxRecDepth 100000 in
theorem enclose_some (A : Option Addr) (c : Nat) (p : Pl) (I1 I2 : Rat) (zl : Nat) (n m : Nat) (w : World) (HZ : Hid (zl = p.length)) (hl : zl ≤ 1000) (hW : Wd w) (hA : PS w (.slice A zl c) p) (hp : PB p n) (hI1 : Bd I1 m) (hI2 : Bd I2 m) (hle : I1 ≤ I2)
    (hk : 2 * (zl * (m + n + 1) + m + n) + 20 ≤ KK)
    (hv1 : VA (.slice A zl c) true w) (hv2 : ∀ W, Ext w W → Calls Tryz.prog 79 #[.agg #[rtx I1, rtx I2]] W fun e w' => e = .returned (.bool true) ∧ Ext W w') :
    Calls Tryz.prog 39 #[.slice A zl c, .agg #[rtx I1, rtx I2]] w fun e w' => e = .returned (.tuple #[IQ (enc (I1, I2) (pdn n p zl)), .int .i64 0]) ∧ Ext w w' := by
  refine (callsIn_wide (n := 5)).1 ?_
  have HA := Lib.hid hA
  clear hA
  refine callsIn_of_wp_marks Tryz.func39 rfl trivial ?_ rfl
  simp only [Tryz.ntmps39, List.size_toArray, List.length_cons, List.length_nil, Nat.reduceAdd, Nat.reduceSub, Array.replicate_succ, Array.replicate_zero, List.push_toArray, List.append_toArray, List.nil_append, List.cons_append]
  obtain ⟨b3, b4, E0⟩ := boxes2 w #[rtx I1, rtx I2] #[.string ⟨#[]⟩, .string ⟨#[]⟩] 44
  gi_wp2
  generalize (w.alloc (.cells #[rtx I1, rtx I2] 44)).alloc (.cells #[.string ⟨#[]⟩, .string ⟨#[]⟩] 44) = W0 at *
  refine ⟨trivial, ?_⟩
  refine (callsIn_wide.2 (hv1 _ E0)).mono ?_
  rintro e w1 ⟨rfl, hE1⟩
  replace b3 := b3.ext hE1
  replace b4 := b4.ext hE1
  have E1 := E0.tr hE1
  obtain ⟨c30, c31, -, -⟩ := b3.e2
  clear hE1 E0
  gi_wp2
  refine ⟨trivial, ?_⟩
  refine (callsIn_wide.2 (hv2 _ E1)).mono ?_
  rintro e w2 ⟨rfl, hE2⟩
  replace b3 := b3.ext hE2
  replace b4 := b4.ext hE2
  have E2 := E1.tr hE2
  clear hE2 E1 c30 c31 hv1 hv2
  gi_wp2
  have b6 : Bx (w2.alloc (.cells #[.string ⟨#[48]⟩, .string ⟨#[48]⟩] 44)) w2.heap.size #[rtx 0, rtx 0] 44 := by
    have h := Bx.new w2 #[.string ⟨#[48]⟩, .string ⟨#[48]⟩] 44
    rw [← rb_v, rb0]; exact h
  have hz2 : w.heap.size + 1 < w2.heap.size := b4.lt
  replace b3 := b3.al (.cells #[.string ⟨#[48]⟩, .string ⟨#[48]⟩] 44)
  replace b4 := b4.al (.cells #[.string ⟨#[48]⟩, .string ⟨#[48]⟩] 44)
  have E3 := E2.al (.cells #[.string ⟨#[48]⟩, .string ⟨#[48]⟩] 44)
  have hz3 : (w2.alloc (.cells #[.string ⟨#[48]⟩, .string ⟨#[48]⟩] 44)).heap.size = w2.heap.size + 1 := World.size_alloc _ _
  generalize w2.alloc (.cells #[.string ⟨#[48]⟩, .string ⟨#[48]⟩] 44) = w3 at *
  refine ⟨trivial, ?_⟩
  refine (pbackward_in Fence.wide (5 - 1) trivial rfl A zl c w3).mono ?_
  rintro e w4 ⟨rfl, rfl⟩
  have bx := Boxed.new w3 25 (.slice A zl c)
  replace b3 := b3.al (.cells #[.slice A zl c] 25)
  replace b4 := b4.al (.cells #[.slice A zl c] 25)
  replace b6 := b6.al (.cells #[.slice A zl c] 25)
  have E4 := E3.al (.cells #[.slice A zl c] 25)
  have hz4 : (w3.alloc (.cells #[.slice A zl c] 25)).heap.size = w2.heap.size + 1 + 1 := by rw [World.size_alloc, hz3]
  generalize w3.alloc (.cells #[.slice A zl c] 25) = w4 at *
  rw [hz3] at *
  clear E3 E2
  generalize w2.heap.size = g at *
  clear hz3
  gi_wp2
  have hst := pback_stops Fence.wide (5 - 1) trivial rfl (by omega) (g + 1) w.heap.size A c p zl HZ (by omega) n hp w w4 rfl E4 (by omega) HA.out bx.cell
  refine wpIn_rangeFunc_ownF (F := Fence.wide) rfl (by omega) (gf := 103) (lb := #[.pointer (some ⟨g + 1, 0, none⟩)]) rfl trivial (enters_of Tryz.func103 (by kernel_rfl) rfl)
    hst Kps.t (Kps.b (by omega)) (Below.refl _ _) (fun _ => rfl)
    (fun pre W => (Bx W g #[rtx (enc (I1, I2) pre).1, rtx (enc (I1, I2) pre).2] 44 ∧ Bx W w.heap.size #[rtx I1, rtx I2] 44 ∧ Boxed W (g + 1) 25 (.slice A zl c) ∧ (Bd (enc (I1, I2) pre).1 (pre.length * (m + n + 1)) ∧ Bd (enc (I1, I2) pre).2 (pre.length * (m + n + 1))) ∧ Bx W (w.heap.size + 1) #[.string ⟨#[]⟩, .string ⟨#[]⟩] 44) ∧ Below w.heap.size w W)
    (fun _ _ _ => False)
    (OwnFrom.and (Own.from (fun s X Y row hs hg hr => ⟨hs.1.kept hg hr, hs.2.1.kept hg hr, (grownBy_keeps_cells hg hr hs.2.2.1 rfl).trans hs.2.2.1, hs.2.2.2.1, hs.2.2.2.2.kept hg hr⟩) _) (ownFrom_below (Nat.le_refl _) (by omega)))
    (fun _ _ _ _ _ hs _ _ => hs)
    ⟨⟨b6, b3, bx, ⟨(Bd.of_int 0 0 (by decide)).mono (Nat.zero_le _), (Bd.of_int 0 0 (by decide)).mono (Nat.zero_le _)⟩, b4⟩, E4⟩
    (fun x => { tmps := #[.slice A zl c, .agg #[rtx I1, rtx I2], undef, .pointer (some ⟨w.heap.size, 0, none⟩), .pointer (some ⟨w.heap.size + 1, 0, none⟩), .int .i64 0, .pointer (some ⟨g, 0, none⟩), undef, rtx x.1.2, .slice A zl c, .bool true, .bool false, .bool false, .agg #[rtx I1, rtx I2], .bool true, .bool false, .bool false, undef, .agg #[.string ⟨#[48]⟩, .string ⟨#[48]⟩], .slice A zl c, .func (.func 103) #[] #[.pointer (some ⟨g + 1, 0, none⟩)], .int .i64 (x.1.1 : Int), rtx x.1.2, undef, undef, undef, undef, undef, undef, undef, undef, undef, undef, undef, undef, undef, undef, undef], defers := [] }) ?assign ?body ?done ?stop
  case assign =>
    intro l x W K hK
    gi_wp2
    exact hK
  case body =>
    rintro l pre ⟨⟨i, C⟩, hi1, hbC⟩ W ⟨⟨h6, h3, hx, hbd, h4⟩, hb⟩ hpl
    dsimp only at hi1 hbC ⊢
    have hWw := Lib.hid (Wd.ext hW hb)
    obtain ⟨c60, c61, -, -⟩ := h6.e2
    obtain ⟨c30, c31, -, -⟩ := h3.e2
    have hB : pre.length * (m + n + 1) ≤ zl * (m + n + 1) := Nat.mul_le_mul_right _ (by omega)
    have hs := enc_snoc (I1, I2) pre ⟨(i, C), hi1, hbC⟩
    have hle2 := enc_le (I1, I2) pre
    dsimp only at hs
    generalize hA0 : enc (I1, I2) pre = a at *
    have hM := fun W (hw : Wd W) => iMul_q a (I1, I2) _ m W hw hbd ⟨hI1, hI2⟩ hle2 hle (by omega)
    have hmb := imulR_bd hbd (b := (I1, I2)) ⟨hI1, hI2⟩
    have hml : (imulR a (I1, I2)).1 ≤ (imulR a (I1, I2)).2 := endsR_le _ _
    generalize imulR a (I1, I2) = q at *
    have hAd := fun W (hw : Wd W) => iAdd_q q (C, C) _ n W hw hmb ⟨hbC, hbC⟩ hml Rat.le_refl (by omega)
    have hab := iaddR_bd hmb (b := (C, C)) ⟨hbC, hbC⟩
    generalize iaddR q (C, C) = t at *
    have hbs : Bd t.1 ((pre.length + 1) * (m + n + 1)) ∧ Bd t.2 ((pre.length + 1) * (m + n + 1)) := by
      have e : (pre.length + 1) * (m + n + 1) = pre.length * (m + n + 1) + (m + n + 1) := Nat.succ_mul _ _
      exact ⟨hab.1.mono (by omega), hab.2.mono (by omega)⟩
    have HM := Lib.hid hM
    have HAd := Lib.hid hAd
    have HS := Lib.hid hs
    clear hM hAd hs hB hab hmb hml hle2 hA0
    gi_wp2
    refine ⟨trivial, ?_⟩
    refine (CallsIn.inRound l (callsIn_wide.2 (HM.out W hWw.out))).mono ?_
    rintro e W1 ⟨rfl, hE1⟩
    have HE1 := Lib.hid hE1
    have k6 := h6.ext hE1
    obtain ⟨d60, d61, e60, e61⟩ := k6.e2
    clear hE1
    gi_wp2
    have kk := k6.put0 (rtx q.1)
    have kk2 := kk.put1 (rtx q.2)
    obtain ⟨p60, p61, r60, r61⟩ := kk2.e2
    have hbW1 : Below w.heap.size W W1 := HE1.out.mono hb.size
    have hbW2 : Below w.heap.size W ((W1.setCell ⟨g, 0, none⟩ (rtx q.1)).setCell ⟨g, 1, none⟩ (rtx q.2)) := (hbW1.setCell (p := ⟨g, 0, none⟩) (by show w.heap.size ≤ g; omega) _).setCell (p := ⟨g, 1, none⟩) (by show w.heap.size ≤ g; omega) _
    have hWW2 : Hid (Wd ((W1.setCell ⟨g, 0, none⟩ (rtx q.1)).setCell ⟨g, 1, none⟩ (rtx q.2))) := Wd.ext hW (hb.trans hbW2)
    have k4 := ((h4.ext HE1.out).set (p := ⟨g, 0, none⟩) (by show w.heap.size + 1 ≠ g; omega) (rtx q.1)).set (p := ⟨g, 1, none⟩) (by show w.heap.size + 1 ≠ g; omega) (rtx q.2)
    have k3 := ((h3.ext HE1.out).set (p := ⟨g, 0, none⟩) (by show w.heap.size ≠ g; omega) (rtx q.1)).set (p := ⟨g, 1, none⟩) (by show w.heap.size ≠ g; omega) (rtx q.2)
    have kx : Boxed ((W1.setCell ⟨g, 0, none⟩ (rtx q.1)).setCell ⟨g, 1, none⟩ (rtx q.2)) (g + 1) 25 (.slice A zl c) := ((Bx.ext (cs := #[.slice A zl c]) hx HE1.out).set (p := ⟨g, 0, none⟩) (by show g + 1 ≠ g; omega) (rtx q.1)).set (p := ⟨g, 1, none⟩) (by show g + 1 ≠ g; omega) (rtx q.2)
    have hkeep : Hid (KeepsOthers W ((W1.setCell ⟨g, 0, none⟩ (rtx q.1)).setCell ⟨g, 1, none⟩ (rtx q.2))) := ((ext_keeps HE1.out).trans (KeepsOthers.setCell _ _ _)).trans (KeepsOthers.setCell _ _ _)
    generalize (W1.setCell ⟨g, 0, none⟩ (rtx q.1)).setCell ⟨g, 1, none⟩ (rtx q.2) = W2 at *
    clear kk k6 d60 d61 e60 e61
    refine ⟨trivial, ?_⟩
    refine (CallsIn.inRound l (callsIn_wide.2 (HAd.out W2 hWW2.out))).mono ?_
    rintro e W3 ⟨rfl, hE3⟩
    have HE3 := Lib.hid hE3
    have k7 := kk2.ext hE3
    obtain ⟨d60, d61, e60, e61⟩ := k7.e2
    clear hE3
    gi_wp2
    have hbW3 : Below w.heap.size W W3 := hbW2.trans (HE3.out.mono (by have := hb.size; have := hbW2.size; omega))
    have hbW4 : Below w.heap.size W ((W3.setCell ⟨g, 0, none⟩ (rtx t.1)).setCell ⟨g, 1, none⟩ (rtx t.2)) := (hbW3.setCell (p := ⟨g, 0, none⟩) (by show w.heap.size ≤ g; omega) _).setCell (p := ⟨g, 1, none⟩) (by show w.heap.size ≤ g; omega) _
    have j4 := ((k4.ext HE3.out).set (p := ⟨g, 0, none⟩) (by show w.heap.size + 1 ≠ g; omega) (rtx t.1)).set (p := ⟨g, 1, none⟩) (by show w.heap.size + 1 ≠ g; omega) (rtx t.2)
    have j3 := ((k3.ext HE3.out).set (p := ⟨g, 0, none⟩) (by show w.heap.size ≠ g; omega) (rtx t.1)).set (p := ⟨g, 1, none⟩) (by show w.heap.size ≠ g; omega) (rtx t.2)
    have jx : Boxed ((W3.setCell ⟨g, 0, none⟩ (rtx t.1)).setCell ⟨g, 1, none⟩ (rtx t.2)) (g + 1) 25 (.slice A zl c) := ((Bx.ext (cs := #[.slice A zl c]) kx HE3.out).set (p := ⟨g, 0, none⟩) (by show g + 1 ≠ g; omega) (rtx t.1)).set (p := ⟨g, 1, none⟩) (by show g + 1 ≠ g; omega) (rtx t.2)
    have j6 := (k7.put0 (rtx t.1)).put1 (rtx t.2)
    have hkk : Kps w.heap.size (g + 1) W ((W3.setCell ⟨g, 0, none⟩ (rtx t.1)).setCell ⟨g, 1, none⟩ (rtx t.2)) := by
      refine ⟨hbW4, fun v e => ?_⟩
      rw [hx.cell] at e
      rw [jx.cell]; exact e
    refine ⟨((hkeep.out.trans (ext_keeps HE3.out)).trans (KeepsOthers.setCell _ _ _)).trans (KeepsOthers.setCell _ _ _), hkk, ⟨?_, j3, jx, ?_, j4⟩, hb.trans hkk.1⟩
    · rw [HS.out]; exact j6
    · rw [HS.out, List.length_append, List.length_singleton]; exact hbs
  case done =>
    rintro D ys W hD rfl ⟨⟨h6, h3, hx, hbd, h4⟩, hb⟩ hK
    obtain ⟨c60, c61, -, -⟩ := h6.e2
    obtain ⟨c40, c41, f40, f41⟩ := h4.e2
    gi_wp2
    generalize enc (I1, I2) (pdn n p zl) = s at *
    have kk := (h4.put0 (rtx s.1)).put1 (rtx s.2)
    have hD' : D ≠ w.heap.size + 1 := by omega
    have hK' : ((W.setCell ⟨w.heap.size + 1, 0, none⟩ (rtx s.1)).setCell ⟨w.heap.size + 1, 1, none⟩ (rtx s.2)).heap[D]? = some (.deferred (some [])) := by
      rw [Below.heap_setCell _ _ _ _ hD', Below.heap_setCell _ _ _ _ hD']; exact hK
    refine ⟨by simp, .inl ⟨_, _, rfl, run_takeDeferred hK', ?_⟩⟩
    have hk2 := Bx.kept kk (grownBy_putObj' _ D (.deferred none)) (fun r e => by cases e; exact ⟨_, hK', rfl⟩)
    obtain ⟨m0, m1, -, -⟩ := hk2.e2
    refine ⟨.tuple #[IQ s, .int .i64 0], ?_, rfl, ?_⟩
    · simp [results, Tryz.f39, go_sem, m0, m1, IQ]
    · exact ((hb.setCell (p := ⟨w.heap.size + 1, 0, none⟩) (by show w.heap.size ≤ w.heap.size + 1; omega) _).setCell (p := ⟨w.heap.size + 1, 1, none⟩) (by show w.heap.size ≤ w.heap.size + 1; omega) _).trans (belowK_b (w := w) (Nat.le_refl _) _ D _ _ (by omega) hK' rfl rfl)
  case stop =>
    rintro D c pre W _ _ h _
    exact h.elim
end Go.Proofs.YtbldlibijojbjaaGreatDoor.GB
