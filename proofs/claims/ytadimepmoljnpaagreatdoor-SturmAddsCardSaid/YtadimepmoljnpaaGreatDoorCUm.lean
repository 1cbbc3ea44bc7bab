import Derived.Test.YtadimepmoljnpaaGreatDoorCUl
namespace Go.Proofs.YtadimepmoljnpaaGreatDoor.GB
set_option linter.unusedVariables false
set_option linter.unusedSimpArgs false
open Go.RowKit Go.Shelf
attribute [local go_sem ↓] Go.wp_at_zero Go.wp_at_succ
theorem ext_set1 {w w1 : World} {b : Nat} (h : Ext w w1) (hb : w.heap.size ≤ b) (i : Nat) (v : Value) : Ext w (w1.setCell ⟨b, i, none⟩ v) := Below.setCell (p := ⟨b, i, none⟩) h hb v
theorem nar1_cb {s : Pl} {I : Rat × Rat} {n : Nat} (h : CB [I.1, I.2] n) : CB [(nar1 s I).1, (nar1 s I).2] (n + 1) := by
  unfold nar1
  obtain ⟨h1, h2⟩ := cb_mid h
  split
  · exact h1
  · exact h2
theorem narL_cb {s : Pl} : ∀ (k : Nat) (I : Rat × Rat) (n : Nat), CB [I.1, I.2] n → CB [(narL s k I).1, (narL s k I).2] (n + k)
  | 0, I, n, h => h
  | k + 1, I, n, h => by
    have := narL_cb (s := s) k (nar1 s I) (n + 1) (nar1_cb h)
    rw [show n + 1 + k = n + (k + 1) by omega] at this
    exact this
theorem isoL_cb {s : Pl} : ∀ (k : Nat) (lo hi : Rat) (n : Nat), CB [lo, hi] n → ∀ I ∈ (isoL s k lo hi).1, CB [I.1, I.2] (n + k)
  | 0, lo, hi, n, h, I, hI => by
    by_cases h0 : cntP s lo hi = 0
    · rw [isoL_zero h0] at hI; cases hI
    · by_cases h1 : cntP s lo hi = 1
      · rw [isoL_one h1] at hI; rw [List.mem_singleton.1 hI]; exact h
      · rw [isoL_end h0 h1] at hI; cases hI
  | k + 1, lo, hi, n, h, I, hI => by
    by_cases h0 : cntP s lo hi = 0
    · rw [isoL_zero h0] at hI; cases hI
    · by_cases h1 : cntP s lo hi = 1
      · rw [isoL_one h1] at hI; rw [List.mem_singleton.1 hI]; exact h.mono (by omega)
      · rw [isoL_step h0 h1] at hI
        obtain ⟨h2, h3⟩ := cb_mid h
        rcases List.mem_append.1 hI with hI | hI
        · have := isoL_cb (s := s) k _ _ (n + 1) h2 I hI
          rw [show n + 1 + k = n + (k + 1) by omega] at this; exact this
        · have := isoL_cb (s := s) k _ _ (n + 1) h3 I hI
          rw [show n + 1 + k = n + (k + 1) by omega] at this; exact this
set_option maxHeartbeats 8000000 in
set_option maxRecDepth 200000 in
theorem snarrow_v (s : Pl) (hs : CT s) (k : Nat) (u : Value) (I : Rat × Rat) (n : Nat) (w : World) (hW : Wd w) (hu : PS w u s) (hcb : CB [I.1, I.2] n) (hn : n + k ≤ 1000000) :
    Calls Tryz.prog 60 #[u, .agg #[rtx I.1, rtx I.2], .int .i64 (k : Int)] w fun e w' => e = .returned (.agg #[rtx (narL s k I).1, rtx (narL s k I).2]) ∧ Ext w w' := by
  have HC : Hid (∀ W x y, Ext w W → CB [x, y] (n + k) → Calls Tryz.prog 49 #[u, rtx x, rtx y] W fun e w' => e = .returned (.int .i64 (cntP s x y)) ∧ Ext W w') := fun W x y hE hc =>
    scount_v u s x y (n + k) W (hW.ext hE) (hu.ext hE) hs.ne hs.len hs.si (cb_get hc).1 (cb_get hc).2 (by omega)
  have HM : Hid (∀ W x y, Ext w W → CB [x, y] (n + k) → Calls Tryz.prog 101 #[rtx x, rtx y] W fun e w' => e = .returned (rtx ((x + y) * (1 / 2))) ∧ Ext W w') := fun W x y hE hc =>
    smid_v x y (n + k) W (hW.ext hE) (cb_get hc).1 (cb_get hc).2 (by have := kk40; omega)
  have HCB := Lib.hid hcb
  clear hW hu hcb
  go_enter Tryz.func60, Tryz.ntmps60
  go_wp2_with fail
  obtain ⟨X1, X2, E0⟩ := boxes2 w #[rtx I.1, rtx I.2] #[.string ⟨#[]⟩, .string ⟨#[]⟩] 26
  have HX1 := Lib.hid X1
  have HX2 := Lib.hid X2
  have HE0 := Lib.hid E0
  clear X1 X2 E0
  generalize (w.alloc (.cells #[rtx I.1, rtx I.2] 26)).alloc (.cells #[.string ⟨#[]⟩, .string ⟨#[]⟩] 26) = W0 at *
  go_loopw [9] (fun vi wr => ∃ (j : Nat) (J : Rat × Rat), j ≤ k ∧ vi = .int .i64 (j : Int) ∧ Hid (Bx wr w.heap.size #[rtx J.1, rtx J.2] 26) ∧ Hid (Bx wr (w.heap.size + 1) #[.string ⟨#[]⟩, .string ⟨#[]⟩] 26) ∧ Hid (narL s (k - j) J = narL s k I) ∧ Hid (CB [J.1, J.2] (n + j)) ∧ Hid (Ext w wr)) (fun vi _ => k - (intOf vi).toNat)
  case atStart => exact ⟨0, I, Nat.zero_le _, rfl, HX1, HX2, rfl, HCB, HE0⟩
  case round =>
    clear HX1 HX2 HCB HE0
    obtain ⟨j, J, hj, rfl, HX1, HX2, HN, HCB, HE⟩ := hrel
    have a0 : wr.cell? ⟨w.heap.size, 0, none⟩ = some (rtx J.1) := HX1.out.c 0
    have a1 : wr.cell? ⟨w.heap.size, 1, none⟩ = some (rtx J.2) := HX1.out.c 1
    by_cases hjk : j = k
    · subst hjk
      have HR : Hid (J = narL s j I) := by
        have := HN.out
        rw [Nat.sub_self] at this; exact this
      have y0 := HX2.out.c 0
      have y1 := HX2.out.c 1
      have f0 := HX2.out.f 0
      have f1 := HX2.out.f 1
      clear HC HM HX1 HN HCB
      go_wp2_with fail
      obtain ⟨d0', d1'⟩ := set2 HX2.out (rtx J.1) (rtx J.2)
      rw [← HR.out]
      refine bodyPost_ret (v := .agg #[rtx J.1, rtx J.2]) ?_ rfl ⟨rfl, ext_set2 (b := w.heap.size + 1) HE.out (by omega) _ _⟩
      simp [results, Tryz.f60, go_sem, d0', d1']
    · have hlt : (j : Int) < (k : Int) := by omega
      have zw : IntKind.i64.wrap ((j : Int) + 1) = (j : Int) + 1 := by rw [IntKind.wrap_i64]; omega
      have HC1 : Hid (∀ W, Ext w W → Calls Tryz.prog 49 #[u, rtx J.1, rtx ((J.1 + J.2) * (1 / 2))] W fun e w' => e = .returned (.int .i64 (cntP s J.1 ((J.1 + J.2) * (1 / 2)))) ∧ Ext W w') := fun W hE =>
        HC.out W _ _ hE ((cb_mid HCB.out).1.mono (by omega))
      have HM1 : Hid (∀ W, Ext w W → Calls Tryz.prog 101 #[rtx J.1, rtx J.2] W fun e w' => e = .returned (rtx ((J.1 + J.2) * (1 / 2))) ∧ Ext W w') := fun W hE =>
        HM.out W _ _ hE (HCB.out.mono (by omega))
      have HNx : Hid (narL s (k - (j + 1)) (nar1 s J) = narL s k I) := by
        rw [← HN.out]
        obtain ⟨d, hd⟩ : ∃ d, k - j = d + 1 := ⟨k - j - 1, by omega⟩
        rw [hd, show k - (j + 1) = d by omega]; rfl
      have HCx : Hid (CB [(nar1 s J).1, (nar1 s J).2] (n + (j + 1))) := nar1_cb HCB.out
      clear HC HM HN HCB
      unfold nar1 at HNx HCx
      have hgs : w.heap.size ≤ w.heap.size := Nat.le_refl _
      obtain ⟨c, hc⟩ : ∃ c, cntP s J.1 ((J.1 + J.2) * (1 / 2)) = c := ⟨_, rfl⟩
      rw [hc] at HC1 HNx HCx
      obtain ⟨x, y⟩ := J
      dsimp only at HC1 HM1 HNx HCx HX1 a0 a1
      clear hc
      go_wp2_with fail
      refine (HM1.out _ HE.out).mono ?_
      rintro e w1 ⟨rfl, hE⟩
      replace HX1 := Bx.hext HX1 hE
      replace HX2 := Bx.hext HX2 hE
      replace HE := Lib.hid (HE.out.tr hE)
      have b0 : w1.cell? ⟨w.heap.size, 0, none⟩ = some (rtx x) := HX1.out.c 0
      clear hE HM1 a0 a1
      go_wp2_with fail
      refine (HC1.out _ HE.out).mono ?_
      rintro e w2 ⟨rfl, hE⟩
      replace HX1 := Bx.hext HX1 hE
      replace HX2 := Bx.hext HX2 hE
      replace HE := Lib.hid (HE.out.tr hE)
      have e0 : w2.cell? ⟨w.heap.size, 0, none⟩ = some (rtx x) := HX1.out.c 0
      have e1 : w2.cell? ⟨w.heap.size, 1, none⟩ = some (rtx y) := HX1.out.c 1
      have f0 := HX1.out.f 0
      have f1 := HX1.out.f 1
      clear hE HC1 b0
      generalize (x + y) * (1 / 2) = m at *
      by_cases h1 : c = 1
      · rw [if_pos h1] at HNx HCx
        have hb : (c == 1) = true := by rw [beq_iff_eq]; exact h1
        have HY := Lib.hid (HX1.out.put 1 (rtx m))
        have HZ := Lib.hid (HX2.out.set (p := ⟨w.heap.size, 1, none⟩) (by show w.heap.size + 1 ≠ w.heap.size; omega) (rtx m))
        have HE2 := Lib.hid (ext_set1 HE.out hgs 1 (rtx m))
        clear h1
        go_wp2_with fail
        go_roundw
        case rel => exact ⟨j + 1, (x, m), by omega, by go_num, HY, HZ, HNx, HCx, HE2⟩
        case measure => simp [intOf]; omega
      · rw [if_neg h1] at HNx HCx
        have hb : (c == 1) = false := beq_eq_false_iff_ne.2 h1
        have HY := Lib.hid (HX1.out.put 0 (rtx m))
        have HZ := Lib.hid (HX2.out.set (p := ⟨w.heap.size, 0, none⟩) (by show w.heap.size + 1 ≠ w.heap.size; omega) (rtx m))
        have HE2 := Lib.hid (ext_set1 HE.out hgs 0 (rtx m))
        clear h1
        go_wp2_with fail
        go_roundw
        case rel => exact ⟨j + 1, (m, y), by omega, by go_num, HY, HZ, HNx, HCx, HE2⟩
        case measure => simp [intOf]; omega
end Go.Proofs.YtadimepmoljnpaaGreatDoor.GB
