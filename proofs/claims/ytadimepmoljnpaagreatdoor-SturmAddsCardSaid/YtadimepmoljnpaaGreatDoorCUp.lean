import Derived.Test.YtadimepmoljnpaaGreatDoorCUo
import Derived.Deep.AppendLies
namespace Go.Proofs.YtadimepmoljnpaaGreatDoor.GB
set_option linter.unusedVariables false
set_option linter.unusedSimpArgs false
open Go.RowKit Go.Shelf
attribute [local go_sem ↓] Go.wp_at_zero Go.wp_at_succ
/-- What stays while a row between two places of memory grows. -/
structure KP (zB z2 : Nat) (W1 W : World) : Prop where
  os : W.os = W1.os
  tape : W.tape = W1.tape
  output : W.output = W1.output
  size : W1.heap.size ≤ W.heap.size
  blk : ∀ i, i < W1.heap.size → (i < zB ∨ z2 ≤ i) → W.heap[i]? = W1.heap[i]?
theorem KP.refl (zB z2 : Nat) (W : World) : KP zB z2 W W := ⟨rfl, rfl, rfl, Nat.le_refl _, fun _ _ _ => rfl⟩
theorem KP.ext {zB z2 : Nat} {W1 W W' : World} (h : KP zB z2 W1 W) (hE : Ext W W') : KP zB z2 W1 W' :=
  ⟨hE.os.trans h.os, hE.tape.trans h.tape, hE.output.trans h.output, Nat.le_trans h.size hE.size, fun i hi hc => (hE.block i (Nat.lt_of_lt_of_le hi h.size)).trans (h.blk i hi hc)⟩
theorem KP.gr {zB z2 : Nat} {W1 W W2 : World} {row : Option Nat} (h : KP zB z2 W1 W) (hg : W.grownBy W2 row) (hr : ∀ r, row = some r → (zB ≤ r ∧ r < z2) ∨ W1.heap.size ≤ r) : KP zB z2 W1 W2 :=
  ⟨hg.os.trans h.os, hg.tape.trans h.tape, hg.output.trans h.output, Nat.le_trans h.size hg.size, fun i hi hc => by
    refine (hg.block i (Nat.lt_of_lt_of_le hi h.size) fun e => ?_).trans (h.blk i hi hc)
    rcases hr i e.symm with h1 | h1 <;> omega⟩
theorem KP.hext {zB z2 : Nat} {W1 W W' : World} (h : Hid (KP zB z2 W1 W)) (hE : Ext W W') : Hid (KP zB z2 W1 W') := h.out.ext hE
theorem KP.toExt {w : World} {zB z2 : Nat} {W1 W : World} (hE : Ext w W1) (h : KP zB z2 W1 W) (hz : w.heap.size ≤ zB) : Ext w W := by
  refine ⟨h.os.trans hE.os, h.tape.trans hE.tape, h.output.trans hE.output, Nat.le_trans hE.size h.size, fun i hi => ?_⟩
  exact (h.blk i (Nat.lt_of_lt_of_le hi hE.size) (.inl (by omega))).trans (hE.block i hi)
theorem KP.cell {zB z2 : Nat} {W1 W : World} (h : KP zB z2 W1 W) {b j : Nat} {v : Value} (hc : W1.cell? ⟨b, j, none⟩ = some v) (hb : b < zB ∨ z2 ≤ b) : W.cell? ⟨b, j, none⟩ = some v :=
  (World.cell?_of_block (w := W1) (w' := W) (a := ⟨b, j, none⟩) (h.blk b (World.block_lt_of_cell? W1 ⟨b, j, none⟩ hc) hb)).trans hc
theorem PS.kp {zB z2 : Nat} {W1 W : World} {v : Value} {p : Pl} (h : PS W1 v p) (k : KP zB z2 W1 W) (hf : ∀ b, v.ownBlock = some b → z2 ≤ b) : PS W v p := by
  obtain ⟨A, c, rfl, h1, h2, h3⟩ := h
  refine ⟨A, c, rfl, h1, h2, fun j hj => ?_⟩
  obtain ⟨b, off, e, hb, hc⟩ := h3 j hj
  exact ⟨b, off, e, Nat.lt_of_lt_of_le hb k.size, k.cell hc (.inr (hf b (by rw [e]; rfl)))⟩
theorem Bx.kp {zB z2 : Nat} {W1 W : World} {g : Nat} {cs : Array Value} {T : TypeId} (h : Bx W1 g cs T) (k : KP zB z2 W1 W) (hg : g < zB) : Bx W g cs T := (k.blk g h.lt (.inl hg)).trans h
/-- The boxes of Extremes. -/
structure EB (w : World) (a b : ByteArray) (W : World) : Prop where
  x4 : Bx W w.heap.size #[.string a, .string b] 26
  x6 : Bx W (w.heap.size + 1) #[.string ⟨#[]⟩, .string ⟨#[]⟩] 26
  x7 : Bx W (w.heap.size + 1 + 1) #[.string ⟨#[]⟩, .string ⟨#[]⟩] 26
  x9 : Bx W (w.heap.size + 1 + 1 + 1) #[.string ⟨#[]⟩, .string ⟨#[]⟩] 26
  e : Ext w W
theorem EB.ext {w : World} {a b : ByteArray} {W W' : World} (h : EB w a b W) (hE : Ext W W') : EB w a b W' := ⟨h.x4.ext hE, h.x6.ext hE, h.x7.ext hE, h.x9.ext hE, h.e.tr hE⟩
theorem EB.hext {w : World} {a b : ByteArray} {W W' : World} (h : Hid (EB w a b W)) (hE : Ext W W') : Hid (EB w a b W') := h.out.ext hE
theorem EB.kp {w : World} {a b : ByteArray} {zB z2 : Nat} {W1 W : World} (h : EB w a b W1) (k : KP zB z2 W1 W) (hz : w.heap.size + 1 + 1 + 1 < zB) : EB w a b W :=
  ⟨h.x4.kp k (by omega), h.x6.kp k (by omega), h.x7.kp k (by omega), h.x9.kp k hz, KP.toExt h.e k (by omega)⟩
/-- All values of a list have few bits. -/
def BdL (l : List (Rat × Rat)) (N : Nat) : Prop := ∀ x ∈ l, Bd x.1 N ∧ Bd x.2 N
def BdS (s : (Rat × Rat) × (Rat × Rat)) (N : Nat) : Prop := (Bd s.1.1 N ∧ Bd s.1.2 N) ∧ (Bd s.2.1 N ∧ Bd s.2.2 N)
theorem BdS.step {s : (Rat × Rat) × (Rat × Rat)} {x : Rat × Rat} {N : Nat} (h : BdS s N) (hx : Bd x.1 N ∧ Bd x.2 N) : BdS (exStep s x) N := by
  obtain ⟨⟨h1, h2⟩, h3, h4⟩ := h
  refine ⟨⟨?_, ?_⟩, ?_, ?_⟩ <;> dsimp only [exStep] <;> split <;> first | assumption | exact hx.1 | exact hx.2
set_option maxHeartbeats 8000000 in
set_option maxRecDepth 200000 in
theorem sExt_const (A : Option Addr) (n cc : Nat) (a b : ByteArray) (k : Int) (F1 F2 : Rat) (N : Nat) (w : World) (h : CK (.slice A n cc) a b 0 w) (hk : hvE k = 0)
    (HE1 : Hid (∀ W, Ext w W → Calls Tryz.prog 28 #[.slice A n cc, .string a] W fun e w' => e = .returned (.tuple #[rtx F1, .int .i64 0]) ∧ Ext W w'))
    (HE2 : Hid (∀ W, Ext w W → Calls Tryz.prog 28 #[.slice A n cc, .string b] W fun e w' => e = .returned (.tuple #[rtx F2, .int .i64 0]) ∧ Ext W w'))
    (HL : Hid (∀ W x y, Ext w W → Bd x N → Bd y N → Calls Tryz.prog 53 #[rtx x, rtx y] W fun e w' => e = .returned (.bool (decide (x < y))) ∧ Ext W w'))
    (HD : Hid (∀ W, Ext w W → Calls Tryz.prog 62 #[.slice A n cc] W (RP0 [] W))) (HBd : Hid (BdL ((F1, F1) :: [(F2, F2)]) N)) :
    Calls Tryz.prog 25 #[.slice A n cc, .agg #[.string a, .string b], .int .i64 k] w fun e w' => e = .returned (.tuple #[.agg #[rtx (exF (F1, F1) [(F2, F2)]).1.1, rtx (exF (F1, F1) [(F2, F2)]).1.2], .agg #[rtx (exF (F1, F1) [(F2, F2)]).2.1, rtx (exF (F1, F1) [(F2, F2)]).2.2], .int .i64 0]) ∧ Ext w w' := by
  obtain ⟨i0, hi, hz0, hz1, hz2⟩ := info_parts Tryz.infoIv
  have HC := Lib.hid h
  have HH : Hid (∀ W, Calls Tryz.prog 55 #[.int .i64 k] W fun e w' => e = .returned (.int .i64 (hvE k)) ∧ Ext W w') := fun W => shalv_v k W
  rw [hk] at HH
  clear h hk
  go_enter Tryz.func25, Tryz.ntmps25
  go_wp2_with fail
  obtain ⟨X4, X6, X7, X9, E0⟩ := boxes4e w a b
  have HB : Hid (EB w a b (((((w).alloc (.cells #[.string a, .string b] 26)).alloc (.cells #[.string ⟨#[]⟩, .string ⟨#[]⟩] 26)).alloc (.cells #[.string ⟨#[]⟩, .string ⟨#[]⟩] 26)).alloc (.cells #[.string ⟨#[]⟩, .string ⟨#[]⟩] 26))) := ⟨X4, X6, X7, X9, E0⟩
  clear X4 X6 X7 X9 E0
  generalize ((((w).alloc (.cells #[.string a, .string b] 26)).alloc (.cells #[.string ⟨#[]⟩, .string ⟨#[]⟩] 26)).alloc (.cells #[.string ⟨#[]⟩, .string ⟨#[]⟩] 26)).alloc (.cells #[.string ⟨#[]⟩, .string ⟨#[]⟩] 26) = W0 at *
  refine (HC.out _ HB.out.e).mono ?_
  rintro e w1 ⟨rfl, hE⟩
  replace HB := EB.hext HB hE
  clear hE HC
  go_wp2_with fail
  refine (HH.out _).mono ?_
  rintro e w2 ⟨rfl, hE⟩
  replace HB := EB.hext HB hE
  have c0 := HB.out.x4.c0
  have c1 := HB.out.x4.c1
  clear hE HH
  go_wp2_with fail
  have Xb := Lib.hid (Bx.new w2 #[.string a, .string b] 24)
  replace HB := EB.hext HB ((Ext.rfl' w2).al (.cells #[.string a, .string b] 24))
  have hzl : w.heap.size + 1 + 1 + 1 < (w2.alloc (.cells #[.string a, .string b] 24)).heap.size := HB.out.x9.lt
  clear c0 c1
  generalize w2.alloc (.cells #[.string a, .string b] 24) = W3 at *
  generalize w2.heap.size = gb at *
  go_loopw [12, 52] (fun vo vi wr => ∃ (j : Nat), j ≤ 2 ∧ vi = .int .i64 (j : Int) ∧ Hid (OwnI wr W3.heap.size vo (ivs ([(F1, F1), (F2, F2)].take j))) ∧ Hid (Ext W3 wr)) (fun _ vi _ => 2 - (intOf vi).toNat)
  case atStart => exact ⟨0, by omega, rfl, OwnI.nil _ _, Lib.hid (Ext.rfl' W3)⟩
  case round =>
    obtain ⟨j, hj, rfl, HO, HE⟩ := hrel
    rcases (by omega : j = 0 ∨ j = 1 ∨ j = 2) with rfl | rfl | rfl
    · skip
      have k0 : wr.cell? ⟨gb, 0, none⟩ = some (.string a) := (Xb.out.ext HE.out).c 0
      go_wp2_with fail
      refine (HE1.out _ (HB.out.e.tr HE.out)).mono ?_
      rintro e w3 ⟨rfl, hE⟩
      replace HO := OwnI.hext HO hE
      replace HE := Lib.hid (HE.out.tr hE)
      have hs3 : W3.heap.size ≤ w3.heap.size := HE.out.size
      clear hE k0
      have HO1 : Hid (w3.ownsRow W3.heap.size 26 2 u12 0 (icells (ivs ([(F1, F1), (F2, F2)].take 0)))) := HO.out
      go_wp2_with (at_builtin; (refine wpList_append_own _ rfl _ _ 39 rfl W3.heap.size 26 i0 (.agg #[.string ⟨#[]⟩, .string ⟨#[]⟩]) 2 32 Tryz.underlying39 hi hz0 hz1 hz2 rfl (by decide) _ 0 (icells (ivs ([(F1, F1), (F2, F2)].take 0))) rfl (World.ownsRow.alloc HO1.out _) ⟨w3.heap.size, 0, none⟩ 1 1 [rtx F1, rtx F1] rfl rfl (World.news_of_block (cs := #[rtx F1, rtx F1]) (t := 26) (fr := (0, 0)) (heap_alloc_new w3 _)) (by intro u hu; simp at hu; subst hu; rfl) (by simp [maxLen]) (by omega) (by simp; omega) ?_); intro v' wz hown hgrow _)
      obtain ⟨q1, q2⟩ := owni_push (w := W3) (m := ivs [(F1, F1)]) (l := ivs ([(F1, F1), (F2, F2)].take 0)) (HO.out.ext ((Ext.rfl' w3).al (.cells #[rtx F1, rtx F1] 26))) (HE.out.al _) 1 rfl hown hgrow
      have HO2 : Hid (OwnI wz W3.heap.size v' (ivs ([(F1, F1), (F2, F2)].take 1))) := q1
      have HE2' := Lib.hid q2
      clear q1 q2 hown hgrow HO HO1 HE
      go_wp2_with fail
      go_roundw
      case rel => exact ⟨1, by omega, by go_num, HO2, HE2'⟩
      case measure => simp [intOf]
    · skip
      have k0 : wr.cell? ⟨gb, 1, none⟩ = some (.string b) := (Xb.out.ext HE.out).c 1
      go_wp2_with fail
      refine (HE2.out _ (HB.out.e.tr HE.out)).mono ?_
      rintro e w3 ⟨rfl, hE⟩
      replace HO := OwnI.hext HO hE
      replace HE := Lib.hid (HE.out.tr hE)
      have hs3 : W3.heap.size ≤ w3.heap.size := HE.out.size
      clear hE k0
      have HO1 : Hid (w3.ownsRow W3.heap.size 26 2 u12 1 (icells (ivs ([(F1, F1), (F2, F2)].take 1)))) := HO.out
      go_wp2_with (at_builtin; (refine wpList_append_own _ rfl _ _ 39 rfl W3.heap.size 26 i0 (.agg #[.string ⟨#[]⟩, .string ⟨#[]⟩]) 2 32 Tryz.underlying39 hi hz0 hz1 hz2 rfl (by decide) _ 1 (icells (ivs ([(F1, F1), (F2, F2)].take 1))) rfl (World.ownsRow.alloc HO1.out _) ⟨w3.heap.size, 0, none⟩ 1 1 [rtx F2, rtx F2] rfl rfl (World.news_of_block (cs := #[rtx F2, rtx F2]) (t := 26) (fr := (0, 0)) (heap_alloc_new w3 _)) (by intro u hu; simp at hu; subst hu; rfl) (by simp [maxLen]) (by omega) (by simp; omega) ?_); intro v' wz hown hgrow _)
      obtain ⟨q1, q2⟩ := owni_push (w := W3) (m := ivs [(F2, F2)]) (l := ivs ([(F1, F1), (F2, F2)].take 1)) (HO.out.ext ((Ext.rfl' w3).al (.cells #[rtx F2, rtx F2] 26))) (HE.out.al _) 1 rfl hown hgrow
      have HO2 : Hid (OwnI wz W3.heap.size v' (ivs ([(F1, F1), (F2, F2)].take 2))) := q1
      have HE2' := Lib.hid q2
      clear q1 q2 hown hgrow HO HO1 HE
      go_wp2_with fail
      go_roundw
      case rel => exact ⟨2, by omega, by go_num, HO2, HE2'⟩
      case measure => simp [intOf]
    · have HL2 : Hid (OwnI wr W3.heap.size u12 (ivs [(F1, F1), (F2, F2)])) := HO.out
      clear HO
      go_wp2_with fail
      refine (HD.out _ (HB.out.e.tr HE.out)).mono ?_
      rintro e w4 ⟨v, rfl, hv, hE⟩
      obtain ⟨Ad, cd, hvd⟩ := hv.sl
      subst hvd
      simp only [List.length_nil]
      have HI := Lib.hid (HL2.out.ext hE).li
      have HB4 := Lib.hid ((HB.out.ext HE.out).ext hE)
      rcases HL2.out.cases with ⟨-, hnil⟩ | ⟨ga, ca, hu, -, -, -⟩
      · cases hnil
      obtain ⟨nA, hnA⟩ : ∃ n, (ivs [(F1, F1), (F2, F2)]).length = n := ⟨_, rfl⟩
      have HnA : Hid ((ivs ((F1, F1) :: [(F2, F2)])).length = nA) := hnA
      have zA : (1 : Int) < (nA : Int) + 1 := by simp [ivs] at hnA; omega
      rw [hnA] at hu
      subst hu
      have HA9 : Hid (nA ≤ 1000) := by rw [← hnA]; simp [ivs, Hid]
      clear hv hE HE HL2 HB Xb HD HE1 HE2 hnA
      have zA0 : (0 : Int) < (nA : Int) := by omega
      have zA1 : (1 : Int) ≤ (nA : Int) := by omega
      clear zA
      obtain ⟨Az, cz, hz, hlz, hcz, hcell⟩ := HI.out
      have hz1 : (some ⟨ga, 0, none⟩ : Option Addr) = Az := by injection hz
      have hz3 : ca = cz := by injection hz
      subst hz1 hz3
      have HCells : Hid (∀ j y, ((F1, F1) :: [(F2, F2)])[j]? = some y → w4.cell? ⟨ga, 2 * j, none⟩ = some (rtx y.1) ∧ w4.cell? ⟨ga, 2 * j + 1, none⟩ = some (rtx y.2)) := fun j y hy => by
        obtain ⟨hjl, hye⟩ := List.getElem?_eq_some_iff.1 hy
        obtain ⟨bz, oz, hAz, hbz, k0, k1⟩ := hcell j (by rw [ivs_len]; exact hjl)
        injection hAz with hAz
        injection hAz with h4 h5
        subst h4 h5
        simp only [ivs, List.getElem_map, Nat.zero_add] at k0 k1
        rw [hye] at k0 k1
        exact ⟨k0, k1⟩
      have hlen : ([(F2, F2)]).length + 1 = nA := by have := HnA.out; rw [ivs_len] at this; exact this
      have hlz2 : nA ≤ ca := by rw [HnA.out] at hlz; exact hlz
      have hca1 : ¬ ca = 1 := by have h2 := hlen; rw [List.length_cons] at h2; omega
      obtain ⟨m0, m1⟩ := HCells.out 0 (F1, F1) rfl
      simp only [Nat.mul_zero, Nat.zero_add] at m0 m1
      have k0 : w4.drew.cell? ⟨ga, 0, none⟩ = some (rtx (F1, F1).1) := m0
      have k1 : w4.drew.cell? ⟨ga, 1, none⟩ = some (rtx (F1, F1).2) := m1
      have zN : 0 < nA := by omega
      have zA9 := HA9.out
      clear hcell hz hlz hcz
      have HW4 : Hid (w.heap.size + 1 + 1 + 1 < w4.heap.size) := HB4.out.x9.lt
      go_wp2_with fail
      go_region_held3 (fun w' => w'.cell? ⟨ga, 0, none⟩ = some (rtx (F1, F1).1) ∧ w'.cell? ⟨ga, 1, none⟩ = some (rtx (F1, F1).2)) (((try dsimp only); (repeat' apply And.intro) <;> (first | (with_reducible assumption) | (exact Ext.cell ((Ext.rfl' w4).al _) m0) | (exact Ext.cell ((Ext.rfl' w4).al _) m1) | (exact Ext.cell (((Ext.rfl' w4).al _).al _) m0) | (exact Ext.cell (((Ext.rfl' w4).al _).al _) m1) | ((go_keep); done)))) (fail)
      · skip
        have P1 : Bx (((w4.alloc (.cells #[rtx (F1, F1).1, rtx (F1, F1).2] 26)).alloc (.cells #[rtx (F1, F1).1, rtx (F1, F1).2] 26)).drew) w4.heap.size #[rtx (F1, F1).1, rtx (F1, F1).2] 26 := ((Bx.new w4 #[rtx (F1, F1).1, rtx (F1, F1).2] 26).al (.cells #[rtx (F1, F1).1, rtx (F1, F1).2] 26)).ext ((Ext.rfl' _).dr)
        have P2 : Bx (((w4.alloc (.cells #[rtx (F1, F1).1, rtx (F1, F1).2] 26)).alloc (.cells #[rtx (F1, F1).1, rtx (F1, F1).2] 26)).drew) (w4.heap.size + 1) #[rtx (F1, F1).1, rtx (F1, F1).2] 26 := by
          have h := Bx.new (w4.alloc (.cells #[rtx (F1, F1).1, rtx (F1, F1).2] 26)) #[rtx (F1, F1).1, rtx (F1, F1).2] 26
          rw [World.size_alloc] at h
          exact h.ext ((Ext.rfl' _).dr)
        have HP1 := Lib.hid P1
        have HP2 := Lib.hid P2
        have HE5 : Hid (Ext w4 (((w4.alloc (.cells #[rtx (F1, F1).1, rtx (F1, F1).2] 26)).alloc (.cells #[rtx (F1, F1).1, rtx (F1, F1).2] 26)).drew)) := (((Ext.rfl' w4).al _).al _).dr
        clear P1 P2 k0 k1 m0 m1
        go_wp2_with fail
        clear zA0 zN
        go_loopw [118] (fun vi wr => ∃ (j : Nat) (st : (Rat × Rat) × (Rat × Rat)), j + 1 ≤ nA ∧ vi = .int .i64 (j : Int) ∧ Hid (Bx wr w4.heap.size #[rtx st.1.1, rtx st.1.2] 26) ∧ Hid (Bx wr (w4.heap.size + 1) #[rtx st.2.1, rtx st.2.2] 26) ∧ Hid (st = (([(F2, F2)]).take j).foldl exStep ((F1, F1), (F1, F1))) ∧ Hid (BdS st N) ∧ Hid (Ext w4 wr)) (fun vi _ => nA - (intOf vi).toNat)
        case atStart => exact ⟨0, ((F1, F1), (F1, F1)), by omega, rfl, HP1, HP2, rfl, Lib.hid ⟨HBd.out _ (by simp), HBd.out _ (by simp)⟩, HE5⟩
        case round =>
          clear HP1 HP2 HE5
          obtain ⟨j, ⟨⟨L1, L2⟩, M1, M2⟩, hj, rfl, HM1, HM2, HS, HBs, HE⟩ := hrel
          dsimp only at HM1 HM2
          have hn1 : w4.heap.size ≤ w4.heap.size := by omega
          have hn2 : w4.heap.size ≤ (w4.heap.size + 1) := by omega
          have hn3 : w4.heap.size ≠ (w4.heap.size + 1) := by omega
          have hn4 : (w4.heap.size + 1) ≠ w4.heap.size := by omega
          by_cases hje : j + 1 = nA
          · have hR : Hid (exF (F1, F1) ([(F2, F2)]) = ((L1, L2), (M1, M2))) := by
              have hh := HS.out
              rw [List.take_of_length_le (by omega)] at hh
              exact hh.symm
            have hjn : ¬ ((j : Int) < (nA : Int) - 1) := by omega
            have X6 := HB4.out.x6.ext HE.out
            have X7 := HB4.out.x7.ext HE.out
            have E9 := HB4.out.e.tr HE.out
            have hz4 := HW4.out
            have n0 : wr.cell? ⟨w4.heap.size, 0, none⟩ = some (rtx L1) := HM1.out.c0
            have n1 : wr.cell? ⟨w4.heap.size, 1, none⟩ = some (rtx L2) := HM1.out.c1
            have n2 : wr.cell? ⟨(w4.heap.size + 1), 0, none⟩ = some (rtx M1) := HM2.out.c0
            have n3 : wr.cell? ⟨(w4.heap.size + 1), 1, none⟩ = some (rtx M2) := HM2.out.c1
            have y0 : wr.cell? ⟨w.heap.size + 1, 0, none⟩ = some (.string ⟨#[]⟩) := X6.c 0
            have y1 : wr.cell? ⟨w.heap.size + 1, 1, none⟩ = some (.string ⟨#[]⟩) := X6.c 1
            have z0 : wr.cell? ⟨w.heap.size + 1 + 1, 0, none⟩ = some (.string ⟨#[]⟩) := X7.c 0
            have z1 : wr.cell? ⟨w.heap.size + 1 + 1, 1, none⟩ = some (.string ⟨#[]⟩) := X7.c 1
            have p0 := X6.f 0
            have p1 := X6.f 1
            have q0 := X7.f 0
            have q1 := X7.f 1
            have hg67 : w.heap.size + 1 ≠ w.heap.size + 1 + 1 := by omega
            have hgo1 : w.heap.size ≤ w.heap.size + 1 := by omega
            have hgo2 : w.heap.size ≤ w.heap.size + 1 + 1 := by omega
            have hge1 : ¬ (j + 1 < nA) := by omega
            go_wp2_with fail
            refine wp_region_held_drew (S := (fun w' => w'.cell? ⟨w4.heap.size, 0, none⟩ = some (rtx L1) ∧ w'.cell? ⟨w4.heap.size, 1, none⟩ = some (rtx L2) ∧ w'.cell? ⟨(w4.heap.size + 1), 0, none⟩ = some (rtx M1) ∧ w'.cell? ⟨(w4.heap.size + 1), 1, none⟩ = some (rtx M2))) (by kernel_rfl) (by exact ⟨n0, n1, n2, n3⟩) (fun hHeld => ?_)
            refine wpAnyH_take (i := 0) (oi := { dst := some 155, op := Go.Op.load 26 (Go.Operand.tmp 26), type := 26, pos := "sturm.go:235", after := #[], guard := none }) (v := ?_) rfl (by kernel_rfl) (by kernel_rfl) (by kernel_rfl) (fun _ _ _ h => h) (Or.inl ⟨by rfl, ?_⟩) hHeld ?_
            rotate_left
            · intro w' hSw; (try dsimp only at hSw); go_simp; (try with_reducible rfl)
            try simp only [Act.put, List.setIfInBounds_toArray, List.set_cons_zero, List.set_cons_succ]
            refine wpAnyH_take (i := 1) (oi := { dst := some 156, op := Go.Op.load 26 (Go.Operand.tmp 27), type := 26, pos := "sturm.go:235", after := #[{ on := 2, ground := Go.Ground.gcOnly Go.Departure.lateStores }], guard := none }) (v := ?_) rfl (by kernel_rfl) (by kernel_rfl) (by kernel_rfl) (fun _ _ _ h => h) (Or.inl ⟨by rfl, ?_⟩) hHeld ?_
            rotate_left
            · intro w' hSw; (try dsimp only at hSw); go_simp; (try with_reducible rfl)
            try simp only [Act.put, List.setIfInBounds_toArray, List.set_cons_zero, List.set_cons_succ]
            refine wpAnyH_ready (rs := [2]) (by kernel_rfl) (by simp) ?_
            refine AllReadyH.cons (o := { dst := none, op := Go.Op.store 26 (Go.Operand.tmp 6) (Go.Operand.tmp 155), type := 0, pos := "sturm.go:235", after := #[{ on := 0, ground := Go.Ground.data }, { on := 0, ground := Go.Ground.phase }, { on := 1, ground := Go.Ground.textOnly Go.Departure.lateStores }], guard := none }) rfl (fun K hK => ?_) AllReadyH.nil
            go_simp
            refine hK.out _ _ (by (try dsimp only); (repeat' apply And.intro) <;> (first | (rw [cell_drew2, neC (by omega), neC (by omega), neC (by omega), neC (by omega)]; with_reducible assumption) | (rw [cell_drew2, neC (by omega), neC (by omega)]; with_reducible assumption))) (fun hHeld2 => ?_)
            clear hK K hHeld
            have hHeld := hHeld2
            clear hHeld2
            try simp only [Act.put, List.setIfInBounds_toArray, List.set_cons_zero, List.set_cons_succ]
            refine wpAnyH_ready (rs := [3]) (by kernel_rfl) (by simp) ?_
            refine AllReadyH.cons (o := { dst := none, op := Go.Op.store 26 (Go.Operand.tmp 7) (Go.Operand.tmp 156), type := 0, pos := "sturm.go:235", after := #[{ on := 1, ground := Go.Ground.data }, { on := 2, ground := Go.Ground.chain }, { on := 0, ground := Go.Ground.phase }, { on := 1, ground := Go.Ground.phase }, { on := 2, ground := Go.Ground.phase }], guard := none }) rfl (fun K hK => ?_) AllReadyH.nil
            go_simp
            refine hK.out _ _ (by (try dsimp only); (repeat' apply And.intro) <;> (first | (rw [cell_drew2, neC (by omega), neC (by omega), neC (by omega), neC (by omega)]; with_reducible assumption) | (rw [cell_drew2, neC (by omega), neC (by omega)]; with_reducible assumption))) (fun hHeld2 => ?_)
            clear hK K hHeld
            have hHeld := hHeld2
            clear hHeld2
            try simp only [Act.put, List.setIfInBounds_toArray, List.set_cons_zero, List.set_cons_succ]
            refine wpAnyH_take (i := 4) (oi := { dst := some 8, op := Go.Op.assign (Go.Operand.const (Go.Value.int Go.IntKind.i64 0)), type := 29, pos := "sturm.go:235", after := #[{ on := 3, ground := Go.Ground.chain }, { on := 0, ground := Go.Ground.phase }, { on := 1, ground := Go.Ground.phase }, { on := 2, ground := Go.Ground.phase }, { on := 3, ground := Go.Ground.phase }], guard := none }) (v := ?_) rfl (by kernel_rfl) (by kernel_rfl) (by kernel_rfl) (fun _ _ _ h => h) (Or.inl ⟨by rfl, ?_⟩) hHeld ?_
            rotate_left
            · intro w' hSw; (try dsimp only at hSw); go_simp; (try with_reducible rfl)
            try simp only [Act.put, List.setIfInBounds_toArray, List.set_cons_zero, List.set_cons_succ]
            refine wpAnyH_done (by kernel_rfl) ?_ _
            all_goals
              clear hHeld
              go_wp2_with fail
              obtain ⟨d0, d1, d2, d3⟩ := setII X6 X7 hg67 (rtx L1) (rtx L2) (rtx M1) (rtx M2)
              rw [hR.out]
              refine bodyPost_ret (v := .tuple #[.agg #[rtx L1, rtx L2], .agg #[rtx M1, rtx M2], .int .i64 0]) ?_ rfl ⟨rfl, (ext_setII (g := w.heap.size + 1) (h := w.heap.size + 1 + 1) E9 hgo1 hgo2 _ _ _ _).dr⟩
              simp [results, Tryz.f25, go_sem, d0, d1, d2, d3]
          · have hjl : j < ([(F2, F2)]).length := by omega
            obtain ⟨y, hy⟩ : ∃ y, ([(F2, F2)])[j]? = some y := ⟨_, List.getElem?_eq_getElem hjl⟩
            have hby := HBd.out y (List.mem_cons_of_mem _ (List.mem_of_getElem? hy))
            have HSn : Hid (exStep ((L1, L2), (M1, M2)) y = (([(F2, F2)]).take (j + 1)).foldl exStep ((F1, F1), (F1, F1))) := by
              have e : ([(F2, F2)]).take (j + 1) = ([(F2, F2)]).take j ++ [y] := by
                rw [List.take_add_one, hy]; rfl
              unfold Hid
              rw [e, List.foldl_append, ← HS.out]; rfl
            have HBn := Lib.hid (HBs.out.step hby)
            obtain ⟨e0, e1⟩ := HCells.out (j + 1) y hy
            have e0 := HE.out.cell e0
            have e1 := HE.out.cell e1
            have hm1 : 2 * (j + 1) = 2 + j * 2 := by omega
            rw [hm1] at e0 e1
            obtain ⟨Y1, Y2⟩ := y
            dsimp only at e0 e1 hby
            obtain ⟨b1, hb1⟩ : ∃ b, decide (Y1 < L1) = b := ⟨_, rfl⟩
            obtain ⟨b2, hb2⟩ : ∃ b, decide (Y2 < L2) = b := ⟨_, rfl⟩
            obtain ⟨b3, hb3⟩ : ∃ b, decide (M1 < Y1) = b := ⟨_, rfl⟩
            obtain ⟨b4, hb4⟩ : ∃ b, decide (M2 < Y2) = b := ⟨_, rfl⟩
            have HNx : Hid (exStep ((L1, L2), (M1, M2)) (Y1, Y2) = ((if b1 then Y1 else L1, if b2 then Y2 else L2), (if b3 then Y1 else M1, if b4 then Y2 else M2))) := by
              rw [← hb1, ← hb2, ← hb3, ← hb4]; simp only [exStep, decide_eq_true_eq, Hid]
            have HL1 : Hid (∀ W, Ext w4 W → Calls Tryz.prog 53 #[rtx Y1, rtx L1] W fun e w' => e = .returned (.bool b1) ∧ Ext W w') := fun W hE => by rw [← hb1]; exact HL.out W _ _ (HB4.out.e.tr hE) hby.1 HBs.out.1.1
            have HL2 : Hid (∀ W, Ext w4 W → Calls Tryz.prog 53 #[rtx Y2, rtx L2] W fun e w' => e = .returned (.bool b2) ∧ Ext W w') := fun W hE => by rw [← hb2]; exact HL.out W _ _ (HB4.out.e.tr hE) hby.2 HBs.out.1.2
            have HL3 : Hid (∀ W, Ext w4 W → Calls Tryz.prog 53 #[rtx M1, rtx Y1] W fun e w' => e = .returned (.bool b3) ∧ Ext W w') := fun W hE => by rw [← hb3]; exact HL.out W _ _ (HB4.out.e.tr hE) HBs.out.2.1 hby.1
            have HL4 : Hid (∀ W, Ext w4 W → Calls Tryz.prog 53 #[rtx M2, rtx Y2] W fun e w' => e = .returned (.bool b4) ∧ Ext W w') := fun W hE => by rw [← hb4]; exact HL.out W _ _ (HB4.out.e.tr hE) HBs.out.2.2 hby.2
            rw [HNx.out] at HSn HBn
            have hjn : (j : Int) < (nA : Int) - 1 := by omega
            have hjn2 : j + 1 < nA := by omega
            have zw : IntKind.i64.wrap ((j : Int) + 1) = (j : Int) + 1 := by rw [IntKind.wrap_i64]; omega
            have h29a : w4.heap.size ≠ wr.heap.size := by have := HM1.out.lt; omega
            have h29b : (w4.heap.size + 1) ≠ wr.heap.size := by have := HM2.out.lt; omega
            have hlt1 : w4.heap.size < wr.heap.size := HM1.out.lt
            have a0 : (wr.alloc (.cells #[rtx Y1, rtx Y2] 26)).cell? ⟨w4.heap.size, 0, none⟩ = some (rtx L1) := (HM1.out.al (.cells #[rtx Y1, rtx Y2] 26)).c0
            clear hby hy HNx HS HBs hb1 hb2 hb3 hb4 HCells HBd hje hjl
            go_wp2_with fail
            have HX29 := Lib.hid (Bx.new wr #[rtx Y1, rtx Y2] 26)
            replace HM1 := Bx.hext HM1 ((Ext.rfl' wr).al (.cells #[rtx Y1, rtx Y2] 26))
            replace HM2 := Bx.hext HM2 ((Ext.rfl' wr).al (.cells #[rtx Y1, rtx Y2] 26))
            replace HE := Lib.hid (HE.out.al (.cells #[rtx Y1, rtx Y2] 26))
            clear e0 e1 a0
            generalize wr.heap.size = g29 at *
            generalize wr.alloc (.cells #[rtx Y1, rtx Y2] 26) = W10 at *
            refine (HL1.out _ HE.out).mono ?_
            rintro e w20 ⟨rfl, hE⟩
            replace HX29 := Bx.hext HX29 hE
            replace HM1 := Bx.hext HM1 hE
            replace HM2 := Bx.hext HM2 hE
            replace HE := Lib.hid (HE.out.tr hE)
            clear hE HL1
            cases b1
            · skip
              have s0 : w20.cell? ⟨g29, 1, none⟩ = some (rtx Y2) := HX29.out.c 1
              have s1 : w20.cell? ⟨w4.heap.size, 1, none⟩ = some (rtx L2) := HM1.out.c 1
              go_wp2_with fail
              clear s0 s1
              refine (HL2.out _ HE.out).mono ?_
              rintro e w21 ⟨rfl, hE⟩
              replace HX29 := Bx.hext HX29 hE
              replace HM1 := Bx.hext HM1 hE
              replace HM2 := Bx.hext HM2 hE
              replace HE := Lib.hid (HE.out.tr hE)
              clear hE HL2
              cases b2
              · skip
                have s0 : w21.cell? ⟨g29, 0, none⟩ = some (rtx Y1) := HX29.out.c 0
                have s1 : w21.cell? ⟨(w4.heap.size + 1), 0, none⟩ = some (rtx M1) := HM2.out.c 0
                go_wp2_with fail
                clear s0 s1
                refine (HL3.out _ HE.out).mono ?_
                rintro e w22 ⟨rfl, hE⟩
                replace HX29 := Bx.hext HX29 hE
                replace HM1 := Bx.hext HM1 hE
                replace HM2 := Bx.hext HM2 hE
                replace HE := Lib.hid (HE.out.tr hE)
                clear hE HL3
                cases b3
                · skip
                  have s0 : w22.cell? ⟨g29, 1, none⟩ = some (rtx Y2) := HX29.out.c 1
                  have s1 : w22.cell? ⟨(w4.heap.size + 1), 1, none⟩ = some (rtx M2) := HM2.out.c 1
                  go_wp2_with fail
                  clear s0 s1
                  refine (HL4.out _ HE.out).mono ?_
                  rintro e w23 ⟨rfl, hE⟩
                  replace HX29 := Bx.hext HX29 hE
                  replace HM1 := Bx.hext HM1 hE
                  replace HM2 := Bx.hext HM2 hE
                  replace HE := Lib.hid (HE.out.tr hE)
                  clear hE HL4
                  cases b4
                  · skip
                    go_wp2_with fail
                    go_roundw
                    case rel => exact ⟨j + 1, ((L1, L2), (M1, M2)), by omega, by go_num, HM1, HM2, HSn, HBn, HE⟩
                    case measure => simp [intOf]; omega
                  · skip
                    have t0 : w23.cell? ⟨g29, 1, none⟩ = some (rtx Y2) := HX29.out.c 1
                    have t1 := HM2.out.c 1
                    have t2 := HM2.out.f 1
                    replace HX29 := Lib.hid (HX29.out.set (p := ⟨(w4.heap.size + 1), 1, none⟩) (Ne.symm h29b) (rtx Y2))
                    replace HM1 := Lib.hid (HM1.out.set (p := ⟨(w4.heap.size + 1), 1, none⟩) hn3 (rtx Y2))
                    replace HM2 := Lib.hid (HM2.out.put 1 (rtx Y2))
                    replace HE := Lib.hid (ext_set1 HE.out hn2 1 (rtx Y2))
                    go_wp2_with fail
                    clear t0 t1 t2
                    go_roundw
                    case rel => exact ⟨j + 1, ((L1, L2), (M1, Y2)), by omega, by go_num, HM1, HM2, HSn, HBn, HE⟩
                    case measure => simp [intOf]; omega
                · skip
                  have t0 : w22.cell? ⟨g29, 0, none⟩ = some (rtx Y1) := HX29.out.c 0
                  have t1 := HM2.out.c 0
                  have t2 := HM2.out.f 0
                  replace HX29 := Lib.hid (HX29.out.set (p := ⟨(w4.heap.size + 1), 0, none⟩) (Ne.symm h29b) (rtx Y1))
                  replace HM1 := Lib.hid (HM1.out.set (p := ⟨(w4.heap.size + 1), 0, none⟩) hn3 (rtx Y1))
                  replace HM2 := Lib.hid (HM2.out.put 0 (rtx Y1))
                  replace HE := Lib.hid (ext_set1 HE.out hn2 0 (rtx Y1))
                  have s0 : (w22.setCell ⟨(w4.heap.size + 1), 0, none⟩ (rtx Y1)).cell? ⟨g29, 1, none⟩ = some (rtx Y2) := HX29.out.c 1
                  have s1 : (w22.setCell ⟨(w4.heap.size + 1), 0, none⟩ (rtx Y1)).cell? ⟨(w4.heap.size + 1), 1, none⟩ = some (rtx M2) := HM2.out.c 1
                  go_wp2_with fail
                  clear s0 s1 t0 t1 t2
                  refine (HL4.out _ HE.out).mono ?_
                  rintro e w23 ⟨rfl, hE⟩
                  replace HX29 := Bx.hext HX29 hE
                  replace HM1 := Bx.hext HM1 hE
                  replace HM2 := Bx.hext HM2 hE
                  replace HE := Lib.hid (HE.out.tr hE)
                  clear hE HL4
                  cases b4
                  · skip
                    go_wp2_with fail
                    go_roundw
                    case rel => exact ⟨j + 1, ((L1, L2), (Y1, M2)), by omega, by go_num, HM1, HM2, HSn, HBn, HE⟩
                    case measure => simp [intOf]; omega
                  · skip
                    have t0 : w23.cell? ⟨g29, 1, none⟩ = some (rtx Y2) := HX29.out.c 1
                    have t1 := HM2.out.c 1
                    have t2 := HM2.out.f 1
                    replace HX29 := Lib.hid (HX29.out.set (p := ⟨(w4.heap.size + 1), 1, none⟩) (Ne.symm h29b) (rtx Y2))
                    replace HM1 := Lib.hid (HM1.out.set (p := ⟨(w4.heap.size + 1), 1, none⟩) hn3 (rtx Y2))
                    replace HM2 := Lib.hid (HM2.out.put 1 (rtx Y2))
                    replace HE := Lib.hid (ext_set1 HE.out hn2 1 (rtx Y2))
                    go_wp2_with fail
                    clear t0 t1 t2
                    go_roundw
                    case rel => exact ⟨j + 1, ((L1, L2), (Y1, Y2)), by omega, by go_num, HM1, HM2, HSn, HBn, HE⟩
                    case measure => simp [intOf]; omega
              · skip
                have t0 : w21.cell? ⟨g29, 1, none⟩ = some (rtx Y2) := HX29.out.c 1
                have t1 := HM1.out.c 1
                have t2 := HM1.out.f 1
                replace HX29 := Lib.hid (HX29.out.set (p := ⟨w4.heap.size, 1, none⟩) (Ne.symm h29a) (rtx Y2))
                replace HM2 := Lib.hid (HM2.out.set (p := ⟨w4.heap.size, 1, none⟩) hn4 (rtx Y2))
                replace HM1 := Lib.hid (HM1.out.put 1 (rtx Y2))
                replace HE := Lib.hid (ext_set1 HE.out hn1 1 (rtx Y2))
                have s0 : (w21.setCell ⟨w4.heap.size, 1, none⟩ (rtx Y2)).cell? ⟨g29, 0, none⟩ = some (rtx Y1) := HX29.out.c 0
                have s1 : (w21.setCell ⟨w4.heap.size, 1, none⟩ (rtx Y2)).cell? ⟨(w4.heap.size + 1), 0, none⟩ = some (rtx M1) := HM2.out.c 0
                go_wp2_with fail
                clear s0 s1 t0 t1 t2
                refine (HL3.out _ HE.out).mono ?_
                rintro e w22 ⟨rfl, hE⟩
                replace HX29 := Bx.hext HX29 hE
                replace HM1 := Bx.hext HM1 hE
                replace HM2 := Bx.hext HM2 hE
                replace HE := Lib.hid (HE.out.tr hE)
                clear hE HL3
                cases b3
                · skip
                  have s0 : w22.cell? ⟨g29, 1, none⟩ = some (rtx Y2) := HX29.out.c 1
                  have s1 : w22.cell? ⟨(w4.heap.size + 1), 1, none⟩ = some (rtx M2) := HM2.out.c 1
                  go_wp2_with fail
                  clear s0 s1
                  refine (HL4.out _ HE.out).mono ?_
                  rintro e w23 ⟨rfl, hE⟩
                  replace HX29 := Bx.hext HX29 hE
                  replace HM1 := Bx.hext HM1 hE
                  replace HM2 := Bx.hext HM2 hE
                  replace HE := Lib.hid (HE.out.tr hE)
                  clear hE HL4
                  cases b4
                  · skip
                    go_wp2_with fail
                    go_roundw
                    case rel => exact ⟨j + 1, ((L1, Y2), (M1, M2)), by omega, by go_num, HM1, HM2, HSn, HBn, HE⟩
                    case measure => simp [intOf]; omega
                  · skip
                    have t0 : w23.cell? ⟨g29, 1, none⟩ = some (rtx Y2) := HX29.out.c 1
                    have t1 := HM2.out.c 1
                    have t2 := HM2.out.f 1
                    replace HX29 := Lib.hid (HX29.out.set (p := ⟨(w4.heap.size + 1), 1, none⟩) (Ne.symm h29b) (rtx Y2))
                    replace HM1 := Lib.hid (HM1.out.set (p := ⟨(w4.heap.size + 1), 1, none⟩) hn3 (rtx Y2))
                    replace HM2 := Lib.hid (HM2.out.put 1 (rtx Y2))
                    replace HE := Lib.hid (ext_set1 HE.out hn2 1 (rtx Y2))
                    go_wp2_with fail
                    clear t0 t1 t2
                    go_roundw
                    case rel => exact ⟨j + 1, ((L1, Y2), (M1, Y2)), by omega, by go_num, HM1, HM2, HSn, HBn, HE⟩
                    case measure => simp [intOf]; omega
                · skip
                  have t0 : w22.cell? ⟨g29, 0, none⟩ = some (rtx Y1) := HX29.out.c 0
                  have t1 := HM2.out.c 0
                  have t2 := HM2.out.f 0
                  replace HX29 := Lib.hid (HX29.out.set (p := ⟨(w4.heap.size + 1), 0, none⟩) (Ne.symm h29b) (rtx Y1))
                  replace HM1 := Lib.hid (HM1.out.set (p := ⟨(w4.heap.size + 1), 0, none⟩) hn3 (rtx Y1))
                  replace HM2 := Lib.hid (HM2.out.put 0 (rtx Y1))
                  replace HE := Lib.hid (ext_set1 HE.out hn2 0 (rtx Y1))
                  have s0 : (w22.setCell ⟨(w4.heap.size + 1), 0, none⟩ (rtx Y1)).cell? ⟨g29, 1, none⟩ = some (rtx Y2) := HX29.out.c 1
                  have s1 : (w22.setCell ⟨(w4.heap.size + 1), 0, none⟩ (rtx Y1)).cell? ⟨(w4.heap.size + 1), 1, none⟩ = some (rtx M2) := HM2.out.c 1
                  go_wp2_with fail
                  clear s0 s1 t0 t1 t2
                  refine (HL4.out _ HE.out).mono ?_
                  rintro e w23 ⟨rfl, hE⟩
                  replace HX29 := Bx.hext HX29 hE
                  replace HM1 := Bx.hext HM1 hE
                  replace HM2 := Bx.hext HM2 hE
                  replace HE := Lib.hid (HE.out.tr hE)
                  clear hE HL4
                  cases b4
                  · skip
                    go_wp2_with fail
                    go_roundw
                    case rel => exact ⟨j + 1, ((L1, Y2), (Y1, M2)), by omega, by go_num, HM1, HM2, HSn, HBn, HE⟩
                    case measure => simp [intOf]; omega
                  · skip
                    have t0 : w23.cell? ⟨g29, 1, none⟩ = some (rtx Y2) := HX29.out.c 1
                    have t1 := HM2.out.c 1
                    have t2 := HM2.out.f 1
                    replace HX29 := Lib.hid (HX29.out.set (p := ⟨(w4.heap.size + 1), 1, none⟩) (Ne.symm h29b) (rtx Y2))
                    replace HM1 := Lib.hid (HM1.out.set (p := ⟨(w4.heap.size + 1), 1, none⟩) hn3 (rtx Y2))
                    replace HM2 := Lib.hid (HM2.out.put 1 (rtx Y2))
                    replace HE := Lib.hid (ext_set1 HE.out hn2 1 (rtx Y2))
                    go_wp2_with fail
                    clear t0 t1 t2
                    go_roundw
                    case rel => exact ⟨j + 1, ((L1, Y2), (Y1, Y2)), by omega, by go_num, HM1, HM2, HSn, HBn, HE⟩
                    case measure => simp [intOf]; omega
            · skip
              have t0 : w20.cell? ⟨g29, 0, none⟩ = some (rtx Y1) := HX29.out.c 0
              have t1 := HM1.out.c 0
              have t2 := HM1.out.f 0
              replace HX29 := Lib.hid (HX29.out.set (p := ⟨w4.heap.size, 0, none⟩) (Ne.symm h29a) (rtx Y1))
              replace HM2 := Lib.hid (HM2.out.set (p := ⟨w4.heap.size, 0, none⟩) hn4 (rtx Y1))
              replace HM1 := Lib.hid (HM1.out.put 0 (rtx Y1))
              replace HE := Lib.hid (ext_set1 HE.out hn1 0 (rtx Y1))
              have s0 : (w20.setCell ⟨w4.heap.size, 0, none⟩ (rtx Y1)).cell? ⟨g29, 1, none⟩ = some (rtx Y2) := HX29.out.c 1
              have s1 : (w20.setCell ⟨w4.heap.size, 0, none⟩ (rtx Y1)).cell? ⟨w4.heap.size, 1, none⟩ = some (rtx L2) := HM1.out.c 1
              go_wp2_with fail
              clear s0 s1 t0 t1 t2
              refine (HL2.out _ HE.out).mono ?_
              rintro e w21 ⟨rfl, hE⟩
              replace HX29 := Bx.hext HX29 hE
              replace HM1 := Bx.hext HM1 hE
              replace HM2 := Bx.hext HM2 hE
              replace HE := Lib.hid (HE.out.tr hE)
              clear hE HL2
              cases b2
              · skip
                have s0 : w21.cell? ⟨g29, 0, none⟩ = some (rtx Y1) := HX29.out.c 0
                have s1 : w21.cell? ⟨(w4.heap.size + 1), 0, none⟩ = some (rtx M1) := HM2.out.c 0
                go_wp2_with fail
                clear s0 s1
                refine (HL3.out _ HE.out).mono ?_
                rintro e w22 ⟨rfl, hE⟩
                replace HX29 := Bx.hext HX29 hE
                replace HM1 := Bx.hext HM1 hE
                replace HM2 := Bx.hext HM2 hE
                replace HE := Lib.hid (HE.out.tr hE)
                clear hE HL3
                cases b3
                · skip
                  have s0 : w22.cell? ⟨g29, 1, none⟩ = some (rtx Y2) := HX29.out.c 1
                  have s1 : w22.cell? ⟨(w4.heap.size + 1), 1, none⟩ = some (rtx M2) := HM2.out.c 1
                  go_wp2_with fail
                  clear s0 s1
                  refine (HL4.out _ HE.out).mono ?_
                  rintro e w23 ⟨rfl, hE⟩
                  replace HX29 := Bx.hext HX29 hE
                  replace HM1 := Bx.hext HM1 hE
                  replace HM2 := Bx.hext HM2 hE
                  replace HE := Lib.hid (HE.out.tr hE)
                  clear hE HL4
                  cases b4
                  · skip
                    go_wp2_with fail
                    go_roundw
                    case rel => exact ⟨j + 1, ((Y1, L2), (M1, M2)), by omega, by go_num, HM1, HM2, HSn, HBn, HE⟩
                    case measure => simp [intOf]; omega
                  · skip
                    have t0 : w23.cell? ⟨g29, 1, none⟩ = some (rtx Y2) := HX29.out.c 1
                    have t1 := HM2.out.c 1
                    have t2 := HM2.out.f 1
                    replace HX29 := Lib.hid (HX29.out.set (p := ⟨(w4.heap.size + 1), 1, none⟩) (Ne.symm h29b) (rtx Y2))
                    replace HM1 := Lib.hid (HM1.out.set (p := ⟨(w4.heap.size + 1), 1, none⟩) hn3 (rtx Y2))
                    replace HM2 := Lib.hid (HM2.out.put 1 (rtx Y2))
                    replace HE := Lib.hid (ext_set1 HE.out hn2 1 (rtx Y2))
                    go_wp2_with fail
                    clear t0 t1 t2
                    go_roundw
                    case rel => exact ⟨j + 1, ((Y1, L2), (M1, Y2)), by omega, by go_num, HM1, HM2, HSn, HBn, HE⟩
                    case measure => simp [intOf]; omega
                · skip
                  have t0 : w22.cell? ⟨g29, 0, none⟩ = some (rtx Y1) := HX29.out.c 0
                  have t1 := HM2.out.c 0
                  have t2 := HM2.out.f 0
                  replace HX29 := Lib.hid (HX29.out.set (p := ⟨(w4.heap.size + 1), 0, none⟩) (Ne.symm h29b) (rtx Y1))
                  replace HM1 := Lib.hid (HM1.out.set (p := ⟨(w4.heap.size + 1), 0, none⟩) hn3 (rtx Y1))
                  replace HM2 := Lib.hid (HM2.out.put 0 (rtx Y1))
                  replace HE := Lib.hid (ext_set1 HE.out hn2 0 (rtx Y1))
                  have s0 : (w22.setCell ⟨(w4.heap.size + 1), 0, none⟩ (rtx Y1)).cell? ⟨g29, 1, none⟩ = some (rtx Y2) := HX29.out.c 1
                  have s1 : (w22.setCell ⟨(w4.heap.size + 1), 0, none⟩ (rtx Y1)).cell? ⟨(w4.heap.size + 1), 1, none⟩ = some (rtx M2) := HM2.out.c 1
                  go_wp2_with fail
                  clear s0 s1 t0 t1 t2
                  refine (HL4.out _ HE.out).mono ?_
                  rintro e w23 ⟨rfl, hE⟩
                  replace HX29 := Bx.hext HX29 hE
                  replace HM1 := Bx.hext HM1 hE
                  replace HM2 := Bx.hext HM2 hE
                  replace HE := Lib.hid (HE.out.tr hE)
                  clear hE HL4
                  cases b4
                  · skip
                    go_wp2_with fail
                    go_roundw
                    case rel => exact ⟨j + 1, ((Y1, L2), (Y1, M2)), by omega, by go_num, HM1, HM2, HSn, HBn, HE⟩
                    case measure => simp [intOf]; omega
                  · skip
                    have t0 : w23.cell? ⟨g29, 1, none⟩ = some (rtx Y2) := HX29.out.c 1
                    have t1 := HM2.out.c 1
                    have t2 := HM2.out.f 1
                    replace HX29 := Lib.hid (HX29.out.set (p := ⟨(w4.heap.size + 1), 1, none⟩) (Ne.symm h29b) (rtx Y2))
                    replace HM1 := Lib.hid (HM1.out.set (p := ⟨(w4.heap.size + 1), 1, none⟩) hn3 (rtx Y2))
                    replace HM2 := Lib.hid (HM2.out.put 1 (rtx Y2))
                    replace HE := Lib.hid (ext_set1 HE.out hn2 1 (rtx Y2))
                    go_wp2_with fail
                    clear t0 t1 t2
                    go_roundw
                    case rel => exact ⟨j + 1, ((Y1, L2), (Y1, Y2)), by omega, by go_num, HM1, HM2, HSn, HBn, HE⟩
                    case measure => simp [intOf]; omega
              · skip
                have t0 : w21.cell? ⟨g29, 1, none⟩ = some (rtx Y2) := HX29.out.c 1
                have t1 := HM1.out.c 1
                have t2 := HM1.out.f 1
                replace HX29 := Lib.hid (HX29.out.set (p := ⟨w4.heap.size, 1, none⟩) (Ne.symm h29a) (rtx Y2))
                replace HM2 := Lib.hid (HM2.out.set (p := ⟨w4.heap.size, 1, none⟩) hn4 (rtx Y2))
                replace HM1 := Lib.hid (HM1.out.put 1 (rtx Y2))
                replace HE := Lib.hid (ext_set1 HE.out hn1 1 (rtx Y2))
                have s0 : (w21.setCell ⟨w4.heap.size, 1, none⟩ (rtx Y2)).cell? ⟨g29, 0, none⟩ = some (rtx Y1) := HX29.out.c 0
                have s1 : (w21.setCell ⟨w4.heap.size, 1, none⟩ (rtx Y2)).cell? ⟨(w4.heap.size + 1), 0, none⟩ = some (rtx M1) := HM2.out.c 0
                go_wp2_with fail
                clear s0 s1 t0 t1 t2
                refine (HL3.out _ HE.out).mono ?_
                rintro e w22 ⟨rfl, hE⟩
                replace HX29 := Bx.hext HX29 hE
                replace HM1 := Bx.hext HM1 hE
                replace HM2 := Bx.hext HM2 hE
                replace HE := Lib.hid (HE.out.tr hE)
                clear hE HL3
                cases b3
                · skip
                  have s0 : w22.cell? ⟨g29, 1, none⟩ = some (rtx Y2) := HX29.out.c 1
                  have s1 : w22.cell? ⟨(w4.heap.size + 1), 1, none⟩ = some (rtx M2) := HM2.out.c 1
                  go_wp2_with fail
                  clear s0 s1
                  refine (HL4.out _ HE.out).mono ?_
                  rintro e w23 ⟨rfl, hE⟩
                  replace HX29 := Bx.hext HX29 hE
                  replace HM1 := Bx.hext HM1 hE
                  replace HM2 := Bx.hext HM2 hE
                  replace HE := Lib.hid (HE.out.tr hE)
                  clear hE HL4
                  cases b4
                  · skip
                    go_wp2_with fail
                    go_roundw
                    case rel => exact ⟨j + 1, ((Y1, Y2), (M1, M2)), by omega, by go_num, HM1, HM2, HSn, HBn, HE⟩
                    case measure => simp [intOf]; omega
                  · skip
                    have t0 : w23.cell? ⟨g29, 1, none⟩ = some (rtx Y2) := HX29.out.c 1
                    have t1 := HM2.out.c 1
                    have t2 := HM2.out.f 1
                    replace HX29 := Lib.hid (HX29.out.set (p := ⟨(w4.heap.size + 1), 1, none⟩) (Ne.symm h29b) (rtx Y2))
                    replace HM1 := Lib.hid (HM1.out.set (p := ⟨(w4.heap.size + 1), 1, none⟩) hn3 (rtx Y2))
                    replace HM2 := Lib.hid (HM2.out.put 1 (rtx Y2))
                    replace HE := Lib.hid (ext_set1 HE.out hn2 1 (rtx Y2))
                    go_wp2_with fail
                    clear t0 t1 t2
                    go_roundw
                    case rel => exact ⟨j + 1, ((Y1, Y2), (M1, Y2)), by omega, by go_num, HM1, HM2, HSn, HBn, HE⟩
                    case measure => simp [intOf]; omega
                · skip
                  have t0 : w22.cell? ⟨g29, 0, none⟩ = some (rtx Y1) := HX29.out.c 0
                  have t1 := HM2.out.c 0
                  have t2 := HM2.out.f 0
                  replace HX29 := Lib.hid (HX29.out.set (p := ⟨(w4.heap.size + 1), 0, none⟩) (Ne.symm h29b) (rtx Y1))
                  replace HM1 := Lib.hid (HM1.out.set (p := ⟨(w4.heap.size + 1), 0, none⟩) hn3 (rtx Y1))
                  replace HM2 := Lib.hid (HM2.out.put 0 (rtx Y1))
                  replace HE := Lib.hid (ext_set1 HE.out hn2 0 (rtx Y1))
                  have s0 : (w22.setCell ⟨(w4.heap.size + 1), 0, none⟩ (rtx Y1)).cell? ⟨g29, 1, none⟩ = some (rtx Y2) := HX29.out.c 1
                  have s1 : (w22.setCell ⟨(w4.heap.size + 1), 0, none⟩ (rtx Y1)).cell? ⟨(w4.heap.size + 1), 1, none⟩ = some (rtx M2) := HM2.out.c 1
                  go_wp2_with fail
                  clear s0 s1 t0 t1 t2
                  refine (HL4.out _ HE.out).mono ?_
                  rintro e w23 ⟨rfl, hE⟩
                  replace HX29 := Bx.hext HX29 hE
                  replace HM1 := Bx.hext HM1 hE
                  replace HM2 := Bx.hext HM2 hE
                  replace HE := Lib.hid (HE.out.tr hE)
                  clear hE HL4
                  cases b4
                  · skip
                    go_wp2_with fail
                    go_roundw
                    case rel => exact ⟨j + 1, ((Y1, Y2), (Y1, M2)), by omega, by go_num, HM1, HM2, HSn, HBn, HE⟩
                    case measure => simp [intOf]; omega
                  · skip
                    have t0 : w23.cell? ⟨g29, 1, none⟩ = some (rtx Y2) := HX29.out.c 1
                    have t1 := HM2.out.c 1
                    have t2 := HM2.out.f 1
                    replace HX29 := Lib.hid (HX29.out.set (p := ⟨(w4.heap.size + 1), 1, none⟩) (Ne.symm h29b) (rtx Y2))
                    replace HM1 := Lib.hid (HM1.out.set (p := ⟨(w4.heap.size + 1), 1, none⟩) hn3 (rtx Y2))
                    replace HM2 := Lib.hid (HM2.out.put 1 (rtx Y2))
                    replace HE := Lib.hid (ext_set1 HE.out hn2 1 (rtx Y2))
                    go_wp2_with fail
                    clear t0 t1 t2
                    go_roundw
                    case rel => exact ⟨j + 1, ((Y1, Y2), (Y1, Y2)), by omega, by go_num, HM1, HM2, HSn, HBn, HE⟩
                    case measure => simp [intOf]; omega
      · skip
        have P1 : Bx (((w4.alloc (.cells #[rtx (F1, F1).1, rtx (F1, F1).2] 26)).alloc (.cells #[rtx (F1, F1).1, rtx (F1, F1).2] 26)).drew) w4.heap.size #[rtx (F1, F1).1, rtx (F1, F1).2] 26 := ((Bx.new w4 #[rtx (F1, F1).1, rtx (F1, F1).2] 26).al (.cells #[rtx (F1, F1).1, rtx (F1, F1).2] 26)).ext ((Ext.rfl' _).dr)
        have P2 : Bx (((w4.alloc (.cells #[rtx (F1, F1).1, rtx (F1, F1).2] 26)).alloc (.cells #[rtx (F1, F1).1, rtx (F1, F1).2] 26)).drew) (w4.heap.size + 1) #[rtx (F1, F1).1, rtx (F1, F1).2] 26 := by
          have h := Bx.new (w4.alloc (.cells #[rtx (F1, F1).1, rtx (F1, F1).2] 26)) #[rtx (F1, F1).1, rtx (F1, F1).2] 26
          rw [World.size_alloc] at h
          exact h.ext ((Ext.rfl' _).dr)
        have HP1 := Lib.hid P2
        have HP2 := Lib.hid P1
        have HE5 : Hid (Ext w4 (((w4.alloc (.cells #[rtx (F1, F1).1, rtx (F1, F1).2] 26)).alloc (.cells #[rtx (F1, F1).1, rtx (F1, F1).2] 26)).drew)) := (((Ext.rfl' w4).al _).al _).dr
        clear P1 P2 k0 k1 m0 m1
        go_wp2_with fail
        clear zA0 zN
        go_loopw [118] (fun vi wr => ∃ (j : Nat) (st : (Rat × Rat) × (Rat × Rat)), j + 1 ≤ nA ∧ vi = .int .i64 (j : Int) ∧ Hid (Bx wr (w4.heap.size + 1) #[rtx st.1.1, rtx st.1.2] 26) ∧ Hid (Bx wr w4.heap.size #[rtx st.2.1, rtx st.2.2] 26) ∧ Hid (st = (([(F2, F2)]).take j).foldl exStep ((F1, F1), (F1, F1))) ∧ Hid (BdS st N) ∧ Hid (Ext w4 wr)) (fun vi _ => nA - (intOf vi).toNat)
        case atStart => exact ⟨0, ((F1, F1), (F1, F1)), by omega, rfl, HP1, HP2, rfl, Lib.hid ⟨HBd.out _ (by simp), HBd.out _ (by simp)⟩, HE5⟩
        case round =>
          clear HP1 HP2 HE5
          obtain ⟨j, ⟨⟨L1, L2⟩, M1, M2⟩, hj, rfl, HM1, HM2, HS, HBs, HE⟩ := hrel
          dsimp only at HM1 HM2
          have hn1 : w4.heap.size ≤ (w4.heap.size + 1) := by omega
          have hn2 : w4.heap.size ≤ w4.heap.size := by omega
          have hn3 : (w4.heap.size + 1) ≠ w4.heap.size := by omega
          have hn4 : w4.heap.size ≠ (w4.heap.size + 1) := by omega
          by_cases hje : j + 1 = nA
          · have hR : Hid (exF (F1, F1) ([(F2, F2)]) = ((L1, L2), (M1, M2))) := by
              have hh := HS.out
              rw [List.take_of_length_le (by omega)] at hh
              exact hh.symm
            have hjn : ¬ ((j : Int) < (nA : Int) - 1) := by omega
            have X6 := HB4.out.x6.ext HE.out
            have X7 := HB4.out.x7.ext HE.out
            have E9 := HB4.out.e.tr HE.out
            have hz4 := HW4.out
            have n0 : wr.cell? ⟨(w4.heap.size + 1), 0, none⟩ = some (rtx L1) := HM1.out.c0
            have n1 : wr.cell? ⟨(w4.heap.size + 1), 1, none⟩ = some (rtx L2) := HM1.out.c1
            have n2 : wr.cell? ⟨w4.heap.size, 0, none⟩ = some (rtx M1) := HM2.out.c0
            have n3 : wr.cell? ⟨w4.heap.size, 1, none⟩ = some (rtx M2) := HM2.out.c1
            have y0 : wr.cell? ⟨w.heap.size + 1, 0, none⟩ = some (.string ⟨#[]⟩) := X6.c 0
            have y1 : wr.cell? ⟨w.heap.size + 1, 1, none⟩ = some (.string ⟨#[]⟩) := X6.c 1
            have z0 : wr.cell? ⟨w.heap.size + 1 + 1, 0, none⟩ = some (.string ⟨#[]⟩) := X7.c 0
            have z1 : wr.cell? ⟨w.heap.size + 1 + 1, 1, none⟩ = some (.string ⟨#[]⟩) := X7.c 1
            have p0 := X6.f 0
            have p1 := X6.f 1
            have q0 := X7.f 0
            have q1 := X7.f 1
            have hg67 : w.heap.size + 1 ≠ w.heap.size + 1 + 1 := by omega
            have hgo1 : w.heap.size ≤ w.heap.size + 1 := by omega
            have hgo2 : w.heap.size ≤ w.heap.size + 1 + 1 := by omega
            have hge1 : ¬ (j + 1 < nA) := by omega
            go_wp2_with fail
            refine wp_region_held_drew (S := (fun w' => w'.cell? ⟨(w4.heap.size + 1), 0, none⟩ = some (rtx L1) ∧ w'.cell? ⟨(w4.heap.size + 1), 1, none⟩ = some (rtx L2) ∧ w'.cell? ⟨w4.heap.size, 0, none⟩ = some (rtx M1) ∧ w'.cell? ⟨w4.heap.size, 1, none⟩ = some (rtx M2))) (by kernel_rfl) (by exact ⟨n0, n1, n2, n3⟩) (fun hHeld => ?_)
            refine wpAnyH_take (i := 0) (oi := { dst := some 155, op := Go.Op.load 26 (Go.Operand.tmp 26), type := 26, pos := "sturm.go:235", after := #[], guard := none }) (v := ?_) rfl (by kernel_rfl) (by kernel_rfl) (by kernel_rfl) (fun _ _ _ h => h) (Or.inl ⟨by rfl, ?_⟩) hHeld ?_
            rotate_left
            · intro w' hSw; (try dsimp only at hSw); go_simp; (try with_reducible rfl)
            try simp only [Act.put, List.setIfInBounds_toArray, List.set_cons_zero, List.set_cons_succ]
            refine wpAnyH_take (i := 1) (oi := { dst := some 156, op := Go.Op.load 26 (Go.Operand.tmp 27), type := 26, pos := "sturm.go:235", after := #[{ on := 2, ground := Go.Ground.gcOnly Go.Departure.lateStores }], guard := none }) (v := ?_) rfl (by kernel_rfl) (by kernel_rfl) (by kernel_rfl) (fun _ _ _ h => h) (Or.inl ⟨by rfl, ?_⟩) hHeld ?_
            rotate_left
            · intro w' hSw; (try dsimp only at hSw); go_simp; (try with_reducible rfl)
            try simp only [Act.put, List.setIfInBounds_toArray, List.set_cons_zero, List.set_cons_succ]
            refine wpAnyH_ready (rs := [2]) (by kernel_rfl) (by simp) ?_
            refine AllReadyH.cons (o := { dst := none, op := Go.Op.store 26 (Go.Operand.tmp 6) (Go.Operand.tmp 155), type := 0, pos := "sturm.go:235", after := #[{ on := 0, ground := Go.Ground.data }, { on := 0, ground := Go.Ground.phase }, { on := 1, ground := Go.Ground.textOnly Go.Departure.lateStores }], guard := none }) rfl (fun K hK => ?_) AllReadyH.nil
            go_simp
            refine hK.out _ _ (by (try dsimp only); (repeat' apply And.intro) <;> (first | (rw [cell_drew2, neC (by omega), neC (by omega), neC (by omega), neC (by omega)]; with_reducible assumption) | (rw [cell_drew2, neC (by omega), neC (by omega)]; with_reducible assumption))) (fun hHeld2 => ?_)
            clear hK K hHeld
            have hHeld := hHeld2
            clear hHeld2
            try simp only [Act.put, List.setIfInBounds_toArray, List.set_cons_zero, List.set_cons_succ]
            refine wpAnyH_ready (rs := [3]) (by kernel_rfl) (by simp) ?_
            refine AllReadyH.cons (o := { dst := none, op := Go.Op.store 26 (Go.Operand.tmp 7) (Go.Operand.tmp 156), type := 0, pos := "sturm.go:235", after := #[{ on := 1, ground := Go.Ground.data }, { on := 2, ground := Go.Ground.chain }, { on := 0, ground := Go.Ground.phase }, { on := 1, ground := Go.Ground.phase }, { on := 2, ground := Go.Ground.phase }], guard := none }) rfl (fun K hK => ?_) AllReadyH.nil
            go_simp
            refine hK.out _ _ (by (try dsimp only); (repeat' apply And.intro) <;> (first | (rw [cell_drew2, neC (by omega), neC (by omega), neC (by omega), neC (by omega)]; with_reducible assumption) | (rw [cell_drew2, neC (by omega), neC (by omega)]; with_reducible assumption))) (fun hHeld2 => ?_)
            clear hK K hHeld
            have hHeld := hHeld2
            clear hHeld2
            try simp only [Act.put, List.setIfInBounds_toArray, List.set_cons_zero, List.set_cons_succ]
            refine wpAnyH_take (i := 4) (oi := { dst := some 8, op := Go.Op.assign (Go.Operand.const (Go.Value.int Go.IntKind.i64 0)), type := 29, pos := "sturm.go:235", after := #[{ on := 3, ground := Go.Ground.chain }, { on := 0, ground := Go.Ground.phase }, { on := 1, ground := Go.Ground.phase }, { on := 2, ground := Go.Ground.phase }, { on := 3, ground := Go.Ground.phase }], guard := none }) (v := ?_) rfl (by kernel_rfl) (by kernel_rfl) (by kernel_rfl) (fun _ _ _ h => h) (Or.inl ⟨by rfl, ?_⟩) hHeld ?_
            rotate_left
            · intro w' hSw; (try dsimp only at hSw); go_simp; (try with_reducible rfl)
            try simp only [Act.put, List.setIfInBounds_toArray, List.set_cons_zero, List.set_cons_succ]
            refine wpAnyH_done (by kernel_rfl) ?_ _
            all_goals
              clear hHeld
              go_wp2_with fail
              obtain ⟨d0, d1, d2, d3⟩ := setII X6 X7 hg67 (rtx L1) (rtx L2) (rtx M1) (rtx M2)
              rw [hR.out]
              refine bodyPost_ret (v := .tuple #[.agg #[rtx L1, rtx L2], .agg #[rtx M1, rtx M2], .int .i64 0]) ?_ rfl ⟨rfl, (ext_setII (g := w.heap.size + 1) (h := w.heap.size + 1 + 1) E9 hgo1 hgo2 _ _ _ _).dr⟩
              simp [results, Tryz.f25, go_sem, d0, d1, d2, d3]
          · have hjl : j < ([(F2, F2)]).length := by omega
            obtain ⟨y, hy⟩ : ∃ y, ([(F2, F2)])[j]? = some y := ⟨_, List.getElem?_eq_getElem hjl⟩
            have hby := HBd.out y (List.mem_cons_of_mem _ (List.mem_of_getElem? hy))
            have HSn : Hid (exStep ((L1, L2), (M1, M2)) y = (([(F2, F2)]).take (j + 1)).foldl exStep ((F1, F1), (F1, F1))) := by
              have e : ([(F2, F2)]).take (j + 1) = ([(F2, F2)]).take j ++ [y] := by
                rw [List.take_add_one, hy]; rfl
              unfold Hid
              rw [e, List.foldl_append, ← HS.out]; rfl
            have HBn := Lib.hid (HBs.out.step hby)
            obtain ⟨e0, e1⟩ := HCells.out (j + 1) y hy
            have e0 := HE.out.cell e0
            have e1 := HE.out.cell e1
            have hm1 : 2 * (j + 1) = 2 + j * 2 := by omega
            rw [hm1] at e0 e1
            obtain ⟨Y1, Y2⟩ := y
            dsimp only at e0 e1 hby
            obtain ⟨b1, hb1⟩ : ∃ b, decide (Y1 < L1) = b := ⟨_, rfl⟩
            obtain ⟨b2, hb2⟩ : ∃ b, decide (Y2 < L2) = b := ⟨_, rfl⟩
            obtain ⟨b3, hb3⟩ : ∃ b, decide (M1 < Y1) = b := ⟨_, rfl⟩
            obtain ⟨b4, hb4⟩ : ∃ b, decide (M2 < Y2) = b := ⟨_, rfl⟩
            have HNx : Hid (exStep ((L1, L2), (M1, M2)) (Y1, Y2) = ((if b1 then Y1 else L1, if b2 then Y2 else L2), (if b3 then Y1 else M1, if b4 then Y2 else M2))) := by
              rw [← hb1, ← hb2, ← hb3, ← hb4]; simp only [exStep, decide_eq_true_eq, Hid]
            have HL1 : Hid (∀ W, Ext w4 W → Calls Tryz.prog 53 #[rtx Y1, rtx L1] W fun e w' => e = .returned (.bool b1) ∧ Ext W w') := fun W hE => by rw [← hb1]; exact HL.out W _ _ (HB4.out.e.tr hE) hby.1 HBs.out.1.1
            have HL2 : Hid (∀ W, Ext w4 W → Calls Tryz.prog 53 #[rtx Y2, rtx L2] W fun e w' => e = .returned (.bool b2) ∧ Ext W w') := fun W hE => by rw [← hb2]; exact HL.out W _ _ (HB4.out.e.tr hE) hby.2 HBs.out.1.2
            have HL3 : Hid (∀ W, Ext w4 W → Calls Tryz.prog 53 #[rtx M1, rtx Y1] W fun e w' => e = .returned (.bool b3) ∧ Ext W w') := fun W hE => by rw [← hb3]; exact HL.out W _ _ (HB4.out.e.tr hE) HBs.out.2.1 hby.1
            have HL4 : Hid (∀ W, Ext w4 W → Calls Tryz.prog 53 #[rtx M2, rtx Y2] W fun e w' => e = .returned (.bool b4) ∧ Ext W w') := fun W hE => by rw [← hb4]; exact HL.out W _ _ (HB4.out.e.tr hE) HBs.out.2.2 hby.2
            rw [HNx.out] at HSn HBn
            have hjn : (j : Int) < (nA : Int) - 1 := by omega
            have hjn2 : j + 1 < nA := by omega
            have zw : IntKind.i64.wrap ((j : Int) + 1) = (j : Int) + 1 := by rw [IntKind.wrap_i64]; omega
            have h29a : (w4.heap.size + 1) ≠ wr.heap.size := by have := HM1.out.lt; omega
            have h29b : w4.heap.size ≠ wr.heap.size := by have := HM2.out.lt; omega
            have hlt1 : (w4.heap.size + 1) < wr.heap.size := HM1.out.lt
            have a0 : (wr.alloc (.cells #[rtx Y1, rtx Y2] 26)).cell? ⟨(w4.heap.size + 1), 0, none⟩ = some (rtx L1) := (HM1.out.al (.cells #[rtx Y1, rtx Y2] 26)).c0
            clear hby hy HNx HS HBs hb1 hb2 hb3 hb4 HCells HBd hje hjl
            go_wp2_with fail
            have HX29 := Lib.hid (Bx.new wr #[rtx Y1, rtx Y2] 26)
            replace HM1 := Bx.hext HM1 ((Ext.rfl' wr).al (.cells #[rtx Y1, rtx Y2] 26))
            replace HM2 := Bx.hext HM2 ((Ext.rfl' wr).al (.cells #[rtx Y1, rtx Y2] 26))
            replace HE := Lib.hid (HE.out.al (.cells #[rtx Y1, rtx Y2] 26))
            clear e0 e1 a0
            generalize wr.heap.size = g29 at *
            generalize wr.alloc (.cells #[rtx Y1, rtx Y2] 26) = W10 at *
            refine (HL1.out _ HE.out).mono ?_
            rintro e w20 ⟨rfl, hE⟩
            replace HX29 := Bx.hext HX29 hE
            replace HM1 := Bx.hext HM1 hE
            replace HM2 := Bx.hext HM2 hE
            replace HE := Lib.hid (HE.out.tr hE)
            clear hE HL1
            cases b1
            · skip
              have s0 : w20.cell? ⟨g29, 1, none⟩ = some (rtx Y2) := HX29.out.c 1
              have s1 : w20.cell? ⟨(w4.heap.size + 1), 1, none⟩ = some (rtx L2) := HM1.out.c 1
              go_wp2_with fail
              clear s0 s1
              refine (HL2.out _ HE.out).mono ?_
              rintro e w21 ⟨rfl, hE⟩
              replace HX29 := Bx.hext HX29 hE
              replace HM1 := Bx.hext HM1 hE
              replace HM2 := Bx.hext HM2 hE
              replace HE := Lib.hid (HE.out.tr hE)
              clear hE HL2
              cases b2
              · skip
                have s0 : w21.cell? ⟨g29, 0, none⟩ = some (rtx Y1) := HX29.out.c 0
                have s1 : w21.cell? ⟨w4.heap.size, 0, none⟩ = some (rtx M1) := HM2.out.c 0
                go_wp2_with fail
                clear s0 s1
                refine (HL3.out _ HE.out).mono ?_
                rintro e w22 ⟨rfl, hE⟩
                replace HX29 := Bx.hext HX29 hE
                replace HM1 := Bx.hext HM1 hE
                replace HM2 := Bx.hext HM2 hE
                replace HE := Lib.hid (HE.out.tr hE)
                clear hE HL3
                cases b3
                · skip
                  have s0 : w22.cell? ⟨g29, 1, none⟩ = some (rtx Y2) := HX29.out.c 1
                  have s1 : w22.cell? ⟨w4.heap.size, 1, none⟩ = some (rtx M2) := HM2.out.c 1
                  go_wp2_with fail
                  clear s0 s1
                  refine (HL4.out _ HE.out).mono ?_
                  rintro e w23 ⟨rfl, hE⟩
                  replace HX29 := Bx.hext HX29 hE
                  replace HM1 := Bx.hext HM1 hE
                  replace HM2 := Bx.hext HM2 hE
                  replace HE := Lib.hid (HE.out.tr hE)
                  clear hE HL4
                  cases b4
                  · skip
                    go_wp2_with fail
                    go_roundw
                    case rel => exact ⟨j + 1, ((L1, L2), (M1, M2)), by omega, by go_num, HM1, HM2, HSn, HBn, HE⟩
                    case measure => simp [intOf]; omega
                  · skip
                    have t0 : w23.cell? ⟨g29, 1, none⟩ = some (rtx Y2) := HX29.out.c 1
                    have t1 := HM2.out.c 1
                    have t2 := HM2.out.f 1
                    replace HX29 := Lib.hid (HX29.out.set (p := ⟨w4.heap.size, 1, none⟩) (Ne.symm h29b) (rtx Y2))
                    replace HM1 := Lib.hid (HM1.out.set (p := ⟨w4.heap.size, 1, none⟩) hn3 (rtx Y2))
                    replace HM2 := Lib.hid (HM2.out.put 1 (rtx Y2))
                    replace HE := Lib.hid (ext_set1 HE.out hn2 1 (rtx Y2))
                    go_wp2_with fail
                    clear t0 t1 t2
                    go_roundw
                    case rel => exact ⟨j + 1, ((L1, L2), (M1, Y2)), by omega, by go_num, HM1, HM2, HSn, HBn, HE⟩
                    case measure => simp [intOf]; omega
                · skip
                  have t0 : w22.cell? ⟨g29, 0, none⟩ = some (rtx Y1) := HX29.out.c 0
                  have t1 := HM2.out.c 0
                  have t2 := HM2.out.f 0
                  replace HX29 := Lib.hid (HX29.out.set (p := ⟨w4.heap.size, 0, none⟩) (Ne.symm h29b) (rtx Y1))
                  replace HM1 := Lib.hid (HM1.out.set (p := ⟨w4.heap.size, 0, none⟩) hn3 (rtx Y1))
                  replace HM2 := Lib.hid (HM2.out.put 0 (rtx Y1))
                  replace HE := Lib.hid (ext_set1 HE.out hn2 0 (rtx Y1))
                  have s0 : (w22.setCell ⟨w4.heap.size, 0, none⟩ (rtx Y1)).cell? ⟨g29, 1, none⟩ = some (rtx Y2) := HX29.out.c 1
                  have s1 : (w22.setCell ⟨w4.heap.size, 0, none⟩ (rtx Y1)).cell? ⟨w4.heap.size, 1, none⟩ = some (rtx M2) := HM2.out.c 1
                  go_wp2_with fail
                  clear s0 s1 t0 t1 t2
                  refine (HL4.out _ HE.out).mono ?_
                  rintro e w23 ⟨rfl, hE⟩
                  replace HX29 := Bx.hext HX29 hE
                  replace HM1 := Bx.hext HM1 hE
                  replace HM2 := Bx.hext HM2 hE
                  replace HE := Lib.hid (HE.out.tr hE)
                  clear hE HL4
                  cases b4
                  · skip
                    go_wp2_with fail
                    go_roundw
                    case rel => exact ⟨j + 1, ((L1, L2), (Y1, M2)), by omega, by go_num, HM1, HM2, HSn, HBn, HE⟩
                    case measure => simp [intOf]; omega
                  · skip
                    have t0 : w23.cell? ⟨g29, 1, none⟩ = some (rtx Y2) := HX29.out.c 1
                    have t1 := HM2.out.c 1
                    have t2 := HM2.out.f 1
                    replace HX29 := Lib.hid (HX29.out.set (p := ⟨w4.heap.size, 1, none⟩) (Ne.symm h29b) (rtx Y2))
                    replace HM1 := Lib.hid (HM1.out.set (p := ⟨w4.heap.size, 1, none⟩) hn3 (rtx Y2))
                    replace HM2 := Lib.hid (HM2.out.put 1 (rtx Y2))
                    replace HE := Lib.hid (ext_set1 HE.out hn2 1 (rtx Y2))
                    go_wp2_with fail
                    clear t0 t1 t2
                    go_roundw
                    case rel => exact ⟨j + 1, ((L1, L2), (Y1, Y2)), by omega, by go_num, HM1, HM2, HSn, HBn, HE⟩
                    case measure => simp [intOf]; omega
              · skip
                have t0 : w21.cell? ⟨g29, 1, none⟩ = some (rtx Y2) := HX29.out.c 1
                have t1 := HM1.out.c 1
                have t2 := HM1.out.f 1
                replace HX29 := Lib.hid (HX29.out.set (p := ⟨(w4.heap.size + 1), 1, none⟩) (Ne.symm h29a) (rtx Y2))
                replace HM2 := Lib.hid (HM2.out.set (p := ⟨(w4.heap.size + 1), 1, none⟩) hn4 (rtx Y2))
                replace HM1 := Lib.hid (HM1.out.put 1 (rtx Y2))
                replace HE := Lib.hid (ext_set1 HE.out hn1 1 (rtx Y2))
                have s0 : (w21.setCell ⟨(w4.heap.size + 1), 1, none⟩ (rtx Y2)).cell? ⟨g29, 0, none⟩ = some (rtx Y1) := HX29.out.c 0
                have s1 : (w21.setCell ⟨(w4.heap.size + 1), 1, none⟩ (rtx Y2)).cell? ⟨w4.heap.size, 0, none⟩ = some (rtx M1) := HM2.out.c 0
                go_wp2_with fail
                clear s0 s1 t0 t1 t2
                refine (HL3.out _ HE.out).mono ?_
                rintro e w22 ⟨rfl, hE⟩
                replace HX29 := Bx.hext HX29 hE
                replace HM1 := Bx.hext HM1 hE
                replace HM2 := Bx.hext HM2 hE
                replace HE := Lib.hid (HE.out.tr hE)
                clear hE HL3
                cases b3
                · skip
                  have s0 : w22.cell? ⟨g29, 1, none⟩ = some (rtx Y2) := HX29.out.c 1
                  have s1 : w22.cell? ⟨w4.heap.size, 1, none⟩ = some (rtx M2) := HM2.out.c 1
                  go_wp2_with fail
                  clear s0 s1
                  refine (HL4.out _ HE.out).mono ?_
                  rintro e w23 ⟨rfl, hE⟩
                  replace HX29 := Bx.hext HX29 hE
                  replace HM1 := Bx.hext HM1 hE
                  replace HM2 := Bx.hext HM2 hE
                  replace HE := Lib.hid (HE.out.tr hE)
                  clear hE HL4
                  cases b4
                  · skip
                    go_wp2_with fail
                    go_roundw
                    case rel => exact ⟨j + 1, ((L1, Y2), (M1, M2)), by omega, by go_num, HM1, HM2, HSn, HBn, HE⟩
                    case measure => simp [intOf]; omega
                  · skip
                    have t0 : w23.cell? ⟨g29, 1, none⟩ = some (rtx Y2) := HX29.out.c 1
                    have t1 := HM2.out.c 1
                    have t2 := HM2.out.f 1
                    replace HX29 := Lib.hid (HX29.out.set (p := ⟨w4.heap.size, 1, none⟩) (Ne.symm h29b) (rtx Y2))
                    replace HM1 := Lib.hid (HM1.out.set (p := ⟨w4.heap.size, 1, none⟩) hn3 (rtx Y2))
                    replace HM2 := Lib.hid (HM2.out.put 1 (rtx Y2))
                    replace HE := Lib.hid (ext_set1 HE.out hn2 1 (rtx Y2))
                    go_wp2_with fail
                    clear t0 t1 t2
                    go_roundw
                    case rel => exact ⟨j + 1, ((L1, Y2), (M1, Y2)), by omega, by go_num, HM1, HM2, HSn, HBn, HE⟩
                    case measure => simp [intOf]; omega
                · skip
                  have t0 : w22.cell? ⟨g29, 0, none⟩ = some (rtx Y1) := HX29.out.c 0
                  have t1 := HM2.out.c 0
                  have t2 := HM2.out.f 0
                  replace HX29 := Lib.hid (HX29.out.set (p := ⟨w4.heap.size, 0, none⟩) (Ne.symm h29b) (rtx Y1))
                  replace HM1 := Lib.hid (HM1.out.set (p := ⟨w4.heap.size, 0, none⟩) hn3 (rtx Y1))
                  replace HM2 := Lib.hid (HM2.out.put 0 (rtx Y1))
                  replace HE := Lib.hid (ext_set1 HE.out hn2 0 (rtx Y1))
                  have s0 : (w22.setCell ⟨w4.heap.size, 0, none⟩ (rtx Y1)).cell? ⟨g29, 1, none⟩ = some (rtx Y2) := HX29.out.c 1
                  have s1 : (w22.setCell ⟨w4.heap.size, 0, none⟩ (rtx Y1)).cell? ⟨w4.heap.size, 1, none⟩ = some (rtx M2) := HM2.out.c 1
                  go_wp2_with fail
                  clear s0 s1 t0 t1 t2
                  refine (HL4.out _ HE.out).mono ?_
                  rintro e w23 ⟨rfl, hE⟩
                  replace HX29 := Bx.hext HX29 hE
                  replace HM1 := Bx.hext HM1 hE
                  replace HM2 := Bx.hext HM2 hE
                  replace HE := Lib.hid (HE.out.tr hE)
                  clear hE HL4
                  cases b4
                  · skip
                    go_wp2_with fail
                    go_roundw
                    case rel => exact ⟨j + 1, ((L1, Y2), (Y1, M2)), by omega, by go_num, HM1, HM2, HSn, HBn, HE⟩
                    case measure => simp [intOf]; omega
                  · skip
                    have t0 : w23.cell? ⟨g29, 1, none⟩ = some (rtx Y2) := HX29.out.c 1
                    have t1 := HM2.out.c 1
                    have t2 := HM2.out.f 1
                    replace HX29 := Lib.hid (HX29.out.set (p := ⟨w4.heap.size, 1, none⟩) (Ne.symm h29b) (rtx Y2))
                    replace HM1 := Lib.hid (HM1.out.set (p := ⟨w4.heap.size, 1, none⟩) hn3 (rtx Y2))
                    replace HM2 := Lib.hid (HM2.out.put 1 (rtx Y2))
                    replace HE := Lib.hid (ext_set1 HE.out hn2 1 (rtx Y2))
                    go_wp2_with fail
                    clear t0 t1 t2
                    go_roundw
                    case rel => exact ⟨j + 1, ((L1, Y2), (Y1, Y2)), by omega, by go_num, HM1, HM2, HSn, HBn, HE⟩
                    case measure => simp [intOf]; omega
            · skip
              have t0 : w20.cell? ⟨g29, 0, none⟩ = some (rtx Y1) := HX29.out.c 0
              have t1 := HM1.out.c 0
              have t2 := HM1.out.f 0
              replace HX29 := Lib.hid (HX29.out.set (p := ⟨(w4.heap.size + 1), 0, none⟩) (Ne.symm h29a) (rtx Y1))
              replace HM2 := Lib.hid (HM2.out.set (p := ⟨(w4.heap.size + 1), 0, none⟩) hn4 (rtx Y1))
              replace HM1 := Lib.hid (HM1.out.put 0 (rtx Y1))
              replace HE := Lib.hid (ext_set1 HE.out hn1 0 (rtx Y1))
              have s0 : (w20.setCell ⟨(w4.heap.size + 1), 0, none⟩ (rtx Y1)).cell? ⟨g29, 1, none⟩ = some (rtx Y2) := HX29.out.c 1
              have s1 : (w20.setCell ⟨(w4.heap.size + 1), 0, none⟩ (rtx Y1)).cell? ⟨(w4.heap.size + 1), 1, none⟩ = some (rtx L2) := HM1.out.c 1
              go_wp2_with fail
              clear s0 s1 t0 t1 t2
              refine (HL2.out _ HE.out).mono ?_
              rintro e w21 ⟨rfl, hE⟩
              replace HX29 := Bx.hext HX29 hE
              replace HM1 := Bx.hext HM1 hE
              replace HM2 := Bx.hext HM2 hE
              replace HE := Lib.hid (HE.out.tr hE)
              clear hE HL2
              cases b2
              · skip
                have s0 : w21.cell? ⟨g29, 0, none⟩ = some (rtx Y1) := HX29.out.c 0
                have s1 : w21.cell? ⟨w4.heap.size, 0, none⟩ = some (rtx M1) := HM2.out.c 0
                go_wp2_with fail
                clear s0 s1
                refine (HL3.out _ HE.out).mono ?_
                rintro e w22 ⟨rfl, hE⟩
                replace HX29 := Bx.hext HX29 hE
                replace HM1 := Bx.hext HM1 hE
                replace HM2 := Bx.hext HM2 hE
                replace HE := Lib.hid (HE.out.tr hE)
                clear hE HL3
                cases b3
                · skip
                  have s0 : w22.cell? ⟨g29, 1, none⟩ = some (rtx Y2) := HX29.out.c 1
                  have s1 : w22.cell? ⟨w4.heap.size, 1, none⟩ = some (rtx M2) := HM2.out.c 1
                  go_wp2_with fail
                  clear s0 s1
                  refine (HL4.out _ HE.out).mono ?_
                  rintro e w23 ⟨rfl, hE⟩
                  replace HX29 := Bx.hext HX29 hE
                  replace HM1 := Bx.hext HM1 hE
                  replace HM2 := Bx.hext HM2 hE
                  replace HE := Lib.hid (HE.out.tr hE)
                  clear hE HL4
                  cases b4
                  · skip
                    go_wp2_with fail
                    go_roundw
                    case rel => exact ⟨j + 1, ((Y1, L2), (M1, M2)), by omega, by go_num, HM1, HM2, HSn, HBn, HE⟩
                    case measure => simp [intOf]; omega
                  · skip
                    have t0 : w23.cell? ⟨g29, 1, none⟩ = some (rtx Y2) := HX29.out.c 1
                    have t1 := HM2.out.c 1
                    have t2 := HM2.out.f 1
                    replace HX29 := Lib.hid (HX29.out.set (p := ⟨w4.heap.size, 1, none⟩) (Ne.symm h29b) (rtx Y2))
                    replace HM1 := Lib.hid (HM1.out.set (p := ⟨w4.heap.size, 1, none⟩) hn3 (rtx Y2))
                    replace HM2 := Lib.hid (HM2.out.put 1 (rtx Y2))
                    replace HE := Lib.hid (ext_set1 HE.out hn2 1 (rtx Y2))
                    go_wp2_with fail
                    clear t0 t1 t2
                    go_roundw
                    case rel => exact ⟨j + 1, ((Y1, L2), (M1, Y2)), by omega, by go_num, HM1, HM2, HSn, HBn, HE⟩
                    case measure => simp [intOf]; omega
                · skip
                  have t0 : w22.cell? ⟨g29, 0, none⟩ = some (rtx Y1) := HX29.out.c 0
                  have t1 := HM2.out.c 0
                  have t2 := HM2.out.f 0
                  replace HX29 := Lib.hid (HX29.out.set (p := ⟨w4.heap.size, 0, none⟩) (Ne.symm h29b) (rtx Y1))
                  replace HM1 := Lib.hid (HM1.out.set (p := ⟨w4.heap.size, 0, none⟩) hn3 (rtx Y1))
                  replace HM2 := Lib.hid (HM2.out.put 0 (rtx Y1))
                  replace HE := Lib.hid (ext_set1 HE.out hn2 0 (rtx Y1))
                  have s0 : (w22.setCell ⟨w4.heap.size, 0, none⟩ (rtx Y1)).cell? ⟨g29, 1, none⟩ = some (rtx Y2) := HX29.out.c 1
                  have s1 : (w22.setCell ⟨w4.heap.size, 0, none⟩ (rtx Y1)).cell? ⟨w4.heap.size, 1, none⟩ = some (rtx M2) := HM2.out.c 1
                  go_wp2_with fail
                  clear s0 s1 t0 t1 t2
                  refine (HL4.out _ HE.out).mono ?_
                  rintro e w23 ⟨rfl, hE⟩
                  replace HX29 := Bx.hext HX29 hE
                  replace HM1 := Bx.hext HM1 hE
                  replace HM2 := Bx.hext HM2 hE
                  replace HE := Lib.hid (HE.out.tr hE)
                  clear hE HL4
                  cases b4
                  · skip
                    go_wp2_with fail
                    go_roundw
                    case rel => exact ⟨j + 1, ((Y1, L2), (Y1, M2)), by omega, by go_num, HM1, HM2, HSn, HBn, HE⟩
                    case measure => simp [intOf]; omega
                  · skip
                    have t0 : w23.cell? ⟨g29, 1, none⟩ = some (rtx Y2) := HX29.out.c 1
                    have t1 := HM2.out.c 1
                    have t2 := HM2.out.f 1
                    replace HX29 := Lib.hid (HX29.out.set (p := ⟨w4.heap.size, 1, none⟩) (Ne.symm h29b) (rtx Y2))
                    replace HM1 := Lib.hid (HM1.out.set (p := ⟨w4.heap.size, 1, none⟩) hn3 (rtx Y2))
                    replace HM2 := Lib.hid (HM2.out.put 1 (rtx Y2))
                    replace HE := Lib.hid (ext_set1 HE.out hn2 1 (rtx Y2))
                    go_wp2_with fail
                    clear t0 t1 t2
                    go_roundw
                    case rel => exact ⟨j + 1, ((Y1, L2), (Y1, Y2)), by omega, by go_num, HM1, HM2, HSn, HBn, HE⟩
                    case measure => simp [intOf]; omega
              · skip
                have t0 : w21.cell? ⟨g29, 1, none⟩ = some (rtx Y2) := HX29.out.c 1
                have t1 := HM1.out.c 1
                have t2 := HM1.out.f 1
                replace HX29 := Lib.hid (HX29.out.set (p := ⟨(w4.heap.size + 1), 1, none⟩) (Ne.symm h29a) (rtx Y2))
                replace HM2 := Lib.hid (HM2.out.set (p := ⟨(w4.heap.size + 1), 1, none⟩) hn4 (rtx Y2))
                replace HM1 := Lib.hid (HM1.out.put 1 (rtx Y2))
                replace HE := Lib.hid (ext_set1 HE.out hn1 1 (rtx Y2))
                have s0 : (w21.setCell ⟨(w4.heap.size + 1), 1, none⟩ (rtx Y2)).cell? ⟨g29, 0, none⟩ = some (rtx Y1) := HX29.out.c 0
                have s1 : (w21.setCell ⟨(w4.heap.size + 1), 1, none⟩ (rtx Y2)).cell? ⟨w4.heap.size, 0, none⟩ = some (rtx M1) := HM2.out.c 0
                go_wp2_with fail
                clear s0 s1 t0 t1 t2
                refine (HL3.out _ HE.out).mono ?_
                rintro e w22 ⟨rfl, hE⟩
                replace HX29 := Bx.hext HX29 hE
                replace HM1 := Bx.hext HM1 hE
                replace HM2 := Bx.hext HM2 hE
                replace HE := Lib.hid (HE.out.tr hE)
                clear hE HL3
                cases b3
                · skip
                  have s0 : w22.cell? ⟨g29, 1, none⟩ = some (rtx Y2) := HX29.out.c 1
                  have s1 : w22.cell? ⟨w4.heap.size, 1, none⟩ = some (rtx M2) := HM2.out.c 1
                  go_wp2_with fail
                  clear s0 s1
                  refine (HL4.out _ HE.out).mono ?_
                  rintro e w23 ⟨rfl, hE⟩
                  replace HX29 := Bx.hext HX29 hE
                  replace HM1 := Bx.hext HM1 hE
                  replace HM2 := Bx.hext HM2 hE
                  replace HE := Lib.hid (HE.out.tr hE)
                  clear hE HL4
                  cases b4
                  · skip
                    go_wp2_with fail
                    go_roundw
                    case rel => exact ⟨j + 1, ((Y1, Y2), (M1, M2)), by omega, by go_num, HM1, HM2, HSn, HBn, HE⟩
                    case measure => simp [intOf]; omega
                  · skip
                    have t0 : w23.cell? ⟨g29, 1, none⟩ = some (rtx Y2) := HX29.out.c 1
                    have t1 := HM2.out.c 1
                    have t2 := HM2.out.f 1
                    replace HX29 := Lib.hid (HX29.out.set (p := ⟨w4.heap.size, 1, none⟩) (Ne.symm h29b) (rtx Y2))
                    replace HM1 := Lib.hid (HM1.out.set (p := ⟨w4.heap.size, 1, none⟩) hn3 (rtx Y2))
                    replace HM2 := Lib.hid (HM2.out.put 1 (rtx Y2))
                    replace HE := Lib.hid (ext_set1 HE.out hn2 1 (rtx Y2))
                    go_wp2_with fail
                    clear t0 t1 t2
                    go_roundw
                    case rel => exact ⟨j + 1, ((Y1, Y2), (M1, Y2)), by omega, by go_num, HM1, HM2, HSn, HBn, HE⟩
                    case measure => simp [intOf]; omega
                · skip
                  have t0 : w22.cell? ⟨g29, 0, none⟩ = some (rtx Y1) := HX29.out.c 0
                  have t1 := HM2.out.c 0
                  have t2 := HM2.out.f 0
                  replace HX29 := Lib.hid (HX29.out.set (p := ⟨w4.heap.size, 0, none⟩) (Ne.symm h29b) (rtx Y1))
                  replace HM1 := Lib.hid (HM1.out.set (p := ⟨w4.heap.size, 0, none⟩) hn3 (rtx Y1))
                  replace HM2 := Lib.hid (HM2.out.put 0 (rtx Y1))
                  replace HE := Lib.hid (ext_set1 HE.out hn2 0 (rtx Y1))
                  have s0 : (w22.setCell ⟨w4.heap.size, 0, none⟩ (rtx Y1)).cell? ⟨g29, 1, none⟩ = some (rtx Y2) := HX29.out.c 1
                  have s1 : (w22.setCell ⟨w4.heap.size, 0, none⟩ (rtx Y1)).cell? ⟨w4.heap.size, 1, none⟩ = some (rtx M2) := HM2.out.c 1
                  go_wp2_with fail
                  clear s0 s1 t0 t1 t2
                  refine (HL4.out _ HE.out).mono ?_
                  rintro e w23 ⟨rfl, hE⟩
                  replace HX29 := Bx.hext HX29 hE
                  replace HM1 := Bx.hext HM1 hE
                  replace HM2 := Bx.hext HM2 hE
                  replace HE := Lib.hid (HE.out.tr hE)
                  clear hE HL4
                  cases b4
                  · skip
                    go_wp2_with fail
                    go_roundw
                    case rel => exact ⟨j + 1, ((Y1, Y2), (Y1, M2)), by omega, by go_num, HM1, HM2, HSn, HBn, HE⟩
                    case measure => simp [intOf]; omega
                  · skip
                    have t0 : w23.cell? ⟨g29, 1, none⟩ = some (rtx Y2) := HX29.out.c 1
                    have t1 := HM2.out.c 1
                    have t2 := HM2.out.f 1
                    replace HX29 := Lib.hid (HX29.out.set (p := ⟨w4.heap.size, 1, none⟩) (Ne.symm h29b) (rtx Y2))
                    replace HM1 := Lib.hid (HM1.out.set (p := ⟨w4.heap.size, 1, none⟩) hn3 (rtx Y2))
                    replace HM2 := Lib.hid (HM2.out.put 1 (rtx Y2))
                    replace HE := Lib.hid (ext_set1 HE.out hn2 1 (rtx Y2))
                    go_wp2_with fail
                    clear t0 t1 t2
                    go_roundw
                    case rel => exact ⟨j + 1, ((Y1, Y2), (Y1, Y2)), by omega, by go_num, HM1, HM2, HSn, HBn, HE⟩
                    case measure => simp [intOf]; omega

end Go.Proofs.YtadimepmoljnpaaGreatDoor.GB
