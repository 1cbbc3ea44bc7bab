import Derived.Test.YtbldlibijojbjaaGreatDoorCJf
namespace Go.Proofs.YtbldlibijojbjaaGreatDoor.GB
set_option linter.unusedVariables false
set_option linter.unusedSimpArgs false
open Go.RowKit Go.Shelf
attribute [local go_sem ↓] Go.wp_at_zero Go.wp_at_succ
theorem OwnQ.one {w0 : World} {base : Nat} {t : V3} {q : Rat} (hb : base ≤ w0.heap.size) (h : QV w0 (.agg #[t.1, t.2.1, t.2.2]) q) : OwnQ (w0.alloc (.cells #[t.1, t.2.1, t.2.2] 86)) base (.slice (some ⟨w0.heap.size, 0, none⟩) 1 1) [t] [q] := by
  refine ⟨⟨rfl, .inr ⟨w0.heap.size, 1, #[t.1, t.2.1, t.2.2], rfl, hb, World.alloc_heap_new w0 _, Nat.le_refl _, by simp [maxLen], rfl, rfl⟩⟩, rfl, fun j hj => ?_⟩
  have : j = 0 := by simp at hj; omega
  subst this
  exact h.ext ((Ext.rfl' w0).al _)
set_option maxHeartbeats 8000000 in
set_option maxRecDepth 200000 in
theorem q8Area_v (v1 : Value) (p : Pl) (n : Nat) (w : World) (h1 : PQ w v1 p) (hp : PB p n) (l1 : p.length ≤ 500) (hk : n + 60 ≤ KK) :
    Calls Tryz.prog 77 #[v1] w (RetPQ (ptrim (pint p)) w) := by
  obtain ⟨i0, hi, hz0, hz1, hz2⟩ := info_parts Tryz.infoQ
  obtain ⟨A, ca, rfl⟩ := h1.slc
  obtain ⟨lp, hlp⟩ : ∃ k, p.length = k := ⟨_, rfl⟩
  rw [hlp] at h1 l1 ⊢
  have HLN := Lib.hid hlp
  have HR := Lib.hid h1.rd.2.2.2
  have HC : Hid (∀ k W, k < lp → Calls Tryz.prog 118 #[.int .i64 1, .int .i64 ((k : Int) + 1)] W (RetQ3 (mkRat 1 (k + 1)) W)) := fun k W hk => q3Frac_any 1 (k + 1) W (by omega) (by omega) (by omega) (by omega)
  have HS : Hid (∀ k W u v, k < lp → QV W u (cf p k) → QV W v (mkRat 1 (k + 1)) → Calls Tryz.prog 115 #[u, v] W (RetQ3 (cf p k * (mkRat 1 (k + 1))) W)) := fun k W u v hkl hu hv => q3Mul_v u v _ _ n 40 W hu hv (hp.cf k) (bd_frac k (by omega)) (by omega)
  have HEnd : Hid (ptrim (0 :: (List.range lp).map fun j => cf p j * (mkRat 1 (j + 1))) = ptrim (pint p)) := by unfold Hid; rw [← hlp]; exact area_eq p
  have HI0 : Hid (∀ W, Calls Tryz.prog 97 #[.int .i64 0] W (RetQ3 0 W)) := fun W => q3Int_any 0 W (by omega) (by omega)
  clear h1 hp hk hlp
  go_enter Tryz.func77, Tryz.ntmps77
  go_wp2_with fail
  refine (HI0.out _).mono ?_
  rintro e w0 ⟨v, rfl, hv, hE⟩
  obtain ⟨sz, Zz, lz, cz, Yz, mz, dz, rfl, -, -, -⟩ := hv.ex
  have HE0 := Lib.hid hE
  have HV0 := Lib.hid hv
  clear hE hv HI0
  go_wp2_with fail
  go_loopw [3, 4] (fun vo vi wr => ∃ (k : Nat) (q : List V3), k ≤ lp ∧ q.length = k + 1 ∧ vi = .int .i64 k ∧ Hid (OwnQ wr w.heap.size vo q (0 :: (List.range k).map fun j => cf p j * (mkRat 1 (j + 1)))) ∧ Hid (Ext w wr)) (fun _ vi _ => lp - (intOf vi).toNat)
  case atStart => exact ⟨0, [(.bool sz, .slice Zz lz cz, .slice Yz mz dz)], Nat.zero_le _, rfl, rfl, OwnQ.one (t := (.bool sz, .slice Zz lz cz, .slice Yz mz dz)) HE0.out.size HV0.out, HE0.out.al _⟩
  case round =>
    obtain ⟨k, q, hk, hqk, rfl, HO, HE⟩ := hrel
    by_cases hlt : k < lp
    · obtain ⟨bb, off, x, y, z, rfl, hbb, c0, c1, c2, hq⟩ := HR.out (k) (by rw [HLN.out]; omega)
      obtain ⟨s1, A1, la, ca, B1, lb, cb, hv, -, -, -⟩ := hq.ex
      simp only [Value.agg.injEq, Array.mk.injEq, List.cons.injEq, and_true] at hv
      obtain ⟨rfl, rfl, rfl⟩ := hv
      have C0 := Lib.hid c0
      have C1 := Lib.hid c1
      have C2 := Lib.hid c2
      replace c0 := HE.out.cell c0
      replace c1 := HE.out.cell c1
      replace c2 := HE.out.cell c2
      have a0 : off + 3 * (k) + 1 = off + (3 * (k) + 1) := by omega
      have a1 : off + 3 * (k) + 2 = off + (3 * (k) + 2) := by omega
      have a2 : off + (k) * 3 = off + 3 * (k) := by omega
      have HS1 : Hid (∀ W v, Ext wr W → QV W v (mkRat 1 (k + 1)) → Calls Tryz.prog 115 #[.agg #[.bool s1, .slice A1 la ca, .slice B1 lb cb], v] W (RetQ3 (cf p k * (mkRat 1 (k + 1))) W)) := fun W v hE hv => HS.out k W _ _ hlt ((hq.ext HE.out).ext hE) hv
      have HC1 : Hid (∀ W, Calls Tryz.prog 118 #[.int .i64 1, .int .i64 ((k : Int) + 1)] W (RetQ3 (mkRat 1 (k + 1)) W)) := fun W => HC.out k W hlt
      have HSn : Hid ((0 :: (List.range (k + 1)).map fun j => cf p j * (mkRat 1 (j + 1))) = (0 :: (List.range k).map fun j => cf p j * (mkRat 1 (j + 1))) ++ [cf p k * (mkRat 1 (k + 1))]) := by unfold Hid; first | (rw [range_snoc]; done) | (rw [range_snoc]; rfl)
      have hmax : q.length + 1 ≤ maxLen := by unfold maxLen; omega
      have hbig : (q.length + 1) * 56 ≤ 140737488355328 := by omega
      have hlz : (k : Int) < (lp : Int) := by omega
      have hlz2 : (k : Int) ≤ (lp : Int) := by omega
      have hlz3 : (0 : Int) ≤ (k : Int) + 1 := by omega
      have hlz4 : ((k : Int) + 1).toNat = k + 1 := by omega
      have hwr : IntKind.i64.wrap ((k : Int) + 1) = (k : Int) + 1 := by rw [IntKind.wrap_i64]; omega
      clear hq hbb
      generalize (0 :: (List.range k).map fun j => cf p j * (mkRat 1 (j + 1))) = S at *
      generalize cf p k * (mkRat 1 (k + 1)) = T at *
      generalize mkRat 1 (k + 1) = T2 at *
      go_wp2_with fail
      go_region_held3 (fun w' => w'.cell? ⟨bb, off + 3 * (k), none⟩ = some (.bool s1) ∧ w'.cell? ⟨bb, off + (3 * (k) + 1), none⟩ = some (.slice A1 la ca) ∧ w'.cell? ⟨bb, off + (3 * (k) + 2), none⟩ = some (.slice B1 lb cb)) (((try dsimp only); (repeat' apply And.intro) <;> (first | (with_reducible assumption) | (rw [neC (by omega), neC (by omega), neC (by omega)]; with_reducible assumption) | (rw [neC (by omega), neC (by omega)]; with_reducible assumption) | ((go_keep); done))))
        (first
          | (go_at_call 118; (with_reducible refine (HC1.out _).mono ?_); rintro e w2 ⟨v, rfl, hv, hE⟩; obtain ⟨su, Zu, lu, cu, Yu, mu, du, rfl, -, -, -⟩ := hv.ex; have q0 := Ext.cellD hE c0; have q1 := Ext.cellD hE c1; have q2 := Ext.cellD hE c2; have HE2 := Lib.hid ((Ext.dr' HE).tr hE); have HW2 := Lib.hid (((Ext.rfl' wr).dr).tr hE); have HO2 := Lib.hid (OwnQ.ext (show OwnQ wr.drew _ _ q S from HO.out) hE); have HV2 := Lib.hid hv; clear hE hv)
          | (go_at_call 115; (with_reducible refine (HS1.out _ _ HW2.out HV2.out).mono ?_); rintro e w3 ⟨v, rfl, hv, hE⟩; obtain ⟨s3, Z3, l3, c3, Y3, m3, d3, rfl, -, -, -⟩ := hv.ex; have r0 := Ext.cellH hE q0; have r1 := Ext.cellH hE q1; have r2 := Ext.cellH hE q2; have HE3 := Lib.hid (HE2.out.tr hE); have HO3 := OwnQ.hext HO2 hE; have HV3 := Lib.hid hv; have hb3 : w.heap.size ≤ w3.heap.size := HE3.out.size; clear hE hv)
          | ((refine step_append_lies _ (by rfl) _ _ 58 (by rfl) w.heap.size 86 i0 (.agg #[.bool false, .slice none 0 0, .slice none 0 0]) 3 56 Tryz.underlying58 hi hz0 hz1 hz2 rfl (by omega) _ q.length (qcells q) (by rfl) (World.ownsRow.alloc HO3.out.1 _) ⟨w3.heap.size, 0, none⟩ 1 1 [.bool s3, .slice Z3 l3 c3, .slice Y3 m3 d3] (by rfl) (by rfl) (World.news_of_block (cs := #[.bool s3, .slice Z3 l3 c3, .slice Y3 m3 d3]) (t := 86) (fr := (0, 0)) (heap_alloc_new w3 _)) (by simp [Value.oneCell']) (by omega) hmax hbig (by simp; omega) (w3.heap.size + 1) (by simp) ?_); intro gg cap wz hown hgrow hat hlt9; have hh := ownq_push (t := (.bool s3, .slice Z3 l3 c3, .slice Y3 m3 d3)) HO3.out HE3.out HV3.out hown hgrow; have t0 := Ext.cellH hh.2 C0.out; have t1 := Ext.cellH hh.2 C1.out; have t2 := Ext.cellH hh.2 C2.out))
      all_goals
        obtain ⟨p1, p2⟩ := hh
        rw [hqk] at p1
        have P1 := Lib.hid p1
        have P2 := Lib.hid p2
        clear p1 p2 hown hgrow q0 q1 q2 r0 r1 r2 t0 t1 t2
        go_wp2
        go_roundw
        case rel => exact ⟨k + 1, q ++ [(.bool s3, .slice Z3 l3 c3, .slice Y3 m3 d3)], by omega, by simp; omega, by go_num, by unfold Hid; rw [HSn.out]; exact P1.out, P2⟩
        case measure => simp [intOf]; omega
    · have hT := fun W (hE : Ext wr W) => q8trim_any _ _ W (HO.out.pq.ext hE) (by simp; omega)
      have hke : k = lp := by omega
      rw [hke, HEnd.out] at hT
      have HT := Lib.hid hT
      have HEx := HE
      have hlz : ¬ (k : Int) < (lp : Int) := by omega
      clear hke
      clear hT
      go_wp2_with fail
      refine (HT.out _ (Ext.rfl' _)).mono ?_
      rintro e w1 ⟨v, rfl, hv, hE⟩
      have HE1 := Lib.hid (HEx.out.tr hE)
      have HV := Lib.hid hv
      clear hE hv
      go_wp2_with fail
      go_ret
      exact ⟨_, rfl, HV.out, HE1.out⟩
end Go.Proofs.YtbldlibijojbjaaGreatDoor.GB
