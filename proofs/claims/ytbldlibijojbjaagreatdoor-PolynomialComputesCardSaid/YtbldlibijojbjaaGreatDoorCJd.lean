import Derived.Test.YtbldlibijojbjaaGreatDoorCJc
namespace Go.Proofs.YtbldlibijojbjaaGreatDoor.GB
set_option linter.unusedVariables false
set_option linter.unusedSimpArgs false
open Go.RowKit Go.Shelf
attribute [local go_sem ↓] Go.wp_at_zero Go.wp_at_succ
theorem range_snoc {α : Type} (f : Nat → α) (k : Nat) : (List.range (k + 1)).map f = (List.range k).map f ++ [f k] := by rw [List.range_succ]; simp
theorem cf_rg (f : Nat → Rat) (n i : Nat) (hf : n ≤ i → f i = 0) : cf ((List.range n).map f) i = f i := by
  by_cases h : i < n
  · rw [cf_lt (by simp; exact h)]; simp
  · rw [cf_ge (by simp; omega), hf (by omega)]
set_option maxHeartbeats 8000000 in
set_option maxRecDepth 200000 in
theorem q8Plus_v (v1 v2 : Value) (p r : Pl) (n m : Nat) (w : World) (h1 : PQ w v1 p) (h2 : PQ w v2 r) (hp : PB p n) (hr : PB r m) (l1 : p.length ≤ 500) (l2 : r.length ≤ 500) (hk : n + m + 2 ≤ KK) :
    Calls Tryz.prog 59 #[v1, v2] w (RetPQ (ptrim (padd p r)) w) := by
  obtain ⟨i0, hi, hz0, hz1, hz2⟩ := info_parts Tryz.infoQ
  obtain ⟨A, ca, rfl⟩ := h1.slc
  obtain ⟨B, cb, rfl⟩ := h2.slc
  obtain ⟨lp, hlp⟩ : ∃ k, p.length = k := ⟨_, rfl⟩
  obtain ⟨lr, hlr⟩ : ∃ k, r.length = k := ⟨_, rfl⟩
  rw [hlp] at h1 l1 ⊢
  rw [hlr] at h2 l2 ⊢
  have HA : Hid (∀ k W, k ≤ 1000 → Ext w W → Calls Tryz.prog 94 #[.slice A lp ca, .int .i64 ((k : Nat) : Int)] W (RetQ3 (cf p k) W)) := fun k W hk hE => q8at_v A lp ca k p W (Lib.hid hlp) (h1.ext hE) (by omega) (by omega)
  have HB : Hid (∀ k W, k ≤ 1000 → Ext w W → Calls Tryz.prog 94 #[.slice B lr cb, .int .i64 ((k : Nat) : Int)] W (RetQ3 (cf r k) W)) := fun k W hk hE => q8at_v B lr cb k r W (Lib.hid hlr) (h2.ext hE) (by omega) (by omega)
  have HS : Hid (∀ k W u v, QV W u (cf p k) → QV W v (cf r k) → Calls Tryz.prog 93 #[u, v] W (RetQ3 (cf p k + cf r k) W)) := fun k W u v hu hv => q3Add_v u v _ _ n m W hu hv (hp.cf k) (hr.cf k) hk
  have HEnd : Hid (∀ k, lp ≤ k → lr ≤ k → ptrim ((List.range k).map fun j => cf p j + cf r j) = ptrim (padd p r)) := fun k a b => ptrim_eq fun i => by
    rw [cf_padd]; exact cf_rg _ k i fun h => by rw [cf_ge (by omega), cf_ge (by omega)]; grind
  clear h1 h2 hp hr hlp hlr hk
  go_enter Tryz.func59, Tryz.ntmps59
  go_wp2_with fail
  go_loopw [5, 6] (fun vo vi wr => ∃ (k : Nat) (q : List V3), (k ≤ lp ∨ k ≤ lr) ∧ q.length = k ∧ vi = .int .i64 k ∧ Hid (OwnQ wr w.heap.size vo q ((List.range k).map fun j => cf p j + cf r j)) ∧ Hid (Ext w wr)) (fun _ vi _ => lp + lr - (intOf vi).toNat)
  case atStart => exact ⟨0, [], .inl (Nat.zero_le _), rfl, rfl, OwnQ.nil _ _, Ext.rfl' w⟩
  case round =>
    obtain ⟨k, q, hk, hqk, rfl, HO, HE⟩ := hrel
    by_cases hlt : k < lp ∨ k < lr
    · have h1000 : k ≤ 1000 := by omega
      have hA := HA.out k wr h1000 HE.out
      have hB := fun W hE => HB.out k W h1000 (HE.out.tr hE)
      have HA1 := Lib.hid hA
      have HB1 : Hid (∀ W, Ext wr W → Calls Tryz.prog 94 #[.slice B lr cb, .int .i64 ((k : Nat) : Int)] W (RetQ3 (cf r k) W)) := hB
      have HS1 : Hid (∀ W u v, QV W u (cf p k) → QV W v (cf r k) → Calls Tryz.prog 93 #[u, v] W (RetQ3 (cf p k + cf r k) W)) := HS.out k
      have HSn := Lib.hid (range_snoc (fun j => cf p j + cf r j) k)
      have hmax : q.length + 1 ≤ maxLen := by unfold maxLen; omega
      have hbig : (q.length + 1) * 56 ≤ 140737488355328 := by omega
      have hor : (k : Int) < (lp : Int) ∨ (k : Int) < (lr : Int) := by omega
      clear hA hB
      generalize (List.range k).map (fun j => cf p j + cf r j) = S at *
      generalize cf p k + cf r k = T at *
      generalize cf p k = T1 at *
      generalize cf r k = T2 at *
      by_cases hx : (k : Int) < (lp : Int)
      all_goals
        (try have hy : (k : Int) < (lr : Int) := by omega)
        clear hor
        go_wp2_with fail
        refine HA1.out.mono ?_
        rintro e w1 ⟨v, rfl, hv, hE⟩
        obtain ⟨s1, Z1, l1, c1, Y1, m1, d1, rfl, -, -, -⟩ := hv.ex
        have HE1 := Lib.hid hE
        have HO1 := OwnQ.hext HO hE
        have HV1 := Lib.hid hv
        clear hE hv
        go_wp2_with fail
        refine (HB1.out _ HE1.out).mono ?_
        rintro e w2 ⟨v, rfl, hv, hE⟩
        obtain ⟨s2, Z2, l2, c2, Y2, m2, d2, rfl, -, -, -⟩ := hv.ex
        have HO2 := OwnQ.hext HO1 hE
        replace HV1 := QV.hext HV1 hE
        have HE2 := Lib.hid (HE1.out.tr hE)
        have HV2 := Lib.hid hv
        clear hE hv
        go_wp2_with fail
        refine (HS1.out _ _ _ HV1.out HV2.out).mono ?_
        rintro e w3 ⟨v, rfl, hv, hE⟩
        obtain ⟨s3, Z3, l3, c3, Y3, m3, d3, rfl, -, -, -⟩ := hv.ex
        have HO3 := OwnQ.hext HO2 hE
        have HE3 := Lib.hid ((HE.out.tr HE2.out).tr hE)
        have HV3 := Lib.hid hv
        have hb3 : w.heap.size ≤ w3.heap.size := HE3.out.size
        clear hE hv HE1 HE2 HV1 HV2 HO1 HO2 HO HA1 HB1 HS1
        go_wp2_with (at_builtin; (refine wpList_append_own _ rfl _ _ 58 rfl w.heap.size 86 i0 (.agg #[.bool false, .slice none 0 0, .slice none 0 0]) 3 56 Tryz.underlying58 hi hz0 hz1 hz2 rfl (by decide) _ q.length (qcells q) rfl (World.ownsRow.alloc HO3.out.1 _) ⟨w3.heap.size, 0, none⟩ 1 1 [.bool s3, .slice Z3 l3 c3, .slice Y3 m3 d3] rfl rfl (World.news_of_block (cs := #[.bool s3, .slice Z3 l3 c3, .slice Y3 m3 d3]) (t := 86) (fr := (0, 0)) (heap_alloc_new w3 _)) (by simp [Value.oneCell']) hmax hbig (by simp; omega) ?_); intro v' wz hown hgrow _)
        all_goals
          obtain ⟨p1, p2⟩ := ownq_push (t := (.bool s3, .slice Z3 l3 c3, .slice Y3 m3 d3)) HO3.out HE3.out HV3.out hown hgrow
          go_roundw
          case rel => exact ⟨k + 1, q ++ [(.bool s3, .slice Z3 l3 c3, .slice Y3 m3 d3)], by omega, by simp; omega, by go_num, by unfold Hid; rw [HSn.out]; exact p1, p2⟩
          case measure => simp [intOf]; omega
    · have hT := fun W (hE : Ext wr W) => q8trim_any _ _ W (HO.out.pq.ext hE) (by simp; omega)
      rw [HEnd.out k (by omega) (by omega)] at hT
      have HT := Lib.hid hT
      have hx : ¬ (k : Int) < (lp : Int) := by omega
      have hy : ¬ (k : Int) < (lr : Int) := by omega
      clear hT
      go_wp2_with fail
      refine (HT.out _ (Ext.rfl' _)).mono ?_
      rintro e w1 ⟨v, rfl, hv, hE⟩
      have HE1 := Lib.hid (HE.out.tr hE)
      have HV := Lib.hid hv
      clear hE hv
      go_wp2_with fail
      go_ret
      exact ⟨_, rfl, HV.out, HE1.out⟩
set_option maxHeartbeats 8000000 in
set_option maxRecDepth 200000 in
theorem q8Scale_v (v1 v2 : Value) (p : Pl) (x : Rat) (n m : Nat) (w : World) (h1 : PQ w v1 p) (h2 : QV w v2 x) (hp : PB p n) (hx : Bd x m) (l1 : p.length ≤ 500) (hk : n + m + 2 ≤ KK) :
    Calls Tryz.prog 96 #[v1, v2] w (RetPQ (ptrim (psc x p)) w) := by
  obtain ⟨i0, hi, hz0, hz1, hz2⟩ := info_parts Tryz.infoQ
  obtain ⟨A, ca, rfl⟩ := h1.slc
  obtain ⟨bx, Ax, lx, cx, Bx_, mx, dx, rfl, -, -, -⟩ := h2.ex
  obtain ⟨lp, hlp⟩ : ∃ k, p.length = k := ⟨_, rfl⟩
  rw [hlp] at h1 l1 ⊢
  have HLN := Lib.hid hlp
  have hE0 := (Ext.rfl' w).al (.cells #[.bool bx, .slice Ax lx cx, .slice Bx_ mx dx] 86)
  have HR := Lib.hid (h1.ext hE0).rd.2.2.2
  have HX0 := Lib.hid (h2.ext hE0)
  have HB0 := Lib.hid (Bx.new w #[.bool bx, .slice Ax lx cx, .slice Bx_ mx dx] 86)
  have HE0 := Lib.hid hE0
  have HS : Hid (∀ k W u v, QV W u (cf p k) → QV W v x → Calls Tryz.prog 115 #[u, v] W (RetQ3 (cf p k * x) W)) := fun k W u v hu hv => q3Mul_v u v _ _ n m W hu hv (hp.cf k) hx hk
  have HEnd : Hid (ptrim ((List.range lp).map fun j => cf p j * x) = ptrim (psc x p)) := ptrim_eq fun i => by
    rw [cf_psc, cf_rg _ lp i fun h => by rw [cf_ge (by omega)]; grind]; grind
  clear h1 h2 hp hx hlp hk hE0
  go_enter Tryz.func96, Tryz.ntmps96
  go_wp2_with fail
  have hgb : w.heap.size < (w.alloc (.cells #[.bool bx, .slice Ax lx cx, .slice Bx_ mx dx] 86)).heap.size := HB0.out.lt
  generalize w.alloc (.cells #[.bool bx, .slice Ax lx cx, .slice Bx_ mx dx] 86) = W0 at *
  have X0 : Hid (W0.cell? ⟨w.heap.size, 0, none⟩ = some (.bool bx)) := HB0.out.c 0
  have X1 : Hid (W0.cell? ⟨w.heap.size, 1, none⟩ = some (.slice Ax lx cx)) := HB0.out.c 1
  have X2 : Hid (W0.cell? ⟨w.heap.size, 2, none⟩ = some (.slice Bx_ mx dx)) := HB0.out.c 2
  generalize w.heap.size = gb at X0 X1 X2 ⊢
  go_loopw [5, 6] (fun vo vi wr => ∃ (k : Nat) (q : List V3), k ≤ lp ∧ q.length = k ∧ vi = .int .i64 k ∧ Hid (OwnQ wr W0.heap.size vo q ((List.range k).map fun j => cf p j * x)) ∧ Hid (Ext W0 wr)) (fun _ vi _ => lp - (intOf vi).toNat)
  case atStart => exact ⟨0, [], Nat.zero_le _, rfl, rfl, OwnQ.nil _ _, Ext.rfl' W0⟩
  case round =>
    obtain ⟨k, q, hk, hqk, rfl, HO, HE⟩ := hrel
    by_cases hlt : k < lp
    · obtain ⟨bb, off, x, y, z, rfl, hbb, c0, c1, c2, hq⟩ := HR.out (k) (by rw [HLN.out]; omega)
      obtain ⟨s1, A1, la, ca, B1, lb, cb, hv, -, -, -⟩ := hq.ex
      simp only [Value.agg.injEq, Array.mk.injEq, List.cons.injEq, and_true] at hv
      obtain ⟨rfl, rfl, rfl⟩ := hv
      have C0 := Lib.hid c0
      have C1 := Lib.hid c1
      have C2 := Lib.hid c2
      replace c0 := HE.out.cell c0
      replace c1 := HE.out.cell c1
      replace c2 := HE.out.cell c2
      have a0 : off + 3 * (k) + 1 = off + (3 * (k) + 1) := by omega
      have a1 : off + 3 * (k) + 2 = off + (3 * (k) + 2) := by omega
      have a2 : off + (k) * 3 = off + 3 * (k) := by omega
      have x0 := HE.out.cell X0.out
      have x1 := HE.out.cell X1.out
      have x2 := HE.out.cell X2.out
      have HS1 : Hid (∀ W, Ext wr W → Calls Tryz.prog 115 #[.agg #[.bool s1, .slice A1 la ca, .slice B1 lb cb], .agg #[.bool bx, .slice Ax lx cx, .slice Bx_ mx dx]] W (RetQ3 (cf p k * x) W)) := fun W hE => HS.out k W _ _ ((hq.ext HE.out).ext hE) ((HX0.out.ext HE.out).ext hE)
      have HSn := Lib.hid (range_snoc (fun j => cf p j * x) k)
      have hmax : q.length + 1 ≤ maxLen := by unfold maxLen; omega
      have hbig : (q.length + 1) * 56 ≤ 140737488355328 := by omega
      have hlz : (k : Int) < (lp : Int) := by omega
      clear hq hbb
      generalize (List.range k).map (fun j => cf p j * x) = S at *
      generalize cf p k * x = T at *
      go_wp2_with fail
      go_region_held3 (fun w' => w'.cell? ⟨bb, off + 3 * k, none⟩ = some (.bool s1) ∧ w'.cell? ⟨bb, off + (3 * k + 1), none⟩ = some (.slice A1 la ca) ∧ w'.cell? ⟨bb, off + (3 * k + 2), none⟩ = some (.slice B1 lb cb) ∧ w'.cell? ⟨gb, 0, none⟩ = some (.bool bx) ∧ w'.cell? ⟨gb, 1, none⟩ = some (.slice Ax lx cx) ∧ w'.cell? ⟨gb, 2, none⟩ = some (.slice Bx_ mx dx)) (((try dsimp only); (repeat' apply And.intro) <;> (first | (with_reducible assumption) | (rw [neC (by omega), neC (by omega), neC (by omega)]; with_reducible assumption) | (rw [neC (by omega), neC (by omega)]; with_reducible assumption) | ((go_keep); done))))
        (first
          | (go_at_call 115; (with_reducible refine (HS1.out _ ((Ext.rfl' wr).dr)).mono ?_); rintro e w2 ⟨v, rfl, hv, hE⟩; obtain ⟨s3, Z3, l3, c3, Y3, m3, d3, rfl, -, -, -⟩ := hv.ex; have q0 := Ext.cellD hE c0; have q1 := Ext.cellD hE c1; have q2 := Ext.cellD hE c2; have q3 := Ext.cellD hE x0; have q4 := Ext.cellD hE x1; have q5 := Ext.cellD hE x2; have HE3 := Lib.hid ((Ext.dr' HE).tr hE); have HO3 := Lib.hid (OwnQ.ext (show OwnQ wr.drew _ _ q S from HO.out) hE); have HV3 := Lib.hid hv; have hb3 : W0.heap.size ≤ w2.heap.size := HE3.out.size; clear hE hv)
          | ((refine step_append_lies _ (by rfl) _ _ 58 (by rfl) W0.heap.size 86 i0 (.agg #[.bool false, .slice none 0 0, .slice none 0 0]) 3 56 Tryz.underlying58 hi hz0 hz1 hz2 rfl (by omega) _ q.length (qcells q) (by rfl) (World.ownsRow.alloc HO3.out.1 _) ⟨w2.heap.size, 0, none⟩ 1 1 [.bool s3, .slice Z3 l3 c3, .slice Y3 m3 d3] (by rfl) (by rfl) (World.news_of_block (cs := #[.bool s3, .slice Z3 l3 c3, .slice Y3 m3 d3]) (t := 86) (fr := (0, 0)) (heap_alloc_new w2 _)) (by simp [Value.oneCell']) (by omega) hmax hbig (by simp; omega) (w2.heap.size + 1) (by simp) ?_); intro gg cap wz hown hgrow hat hlt9; have hh := ownq_push (t := (.bool s3, .slice Z3 l3 c3, .slice Y3 m3 d3)) HO3.out HE3.out HV3.out hown hgrow; have t0 := Ext.cellH hh.2 C0.out; have t1 := Ext.cellH hh.2 C1.out; have t2 := Ext.cellH hh.2 C2.out; have t3 := Ext.cellH hh.2 X0.out; have t4 := Ext.cellH hh.2 X1.out; have t5 := Ext.cellH hh.2 X2.out))
      all_goals
        obtain ⟨p1, p2⟩ := hh
        rw [hqk] at p1
        have P1 := Lib.hid p1
        have P2 := Lib.hid p2
        clear p1 p2 hown hgrow q0 q1 q2 q3 q4 q5 t0 t1 t2 t3 t4 t5
        go_wp2
        go_roundw
        case rel => exact ⟨k + 1, q ++ [(.bool s3, .slice Z3 l3 c3, .slice Y3 m3 d3)], by omega, by simp; omega, by go_num, by unfold Hid; rw [HSn.out]; exact P1.out, P2⟩
        case measure => simp [intOf]; omega
    · have hT := fun W (hE : Ext wr W) => q8trim_any _ _ W (HO.out.pq.ext hE) (by simp; omega)
      have hke : k = lp := by omega
      rw [hke, HEnd.out] at hT
      have HT := Lib.hid hT
      have HEx := Lib.hid (HE0.out.tr HE.out)
      have hlz : ¬ (k : Int) < (lp : Int) := by omega
      clear hke
      clear hT
      go_wp2_with fail
      refine (HT.out _ (Ext.rfl' _)).mono ?_
      rintro e w1 ⟨v, rfl, hv, hE⟩
      have HE1 := Lib.hid (HEx.out.tr hE)
      have HV := Lib.hid hv
      clear hE hv
      go_wp2_with fail
      go_ret
      exact ⟨_, rfl, HV.out, HE1.out⟩
end Go.Proofs.YtbldlibijojbjaaGreatDoor.GB
