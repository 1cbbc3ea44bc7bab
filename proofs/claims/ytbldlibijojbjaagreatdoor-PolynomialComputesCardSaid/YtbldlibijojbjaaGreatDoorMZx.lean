import Derived.Test.YtbldlibijojbjaaGreatDoorMGc
import Derived.Test.YtbldlibijojbjaaGreatDoorMNz
import Derived.Test.YtbldlibijojbjaaGreatDoorCDx
namespace Go.Proofs.YtbldlibijojbjaaGreatDoor.GB
set_option linter.unusedVariables false
set_option linter.unusedSimpArgs false
open Go.RowKit
attribute [local go_sem ↓] Go.wp_at_zero Go.wp_at_succ
theorem ztr (A : Option Addr) (c n : Nat) (l : List Nat) (w : World) (hn : l.length = n) (hl : n ≤ c) (hm : c ≤ 9223372036854775807) (hr : RdN w A l) :
    Calls Tryz.prog 138 #[.slice A n c] w fun e w' => e = .returned (.slice A (tz l).length c) ∧ w = w' := by
  subst hn; exact ztrim_any A c l w hl hm hr
set_option maxHeartbeats 1000000 in
set_option maxRecDepth 100000 in
theorem zTimes_pos (A B : Option Addr) (ca cb : Nat) (a b : List Nat) (w : World) (hza : 0 < a.length) (hzb : 0 < b.length) (hla : a.length ≤ 1099511627776) (hlb : b.length ≤ 1099511627776)
    (ha : RdN w A a) (hb : RdN w B b) (oa : Ok a) (ob : Ok b) :
    Calls Tryz.prog 136 #[.slice A a.length ca, .slice B b.length cb] w fun e w' => ∃ v, e = .returned v ∧ SlN w' v (val a * val b) ∧ Ext w w' := by
  obtain ⟨i0, hi, hz0, hz1, hz2⟩ := info_parts Tryz.infoU32
  have l0 : ((a.length : Int) == 0) = false := by rw [beq_eq_false_iff_ne]; omega
  have l1 : ((b.length : Int) == 0) = false := by rw [beq_eq_false_iff_ne]; omega
  go_enter Tryz.func136, Tryz.ntmps136
  go_wp2_with (refine wpList_make_full _ rfl _ _ _ rfl w.heap.size 124 i0 (.int .u32 0) 1 Tryz.underlying82 hi hz0 hz1 _ _ _ _ (a.length + b.length) rfl rfl (by simp) (by simp) (by rw [hz2]; omega) (by unfold maxLen; omega) (Nat.le_refl _) ?_; intro w1 hown1 hgrow1)
  have hE1 : Hid (Ext w w1) := (Ext.rfl' w).gr0 hgrow1
  have hO1 : Hid (OwnN w1 w.heap.size (.slice (some ⟨w.heap.size, 0, none⟩) (List.replicate (a.length + b.length) 0).length (a.length + b.length)) (List.replicate (a.length + b.length) 0)) := by
    rw [made_zeros] at hown1
    simpa [OwnN, Hid] using hown1
  clear hown1 hgrow1
  go_loopw [6] (fun i wr => ∃ (k : Nat) (O : List Nat), k ≤ a.length ∧ i = .int .i64 k ∧ Hid (TOut a b k O) ∧ Hid (OwnN wr w.heap.size (.slice (some ⟨w.heap.size, 0, none⟩) O.length (a.length + b.length)) O) ∧ Hid (Ext w wr)) (fun i _ => a.length - (intOf i).toNat)
  case atStart => exact ⟨0, _, Nat.zero_le _, rfl, TOut.start a b, hO1, hE1⟩
  case round =>
    obtain ⟨i, O, hi1, rfl, HT, HO, HE⟩ := hrel
    clear hO1 hE1
    by_cases hlt : i < a.length
    · obtain ⟨ba, fa, rfl, hba, hca⟩ := ha.ext HE.out i hlt
      have hx0 : a[i] < 1000000000 := oa _ (List.getElem_mem hlt)
      have hx1 : Hid (wd a i = a[i]) := wd_lt hlt
      have HCA : ∀ W, Hid (Ext w W) → Hid (W.cell? ⟨ba, fa + i, none⟩ = some (.int .u32 (a[i] : Nat))) := fun W hE => by
        obtain ⟨b2, f2, e2, _, h2⟩ := ha.ext hE.out i hlt
        cases e2
        exact h2
      generalize a[i] = x at hca hx0 hx1 HCA
      obtain ⟨wo, rfl⟩ : ∃ wo : World, wo = wr := ⟨_, rfl⟩
      go_wp2
      go_loopw [7, 8] (fun c i' wr => ∃ (k C : Nat) (P : List Nat), k ≤ b.length ∧ i' = .int .i64 k ∧ c = .int .u64 C ∧ C < 1000000000 ∧ Hid (TIn O b x i k P C) ∧ Hid (OwnN wr w.heap.size (.slice (some ⟨w.heap.size, 0, none⟩) P.length (a.length + b.length)) P) ∧ Hid (Ext w wr)) (fun _ i' _ => b.length - (intOf i').toNat)
      case atStart => exact ⟨0, 0, O, Nat.zero_le _, rfl, rfl, by omega, TIn.start HT.out.2.1, HO, HE⟩
      case round =>
        obtain ⟨k, C, P, hk1, rfl, rfl, hC, HI, HP, HF⟩ := hrel
        have hPl : P.length = a.length + b.length := HI.out.1.trans HT.out.1
        have HPl := Lib.hid hPl
        by_cases hkb : k < b.length
        · obtain ⟨bb, fb, rfl, hbb, hcb⟩ := hb.ext HF.out k hkb
          have hy0 : b[k] < 1000000000 := ob _ (List.getElem_mem hkb)
          have hy1 : Hid (wd b k = b[k]) := wd_lt hkb
          generalize b[k] = y at hcb hy0 hy1
          have hcp := HP.out.cellAt (i + k) (by omega)
          have hcA := Hid.out (HCA wr HF)
          have hfp : wr.frozen? ⟨w.heap.size, i + k, none⟩ = false := World.ownsRow.frozenAt HP.out (i + k)
          have hp0 : wd P (i + k) < 1000000000 := wd_ok HI.out.2.1 _
          have hp1 : Hid (wd P (i + k) = wd P (i + k)) := rfl
          generalize hpe : wd P (i + k) = p at hcp hp0
          have HPE := Lib.hid hpe
          clear hpe hPl
          have hm : (x : Int) * (y : Int) ≤ 999999998000000001 := by
            have : x * y ≤ 999999999 * 999999999 := Nat.mul_le_mul (by omega) (by omega)
            have e : ((x * y : Nat) : Int) = (x : Int) * (y : Int) := by push_cast; rfl
            omega
          have hm0 : 0 ≤ (x : Int) * (y : Int) := Int.mul_nonneg (by omega) (by omega)
          go_wp2
          go_quiet (fail)
          all_goals go_wp2
          have hs0 : C + (x * y + p) = C + (x * wd b k + wd P (i + k)) := by rw [hy1.out, HPE.out]
          have HI' := HI.out.step ob hx0 hs0 (by have := HPl.out; omega)
          have hcm : (p : Int) + (x : Int) * (y : Int) + (C : Int) = ((C + (x * y + p) : Nat) : Int) := by rw [← cast_mac C x y p]; omega
          have HPd : OwnN (wr.drewN nq) w.heap.size (.slice (some ⟨w.heap.size, 0, none⟩) P.length (a.length + b.length)) P := HP.out
          have HP' := HPd.store (i + k) ((C + (x * y + p)) % 1000000000) (z := ((p : Int) + (x : Int) * (y : Int) + (C : Int)) % 1000000000) (cast_mod hcm)
          have hq : (C + (x * y + p)) / 1000000000 < 1000000000 := HI'.2.2.1
          go_roundw
          case rel => exact ⟨k + 1, _, _, by omega, by go_num, ret_int' (cast_div hcm), hq, HI', HP', (HF.out.drN nq).setCell (p := ⟨w.heap.size, i + k, none⟩) (Nat.le_refl _) _⟩
          case measure => simp [intOf]; omega
        · have hke : k = b.length := by omega
          have HI2 : Hid (TIn O b x i b.length P C) := by rw [← hke]; exact HI
          have hcp := HP.out.cellAt (i + b.length) (by omega)
          have hfp : wr.frozen? ⟨w.heap.size, i + b.length, none⟩ = false := World.ownsRow.frozenAt HP.out (i + b.length)
          generalize wd P (i + b.length) = p at hcp
          have HK := Lib.hid hke
          clear hke hPl
          go_wp2
          have HT' := TOut.row HT.out (by rw [hx1.out]; exact HI2.out) hlt
          have HP' := HP.out.store (i + b.length) C (z := (C : Int)) rfl
          go_roundw
          case rel => exact ⟨i + 1, _, by omega, by go_num, HT', HP', HF.out.setCell (Nat.le_refl _) _⟩
          case measure => simp [intOf]; omega
    · have hke : i = a.length := by omega
      have HT2 : Hid (Ok O ∧ val O = val a * val b) := by
        have h := HT.out; rw [hke] at h; exact h.done
      have hlen : O.length ≤ a.length + b.length := by have := HT.out.1; omega
      have HK := Lib.hid hke
      clear hke
      have hlen2 : Hid (O.length = a.length + b.length) := HT.out.1
      obtain ⟨A', c', hv, h1, h2, h3, h4⟩ := HO.out.parts
      injection hv with hv1 hv2 hv3
      subst hv1
      have hmx : a.length + b.length ≤ 9223372036854775807 := by omega
      have H3 := Lib.hid h3
      clear hv2 hv3 h1 h2 h3 h4 hlen
      go_wp2_with (go_at_call 138; refine (ztr _ _ _ O _ hlen2.out (Nat.le_refl _) hmx H3.out).mono ?_; rintro e w' ⟨rfl, rfl⟩)
      go_ret
      have hO3 := HO.out
      exact ⟨_, rfl, OwnN.sln hO3 HT2.out.1 HT2.out.2, HE.out⟩
set_option maxHeartbeats 1000000 in
theorem zTimes_nil (A B : Option Addr) (ca cb la lb : Nat) (w : World) (h : la = 0 ∨ lb = 0) :
    Calls Tryz.prog 136 #[.slice A la ca, .slice B lb cb] w fun e w' => e = .returned (.slice none 0 0) ∧ w = w' := by
  by_cases ha : la = 0
  · subst ha
    clear h
    go_enter Tryz.func136, Tryz.ntmps136
    go_wp2
    go_ret
    exact ⟨rfl, rfl⟩
  · have l0 : ((la : Int) == 0) = false := by rw [beq_eq_false_iff_ne]; omega
    obtain rfl : lb = 0 := by omega
    clear h ha
    go_enter Tryz.func136, Tryz.ntmps136
    go_wp2
    go_ret
    exact ⟨rfl, rfl⟩
/-- The product. -/
theorem zTimes_v (v1 v2 : Value) (a b : Nat) (w : World) (h1 : SlN w v1 a) (h2 : SlN w v2 b) (hla : (wds a).length ≤ 1099511627776) (hlb : (wds b).length ≤ 1099511627776) :
    Calls Tryz.prog 136 #[v1, v2] w fun e w' => ∃ v, e = .returned v ∧ SlN w' v (a * b) ∧ Ext w w' := by
  obtain ⟨A, ca, rfl⟩ := SlN.slc h1
  obtain ⟨B, cb, rfl⟩ := SlN.slc h2
  by_cases h0 : (wds a).length = 0 ∨ (wds b).length = 0
  · refine (zTimes_nil A B ca cb _ _ w h0).mono ?_
    rintro e w' ⟨rfl, rfl⟩
    have e0 : a * b = 0 := by
      rcases h0 with h | h
      · have : a = 0 := by rcases Nat.eq_zero_or_pos a with e | e
                           · exact e
                           · have := (wpos_iff a).2 e; omega
        rw [this, Nat.zero_mul]
      · have : b = 0 := by rcases Nat.eq_zero_or_pos b with e | e
                           · exact e
                           · have := (wpos_iff b).2 e; omega
        rw [this, Nat.mul_zero]
    exact ⟨_, rfl, by rw [e0]; exact SlN.nil _, Ext.rfl' _⟩
  · refine (zTimes_pos A B ca cb (wds a) (wds b) w (by omega) (by omega) hla hlb (SlN.rd h1).2 (SlN.rd h2).2 (ok_wds a) (ok_wds b)).mono ?_
    rintro e w' ⟨v, rfl, hv, hE⟩
    rw [val_wds, val_wds] at hv
    exact ⟨v, rfl, hv, hE⟩
end Go.Proofs.YtbldlibijojbjaaGreatDoor.GB

namespace Go.Proofs.YtbldlibijojbjaaGreatDoor.GB
set_option linter.unusedVariables false
set_option linter.unusedSimpArgs false
open Go.RowKit
attribute [local go_sem ↓] Go.wp_at_zero Go.wp_at_succ
theorem MInv.fin {a b : List Nat} {k : Nat} {r : List Nat} (h : MInv a b 1 k r 0) (ha : a.length ≤ k) (hb : b.length ≤ k) : Ok r ∧ val r = val a + val b := by
  obtain ⟨h1, h2, h3, h4, h5⟩ := h
  rw [List.take_of_length_le ha, List.take_of_length_le hb] at h5
  exact ⟨h2, by omega⟩
theorem wd_out {l : List Nat} {i : Nat} (h : l.length ≤ i) : wd l i = 0 := by simp [wd, h]
set_option maxHeartbeats 2000000 in
set_option maxRecDepth 100000 in
theorem zPlus_l (A B : Option Addr) (ca cb la lb : Nat) (a b : List Nat) (w : World) (HLA : Hid (a.length = la)) (HLB : Hid (b.length = lb)) (hla : la ≤ 1099511627776) (hlb : lb ≤ 1099511627776)
    (ha : RdN w A a) (hb : RdN w B b) (oa : Ok a) (ob : Ok b) :
    Calls Tryz.prog 155 #[.slice A la ca, .slice B lb cb] w fun e w' => ∃ v, e = .returned v ∧ SlN w' v (val a + val b) ∧ Ext w w' := by
  obtain ⟨i0, hi, hz0, hz1, hz2⟩ := info_parts Tryz.infoU32
  have OA := Lib.hid oa
  have OB := Lib.hid ob
  clear oa ob
  go_enter Tryz.func155, Tryz.ntmps155
  go_wp2
  go_loopw [5, 6, 7] (fun v c x wr => ∃ (k C : Nat) (r : List Nat), (k ≤ max la lb ∨ (k = max la lb + 1 ∧ C = 0)) ∧ x = .int .i64 k ∧ c = .int .u32 (C : Int) ∧ C ≤ 1 ∧ r.length = k ∧ Hid (MInv a b 1 k r C) ∧ Hid (OwnN wr w.heap.size v r) ∧ Hid (Ext w wr)) (fun _ _ x _ => max la lb + 1 - (intOf x).toNat)
  case atStart => exact ⟨0, 0, [], .inl (Nat.zero_le _), rfl, rfl, by omega, rfl, MInv.start a b 1, ⟨by simp [u32s], .inl ⟨rfl, rfl⟩⟩, Ext.rfl' w⟩
  case round =>
    obtain ⟨k, C, r, hk, rfl, rfl, hC, hrk, HM, HO, HE⟩ := hrel
    have hmax : r.length + 1 ≤ maxLen := by unfold maxLen; omega
    have hbig : (r.length + 1) * 4 ≤ 140737488355328 := by omega
    have hbase : w.heap.size ≤ wr.heap.size := HE.out.size
    clear hrk
    by_cases hka : k < la
    · have pa : (k : Int) < (la : Int) := by omega
      have hka' : k < a.length := by rw [HLA.out]; exact hka
      obtain ⟨ba, fa, rfl, hba, hca⟩ := ha.ext HE.out k hka'
      have hx0 : a[k] < 1000000000 := OA.out _ (List.getElem_mem hka')
      have hx1 : Hid (wd a k = a[k]) := wd_lt hka'
      generalize a[k] = x at hca hx0 hx1
      clear hka'
      by_cases hkb : k < lb
      · have pb : (k : Int) < (lb : Int) := by omega
        have hkb' : k < b.length := by rw [HLB.out]; exact hkb
        obtain ⟨bb, fb, rfl, hbb, hcb⟩ := hb.ext HE.out k hkb'
        have hy0 : b[k] < 1000000000 := OB.out _ (List.getElem_mem hkb')
        have hy1 : Hid (wd b k = b[k]) := wd_lt hkb'
        generalize b[k] = y at hcb hy0 hy1
        clear hkb'
        have HM2 := HM.out.step (w := (C + x + y) % 1000000000) (c' := (((C + x + y) / 1000000000 : Nat) : Int)) (x := ((C + x + y : Nat) : Int)) OA.out OB.out (.inl rfl) (by rw [hx1.out, hy1.out]; push_cast; omega) (by omega) (by omega)
        have HM3 := Lib.hid HM2
        have hq1 : (C + x + y) / 1000000000 ≤ 1 := by omega
        have hq2 : k ≤ max la lb → (k + 1 ≤ max la lb ∨ (k + 1 = max la lb + 1 ∧ (C + x + y) / 1000000000 = 0) ∨ k < max la lb) ∨ (C + x + y) / 1000000000 ≤ 1 := fun _ => .inr hq1
        clear HM2
        go_wp2_with (at_builtin; (refine wpList_append_own _ rfl _ _ 82 rfl w.heap.size 124 i0 (.int .u32 0) 1 4 Tryz.underlying82 hi hz0 hz1 hz2 rfl (by decide) _ r.length (u32s r) rfl (World.ownsRow.alloc HO.out _) ⟨wr.heap.size, 0, none⟩ 1 1 _ rfl rfl (cell_one_new _ _ _) (by simp [Value.oneCell']) hmax hbig (by simp; omega) ?_); intro v' w2 hown2 hgrow2 _)
        all_goals
          obtain ⟨p1, p2⟩ := own_push HO.out HE.out hown2 hgrow2 (n := (C + x + y) % 1000000000) (by omega)
          go_wp2
          go_roundw
          case rel => exact ⟨k + 1, (C + x + y) / 1000000000, r ++ [(C + x + y) % 1000000000], by omega, by go_num, by go_num, hq1, by have := HM.out.1; simp; omega, HM3, p1, p2⟩
          case measure => simp [intOf]; omega
      · have pb : ¬ (k : Int) < (lb : Int) := by omega
        have hy1 : Hid (wd b k = 0) := wd_out (by rw [HLB.out]; omega)
        have HM2 := HM.out.step (w := (C + x) % 1000000000) (c' := (((C + x) / 1000000000 : Nat) : Int)) (x := ((C + x : Nat) : Int)) OA.out OB.out (.inl rfl) (by rw [hx1.out, hy1.out]; push_cast; omega) (by omega) (by omega)
        have HM3 := Lib.hid HM2
        have hq1 : (C + x) / 1000000000 ≤ 1 := by omega
        have hq2 : k ≤ max la lb → (k + 1 ≤ max la lb ∨ (k + 1 = max la lb + 1 ∧ (C + x) / 1000000000 = 0) ∨ k < max la lb) ∨ (C + x) / 1000000000 ≤ 1 := fun _ => .inr hq1
        clear HM2
        go_wp2_with (at_builtin; (refine wpList_append_own _ rfl _ _ 82 rfl w.heap.size 124 i0 (.int .u32 0) 1 4 Tryz.underlying82 hi hz0 hz1 hz2 rfl (by decide) _ r.length (u32s r) rfl (World.ownsRow.alloc HO.out _) ⟨wr.heap.size, 0, none⟩ 1 1 _ rfl rfl (cell_one_new _ _ _) (by simp [Value.oneCell']) hmax hbig (by simp; omega) ?_); intro v' w2 hown2 hgrow2 _)
        all_goals
          obtain ⟨p1, p2⟩ := own_push HO.out HE.out hown2 hgrow2 (n := (C + x) % 1000000000) (by omega)
          go_wp2
          go_roundw
          case rel => exact ⟨k + 1, (C + x) / 1000000000, r ++ [(C + x) % 1000000000], by omega, by go_num, by go_num, hq1, by have := HM.out.1; simp; omega, HM3, p1, p2⟩
          case measure => simp [intOf]; omega
    · have pa : ¬ (k : Int) < (la : Int) := by omega
      have hx1 : Hid (wd a k = 0) := wd_out (by rw [HLA.out]; omega)
      by_cases hkb : k < lb
      · have pb : (k : Int) < (lb : Int) := by omega
        have hkb' : k < b.length := by rw [HLB.out]; exact hkb
        obtain ⟨bb, fb, rfl, hbb, hcb⟩ := hb.ext HE.out k hkb'
        have hy0 : b[k] < 1000000000 := OB.out _ (List.getElem_mem hkb')
        have hy1 : Hid (wd b k = b[k]) := wd_lt hkb'
        generalize b[k] = y at hcb hy0 hy1
        clear hkb'
        have HM2 := HM.out.step (w := (C + y) % 1000000000) (c' := (((C + y) / 1000000000 : Nat) : Int)) (x := ((C + y : Nat) : Int)) OA.out OB.out (.inl rfl) (by rw [hx1.out, hy1.out]; push_cast; omega) (by omega) (by omega)
        have HM3 := Lib.hid HM2
        have hq1 : (C + y) / 1000000000 ≤ 1 := by omega
        have hq2 : k ≤ max la lb → (k + 1 ≤ max la lb ∨ (k + 1 = max la lb + 1 ∧ (C + y) / 1000000000 = 0) ∨ k < max la lb) ∨ (C + y) / 1000000000 ≤ 1 := fun _ => .inr hq1
        clear HM2
        go_wp2_with (at_builtin; (refine wpList_append_own _ rfl _ _ 82 rfl w.heap.size 124 i0 (.int .u32 0) 1 4 Tryz.underlying82 hi hz0 hz1 hz2 rfl (by decide) _ r.length (u32s r) rfl (World.ownsRow.alloc HO.out _) ⟨wr.heap.size, 0, none⟩ 1 1 _ rfl rfl (cell_one_new _ _ _) (by simp [Value.oneCell']) hmax hbig (by simp; omega) ?_); intro v' w2 hown2 hgrow2 _)
        all_goals
          obtain ⟨p1, p2⟩ := own_push HO.out HE.out hown2 hgrow2 (n := (C + y) % 1000000000) (by omega)
          go_wp2
          go_roundw
          case rel => exact ⟨k + 1, (C + y) / 1000000000, r ++ [(C + y) % 1000000000], by omega, by go_num, by go_num, hq1, by have := HM.out.1; simp; omega, HM3, p1, p2⟩
          case measure => simp [intOf]; omega
      · have pb : ¬ (k : Int) < (lb : Int) := by omega
        have hy1 : Hid (wd b k = 0) := wd_out (by rw [HLB.out]; omega)
        by_cases hc0 : 0 < C
        · have pc : (0 : Int) < (C : Int) := by omega
          have HM2 := HM.out.step (w := (C) % 1000000000) (c' := (((C) / 1000000000 : Nat) : Int)) (x := ((C : Nat) : Int)) OA.out OB.out (.inl rfl) (by rw [hx1.out, hy1.out]; push_cast; omega) (by omega) (by omega)
          have HM3 := Lib.hid HM2
          have hq1 : (C) / 1000000000 ≤ 1 := by omega
          have hq2 : k ≤ max la lb → (k + 1 ≤ max la lb ∨ (k + 1 = max la lb + 1 ∧ (C) / 1000000000 = 0) ∨ k < max la lb) ∨ (C) / 1000000000 ≤ 1 := fun _ => .inr hq1
          clear HM2
          go_wp2_with (at_builtin; (refine wpList_append_own _ rfl _ _ 82 rfl w.heap.size 124 i0 (.int .u32 0) 1 4 Tryz.underlying82 hi hz0 hz1 hz2 rfl (by decide) _ r.length (u32s r) rfl (World.ownsRow.alloc HO.out _) ⟨wr.heap.size, 0, none⟩ 1 1 _ rfl rfl (cell_one_new _ _ _) (by simp [Value.oneCell']) hmax hbig (by simp; omega) ?_); intro v' w2 hown2 hgrow2 _)
          all_goals
            obtain ⟨p1, p2⟩ := own_push HO.out HE.out hown2 hgrow2 (n := (C) % 1000000000) (by omega)
            go_wp2
            go_roundw
            case rel => exact ⟨k + 1, (C) / 1000000000, r ++ [(C) % 1000000000], by omega, by go_num, by go_num, hq1, by have := HM.out.1; simp; omega, HM3, p1, p2⟩
            case measure => simp [intOf]; omega
        · have hC0 : C = 0 := by omega
          subst hC0
          have HF := Lib.hid (MInv.fin HM.out (by rw [HLA.out]; omega) (by rw [HLB.out]; omega))
          obtain ⟨A', c', rfl, hlc, hcm, hrd, hbk⟩ := HO.out.parts
          have hcm' : c' ≤ 9223372036854775807 := by unfold maxLen at hcm; omega
          have HS := Lib.hid (OwnN.sln HO.out HF.out.1 HF.out.2)
          have hT := ztrim_any A' c' r wr hlc hcm' hrd
          generalize (tz r).length = tl at *
          have HT := Lib.hid hT
          clear hT hc0
          go_wp2_with fail
          refine HT.out.mono ?_
          rintro e w1 ⟨rfl, rfl⟩
          go_wp2_with fail
          go_ret
          exact ⟨_, rfl, HS.out, HE.out⟩
/-- The sum. -/
theorem zPlus_v (v1 v2 : Value) (a b : Nat) (w : World) (h1 : SlN w v1 a) (h2 : SlN w v2 b) (hla : (wds a).length ≤ 1099511627776) (hlb : (wds b).length ≤ 1099511627776) :
    Calls Tryz.prog 155 #[v1, v2] w fun e w' => ∃ v, e = .returned v ∧ SlN w' v (a + b) ∧ Ext w w' := by
  obtain ⟨A, ca, rfl⟩ := SlN.slc h1
  obtain ⟨B, cb, rfl⟩ := SlN.slc h2
  refine (zPlus_l A B ca cb _ _ (wds a) (wds b) w (Lib.hid rfl) (Lib.hid rfl) hla hlb (SlN.rd h1).2 (SlN.rd h2).2 (ok_wds a) (ok_wds b)).mono ?_
  rintro e w' ⟨v, rfl, hv, hE⟩
  rw [val_wds, val_wds] at hv
  exact ⟨v, rfl, hv, hE⟩
end Go.Proofs.YtbldlibijojbjaaGreatDoor.GB

namespace Go.Proofs.YtbldlibijojbjaaGreatDoor.GB
set_option linter.unusedVariables false
set_option linter.unusedSimpArgs false
open Go.RowKit
attribute [local go_sem ↓] Go.wp_at_zero Go.wp_at_succ
set_option maxHeartbeats 2000000 in
set_option maxRecDepth 100000 in
theorem zMinus_l (A B : Option Addr) (ca cb la lb : Nat) (a b : List Nat) (w : World) (HLA : Hid (a.length = la)) (HLB : Hid (b.length = lb)) (hla : la ≤ 1099511627776) (hlb : lb ≤ la) (HLE : Hid (val b ≤ val a))
    (ha : RdN w A a) (hb : RdN w B b) (oa : Ok a) (ob : Ok b) :
    Calls Tryz.prog 156 #[.slice A la ca, .slice B lb cb] w fun e w' => ∃ v, e = .returned v ∧ SlN w' v (val a - val b) ∧ Ext w w' := by
  obtain ⟨i0, hi, hz0, hz1, hz2⟩ := info_parts Tryz.infoU32
  have OA := Lib.hid oa
  have OB := Lib.hid ob
  clear oa ob
  go_enter Tryz.func156, Tryz.ntmps156
  go_wp2
  go_loopw [5, 6, 7] (fun v c x wr => ∃ (k D : Nat) (r : List Nat), k ≤ la ∧ x = .int .i64 k ∧ c = .int .i64 (D : Int) ∧ D ≤ 1 ∧ r.length = k ∧ Hid (MInv a b (-1) k r (-(D : Int))) ∧ Hid (OwnN wr w.heap.size v r) ∧ Hid (Ext w wr)) (fun _ _ x _ => la - (intOf x).toNat)
  case atStart => exact ⟨0, 0, [], Nat.zero_le _, rfl, rfl, by omega, rfl, MInv.start a b (-1), ⟨by simp [u32s], .inl ⟨rfl, rfl⟩⟩, Ext.rfl' w⟩
  case round =>
    obtain ⟨k, D, r, hk, rfl, rfl, hD, hrk, HM, HO, HE⟩ := hrel
    have hmax : r.length + 1 ≤ maxLen := by unfold maxLen; omega
    have hbig : (r.length + 1) * 4 ≤ 140737488355328 := by omega
    have hbase : w.heap.size ≤ wr.heap.size := HE.out.size
    clear hrk
    by_cases hka : k < la
    · have pa : (k : Int) < (la : Int) := by omega
      have hka' : k < a.length := by rw [HLA.out]; exact hka
      obtain ⟨ba, fa, rfl, hba, hca⟩ := ha.ext HE.out k hka'
      have hx0 : a[k] < 1000000000 := OA.out _ (List.getElem_mem hka')
      have hx1 : Hid (wd a k = a[k]) := wd_lt hka'
      generalize a[k] = x at hca hx0 hx1
      clear hka'
      by_cases hkb : k < lb
      · have pb : (k : Int) < (lb : Int) := by omega
        have hkb' : k < b.length := by rw [HLB.out]; exact hkb
        obtain ⟨bb, fb, rfl, hbb, hcb⟩ := hb.ext HE.out k hkb'
        have hy0 : b[k] < 1000000000 := OB.out _ (List.getElem_mem hkb')
        have hy1 : Hid (wd b k = b[k]) := wd_lt hkb'
        generalize b[k] = y at hcb hy0 hy1
        clear hkb'
        by_cases hneg : (x : Int) - (D : Int) - (y : Int) < 0
        · have HM2 := HM.out.step (w := x + 1000000000 - D - y) (c' := -((1 : Nat) : Int)) (x := (x : Int) - (D : Int) - (y : Int)) OA.out OB.out (.inr rfl) (by rw [hx1.out, hy1.out]; omega) (by omega) (by omega)
          have HM3 := Lib.hid HM2
          clear HM2
          go_wp2_with (at_builtin; (refine wpList_append_own _ rfl _ _ 82 rfl w.heap.size 124 i0 (.int .u32 0) 1 4 Tryz.underlying82 hi hz0 hz1 hz2 rfl (by decide) _ r.length (u32s r) rfl (World.ownsRow.alloc HO.out _) ⟨wr.heap.size, 0, none⟩ 1 1 _ rfl rfl (cell_one_new _ _ _) (by simp [Value.oneCell']) hmax hbig (by simp; omega) ?_); intro v' w2 hown2 hgrow2 _)
          all_goals
            obtain ⟨p1, p2⟩ := own_push HO.out HE.out hown2 hgrow2 (n := x + 1000000000 - D - y) (by omega)
            go_wp2
            go_roundw
            case rel => exact ⟨k + 1, 1, r ++ [x + 1000000000 - D - y], by omega, by go_num, rfl, by omega, by have := HM.out.1; simp; omega, HM3, p1, p2⟩
            case measure => simp [intOf]; omega
        · have HM2 := HM.out.step (w := x - D - y) (c' := -((0 : Nat) : Int)) (x := (x : Int) - (D : Int) - (y : Int)) OA.out OB.out (.inr rfl) (by rw [hx1.out, hy1.out]; omega) (by omega) (by omega)
          have HM3 := Lib.hid HM2
          clear HM2
          go_wp2_with (at_builtin; (refine wpList_append_own _ rfl _ _ 82 rfl w.heap.size 124 i0 (.int .u32 0) 1 4 Tryz.underlying82 hi hz0 hz1 hz2 rfl (by decide) _ r.length (u32s r) rfl (World.ownsRow.alloc HO.out _) ⟨wr.heap.size, 0, none⟩ 1 1 _ rfl rfl (cell_one_new _ _ _) (by simp [Value.oneCell']) hmax hbig (by simp; omega) ?_); intro v' w2 hown2 hgrow2 _)
          all_goals
            obtain ⟨p1, p2⟩ := own_push HO.out HE.out hown2 hgrow2 (n := x - D - y) (by omega)
            go_wp2
            go_roundw
            case rel => exact ⟨k + 1, 0, r ++ [x - D - y], by omega, by go_num, rfl, by omega, by have := HM.out.1; simp; omega, HM3, p1, p2⟩
            case measure => simp [intOf]; omega
      · have pb : ¬ (k : Int) < (lb : Int) := by omega
        have hy1 : Hid (wd b k = 0) := wd_out (by rw [HLB.out]; omega)
        by_cases hneg : (x : Int) - (D : Int) < 0
        · have HM2 := HM.out.step (w := x + 1000000000 - D) (c' := -((1 : Nat) : Int)) (x := (x : Int) - (D : Int)) OA.out OB.out (.inr rfl) (by rw [hx1.out, hy1.out]; omega) (by omega) (by omega)
          have HM3 := Lib.hid HM2
          clear HM2
          go_wp2_with (at_builtin; (refine wpList_append_own _ rfl _ _ 82 rfl w.heap.size 124 i0 (.int .u32 0) 1 4 Tryz.underlying82 hi hz0 hz1 hz2 rfl (by decide) _ r.length (u32s r) rfl (World.ownsRow.alloc HO.out _) ⟨wr.heap.size, 0, none⟩ 1 1 _ rfl rfl (cell_one_new _ _ _) (by simp [Value.oneCell']) hmax hbig (by simp; omega) ?_); intro v' w2 hown2 hgrow2 _)
          all_goals
            obtain ⟨p1, p2⟩ := own_push HO.out HE.out hown2 hgrow2 (n := x + 1000000000 - D) (by omega)
            go_wp2
            go_roundw
            case rel => exact ⟨k + 1, 1, r ++ [x + 1000000000 - D], by omega, by go_num, rfl, by omega, by have := HM.out.1; simp; omega, HM3, p1, p2⟩
            case measure => simp [intOf]; omega
        · have HM2 := HM.out.step (w := x - D) (c' := -((0 : Nat) : Int)) (x := (x : Int) - (D : Int)) OA.out OB.out (.inr rfl) (by rw [hx1.out, hy1.out]; omega) (by omega) (by omega)
          have HM3 := Lib.hid HM2
          clear HM2
          go_wp2_with (at_builtin; (refine wpList_append_own _ rfl _ _ 82 rfl w.heap.size 124 i0 (.int .u32 0) 1 4 Tryz.underlying82 hi hz0 hz1 hz2 rfl (by decide) _ r.length (u32s r) rfl (World.ownsRow.alloc HO.out _) ⟨wr.heap.size, 0, none⟩ 1 1 _ rfl rfl (cell_one_new _ _ _) (by simp [Value.oneCell']) hmax hbig (by simp; omega) ?_); intro v' w2 hown2 hgrow2 _)
          all_goals
            obtain ⟨p1, p2⟩ := own_push HO.out HE.out hown2 hgrow2 (n := x - D) (by omega)
            go_wp2
            go_roundw
            case rel => exact ⟨k + 1, 0, r ++ [x - D], by omega, by go_num, rfl, by omega, by have := HM.out.1; simp; omega, HM3, p1, p2⟩
            case measure => simp [intOf]; omega
    · have pa : ¬ (k : Int) < (la : Int) := by omega
      have HF : Hid (Ok r ∧ val r = val a - val b) := by
        have hkm : k = max a.length b.length := by rw [HLA.out, HLB.out]; omega
        have h := HM.out
        rw [hkm] at h
        have h2 := h.zero (by omega) (.inl (by have h3 : val b ≤ val a := HLE.out; exact_mod_cast h3)) (.inr rfl)
        obtain ⟨h3, h4, -⟩ := h2
        exact ⟨h3, by have h5 : val b ≤ val a := HLE.out; omega⟩
      obtain ⟨A', c', rfl, hlc, hcm, hrd, hbk⟩ := HO.out.parts
      have hcm' : c' ≤ 9223372036854775807 := by unfold maxLen at hcm; omega
      have HS := Lib.hid (OwnN.sln HO.out HF.out.1 HF.out.2)
      have hT := ztrim_any A' c' r wr hlc hcm' hrd
      generalize (tz r).length = tl at *
      have HT := Lib.hid hT
      clear hT
      go_wp2_with fail
      refine HT.out.mono ?_
      rintro e w1 ⟨rfl, rfl⟩
      go_wp2_with fail
      go_ret
      exact ⟨_, rfl, HS.out, HE.out⟩
/-- The difference of a number and one that is not greater. -/
theorem zMinus_v (v1 v2 : Value) (a b : Nat) (w : World) (h1 : SlN w v1 a) (h2 : SlN w v2 b) (hla : (wds a).length ≤ 1099511627776) (hle : b ≤ a) :
    Calls Tryz.prog 156 #[v1, v2] w fun e w' => ∃ v, e = .returned v ∧ SlN w' v (a - b) ∧ Ext w w' := by
  obtain ⟨A, ca, rfl⟩ := SlN.slc h1
  obtain ⟨B, cb, rfl⟩ := SlN.slc h2
  refine (zMinus_l A B ca cb _ _ (wds a) (wds b) w (Lib.hid rfl) (Lib.hid rfl) hla (wds_mono hle) (by unfold Hid; rw [val_wds, val_wds]; exact hle) (SlN.rd h1).2 (SlN.rd h2).2 (ok_wds a) (ok_wds b)).mono ?_
  rintro e w' ⟨v, rfl, hv, hE⟩
  rw [val_wds, val_wds] at hv
  exact ⟨v, rfl, hv, hE⟩
end Go.Proofs.YtbldlibijojbjaaGreatDoor.GB

namespace Go.Proofs.YtbldlibijojbjaaGreatDoor.GB
set_option linter.unusedVariables false
set_option linter.unusedSimpArgs false
open Go.RowKit
attribute [local go_sem ↓] Go.wp_at_zero Go.wp_at_succ
set_option maxHeartbeats 1000000 in
set_option maxRecDepth 100000 in
theorem zsmall_any (A : Option Addr) (ca k : Nat) (a : List Nat) (d : Nat) (w : World) (hn : a.length = k) (hla : k ≤ 1099511627776) (ha : RdN w A a) (oa : Ok a) (hd : 0 < d) (hd2 : d < 1000000000) :
    Calls Tryz.prog 157 #[.slice A k ca, .int .u32 (d : Int)] w fun e w' => ∃ v, e = .returned (.tuple #[v, .int .u32 ((val a % d : Nat) : Int)]) ∧ SlN w' v (val a / d) ∧ Ext w w' := by
  obtain ⟨i0, hi, hz0, hz1, hz2⟩ := info_parts Tryz.infoU32
  have HN := Lib.hid hn
  clear hn
  go_enter Tryz.func157, Tryz.ntmps157
  go_wp2_with (refine wpList_make_full _ rfl _ _ _ rfl w.heap.size 124 i0 (.int .u32 0) 1 Tryz.underlying82 hi hz0 hz1 _ _ _ _ k rfl rfl (by simp) (by simp) (by rw [hz2]; omega) (by unfold maxLen; omega) (Nat.le_refl _) ?_; intro w1 hown1 hgrow1)
  have hE1 : Hid (Ext w w1) := (Ext.rfl' w).gr0 hgrow1
  have hO1 : Hid (OwnN w1 w.heap.size (.slice (some ⟨w.heap.size, 0, none⟩) (List.replicate k 0).length k) (List.replicate k 0)) := by
    rw [made_zeros] at hown1
    simpa [OwnN, Hid] using hown1
  clear hown1 hgrow1
  go_loopw [7, 8] (fun r i wr => ∃ (j R : Nat) (O : List Nat), j ≤ k ∧ i = .int .i64 ((j : Int) - 1) ∧ r = .int .u64 (R : Int) ∧ R < d ∧ Hid (BInv a d j O R) ∧ Hid (OwnN wr w.heap.size (.slice (some ⟨w.heap.size, 0, none⟩) O.length k) O) ∧ Hid (Ext w wr)) (fun _ i _ => (intOf i + 1).toNat)
  case atStart => exact ⟨k, 0, _, Nat.le_refl _, rfl, rfl, hd, by rw [← HN.out]; exact BInv.start a d hd, hO1, hE1⟩
  case round =>
    obtain ⟨j, R, O, hj, rfl, rfl, hR, HB, HO, HE⟩ := hrel
    clear hO1 hE1
    cases j with
    | succ j =>
      have hjl : j < a.length := by have := HN.out; omega
      obtain ⟨ba, fa, rfl, hba, hca⟩ := ha.ext HE.out j hjl
      have hx0 : a[j] < 1000000000 := oa _ (List.getElem_mem hjl)
      have hx1 : Hid (wd a j = a[j]) := wd_lt hjl
      generalize a[j] = x at hca hx0 hx1
      have hOl : j < O.length := by have := HB.out.1; omega
      have hcp := HO.out.cellAt j hOl
      have hfp : wr.frozen? ⟨w.heap.size, j, none⟩ = false := World.ownsRow.frozenAt HO.out j
      generalize wd O j = p at hcp
      have HOL := Lib.hid hOl
      clear hjl hOl
      have hj1 : (((j + 1 : Nat) : Int) - 1) = (j : Int) := by omega
      rw [hj1]
      have hR2 : (R : Int) * 1000000000 + (x : Int) < 1000000000000000000 := by omega
      go_wp2
      have HB' := HB.out.step (s := R * 1000000000 + x) oa (by rw [hx1.out]) (by have := HN.out; omega)
      have hq : (R * 1000000000 + x) / d < 4294967296 := by
        have := HB'.2.1 ((R * 1000000000 + x) / d) (List.mem_of_getElem? (i := j) (by simp [HOL.out]))
        rw [BB_eq] at this; omega
      have hz : ((R : Int) * 1000000000 + (x : Int)) / (d : Int) % 4294967296 = (((R * 1000000000 + x) / d : Nat) : Int) := by
        rw [cast_divn (s := R * 1000000000 + x) (d := d) (by omega) rfl]; generalize (R * 1000000000 + x) / d = q at hq ⊢; omega
      have HO' := HO.out.store j ((R * 1000000000 + x) / d) hz
      have hr : (R * 1000000000 + x) % d < d := Nat.mod_lt _ hd
      go_roundw
      case rel => exact ⟨j, (R * 1000000000 + x) % d, _, by omega, rfl, ret_int' (cast_modn (by omega) rfl), hr, HB', HO', HE.out.setCell (Nat.le_refl _) _⟩
      case measure => simp [intOf]
    | zero =>
      have hlen : Hid (O.length = k) := by show O.length = k; rw [HB.out.1]; exact HN.out
      obtain ⟨o1, o2, o3⟩ := HB.out.done
      have hS := OwnN.sln HO.out o1 o2
      have hRb : R < 1000000000 := by omega
      obtain ⟨A', c', hv, h1, h2, h3, h4⟩ := HO.out.parts
      injection hv with hv1 hv2 hv3
      subst hv1
      have H3 := Lib.hid h3
      have HS := Lib.hid hS
      have H4 := Lib.hid o3
      have hRm : (R : Int) % 4294967296 = (R : Int) := by omega
      clear o1 o2 o3 hv2 hv3 h1 h2 h3 h4 hS
      go_wp2_with fail
      refine (ztr _ _ k O _ hlen.out (Nat.le_refl _) (by omega) H3.out).mono ?_
      rintro e w' ⟨rfl, rfl⟩
      go_wp2_with fail
      go_ret2
      exact ⟨_, by rw [← H4.out]; rfl, HS.out, HE.out⟩
end Go.Proofs.YtbldlibijojbjaaGreatDoor.GB

namespace Go.Proofs.YtbldlibijojbjaaGreatDoor.GB
set_option linter.unusedVariables false
set_option linter.unusedSimpArgs false
open Go.RowKit
attribute [local go_sem ↓] Go.wp_at_zero Go.wp_at_succ
/-! Only block g is written. -/
def WG (g : Nat) (w w' : World) : Prop := w.grownBy w' (some g)
theorem WG.rfl' (g : Nat) (w : World) : WG g w w := ⟨rfl, rfl, rfl, Nat.le_refl _, fun _ _ _ => rfl⟩
theorem WG.set {g : Nat} {w w' : World} (h : WG g w w') (j : Nat) (x : Value) : WG g w (w'.setCell ⟨g, j, none⟩ x) :=
  ⟨h.os, h.tape, h.output, by simpa using h.size, fun k hk hne => (Below.heap_setCell _ _ _ _ (by intro e; exact hne (by rw [e]))).trans (h.block k hk hne)⟩
theorem WG.drN {g : Nat} {w w' : World} (h : WG g w w') (n : Nat) : WG g w (w'.drewN n) := ⟨h.os, h.tape, h.output, h.size, h.block⟩
theorem WG.rd {g : Nat} {w w' : World} {B : Option Addr} {V : List Nat} (h : WG g w w') (hr : RdN w B V) (hB : ∀ a, B = some a → a.block ≠ g) : RdN w' B V := fun j hj => by
  obtain ⟨b, off, e, hb, hc⟩ := hr j hj
  have hne := hB _ e
  exact ⟨b, off, e, Nat.lt_of_lt_of_le hb h.size, (World.cell?_of_block (w := w) (w' := w') (a := ⟨b, off + j, none⟩) (h.block b hb (by intro e2; exact hne (Option.some.inj e2)))).trans hc⟩
theorem WG.ext {g : Nat} {w0 w w' : World} (h : WG g w w') (hE : Ext w0 w) (hg : w0.heap.size ≤ g) : Ext w0 w' :=
  ⟨h.os.trans hE.os, h.tape.trans hE.tape, h.output.trans hE.output, Nat.le_trans hE.size h.size, fun i hi => (h.block i (Nat.lt_of_lt_of_le hi hE.size) (by intro e; have := Option.some.inj e; omega)).trans (hE.block i hi)⟩
theorem WG.at_ {g g2 c : Nat} {w w' : World} {l : List Nat} (h : WG g w w') (ha : At w g2 c l) (hne : g2 ≠ g) : At w' g2 c l :=
  World.ownsRow.kept ha (row := some g) h (.inr (by simp [Value.ownBlock]; exact hne))
theorem set_mid {U D : List Nat} {j k x : Nat} (hD : D.length = k) (h : j + k < U.length) : (U.take j ++ (D ++ U.drop (j + k))).set (j + k) x = (U.set (j + k) x).take j ++ (D ++ (U.set (j + k) x).drop (j + k)) := by
  have e0 : (U.set (j + k) x).take j = U.take j := by rw [List.take_set_of_le (by omega)]
  rw [e0, List.set_append_right _ _ (by simp; omega), List.set_append_right _ _ (by simp; omega)]
  have e1 : j + k - (U.take j).length - D.length = 0 := by simp; omega
  have h2 : j + k < (U.set (j + k) x).length := by rw [List.length_set]; exact h
  have e2 : (U.set (j + k) x).drop (j + k) = x :: U.drop (j + k + 1) := by
    rw [List.drop_eq_getElem_cons h2, List.getElem_set_self, List.drop_set_of_lt (by omega)]
  rw [e1, List.drop_eq_getElem_cons h, List.set_cons_zero, e2]
theorem set_end {U : List Nat} {j k x : Nat} : (U.set (j + k) x).take j = U.take j ∧ (U.set (j + k) x).drop (j + k + 1) = U.drop (j + k + 1) := by
  exact ⟨by rw [List.take_set_of_le (by omega)], by rw [List.drop_set_of_lt (by omega)]⟩
set_option maxHeartbeats 4000000 in
set_option maxRecDepth 200000 in
theorem zreduce_any (g c n j t lu cb N : Nat) (B : Option Addr) (U V Q : List Nat) (w : World) (HKI : Hid (KInv V N n (j + 1) U Q)) (HOV : Hid (Ok V)) (HVL : Hid (V.length = n)) (HUL : Hid (U.length = lu)) (hjl : j + n < lu) (hlu : lu ≤ 1099511627776)
    (ht : t < 1000000000) (HTQ : Hid (val (U.drop j) / val V ≤ t ∧ t ≤ val (U.drop j) / val V + 1)) (hU : At w g c U) (hV : RdN w B V) (hB : ∀ a, B = some a → a.block ≠ g) :
    Calls Tryz.prog 158 #[.slice (some ⟨g, 0, none⟩) lu c, .slice B n cb, .int .i64 (j : Int), .int .u64 (t : Int)] w fun e w' =>
      ∃ (g' : Nat) (D' : List Nat), e = .returned (.int .u32 (g' : Int)) ∧ DStep U V j n g' D' ∧ At w' g c (U.take j ++ (D' ++ 0 :: U.drop (j + n + 1))) ∧ WG g w w' := by
  have HU0 := Lib.hid hU
  have HVV := Lib.hid hV
  have HBg := Lib.hid hB
  have hGB : t < BB := ht
  have HGB := Lib.hid hGB
  clear hU hV hB hGB
  go_enter Tryz.func158, Tryz.ntmps158
  go_wp2
  go_loopw [10, 11, 12] (fun bs cs is wr => ∃ (i C b : Nat) (D : List Nat), i ≤ n ∧ is = .int .i64 (i : Int) ∧ cs = .int .u64 (C : Int) ∧ bs = .int .i64 (b : Int) ∧ Hid (C < Nine9) ∧ b ≤ 1 ∧ Hid (SInv U V j t i D C b) ∧ Hid (At wr g c (U.take j ++ (D ++ U.drop (j + i)))) ∧ Hid (WG g w wr)) (fun _ _ is _ => n - (intOf is).toNat)
  case atStart => exact ⟨0, 0, 0, [], Nat.zero_le _, rfl, rfl, rfl, (by show (0 : Nat) < 1000000000; omega), by omega, SInv.start U V j t, by rw [mid_start]; exact HU0, WG.rfl' g w⟩
  case round =>
    clear HU0
    obtain ⟨i, C, b', D, hi', rfl, rfl, rfl, hCn, hb', HS, HU2, HG⟩ := hrel
    have hC9 : C < 1000000000 := hCn
    by_cases hik : i < n
    · have hjlU : j + i < U.length := by have : U.length = lu := HUL.out; omega
      obtain ⟨bv, ov, rfl, hbv, cV⟩ := HG.out.rd HVV.out HBg.out i (by rw [HVL.out]; exact hik)
      have cU := HU2.out.cell (i + j) (by rw [mid_len HS.out.1 (by omega)]; omega)
      rw [mid_get HS.out.1 (by omega) (Nat.le_refl _), Nat.add_comm i j] at cU
      have fU : wr.frozen? ⟨g, j + i, none⟩ = false := HU2.out.froz (j + i)
      have hye : wd V i = V[i]'(by rw [HVL.out]; exact hik) := wd_lt _
      rw [← hye] at cV
      have hy : wd V i < 1000000000 := wd_ok HOV.out _
      have hx : wd U (j + i) < 1000000000 := wd_ok HKI.out.okU _
      obtain ⟨y', hye2⟩ : ∃ y', wd V i = y' := ⟨_, rfl⟩
      obtain ⟨x', hxe⟩ : ∃ x', wd U (j + i) = x' := ⟨_, rfl⟩
      rw [hye2] at cV hy
      rw [hxe] at cU hx
      have HY := Lib.hid hye2
      have HX := Lib.hid hxe
      have HJL := Lib.hid hjlU
      clear hye hye2 hxe hjlU hbv
      have hm0 : 0 ≤ (t : Int) * (y' : Int) := Int.mul_nonneg (by omega) (by omega)
      have hm : (t : Int) * (y' : Int) ≤ 999999998000000001 := by
        have : t * y' ≤ 999999999 * 999999999 := Nat.mul_le_mul (by omega) (by omega)
        have e : ((t * y' : Nat) : Int) = (t : Int) * (y' : Int) := Int.natCast_mul t y'
        omega
      by_cases hneg : (x' : Int) - ((t : Int) * (y' : Int) + (C : Int)) % 1000000000 - (b' : Int) < 0
      · have HNG := Lib.hid hneg
        go_wp2
        have hpc : (t : Int) * (y' : Int) + (C : Int) = ((t * y' + C : Nat) : Int) := by push_cast; rfl
        have hpm : ((t : Int) * (y' : Int) + (C : Int)) % 1000000000 = (((t * y' + C) % 1000000000 : Nat) : Int) := cast_mod hpc
        have HS2 := HS.out.step (p := t * y' + C) (c' := (t * y' + C) / 1000000000) (d := (x' : Int) - (((t * y' + C) % 1000000000 : Nat) : Int) - (b' : Int)) (d' := ((x' : Int) - ((t : Int) * (y' : Int) + (C : Int)) % 1000000000 - (b' : Int) + 1000000000).toNat) (bw' := 1) HKI.out.okU HOV.out HGB.out (by rw [HY.out]) rfl (by rw [HX.out]) (by rw [← hpm]; exact (.inl ⟨HNG.out, by omega, rfl⟩))
        have hC2 : Hid ((t * y' + C) / 1000000000 < Nine9) := HS2.2.2.1
        go_roundw
        case rel =>
          refine ⟨i + 1, (t * y' + C) / 1000000000, 1, D ++ [((x' : Int) - ((t : Int) * (y' : Int) + (C : Int)) % 1000000000 - (b' : Int) + 1000000000).toNat], by omega, by go_num, ret_int' (cast_div hpc), rfl, hC2, by omega, HS2, ?_, HG.out.set _ _⟩
          have hset := mid_set (d := ((x' : Int) - ((t : Int) * (y' : Int) + (C : Int)) % 1000000000 - (b' : Int) + 1000000000).toNat) HS.out.1 (by have := HJL.out; omega : j + i < U.length)
          rw [Nat.add_comm i j] at hset
          rw [← hset]
          exact HU2.out.store (j + i) _ (by have := HNG.out; omega)
        case measure => simp [intOf]; omega
      · have HNG := Lib.hid hneg
        go_wp2
        have hpc : (t : Int) * (y' : Int) + (C : Int) = ((t * y' + C : Nat) : Int) := by push_cast; rfl
        have hpm : ((t : Int) * (y' : Int) + (C : Int)) % 1000000000 = (((t * y' + C) % 1000000000 : Nat) : Int) := cast_mod hpc
        have HS2 := HS.out.step (p := t * y' + C) (c' := (t * y' + C) / 1000000000) (d := (x' : Int) - (((t * y' + C) % 1000000000 : Nat) : Int) - (b' : Int)) (d' := ((x' : Int) - ((t : Int) * (y' : Int) + (C : Int)) % 1000000000 - (b' : Int)).toNat) (bw' := 0) HKI.out.okU HOV.out HGB.out (by rw [HY.out]) rfl (by rw [HX.out]) (by rw [← hpm]; exact (.inr ⟨by have := HNG.out; omega, by have := HNG.out; omega, rfl⟩))
        have hC2 : Hid ((t * y' + C) / 1000000000 < Nine9) := HS2.2.2.1
        go_roundw
        case rel =>
          refine ⟨i + 1, (t * y' + C) / 1000000000, 0, D ++ [((x' : Int) - ((t : Int) * (y' : Int) + (C : Int)) % 1000000000 - (b' : Int)).toNat], by omega, by go_num, ret_int' (cast_div hpc), rfl, hC2, by omega, HS2, ?_, HG.out.set _ _⟩
          have hset := mid_set (d := ((x' : Int) - ((t : Int) * (y' : Int) + (C : Int)) % 1000000000 - (b' : Int)).toNat) HS.out.1 (by have := HJL.out; omega : j + i < U.length)
          rw [Nat.add_comm i j] at hset
          rw [← hset]
          exact HU2.out.store (j + i) _ (by have := HNG.out; omega)
        case measure => simp [intOf]; omega
    · have hie : i = n := by omega
      have HS3 : Hid (SInv U V j t n D C b') := by rw [← hie]; exact HS
      have HU3 : Hid (At wr g c (U.take j ++ (D ++ U.drop (j + n)))) := by rw [← hie]; exact HU2
      have hlt : j + n < U.length := by have : U.length = lu := HUL.out; omega
      have cU := HU3.out.cell (j + n) (by rw [mid_len HS3.out.1 (by omega)]; exact hlt)
      have fU : wr.frozen? ⟨g, j + n, none⟩ = false := HU3.out.froz (j + n)
      have hge := mid_get (U := U) (D := D) (j := j) HS3.out.1 (by omega : j + n ≤ U.length) (Nat.le_refl n)
      rw [Nat.add_comm n j] at hge
      obtain ⟨u1, hu1⟩ : ∃ u1, wd U (j + n) = u1 := ⟨_, rfl⟩
      rw [hge, hu1] at cU
      have hu1b : u1 < 1000000000 := by rw [← hu1]; exact wd_ok HKI.out.okU _
      have hdn := HS3.out.done (last := (u1 : Int) - (C : Int) - (b' : Int)) HKI.out HOV.out HVL.out HTQ.out.2 HTQ.out.1 (by rw [hu1])
      have HDN := Lib.hid hdn
      have HLT := Lib.hid hlt
      clear hie hlt hge hdn HS HU2 hu1
      by_cases hl0 : (u1 : Int) - (C : Int) - (b' : Int) < 0
      · obtain ⟨e1, e2, e3, e4, e5⟩ := HDN.out.2 hl0
        have HL1 := Lib.hid e1
        have H3 := Lib.hid e3
        have H4 := Lib.hid e4
        have H5 := Lib.hid e5
        have hG1 : 1 ≤ t := e2
        have hnn : ¬ (0 : Int) ≤ (u1 : Int) - (C : Int) - (b' : Int) := by omega
        clear e1 e2 e3 e4 e5
        go_wp2
        clear hl0 hnn
        have HDk : Hid (D.length = n) := HS3.out.1
        have HDo : Hid (Ok D) := HS3.out.2.1
        have hst : (u1 : Int) - (C : Int) - (b' : Int) + 1000000000 = ((999999999 : Nat) : Int) := by have := HL1.out; omega
        have HG5 := Lib.hid (HG.out.set (j + n) (.int .u32 ((u1 : Int) - (C : Int) - (b' : Int) + 1000000000)))
        have hU5 := HU3.out.store (j + n) 999999999 hst
        rw [set_mid HS3.out.1 HLT.out] at hU5
        obtain ⟨U2, hU2e⟩ : ∃ U2, U.set (j + n) 999999999 = U2 := ⟨_, rfl⟩
        have HE2 : Hid (U2.take j = U.take j ∧ U2.drop (j + n + 1) = U.drop (j + n + 1)) := by rw [← hU2e]; exact set_end
        have HU2L : Hid (U2.length = lu) := by unfold Hid; rw [← hU2e, List.length_set]; exact HUL.out
        have HU2w : Hid (wd U2 (j + n) = 999999999) := by
          unfold Hid
          rw [← hU2e]
          have := HLT.out
          simp [wd, this]
        rw [hU2e] at hU5
        have HU5 := Lib.hid hU5
        clear hU5 hU2e hst HU3 cU fU HG
        generalize wr.setCell ⟨g, j + n, none⟩ (.int .u32 ((u1 : Int) - (C : Int) - (b' : Int) + 1000000000)) = W5 at *
        go_loopw [16, 17] (fun us is wr => ∃ (i up : Nat) (E : List Nat), i ≤ n ∧ is = .int .i64 (i : Int) ∧ us = .int .u32 (up : Int) ∧ up ≤ 1 ∧ Hid (AInv D V i E up) ∧ Hid (At wr g c (U2.take j ++ (E ++ (D.drop i ++ U2.drop (j + n))))) ∧ Hid (WG g w wr)) (fun _ is _ => n - (intOf is).toNat)
        case atStart => exact ⟨0, 0, [], Nat.zero_le _, rfl, rfl, by omega, AInv.start D V, by rw [← add_start]; exact HU5, HG5⟩
        case round =>
          clear HU5 HG5
          obtain ⟨i2, up, E, hi2, rfl, rfl, hup, HA, HU4, HG⟩ := hrel
          by_cases hik2 : i2 < n
          · have hjl2 : j + n ≤ U2.length := by have : U2.length = lu := HU2L.out; omega
            obtain ⟨bv, ov, rfl, hbv, cV⟩ := HG.out.rd HVV.out HBg.out i2 (by rw [HVL.out]; exact hik2)
            have cU := HU4.out.cell (i2 + j) (by rw [add_len HA.out.1 HDk.out hi2 hjl2]; omega)
            rw [add_get HA.out.1 HDk.out hik2 hjl2, Nat.add_comm i2 j] at cU
            have hye : wd V i2 = V[i2]'(by rw [HVL.out]; exact hik2) := wd_lt _
            rw [← hye] at cV
            have hy : wd V i2 < 1000000000 := wd_ok HOV.out _
            have hx : wd D i2 < 1000000000 := wd_ok HDo.out _
            obtain ⟨y', hye2⟩ : ∃ y', wd V i2 = y' := ⟨_, rfl⟩
            obtain ⟨x', hxe⟩ : ∃ x', wd D i2 = x' := ⟨_, rfl⟩
            rw [hye2] at cV hy
            rw [hxe] at cU hx
            have HY := Lib.hid hye2
            have HX := Lib.hid hxe
            have HJL := Lib.hid hjl2
            have q0 := cU
            have q1 := cV
            clear hye hye2 hxe hjl2 hbv
            go_wp2
            go_quiet (fail)
            all_goals
              have HU6 : Hid (At (wr.drewN nq) g c (U2.take j ++ (E ++ (D.drop i2 ++ U2.drop (j + n))))) := HU4.out
              have HG6 : Hid (WG g w (wr.drewN nq)) := HG.out.drN nq
              have fU : (wr.drewN nq).frozen? ⟨g, j + i2, none⟩ = false := HU6.out.froz (j + i2)
              have cU2 : (wr.drewN nq).cell? ⟨g, j + i2, none⟩ = some (.int .u32 (x' : Int)) := cU
              clear cU cV q0 q1 HU4 HG
              generalize wr.drewN nq = wx at *
              go_wp2
              have HA2 := HA.out.step (s := up + (x' + y')) HDo.out HOV.out (by rw [HX.out, HY.out])
              have hup2 : (up + (x' + y')) / 1000000000 ≤ 1 := by omega
              go_roundw
              case rel =>
                refine ⟨i2 + 1, (up + (x' + y')) / 1000000000, E ++ [(up + (x' + y')) % 1000000000], by omega, by go_num, by go_num, hup2, HA2, ?_, HG6.out.set _ _⟩
                have hset := add_set (e := (up + (x' + y')) % 1000000000) HA.out.1 HDk.out hik2 HJL.out
                rw [Nat.add_comm i2 j] at hset
                rw [← hset]
                exact HU6.out.store (j + i2) _ (by omega)
              case measure => simp [intOf]; omega
          · have hie2 : i2 = n := by omega
            have hHA : AInv D V n E up := by have := HA.out; rwa [hie2] at this
            have hHU : At wr g c (U2.take j ++ (E ++ U2.drop (j + n))) := by have := HU4.out; rw [hie2, add_end HDk.out] at this; exact this
            obtain ⟨q1, q2, q3⟩ := hHA.done (j := j) (U := U) (g := t) HOV.out HVL.out HDk.out hG1 H3.out H4.out H5.out
            subst q1
            have HDS : Hid (DStep U V j n (t - 1) E) := ⟨hHA.1, hHA.2.1, by have : t < BB := HGB.out; omega, by
              have e : ((t : Int) - 1) = ((t - 1 : Nat) : Int) := by omega
              exact q2, q3⟩
            have hL2 : j + n < U2.length := by have : U2.length = lu := HU2L.out; omega
            have cU := hHU.cell (j + n) (by rw [mid_len hHA.1 (by omega)]; exact hL2)
            have hge := mid_get (U := U2) (D := E) (j := j) hHA.1 (by omega : j + n ≤ U2.length) (Nat.le_refl n)
            rw [Nat.add_comm n j, HU2w.out] at hge
            rw [hge] at cU
            have fU : wr.frozen? ⟨g, j + n, none⟩ = false := hHU.froz (j + n)
            have HHU := Lib.hid hHU
            have HL2 := Lib.hid hL2
            have HEl := Lib.hid hHA.1
            clear hie2 hHA hHU q2 q3 HU4 hge hL2
            go_wp2
            go_ret
            have hset := end_set (U := U2) (j := j) HEl.out HL2.out
            rw [HE2.out.1, HE2.out.2] at hset
            have e9 : ((t - 1 : Nat) : Int) = (t : Int) - 1 := by omega
            refine ⟨t - 1, E, by rw [e9]; rfl, HDS.out, ?_, HG.out.set _ _⟩
            rw [← hset, ← HE2.out.1]
            exact HHU.out.store (j + n) 0 (by omega)
      · obtain ⟨e1, e2, e3⟩ := HDN.out.1 (by omega)
        have hnn : (0 : Int) ≤ (u1 : Int) - (C : Int) - (b' : Int) := by omega
        have HDS : Hid (DStep U V j n t D) := ⟨HS3.out.1, HS3.out.2.1, HGB.out, e2, e3⟩
        have HL1 := Lib.hid e1
        clear e1 e2 e3
        go_wp2
        go_ret
        have hset := end_set (U := U) (j := j) HDS.out.1 HLT.out
        refine ⟨t, rfl, D, HDS.out, ?_, HG.out.set _ _⟩
        rw [← hset]
        exact HU3.out.store (j + n) 0 (by have := HL1.out; omega)
end Go.Proofs.YtbldlibijojbjaaGreatDoor.GB

namespace Go.Proofs.YtbldlibijojbjaaGreatDoor.GB
set_option linter.unusedVariables false
set_option linter.unusedSimpArgs false
/-! The beginning of a long division. -/
theorem top_lt {b m : Nat} (hm : (wds b).length = m) (h1 : 1 ≤ m) : b < (wd (wds b) (m - 1) + 1) * BB ^ (m - 1) := by
  have h := val_split (wds b) (m - 1)
  have h2 := val_take_lt (ok_wds b) (m - 1)
  have h3 := val_drop_cons (wds b) (m - 1)
  have h4 : (wds b).drop (m - 1 + 1) = [] := List.drop_eq_nil_of_le (by omega)
  rw [h4, show val [] = 0 from rfl, Nat.mul_zero, Nat.add_zero] at h3
  rw [val_wds, h3] at h
  rw [Nat.add_mul, Nat.one_mul, Nat.mul_comm (wd (wds b) (m - 1))]
  omega
theorem scaled_len {b m : Nat} (hm : (wds b).length = m) (h1 : 1 ≤ m) (ht : wd (wds b) (m - 1) < 1000000000) : (wds (b * fac (wd (wds b) (m - 1)))).length = m := by
  have hb := top_lt hm h1
  have hf := fac_pos ht
  have hle : fac (wd (wds b) (m - 1)) * (wd (wds b) (m - 1) + 1) ≤ BB := by
    unfold fac; rw [BB_eq]; exact Nat.div_mul_le_self _ _
  generalize wd (wds b) (m - 1) = t at *
  have h2 : b * fac t < BB ^ m := by
    have h3 : b * fac t < (t + 1) * BB ^ (m - 1) * fac t := Nat.mul_lt_mul_of_pos_right hb hf
    have h4 : (t + 1) * BB ^ (m - 1) * fac t = fac t * (t + 1) * BB ^ (m - 1) := by grind
    have h5 : fac t * (t + 1) * BB ^ (m - 1) ≤ BB * BB ^ (m - 1) := Nat.mul_le_mul_right _ hle
    have h6 : BB * BB ^ (m - 1) = BB ^ m := by rw [Nat.mul_comm, ← Nat.pow_succ]; congr 1; omega
    omega
  have h7 := wds_len_le h2
  have h8 := wds_mono (Nat.le_mul_of_pos_right b hf)
  omega
/-- The dividend's words, with one more. -/
def u0 (N n : Nat) : List Nat := (wds N ++ [0, 0]).take (n + 1)
theorem u0_len {N n : Nat} (h : n ≤ (wds N).length) : (u0 N n).length = n + 1 := by unfold u0; simp; omega
theorem zeros2 (i : Nat) : val (([0, 0] : List Nat).drop i) = 0 := by
  rcases i with _ | _ | i
  · rfl
  · rfl
  · simp [val]
theorem u0_ok (N n : Nat) : Ok (u0 N n) := by
  unfold u0
  refine Ok.take (Ok.append.2 ⟨ok_wds N, fun w hw => ?_⟩) _
  have : w = 0 := by simpa using hw
  rw [this]; exact BB_pos
theorem u0_val {N n : Nat} (h : (wds N).length ≤ n + 1) : val (u0 N n) = N := by
  have h1 := val_split (wds N ++ [0, 0]) (n + 1)
  have h2 : val (wds N ++ [0, 0]) = N := by
    have e : wds N ++ [0, 0] = (wds N ++ [0]) ++ [0] := by simp
    rw [e, val_snoc_zero, val_snoc_zero, val_wds]
  have h3 : (wds N ++ [0, 0]).drop (n + 1) = ([0, 0] : List Nat).drop (n + 1 - (wds N).length) := by
    rw [List.drop_append, List.drop_eq_nil_of_le h, List.nil_append]
  rw [h2, h3, zeros2, Nat.mul_zero, Nat.add_zero] at h1
  exact h1.symm
theorem okinv_start {a b f n m : Nat} (hn : (wds a).length = n) (hm : (wds b).length = m) (hm1 : 1 ≤ m) (hle : m ≤ n) (hb : b ≠ 0) (hf : 0 < f) (h1 : n ≤ (wds (a * f)).length) (h2 : (wds (a * f)).length ≤ n + 1) (hv : (wds (b * f)).length = m) :
    KInv (wds (b * f)) (a * f) m (n + 1 - m) (u0 (a * f) n) (List.replicate (n + 1 - m) 0) := by
  refine ⟨u0_ok _ _, ok_zeros _, by rw [u0_len h1]; simp; omega, by simp, ?_, ?_⟩
  · rw [List.drop_eq_nil_of_le (by simp), u0_val h2, val_wds]; simp [val]
  · have h3 := val_split (u0 (a * f) n) (n + 1 - m)
    rw [u0_val h2] at h3
    rw [val_wds]
    have h4 := wds_len_lt a
    rw [hn] at h4
    have h5 := wds_len_ge hb
    rw [hm] at h5
    have h6 : a * f < BB ^ n * f := Nat.mul_lt_mul_of_pos_right h4 hf
    have h7 : BB ^ n = BB ^ (n + 1 - m) * BB ^ (m - 1) := by rw [← Nat.pow_add]; congr 1; omega
    have h8 : BB ^ (m - 1) * f ≤ b * f := Nat.mul_le_mul_right f h5
    generalize val ((u0 (a * f) n).drop (n + 1 - m)) = X at *
    have h9 : BB ^ (n + 1 - m) * X < BB ^ (n + 1 - m) * (b * f) := by
      have h10 : BB ^ n * f ≤ BB ^ (n + 1 - m) * (b * f) := by
        rw [h7, Nat.mul_assoc]; exact Nat.mul_le_mul_left _ h8
      omega
    exact Nat.lt_of_mul_lt_mul_left h9
theorem RdN.cells {w : Go.World} {ad : Go.Addr} {l : List Nat} (h : RdN w (some ad) l) : ∀ j u, (u32s l)[j]? = some u → w.cell? (ad.add j) = some u := by
  intro j u hu
  obtain ⟨hj, rfl⟩ := List.getElem?_eq_some_iff.1 hu
  have hj' : j < l.length := by simpa [u32s] using hj
  obtain ⟨b, off, e, h1, h2⟩ := h j hj'
  cases e
  simp only [Go.Addr.add, u32s, List.getElem_map]
  by_cases h0 : j = 0
  · subst h0; simpa using h2
  · rw [if_neg h0]; exact h2
open Go Go.RowKit in
theorem zCmp_w (v1 v2 : Value) (a b : Nat) (w : World) (h1 : SlN w v1 a) (h2 : SlN w v2 b) (hla : (wds a).length ≤ 1099511627776) (hlb : (wds b).length ≤ 1099511627776) :
    Calls Tryz.prog 110 #[v1, v2] w fun e w' => e = .returned (.int .i64 (cmpZ a b)) ∧ Ext w w' := by
  obtain ⟨A, ca, rfl⟩ := SlN.slc h1
  obtain ⟨B, cb, rfl⟩ := SlN.slc h2
  exact zCmp_any A B ca cb _ _ a b w rfl rfl hla hlb (SlN.rd h1).2 (SlN.rd h2).2
end Go.Proofs.YtbldlibijojbjaaGreatDoor.GB
