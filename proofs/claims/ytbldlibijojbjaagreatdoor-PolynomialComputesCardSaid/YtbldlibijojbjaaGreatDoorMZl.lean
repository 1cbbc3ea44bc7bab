import Derived.Test.YtbldlibijojbjaaGreatDoorMZx
import Derived.Deep.RegionHeld3
import Derived.Deep.DeepCutAuto
import Derived.Deep.CutBlock
import Derived.Deep.AppendLies
namespace Go.Proofs.YtbldlibijojbjaaGreatDoor.GB
set_option linter.unusedVariables false
set_option linter.unusedSimpArgs false
open Go.RowKit
attribute [local go_sem ↓] Go.wp_at_zero Go.wp_at_succ
/-- What long division answers. -/
def OverR (a b : Nat) (w : World) (e : Ending) (w' : World) : Prop := ∃ v3 v4, e = .returned (.tuple #[v3, v4]) ∧ SlN w' v3 (a / b) ∧ SlN w' v4 (a % b) ∧ Ext w w'
set_option maxHeartbeats 8000000 in
set_option maxRecDepth 200000 in
theorem zOver_big (v1 v2 : Value) (a b : Nat) (w : World) (h1 : SlN w v1 a) (h2 : SlN w v2 b) (hle : b ≤ a) (hb2 : 2 ≤ (wds b).length) (hla : (wds a).length ≤ 549755813888) :
    Calls Tryz.prog 141 #[v1, v2] w (OverR a b w) := by
  obtain ⟨i0, hi, hz0, hz1, hz2⟩ := info_parts Tryz.infoU32
  have hb0 : b ≠ 0 := by intro e; rw [e, wds_zero] at hb2; simp at hb2
  have hmn : (wds b).length ≤ (wds a).length := wds_mono hle
  obtain ⟨A, ca, rfl⟩ := SlN.slc h1
  obtain ⟨B, cb, rfl⟩ := SlN.slc h2
  obtain ⟨n, hn⟩ : ∃ n, (wds a).length = n := ⟨_, rfl⟩
  obtain ⟨m, hm⟩ : ∃ m, (wds b).length = m := ⟨_, rfl⟩
  rw [hn] at h1 hla hmn ⊢
  rw [hm] at h2 hb2 hmn ⊢
  have ht1 : wd (wds b) (m - 1) < 1000000000 := wd_ok (ok_wds b) _
  have ht0 : 0 < wd (wds b) (m - 1) := by
    have hlt : m - 1 < (wds b).length := by omega
    rcases Nat.eq_zero_or_pos (wd (wds b) (m - 1)) with h | h
    · exfalso
      have := wds_last b
      rw [List.getLast?_eq_getElem?, hm, List.getElem?_eq_getElem hlt, ← wd_lt hlt, h] at this
      exact this rfl
    · exact h
  have hsc := scaled_len hm (by omega) ht1
  have hf0 := fac_pos ht1
  have hf1 := fac_lt _ ht0
  obtain ⟨bb, fb, rfl, hbb, hcb⟩ := (SlN.rd h2).2 (m - 1) (by omega)
  have hcb' : w.cell? ⟨bb, fb + (m - 1), none⟩ = some (.int .u32 (wd (wds b) (m - 1) : Nat)) := by rw [hcb, wd_lt (by omega)]
  clear hcb hbb
  obtain ⟨top, htop⟩ : ∃ top, wd (wds b) (m - 1) = top := ⟨_, rfl⟩
  rw [htop] at hcb' ht1 ht0 hsc hf0 hf1
  have hfz : (1000000000 : Int) / ((top : Int) + 1) = ((fac top : Nat) : Int) := by unfold fac; rw [Int.natCast_ediv]; rfl
  clear htop
  generalize hff : fac top = f at *
  clear hff
  have H1 := Lib.hid h1
  have H2 := Lib.hid h2
  have HN := Lib.hid hn
  have HM := Lib.hid hm
  have HSC := Lib.hid hsc
  have HB0 := Lib.hid hb0
  have hcmp := zCmp_w _ _ a b w h1 h2 (by rw [hn]; omega) (by rw [hm]; omega)
  have hcz : ∃ cz : Int, cmpZ a b = cz ∧ ¬ cz < 0 := ⟨_, rfl, by
    rcases Nat.lt_or_ge b a with h | h
    · rw [cmpZ_gt h]; decide
    · rw [show a = b by omega, cmpZ_eq]; decide⟩
  obtain ⟨cz, hcz1, hcz2⟩ := hcz
  rw [hcz1] at hcmp
  have HCmp := Lib.hid hcmp
  have HLE := Lib.hid hle
  have HC := Lib.hid hcb'
  have hm1 : ((m : Int) == 1) = false := by rw [beq_eq_false_iff_ne]; omega
  have hfm : ((f : Nat) : Int) % 4294967296 = (f : Int) := by omega
  clear h1 h2 hn hm hsc hb0 hcmp hcz1 hle hcb'
  go_enter Tryz.func141, Tryz.ntmps141
  go_wp2_with fail
  refine HCmp.out.mono ?_
  rintro e w1 ⟨rfl, hE⟩
  have HE1 := Lib.hid hE
  have c1 := hE.cell HC.out
  clear hE
  go_wp2_with fail
  refine (zSmall_any f _ (by omega)).mono ?_
  rintro e w2 ⟨vf, rfl, hvf, hE⟩
  have HE2 := Lib.hid (HE1.out.tr hE)
  have HF2 := Lib.hid hvf
  clear hE hvf c1
  have hlf : (wds f).length = 1 := by rw [wds_small (by omega) hf1]; rfl
  have HLF := Lib.hid hlf
  obtain ⟨Af, cf, rfl⟩ := SlN.slc HF2.out
  rw [hlf] at HF2
  rw [hlf]
  clear hlf
  go_wp2_with fail
  refine (zTimes_v _ _ b f _ (SlN.ext H2.out HE2.out) HF2.out (by rw [HM.out]; omega) (by rw [HLF.out]; omega)).mono ?_
  rintro e w3 ⟨vv, rfl, hvv, hE⟩
  have HE3 := Lib.hid (HE2.out.tr hE)
  have HF3 := Lib.hid (SlN.ext HF2.out hE)
  have HV3 := Lib.hid hvv
  obtain ⟨Av, cv, rfl⟩ := SlN.slc HV3.out
  rw [HSC.out] at HV3
  rw [HSC.out]
  clear hE hvv
  -- the empty number
  have hO4 : OwnN (w3.alloc (.cells #[] 124)) w3.heap.size (.slice (some ⟨w3.heap.size, 0, none⟩) 0 0) [] :=
    ⟨rfl, .inr ⟨w3.heap.size, 0, #[], rfl, Nat.le_refl _, World.alloc_heap_new w3 _, Nat.le_refl _, by simp [maxLen], rfl, rfl⟩⟩
  have hE4 : Ext w3 (w3.alloc (.cells #[] 124)) := (Ext.rfl' w3).al _
  have HO4 := Lib.hid hO4
  have HE4 := Lib.hid hE4
  clear hO4 hE4
  go_wp2_with fail
  generalize hW4 : w3.alloc (.cells #[] 124) = w4 at *
  clear hW4
  have HE4' := Lib.hid (HE3.out.tr HE4.out)
  refine (zTimes_v _ _ a f _ (SlN.ext H1.out HE4'.out) (SlN.ext HF3.out HE4.out) (by rw [HN.out]; omega) (by rw [HLF.out]; omega)).mono ?_
  rintro e w5 ⟨vu, rfl, hvu, hE⟩
  have HE5 := Lib.hid (HE4.out.tr hE)
  have HO5 := Lib.hid (HO4.out.ext hE)
  have haf : 0 < a * f := Nat.mul_pos (by have := HLE.out; have := HB0.out; omega) hf0
  have hnl : n ≤ (wds (a * f)).length := by rw [← HN.out]; exact wds_mono (Nat.le_mul_of_pos_right a hf0)
  have hnu : (wds (a * f)).length ≤ n + 1 := by
    have h1 := wds_len_lt a
    rw [HN.out] at h1
    refine wds_len_le ?_
    rw [Nat.pow_succ]
    exact Nat.mul_lt_mul_of_lt_of_le h1 (by rw [BB_eq]; omega) (by rw [BB_eq]; omega)
  have hpos := wds_len_pos (by omega : a * f ≠ 0)
  obtain ⟨Au, cu2, rfl⟩ := SlN.slc hvu
  obtain ⟨bu, ou, rfl, -, -⟩ := (SlN.rd hvu).2 0 hpos
  have HSrc := Lib.hid ((SlN.rd hvu).2.cells)
  have HKI := Lib.hid (okinv_start HN.out HM.out (by omega) hmn HB0.out hf0 hnl hnu HSC.out)
  have HU0L := Lib.hid (u0_len hnl)
  have HU0e : Hid (u0 (a * f) n = (wds (a * f) ++ [0, 0]).take (n + 1)) := rfl
  have HTZ : Hid (tz (wds (a * f) ++ [0, 0]) = wds (a * f)) := by
    unfold Hid
    have ho : Ok (wds (a * f) ++ [0, 0]) := Ok.append.2 ⟨ok_wds _, fun w hw => by
      have : w = 0 := by simpa using hw
      rw [this]; exact BB_pos⟩
    rw [tz_wds ho]
    have e : wds (a * f) ++ [0, 0] = (wds (a * f) ++ [0]) ++ [0] := by simp
    rw [e, val_snoc_zero, val_snoc_zero, val_wds]
  have HTk : Hid (OwnN w5 w3.heap.size (.slice none 0 0) [] → True) := fun _ => trivial
  have hls : (u32s (wds (a * f))).length = (wds (a * f)).length * 1 := by rw [u32s_length, Nat.mul_one]
  have h1c : ∀ u ∈ u32s (wds (a * f)), u.oneCell' = true := by
    intro u hu
    obtain ⟨_, _, rfl⟩ := List.mem_map.1 hu
    rfl
  have HLS := Lib.hid hls
  have H1C := Lib.hid h1c
  clear hE hvu haf hls h1c HTk
  obtain ⟨L, hL⟩ : ∃ L, L = (wds (a * f)).length := ⟨_, rfl⟩
  obtain ⟨l, hl⟩ : ∃ l, l = wds (a * f) := ⟨_, rfl⟩
  rw [← hL] at hnl hnu hpos HLS ⊢
  rw [← hl] at HSrc HU0e HTZ HLS H1C hL
  have HL := Lib.hid hL
  have Hl := Lib.hid hl
  clear hL hl
  have hbase5 : w3.heap.size ≤ w5.heap.size := HE5.out.size
  have hmx1 : 0 + L ≤ maxLen := by unfold maxLen; omega
  have hbg1 : (0 + L) * 4 ≤ 140737488355328 := by omega
  have hmx2 : l.length + 2 ≤ maxLen := by have h : L = l.length := HL.out; unfold maxLen; omega
  have hbg2 : (l.length + 2) * 4 ≤ 140737488355328 := by have h : L = l.length := HL.out; omega
  go_wp2_with (first
    | (at_builtin; (refine wpList_append_own _ rfl _ _ 82 rfl w3.heap.size 124 i0 (.int .u32 0) 1 4 Tryz.underlying82 hi hz0 hz1 hz2 rfl (by decide) _ 0 [] rfl HO5.out ⟨bu, ou, none⟩ L cu2 (u32s l) rfl HLS.out HSrc.out H1C.out hmx1 hbg1 hbase5 ?_); intro v6 w6 hown6 hgrow6 _; have hO6 : OwnN w6 w3.heap.size v6 l := (by have h : L = l.length := HL.out; unfold OwnN; rw [← h]; simpa using hown6); have HO6 := Lib.hid hO6; have hb6 : w3.heap.size ≤ w6.heap.size := Nat.le_trans hbase5 hgrow6.size; clear hown6 hO6)
    | (at_builtin; (refine wpList_append_own _ rfl _ _ 82 rfl w3.heap.size 124 i0 (.int .u32 0) 1 4 Tryz.underlying82 hi hz0 hz1 hz2 rfl (by decide) _ l.length (u32s l) rfl (World.ownsRow.alloc HO6.out _) ⟨w6.heap.size, 0, none⟩ 2 2 [.int .u32 0, .int .u32 0] rfl rfl (World.news_of_block (cs := #[.int .u32 0, .int .u32 0]) (t := 124) (fr := (0, 0)) (World.alloc_heap_new w6 _)) (by simp [Value.oneCell']) hmx2 hbg2 (by simp; omega) ?_); intro v8 w8 hown8 hgrow8 _)
    | fail)
  have hE6 : Ext w3 w6 := HE5.out.gr hgrow6 (fun k hk => by have h9 : w3.heap.size = k := Option.some.inj hk; omega)
  have hE8 : Ext w3 w8 := (hE6.al (.cells #[.int .u32 0, .int .u32 0] 124)).gr hgrow8 (own_base HO6.out)
  have hO8 : OwnN w8 w3.heap.size v8 (l ++ [0, 0]) := by unfold OwnN; rw [u32s_append, List.length_append]; exact hown8
  obtain ⟨gu, cu, rfl, hgu, hU8⟩ := hO8.at_ (by simp)
  have HE8 := Lib.hid hE8
  have HU8 := Lib.hid hU8
  have HU8l : Hid ((l ++ [0, 0]).length = L + 2) := by unfold Hid; rw [List.length_append, ← show L = l.length from HL.out]; rfl
  rw [HU8l.out]
  have hcap := hU8.cap
  rw [HU8l.out] at hcap
  have hcu1 : L + 2 ≤ cu := hcap.1
  have hcu2 : cu ≤ 9223372036854775807 := by have := hcap.2; unfold maxLen at this; omega
  have HR8 := Lib.hid hU8.rdN
  have HTL : Hid ((tz (l ++ [0, 0])).length = L) := by unfold Hid; rw [HTZ.out]; exact HL.out.symm
  clear hE6 hE8 hO8 hU8 hcap hgrow6 hgrow8 hown8 HO6 HE5 HO5 hmx1 hbg1 hmx2 hbg2 HSrc HLS H1C hb6 hbase5
  refine (ztr (some ⟨gu, 0, none⟩) cu (L + 2) (l ++ [0, 0]) w8 HU8l.out hcu1 hcu2 HR8.out).mono ?_
  rintro e w9 ⟨rfl, rfl⟩
  rw [HTL.out]
  have hm1' : max ((n : Int) + 1) (L : Int) = (n : Int) + 1 := by omega
  have hm2' : (if (n : Int) + 1 < (L : Int) then (L : Int) else (n : Int) + 1) = (n : Int) + 1 := by rw [if_neg (by omega)]
  have hsl : (n : Int) + 1 ≤ (cu : Int) := by omega
  have hnm : (n : Int) + 1 - (m : Int) = ((n + 1 - m : Nat) : Int) := by omega
  have hb8 : w3.heap.size ≤ w8.heap.size := HE8.out.size
  have hgu8 := HU8.out.lt
  obtain ⟨lq, hlq⟩ : ∃ lq, n + 1 - m = lq := ⟨_, rfl⟩
  have HLQ : Hid (lq + m = n + 1) := by unfold Hid; omega
  rw [hlq] at hnm HKI
  clear hlq
  go_wp2_with (first
    | (refine wpList_make_full _ rfl _ _ _ rfl w3.heap.size 124 i0 (.int .u32 0) 1 Tryz.underlying82 hi hz0 hz1 _ _ _ _ lq rfl rfl (by first | rfl | omega) (by first | rfl | omega) (by rw [hz2]; omega) (by unfold maxLen; omega) hb8 ?_; intro wA hownA hgrowA)
    | fail)
  have hq : OwnN wA w3.heap.size (.slice (some ⟨w8.heap.size, 0, none⟩) (List.replicate lq 0).length lq) (List.replicate lq 0) := by
    rw [made_zeros] at hownA
    simpa [OwnN] using hownA
  have hEA : Ext w8 wA := (Ext.rfl' w8).gr0 hgrowA
  have HQ0 : Hid (At wA w8.heap.size lq (List.replicate lq 0)) := hq.lower (Nat.zero_le _)
  have HU0 : Hid (At wA gu cu (u0 (a * f) n)) := by
    have h := (HU8.out.ext hEA)
    have h2 := OwnN.take h (n + 1) (by rw [HU8l.out]; omega)
    unfold Hid At
    rw [HU0L.out, HU0e.out]
    exact h2
  have HEA := Lib.hid (HE8.out.tr hEA)
  have hgq : gu < w8.heap.size := hgu8
  generalize w8.heap.size = gq at *
  clear hownA hgrowA hq hEA HU8 HR8 HE8 HTL hm1' hm2' hgu8 HTZ HU8l
  obtain ⟨V, hV⟩ : ∃ V, wds (b * f) = V := ⟨_, rfl⟩
  have HVe := Lib.hid hV
  have hokV : Hid (Ok V) := by rw [← hV]; exact ok_wds _
  have HVL : Hid (V.length = m) := by rw [← hV]; exact HSC.out
  have HRV : Hid (RdN w3 Av V) := by rw [← hV]; exact (SlN.rd HV3.out).2
  rw [hV] at HKI
  have hv1 : 0 < wd V (m - 1) := by
    have hlt : m - 1 < (wds (b * f)).length := by rw [HSC.out]; omega
    rw [← hV]
    rcases Nat.eq_zero_or_pos (wd (wds (b * f)) (m - 1)) with h | h
    · exfalso
      have := wds_last (b * f)
      rw [List.getLast?_eq_getElem?, HSC.out, List.getElem?_eq_getElem hlt, ← wd_lt hlt, h] at this
      exact this rfl
    · exact h
  have hv1l : wd V (m - 1) < 1000000000 := wd_ok hokV.out _
  have hv2l : wd V (m - 2) < 1000000000 := wd_ok hokV.out _
  obtain ⟨bv, ov, rfl, hbv, cV1⟩ := HRV.out (m - 1) (by rw [HVL.out]; omega)
  obtain ⟨bv2, ov2, e2, -, cV2⟩ := HRV.out (m - 2) (by rw [HVL.out]; omega)
  injection e2 with e2
  injection e2 with e2 e3
  subst e2 e3
  rw [← wd_lt (by rw [HVL.out]; omega)] at cV1 cV2
  obtain ⟨y1, hy1⟩ : ∃ y1, wd V (m - 1) = y1 := ⟨_, rfl⟩
  obtain ⟨y2, hy2⟩ : ∃ y2, wd V (m - 2) = y2 := ⟨_, rfl⟩
  rw [hy1] at hv1 hv1l cV1
  rw [hy2] at hv2l cV2
  have HY1 := Lib.hid hy1
  have HY2 := Lib.hid hy2
  have CV1 := Lib.hid cV1
  have CV2 := Lib.hid cV2
  have HBV : Hid (∀ x, some (⟨bv, ov, none⟩ : Addr) = some x → x.block ≠ gu) := by
    intro x hx
    cases hx
    show bv ≠ gu
    omega
  clear hV hy1 hy2 cV1 cV2 hnm hsl hm1 hpos
  have hlqn : lq ≤ n := by have h : lq + m = n + 1 := HLQ.out; omega
  go_loopw [13] (fun x wr => ∃ (t : Nat) (z : Int) (U Q : List Nat), t ≤ lq ∧ x = .int .i64 z ∧ Hid (z = (t : Int) - 1) ∧ Hid (KInv V (a * f) m t U Q) ∧ Hid (U.length = n + 1) ∧ Hid (Q.length = lq) ∧ Hid (At wr gu cu U) ∧ Hid (At wr gq lq Q) ∧ Hid (Ext w3 wr)) (fun x _ => (intOf x + 1).toNat)
  case atStart => exact ⟨lq, _, _, _, Nat.le_refl _, rfl, rfl, HKI, HU0L, by unfold Hid; simp, HU0, HQ0, HEA⟩
  case round =>
    obtain ⟨t, z, U, Q, ht, rfl, HZ, HK, HUL, HQL, HU, HQ, HE⟩ := hrel
    clear HKI HU0L HU0 HQ0 HEA
    cases t with
    | zero =>
      have hdone := kinv_done (a := a) (b := b) (f := f) HK.out hokV.out HVL.out (by rw [← HVe.out, val_wds]) hf0
      have HQV := Lib.hid hdone.1
      have HUV := Lib.hid hdone.2
      have FF := Lib.hid (SlN.ext HF3.out HE.out)
      have hml : m ≤ U.length := by have : U.length = n + 1 := HUL.out; omega
      have HUt : Hid (RdN wr (some ⟨gu, 0, none⟩) (U.take m)) := HU.out.rdN.take m
      have HUtl : Hid ((U.take m).length = m) := by unfold Hid; simp; omega
      have HTz : Hid (tz (U.take m) = wds (a % b * f)) := by unfold Hid; rw [tz_wds (HK.out.okU.take m), HUV.out]
      have hmc : m ≤ cu := by omega
      obtain rfl : z = -1 := by have := HZ.out; omega
      have hmc2 : (m : Int) ≤ (cu : Int) := by omega
      clear hdone hml HZ
      have HT0 := fun W (hE : Ext wr W) => ztr (some ⟨gu, 0, none⟩) cu m (U.take m) W HUtl.out hmc hcu2 (HUt.out.ext hE)
      obtain ⟨tl, htl⟩ : ∃ tl, (tz (U.take m)).length = tl := ⟨_, rfl⟩
      have HTL2 : Hid ((wds (a % b * f)).length = tl) := by unfold Hid; rw [← HTz.out]; exact htl
      rw [htl] at HT0
      have htlm : tl ≤ m := by
        obtain ⟨mt, hmt, hmt2⟩ := tz_prefix (U.take m)
        rw [← htl, hmt2]
        have h : (U.take m).length = m := HUtl.out
        rw [List.length_take]; omega
      have HRr : Hid (∀ W, Ext wr W → RdN W (some ⟨gu, 0, none⟩) (wds (a % b * f))) := fun W hE => by
        rw [← HTz.out]
        obtain ⟨mt, hmt, hmt2⟩ := tz_prefix (U.take m)
        rw [hmt2]; exact (HUt.out.ext hE).take mt
      have HS0 := fun W (hE : Ext wr W) => zsmall_any (some ⟨gu, 0, none⟩) cu tl (wds (a % b * f)) f W HTL2.out (by omega) (HRr.out W hE) (ok_wds _) hf0 hf1
      rw [val_wds, Nat.mul_div_cancel _ hf0] at HS0
      have HT1 := Lib.hid HT0
      have HS1 := Lib.hid HS0
      have HQr := Lib.hid HQ.out.rdN
      have HOQ : Hid (OwnN wr 0 (.slice (some ⟨gq, 0, none⟩) Q.length lq) Q) := HQ.out
      have HQE2 : Hid (Ok Q ∧ val Q = a / b) := ⟨HK.out.okQ, HQV.out⟩
      obtain ⟨bf, of', rfl, -, cF⟩ := (SlN.rd FF.out).2 0 (by rw [HLF.out]; omega)
      have cF2 : wr.cell? ⟨bf, of', none⟩ = some (.int .u32 (f : Int)) := by
        have e : (wds f)[0]'(by rw [HLF.out]; omega) = f := by simp [wds_small (by omega : f ≠ 0) hf1]
        rw [Nat.add_zero] at cF
        rw [cF, e]
      clear HT0 HS0 htl cF HUt HUtl HU HQ
      have HE9 := Lib.hid HE.out.dr
      have t0 : wr.drew.cell? ⟨bf, of', none⟩ = some (.int .u32 (f : Int)) := cF2
      go_wp2_with fail
      go_region_held3 (fun w' => w'.cell? ⟨bf, of', none⟩ = some (.int .u32 (f : Int))) (((try dsimp only); (repeat' apply And.intro) <;> (first | assumption | ((go_keep); done))))
        (first
        | (go_at_call 138; (with_reducible refine (HT1.out _ (Ext.dr (Ext.rfl' wr))).mono ?_); rintro e wX ⟨rfl, rfl⟩)
        | (go_at_call 157; (with_reducible refine (HS1.out _ (Ext.dr (Ext.rfl' wr))).mono ?_); rintro e wY ⟨vr, rfl, hr, hEr⟩; have HVr := Lib.hid hr; have HEr := Lib.hid hEr; have t1 := hEr.cell t0; clear hr hEr))
      have hEq : Ext wr wY := (Ext.dr (Ext.rfl' wr)).tr HEr.out
      have hOQ2 := HOQ.out.ext hEq
      have hSq := OwnN.sln hOQ2 HQE2.out.1 HQE2.out.2
      have hTq := ztr (some ⟨gq, 0, none⟩) lq lq Q wY HQL.out (Nat.le_refl _) (by omega) (HQr.out.ext hEq)
      obtain ⟨tq, htq⟩ : ∃ tq, (tz Q).length = tq := ⟨_, rfl⟩
      rw [htq] at hSq hTq
      have HSq := Lib.hid hSq
      have HTq := Lib.hid hTq
      have HFin := Lib.hid ((HE3.out.tr HE9.out).tr HEr.out)
      clear hEq hOQ2 hSq hTq htq t0 t1 cF2
      go_wp2_with fail
      refine HTq.out.mono ?_
      rintro e wZ ⟨rfl, rfl⟩
      go_wp2_with fail
      go_ret2
      exact ⟨_, _, rfl, HSq.out, HVr.out, HFin.out⟩
    | succ j =>
      obtain rfl : z = (j : Int) := by have := HZ.out; omega
      have hlqm : lq + m = n + 1 := HLQ.out
      have hun : U.length = n + 1 := HUL.out
      have c1 := HU.out.cell (j + m) (by omega)
      have c2 := HU.out.cell (j + m - 1) (by omega)
      have b1 : wd U (j + m) < 1000000000 := wd_ok HK.out.okU _
      have b2 : wd U (j + m - 1) < 1000000000 := wd_ok HK.out.okU _
      obtain ⟨u1, hu1⟩ : ∃ u1, wd U (j + m) = u1 := ⟨_, rfl⟩
      obtain ⟨u2, hu2⟩ : ∃ u2, wd U (j + m - 1) = u2 := ⟨_, rfl⟩
      rw [hu1] at c1 b1
      rw [hu2] at c2 b2
      have HU1 := Lib.hid hu1
      have HU2 := Lib.hid hu2
      have hjk : j + m ≤ n := by omega
      clear hu1 hu2 hun hlqm
      have s3 : ((j : Int) + (m : Int)).toNat = j + m := by omega
      have s4 : ((j : Int) + (m : Int) - 1).toNat = j + m - 1 := by omega
      have s5 : 0 ≤ (j : Int) + (m : Int) := by omega
      have s6 : 0 ≤ (j : Int) + (m : Int) - 1 := by omega
      have s7 : (j : Int) + (m : Int) < (n : Int) + 1 := by omega
      have s8 : (j : Int) + (m : Int) - 1 < (n : Int) + 1 := by omega
      have s1 : IntKind.i64.wrap ((j : Int) + (m : Int)) = (j : Int) + (m : Int) := IntWalk.i64_in _ (by omega)
      have s2 : IntKind.i64.wrap ((j : Int) + (m : Int) - 1) = (j : Int) + (m : Int) - 1 := IntWalk.i64_in _ (by omega)
      have p1 : IntKind.u64.wrap ((u1 : Int) * 1000000000) = (u1 : Int) * 1000000000 := IntWalk.u64_in _ (by omega)
      obtain ⟨T, hT⟩ : ∃ T : Nat, u1 * 1000000000 + u2 = T := ⟨_, rfl⟩
      have p2 : IntKind.u64.wrap ((u1 : Int) * 1000000000 + (u2 : Int)) = (T : Int) := by rw [IntWalk.u64_in _ (by omega)]; omega
      have hTb : Hid (T < 1000000000000000000) := by show T < _; omega
      have HT := Lib.hid hT
      clear hT
      go_wp2
      go_quiet (fail)
      clear c1 c2 s1 s2 s3 s4 s5 s6 s7 s8 p1 p2
      have HU2' : Hid (At (wr.drewN nq) gu cu U) := HU.out
      have HQ2 : Hid (At (wr.drewN nq) gq lq Q) := HQ.out
      have HE2 : Hid (Ext w3 (wr.drewN nq)) := HE.out.drN _
      clear HU HQ HE
      generalize wr.drewN nq = wa at *
      go_wp2
      obtain ⟨G0, hG0⟩ : ∃ G0, T / y1 = G0 := ⟨_, rfl⟩
      obtain ⟨R0, hR0⟩ : ∃ R0, T % y1 = R0 := ⟨_, rfl⟩
      have HG0 := Lib.hid hG0
      have HR0 := Lib.hid hR0
      have c1 : wa.cell? ⟨bv, ov + (m - 1), none⟩ = some (.int .u32 (y1 : Int)) := HE2.out.cell CV1.out
      have s1 : IntKind.i64.wrap ((m : Int) - 1) = (m : Int) - 1 := IntWalk.i64_in _ (by omega)
      have s2 : ((m : Int) - 1).toNat = m - 1 := by omega
      have s3 : 0 ≤ (m : Int) - 1 := by omega
      have s4 : (m : Int) - 1 < (m : Int) := by omega
      have s5 : 1 ≤ (y1 : Int) := by omega
      have s6 : ¬ ((y1 : Int) = 0) := by omega
      have s7 : ((y1 : Int) == 0) = false := by rw [beq_eq_false_iff_ne]; omega
      have q1 : IntKind.u64.wrap ((T : Int) / (y1 : Int)) = (G0 : Int) := by
        rw [← hG0, ← Int.natCast_ediv]; exact IntWalk.u64_in _ ⟨Int.natCast_nonneg _, by have := Nat.div_le_self T y1; have := hTb.out; omega⟩
      have q2 : IntKind.u64.wrap ((T : Int).tdiv (y1 : Int)) = (G0 : Int) := by
        rw [Int.tdiv_eq_ediv_of_nonneg (by omega)]; exact q1
      have q3 : (T : Int).tmod (y1 : Int) = (R0 : Int) := by rw [Int.tmod_eq_emod_of_nonneg (by omega), ← hR0]; rfl
      have q4 : (T : Int) % (y1 : Int) = (R0 : Int) := by rw [← hR0]; rfl
      clear hG0 hR0
      go_quiet (fail)
      clear c1 s1 s2 s3 s4 s5 s6 s7 q1 q2 q3 q4
      have HU3 : Hid (At (wa.drewN nq) gu cu U) := HU2'.out
      have HQ3 : Hid (At (wa.drewN nq) gq lq Q) := HQ2.out
      have HE3' : Hid (Ext w3 (wa.drewN nq)) := HE2.out.drN _
      clear HU2' HQ2 HE2
      generalize wa.drewN nq = wb at *
      go_upto_block 2 with (fail)
      obtain ⟨u3, hu3⟩ : ∃ u3, wd U (j + m - 2) = u3 := ⟨_, rfl⟩
      have hu3b : u3 < 1000000000 := by rw [← hu3]; exact wd_ok HK.out.okU _
      have hkw := kwin HK.out hokV.out HVL.out hb2 (by rw [HY1.out]; exact hv1)
      rw [HU1.out, HU2.out, hu3, HY1.out, HY2.out, show u1 * BB + u2 = T from HT.out] at hkw
      have HW : Hid (∃ x y, KW (val (U.drop j)) (val V) (BB ^ (m - 2)) (T * BB + u3) T u3 y1 y2 x y) := hkw.1
      have HTL : Hid (T ≤ y1 * BB + (BB - 1)) := hkw.2
      have HU3e := Lib.hid hu3
      clear hu3 hkw
      obtain ⟨q, hqe⟩ : ∃ q, val (U.drop j) / val V = q := ⟨_, rfl⟩
      have HQE := Lib.hid hqe
      have hq0 : Hid (q ≤ G0) := by obtain ⟨x, y, h⟩ := HW.out; rw [← hqe, ← HG0.out]; exact h.start
      have hgr : Hid (G0 * y1 + R0 = T) := by show _ = _; rw [← HG0.out, ← HR0.out, Nat.mul_comm]; exact Nat.div_add_mod T y1
      have hgb : Hid (G0 < 1000000000000000000) := by rw [← HG0.out]; exact Nat.lt_of_le_of_lt (Nat.div_le_self T y1) hTb.out
      have hrb : Hid (R0 < Nine9 + Nine9) := by show R0 < 1000000000 + 1000000000; rw [← HR0.out]; exact Nat.lt_trans (Nat.mod_lt T hv1) (by omega)
      clear hqe
      go_cut [15] (fun gs wc => ∃ (G : Nat), gs = .int .u64 (G : Int) ∧ Hid (G < Nine9) ∧ Hid (q ≤ G ∧ G ≤ q + 1) ∧ Hid (At wc gu cu U) ∧ Hid (At wc gq lq Q) ∧ Hid (Ext w3 wc))
      case first =>
        go_wp2
        go_loopw [15, 16] (fun gs rs wr => ∃ (G R : Nat), gs = .int .u64 (G : Int) ∧ rs = .int .u64 (R : Int) ∧ Hid (G < 1000000000000000000) ∧ Hid (R < Nine9 + Nine9) ∧ Hid (q ≤ G) ∧ Hid (G * y1 + R = T) ∧ Hid (At wr gu cu U) ∧ Hid (At wr gq lq Q) ∧ Hid (Ext w3 wr)) (fun _ rs _ => Nine9 + Nine9 - (intOf rs).toNat)
        case atStart => exact ⟨G0, R0, rfl, rfl, hgb, hrb, hq0, hgr, HU3, HQ3, HE3'⟩
        case round =>
          obtain ⟨G, R, rfl, rfl, hGb, hRb, HGQ, HGR, HU, HQ, HE⟩ := hrel
          clear HU3 HQ3 HE3' hq0 hgr hgb hrb
          have hRb2 : R < 2000000000 := hRb
          by_cases hR9 : R < 1000000000
          · have r1 : (R : Int) < 1000000000 := by omega
            have c1 : wr.cell? ⟨bv, ov + (m - 1), none⟩ = some (.int .u32 (y1 : Int)) := HE.out.cell CV1.out
            have c2 : wr.cell? ⟨bv, ov + (m - 2), none⟩ = some (.int .u32 (y2 : Int)) := HE.out.cell CV2.out
            have c3 : wr.cell? ⟨gu, j + m - 2, none⟩ = some (.int .u32 (u3 : Int)) := by rw [← HU3e.out]; exact HU.out.cell _ (by have : U.length = n + 1 := HUL.out; omega)
            by_cases hG : 1000000000 ≤ G
            · have g1 : (1000000000 : Int) ≤ (G : Int) := by omega
              have hst : Hid (1 ≤ G ∧ q ≤ G - 1 ∧ (G - 1) * y1 + (R + y1) = T) := by
                obtain ⟨x, y, h⟩ := HW.out
                have := h.step (by rw [HQE.out]; exact HGQ.out) HGR.out (.inl (by rw [BB_eq]; exact hG))
                rwa [HQE.out] at this
              obtain ⟨hg1, hg2, hg3⟩ := hst.out
              have w1 : IntKind.u64.wrap ((G : Int) - 1) = ((G - 1 : Nat) : Int) := by rw [IntWalk.u64_in _ (by have : G < 1000000000000000000 := hGb.out; omega)]; omega
              have hGb2 : Hid (G - 1 < 1000000000000000000) := by have : G < 1000000000000000000 := hGb.out; show G - 1 < _; omega
              have HG2 : Hid (q ≤ G - 1) := hg2
              have HG3 : Hid ((G - 1) * y1 + (R + y1) = T) := hg3
              have HBR : Hid (R + y1 < Nine9 + Nine9) := by show R + y1 < 1000000000 + 1000000000; omega
              clear hst hg2 hg3
              go_wp2
              go_quiet (fail)
              have d1 : (wr.drewN nq).cell? ⟨bv, ov + (m - 1), none⟩ = some (.int .u32 (y1 : Int)) := c1
              have U9 : Hid (At (wr.drewN nq) gu cu U) := HU.out
              have Q9 : Hid (At (wr.drewN nq) gq lq Q) := HQ.out
              have E9 : Hid (Ext w3 (wr.drewN nq)) := HE.out.drN _
              clear c1 c2 c3 HU HQ HE
              generalize wr.drewN nq = wd9 at *
              have t1 : IntKind.i64.wrap ((m : Int) - 1) = (m : Int) - 1 := IntWalk.i64_in _ (by omega)
              have t2 : ((m : Int) - 1).toNat = m - 1 := by omega
              go_wp2
              go_roundw
              case rel => exact ⟨G - 1, R + y1, ret_int' (by omega), ret_int' (by omega), hGb2, HBR, HG2, HG3, U9, Q9, E9⟩
              case measure => simp [intOf]; unfold Nine9; omega
            · have g1 : ¬ (1000000000 : Int) ≤ (G : Int) := by omega
              have s1 : IntKind.i64.wrap ((m : Int) - 2) = (m : Int) - 2 := IntWalk.i64_in _ (by omega)
              have s2 : ((m : Int) - 2).toNat = m - 2 := by omega
              have s3 : 0 ≤ (m : Int) - 2 := by omega
              have s4 : (m : Int) - 2 < (m : Int) := by omega
              have s5 : IntKind.i64.wrap ((j : Int) + (m : Int)) = (j : Int) + (m : Int) := IntWalk.i64_in _ (by omega)
              have s6 : IntKind.i64.wrap ((j : Int) + (m : Int) - 2) = (j : Int) + (m : Int) - 2 := IntWalk.i64_in _ (by omega)
              have s7 : ((j : Int) + (m : Int) - 2).toNat = j + m - 2 := by omega
              have s8 : 0 ≤ (j : Int) + (m : Int) - 2 := by omega
              have s9 : (j : Int) + (m : Int) - 2 < (n : Int) + 1 := by omega
              have x1 : (2 : Int) ≤ (m : Int) := by omega
              have x2 : (2 : Int) ≤ (j : Int) + (m : Int) := by omega
              have x3 : (m : Int) - 2 ≤ (m : Int) := by omega
              have p1 : IntKind.u64.wrap ((R : Int) * 1000000000) = (R : Int) * 1000000000 := IntWalk.u64_in _ (by omega)
              have p2 : IntKind.u64.wrap ((R : Int) * 1000000000 + (u3 : Int)) = (R : Int) * 1000000000 + (u3 : Int) := IntWalk.u64_in _ (by omega)
              have p3 : IntKind.u64.wrap ((G : Int) * (y2 : Int)) = (G : Int) * (y2 : Int) := by
                have : G * y2 ≤ 1000000000 * 1000000000 := Nat.mul_le_mul (by omega) (by omega)
                have e : ((G * y2 : Nat) : Int) = (G : Int) * (y2 : Int) := Int.natCast_mul G y2
                exact IntWalk.u64_in _ (by omega)
              have k1 : IntKind.u64.wrap (y2 : Int) = (y2 : Int) := IntWalk.u64_in _ (by omega)
              have k2 : IntKind.u64.wrap (u3 : Int) = (u3 : Int) := IntWalk.u64_in _ (by omega)
              obtain ⟨pg, hpg⟩ : ∃ pg : Int, pg = (G : Int) * (y2 : Int) := ⟨_, rfl⟩
              obtain ⟨pr, hpr⟩ : ∃ pr : Int, pr = (R : Int) * 1000000000 + (u3 : Int) := ⟨_, rfl⟩
              have p2' : IntKind.u64.wrap ((R : Int) * 1000000000 + (u3 : Int)) = pr := p2.trans hpr.symm
              have p3' : IntKind.u64.wrap ((G : Int) * (y2 : Int)) = pg := p3.trans hpg.symm
              have HPG := Lib.hid hpg
              have HPR := Lib.hid hpr
              clear p2 p3 hpg hpr
              by_cases hgt : pr < pg
              · have hst : Hid (1 ≤ G ∧ q ≤ G - 1 ∧ (G - 1) * y1 + (R + y1) = T) := by
                  obtain ⟨x, y, h⟩ := HW.out
                  have e : ((G * y2 : Nat) : Int) = (G : Int) * (y2 : Int) := Int.natCast_mul G y2
                  have e1 : pg = (G : Int) * (y2 : Int) := HPG.out
                  have e2 : pr = (R : Int) * 1000000000 + (u3 : Int) := HPR.out
                  have := h.step (by rw [HQE.out]; exact HGQ.out) HGR.out (.inr (by rw [BB_eq]; omega))
                  rwa [HQE.out] at this
                obtain ⟨hg1, hg2, hg3⟩ := hst.out
                have w1 : IntKind.u64.wrap ((G : Int) - 1) = ((G - 1 : Nat) : Int) := by rw [IntWalk.u64_in _ (by have : G < 1000000000000000000 := hGb.out; omega)]; omega
                have hGb2 : Hid (G - 1 < 1000000000000000000) := by have : G < 1000000000000000000 := hGb.out; show G - 1 < _; omega
                have HG2 : Hid (q ≤ G - 1) := hg2
                have HG3 : Hid ((G - 1) * y1 + (R + y1) = T) := hg3
                have HBR : Hid (R + y1 < Nine9 + Nine9) := by show R + y1 < 1000000000 + 1000000000; omega
                have hgd2 : decide (pr < pg) = true := decide_eq_true hgt
                clear hgt
                have HR9 : Hid (R < 1000000000) := hR9
                have w2 : IntKind.u64.wrap ((R : Int) + (y1 : Int)) = (R : Int) + (y1 : Int) := IntWalk.u64_in _ (by omega)
                clear hst hg2 hg3 hR9 hG hRb2
                go_wp2
                go_quiet (fail)
                clear s1 s2 s3 s4 s5 s6 s7 s8 s9 x1 x2 x3 p1 p2' p3' g1 r1 k1 k2
                have d1 : (wr.drewN nq).cell? ⟨bv, ov + (m - 1), none⟩ = some (.int .u32 (y1 : Int)) := c1
                have U9 : Hid (At (wr.drewN nq) gu cu U) := HU.out
                have Q9 : Hid (At (wr.drewN nq) gq lq Q) := HQ.out
                have E9 : Hid (Ext w3 (wr.drewN nq)) := HE.out.drN _
                clear c1 c2 c3 HU HQ HE
                generalize wr.drewN nq = wd9 at *
                have t1 : IntKind.i64.wrap ((m : Int) - 1) = (m : Int) - 1 := IntWalk.i64_in _ (by omega)
                have t2 : ((m : Int) - 1).toNat = m - 1 := by omega
                go_wp2
                go_roundw
                case rel => exact ⟨G - 1, R + y1, ret_int' (by omega), ret_int' (by have : R < 1000000000 := HR9.out; omega), hGb2, HBR, HG2, HG3, U9, Q9, E9⟩
                case measure => simp [intOf]; unfold Nine9; have : R < 1000000000 := HR9.out; omega
              · have hfin : Hid (G < Nine9) ∧ Hid (q ≤ G ∧ G ≤ q + 1) := by
                  obtain ⟨x, y, h⟩ := HW.out
                  have e : ((G * y2 : Nat) : Int) = (G : Int) * (y2 : Int) := Int.natCast_mul G y2
                  have e1 : pg = (G : Int) * (y2 : Int) := HPG.out
                  have e2 : pr = (R : Int) * 1000000000 + (u3 : Int) := HPR.out
                  have h2 := h.last HTL.out HGR.out (.inr ⟨by rw [BB_eq]; omega, by rw [BB_eq]; omega⟩)
                  rw [HQE.out] at h2
                  exact ⟨h2.1, HGQ.out, h2.2⟩
                obtain ⟨hf1', HF'⟩ := hfin
                have hgd2 : decide (pr < pg) = false := decide_eq_false hgt
                have hGd : decide ((1000000000 : Int) ≤ (G : Int)) = false := decide_eq_false g1
                have hRd1 : decide ((R : Int) < 1000000000) = true := decide_eq_true r1
                clear hR9 hG hRb2 hgt g1 r1
                go_wp2
                go_quiet (fail)
                have U9 : Hid (At (wr.drewN nq) gu cu U) := HU.out
                have Q9 : Hid (At (wr.drewN nq) gq lq Q) := HQ.out
                have E9 : Hid (Ext w3 (wr.drewN nq)) := HE.out.drN _
                clear s1 s2 s3 s4 s5 s6 s7 s8 s9 x1 x2 x3 p1 p2' p3' k1 k2 c1 c2 c3 HU HQ HE hu3b hv1l hv2l b1 b2 hv1 hf1 hf0
                generalize wr.drewN nq = wd9 at *
                go_wp2
                go_meet
                case rel => exact ⟨G, rfl, hf1', HF', U9, Q9, E9⟩
          · have r1 : ¬ (R : Int) < 1000000000 := by omega
            have hfin : Hid (G < Nine9) ∧ Hid (q ≤ G ∧ G ≤ q + 1) := by
              obtain ⟨x, y, h⟩ := HW.out
              have h2 := h.last HTL.out HGR.out (.inl (by rw [BB_eq]; omega))
              rw [HQE.out] at h2
              exact ⟨h2.1, HGQ.out, h2.2⟩
            obtain ⟨hf1', HF'⟩ := hfin
            have hRd : decide ((R : Int) < 1000000000) = false := decide_eq_false r1
            clear hR9 hRb2 r1
            go_wp2
            go_quiet (fail)
            go_wp2
            go_meet
            case rel => exact ⟨G, rfl, hf1', HF', HU.out, HQ.out, HE.out.drN _⟩
      case rest =>
        obtain ⟨G, rfl, hGn, HGQ, HU, HQ, HE⟩ := hcut
        clear HU3 HQ3 HE3' hq0 hgr hgb hrb
        have hG9 : G < 1000000000 := hGn
        have hred := zreduce_any gu cu m j G (n + 1) cv (a * f) (some ⟨bv, ov, none⟩) U V Q wc HK hokV HVL HUL (by omega) (by omega) hG9 (by unfold Hid; rw [HQE.out]; exact HGQ.out) HU.out (HRV.out.ext HE.out) HBV.out
        have HRed := Lib.hid hred
        have HG9 := Lib.hid hG9
        clear hred hG9
        go_wp2_with fail
        refine (show Calls Tryz.prog 158 #[.slice (some ⟨gu, 0, none⟩) (n + 1) cu, .slice (some ⟨bv, ov, none⟩) m cv, .int .i64 (j : Int), .int .u64 (G : Int)] wc _ from HRed.out).mono ?_
        rintro e wE ⟨g', D', rfl, hDS, hUd, hWG⟩
        have HDS := Lib.hid hDS
        have HUd := Lib.hid hUd
        have hne : gq ≠ gu := by omega
        have HQd : Hid (At wE gq lq Q) := hWG.at_ HQ.out hne
        have HEd : Hid (Ext w3 wE) := hWG.ext HE.out hgu
        have cQ := HQd.out.cell j (by rw [HQL.out]; omega)
        have fQ : wE.frozen? ⟨gq, j, none⟩ = false := HQd.out.froz j
        have hgg : g' < 1000000000 := hDS.2.2.1
        have hb3 : w3.heap.size ≤ gq := by have := hgu; omega
        generalize wd Q j = yy at cQ
        clear hDS hUd hWG HU HQ HE HRed
        have hn1 : ¬ gu = gq := by omega
        have HK2 := Lib.hid (HK.out.next hokV.out HVL.out D' g' HDS.out.1 HDS.out.2.1 HDS.out.2.2.1 HDS.out.2.2.2.1 HDS.out.2.2.2.2)
        have hset := end_set (U := U) (j := j) HDS.out.1 (by have : U.length = n + 1 := HUL.out; omega)
        have UL10 : Hid ((U.take j ++ (D' ++ 0 :: U.drop (j + m + 1))).length = n + 1) := by
          unfold Hid
          rw [← hset, List.length_set, mid_len HDS.out.1 (by have : U.length = n + 1 := HUL.out; omega), HUL.out]
        have QL10 : Hid ((Q.set j g').length = lq) := by unfold Hid; rw [List.length_set, HQL.out]
        have U10 : Hid (At (wE.setCell ⟨gq, j, none⟩ (.int .u32 (g' : Int))) gu cu (U.take j ++ (D' ++ 0 :: U.drop (j + m + 1)))) := HUd.out.far hn1 _ _
        have Q10 : Hid (At (wE.setCell ⟨gq, j, none⟩ (.int .u32 (g' : Int))) gq lq (Q.set j g')) := HQd.out.store j g' rfl
        have E10 : Hid (Ext w3 (wE.setCell ⟨gq, j, none⟩ (.int .u32 (g' : Int)))) := HEd.out.setCell (p := ⟨gq, j, none⟩) hb3 _
        clear hset
        go_wp2
        go_roundw
        case rel => exact ⟨j, _, _, _, by omega, rfl, rfl, HK2, UL10, QL10, U10, Q10, E10⟩
        case measure => simp [intOf]
end Go.Proofs.YtbldlibijojbjaaGreatDoor.GB

namespace Go.Proofs.YtbldlibijojbjaaGreatDoor.GB
set_option linter.unusedVariables false
set_option linter.unusedSimpArgs false
open Go.RowKit
attribute [local go_sem ↓] Go.wp_at_zero Go.wp_at_succ
set_option maxHeartbeats 2000000 in
set_option maxRecDepth 100000 in
theorem zOver_less (v1 v2 : Value) (a b : Nat) (w : World) (h1 : SlN w v1 a) (h2 : SlN w v2 b) (hlt : a < b) (hla : (wds a).length ≤ 1099511627776) (hlb : (wds b).length ≤ 1099511627776) :
    Calls Tryz.prog 141 #[v1, v2] w (OverR a b w) := by
  have hcmp := zCmp_w _ _ a b w h1 h2 hla hlb
  rw [cmpZ_lt hlt] at hcmp
  have H1 := Lib.hid h1
  have HCmp := Lib.hid hcmp
  have HD : Hid (a / b = 0 ∧ a % b = a) := ⟨Nat.div_eq_of_lt hlt, Nat.mod_eq_of_lt hlt⟩
  clear h1 h2 hcmp hlt
  go_enter Tryz.func141, Tryz.ntmps141
  go_wp2_with fail
  refine HCmp.out.mono ?_
  rintro e w1 ⟨rfl, hE⟩
  have HE := Lib.hid hE
  have HV := Lib.hid (SlN.ext H1.out hE)
  clear hE
  go_wp2_with fail
  go_ret2
  exact ⟨_, _, rfl, by rw [HD.out.1]; exact SlN.nil _, by rw [HD.out.2]; exact HV.out, HE.out⟩
set_option maxHeartbeats 2000000 in
set_option maxRecDepth 100000 in
theorem zOver_one (v1 v2 : Value) (a b : Nat) (w : World) (h1 : SlN w v1 a) (h2 : SlN w v2 b) (hle : b ≤ a) (hb1 : (wds b).length = 1) (hla : (wds a).length ≤ 1099511627776) :
    Calls Tryz.prog 141 #[v1, v2] w (OverR a b w) := by
  have hcmp := zCmp_w _ _ a b w h1 h2 hla (by rw [hb1]; omega)
  obtain ⟨cz, hcz1, hcz2⟩ : ∃ cz : Int, cmpZ a b = cz ∧ ¬ cz < 0 := ⟨_, rfl, by
    rcases Nat.lt_or_ge b a with h | h
    · rw [cmpZ_gt h]; decide
    · rw [show a = b by omega, cmpZ_eq]; decide⟩
  rw [hcz1] at hcmp
  have hb9 : b < 1000000000 := by have := wds_len_lt b; rw [hb1, Nat.pow_one, BB_eq] at this; exact this
  have hb0 : 0 < b := by
    rcases Nat.eq_zero_or_pos b with h | h
    · rw [h, wds_zero] at hb1; simp at hb1
    · exact h
  obtain ⟨A, ca, rfl⟩ := SlN.slc h1
  obtain ⟨B, cb, rfl⟩ := SlN.slc h2
  obtain ⟨bb, ob, rfl, -, cB⟩ := (SlN.rd h2).2 0 (by omega)
  have cB2 : w.cell? ⟨bb, ob, none⟩ = some (.int .u32 (b : Int)) := by
    have e : (wds b)[0]'(by omega) = b := by simp [wds_small (by omega : b ≠ 0) hb9]
    rw [Nat.add_zero] at cB
    rw [cB, e]
  rw [hb1] at hcmp ⊢
  have hsm := fun W (hE : Ext w W) => zsmall_any A ca _ (wds a) b W rfl hla ((SlN.rd h1).2.ext hE) (ok_wds a) hb0 hb9
  rw [val_wds] at hsm
  generalize (wds a).length = n at *
  have HCmp := Lib.hid hcmp
  have HSm := Lib.hid hsm
  have HB := Lib.hid cB2
  have hr9 : a % b < 4294967296 := Nat.lt_trans (Nat.mod_lt a hb0) (by omega)
  have HR9 := Lib.hid hr9
  clear h1 h2 hcmp hcz1 cB cB2 hsm hle hr9 hb1
  go_enter Tryz.func141, Tryz.ntmps141
  go_wp2_with fail
  refine HCmp.out.mono ?_
  rintro e w1 ⟨rfl, hE⟩
  have HE := Lib.hid hE
  have c1 := hE.cell HB.out
  clear hE
  go_wp2_with fail
  refine (HSm.out _ HE.out).mono ?_
  rintro e w2 ⟨v, rfl, hv, hE⟩
  have HE2 := Lib.hid (HE.out.tr hE)
  have HV := Lib.hid hv
  clear hE hv c1
  generalize hrr : a % b = r at *
  have HRR := Lib.hid hrr
  clear hrr
  go_wp2_with fail
  refine (zSmall_any r _ HR9.out).mono ?_
  rintro e w3 ⟨vr, rfl, hr, hE⟩
  have HE3 := Lib.hid (HE2.out.tr hE)
  have HV3 := Lib.hid (SlN.ext HV.out hE)
  have HR3 := Lib.hid hr
  clear hE hr
  go_wp2_with fail
  go_ret2
  exact ⟨_, _, rfl, HV3.out, by rw [HRR.out]; exact HR3.out, HE3.out⟩
theorem zOver_v (v1 v2 : Value) (a b : Nat) (w : World) (h1 : SlN w v1 a) (h2 : SlN w v2 b) (hb : 0 < b) (hla : (wds a).length ≤ 549755813888) (hlb : (wds b).length ≤ 549755813888) :
    Calls Tryz.prog 141 #[v1, v2] w (OverR a b w) := by
  rcases Nat.lt_or_ge a b with h | h
  · exact zOver_less v1 v2 a b w h1 h2 h (by omega) (by omega)
  · have hp := (wpos_iff b).2 hb
    by_cases h3 : (wds b).length = 1
    · exact zOver_one v1 v2 a b w h1 h2 h h3 (by omega)
    · exact zOver_big v1 v2 a b w h1 h2 h (by omega) hla
/-- Long division at all numbers up to M. -/
theorem OverC.all (M : Nat) (w : World) (hM : (wds M).length ≤ 549755813888) : OverC M w := by
  intro W v1 v2 a b hE h1 h2 h0 hn ha hb
  exact zOver_v v1 v2 a b W h1 h2 h0 (Nat.le_trans (wds_mono ha) hM) (Nat.le_trans (wds_mono hb) hM)
end Go.Proofs.YtbldlibijojbjaaGreatDoor.GB
