import Derived.Test.YtadimepmoljnpaaGreatDoorMFu
import Derived.Deep.DeepCutAuto
import Derived.Deep.CutBlock
namespace Go.Proofs.YtadimepmoljnpaaGreatDoor.GB
set_option linter.unusedVariables false
set_option linter.unusedSimpArgs false
open Go.RowKit

/-- A slice of the call's own with its place: block g, from its beginning. -/
def At (w : World) (g c : Nat) (l : List Nat) : Prop := OwnN w 0 (.slice (some ⟨g, 0, none⟩) l.length c) l
theorem At.lt {w : World} {g c : Nat} {l : List Nat} (h : At w g c l) : g < w.heap.size := by
  rcases h.2 with ⟨hv, _⟩ | ⟨g', cap, cur, hv, _, hh, _⟩
  · cases hv
  · injection hv with e1 e2 e3
    injection e1 with e1
    injection e1 with e1 _ _
    rw [e1]; exact (Array.getElem?_eq_some_iff.1 hh).1
theorem At.ext {w w' : World} {g c : Nat} {l : List Nat} (h : At w g c l) (hE : Ext w w') : At w' g c l := OwnN.ext h hE
theorem At.cell {w : World} {g c : Nat} {l : List Nat} (h : At w g c l) (j : Nat) (hj : j < l.length) : w.cell? ⟨g, j, none⟩ = some (.int .u32 (wd l j : Nat)) := OwnN.cellAt h j hj
theorem At.froz {w : World} {g c : Nat} {l : List Nat} (h : At w g c l) (j : Nat) : w.frozen? ⟨g, j, none⟩ = false := World.ownsRow.frozenAt h j
theorem At.store {w : World} {g c : Nat} {l : List Nat} (h : At w g c l) (j x : Nat) {z : Int} (hz : z = (x : Int)) : At (w.setCell ⟨g, j, none⟩ (.int .u32 z)) g c (l.set j x) := OwnN.store h j x hz
theorem At.far {w : World} {g c g' : Nat} {l : List Nat} (h : At w g c l) (hne : g ≠ g') (j : Nat) (x : Value) : At (w.setCell ⟨g', j, none⟩ x) g c l := by
  refine World.ownsRow.kept h (row := some g') ?_ (.inr (by simp [Value.ownBlock]; exact hne))
  exact ⟨rfl, rfl, rfl, by simp [World.setCell], fun i hi hne' => Below.heap_setCell _ _ _ _ (by simpa using hne')⟩
theorem At.rdN {w : World} {g c : Nat} {l : List Nat} (h : At w g c l) : RdN w (some ⟨g, 0, none⟩) l := by
  obtain ⟨A, c', hv, _, _, hr, _⟩ := OwnN.parts h
  injection hv with e1 _ _
  rw [e1]; exact hr
theorem At.cap {w : World} {g c : Nat} {l : List Nat} (h : At w g c l) : l.length ≤ c ∧ c ≤ maxLen := by
  obtain ⟨A, c', hv, h1, h2, _, _⟩ := OwnN.parts h
  injection hv with _ _ e3
  rw [e3]; exact ⟨h1, h2⟩
theorem OwnN.at_ {w : World} {base : Nat} {v : Value} {l : List Nat} (h : OwnN w base v l) (hne : l ≠ []) : ∃ g c, v = .slice (some ⟨g, 0, none⟩) l.length c ∧ base ≤ g ∧ At w g c l := by
  have hl := List.length_pos_iff.2 hne
  rcases h.2 with ⟨hv, h0⟩ | ⟨g, cap, cur, hv, hg, r⟩
  · omega
  · refine ⟨g, cap, hv, hg, ?_⟩
    subst hv
    exact OwnN.lower h (Nat.zero_le _)

theorem times_n (A B : Option Addr) (ca cb n m : Nat) (a b : Nat) (w : World) (hn : (wds a).length = n) (hm : (wds b).length = m) (hla : n ≤ 1099511627776) (hlb : m ≤ 1099511627776) (ha : RdN w A (wds a)) (hb : RdN w B (wds b)) :
    Calls Tryz.prog 196 #[.slice A n ca, .slice B m cb] w (RetN w (fun r => r = wds (a * b))) := by
  subst hn hm
  have := times_any A B ca cb (wds a) (wds b) w hla hlb ha hb (ok_wds a) (ok_wds b)
  rwa [val_wds, val_wds] at this
/-- The factor by which both are multiplied. -/
def fac (top : Nat) : Nat := 1000000000 / (top + 1)
theorem fac_pos {t : Nat} (h : t < 1000000000) : 0 < fac t := by unfold fac; exact Nat.div_pos (by omega) (by omega)
theorem fac_lt (t : Nat) (h : 0 < t) : fac t < 1000000000 := by
  unfold fac; exact Nat.div_lt_self (by omega) (by omega)

/-- A bound behind a name (a great numeral stops the walk). -/
def Nine9 : Nat := 1000000000
theorem kwin {N k j : Nat} {v U Q : List Nat} (h : KInv v N k (j + 1) U Q) (hv : Ok v) (hk : v.length = k) (h2 : 2 ≤ k) (h1 : 0 < wd v (k - 1)) :
    (∃ x y, KW (val (U.drop j)) (val v) (BB ^ (k - 2)) ((wd U (j + k) * BB + wd U (j + k - 1)) * BB + wd U (j + k - 2)) (wd U (j + k) * BB + wd U (j + k - 1)) (wd U (j + k - 2)) (wd v (k - 1)) (wd v (k - 2)) x y) ∧
    wd U (j + k) * BB + wd U (j + k - 1) ≤ wd v (k - 1) * BB + (BB - 1) := by
  obtain ⟨m, rfl⟩ : ∃ m, k = m + 2 := ⟨k - 2, by omega⟩
  rw [show m + 2 - 1 = m + 1 from rfl] at h1
  have e1 := h.window hv hk h1
  have e2 := h.top_le hv hk
  rw [show j + (m + 2) = j + m + 2 by omega, show j + m + 2 - 1 = j + m + 1 by omega, show j + m + 2 - 2 = j + m by omega, show m + 2 - 1 = m + 1 by omega, show m + 2 - 2 = m by omega]
  exact ⟨⟨_, _, e1⟩, e2⟩
theorem kinv_start {N V k lu : Nat} (hu : (wds N).length = lu) (hv : (wds V).length = k) (hle : k ≤ lu) (hV : V ≠ 0) :
    KInv (wds V) N k (lu + 1 - k) (wds N ++ [0]) (List.replicate (lu + 1 - k) 0) := by
  have hk0 : 0 < k := by rw [← hv]; exact wds_len_pos hV
  refine ⟨Ok.append.2 ⟨ok_wds _, fun w hw => by obtain rfl := List.mem_singleton.1 hw; exact BB_pos⟩, ok_zeros _, by simp; omega, by simp, ?_, ?_⟩
  · rw [List.drop_eq_nil_of_le (by simp), val_snoc_zero, val_wds, val_wds]; simp [val]
  · have h1 : val ((wds N ++ [0]).drop (lu + 1 - k)) < BB ^ (k - 1) := by
      rw [List.drop_append_of_le_length (by omega), val_snoc_zero]
      have := val_lt ((ok_wds N).drop (lu + 1 - k))
      rwa [List.length_drop, hu, show lu - (lu + 1 - k) = k - 1 by omega] at this
    have h2 := wds_len_ge hV
    rw [hv] at h2
    rw [val_wds]; omega

set_option maxHeartbeats 4000000 in
set_option maxRecDepth 100000 in
theorem divide_big (A B : Option Addr) (ca cb n m a b : Nat) (w : World) (hn : (wds a).length = n) (hm : (wds b).length = m) (hla : n ≤ 549755813888) (hlb : m ≤ 549755813888)
    (ha : RdN w A (wds a)) (hb : RdN w B (wds b)) (hle : b ≤ a) (hb1 : 2 ≤ m) (h1 : 1000000000000000000 ≤ a) :
    Calls Tryz.prog 217 #[.slice A n ca, .slice B m cb] w (RetRR w (a / b) (a % b)) := by
  have hc : decide (cmpZ a b < 0) = false := cmpZ_geb hle
  have hb0 : b ≠ 0 := by intro e; rw [e, wds_zero] at hm; simp at hm; omega
  have hm1 : (((m : Nat) : Int) == 1) = false := by rw [beq_eq_false_iff_ne]; omega
  obtain ⟨i0, hi, hz0, hz1, hz2⟩ := info_parts Tryz.infoU32
  -- the first word
  obtain ⟨g, off, rfl, hg, hcb⟩ := hb (m - 1) (by omega)
  obtain ⟨top, htop⟩ : ∃ top, top = (wds b)[m - 1]'(by omega) := ⟨_, rfl⟩
  rw [← htop] at hcb
  have ht1 : top < 1000000000 := by rw [htop]; exact ok_wds b _ (List.getElem_mem _)
  have ht0 : 0 < top := by
    rcases Nat.eq_zero_or_pos top with h | h
    · exfalso
      have := wds_last b
      rw [List.getLast?_eq_getElem?, hm, List.getElem?_eq_getElem (by omega), ← htop, h] at this
      exact this rfl
    · exact h
  have HN := Lib.hid hn
  have HM := Lib.hid hm
  have HA := Lib.hid ha
  have HB := Lib.hid hb
  have HC := Lib.hid hcb
  have H1 := Lib.hid h1
  clear hn hm ha hb h1 hcb htop
  go_enter Tryz.func217, Tryz.ntmps217
  go_wp2_with fail
  refine (compare_any _ _ _ _ _ _ a b _ HN.out HM.out (by omega) (by omega) HA.out HB.out).mono ?_
  rintro e w1 ⟨rfl, hE1⟩
  have A1 := Lib.hid (HA.out.ext hE1)
  have B1 := Lib.hid (HB.out.ext hE1)
  go_wp2_with fail
  refine (small_any _ _ _ a _ HN.out (by omega) A1.out).mono ?_
  rintro e w2 ⟨_, hs, hE2⟩
  obtain rfl := hs H1.out
  have A2 := Lib.hid (A1.out.ext hE2)
  have B2 := Lib.hid (B1.out.ext hE2)
  clear hs
  go_wp2_with fail
  refine (small_any _ _ _ b _ HM.out (by omega) B2.out).mono ?_
  rintro e w3 ⟨hs2, hs3, hE3⟩
  obtain ⟨x, y, rfl⟩ : ∃ (x : Int) (y : Bool), e = .returned (.tuple #[.int .u64 x, .bool y]) := by
    rcases Nat.lt_or_ge b 1000000000000000000 with h | h
    · exact ⟨_, _, hs2 h⟩
    · exact ⟨_, _, hs3 h⟩
  have A3 := Lib.hid (A2.out.ext hE3)
  have B3 := Lib.hid (B2.out.ext hE3)
  have hE := Lib.hid (hE1.tr (hE2.tr hE3))
  have hcw : w3.cell? ⟨g, off + (m - 1), none⟩ = some (.int .u32 (top : Int)) := hE.out.cell HC.out
  clear hs2 hs3 hE1 hE2 hE3
  have HF : Hid (0 ≤ (1000000000 : Int) / ((top : Int) + 1) ∧ (1000000000 : Int) / ((top : Int) + 1) < 1000000000000000000) := ⟨Int.ediv_nonneg (by omega) (by omega), by
    have := fac_lt top ht0
    have e : ((fac top : Nat) : Int) = (1000000000 : Int) / ((top : Int) + 1) := by unfold fac; rw [Int.natCast_ediv]; rfl
    omega⟩
  have HFE : Hid (((1000000000 : Int) / ((top : Int) + 1)).toNat = fac top) := by
    have e : ((fac top : Nat) : Int) = (1000000000 : Int) / ((top : Int) + 1) := by unfold fac; rw [Int.natCast_ediv]; rfl
    show _ = _
    rw [← e, Int.toNat_natCast]
  have hf0 := fac_pos ht1
  have hf1 := fac_lt top ht0
  go_wp2_with fail
  refine (of_z _ _ HF).mono ?_
  rintro e w4 ⟨vf, _, rfl, hvf, rfl, hE4⟩
  rw [HFE.out] at hvf
  clear HF HFE
  generalize fac top = f at hvf hf0 hf1
  obtain ⟨Af, cf, rfl, _, _, hrf, _⟩ := hvf.parts
  have hlf : (wds f).length = 1 := by rw [wds_small (by omega) hf1]; rfl
  rw [hlf]
  have A4 := Lib.hid (A3.out.ext hE4)
  have B4 := Lib.hid (B3.out.ext hE4)
  have F4 := Lib.hid hrf
  have HLF := Lib.hid hlf
  have hE5 := Lib.hid (hE.out.tr hE4)
  clear A3 B3 hE hE4 hvf hrf hlf A1 A2 B1 B2 hcw HC HA HB
  go_wp2_with fail
  refine (times_n _ _ _ _ n 1 a f _ HN.out HLF.out (by omega) (by omega) A4.out F4.out).mono ?_
  rintro e w5 ⟨vu, _, rfl, hvu, rfl, hE6⟩
  have hvu' := Lib.hid hvu
  have hE6' := Lib.hid hE6
  clear hE6 hvu
  have hule : Hid ((wds (a * f)).length ≤ n + 1) := by
    have h1 := wds_len_lt a
    rw [HN.out] at h1
    refine wds_len_le ?_
    rw [Nat.pow_succ]
    exact Nat.mul_lt_mul_of_lt_of_le h1 (by rw [BB_eq]; omega) (by rw [BB_eq]; omega)
  have hulo : Hid (n ≤ (wds (a * f)).length) := by
    show n ≤ _
    rw [← HN.out]; exact wds_mono (Nat.le_mul_of_pos_right a hf0)
  have hbig : ((wds (a * f)).length + 1) * 4 ≤ 140737488355328 := by have := hule.out; omega
  have hmax : (wds (a * f)).length + 1 ≤ maxLen := by have := hule.out; unfold maxLen; omega
  have hbase : w4.heap.size ≤ w5.heap.size := hE6'.out.size
  go_wp2_with (at_builtin; go_loud (refine wpList_append_own _ rfl _ _ 214 rfl w4.heap.size 181 i0 (.int .u32 0) 1 4 Tryz.underlying214 hi hz0 hz1 hz2 rfl (by decide) _ (wds (a * f)).length (u32s (wds (a * f))) rfl (World.ownsRow.alloc hvu'.out _) ⟨w5.heap.size, 0, none⟩ 1 1 _ rfl rfl (cell_one_new _ _ _) (by simp [Value.oneCell']) hmax hbig (by simp; omega) ?_); intro v' w6 hown2 hgrow2 _)
  obtain ⟨hU, hE6⟩ := own_push hvu'.out hE6'.out hown2 hgrow2 (n := 0) rfl
  obtain ⟨gu, cu, rfl, hgu0, hU6⟩ := hU.at_ (by simp)
  have hul : (wds (a * f) ++ [(0 : Nat)]).length = (wds (a * f)).length + 1 := by simp
  rw [hul]
  clear hul
  have B6 := Lib.hid (B4.out.ext hE6)
  have F6 := Lib.hid (F4.out.ext hE6)
  have U6 := Lib.hid hU6
  have hE8 := Lib.hid hE6
  have hgu := hU6.lt
  clear hown2 hgrow2 hvu' hE6' hU hE6 hU6 A4 B4 hbase hbig hmax
  go_wp2_with fail
  refine (times_n _ _ _ _ m 1 b f _ HM.out HLF.out (by omega) (by omega) B6.out F6.out).mono ?_
  rintro e w7 ⟨vv, _, rfl, hvv, rfl, hE9⟩
  have hbf : b * f ≠ 0 := Nat.mul_ne_zero hb0 (by omega)
  obtain ⟨gv, cv, rfl, hgv0, hV7⟩ := hvv.at_ (by rw [Ne, wds_nil_iff]; exact hbf)
  have U7 := Lib.hid (U6.out.ext hE9)
  have V7 := Lib.hid hV7
  have F7 := Lib.hid (F6.out.ext hE9)
  have hE10 := Lib.hid (hE8.out.tr hE9)
  have hguv : gu < gv := by omega
  have hgv := hV7.lt
  have hvlo : 2 ≤ (wds (b * f)).length := by
    have := wds_mono (Nat.le_mul_of_pos_right b hf0)
    rw [HM.out] at this; omega
  have hvhi : (wds (b * f)).length ≤ (wds (a * f)).length := wds_mono (Nat.mul_le_mul_right f hle)
  have hne : (((wds (a * f)).length : Int) + 1 == (n : Int)) = false := by rw [beq_eq_false_iff_ne]; have := hulo.out; omega
  have HKU := Lib.hid (rfl : (wds (a * f)).length = (wds (a * f)).length)
  have hku : (wds (a * f)).length ≤ 549755813889 := by have := hule.out; omega
  clear hvv hV7 hE8 hE9 U6 B6 F6 F7 hgv0
  obtain ⟨lu, hlu⟩ : ∃ lu, (wds (a * f)).length = lu := ⟨_, rfl⟩
  obtain ⟨k, hk⟩ : ∃ k, (wds (b * f)).length = k := ⟨_, rfl⟩
  rw [hlu] at hne hku hvhi ⊢
  rw [hk] at hvlo hvhi ⊢
  have HLU := Lib.hid hlu
  have HK := Lib.hid hk
  clear hlu hk HKU hule hulo
  have hmk : (lu : Int) + 1 - (k : Int) = ((lu + 1 - k : Nat) : Int) := by omega
  go_wp2_with (first | (refine wpList_make_full _ rfl _ _ _ rfl w.heap.size 181 i0 (.int .u32 0) 1 Tryz.underlying214 hi hz0 hz1 _ _ _ _ (lu + 1 - k) rfl rfl (by first | rfl | omega) (by first | rfl | omega) (by rw [hz2]; omega) (by unfold maxLen; omega) (Nat.le_trans hE5.out.size hE10.out.size) ?_; intro w8 hown1 hgrow1))
  have hq : Hid (OwnN w8 w.heap.size (.slice (some ⟨w7.heap.size, 0, none⟩) (List.replicate (lu + 1 - k) 0).length (lu + 1 - k)) (List.replicate (lu + 1 - k) 0)) := by
    rw [made_zeros] at hown1
    simpa [OwnN, Hid] using hown1
  have hE11 : Ext w7 w8 := (Ext.rfl' w7).gr0 hgrow1
  have Q8 : Hid (At w8 w7.heap.size (lu + 1 - k) (List.replicate (lu + 1 - k) 0)) := hq.out.lower (Nat.zero_le _)
  have U8 := Lib.hid (U7.out.ext hE11)
  have V8 := Lib.hid (V7.out.ext hE11)
  have hE12 := Lib.hid (hE10.out.tr hE11)
  have hgq : gv < w7.heap.size := hgv
  clear hown1 hgrow1 hq hE11 U7 V7 hE10 hgv
  generalize w7.heap.size = gq at *
  have hK0 : Hid (KInv (wds (b * f)) (a * f) k (lu + 1 - k) (wds (a * f) ++ [0]) (List.replicate (lu + 1 - k) 0)) := kinv_start HLU.out HK.out hvhi hbf
  obtain ⟨V, hV⟩ : ∃ V, wds (b * f) = V := ⟨_, rfl⟩
  rw [hV] at hK0 V8 HK
  have hokV : Hid (Ok V) := by rw [← hV]; exact ok_wds _
  have HV := Lib.hid hV
  have hv1 : 0 < wd V (k - 1) := by
    rw [← hV]
    have hlt : k - 1 < (wds (b * f)).length := by rw [hV, HK.out]; omega
    rcases Nat.eq_zero_or_pos (wd (wds (b * f)) (k - 1)) with h | h
    · exfalso
      have := wds_last (b * f)
      rw [List.getLast?_eq_getElem?, show (wds (b * f)).length - 1 = k - 1 by rw [hV, HK.out], List.getElem?_eq_getElem hlt, ← wd_lt hlt, h] at this
      exact this rfl
    · exact h
  have hv1l : wd V (k - 1) < 1000000000 := wd_ok hokV.out _
  have hv2l : wd V (k - 2) < 1000000000 := wd_ok hokV.out _
  have cv1 : Hid (w8.cell? ⟨gv, k - 1, none⟩ = some (.int .u32 (wd V (k - 1) : Nat))) := V8.out.cell _ (by rw [HK.out]; omega)
  obtain ⟨v1, hv1e⟩ : ∃ v1, wd V (k - 1) = v1 := ⟨_, rfl⟩
  obtain ⟨v2, hv2e⟩ : ∃ v2, wd V (k - 2) = v2 := ⟨_, rfl⟩
  rw [hv1e] at hv1 hv1l
  rw [hv2e] at hv2l
  have HV1 := Lib.hid hv1e
  have HV2 := Lib.hid hv2e
  obtain ⟨lq, hlq⟩ : ∃ lq, lu + 1 - k = lq := ⟨_, rfl⟩
  have hlq2 : lq + k = lu + 1 := by omega
  rw [hlq] at hK0 Q8 ⊢
  have HLQ := Lib.hid hlq2
  have hlqb : lq ≤ lu := by omega
  clear hV hv1e hv2e cv1 hlq hlq2 hmk hne
  go_loopw [15] (fun j wr => ∃ (t : Nat) (z : Int) (U Q : List Nat), t ≤ lq ∧ j = .int .i64 z ∧ Hid (z = (t : Int) - 1) ∧ Hid (KInv V (a * f) k t U Q) ∧ Hid (U.length = lu + 1) ∧ Hid (Q.length = lq) ∧ Hid (At wr gu cu U) ∧ Hid (At wr gv cv V) ∧ Hid (At wr gq lq Q) ∧ Hid (Ext w4 wr)) (fun j _ => (intOf j + 1).toNat)
  case atStart => exact ⟨lq, _, _, _, Nat.le_refl _, rfl, rfl, hK0, by show _ = _; rw [List.length_append, HLU.out]; rfl, by show _ = _; simp, U8, V8, Q8, hE12⟩
  case round =>
    obtain ⟨t, z, U, Q, ht, rfl, HZ, HKI, HUL, HQL, HU, HVV, HQ, HE⟩ := hrel
    clear hK0 U8 V8 Q8 hE12
    cases t with
    | zero =>
      have hdone := kinv_done (a := a) (b := b) (f := f) HKI.out hokV.out HK.out (by rw [← HV.out, val_wds]) hf0
      have HQV := Lib.hid hdone.1
      have HUV := Lib.hid hdone.2
      have FF := Lib.hid (F4.out.ext HE.out)
      have hflt : f < 1000000000000000000 := by omega
      have HFL := Lib.hid hflt
      have hkl : k ≤ U.length := by rw [HUL.out]; omega
      have hUt : Hid (RdN wr (some ⟨gu, 0, none⟩) (U.take k)) := HU.out.rdN.take k
      have hUtl : Hid ((U.take k).length = k) := by show _ = _; simp; omega
      have hcap := HU.out.cap
      have hcap2 := HQ.out.cap
      have hkc : k ≤ cu := by omega
      have hcm : cu ≤ 9223372036854775807 := hcap.2
      have hqm : lq ≤ 9223372036854775807 := hcap2.2
      obtain rfl : z = -1 := by have := HZ.out; omega
      have HCM := Lib.hid hcm
      have HQM := Lib.hid hqm
      have HKC := Lib.hid hkc
      have hkc2 : (k : Int) ≤ (cu : Int) := by omega
      clear hdone hflt hcap hcap2 hcm hqm hkl HZ
      go_wp2_with fail
      refine (small_any _ _ 1 f _ HLF.out (by omega) FF.out).mono ?_
      rintro e wa ⟨hs, _, hEa⟩
      obtain rfl := hs HFL.out
      clear hs
      have hUt2 := Lib.hid (hUt.out.ext hEa)
      have HQ2 := Lib.hid (HQ.out.ext hEa)
      have HE2 := Lib.hid (HE.out.tr hEa)
      clear hEa FF hUt HQ HE HU HVV
      go_wp2_with fail
      refine (trim_n _ _ k (U.take k) _ hUtl.out HKC.out HCM.out hUt2.out).mono ?_
      rintro e wb ⟨rfl, rfl⟩
      have hoku : Ok (U.take k) := HKI.out.okU.take k
      have htz : tz (U.take k) = wds (a % b * f) := by rw [tz_wds hoku, HUV.out]
      obtain ⟨mt, hmt, hmt2⟩ := tz_prefix (U.take k)
      have hrt : Hid (RdN wa (some ⟨gu, 0, none⟩) (wds (a % b * f))) := by
        show RdN _ _ _
        rw [← htz, hmt2]; exact hUt2.out.take mt
      have hlt : (wds (a % b * f)).length ≤ 1099511627776 := by
        rw [← htz, hmt2]
        have := hUtl.out
        simp only [List.length_take] at this ⊢
        omega
      rw [htz]
      have HLT := Lib.hid hlt
      clear htz hoku hmt hmt2 hlt
      go_wp2_with fail
      refine (by_any _ _ _ (wds (a % b * f)) f _ rfl HLT.out hrt.out (ok_wds _) hf0 hf1).mono ?_
      rintro e wb ⟨v1', v2', rfl, hv1', hv2', hEb⟩
      rw [val_wds, Nat.mul_div_cancel _ hf0] at hv1'
      obtain ⟨A2, c2, rfl, p1, p2, p3, _⟩ := hv1'.parts
      have HQ3 := Lib.hid (HQ2.out.ext hEb)
      have HQR := Lib.hid HQ3.out.rdN
      have HR1 := Lib.hid p3
      have HP1 := Lib.hid p1
      have HP2 := Lib.hid p2
      have HE3 := Lib.hid (hE5.out.tr (HE2.out.tr hEb))
      clear hv1' hv2' hEb p1 p2 p3 HQ2 HE2
      go_wp2_with fail
      refine (trim_n _ _ lq Q _ HQL.out (Nat.le_refl _) HQM.out HQR.out).mono ?_
      rintro e wc ⟨rfl, rfl⟩
      go_wp2
      go_ret2
      have htq : tz Q = wds (a / b) := by rw [tz_wds HKI.out.okQ, HQV.out]
      obtain ⟨mt, hmt, hmt2⟩ := tz_prefix Q
      have hrq : RdN wb (some ⟨gq, 0, none⟩) (wds (a / b)) := by rw [← htq, hmt2]; exact HQR.out.take mt
      have hlq : (wds (a / b)).length ≤ lq := by rw [← htq, hmt2]; have := HQL.out; simp; omega
      exact ⟨some ⟨gq, 0, none⟩, lq, A2, c2, by rw [← htq]; rfl, hrq, hlq, HQM.out, HR1.out, HP1.out, HP2.out, HE3.out⟩
    | succ j =>
      obtain rfl : z = (j : Int) := by have := HZ.out; omega
      have c1 := HU.out.cell (j + k) (by have := HUL.out; have := HLQ.out; omega)
      have c2 := HU.out.cell (j + k - 1) (by have := HUL.out; have := HLQ.out; omega)
      have b1 : wd U (j + k) < 1000000000 := wd_ok HKI.out.okU _
      have b2 : wd U (j + k - 1) < 1000000000 := wd_ok HKI.out.okU _
      obtain ⟨u1, hu1⟩ : ∃ u1, wd U (j + k) = u1 := ⟨_, rfl⟩
      obtain ⟨u2, hu2⟩ : ∃ u2, wd U (j + k - 1) = u2 := ⟨_, rfl⟩
      rw [hu1] at c1 b1
      rw [hu2] at c2 b2
      have HU1 := Lib.hid hu1
      have HU2 := Lib.hid hu2
      have hjk : j + k ≤ lu := by have := HLQ.out; omega
      clear hu1 hu2
      have s1 : IntKind.i64.wrap ((j : Int) + (k : Int)) = (j : Int) + (k : Int) := IntWalk.i64_in _ (by omega)
      have s2 : IntKind.i64.wrap ((j : Int) + (k : Int) - 1) = (j : Int) + (k : Int) - 1 := IntWalk.i64_in _ (by omega)
      have s3 : ((j : Int) + (k : Int)).toNat = j + k := by omega
      have s4 : ((j : Int) + (k : Int) - 1).toNat = j + k - 1 := by omega
      have s5 : 0 ≤ (j : Int) + (k : Int) := by omega
      have s6 : 0 ≤ (j : Int) + (k : Int) - 1 := by omega
      have s7 : (j : Int) + (k : Int) < (lu : Int) + 1 := by omega
      have s8 : (j : Int) + (k : Int) - 1 < (lu : Int) + 1 := by omega
      have p1 : IntKind.u64.wrap ((u1 : Int) * 1000000000) = (u1 : Int) * 1000000000 := IntWalk.u64_in _ (by omega)
      obtain ⟨T, hT⟩ : ∃ T : Nat, u1 * 1000000000 + u2 = T := ⟨_, rfl⟩
      have p2 : IntKind.u64.wrap ((u1 : Int) * 1000000000 + (u2 : Int)) = (T : Int) := by rw [IntWalk.u64_in _ (by omega)]; omega
      have hTb : Hid (T < 1000000000000000000) := by show T < _; omega
      have HT := Lib.hid hT
      clear hT
      go_wp2
      go_quiet (fail)
      clear c1 c2 s1 s2 s3 s4 s5 s6 s7 s8 p1 p2
      have HU2' : Hid (At (wr.drewN nq) gu cu U) := HU.out
      have HVV2 : Hid (At (wr.drewN nq) gv cv V) := HVV.out
      have HQ2 : Hid (At (wr.drewN nq) gq lq Q) := HQ.out
      have HE2 : Hid (Ext w4 (wr.drewN nq)) := HE.out.drN _
      clear HU HVV HQ HE
      generalize wr.drewN nq = wa at *
      go_wp2
      obtain ⟨G0, hG0⟩ : ∃ G0, T / v1 = G0 := ⟨_, rfl⟩
      obtain ⟨R0, hR0⟩ : ∃ R0, T % v1 = R0 := ⟨_, rfl⟩
      have HG0 := Lib.hid hG0
      have HR0 := Lib.hid hR0
      have c1 : wa.cell? ⟨gv, k - 1, none⟩ = some (.int .u32 (v1 : Int)) := by rw [← HV1.out]; exact HVV2.out.cell _ (by rw [HK.out]; omega)
      have s1 : IntKind.i64.wrap ((k : Int) - 1) = (k : Int) - 1 := IntWalk.i64_in _ (by omega)
      have s2 : ((k : Int) - 1).toNat = k - 1 := by omega
      have s3 : 0 ≤ (k : Int) - 1 := by omega
      have s4 : (k : Int) - 1 < (k : Int) := by omega
      have s5 : 1 ≤ (v1 : Int) := by omega
      have q1 : IntKind.u64.wrap ((T : Int) / (v1 : Int)) = (G0 : Int) := by
        rw [← hG0, ← Int.natCast_ediv]; exact IntWalk.u64_in _ ⟨Int.natCast_nonneg _, by have := Nat.div_le_self T v1; have := hTb.out; omega⟩
      have q2 : IntKind.u64.wrap ((T : Int).tdiv (v1 : Int)) = (G0 : Int) := by
        rw [Int.tdiv_eq_ediv_of_nonneg (by omega)]; exact q1
      have q3 : (T : Int).tmod (v1 : Int) = (R0 : Int) := by rw [Int.tmod_eq_emod_of_nonneg (by omega), ← hR0]; rfl
      have q4 : (T : Int) % (v1 : Int) = (R0 : Int) := by rw [← hR0]; rfl
      clear hG0 hR0
      go_quiet (fail)
      clear c1 s1 s2 s3 s4 s5 q1 q2 q3 q4
      have HU3 : Hid (At (wa.drewN nq) gu cu U) := HU2'.out
      have HVV3 : Hid (At (wa.drewN nq) gv cv V) := HVV2.out
      have HQ3 : Hid (At (wa.drewN nq) gq lq Q) := HQ2.out
      have HE3 : Hid (Ext w4 (wa.drewN nq)) := HE2.out.drN _
      clear HU2' HVV2 HQ2 HE2
      generalize wa.drewN nq = wb at *
      go_upto_block 3 with (fail)
      obtain ⟨u3, hu3⟩ : ∃ u3, wd U (j + k - 2) = u3 := ⟨_, rfl⟩
      have hu3b : u3 < 1000000000 := by rw [← hu3]; exact wd_ok HKI.out.okU _
      have HW : Hid (∃ x y, KW (val (U.drop j)) (val V) (BB ^ (k - 2)) (T * BB + u3) T u3 v1 v2 x y) := by
        have h := kwin HKI.out hokV.out HK.out hvlo (by rw [HV1.out]; exact hv1)
        rw [HU1.out, HU2.out, hu3, HV1.out, HV2.out, show u1 * BB + u2 = T from HT.out] at h
        exact h.1
      have HTL : Hid (T ≤ v1 * BB + (BB - 1)) := by
        have h := kwin HKI.out hokV.out HK.out hvlo (by rw [HV1.out]; exact hv1)
        rw [HU1.out, HU2.out, hu3, HV1.out, HV2.out, show u1 * BB + u2 = T from HT.out] at h
        exact h.2
      have HU3e := Lib.hid hu3
      clear hu3
      obtain ⟨q, hqe⟩ : ∃ q, val (U.drop j) / val V = q := ⟨_, rfl⟩
      have HQE := Lib.hid hqe
      have hq0 : Hid (q ≤ G0) := by obtain ⟨x, y, h⟩ := HW.out; rw [← hqe, ← HG0.out]; exact h.start
      have hgr : Hid (G0 * v1 + R0 = T) := by show _ = _; rw [← HG0.out, ← HR0.out, Nat.mul_comm]; exact Nat.div_add_mod T v1
      have hgb : Hid (G0 < 1000000000000000000) := by rw [← HG0.out]; exact Nat.lt_of_le_of_lt (Nat.div_le_self T v1) hTb.out
      have hrb : Hid (R0 < Nine9) := by show R0 < 1000000000; rw [← HR0.out]; exact Nat.lt_trans (Nat.mod_lt T hv1) hv1l
      clear hqe
      go_cut [17] (fun gs wc => ∃ (G : Nat), gs = .int .u64 (G : Int) ∧ Hid (G < Nine9) ∧ Hid (q ≤ G ∧ G ≤ q + 1) ∧ Hid (At wc gu cu U) ∧ Hid (At wc gv cv V) ∧ Hid (At wc gq lq Q) ∧ Hid (Ext w4 wc))
      case first =>
        go_wp2
        go_loopw [17, 18] (fun gs rs wr => ∃ (G R : Nat), gs = .int .u64 (G : Int) ∧ rs = .int .u64 (R : Int) ∧ Hid (G < 1000000000000000000) ∧ Hid (R < Nine9) ∧ Hid (q ≤ G) ∧ Hid (G * v1 + R = T) ∧ Hid (At wr gu cu U) ∧ Hid (At wr gv cv V) ∧ Hid (At wr gq lq Q) ∧ Hid (Ext w4 wr)) (fun _ rs _ => Nine9 - (intOf rs).toNat)
        case atStart => exact ⟨G0, R0, rfl, rfl, hgb, hrb, hq0, hgr, HU3, HVV3, HQ3, HE3⟩
        case round =>
          obtain ⟨G, R, rfl, rfl, hGb, hRb, HGQ, HGR, HU, HVV, HQ, HE⟩ := hrel
          clear HU3 HVV3 HQ3 HE3 hq0 hgr hgb hrb
          have hRb1 : R < 1000000000 := hRb
          have c1 : wr.cell? ⟨gv, k - 1, none⟩ = some (.int .u32 (v1 : Int)) := by rw [← HV1.out]; exact HVV.out.cell _ (by rw [HK.out]; omega)
          have c2 : wr.cell? ⟨gv, k - 2, none⟩ = some (.int .u32 (v2 : Int)) := by rw [← HV2.out]; exact HVV.out.cell _ (by rw [HK.out]; omega)
          have c3 : wr.cell? ⟨gu, j + k - 2, none⟩ = some (.int .u32 (u3 : Int)) := by rw [← HU3e.out]; exact HU.out.cell _ (by have := HUL.out; omega)
          by_cases hG : 1000000000 ≤ G
          · have hGd : decide ((1000000000 : Int) ≤ (G : Int)) = true := decide_eq_true (by omega)
            have hst : Hid (1 ≤ G ∧ q ≤ G - 1 ∧ (G - 1) * v1 + (R + v1) = T) := by
              obtain ⟨x, y, h⟩ := HW.out
              have := h.step (by rw [HQE.out]; exact HGQ.out) HGR.out (.inl (by rw [BB_eq]; exact hG))
              rwa [HQE.out] at this
            obtain ⟨hg1, hg2, hg3⟩ := hst.out
            have w1 : IntKind.u64.wrap ((G : Int) - 1) = ((G - 1 : Nat) : Int) := by rw [IntWalk.u64_in _ (by have := hGb.out; omega)]; omega
            have hGb2 : Hid (G - 1 < 1000000000000000000) := by have := hGb.out; show G - 1 < _; omega
            have HG2 : Hid (q ≤ G - 1) := hg2
            have HG3 : Hid ((G - 1) * v1 + (R + v1) = T) := hg3
            clear hst hg2 hg3
            by_cases hbr : R + v1 < 1000000000
            · have HBR : Hid (R + v1 < Nine9) := hbr
              have hRd : decide ((1000000000 : Int) ≤ (R : Int) + (v1 : Int)) = false := decide_eq_false (by omega)
              clear hbr
              go_wp2
              go_quiet (fail)
              have d1 : (wr.drewN nq).cell? ⟨gv, k - 1, none⟩ = some (.int .u32 (v1 : Int)) := c1
              have U9 : Hid (At (wr.drewN nq) gu cu U) := HU.out
              have V9 : Hid (At (wr.drewN nq) gv cv V) := HVV.out
              have Q9 : Hid (At (wr.drewN nq) gq lq Q) := HQ.out
              have E9 : Hid (Ext w4 (wr.drewN nq)) := HE.out.drN _
              clear c1 c2 c3 HU HVV HQ HE hGd
              generalize wr.drewN nq = wd9 at *
              go_wp2
              go_roundw
              case rel => exact ⟨G - 1, R + v1, ret_int' (by omega), ret_int' (by omega), hGb2, HBR, HG2, HG3, U9, V9, Q9, E9⟩
              case measure => simp [intOf]; unfold Nine9; omega
            · have hfin : Hid (G - 1 < Nine9) ∧ Hid (q ≤ G - 1 ∧ G - 1 ≤ q + 1) := by
                obtain ⟨x, y, h⟩ := HW.out
                have h2 := h.last HTL.out HG3.out (.inl (by rw [BB_eq]; omega))
                rw [HQE.out] at h2
                exact ⟨h2.1, HG2.out, h2.2⟩
              obtain ⟨hf1, HF⟩ := hfin
              have hRd : decide ((1000000000 : Int) ≤ (R : Int) + (v1 : Int)) = true := decide_eq_true (by omega)
              clear hbr
              go_wp2
              go_quiet (fail)
              have d1 : (wr.drewN nq).cell? ⟨gv, k - 1, none⟩ = some (.int .u32 (v1 : Int)) := c1
              have U9 : Hid (At (wr.drewN nq) gu cu U) := HU.out
              have V9 : Hid (At (wr.drewN nq) gv cv V) := HVV.out
              have Q9 : Hid (At (wr.drewN nq) gq lq Q) := HQ.out
              have E9 : Hid (Ext w4 (wr.drewN nq)) := HE.out.drN _
              clear c1 c2 c3 HU HVV HQ HE hGd
              generalize wr.drewN nq = wd9 at *
              go_wp2
              go_meet
              case rel => exact ⟨G - 1, ret_int' (by omega), hf1, HF, U9, V9, Q9, E9⟩
          · have hGd : decide ((1000000000 : Int) ≤ (G : Int)) = false := decide_eq_false (by omega)
            have s1 : IntKind.i64.wrap ((k : Int) - 2) = (k : Int) - 2 := IntWalk.i64_in _ (by omega)
            have s2 : ((k : Int) - 2).toNat = k - 2 := by omega
            have s3 : 0 ≤ (k : Int) - 2 := by omega
            have s4 : (k : Int) - 2 < (k : Int) := by omega
            have s5 : IntKind.i64.wrap ((j : Int) + (k : Int)) = (j : Int) + (k : Int) := IntWalk.i64_in _ (by omega)
            have s6 : IntKind.i64.wrap ((j : Int) + (k : Int) - 2) = (j : Int) + (k : Int) - 2 := IntWalk.i64_in _ (by omega)
            have s7 : ((j : Int) + (k : Int) - 2).toNat = j + k - 2 := by omega
            have s8 : 0 ≤ (j : Int) + (k : Int) - 2 := by omega
            have s9 : (j : Int) + (k : Int) - 2 < (lu : Int) + 1 := by omega
            have p1 : IntKind.u64.wrap ((R : Int) * 1000000000) = (R : Int) * 1000000000 := IntWalk.u64_in _ (by omega)
            have p2 : IntKind.u64.wrap ((R : Int) * 1000000000 + (u3 : Int)) = (R : Int) * 1000000000 + (u3 : Int) := IntWalk.u64_in _ (by omega)
            have p3 : IntKind.u64.wrap ((G : Int) * (v2 : Int)) = (G : Int) * (v2 : Int) := by
              have : G * v2 ≤ 1000000000 * 1000000000 := Nat.mul_le_mul (by omega) (by omega)
              have e : ((G * v2 : Nat) : Int) = (G : Int) * (v2 : Int) := Int.natCast_mul G v2
              exact IntWalk.u64_in _ (by omega)
            by_cases hgt : (R : Int) * 1000000000 + (u3 : Int) < (G : Int) * (v2 : Int)
            · have hgd2 : decide ((R : Int) * 1000000000 + (u3 : Int) < (G : Int) * (v2 : Int)) = true := decide_eq_true hgt
              have hst : Hid (1 ≤ G ∧ q ≤ G - 1 ∧ (G - 1) * v1 + (R + v1) = T) := by
                obtain ⟨x, y, h⟩ := HW.out
                have e : ((G * v2 : Nat) : Int) = (G : Int) * (v2 : Int) := Int.natCast_mul G v2
                have := h.step (by rw [HQE.out]; exact HGQ.out) HGR.out (.inr (by rw [BB_eq]; omega))
                rwa [HQE.out] at this
              clear hgt
              obtain ⟨hg1, hg2, hg3⟩ := hst.out
              have w1 : IntKind.u64.wrap ((G : Int) - 1) = ((G - 1 : Nat) : Int) := by rw [IntWalk.u64_in _ (by have := hGb.out; omega)]; omega
              have hGb2 : Hid (G - 1 < 1000000000000000000) := by have := hGb.out; show G - 1 < _; omega
              have HG2 : Hid (q ≤ G - 1) := hg2
              have HG3 : Hid ((G - 1) * v1 + (R + v1) = T) := hg3
              clear hst hg2 hg3
              by_cases hbr : R + v1 < 1000000000
              · have HBR : Hid (R + v1 < Nine9) := hbr
                have hRd : decide ((1000000000 : Int) ≤ (R : Int) + (v1 : Int)) = false := decide_eq_false (by omega)
                clear hbr
                go_wp2
                go_quiet (fail)
                have d1 : (wr.drewN nq).cell? ⟨gv, k - 1, none⟩ = some (.int .u32 (v1 : Int)) := c1
                have U9 : Hid (At (wr.drewN nq) gu cu U) := HU.out
                have V9 : Hid (At (wr.drewN nq) gv cv V) := HVV.out
                have Q9 : Hid (At (wr.drewN nq) gq lq Q) := HQ.out
                have E9 : Hid (Ext w4 (wr.drewN nq)) := HE.out.drN _
                clear c1 c2 c3 HU HVV HQ HE hGd
                generalize wr.drewN nq = wd9 at *
                go_wp2
                go_roundw
                case rel => exact ⟨G - 1, R + v1, ret_int' (by omega), ret_int' (by omega), hGb2, HBR, HG2, HG3, U9, V9, Q9, E9⟩
                case measure => simp [intOf]; unfold Nine9; omega
              · have hfin : Hid (G - 1 < Nine9) ∧ Hid (q ≤ G - 1 ∧ G - 1 ≤ q + 1) := by
                  obtain ⟨x, y, h⟩ := HW.out
                  have h2 := h.last HTL.out HG3.out (.inl (by rw [BB_eq]; omega))
                  rw [HQE.out] at h2
                  exact ⟨h2.1, HG2.out, h2.2⟩
                obtain ⟨hf1, HF⟩ := hfin
                have hRd : decide ((1000000000 : Int) ≤ (R : Int) + (v1 : Int)) = true := decide_eq_true (by omega)
                clear hbr
                go_wp2
                go_quiet (fail)
                have d1 : (wr.drewN nq).cell? ⟨gv, k - 1, none⟩ = some (.int .u32 (v1 : Int)) := c1
                have U9 : Hid (At (wr.drewN nq) gu cu U) := HU.out
                have V9 : Hid (At (wr.drewN nq) gv cv V) := HVV.out
                have Q9 : Hid (At (wr.drewN nq) gq lq Q) := HQ.out
                have E9 : Hid (Ext w4 (wr.drewN nq)) := HE.out.drN _
                clear c1 c2 c3 HU HVV HQ HE hGd
                generalize wr.drewN nq = wd9 at *
                go_wp2
                go_meet
                case rel => exact ⟨G - 1, ret_int' (by omega), hf1, HF, U9, V9, Q9, E9⟩
            · have hgd2 : decide ((R : Int) * 1000000000 + (u3 : Int) < (G : Int) * (v2 : Int)) = false := decide_eq_false hgt
              have hfin : Hid (G < Nine9) ∧ Hid (q ≤ G ∧ G ≤ q + 1) := by
                obtain ⟨x, y, h⟩ := HW.out
                have e : ((G * v2 : Nat) : Int) = (G : Int) * (v2 : Int) := Int.natCast_mul G v2
                have h2 := h.last HTL.out HGR.out (.inr (by rw [BB_eq]; omega))
                rw [HQE.out] at h2
                exact ⟨h2.1, HGQ.out, h2.2⟩
              obtain ⟨hf1, HF⟩ := hfin
              clear hgt
              go_wp2
              go_quiet (fail)
              go_wp2
              go_meet
              case rel => exact ⟨G, rfl, hf1, HF, HU.out, HVV.out, HQ.out, HE.out.drN _⟩
      case rest =>
        obtain ⟨G, rfl, hGn, HGQ, HU, HVV, HQ, HE⟩ := hcut
        clear HU3 HVV3 HQ3 HE3 hq0 hgr hgb hrb
        have hG9 : G < 1000000000 := hGn
        have hGB : G < BB := hGn
        have hVl : V.length = k := HK.out
        have HVL := Lib.hid hVl
        clear hVl
        go_wp2
        go_loopw [19, 20, 181] (fun cs bs is wr => ∃ (i C b : Nat) (D : List Nat), i ≤ k ∧ is = .int .i64 (i : Int) ∧ cs = .int .i64 (C : Int) ∧ bs = .int .i64 (b : Int) ∧ Hid (C < Nine9) ∧ b ≤ 1 ∧ Hid (SInv U V j G i D C b) ∧ Hid (At wr gu cu (U.take j ++ (D ++ U.drop (j + i)))) ∧ Hid (At wr gv cv V) ∧ Hid (At wr gq lq Q) ∧ Hid (Ext w4 wr)) (fun _ _ is _ => k - (intOf is).toNat)
        case atStart => exact ⟨0, 0, 0, [], Nat.zero_le _, rfl, rfl, rfl, (by show (0 : Nat) < 1000000000; omega), by omega, SInv.start U V j G, by rw [mid_start]; exact HU, HVV, HQ, HE⟩
        case round =>
          obtain ⟨i, C, b', D, hi', rfl, rfl, rfl, hCn, hb', HS, HU2, HVV2, HQ2, HE2⟩ := hrel
          clear HU HVV HQ HE
          have hC9 : C < 1000000000 := hCn
          by_cases hik : i < k
          · have hjl : j + i < U.length := by have := HUL.out; omega
            have cV : wr.cell? ⟨gv, i, none⟩ = some (.int .u32 (wd V i : Nat)) := HVV2.out.cell i (by rw [HVL.out]; exact hik)
            have cU := HU2.out.cell (i + j) (by rw [mid_len HS.out.1 (by omega)]; omega)
            rw [mid_get HS.out.1 (by omega) (Nat.le_refl _)] at cU
            have fU : wr.frozen? ⟨gu, i + j, none⟩ = false := HU2.out.froz (i + j)
            have hy : wd V i < 1000000000 := wd_ok hokV.out _
            have hx : wd U (i + j) < 1000000000 := wd_ok HKI.out.okU _
            obtain ⟨y', hye⟩ : ∃ y', wd V i = y' := ⟨_, rfl⟩
            obtain ⟨x', hxe⟩ : ∃ x', wd U (i + j) = x' := ⟨_, rfl⟩
            rw [hye] at cV hy
            rw [hxe] at cU hx
            have HY := Lib.hid hye
            have HX := Lib.hid hxe
            have HJL := Lib.hid hjl
            clear hye hxe hjl
            have hm0 : 0 ≤ (G : Int) * (y' : Int) := Int.mul_nonneg (by omega) (by omega)
            have hm : (G : Int) * (y' : Int) ≤ 999999998000000001 := by
              have : G * y' ≤ 999999999 * 999999999 := Nat.mul_le_mul (by omega) (by omega)
              have e : ((G * y' : Nat) : Int) = (G : Int) * (y' : Int) := Int.natCast_mul G y'
              omega
            by_cases hneg : (x' : Int) - ((G : Int) * (y' : Int) + (C : Int)) % 1000000000 - (b' : Int) < 0
            · have hnd : decide ((x' : Int) - ((G : Int) * (y' : Int) + (C : Int)) % 1000000000 - (b' : Int) < 0) = true := decide_eq_true hneg
              have HNG := Lib.hid hneg
              clear hneg
              go_wp2
              have hpc : (G : Int) * (y' : Int) + (C : Int) = ((G * y' + C : Nat) : Int) := by push_cast; rfl
              have hpm : ((G : Int) * (y' : Int) + (C : Int)) % 1000000000 = (((G * y' + C) % 1000000000 : Nat) : Int) := cast_mod hpc
              have HS2 := HS.out.step (p := G * y' + C) (c' := (G * y' + C) / 1000000000) (d := (x' : Int) - (((G * y' + C) % 1000000000 : Nat) : Int) - (b' : Int)) (d' := ((x' : Int) - ((G : Int) * (y' : Int) + (C : Int)) % 1000000000 - (b' : Int) + 1000000000).toNat) (bw' := 1) HKI.out.okU hokV.out hGB (by rw [HY.out]) rfl (by rw [Nat.add_comm j i, HX.out]) (by rw [← hpm]; exact (.inl ⟨HNG.out, by omega, rfl⟩))
              have hC2 : Hid ((G * y' + C) / 1000000000 < Nine9) := HS2.2.2.1
              go_roundw
              case rel =>
                refine ⟨i + 1, (G * y' + C) / 1000000000, 1, D ++ [((x' : Int) - ((G : Int) * (y' : Int) + (C : Int)) % 1000000000 - (b' : Int) + 1000000000).toNat], by omega, by go_num, ret_int' (cast_div hpc), rfl, hC2, by omega, HS2, ?_, HVV2.out.far (by omega) _ _, HQ2.out.far (by omega) _ _, HE2.out.setCell (by show w4.heap.size ≤ gu; omega) _⟩
                have hset := mid_set (d := ((x' : Int) - ((G : Int) * (y' : Int) + (C : Int)) % 1000000000 - (b' : Int) + 1000000000).toNat) HS.out.1 (by have := HJL.out; omega : j + i < U.length)
                rw [← hset]
                exact HU2.out.store (i + j) _ (by have := HNG.out; omega)
              case measure => simp [intOf]; omega
            · have hnd : decide ((x' : Int) - ((G : Int) * (y' : Int) + (C : Int)) % 1000000000 - (b' : Int) < 0) = false := decide_eq_false hneg
              have HNG := Lib.hid hneg
              clear hneg
              go_wp2
              have hpc : (G : Int) * (y' : Int) + (C : Int) = ((G * y' + C : Nat) : Int) := by push_cast; rfl
              have hpm : ((G : Int) * (y' : Int) + (C : Int)) % 1000000000 = (((G * y' + C) % 1000000000 : Nat) : Int) := cast_mod hpc
              have HS2 := HS.out.step (p := G * y' + C) (c' := (G * y' + C) / 1000000000) (d := (x' : Int) - (((G * y' + C) % 1000000000 : Nat) : Int) - (b' : Int)) (d' := ((x' : Int) - ((G : Int) * (y' : Int) + (C : Int)) % 1000000000 - (b' : Int)).toNat) (bw' := 0) HKI.out.okU hokV.out hGB (by rw [HY.out]) rfl (by rw [Nat.add_comm j i, HX.out]) (by rw [← hpm]; exact (.inr ⟨by have := HNG.out; omega, by have := HNG.out; omega, rfl⟩))
              have hC2 : Hid ((G * y' + C) / 1000000000 < Nine9) := HS2.2.2.1
              go_roundw
              case rel =>
                refine ⟨i + 1, (G * y' + C) / 1000000000, 0, D ++ [((x' : Int) - ((G : Int) * (y' : Int) + (C : Int)) % 1000000000 - (b' : Int)).toNat], by omega, by go_num, ret_int' (cast_div hpc), rfl, hC2, by omega, HS2, ?_, HVV2.out.far (by omega) _ _, HQ2.out.far (by omega) _ _, HE2.out.setCell (by show w4.heap.size ≤ gu; omega) _⟩
                have hset := mid_set (d := ((x' : Int) - ((G : Int) * (y' : Int) + (C : Int)) % 1000000000 - (b' : Int)).toNat) HS.out.1 (by have := HJL.out; omega : j + i < U.length)
                rw [← hset]
                exact HU2.out.store (i + j) _ (by have := HNG.out; omega)
              case measure => simp [intOf]; omega
          · have hie : i = k := by omega
            have HS3 : Hid (SInv U V j G k D C b') := by rw [← hie]; exact HS
            have HU3 : Hid (At wr gu cu (U.take j ++ (D ++ U.drop (j + k)))) := by rw [← hie]; exact HU2
            have hlt : j + k < U.length := by have := HUL.out; omega
            have cU := HU3.out.cell (j + k) (by rw [mid_len HS3.out.1 (by omega)]; exact hlt)
            have fU : wr.frozen? ⟨gu, j + k, none⟩ = false := HU3.out.froz (j + k)
            have hge := mid_get (U := U) (D := D) (j := j) HS3.out.1 (by omega : j + k ≤ U.length) (Nat.le_refl k)
            rw [Nat.add_comm k j, HU1.out] at hge
            rw [hge] at cU
            have HLT := Lib.hid hlt
            have hdn := HS3.out.done (last := (u1 : Int) - (C : Int) - (b' : Int)) HKI.out hokV.out HK.out (by rw [HQE.out]; exact HGQ.out.2) (by rw [HQE.out]; exact HGQ.out.1) (by rw [HU1.out])
            have HDN := Lib.hid hdn
            clear hie hlt hge hdn HS HU2
            go_upto_if 232 with (fail)
            go_cut [17, 24] (fun gs ls wc => ∃ (g' : Nat) (D' : List Nat), gs = .int .u64 (g' : Int) ∧ ls = .int .i64 0 ∧ Hid (DStep U V j k g' D') ∧ Hid (At wc gu cu (U.take j ++ (D' ++ U.drop (j + k)))) ∧ Hid (At wc gv cv V) ∧ Hid (At wc gq lq Q) ∧ Hid (Ext w4 wc))
            case first =>
              by_cases hl0 : (u1 : Int) - (C : Int) - (b' : Int) < 0
              · have hld : decide ((u1 : Int) - (C : Int) - (b' : Int) < 0) = true := decide_eq_true hl0
                obtain ⟨e1, e2, e3, e4, e5⟩ := HDN.out.2 hl0
                have HL1 := Lib.hid e1
                have HG1 := Lib.hid e2
                have H3 := Lib.hid e3
                have H4 := Lib.hid e4
                have H5 := Lib.hid e5
                have wG : IntKind.u64.wrap ((G : Int) - 1) = ((G - 1 : Nat) : Int) := by rw [IntWalk.u64_in _ (by omega)]; omega
                have hG1 : 1 ≤ G := e2
                have hC0 : (C : Int) ≤ 999999999 := by omega
                clear e1 e2 e3 e4 e5 hld
                go_wp2
                clear hl0
                have HDk : Hid (D.length = k) := HS3.out.1
                have HDo : Hid (Ok D) := HS3.out.2.1
                go_loopw [25, 236] (fun us is wr => ∃ (i up : Nat) (E : List Nat), i ≤ k ∧ is = .int .i64 (i : Int) ∧ us = .int .u64 (up : Int) ∧ up ≤ 1 ∧ Hid (AInv D V i E up) ∧ Hid (At wr gu cu (U.take j ++ (E ++ (D.drop i ++ U.drop (j + k))))) ∧ Hid (At wr gv cv V) ∧ Hid (At wr gq lq Q) ∧ Hid (Ext w4 wr)) (fun _ is _ => k - (intOf is).toNat)
                case atStart => exact ⟨0, 0, [], Nat.zero_le _, rfl, rfl, by omega, AInv.start D V, by rw [← add_start]; exact HU3, HVV2, HQ2, HE2⟩
                case round =>
                  obtain ⟨i, up, E, hi', rfl, rfl, hup, HA, HU4, HVV4, HQ4, HE4⟩ := hrel
                  clear HU3 HVV2 HQ2 HE2
                  by_cases hik : i < k
                  · have hjl : j + k ≤ U.length := by have := HUL.out; omega
                    have cV : wr.cell? ⟨gv, i, none⟩ = some (.int .u32 (wd V i : Nat)) := HVV4.out.cell i (by rw [HVL.out]; exact hik)
                    have cU := HU4.out.cell (i + j) (by rw [add_len HA.out.1 HDk.out hi' hjl]; omega)
                    rw [add_get HA.out.1 HDk.out hik hjl] at cU
                    have hy : wd V i < 1000000000 := wd_ok hokV.out _
                    have hx : wd D i < 1000000000 := wd_ok HDo.out _
                    obtain ⟨y', hye⟩ : ∃ y', wd V i = y' := ⟨_, rfl⟩
                    obtain ⟨x', hxe⟩ : ∃ x', wd D i = x' := ⟨_, rfl⟩
                    rw [hye] at cV hy
                    rw [hxe] at cU hx
                    have HY := Lib.hid hye
                    have HX := Lib.hid hxe
                    have HJL := Lib.hid hjl
                    clear hye hxe hjl
                    have s1 : IntKind.i64.wrap ((i : Int) + (j : Int)) = (i : Int) + (j : Int) := IntWalk.i64_in _ (by omega)
                    have s2 : ((i : Int) + (j : Int)).toNat = i + j := by omega
                    have s3 : 0 ≤ (i : Int) + (j : Int) := by omega
                    have s4 : (i : Int) + (j : Int) < (lu : Int) + 1 := by omega
                    obtain ⟨S, hS⟩ : ∃ S, up + (x' + y') = S := ⟨_, rfl⟩
                    have p1 : IntKind.u64.wrap ((x' : Int) + (y' : Int)) = (x' : Int) + (y' : Int) := IntWalk.u64_in _ (by omega)
                    have p2 : IntKind.u64.wrap ((up : Int) + ((x' : Int) + (y' : Int))) = (S : Int) := by rw [IntWalk.u64_in _ (by omega)]; omega
                    have hSb : S ≤ 1999999999 := by omega
                    have HSS := Lib.hid hS
                    clear hS
                    go_wp2
                    go_quiet (fail)
                    clear s1 s2 s3 s4 p1 p2 cU cV
                    have HU5 : Hid (At (wr.drewN nq) gu cu (U.take j ++ (E ++ (D.drop i ++ U.drop (j + k))))) := HU4.out
                    have HVV5 : Hid (At (wr.drewN nq) gv cv V) := HVV4.out
                    have HQ5 : Hid (At (wr.drewN nq) gq lq Q) := HQ4.out
                    have HE5 : Hid (Ext w4 (wr.drewN nq)) := HE4.out.drN _
                    have fU : (wr.drewN nq).frozen? ⟨gu, i + j, none⟩ = false := HU5.out.froz (i + j)
                    have cU := HU5.out.cell (i + j) (by rw [add_len HA.out.1 HDk.out hi' HJL.out]; have := HJL.out; omega)
                    generalize wd (U.take j ++ (E ++ (D.drop i ++ U.drop (j + k)))) (i + j) = xx at cU
                    clear HU4 HVV4 HQ4 HE4
                    generalize wr.drewN nq = wx at *
                    go_wp2
                    have HA2 := HA.out.step (s := S) HDo.out hokV.out (by rw [HX.out, HY.out]; exact HSS.out.symm)
                    have hup2 : S / 1000000000 ≤ 1 := by omega
                    go_roundw
                    case rel =>
                      refine ⟨i + 1, S / 1000000000, E ++ [S % 1000000000], by omega, by go_num, ret_int' (cast_div rfl), hup2, HA2, ?_, HVV5.out.far (by omega) _ _, HQ5.out.far (by omega) _ _, HE5.out.setCell (by show w4.heap.size ≤ gu; omega) _⟩
                      have hset := add_set (e := S % 1000000000) HA.out.1 HDk.out hik HJL.out
                      rw [← hset]
                      exact HU5.out.store (i + j) _ (by omega)
                    case measure => simp [intOf]; omega
                  · have hie : i = k := by omega
                    have hHA : AInv D V k E up := by have := HA.out; rwa [hie] at this
                    have hHU : At wr gu cu (U.take j ++ (E ++ U.drop (j + k))) := by have := HU4.out; rw [hie, add_end HDk.out] at this; exact this
                    obtain ⟨q1, q2, q3⟩ := hHA.done (j := j) (U := U) (g := G) hokV.out HVL.out HDk.out hG1 H3.out H4.out H5.out
                    subst q1
                    have HDS : Hid (DStep U V j k (G - 1) E) := ⟨hHA.1, hHA.2.1, by have := hGB; omega, by
                      have e : ((G : Int) - 1) = ((G - 1 : Nat) : Int) := by omega
                      exact q2, q3⟩
                    have HHU := Lib.hid hHU
                    have HIE := Lib.hid hie
                    clear hie hHA hHU q2 q3 HU4
                    go_wp2
                    go_meet
                    case rel => exact ⟨G - 1, E, rfl, ret_int' (by have := HL1.out; omega), HDS, HHU, HVV4, HQ4, HE4⟩
              · have hld : decide ((u1 : Int) - (C : Int) - (b' : Int) < 0) = false := decide_eq_false hl0
                obtain ⟨e1, e2, e3⟩ := HDN.out.1 (by omega)
                have HL1 := Lib.hid e1
                have HDS : Hid (DStep U V j k G D) := ⟨HS3.out.1, HS3.out.2.1, hGB, e2, e3⟩
                clear e1 e2 e3 hld
                go_wp2
                go_meet
                case rel => exact ⟨G, D, rfl, ret_int' HL1.out, HDS, HU3, HVV2, HQ2, HE2⟩
            case rest =>
              clear HU3 HVV2 HQ2 HE2 cU fU
              obtain ⟨g', D', rfl, rfl, HDS, HU3, HVV2, HQ2, HE2⟩ := hcut
              have hne1 : ¬ gu = gq := by omega
              have hne2 : ¬ gq = gu := by omega
              have cU := HU3.out.cell (j + k) (by rw [mid_len HDS.out.1 (by have := HLT.out; omega)]; exact HLT.out)
              have fU : wc.frozen? ⟨gu, j + k, none⟩ = false := HU3.out.froz (j + k)
              have cQ := HQ2.out.cell j (by rw [HQL.out]; omega)
              have fQ : wc.frozen? ⟨gq, j, none⟩ = false := HQ2.out.froz j
              have hgg : g' < 1000000000 := HDS.out.2.2.1
              generalize wd (U.take j ++ (D' ++ U.drop (j + k))) (j + k) = xx at cU
              generalize wd Q j = yy at cQ
              go_wp2
              have HK2 := HKI.out.next hokV.out HVL.out D' g' HDS.out.1 HDS.out.2.1 HDS.out.2.2.1 HDS.out.2.2.2.1 HDS.out.2.2.2.2
              have hset := end_set (U := U) (j := j) HDS.out.1 HLT.out
              have U9 := HU3.out.store (j + k) 0 (z := (0 : Int)) rfl
              rw [hset] at U9
              have U10 : Hid (At ((wc.setCell ⟨gu, j + k, none⟩ (.int .u32 0)).setCell ⟨gq, j, none⟩ (.int .u32 (g' : Int))) gu cu (U.take j ++ (D' ++ 0 :: U.drop (j + k + 1)))) := U9.far hne1 _ _
              have V10 : Hid (At ((wc.setCell ⟨gu, j + k, none⟩ (.int .u32 0)).setCell ⟨gq, j, none⟩ (.int .u32 (g' : Int))) gv cv V) := (HVV2.out.far (by omega) _ _).far (by omega) _ _
              have Q10 : Hid (At ((wc.setCell ⟨gu, j + k, none⟩ (.int .u32 0)).setCell ⟨gq, j, none⟩ (.int .u32 (g' : Int))) gq lq (Q.set j g')) := (HQ2.out.far hne2 _ _).store j g' rfl
              have E10 : Hid (Ext w4 ((wc.setCell ⟨gu, j + k, none⟩ (.int .u32 0)).setCell ⟨gq, j, none⟩ (.int .u32 (g' : Int)))) := (HE2.out.setCell (by show w4.heap.size ≤ gu; omega) _).setCell (by show w4.heap.size ≤ gq; omega) _
              have UL10 : Hid ((U.take j ++ (D' ++ 0 :: U.drop (j + k + 1))).length = lu + 1) := by
                show _ = _
                rw [← hset, List.length_set, mid_len HDS.out.1 (by have := HLT.out; omega), HUL.out]
              have QL10 : Hid ((Q.set j g').length = lq) := by show _ = _; rw [List.length_set, HQL.out]
              go_roundw
              case rel => exact ⟨j, _, _, _, by omega, rfl, rfl, HK2, UL10, QL10, U10, V10, Q10, E10⟩
              case measure => simp [intOf]
end Go.Proofs.YtadimepmoljnpaaGreatDoor.GB
