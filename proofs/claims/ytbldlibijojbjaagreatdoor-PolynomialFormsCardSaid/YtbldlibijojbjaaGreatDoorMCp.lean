import Derived.Test.YtbldlibijojbjaaGreatDoorMNx
import Derived.Deep.RegionWith
import Derived.Deep.DrawnRows
import Derived.Test.YtbldlibijojbjaaGreatDoorMNm
namespace Go.Proofs.YtbldlibijojbjaaGreatDoor.GB
set_option linter.unusedVariables false
set_option linter.unusedSimpArgs false
open Go.RowKit

def cmpZ (a b : Nat) : Int := if a < b then -1 else if b < a then 1 else 0
theorem cmpZ_lt {a b : Nat} (h : a < b) : cmpZ a b = -1 := if_pos h
theorem cmpZ_gt {a b : Nat} (h : b < a) : cmpZ a b = 1 := by unfold cmpZ; rw [if_neg (by omega), if_pos h]
theorem cmpZ_eq (a : Nat) : cmpZ a a = 0 := by unfold cmpZ; rw [if_neg (by omega), if_neg (by omega)]
theorem word_lt {la lb : List Nat} {j : Nat} (oa : Ok la) (hd : la.drop (j + 1) = lb.drop (j + 1)) (h : wd la j < wd lb j) : val la < val lb := by
  have e1 := val_split la j
  have e2 := val_split lb j
  have f1 := val_drop_cons la j
  have f2 := val_drop_cons lb j
  have g := val_take_lt oa j
  rw [hd] at f1
  have h1 := Nat.mul_le_mul_left (BB ^ j) h
  rw [e1, e2, f1, f2]
  rw [Nat.mul_succ] at h1
  rw [Nat.mul_add, Nat.mul_add]
  omega
def cmpI (x y : Int) : Int := if x < y then -1 else if y < x then 1 else 0
set_option maxHeartbeats 400000 in
theorem cmpInt_any (x y : Int) (w : World) : Calls Tryz.prog 246 #[.int .i64 x, .int .i64 y] w fun e w' => e = .returned (.int .i64 (cmpI x y)) ∧ w = w' := by
  unfold cmpI
  by_cases h : x < y
  · rw [if_pos h]
    go_enter Tryz.func246, Tryz.ntmps246
    go_wp2
    go_ret
    exact ⟨rfl, rfl⟩
  · rw [if_neg h]
    by_cases h2 : y < x
    · rw [if_pos h2]
      go_enter Tryz.func246, Tryz.ntmps246
      go_wp2
      go_ret
      exact ⟨rfl, rfl⟩
    · rw [if_neg h2]
      go_enter Tryz.func246, Tryz.ntmps246
      go_wp2
      go_ret
      exact ⟨rfl, rfl⟩
set_option maxHeartbeats 400000 in
theorem cmpU32_any (x y : Int) (w : World) : Calls Tryz.prog 247 #[.int .u32 x, .int .u32 y] w fun e w' => e = .returned (.int .i64 (cmpI x y)) ∧ w = w' := by
  unfold cmpI
  by_cases h : x < y
  · rw [if_pos h]
    go_enter Tryz.func247, Tryz.ntmps247
    go_wp2
    go_ret
    exact ⟨rfl, rfl⟩
  · rw [if_neg h]
    by_cases h2 : y < x
    · rw [if_pos h2]
      go_enter Tryz.func247, Tryz.ntmps247
      go_wp2
      go_ret
      exact ⟨rfl, rfl⟩
    · rw [if_neg h2]
      go_enter Tryz.func247, Tryz.ntmps247
      go_wp2
      go_ret
      exact ⟨rfl, rfl⟩

/-- Equal behind a place. -/
def SameFrom (la lb : List Nat) (j : Nat) : Prop := la.drop j = lb.drop j
theorem SameFrom.step {la lb : List Nat} {j : Nat} (h : SameFrom la lb (j + 1)) (ha : j < la.length) (hb : j < lb.length) (e : wd la j = wd lb j) : SameFrom la lb j := by
  rw [wd_lt ha, wd_lt hb] at e
  unfold SameFrom at *; rw [List.drop_eq_getElem_cons ha, List.drop_eq_getElem_cons hb, h, e]
theorem ite_int {a b : Nat} {n m : Nat} (h1 : n < m → a < b) (h2 : m < n → b < a) (h3 : n = m → a = b) : cmpI n m = cmpZ a b := by
  unfold cmpI
  rcases Nat.lt_trichotomy n m with h | h | h
  · rw [if_pos (by omega), cmpZ_lt (h1 h)]
  · rw [if_neg (by omega), if_neg (by omega), h3 h, cmpZ_eq]
  · rw [if_neg (by omega), if_pos (by omega), cmpZ_gt (h2 h)]

set_option maxHeartbeats 1000000 in
set_option maxRecDepth 100000 in
theorem compare_any (A B : Option Addr) (ca cb n m : Nat) (a b : Nat) (w : World) (hn : (wds a).length = n) (hm : (wds b).length = m) (hla : n ≤ 1099511627776) (hlb : m ≤ 1099511627776)
    (ha : RdN w A (wds a)) (hb : RdN w B (wds b)) :
    Calls Tryz.prog 227 #[.slice A n ca, .slice B m cb] w fun e w' => e = .returned (.int .i64 (cmpZ a b)) ∧ Ext w w' := by
  by_cases hne : n = m
  · subst hne
    have hne' : (((n : Nat) : Int) != (n : Int)) = false := by simp
    have hlen : Hid ((wds a).length = (wds b).length) := hn.trans hm.symm
    have HN := Lib.hid hn
    have HM := Lib.hid hm
    clear hn hm
    go_enter Tryz.func227, Tryz.ntmps227
    go_wp2
    go_loopw [5] (fun i wr => ∃ (j : Nat), j ≤ n ∧ i = .int .i64 ((j : Int) - 1) ∧ Hid (SameFrom (wds a) (wds b) j) ∧ Hid (Ext w wr)) (fun i _ => (intOf i + 1).toNat)
    case atStart => exact ⟨n, Nat.le_refl _, rfl, by unfold Hid SameFrom; rw [List.drop_eq_nil_of_le (by rw [HN.out]; omega), List.drop_eq_nil_of_le (by rw [HM.out]; omega)], Ext.rfl' w⟩
    case round =>
      obtain ⟨j, hj, rfl, HS, HE⟩ := hrel
      cases j with
      | zero =>
        have HZ : Hid (cmpZ a b = 0) := by
          have h : wds a = wds b := HS.out
          show cmpZ a b = 0
          rw [wds_inj h, cmpZ_eq]
        go_wp2
        go_ret
        exact ⟨by rw [HZ.out]; rfl, HE.out⟩
      | succ j =>
        have hj1 : (((j + 1 : Nat) : Int) - 1) = (j : Int) := by omega
        rw [hj1]
        have hja : j < (wds a).length := by have := HN.out; omega
        have hjb : j < (wds b).length := by have := HM.out; omega
        obtain ⟨ba, fa, rfl, hba, hca⟩ := ha.ext HE.out j hja
        obtain ⟨bb, fb, rfl, hbb, hcb⟩ := hb.ext HE.out j hjb
        have H1 : Hid ((wds a)[j] = wd (wds a) j) := (wd_lt hja).symm
        have H2 : Hid ((wds b)[j] = wd (wds b) j) := (wd_lt hjb).symm
        generalize (wds a)[j] = x at hca H1
        generalize (wds b)[j] = y at hcb H2
        by_cases hxy : x = y
        · have hxy' : (((x : Nat) : Int) != (y : Int)) = false := by simp [hxy]
          have HS' : Hid (SameFrom (wds a) (wds b) j) := HS.out.step hja hjb (by rw [← H1.out, ← H2.out]; exact hxy)
          have HXY := Lib.hid hxy
          clear hxy hja hjb
          go_wp2
          go_quiet (fail)
          all_goals go_wp2
          go_roundw
          case rel => exact ⟨j, by omega, rfl, HS', HE.out.drN _⟩
          case measure => simp [intOf]
        · have hxy' : (((x : Nat) : Int) != (y : Int)) = true := by simp; omega
          have HXY := Lib.hid hxy
          have HL : Hid (cmpI x y = cmpZ a b) := by
            refine ite_int (fun h => ?_) (fun h => ?_) (fun h => absurd h hxy)
            · have := word_lt (ok_wds a) HS.out (by rw [← H1.out, ← H2.out]; exact h)
              rwa [val_wds, val_wds] at this
            · have := word_lt (ok_wds b) HS.out.symm (by rw [← H1.out, ← H2.out]; exact h)
              rwa [val_wds, val_wds] at this
          clear hxy hja hjb
          go_wp2
          go_quiet (fail)
          all_goals go_wp2
          have c1 : (wr.drewN nq).cell? ⟨ba, fa + j, none⟩ = some (.int .u32 (x : Int)) := hca
          have c2 : (wr.drewN nq).cell? ⟨bb, fb + j, none⟩ = some (.int .u32 (y : Int)) := hcb
          have HE2 : Hid (Ext w (wr.drewN nq)) := HE.out.drN _
          clear hca hcb HE hba hbb
          generalize wr.drewN nq = W at *
          go_quiet (((go_at_call 247; exact Calls.quiet_of_same ((cmpU32_any _ _ _).mono fun _ _ h => ⟨h.1, h.2.symm⟩))))
          all_goals go_wp2
          go_ret
          exact ⟨by rw [← HL.out]; rfl, HE2.out.drN _⟩
  · have hne' : (((n : Nat) : Int) != (m : Int)) = true := by simp; omega
    have HL : Hid (cmpI n m = cmpZ a b) := by
      refine ite_int (fun h => ?_) (fun h => ?_) (fun h => absurd h hne)
      · rcases Nat.lt_or_ge a b with h1 | h1
        · exact h1
        · have := wds_mono h1; omega
      · rcases Nat.lt_or_ge b a with h1 | h1
        · exact h1
        · have := wds_mono h1; omega
    have HN := Lib.hid hn
    have HM := Lib.hid hm
    clear hn hm hne
    go_enter Tryz.func227, Tryz.ntmps227
    go_wp2_with (go_at_call 246; refine (cmpInt_any _ _ _).mono ?_; rintro e w' ⟨rfl, rfl⟩)
    go_ret
    exact ⟨by rw [← HL.out]; rfl, Ext.rfl' w⟩
end Go.Proofs.YtbldlibijojbjaaGreatDoor.GB

namespace Go.Proofs.YtbldlibijojbjaaGreatDoor.GB
set_option linter.unusedVariables false
set_option linter.unusedSimpArgs false
open Go.RowKit

theorem last_lt {r : List Nat} (ho : Ok r) (h : r.getLast? = some 0) : val r < BB ^ (r.length - 1) := by
  obtain ⟨a, rfl⟩ : ∃ a, r = a ++ [0] := by
    have hne : r ≠ [] := by intro e; rw [e] at h; simp at h
    refine ⟨r.dropLast, ?_⟩
    have := List.dropLast_concat_getLast hne
    rw [List.getLast?_eq_some_getLast hne] at h
    rw [← Option.some.inj h]; exact this.symm
  rw [val_snoc_zero]
  have := val_lt (Ok.append.1 ho).1
  simpa using this
theorem MPost.plus {a b : Nat} {r : List Nat} (h : MPost (wds a) (wds b) 1 r) : r = wds (a + b) := by
  obtain ⟨h1, h2, h3⟩ := h
  rw [val_wds, val_wds] at h2
  have hv : val r = a + b := by omega
  rw [← hv]
  refine (wds_val h1 fun hl => ?_).symm
  rcases h3 with h3 | h3
  · have h4 := last_lt h1 hl
    rw [hv] at h4
    by_cases hz : r.length = 0
    · rw [List.length_eq_zero_iff.1 hz] at hl; simp at hl
    · rcases Nat.le_total (wds a).length (wds b).length with hle | hle
      · have hb0 : b ≠ 0 := by intro e; rw [e, wds_zero] at hle h3; simp at hle; rw [hle] at h3; simp at h3; exact hz (by rw [h3]; rfl)
        have := wds_len_ge hb0
        rw [h3, Nat.max_eq_right hle] at h4; omega
      · have ha0 : a ≠ 0 := by intro e; rw [e, wds_zero] at hle h3; simp at hle; rw [hle] at h3; simp at h3; exact hz (by rw [h3]; rfl)
        have := wds_len_ge ha0
        rw [h3, Nat.max_eq_left hle] at h4; omega
  · exact h3.2 hl

set_option maxHeartbeats 400000 in
theorem plus_any (A B : Option Addr) (ca cb n m a b : Nat) (w : World) (hn : (wds a).length = n) (hm : (wds b).length = m) (hla : n ≤ 1099511627776) (hlb : m ≤ 1099511627776) (ha : RdN w A (wds a)) (hb : RdN w B (wds b)) :
    Calls Tryz.prog 235 #[.slice A n ca, .slice B m cb] w (RetN w (fun r => r = wds (a + b))) := by
  subst hn hm
  have HA := Lib.hid ha
  have HB := Lib.hid hb
  clear ha hb
  go_enter Tryz.func235, Tryz.ntmps235
  go_wp2_with (go_at_call 250; refine (merge_any _ _ _ _ (wds a) (wds b) 1 _ (.inl rfl) hla hlb HA.out HB.out (ok_wds a) (ok_wds b) (.inr rfl)).mono ?_; rintro e w' ⟨v, r, rfl, hv, hr, hE⟩)
  go_ret
  exact ⟨_, _, rfl, hv, hr.plus, hE⟩
set_option maxHeartbeats 400000 in
theorem minus_any (A B : Option Addr) (ca cb n m a b : Nat) (w : World) (hn : (wds a).length = n) (hm : (wds b).length = m) (hla : n ≤ 1099511627776) (hlb : m ≤ 1099511627776) (ha : RdN w A (wds a)) (hb : RdN w B (wds b)) (hle : b ≤ a) :
    Calls Tryz.prog 236 #[.slice A n ca, .slice B m cb] w (RetN w (fun r => r = wds (a - b))) := by
  have hmn := wds_mono hle
  subst hn hm
  have HA := Lib.hid ha
  have HB := Lib.hid hb
  clear ha hb
  have hle2 : ((val (wds b) : Nat) : Int) ≤ val (wds a) := by rw [val_wds, val_wds]; omega
  have HL := Lib.hid hle2
  clear hle2
  go_enter Tryz.func236, Tryz.ntmps236
  go_wp2_with fail
  refine (merge_any _ _ _ _ (wds a) (wds b) (-1) _ (.inr rfl) hla hlb HA.out HB.out (ok_wds a) (ok_wds b) (.inl HL.out)).mono ?_
  rintro e w' ⟨v, r, rfl, hv, ⟨h1, h2, h3⟩, hE⟩
  have hval : val r = a - b := by rw [val_wds, val_wds] at h2; omega
  obtain ⟨A', c', rfl, q1, q2, q3, q4⟩ := hv.parts
  have HV := Lib.hid hv
  have H1 := Lib.hid h1
  have H2 := Lib.hid hval
  have H3 := Lib.hid q3
  have q2' : c' ≤ 9223372036854775807 := q2
  clear hv h1 h2 h3 hval q3 q4
  go_wp2_with fail
  refine (trim_n _ _ _ r _ rfl q1 q2' H3.out).mono ?_
  rintro e w2 ⟨rfl, rfl⟩
  go_wp2
  go_ret
  exact own_trim HV.out H1.out H2.out hE
end Go.Proofs.YtbldlibijojbjaaGreatDoor.GB

namespace Go.Proofs.YtbldlibijojbjaaGreatDoor.GB
set_option linter.unusedVariables false
set_option linter.unusedSimpArgs false
open Go.RowKit

/-- A quotient and a remainder that can be read. -/
def RetRR (w : World) (q r : Nat) (e : Ending) (w' : World) : Prop := ∃ A1 c1 A2 c2, e = .returned (.tuple #[.slice A1 (wds q).length c1, .slice A2 (wds r).length c2]) ∧
  RdN w' A1 (wds q) ∧ (wds q).length ≤ c1 ∧ c1 ≤ maxLen ∧ RdN w' A2 (wds r) ∧ (wds r).length ≤ c2 ∧ c2 ≤ maxLen ∧ Ext w w'
theorem RdN.nil (w : World) (A : Option Addr) : RdN w A [] := fun j hj => by simp at hj
theorem cmpZ_ltb {a b : Nat} (h : a < b) : decide (cmpZ a b < 0) = true := by rw [cmpZ_lt h]; rfl
theorem cmpZ_geb {a b : Nat} (h : b ≤ a) : decide (cmpZ a b < 0) = false := by
  rcases Nat.lt_or_eq_of_le h with h | h
  · rw [cmpZ_gt h]; rfl
  · subst h; rw [cmpZ_eq]; rfl

set_option maxHeartbeats 1000000 in
set_option maxRecDepth 100000 in
theorem divide_less (A B : Option Addr) (ca cb n m a b : Nat) (w : World) (hn : (wds a).length = n) (hm : (wds b).length = m) (hla : n ≤ 1099511627776) (hlb : m ≤ 1099511627776) (hca : n ≤ ca) (hcm : ca ≤ maxLen)
    (ha : RdN w A (wds a)) (hb : RdN w B (wds b)) (hlt : a < b) :
    Calls Tryz.prog 202 #[.slice A n ca, .slice B m cb] w (RetRR w (a / b) (a % b)) := by
  have hc : cmpZ a b < 0 := by rw [cmpZ_lt hlt]; omega
  have HN := Lib.hid hn
  have HM := Lib.hid hm
  have HA := Lib.hid ha
  have HB := Lib.hid hb
  have HL := Lib.hid hlt
  clear hn hm ha hb hlt
  go_enter Tryz.func202, Tryz.ntmps202
  go_wp2_with fail
  refine (compare_any _ _ _ _ _ _ a b _ HN.out HM.out hla hlb HA.out HB.out).mono ?_
  rintro e w1 ⟨rfl, hE⟩
  go_wp2_with fail
  go_ret2
  have e1 : a / b = 0 := Nat.div_eq_of_lt HL.out
  have e2 : a % b = a := Nat.mod_eq_of_lt HL.out
  rw [e1, e2]
  exact ⟨none, 0, A, ca, by rw [HN.out, wds_zero]; rfl, by rw [wds_zero]; exact RdN.nil _ _, by rw [wds_zero]; exact Nat.le_refl _, by simp [maxLen], HA.out.ext hE, by rw [HN.out]; exact hca, hcm, hE⟩

theorem of_z (z : Int) (w : World) (h : Hid (0 ≤ z ∧ z < 1000000000000000000)) : Calls Tryz.prog 201 #[.int .u64 z] w (RetN w (fun r => r = wds z.toNat)) := by
  have h := h.out
  obtain ⟨x, rfl⟩ := Int.eq_ofNat_of_zero_le h.1
  rw [Int.toNat_natCast]; exact of_any x w (by omega)
theorem RetRR.of_own {w w' : World} {v1 v2 : Value} {q r : Nat} (h1 : OwnN w' w.heap.size v1 (wds q)) (h2 : OwnN w' w.heap.size v2 (wds r)) (hE : Ext w w') : RetRR w q r (.returned (.tuple #[v1, v2])) w' := by
  obtain ⟨A1, c1, rfl, a1, a2, a3, _⟩ := h1.parts
  obtain ⟨A2, c2, rfl, b1, b2, b3, _⟩ := h2.parts
  exact ⟨A1, c1, A2, c2, rfl, a3, a1, a2, b3, b1, b2, hE⟩
attribute [local go_sem ↓] Go.wp_at_zero Go.wp_at_succ
set_option maxHeartbeats 1000000 in
set_option maxRecDepth 100000 in
theorem divide_small (A B : Option Addr) (ca cb n m a b : Nat) (w : World) (hn : (wds a).length = n) (hm : (wds b).length = m) (hla : n ≤ 1099511627776) (hlb : m ≤ 1099511627776)
    (ha : RdN w A (wds a)) (hb : RdN w B (wds b)) (hle : b ≤ a) (hb0 : 0 < b) (h1 : a < 1000000000000000000) :
    Calls Tryz.prog 202 #[.slice A n ca, .slice B m cb] w (RetRR w (a / b) (a % b)) := by
  have hc : decide (cmpZ a b < 0) = false := cmpZ_geb hle
  have h2 : b < 1000000000000000000 := by omega
  have hq : a / b < 1000000000000000000 := Nat.lt_of_le_of_lt (Nat.div_le_self a b) h1
  have hr : a % b < 1000000000000000000 := Nat.lt_trans (Nat.mod_lt a hb0) h2
  have HN := Lib.hid hn
  have HM := Lib.hid hm
  have HA := Lib.hid ha
  have HB := Lib.hid hb
  have HQ := Lib.hid hq
  have HR := Lib.hid hr
  have H1 := Lib.hid h1
  have H2 := Lib.hid h2
  clear hn hm ha hb hq hr h1 h2
  go_enter Tryz.func202, Tryz.ntmps202
  go_wp2_with fail
  refine (compare_any _ _ _ _ _ _ a b _ HN.out HM.out hla hlb HA.out HB.out).mono ?_
  rintro e w1 ⟨rfl, hE1⟩
  have A1 := Lib.hid (HA.out.ext hE1)
  have B1 := Lib.hid (HB.out.ext hE1)
  go_wp2_with fail
  refine (small_any _ _ _ a _ HN.out hla A1.out).mono ?_
  rintro e w2 ⟨hs, _, hE2⟩
  obtain rfl := hs H1.out
  have B2 := Lib.hid (B1.out.ext hE2)
  go_wp2_with fail
  refine (small_any _ _ _ b _ HM.out hlb B2.out).mono ?_
  rintro e w3 ⟨hs2, _, hE3⟩
  obtain rfl := hs2 H2.out
  clear hs hs2
  go_wp2_with fail
  have q0 : Hid (0 ≤ (a : Int) / (b : Int) ∧ (a : Int) / (b : Int) < 1000000000000000000) := ⟨Int.ediv_nonneg (by omega) (by omega), by have := HQ.out; rw [← Int.natCast_ediv]; omega⟩
  have hte : Hid ((a : Int).tmod (b : Int) = ((a % b : Nat) : Int)) := by show (a : Int).tmod (b : Int) = _; rw [Int.tmod_eq_emod_of_nonneg (by omega)]; rfl
  have r0 : Hid (0 ≤ (a : Int).tmod (b : Int) ∧ (a : Int).tmod (b : Int) < 1000000000000000000) := by have := HR.out; rw [hte.out]; exact ⟨by omega, by omega⟩
  have r2 : Hid (0 ≤ (a : Int) % (b : Int) ∧ (a : Int) % (b : Int) < 1000000000000000000) := ⟨Int.emod_nonneg _ (by omega), by have := HR.out; rw [← Int.natCast_emod]; omega⟩
  have w1q : IntKind.u64.wrap ((a : Int) / (b : Int)) = (a : Int) / (b : Int) := IntWalk.u64_in _ (by have := q0.out; omega)
  go_region_with ((go_at_call 201; first
    | ((with_reducible refine (of_z ((a : Int) / (b : Int)) _ q0).mono ?_); rintro e w' ⟨vq, _, rfl, hvq, rfl, hEq⟩)
    | ((with_reducible refine (of_z ((a : Int).tmod (b : Int)) _ r0).mono ?_); rintro e w' ⟨vr, _, rfl, hvr, rfl, hEr⟩)
    | ((with_reducible refine (of_z ((a : Int) % (b : Int)) _ r2).mono ?_); rintro e w' ⟨vr, _, rfl, hvr, rfl, hEr⟩)))
  all_goals (clear q0 r0 r2 w1q)
  all_goals go_wp2
  all_goals go_ret2
  all_goals
    have e1 : ((a : Int) / (b : Int)).toNat = a / b := by rw [← Int.natCast_ediv]; exact Int.toNat_natCast _
    have e2 : ((a : Int) % (b : Int)).toNat = a % b := by rw [← Int.natCast_emod]; exact Int.toNat_natCast _
    have e3 : ((a : Int).tmod (b : Int)).toNat = a % b := by rw [hte.out]; exact Int.toNat_natCast _
    have hE : Ext w w3.drew := (hE1.tr (hE2.tr hE3)).dr
    rw [e1] at hvq
    first | rw [e2] at hvr | rw [e3] at hvr
    first
      | exact RetRR.of_own ((hvq.ext hEr).lower hE.size) (hvr.lower (hE.tr hEq).size) ((hE.tr hEq).tr hEr)
      | exact RetRR.of_own (hvq.lower (hE.tr hEr).size) ((hvr.ext hEq).lower hE.size) ((hE.tr hEr).tr hEq)
end Go.Proofs.YtbldlibijojbjaaGreatDoor.GB

namespace Go.Proofs.YtbldlibijojbjaaGreatDoor.GB
set_option linter.unusedVariables false
set_option linter.unusedSimpArgs false
open Go.RowKit
attribute [local go_sem ↓] Go.wp_at_zero Go.wp_at_succ

set_option maxHeartbeats 1000000 in
set_option maxRecDepth 100000 in
theorem divide_one (A B : Option Addr) (ca cb n a b : Nat) (w : World) (hn : (wds a).length = n) (hla : n ≤ 1099511627776)
    (ha : RdN w A (wds a)) (hb : RdN w B (wds b)) (hle : b ≤ a) (hb0 : 0 < b) (hb1 : b < 1000000000) (h1 : 1000000000000000000 ≤ a) :
    Calls Tryz.prog 202 #[.slice A n ca, .slice B 1 cb] w (RetRR w (a / b) (a % b)) := by
  have hc : decide (cmpZ a b < 0) = false := cmpZ_geb hle
  have hm : (wds b).length = 1 := by rw [wds_small (by omega) hb1]; rfl
  obtain ⟨g, off, rfl, hg, hcb⟩ := hb 0 (by omega)
  have hcb' : w.cell? ⟨g, off, none⟩ = some (.int .u32 (b : Int)) := by
    rw [Nat.add_zero] at hcb; rw [hcb]
    have : (wds b)[0]'(by omega) = b := by simp [wds_small (by omega : b ≠ 0) hb1]
    rw [this]
  have HN := Lib.hid hn
  have HM := Lib.hid hm
  have HA := Lib.hid ha
  have HB := Lib.hid hb
  have HC := Lib.hid hcb'
  have H1 := Lib.hid h1
  have H2 : Hid (b < 1000000000000000000) := by show b < _; omega
  clear hn hm ha hb h1 hcb hcb'
  go_enter Tryz.func202, Tryz.ntmps202
  go_wp2_with fail
  refine (compare_any _ _ _ _ _ _ a b _ HN.out HM.out hla (by omega) HA.out HB.out).mono ?_
  rintro e w1 ⟨rfl, hE1⟩
  have A1 := Lib.hid (HA.out.ext hE1)
  have B1 := Lib.hid (HB.out.ext hE1)
  go_wp2_with fail
  refine (small_any _ _ _ a _ HN.out hla A1.out).mono ?_
  rintro e w2 ⟨_, hs, hE2⟩
  obtain rfl := hs H1.out
  have A2 := Lib.hid (A1.out.ext hE2)
  have B2 := Lib.hid (B1.out.ext hE2)
  clear hs
  go_wp2_with fail
  refine (small_any _ _ _ b _ HM.out (by omega) B2.out).mono ?_
  rintro e w3 ⟨hs2, _, hE3⟩
  obtain rfl := hs2 H2.out
  have A3 := Lib.hid (A2.out.ext hE3)
  have hE := Lib.hid (hE1.tr (hE2.tr hE3))
  have hcw : w3.cell? ⟨g, off, none⟩ = some (.int .u32 (b : Int)) := hE.out.cell HC.out
  clear hs2 hE1 hE2 hE3
  go_wp2_with fail
  refine (by_any _ _ n (wds a) b _ HN.out hla A3.out (ok_wds a) hb0 hb1).mono ?_
  rintro e w4 ⟨v1, v2, rfl, hv1, hv2, hE4⟩
  rw [val_wds] at hv1 hv2
  go_wp2
  go_ret2
  exact RetRR.of_own (hv1.lower hE.out.size) (hv2.lower hE.out.size) (hE.out.tr hE4)
end Go.Proofs.YtbldlibijojbjaaGreatDoor.GB

namespace Go.Proofs.YtbldlibijojbjaaGreatDoor.GB
set_option linter.unusedVariables false
set_option linter.unusedSimpArgs false

/-! ### Lists of which a part in the middle is written -/
theorem mid_len {U D : List Nat} {j i : Nat} (hD : D.length = i) (h : j + i ≤ U.length) : (U.take j ++ (D ++ U.drop (j + i))).length = U.length := by simp; omega
theorem mid_get {U D : List Nat} {j i x : Nat} (hD : D.length = i) (h : j + i ≤ U.length) (hx : i ≤ x) : wd (U.take j ++ (D ++ U.drop (j + i))) (x + j) = wd U (x + j) := by
  unfold wd
  rw [List.getD_eq_getElem?_getD, List.getD_eq_getElem?_getD, List.getElem?_append_right (by simp; omega), List.getElem?_append_right (by simp; omega), List.getElem?_drop]
  congr 2; simp; omega
theorem mid_set {U D : List Nat} {j i d : Nat} (hD : D.length = i) (h : j + i < U.length) : (U.take j ++ (D ++ U.drop (j + i))).set (i + j) d = U.take j ++ ((D ++ [d]) ++ U.drop (j + (i + 1))) := by
  rw [List.set_append_right _ _ (by simp; omega), List.set_append_right _ _ (by simp; omega)]
  have e : i + j - (U.take j).length - D.length = 0 := by simp; omega
  rw [e, List.drop_eq_getElem_cons h, List.set_cons_zero, List.append_assoc]
  rfl
theorem add_len {U D E : List Nat} {j i k : Nat} (hE : E.length = i) (hD : D.length = k) (hi : i ≤ k) (h : j + k ≤ U.length) : (U.take j ++ (E ++ (D.drop i ++ U.drop (j + k)))).length = U.length := by simp; omega
theorem add_get {U D E : List Nat} {j i k : Nat} (hE : E.length = i) (hD : D.length = k) (hi : i < k) (h : j + k ≤ U.length) : wd (U.take j ++ (E ++ (D.drop i ++ U.drop (j + k)))) (i + j) = wd D i := by
  unfold wd
  rw [List.getD_eq_getElem?_getD, List.getD_eq_getElem?_getD, List.getElem?_append_right (by simp; omega), List.getElem?_append_right (by simp; omega), List.getElem?_append_left (by simp; omega), List.getElem?_drop]
  congr 2; simp; omega
theorem add_set {U D E : List Nat} {j i k e : Nat} (hE : E.length = i) (hD : D.length = k) (hi : i < k) (h : j + k ≤ U.length) :
    (U.take j ++ (E ++ (D.drop i ++ U.drop (j + k)))).set (i + j) e = U.take j ++ ((E ++ [e]) ++ (D.drop (i + 1) ++ U.drop (j + k))) := by
  rw [List.set_append_right _ _ (by simp; omega), List.set_append_right _ _ (by simp; omega)]
  have e1 : i + j - (U.take j).length - E.length = 0 := by simp; omega
  rw [e1, List.drop_eq_getElem_cons (by omega : i < D.length), List.cons_append, List.set_cons_zero, List.append_assoc]
  rfl
theorem end_set {U D : List Nat} {j k : Nat} (hD : D.length = k) (h : j + k < U.length) : (U.take j ++ (D ++ U.drop (j + k))).set (j + k) 0 = U.take j ++ (D ++ 0 :: U.drop (j + k + 1)) := by
  rw [List.set_append_right _ _ (by simp; omega), List.set_append_right _ _ (by simp; omega)]
  have e1 : j + k - (U.take j).length - D.length = 0 := by simp; omega
  rw [e1, List.drop_eq_getElem_cons h, List.set_cons_zero]
theorem add_start {U D : List Nat} {j k : Nat} : U.take j ++ (D ++ U.drop (j + k)) = U.take j ++ (([] : List Nat) ++ (D.drop 0 ++ U.drop (j + k))) := by simp
theorem add_end {U D E : List Nat} {j k : Nat} (hD : D.length = k) : U.take j ++ (E ++ (D.drop k ++ U.drop (j + k))) = U.take j ++ (E ++ U.drop (j + k)) := by rw [List.drop_eq_nil_of_le (by omega)]; simp
theorem mid_start {U : List Nat} {j : Nat} : U.take j ++ (([] : List Nat) ++ U.drop (j + 0)) = U := by simp

theorem kinv_done {a b f k : Nat} {V U Q : List Nat} (h : KInv V (a * f) k 0 U Q) (hv : Ok V) (hk : V.length = k) (hV : val V = b * f) (hf : 0 < f) : val Q = a / b ∧ val (U.take k) = (a % b) * f := by
  have h1 := h.tot
  have h2 := h.lt
  rw [List.drop_zero] at h1 h2
  rw [hV] at h1 h2
  simp only [Nat.pow_zero, Nat.one_mul] at h1
  have hq : val Q = a / b := by
    have e : a * f / (b * f) = a / b := Nat.mul_div_mul_right a b hf
    rw [← e, ← h1, Nat.add_comm, Nat.mul_add_div (by omega), Nat.div_eq_of_lt h2]; omega
  have hu : val U = a % b * f := by
    have e : a * f % (b * f) = a % b * f := Nat.mul_mod_mul_right f a b
    rw [← e, ← h1, Nat.add_comm, Nat.mul_add_mod, Nat.mod_eq_of_lt h2]
  refine ⟨hq, ?_⟩
  have h3 := val_split U k
  have h4 := val_lt hv
  rw [hk, hV] at h4
  have h5 : val (U.drop k) = 0 := by
    rcases Nat.eq_zero_or_pos (val (U.drop k)) with h6 | h6
    · exact h6
    · have := Nat.mul_le_mul_left (BB ^ k) h6; omega
  rw [h5] at h3; omega

/-- What a step of the division leaves: the remainder's words in the window. -/
def DStep (U V : List Nat) (j k g : Nat) (D : List Nat) : Prop := D.length = k ∧ Ok D ∧ g < BB ∧ val (U.drop j) = val D + g * val V ∧ val D < val V
end Go.Proofs.YtbldlibijojbjaaGreatDoor.GB
