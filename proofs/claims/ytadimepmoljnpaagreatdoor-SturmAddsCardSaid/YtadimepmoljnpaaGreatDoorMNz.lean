import Derived.Test.YtadimepmoljnpaaGreatDoorMZt
import Derived.Lib.Builder
import Derived.RangeFuncRecord
namespace Go.Proofs.YtadimepmoljnpaaGreatDoor.GB
set_option linter.unusedVariables false
set_option linter.unusedSimpArgs false
open Go.RowKit

/-- A quotient and a remainder: words of the call's own. -/
def RetNN (w : World) (q r : Nat) (e : Ending) (w' : World) : Prop := ∃ v1 v2, e = .returned (.tuple #[v1, v2]) ∧ OwnN w' w.heap.size v1 (wds q) ∧ OwnN w' w.heap.size v2 (wds r) ∧ Ext w w'

theorem cast_divn {X Y : Int} {s d : Nat} (h : X = (s : Int)) (k : Y = (d : Int)) : X / Y = ((s / d : Nat) : Int) := by subst h k; exact (Int.natCast_ediv s d).symm
theorem cast_modn {X Y : Int} {s d : Nat} (h : X = (s : Int)) (k : Y = (d : Int)) : X % Y = ((s % d : Nat) : Int) := by subst h k; exact (Int.natCast_emod s d).symm

theorem own_tz {w : World} {base : Nat} {A : Option Addr} {c V : Nat} {O : List Nat} (h : OwnN w base (.slice A O.length c) O) (ho : Ok O) (hv : val O = V) : OwnN w base (.slice A (tz O).length c) (wds V) := by
  obtain ⟨m, hm, hme⟩ := tz_prefix O
  have hO2 := h.take m hm
  rw [← hme] at hO2
  have hml : (tz O).length = m := by rw [hme]; simp; omega
  rw [hml, ← hv, ← tz_wds ho]; exact hO2

set_option maxHeartbeats 1000000 in
set_option maxRecDepth 100000 in
theorem by_any (A : Option Addr) (ca k : Nat) (a : List Nat) (d : Nat) (w : World) (hn : a.length = k) (hla : k ≤ 1099511627776) (ha : RdN w A a) (oa : Ok a) (hd : 0 < d) (hd2 : d < 1000000000) :
    Calls Tryz.prog 243 #[.slice A k ca, .int .u64 (d : Int)] w (RetNN w (val a / d) (val a % d)) := by
  obtain ⟨i0, hi, hz0, hz1, hz2⟩ := info_parts Tryz.infoU32
  have HN := Lib.hid hn
  clear hn
  go_enter Tryz.func243, Tryz.ntmps243
  go_wp2_with (refine wpList_make_full _ rfl _ _ _ rfl w.heap.size 181 i0 (.int .u32 0) 1 Tryz.underlying214 hi hz0 hz1 _ _ _ _ k rfl rfl (by simp) (by simp) (by rw [hz2]; omega) (by unfold maxLen; omega) (Nat.le_refl _) ?_; intro w1 hown1 hgrow1)
  have hE1 : Hid (Ext w w1) := (Ext.rfl' w).gr0 hgrow1
  have hO1 : Hid (OwnN w1 w.heap.size (.slice (some ⟨w.heap.size, 0, none⟩) (List.replicate k 0).length k) (List.replicate k 0)) := by
    rw [made_zeros] at hown1
    simpa [OwnN, Hid] using hown1
  clear hown1 hgrow1
  go_loopw [7, 8] (fun r i wr => ∃ (j R : Nat) (O : List Nat), j ≤ k ∧ i = .int .i64 ((j : Int) - 1) ∧ r = .int .u64 (R : Int) ∧ R < d ∧ Hid (BInv a d j O R) ∧ Hid (OwnN wr w.heap.size (.slice (some ⟨w.heap.size, 0, none⟩) O.length k) O) ∧ Hid (Ext w wr)) (fun _ i _ => (intOf i + 1).toNat)
  case atStart => exact ⟨k, 0, _, Nat.le_refl _, rfl, rfl, hd, by rw [← HN.out]; exact BInv.start a d hd, hO1, hE1⟩
  case round =>
    obtain ⟨j, R, O, hj, rfl, rfl, hR, HB, HO, HE⟩ := hrel
    clear hO1 hE1
    cases j with
    | succ j =>
      have hjl : j < a.length := by have := HN.out; omega
      obtain ⟨ba, fa, rfl, hba, hca⟩ := ha.ext HE.out j hjl
      have hx0 : a[j] < 1000000000 := oa _ (List.getElem_mem hjl)
      have hx1 : Hid (wd a j = a[j]) := wd_lt hjl
      generalize a[j] = x at hca hx0 hx1
      have hOl : j < O.length := by have := HB.out.1; omega
      have hcp := HO.out.cellAt j hOl
      have hfp : wr.frozen? ⟨w.heap.size, j, none⟩ = false := World.ownsRow.frozenAt HO.out j
      generalize wd O j = p at hcp
      have HOL := Lib.hid hOl
      clear hjl hOl
      have hj1 : (((j + 1 : Nat) : Int) - 1) = (j : Int) := by omega
      rw [hj1]
      have hR2 : (R : Int) * 1000000000 + (x : Int) < 1000000000000000000 := by omega
      go_wp2
      have HB' := HB.out.step (s := R * 1000000000 + x) oa (by rw [hx1.out]) (by have := HN.out; omega)
      have hq : (R * 1000000000 + x) / d < 4294967296 := by
        have := HB'.2.1 ((R * 1000000000 + x) / d) (List.mem_of_getElem? (i := j) (by simp [HOL.out]))
        rw [BB_eq] at this; omega
      have hz : ((R : Int) * 1000000000 + (x : Int)) / (d : Int) % 4294967296 = (((R * 1000000000 + x) / d : Nat) : Int) := by
        rw [cast_divn (s := R * 1000000000 + x) (d := d) (by omega) rfl]; generalize (R * 1000000000 + x) / d = q at hq ⊢; omega
      have HO' := HO.out.store j ((R * 1000000000 + x) / d) hz
      have hr : (R * 1000000000 + x) % d < d := Nat.mod_lt _ hd
      go_roundw
      case rel => exact ⟨j, (R * 1000000000 + x) % d, _, by omega, rfl, ret_int' (cast_modn (by omega) rfl), hr, HB', HO', HE.out.setCell (Nat.le_refl _) _⟩
      case measure => simp [intOf]
    | zero =>
      have hlen : Hid (O.length = k) := by show O.length = k; rw [HB.out.1]; exact HN.out
      obtain ⟨o1, o2, o3⟩ := HB.out.done
      have hO2 : OwnN wr w.heap.size (.slice (some ⟨w.heap.size, 0, none⟩) (tz O).length k) (wds (val a / d)) := own_tz HO.out o1 o2
      have hRb : R < 1000000000000000000 := by omega
      obtain ⟨A', c', hv, h1, h2, h3, h4⟩ := HO.out.parts
      injection hv with hv1 hv2 hv3
      subst hv1
      have H1 := Lib.hid o1
      have H3 := Lib.hid h3
      have HO2 := Lib.hid hO2
      have H4 := Lib.hid o3
      clear o1 o2 o3 hv2 hv3 h1 h2 h3 h4 hO2
      go_wp2_with fail
      refine (trim_n _ _ k O _ hlen.out (Nat.le_refl _) (by omega) H3.out).mono ?_
      rintro e w' ⟨rfl, rfl⟩
      go_wp2_with fail
      refine (of_any R _ hRb).mono ?_
      rintro e w2 ⟨v, r, rfl, hv, rfl, hE2⟩
      go_wp2
      go_ret2
      exact ⟨_, _, rfl, HO2.out.ext hE2, by rw [← H4.out]; exact hv.lower HE.out.size, HE.out.tr hE2⟩
end Go.Proofs.YtadimepmoljnpaaGreatDoor.GB

namespace Go.Proofs.YtadimepmoljnpaaGreatDoor.GB
set_option linter.unusedVariables false
set_option linter.unusedSimpArgs false
open Go.RowKit

def cmpZ (a b : Nat) : Int := if a < b then -1 else if b < a then 1 else 0
theorem cmpZ_lt {a b : Nat} (h : a < b) : cmpZ a b = -1 := if_pos h
theorem cmpZ_gt {a b : Nat} (h : b < a) : cmpZ a b = 1 := by unfold cmpZ; rw [if_neg (by omega), if_pos h]
theorem cmpZ_eq (a : Nat) : cmpZ a a = 0 := by unfold cmpZ; rw [if_neg (by omega), if_neg (by omega)]
theorem word_lt {la lb : List Nat} {j : Nat} (oa : Ok la) (hd : la.drop (j + 1) = lb.drop (j + 1)) (h : wd la j < wd lb j) : val la < val lb := by
  have e1 := val_split la j
  have e2 := val_split lb j
  have f1 := val_drop_cons la j
  have f2 := val_drop_cons lb j
  have g := val_take_lt oa j
  rw [hd] at f1
  have h1 := Nat.mul_le_mul_left (BB ^ j) h
  rw [e1, e2, f1, f2]
  rw [Nat.mul_succ] at h1
  rw [Nat.mul_add, Nat.mul_add]
  omega
def cmpI (x y : Int) : Int := if x < y then -1 else if y < x then 1 else 0
set_option maxHeartbeats 400000 in
theorem cmpInt_any (x y : Int) (w : World) : Calls Tryz.prog 249 #[.int .i64 x, .int .i64 y] w fun e w' => e = .returned (.int .i64 (cmpI x y)) ∧ w = w' := by
  unfold cmpI
  by_cases h : x < y
  · rw [if_pos h]
    go_enter Tryz.func249, Tryz.ntmps249
    go_wp2
    go_ret
    exact ⟨rfl, rfl⟩
  · rw [if_neg h]
    by_cases h2 : y < x
    · rw [if_pos h2]
      go_enter Tryz.func249, Tryz.ntmps249
      go_wp2
      go_ret
      exact ⟨rfl, rfl⟩
    · rw [if_neg h2]
      go_enter Tryz.func249, Tryz.ntmps249
      go_wp2
      go_ret
      exact ⟨rfl, rfl⟩
set_option maxHeartbeats 400000 in
theorem cmpU32_any (x y : Int) (w : World) : Calls Tryz.prog 250 #[.int .u32 x, .int .u32 y] w fun e w' => e = .returned (.int .i64 (cmpI x y)) ∧ w = w' := by
  unfold cmpI
  by_cases h : x < y
  · rw [if_pos h]
    go_enter Tryz.func250, Tryz.ntmps250
    go_wp2
    go_ret
    exact ⟨rfl, rfl⟩
  · rw [if_neg h]
    by_cases h2 : y < x
    · rw [if_pos h2]
      go_enter Tryz.func250, Tryz.ntmps250
      go_wp2
      go_ret
      exact ⟨rfl, rfl⟩
    · rw [if_neg h2]
      go_enter Tryz.func250, Tryz.ntmps250
      go_wp2
      go_ret
      exact ⟨rfl, rfl⟩

/-- Equal behind a place. -/
def SameFrom (la lb : List Nat) (j : Nat) : Prop := la.drop j = lb.drop j
theorem SameFrom.step {la lb : List Nat} {j : Nat} (h : SameFrom la lb (j + 1)) (ha : j < la.length) (hb : j < lb.length) (e : wd la j = wd lb j) : SameFrom la lb j := by
  rw [wd_lt ha, wd_lt hb] at e
  unfold SameFrom at *; rw [List.drop_eq_getElem_cons ha, List.drop_eq_getElem_cons hb, h, e]
theorem ite_int {a b : Nat} {n m : Nat} (h1 : n < m → a < b) (h2 : m < n → b < a) (h3 : n = m → a = b) : cmpI n m = cmpZ a b := by
  unfold cmpI
  rcases Nat.lt_trichotomy n m with h | h | h
  · rw [if_pos (by omega), cmpZ_lt (h1 h)]
  · rw [if_neg (by omega), if_neg (by omega), h3 h, cmpZ_eq]
  · rw [if_neg (by omega), if_pos (by omega), cmpZ_gt (h2 h)]

set_option maxHeartbeats 1000000 in
set_option maxRecDepth 100000 in
theorem compare_any (A B : Option Addr) (ca cb n m : Nat) (a b : Nat) (w : World) (hn : (wds a).length = n) (hm : (wds b).length = m) (hla : n ≤ 1099511627776) (hlb : m ≤ 1099511627776)
    (ha : RdN w A (wds a)) (hb : RdN w B (wds b)) :
    Calls Tryz.prog 225 #[.slice A n ca, .slice B m cb] w fun e w' => e = .returned (.int .i64 (cmpZ a b)) ∧ Ext w w' := by
  by_cases hne : n = m
  · subst hne
    have hne' : (((n : Nat) : Int) != (n : Int)) = false := by simp
    have hlen : Hid ((wds a).length = (wds b).length) := hn.trans hm.symm
    have HN := Lib.hid hn
    have HM := Lib.hid hm
    clear hn hm
    go_enter Tryz.func225, Tryz.ntmps225
    go_wp2
    go_loopw [5] (fun i wr => ∃ (j : Nat), j ≤ n ∧ i = .int .i64 ((j : Int) - 1) ∧ Hid (SameFrom (wds a) (wds b) j) ∧ Hid (Ext w wr)) (fun i _ => (intOf i + 1).toNat)
    case atStart => exact ⟨n, Nat.le_refl _, rfl, by unfold Hid SameFrom; rw [List.drop_eq_nil_of_le (by rw [HN.out]; omega), List.drop_eq_nil_of_le (by rw [HM.out]; omega)], Ext.rfl' w⟩
    case round =>
      obtain ⟨j, hj, rfl, HS, HE⟩ := hrel
      cases j with
      | zero =>
        have HZ : Hid (cmpZ a b = 0) := by
          have h : wds a = wds b := HS.out
          show cmpZ a b = 0
          rw [wds_inj h, cmpZ_eq]
        go_wp2
        go_ret
        exact ⟨by rw [HZ.out]; rfl, HE.out⟩
      | succ j =>
        have hj1 : (((j + 1 : Nat) : Int) - 1) = (j : Int) := by omega
        rw [hj1]
        have hja : j < (wds a).length := by have := HN.out; omega
        have hjb : j < (wds b).length := by have := HM.out; omega
        obtain ⟨ba, fa, rfl, hba, hca⟩ := ha.ext HE.out j hja
        obtain ⟨bb, fb, rfl, hbb, hcb⟩ := hb.ext HE.out j hjb
        have H1 : Hid ((wds a)[j] = wd (wds a) j) := (wd_lt hja).symm
        have H2 : Hid ((wds b)[j] = wd (wds b) j) := (wd_lt hjb).symm
        generalize (wds a)[j] = x at hca H1
        generalize (wds b)[j] = y at hcb H2
        by_cases hxy : x = y
        · have hxy' : (((x : Nat) : Int) != (y : Int)) = false := by simp [hxy]
          have HS' : Hid (SameFrom (wds a) (wds b) j) := HS.out.step hja hjb (by rw [← H1.out, ← H2.out]; exact hxy)
          have HXY := Lib.hid hxy
          clear hxy hja hjb
          go_wp2
          go_quiet (fail)
          all_goals go_wp2
          go_roundw
          case rel => exact ⟨j, by omega, rfl, HS', HE.out.drN _⟩
          case measure => simp [intOf]
        · have hxy' : (((x : Nat) : Int) != (y : Int)) = true := by simp; omega
          have HXY := Lib.hid hxy
          have HL : Hid (cmpI x y = cmpZ a b) := by
            refine ite_int (fun h => ?_) (fun h => ?_) (fun h => absurd h hxy)
            · have := word_lt (ok_wds a) HS.out (by rw [← H1.out, ← H2.out]; exact h)
              rwa [val_wds, val_wds] at this
            · have := word_lt (ok_wds b) HS.out.symm (by rw [← H1.out, ← H2.out]; exact h)
              rwa [val_wds, val_wds] at this
          clear hxy hja hjb
          go_wp2
          go_quiet (fail)
          all_goals go_wp2
          have c1 : (wr.drewN nq).cell? ⟨ba, fa + j, none⟩ = some (.int .u32 (x : Int)) := hca
          have c2 : (wr.drewN nq).cell? ⟨bb, fb + j, none⟩ = some (.int .u32 (y : Int)) := hcb
          have HE2 : Hid (Ext w (wr.drewN nq)) := HE.out.drN _
          clear hca hcb HE hba hbb
          generalize wr.drewN nq = W at *
          go_quiet (((go_at_call 250; exact Calls.quiet_of_same ((cmpU32_any _ _ _).mono fun _ _ h => ⟨h.1, h.2.symm⟩))))
          all_goals go_wp2
          go_ret
          exact ⟨by rw [← HL.out]; rfl, HE2.out.drN _⟩
  · have hne' : (((n : Nat) : Int) != (m : Int)) = true := by simp; omega
    have HL : Hid (cmpI n m = cmpZ a b) := by
      refine ite_int (fun h => ?_) (fun h => ?_) (fun h => absurd h hne)
      · rcases Nat.lt_or_ge a b with h1 | h1
        · exact h1
        · have := wds_mono h1; omega
      · rcases Nat.lt_or_ge b a with h1 | h1
        · exact h1
        · have := wds_mono h1; omega
    have HN := Lib.hid hn
    have HM := Lib.hid hm
    clear hn hm hne
    go_enter Tryz.func225, Tryz.ntmps225
    go_wp2_with (go_at_call 249; refine (cmpInt_any _ _ _).mono ?_; rintro e w' ⟨rfl, rfl⟩)
    go_ret
    exact ⟨by rw [← HL.out]; rfl, Ext.rfl' w⟩
end Go.Proofs.YtadimepmoljnpaaGreatDoor.GB

namespace Go.Proofs.YtadimepmoljnpaaGreatDoor.GB
set_option linter.unusedVariables false
set_option linter.unusedSimpArgs false
open Go.RowKit
end Go.Proofs.YtadimepmoljnpaaGreatDoor.GB

namespace Go.Proofs.YtadimepmoljnpaaGreatDoor.GB
set_option linter.unusedVariables false
set_option linter.unusedSimpArgs false
open Go.RowKit
end Go.Proofs.YtadimepmoljnpaaGreatDoor.GB
