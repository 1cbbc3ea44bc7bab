import Derived.Test.YtbldlibijojbjaaGreatDoorCDx
import Derived.Test.YtbldlibijojbjaaGreatDoorMFu
import Derived.Test.YtbldlibijojbjaaGreatDoorMNum
import Derived.Shelf.RegionOpenPlain
import Derived.Lib.Strings
import Derived.Lib.Slices
import Derived.Lib.Walk
import Derived.Lib.Builder
import Derived.Lib.AppendStr
import Derived.Lib.UnsafeStr
import Derived.Lib.MakeNoZero
import Derived.Laws.Externs
import Derived.Laws.IdiomCopy
import Derived.Laws.BitsLemmas
import Derived.RangeFuncOwn
import Derived.Lib.OthersKept
import Derived.Lib.BufferKept
import Derived.RangeFuncNested
import Derived.RangeFuncBound
import Derived.RangeFuncCalls
import Derived.RangeFuncLeaves
import Derived.RangeFuncFrom
import Derived.RangeFuncBox
import Derived.Shelf.Abstract
import Derived.Shelf.RegionOpen
import Derived.WalkKit
import Derived.OwnWalkIn
import Derived.TacticsInMore
import Derived.LoopNIn
import Derived.LoopIn
namespace Go.Proofs.YtbldlibijojbjaaGreatDoor.GB
set_option linter.unusedVariables false
set_option linter.unusedSimpArgs false
open Go.RowKit
attribute [local go_sem ↓] Go.wp_at_zero Go.wp_at_succ

/-- v is a number of the package's: the words of n. -/
def NumV (w : World) (v : Value) (n : Nat) : Prop := ∃ A c, v = .slice A (wds n).length c ∧ (wds n).length ≤ c ∧ c ≤ maxLen ∧ RdN w A (wds n)
theorem NumV.ext {w w' : World} {v : Value} {n : Nat} (h : NumV w v n) (hE : Ext w w') : NumV w' v n := by
  obtain ⟨A, c, h1, h2, h3, h4⟩ := h
  exact ⟨A, c, h1, h2, h3, h4.ext hE⟩
theorem NumV.of_own {w : World} {base : Nat} {v : Value} {n : Nat} {r : List Nat} (h : OwnN w base v r) (hr : r = wds n) : NumV w v n := by
  subst hr
  obtain ⟨A, c, rfl, h1, h2, h3, _⟩ := h.parts
  exact ⟨A, c, rfl, h1, h2, h3⟩
/-- The call hands back a number. -/
def RetV (w : World) (n : Nat) (e : Ending) (w' : World) : Prop := ∃ v, e = .returned v ∧ NumV w' v n ∧ Ext w w'
theorem RetN.v {w : World} {n : Nat} {e : Ending} {w' : World} (h : RetN w (fun r => r = wds n) e w') : RetV w n e w' := by
  obtain ⟨v, r, rfl, h1, h2, h3⟩ := h
  exact ⟨v, rfl, NumV.of_own h1 h2, h3⟩
/-- Two numbers. -/
def RetVV (w : World) (q r : Nat) (e : Ending) (w' : World) : Prop := ∃ v1 v2, e = .returned (.tuple #[v1, v2]) ∧ NumV w' v1 q ∧ NumV w' v2 r ∧ Ext w w'

theorem divide_v (v1 v2 : Value) (a b : Nat) (w : World) (hla : (wds a).length ≤ 549755813888) (hlb : (wds b).length ≤ 549755813888) (h1 : NumV w v1 a) (h2 : NumV w v2 b) (hb0 : 0 < b) :
    Calls Tryz.prog 202 #[v1, v2] w (RetVV w (a / b) (a % b)) := by
  obtain ⟨A, ca, rfl, hca, hcm, ha⟩ := h1
  obtain ⟨B, cb, rfl, hcb, hcm2, hb⟩ := h2
  have h : Calls Tryz.prog 202 #[.slice A (wds a).length ca, .slice B (wds b).length cb] w (RetRR w (a / b) (a % b)) := by
    rcases Nat.lt_or_ge a b with h | h
    · exact divide_less _ _ _ _ _ _ a b w rfl rfl (by omega) (by omega) hca hcm ha hb h
    · by_cases hs : a < 1000000000000000000
      · exact divide_small _ _ _ _ _ _ a b w rfl rfl (by omega) (by omega) ha hb h hb0 hs
      · by_cases h9 : b < 1000000000
        · have e : (wds b).length = 1 := by rw [wds_small (by omega) h9]; rfl
          rw [e]
          exact divide_one _ _ _ _ _ a b w rfl (by omega) ha hb h hb0 h9 (by omega)
        · refine divide_big _ _ _ _ _ _ a b w rfl rfl hla hlb ha hb h ?_ (by omega)
          rcases Nat.lt_or_ge (wds b).length 2 with h3 | h3
          · exfalso
            have h4 := wds_len_lt b
            have h5 : BB ^ (wds b).length ≤ BB ^ 1 := Nat.pow_le_pow_right BB_pos (by omega)
            rw [Nat.pow_one] at h5
            have h6 := BB_eq
            omega
          · exact h3
  refine h.mono ?_
  rintro e w' ⟨A1, c1, A2, c2, rfl, r1, l1, m1, r2, l2, m2, hE⟩
  exact ⟨_, _, rfl, ⟨A1, c1, rfl, l1, m1, r1⟩, ⟨A2, c2, rfl, l2, m2, r2⟩, hE⟩

theorem small_v (v : Value) (n : Nat) (w : World) (hla : (wds n).length ≤ 549755813888) (h : NumV w v n) : Calls Tryz.prog 200 #[v] w (SmallPost w n) := by
  obtain ⟨A, ca, rfl, hca, hcm, ha⟩ := h
  exact small_any A ca _ n w rfl (by omega) ha

theorem NumV.uniq {w : World} {v : Value} {n m : Nat} (h : NumV w v n) (k : NumV w v m) : n = m := by
  obtain ⟨A, c, rfl, _, _, h1⟩ := h
  obtain ⟨B, d, e, _, _, h2⟩ := k
  injection e with e1 e2 e3
  subst e1 e3
  apply wds_inj
  apply List.ext_getElem e2
  intro j hj hj2
  obtain ⟨b1, o1, q1, _, c1⟩ := h1 j hj
  obtain ⟨b2, o2, q2, _, c2⟩ := h2 j hj2
  rw [q1] at q2
  injection q2 with q2
  injection q2 with q3 q4
  subst q3 q4
  rw [c1] at c2
  injection c2 with c2
  injection c2 with _ c2
  omega
open Classical in
/-- The number that a value stands for. -/
noncomputable def numOf (w : World) (v : Value) : Nat := if h : ∃ n, NumV w v n then Classical.choose h else 0
theorem numOf_eq {w : World} {v : Value} {n : Nat} (h : NumV w v n) : numOf w v = n := by
  unfold numOf
  rw [dif_pos ⟨n, h⟩]
  exact (Classical.choose_spec (⟨n, h⟩ : ∃ n, NumV w v n)).uniq h
theorem divide_h (v1 v2 : Value) (a b : Nat) (w : World) (hla : (wds a).length ≤ 549755813888) (hlb : (wds b).length ≤ 549755813888) (h1 : Hid (NumV w v1 a)) (h2 : Hid (NumV w v2 b)) (hb0 : 0 < b) :
    Calls Tryz.prog 202 #[v1, v2] w (RetVV w (a / b) (a % b)) := divide_v v1 v2 a b w hla hlb h1.out h2.out hb0
/-- What small says of a number that is small, or is not. -/
theorem small_yes (v : Value) (n : Nat) (w : World) (hla : (wds n).length ≤ 549755813888) (h : Hid (NumV w v n)) (hs : Hid (n < 1000000000000000000)) :
    Calls Tryz.prog 200 #[v] w (fun e w' => e = .returned (.tuple #[.int .u64 (n : Int), .bool true]) ∧ Ext w w') :=
  (small_v v n w hla h.out).mono fun e w' h => ⟨h.1 hs.out, h.2.2⟩
theorem small_no (v : Value) (n : Nat) (w : World) (hla : (wds n).length ≤ 549755813888) (h : Hid (NumV w v n)) (hs : Hid (1000000000000000000 ≤ n)) :
    Calls Tryz.prog 200 #[v] w (fun e w' => e = .returned (.tuple #[.int .u64 0, .bool false]) ∧ Ext w w') :=
  (small_v v n w hla h.out).mono fun e w' h => ⟨h.2.1 hs.out, h.2.2⟩
theorem small_b (n : Nat) (hla : (wds n).length ≤ 549755813888) : ∃ (s : Int) (b : Bool), Hid (b = true → n < 1000000000000000000) ∧ ∀ v w, Hid (NumV w v n) → Calls Tryz.prog 200 #[v] w (fun e w' => e = .returned (.tuple #[.int .u64 s, .bool b]) ∧ Ext w w') := by
  by_cases h : n < 1000000000000000000
  · exact ⟨n, true, fun _ => h, fun v w hv => small_yes v n w hla hv h⟩
  · exact ⟨0, false, (by intro e; cases e), fun v w hv => small_no v n w hla hv (by unfold Hid; omega)⟩
theorem of_h (x : Nat) (w : World) (h : Hid (x < 1000000000000000000)) : Calls Tryz.prog 201 #[.int .u64 x] w (RetV w x) := (of_any x w h.out).mono fun e w' h => h.v
theorem vslice {w : World} {v : Value} {n : Nat} (h : NumV w v n) : ∃ A c, v = .slice A (wds n).length c := by
  obtain ⟨A, c, h, _⟩ := h; exact ⟨A, c, h⟩
theorem wds_pos_iff (n : Nat) : 0 < (wds n).length ↔ 0 < n := by
  constructor
  · intro h
    rcases Nat.eq_zero_or_pos n with e | e
    · rw [e, wds_zero] at h; simp at h
    · exact e
  · intro h; exact wds_len_pos (by omega)

set_option maxHeartbeats 1000000 in
set_option maxRecDepth 100000 in
theorem gcd_any (v1 v2 : Value) (a b : Nat) (w : World) (hla : (wds a).length ≤ 549755813888) (hlb : (wds b).length ≤ 549755813888) (h1 : NumV w v1 a) (h2 : NumV w v2 b) :
    Calls Tryz.prog 175 #[v1, v2] w (RetV w (Nat.gcd a b)) := by
  have H1 := Lib.hid h1
  have H2 := Lib.hid h2
  clear h1 h2
  go_enter Tryz.func175, Tryz.ntmps175
  go_wp2
  go_loopw [0, 1] (fun x y wr => ∃ (X Y : Nat), (wds X).length ≤ 549755813888 ∧ (wds Y).length ≤ 549755813888 ∧ Hid (NumV wr x X) ∧ Hid (NumV wr y Y) ∧ Hid (Nat.gcd X Y = Nat.gcd a b) ∧ Hid (Ext w wr)) (fun x y wr => numOf wr y)
  case atStart => exact ⟨a, b, hla, hlb, H1, H2, rfl, Ext.rfl' w⟩
  case round =>
    obtain ⟨X, Y, hX, hY, HX, HY, HG, HE⟩ := hrel
    obtain ⟨A, ca, rfl⟩ := vslice HX.out
    obtain ⟨B, cb, rfl⟩ := vslice HY.out
    by_cases h0 : 0 < (wds Y).length
    · have hY0 : 0 < Y := (wds_pos_iff Y).1 h0
      by_cases hb : X < 1000000000000000000 ∧ Y < 1000000000000000000
      · have S1 := Lib.hid hb.1
        have S2 := Lib.hid hb.2
        clear hb hY0
        go_wp2_with fail
        refine (small_yes _ X _ hX HX S1).mono ?_
        rintro e w1 ⟨rfl, hE1⟩
        have E1 := Lib.hid (HE.out.tr hE1)
        have HY1 := Lib.hid (HY.out.ext hE1)
        clear hE1
        go_wp2_with fail
        refine (small_yes _ Y _ hY HY1 S2).mono ?_
        rintro e w2 ⟨rfl, hE2⟩
        have E2 := Lib.hid (E1.out.tr hE2)
        clear hE2
        go_wp2_with fail
        go_loopw [5, 7] (fun x y wq => ∃ (P Q : Nat), x = .int .u64 P ∧ y = .int .u64 Q ∧ Hid (P < 1000000000000000000) ∧ Hid (Q < 1000000000000000000) ∧ Hid (Nat.gcd P Q = Nat.gcd a b) ∧ Hid (Ext w wq)) (fun x y _ => (intOf y).toNat)
        case atStart => exact ⟨X, Y, rfl, rfl, S1, S2, HG, E2⟩
        case round =>
          obtain ⟨P, Q, rfl, rfl, HP, HQ, HPQ, EQ⟩ := hrel
          by_cases hq : 0 < Q
          · have hr1 : (P : Int).tmod (Q : Int) = ((P % Q : Nat) : Int) := by rw [Int.tmod_eq_emod_of_nonneg (by omega)]; exact (Int.natCast_emod P Q).symm
            have hr2 : (P : Int) % (Q : Int) = ((P % Q : Nat) : Int) := (Int.natCast_emod P Q).symm
            have hlt : P % Q < Q := Nat.mod_lt P hq
            have HR : Hid (P % Q < 1000000000000000000) := Nat.lt_trans hlt HQ.out
            have hb1 : ¬ ((Q : Int) = 0) := by omega
            have HG2 : Hid (Nat.gcd Q (P % Q) = Nat.gcd a b) := by
              unfold Hid; rw [← HPQ.out, Nat.gcd_comm P Q, Nat.gcd_rec Q P, Nat.gcd_comm]
            generalize P % Q = R at hr1 hr2 hlt HR HG2
            go_wp2_with fail
            go_quiet (fail)
            go_wp2
            go_roundw
            case rel => exact ⟨Q, R, rfl, rfl, HQ, HR, HG2, EQ.out.drN _⟩
            case measure => simp [intOf]; omega
          · go_wp2_with fail
            refine (of_h P _ HP).mono ?_
            rintro e w3 ⟨v, rfl, hV, hE3⟩
            go_wp2_with fail
            go_ret
            refine ⟨_, rfl, ?_, EQ.out.tr hE3⟩
            have : Q = 0 := by omega
            subst this
            rw [← HPQ.out, Nat.gcd_zero_right]
            exact hV
      · obtain ⟨s1, b1, B1, S1⟩ := small_b X hX
        obtain ⟨s2, b2, B2, S2⟩ := small_b Y hY
        have hR1 : (wds (X % Y)).length ≤ 549755813888 := Nat.le_trans (wds_mono (Nat.le_of_lt (Nat.mod_lt X hY0))) hY
        have HG2 : Hid (Nat.gcd Y (X % Y) = Nat.gcd a b) := by
          unfold Hid; rw [← HG.out, Nat.gcd_comm X Y, Nat.gcd_rec Y X, Nat.gcd_comm]
        have hb2 : b1 = true → b2 = false := by
          intro e1
          rcases Bool.eq_false_or_eq_true b2 with e2 | e2
          · exact absurd ⟨B1.out e1, B2.out e2⟩ hb
          · exact e2
        have hlt : X % Y < Y := Nat.mod_lt X hY0
        clear hb B1 B2
        cases b1
        all_goals
          try (obtain rfl := hb2 rfl)
          clear hb2
          go_wp2_with fail
          refine (S1 _ _ HX).mono ?_
          rintro e w1 ⟨rfl, hE1⟩
          have E1 := Lib.hid (HE.out.tr hE1)
          have HX1 := Lib.hid (HX.out.ext hE1)
          have HY1 := Lib.hid (HY.out.ext hE1)
          clear hE1
          go_wp2_with fail
          refine (S2 _ _ HY1).mono ?_
          rintro e w2 ⟨rfl, hE2⟩
          have E2 := Lib.hid (E1.out.tr hE2)
          have HX2 := Lib.hid (HX1.out.ext hE2)
          have HY2 := Lib.hid (HY1.out.ext hE2)
          clear hE2
          go_wp2_with fail
          refine (divide_h _ _ X Y _ hX hY HX2 HY2 hY0).mono ?_
          rintro e w3 ⟨q, r, rfl, hq, hr, hE3⟩
          have E3 := Lib.hid (E2.out.tr hE3)
          have HR3 := Lib.hid hr
          have HY3 := Lib.hid (HY2.out.ext hE3)
          clear hE3 hq hr
          go_wp2_with fail
          have hm1 : numOf wr (.slice B (wds Y).length cb) = Y := numOf_eq HY.out
          have hm2 : numOf w3 r = X % Y := numOf_eq HR3.out
          have HM1 := Lib.hid hm1
          have HM2 := Lib.hid hm2
          clear hm1 hm2
          go_roundw
          case rel => exact ⟨Y, X % Y, hY, hR1, HY3, HR3, HG2, E3⟩
          case measure => show numOf w3 r < numOf wr (.slice B (wds Y).length cb); rw [HM1.out, HM2.out]; exact hlt
    · go_wp2_with fail
      go_ret
      refine ⟨_, rfl, ?_, HE.out⟩
      have : Y = 0 := by rcases Nat.eq_zero_or_pos Y with e | e
                         · exact e
                         · exact absurd ((wds_pos_iff Y).2 e) h0
      subst this
      rw [← HG.out, Nat.gcd_zero_right]
      exact HX.out
end Go.Proofs.YtbldlibijojbjaaGreatDoor.GB

namespace Go.Proofs.YtbldlibijojbjaaGreatDoor.GB
set_option linter.unusedVariables false
set_option linter.unusedSimpArgs false
open Go.RowKit
attribute [local go_sem ↓] Go.wp_at_zero Go.wp_at_succ
theorem wide_val (n : Nat) : val [n % BB, n / BB % BB, n / BB / BB] = n := by
  show n % BB + BB * (n / BB % BB + BB * (n / BB / BB + BB * 0)) = n
  have h1 := Nat.mod_add_div n BB
  have h2 := Nat.mod_add_div (n / BB) BB
  rw [Nat.mul_zero, Nat.add_zero, h2, h1]
set_option maxHeartbeats 1000000 in
set_option maxRecDepth 100000 in
theorem wide_any (n : Nat) (w : World) (hn : n < 1000000000000000000) :
    Calls Tryz.prog 140 #[.int .u64 (n : Int)] w fun e w' => ∃ v, e = .returned v ∧ SlN w' v n ∧ Ext w w' := by
  have hR := RdN.lit w [n % BB, n / BB % BB, n / BB / BB] 124
  have hlt : n / BB / BB < BB := by
    have h1 : n / BB < 1000000000 := Nat.div_lt_of_lt_mul (by rw [BB_eq]; omega)
    exact Nat.lt_of_le_of_lt (Nat.div_le_self _ _) (by rw [BB_eq] at *; exact h1)
  have hS := trim_sl (n := n) hR (Nat.le_refl 3) (by decide) (by intro x hx; simp at hx; rcases hx with rfl | rfl | rfl; exact Nat.mod_lt _ BB_pos; exact Nat.mod_lt _ BB_pos; exact hlt) (wide_val n) (Tg.lit w _)
  have hT := ztrim_any (some ⟨w.heap.size, 0, none⟩) 3 [n % BB, n / BB % BB, n / BB / BB] _ (Nat.le_refl 3) (by decide) hR
  have hE := (Ext.rfl' w).al (.cells (u32s [n % BB, n / BB % BB, n / BB / BB]).toArray 124)
  rw [BB_eq] at hlt
  have e1 : ((n % BB : Nat) : Int) = (n : Int) % 1000000000 := by rw [BB_eq]; omega
  have e2 : ((n / BB % BB : Nat) : Int) = (n : Int) / 1000000000 % 1000000000 := by rw [BB_eq]; omega
  have e4 : ((n / BB / BB : Nat) : Int) = (n : Int) / 1000000000 / 1000000000 := by rw [BB_eq]; omega
  have e3 : (u32s [n % BB, n / BB % BB, n / BB / BB]).toArray = #[.int .u32 ((n : Int) % 1000000000), .int .u32 ((n : Int) / 1000000000 % 1000000000), .int .u32 ((n : Int) / 1000000000 / 1000000000)] := by simp [u32s, e1, e2, e4]
  rw [e3] at hS hT hE
  have HS := Lib.hid hS
  have HE := Lib.hid hE
  generalize (tz [n % BB, n / BB % BB, n / BB / BB]).length = tl at *
  have HT := Lib.hid hT
  have w1 : ((n : Int) / 1000000000 / 1000000000) % 4294967296 = (n : Int) / 1000000000 / 1000000000 := by omega
  clear hR hS hT hE e1 e2 e3 e4 hlt
  go_enter Tryz.func140, Tryz.ntmps140
  go_wp2_with fail
  refine (show Calls Tryz.prog 138 #[.slice (some ⟨w.heap.size, 0, none⟩) 3 3] _ _ from HT.out).mono ?_
  rintro e w1 ⟨rfl, rfl⟩
  go_wp2_with fail
  go_ret
  exact ⟨_, rfl, HS.out, HE.out⟩
theorem SlN.uniq {w : World} {v : Value} {n m : Nat} (h : SlN w v n) (k : SlN w v m) : n = m := by
  obtain ⟨A, c, rfl, _, _, h1, _⟩ := h
  obtain ⟨B, d, e, _, _, h2, _⟩ := k
  injection e with e1 e2 e3
  subst e1 e3
  apply wds_inj
  apply List.ext_getElem e2
  intro j hj hj2
  obtain ⟨b1, o1, q1, _, c1⟩ := h1 j hj
  obtain ⟨b2, o2, q2, _, c2⟩ := h2 j hj2
  rw [q1] at q2
  injection q2 with q2
  injection q2 with q3 q4
  subst q3 q4
  rw [c1] at c2
  injection c2 with c2
  injection c2 with _ c2
  omega
open Classical in
/-- The number that a value stands for. -/
noncomputable def numS (w : World) (v : Value) : Nat := if h : ∃ n, SlN w v n then Classical.choose h else 0
theorem numS_eq {w : World} {v : Value} {n : Nat} (h : SlN w v n) : numS w v = n := by
  unfold numS
  rw [dif_pos ⟨n, h⟩]
  exact (Classical.choose_spec (⟨n, h⟩ : ∃ n, SlN w v n)).uniq h
theorem SlN.slc {w : World} {v : Value} {n : Nat} (h : SlN w v n) : ∃ A c, v = .slice A (wds n).length c := by
  obtain ⟨A, c, e, _⟩ := h; exact ⟨A, c, e⟩
theorem SlN.rd {w : World} {A : Option Addr} {l c n : Nat} (h : SlN w (.slice A l c) n) : (wds n).length = l ∧ RdN w A (wds n) := by
  obtain ⟨A', c', e, _, _, h, _⟩ := h
  injection e with e1 e2 e3
  subst e1
  exact ⟨e2.symm, h⟩
theorem wds2_lt {n : Nat} (h : (wds n).length ≤ 2) : n < 1000000000000000000 := by
  have h1 := drop2_lt (ok_wds n) h 0
  rwa [List.drop_zero, val_wds] at h1
theorem wpos_iff (n : Nat) : 0 < (wds n).length ↔ 0 < n := by
  constructor
  · intro h
    rcases Nat.eq_zero_or_pos n with e | e
    · rw [e, wds_zero] at h; simp at h
    · exact e
  · intro h
    rcases Nat.eq_zero_or_pos (wds n).length with e | e
    · exfalso
      have := List.eq_nil_of_length_eq_zero e
      have h2 := val_wds n
      rw [this] at h2
      have : val [] = 0 := rfl
      omega
    · exact e
/-- What long division is to do, at numbers up to M. -/
def OverC (M : Nat) (w : World) : Prop := ∀ W v1 v2 a b, Ext w W → SlN W v1 a → SlN W v2 b → 0 < b → ¬ ((wds a).length ≤ 2 ∧ (wds b).length ≤ 2) → a ≤ M → b ≤ M →
  Calls Tryz.prog 141 #[v1, v2] W fun e w' => ∃ v3 v4, e = .returned (.tuple #[v3, v4]) ∧ SlN w' v3 (a / b) ∧ SlN w' v4 (a % b) ∧ Ext W w'
set_option maxHeartbeats 2000000 in
set_option maxRecDepth 100000 in
theorem zCommon_any (v1 v2 : Value) (a b M : Nat) (w : World) (h1 : SlN w v1 a) (h2 : SlN w v2 b) (ha : a ≤ M) (hb : b ≤ M) (hOv : OverC M w) (hM : (wds M).length ≤ 1099511627776) :
    Calls Tryz.prog 112 #[v1, v2] w fun e w' => ∃ v, e = .returned v ∧ SlN w' v (Nat.gcd a b) ∧ Ext w w' := by
  have H1 := Lib.hid h1
  have H2 := Lib.hid h2
  have HO := Lib.hid hOv
  have HML := Lib.hid hM
  have HA := Lib.hid ha
  have HB := Lib.hid hb
  clear h1 h2 hOv hM ha hb
  go_enter Tryz.func112, Tryz.ntmps112
  go_wp2
  go_loopw [0, 1] (fun x y wr => ∃ (X Y : Nat), Hid (X ≤ M) ∧ Hid (Y ≤ M) ∧ Hid (SlN wr x X) ∧ Hid (SlN wr y Y) ∧ Hid (Nat.gcd X Y = Nat.gcd a b) ∧ Hid (Ext w wr)) (fun x y wr => numS wr y)
  case atStart => exact ⟨a, b, HA, HB, H1, H2, rfl, Ext.rfl' w⟩
  case round =>
    clear H1 H2
    obtain ⟨X, Y, HXM, HYM, HX, HY, HG, HE⟩ := hrel
    obtain ⟨A, ca, rfl⟩ := HX.out.slc
    obtain ⟨B, cb, rfl⟩ := HY.out.slc
    obtain ⟨xl, hxl⟩ : ∃ xl, (wds X).length = xl := ⟨_, rfl⟩
    obtain ⟨yl, hyl⟩ : ∃ yl, (wds Y).length = yl := ⟨_, rfl⟩
    have hxb : xl ≤ 1099511627776 := by rw [← hxl]; exact Nat.le_trans (wds_mono HXM.out) HML.out
    have hyb : yl ≤ 1099511627776 := by rw [← hyl]; exact Nat.le_trans (wds_mono HYM.out) HML.out
    rw [hxl] at HX
    rw [hyl] at HY
    have HXL := Lib.hid hxl
    have HYL := Lib.hid hyl
    rw [hxl, hyl]
    clear hxl hyl
    by_cases h0 : 0 < yl
    · have HY0 : Hid (0 < Y) := (wpos_iff Y).1 (by rw [HYL.out]; exact h0)
      have z0 : (0 : Int) < (yl : Int) := by omega
      by_cases hb : xl ≤ 2 ∧ yl ≤ 2
      · have S1 : Hid (X < 1000000000000000000) := wds2_lt (by rw [HXL.out]; exact hb.1)
        have S2 : Hid (Y < 1000000000000000000) := wds2_lt (by rw [HYL.out]; exact hb.2)
        have z1 : (xl : Int) ≤ 2 := by omega
        have z2 : (yl : Int) ≤ 2 := by omega
        have hw1 := zword_any A ca xl X wr HXL.out hb.1 HX.out.rd.2
        have hw2 := zword_any B cb yl Y wr HYL.out hb.2 HY.out.rd.2
        have HW1 := Lib.hid hw1
        have HW2 := Lib.hid hw2
        clear hb hw1 hw2
        go_wp2_with fail
        refine HW1.out.mono ?_
        rintro e w1 ⟨rfl, rfl⟩
        go_wp2_with fail
        refine HW2.out.mono ?_
        rintro e w1 ⟨rfl, rfl⟩
        clear HW1 HW2
        go_wp2_with fail
        go_loopw [5, 6] (fun x y wq => ∃ (P Q : Nat), x = .int .u64 P ∧ y = .int .u64 Q ∧ Hid (P < 1000000000000000000) ∧ Hid (Q < 1000000000000000000) ∧ Hid (Nat.gcd P Q = Nat.gcd a b) ∧ Hid (Ext w wq)) (fun x y _ => (intOf y).toNat)
        case atStart => exact ⟨X, Y, rfl, rfl, S1, S2, HG, HE⟩
        case round =>
          obtain ⟨P, Q, rfl, rfl, HP, HQ, HPQ, EQ⟩ := hrel
          by_cases hq : 0 < Q
          · have hr1 : (P : Int).tmod (Q : Int) = ((P % Q : Nat) : Int) := by rw [Int.tmod_eq_emod_of_nonneg (by omega)]; exact (Int.natCast_emod P Q).symm
            have hr2 : (P : Int) % (Q : Int) = ((P % Q : Nat) : Int) := (Int.natCast_emod P Q).symm
            have hlt : P % Q < Q := Nat.mod_lt P hq
            have HR : Hid (P % Q < 1000000000000000000) := Nat.lt_trans hlt HQ.out
            have hb1 : ¬ ((Q : Int) = 0) := by omega
            have hb2 : ((Q : Int) == 0) = false := by rw [beq_eq_false_iff_ne]; omega
            have HG2 : Hid (Nat.gcd Q (P % Q) = Nat.gcd a b) := by
              unfold Hid; rw [← HPQ.out, Nat.gcd_comm P Q, Nat.gcd_rec Q P, Nat.gcd_comm]
            generalize P % Q = R at hr1 hr2 hlt HR HG2
            go_wp2_with fail
            go_quiet (fail)
            go_wp2
            go_roundw
            case rel => exact ⟨Q, R, rfl, rfl, HQ, HR, HG2, EQ.out.drN _⟩
            case measure => simp [intOf]; omega
          · have hq0 : Q = 0 := by omega
            subst hq0
            go_wp2_with fail
            refine (wide_any P _ HP.out).mono ?_
            rintro e w3 ⟨v, rfl, hV, hE3⟩
            go_wp2_with fail
            go_ret
            refine ⟨_, rfl, ?_, EQ.out.tr hE3⟩
            rw [← HPQ.out, Nat.gcd_zero_right]
            exact hV
      · have HG2 : Hid (Nat.gcd Y (X % Y) = Nat.gcd a b) := by
          unfold Hid; rw [← HG.out, Nat.gcd_comm X Y, Nat.gcd_rec Y X, Nat.gcd_comm]
        have hov := HO.out wr _ _ X Y HE.out HX.out HY.out HY0.out (by rw [HXL.out, HYL.out]; exact hb) HXM.out HYM.out
        have HOv := Lib.hid hov
        have HRM : Hid (X % Y ≤ M) := Nat.le_trans (Nat.le_of_lt (Nat.mod_lt X HY0.out)) HYM.out
        clear hov
        have hc : (xl ≤ 2 ∧ ¬ yl ≤ 2) ∨ ¬ xl ≤ 2 := by omega
        clear hb
        rcases hc with ⟨c1, c2⟩ | c1
        all_goals
          try have z1 : (xl : Int) ≤ 2 := by omega
          try have z2 : ¬ (yl : Int) ≤ 2 := by omega
          try have z1 : ¬ (xl : Int) ≤ 2 := by omega
          clear c1
          go_wp2_with fail
          refine HOv.out.mono ?_
          rintro e w3 ⟨q, r, rfl, hq, hr, hE3⟩
          have E3 := Lib.hid (HE.out.tr hE3)
          have HR3 := Lib.hid hr
          have HY3 := Lib.hid (HY.out.ext hE3)
          clear hE3 hq hr
          go_wp2_with fail
          have hm1 : numS wr (.slice B yl cb) = Y := numS_eq HY.out
          have hm2 : numS w3 r = X % Y := numS_eq HR3.out
          have HM1 := Lib.hid hm1
          have HM2 := Lib.hid hm2
          clear hm1 hm2
          go_roundw
          case rel => exact ⟨Y, X % Y, HYM, HRM, HY3, HR3, HG2, E3⟩
          case measure => show numS w3 r < numS wr (.slice B yl cb); rw [HM1.out, HM2.out]; exact Nat.mod_lt X HY0.out
    · have z0 : ¬ (0 : Int) < (yl : Int) := by omega
      go_wp2_with fail
      go_ret
      refine ⟨_, rfl, ?_, HE.out⟩
      have : Y = 0 := by rcases Nat.eq_zero_or_pos Y with e | e
                         · exact e
                         · exact absurd (show 0 < yl by rw [← show (wds Y).length = yl from HYL.out]; exact (wpos_iff Y).2 e) h0
      subst this
      rw [← HG.out, Nat.gcd_zero_right]
      exact HX.out
end Go.Proofs.YtbldlibijojbjaaGreatDoor.GB

namespace Go.Proofs.YtbldlibijojbjaaGreatDoor.GB
set_option linter.unusedVariables false
set_option linter.unusedSimpArgs false
open Go.RowKit Lib
attribute [local go_sem ↓] Go.wp_at_zero Go.wp_at_succ
set_option maxHeartbeats 4000000 in
set_option maxRecDepth 100000 in
theorem zTo_pos (A : Option Addr) (c ln : Nat) (n : Nat) (w : World) (h0 : 0 < n) (HLN : Hid ((wds n).length = ln)) (hl : ln ≤ 1099511627776) (hr : RdN w A (wds n)) :
    Calls Tryz.prog 114 #[.slice A ln c] w fun e w' => e = .returned (.string ⟨(decDigits n).toArray⟩) ∧ Ext w w' := by
  obtain ⟨i0, hi, hz0, hz1, hz2⟩ := info_parts Tryz.infoU8
  have HO0 := Lib.hid (OI.start n h0)
  have HR := Lib.hid hr
  have HOK : Hid (Ok (wds n)) := ok_wds n
  have HTP : Hid ((wds n).getLast? ≠ some 0) := wds_last n
  have hln0 : 0 < ln := by
    have := HLN.out
    rcases Nat.eq_zero_or_pos ln with h | h
    · exfalso
      have e := List.eq_nil_of_length_eq_zero (this.trans h)
      have h2 := val_wds n
      rw [e] at h2
      have : val [] = 0 := rfl
      omega
    · exact h
  have hl0 : ((ln : Int) == 0) = false := by rw [beq_eq_false_iff_ne]; omega
  clear hr
  generalize hwd : wds n = l at *
  clear hwd
  go_enter Tryz.func114, Tryz.ntmps114
  go_wp2
  go_loopw [3, 4] (fun v x wr => ∃ (i : Nat) (L : List UInt8), i ≤ ln ∧ x = .int .i64 i ∧ L.length ≤ 9 * i ∧ Hid (OI n l i L) ∧ Hid (OwnB wr w.heap.size v L) ∧ Hid (Ext w wr)) (fun _ x _ => ln - (RowKit.intOf x).toNat)
  case atStart => exact ⟨0, [], Nat.zero_le _, rfl, by simp, HO0, ⟨by simp [u8s], .inl ⟨rfl, rfl⟩⟩, Ext.rfl' w⟩
  case round =>
    clear HO0
    obtain ⟨i, L, hi1, rfl, hL, HI, HO, HE⟩ := hrel
    by_cases hlt : i < ln
    · have hil : i < l.length := by rw [HLN.out]; exact hlt
      obtain ⟨b, off, rfl, hb, hc⟩ := HR.out i hil
      have HT0 := Lib.hid (HI.out.word HOK.out HTP.out hil)
      replace hc := HE.out.cell hc
      have hwb : l[i] < BB := HOK.out _ (List.getElem_mem hil)
      rw [BB_eq] at hwb
      generalize l[i] = x at *
      clear HI
      go_wp2
      go_loopw [3, 5, 6] (fun v u y wr => ∃ (k z : Nat) (L : List UInt8), k ≤ 9 ∧ y = .int .i64 k ∧ u = .int .u32 (z : Int) ∧ z < 1000000000 ∧ L.length ≤ 9 * i + k ∧ Hid (TI n l i k z L) ∧ Hid (OwnB wr w.heap.size v L) ∧ Hid (Ext w wr)) (fun _ _ y _ => 9 - (RowKit.intOf y).toNat)
      case atStart => exact ⟨0, x, L, by omega, rfl, rfl, hwb, by omega, HT0, HO, HE⟩
      case round =>
        clear HT0 HO HE hc hwb
        obtain ⟨k, z, L, hk, rfl, rfl, hzb, hL, HT, HO, HE⟩ := hrel
        have hmax : L.length + 1 ≤ maxLen := by unfold maxLen; omega
        have hbig : (L.length + 1) * 1 ≤ 140737488355328 := by omega
        have hbase : w.heap.size ≤ wr.heap.size := HE.out.size
        by_cases hgo : k < 9 ∧ (i + 1 < ln ∨ 0 < z)
        · obtain ⟨hk9, hg2⟩ := hgo
          have HT2 := Lib.hid (HT.out.step hk9 (by rw [HLN.out]; exact hg2))
          have hd : (UInt8.ofNat (48 + z % 10)).toNat = 48 + z % 10 := dig_ofNat _ (Nat.mod_lt _ (by omega))
          have HDG := Lib.hid hd
          have t1 : (k : Int) < 9 := by omega
          clear HT hd
          rcases hg2 with hg2 | hg2
          · have t2 : (i : Int) + 1 < (ln : Int) := by omega
            go_wp2_with (at_builtin; (refine wpList_append_own _ rfl _ _ 156 rfl w.heap.size 5 i0 (.int .u8 0) 1 1 Tryz.underlying156 hi hz0 hz1 hz2 rfl (by decide) _ L.length (u8s L) rfl (World.ownsRow.alloc HO.out _) ⟨wr.heap.size, 0, none⟩ 1 1 _ rfl rfl (cell_one_new _ _ _) (by simp [Value.oneCell']) hmax hbig (by simp; omega) ?_); intro v' w2 hown2 hgrow2 _)
            all_goals
              obtain ⟨p1, p2⟩ := ownb_push HO.out HE.out hown2 hgrow2 (n := UInt8.ofNat (48 + z % 10)) (by rw [HDG.out]; omega)
              go_wp2
              go_roundw
              case rel => exact ⟨k + 1, z / 10, L ++ [UInt8.ofNat (48 + z % 10)], by omega, by go_num, by go_num, by omega, by simp; omega, HT2, p1, p2⟩
              case measure => simp [RowKit.intOf]; omega
          · have t3 : (0 : Int) < (z : Int) := by omega
            by_cases h2 : i + 1 < ln
            · have t2 : (i : Int) + 1 < (ln : Int) := by omega
              go_wp2_with (at_builtin; (refine wpList_append_own _ rfl _ _ 156 rfl w.heap.size 5 i0 (.int .u8 0) 1 1 Tryz.underlying156 hi hz0 hz1 hz2 rfl (by decide) _ L.length (u8s L) rfl (World.ownsRow.alloc HO.out _) ⟨wr.heap.size, 0, none⟩ 1 1 _ rfl rfl (cell_one_new _ _ _) (by simp [Value.oneCell']) hmax hbig (by simp; omega) ?_); intro v' w2 hown2 hgrow2 _)
              all_goals
                obtain ⟨p1, p2⟩ := ownb_push HO.out HE.out hown2 hgrow2 (n := UInt8.ofNat (48 + z % 10)) (by rw [HDG.out]; omega)
                go_wp2
                go_roundw
                case rel => exact ⟨k + 1, z / 10, L ++ [UInt8.ofNat (48 + z % 10)], by omega, by go_num, by go_num, by omega, by simp; omega, HT2, p1, p2⟩
                case measure => simp [RowKit.intOf]; omega
            · have t2 : ¬ (i : Int) + 1 < (ln : Int) := by omega
              go_wp2_with (at_builtin; (refine wpList_append_own _ rfl _ _ 156 rfl w.heap.size 5 i0 (.int .u8 0) 1 1 Tryz.underlying156 hi hz0 hz1 hz2 rfl (by decide) _ L.length (u8s L) rfl (World.ownsRow.alloc HO.out _) ⟨wr.heap.size, 0, none⟩ 1 1 _ rfl rfl (cell_one_new _ _ _) (by simp [Value.oneCell']) hmax hbig (by simp; omega) ?_); intro v' w2 hown2 hgrow2 _)
              all_goals
                obtain ⟨p1, p2⟩ := ownb_push HO.out HE.out hown2 hgrow2 (n := UInt8.ofNat (48 + z % 10)) (by rw [HDG.out]; omega)
                go_wp2
                go_roundw
                case rel => exact ⟨k + 1, z / 10, L ++ [UInt8.ofNat (48 + z % 10)], by omega, by go_num, by go_num, by omega, by simp; omega, HT2, p1, p2⟩
                case measure => simp [RowKit.intOf]; omega
        · have HL := Lib.hid (HT.out.last (by rw [HLN.out]; exact hlt) (by rw [HLN.out]; exact hgo))
          clear HT
          by_cases h9 : k < 9
          · have t1 : (k : Int) < 9 := by omega
            have t2 : ¬ (i : Int) + 1 < (ln : Int) := by omega
            have t3 : ¬ (0 : Int) < (z : Int) := by omega
            clear hgo
            go_wp2
            go_roundw
            case rel => exact ⟨i + 1, L, by omega, by go_num, by omega, HL, HO, HE⟩
            case measure => simp [RowKit.intOf]; omega
          · have t1 : ¬ (k : Int) < 9 := by omega
            clear hgo
            go_wp2
            go_roundw
            case rel => exact ⟨i + 1, L, by omega, by go_num, by omega, HL, HO, HE⟩
            case measure => simp [RowKit.intOf]; omega
    · have hie : i = l.length := by rw [HLN.out]; omega
      have hf := (show OI n l l.length L by rw [← hie]; exact HI.out).fin
      have HRV := Lib.hid hf.1
      have hpos := List.length_pos_iff.2 hf.2
      have hAt : AtB wr w.heap.size 0 0 0 [] ∨ True := .inr trivial
      obtain ⟨g, cc, hu, hbg, hgs⟩ := HO.out.at_ hpos
      subst hu
      have HAt : Hid (AtB wr w.heap.size g cc L.length L) := ⟨rfl, HO.out⟩
      have HNL := Lib.hid (show L.length = L.length from rfl)
      clear hf hAt HI hie HO
      obtain ⟨N, hN⟩ : ∃ N, L.length = N := ⟨_, rfl⟩
      have HN := Lib.hid hN
      rw [hN] at HAt hpos hL ⊢
      clear hN HNL
      go_wp2
      go_loopw [7, 8] (fun x y wr => ∃ (j : Nat), 2 * j ≤ N ∧ x = .int .i64 j ∧ y = .int .i64 ((N : Int) - 1 - j) ∧ Hid (AtB wr w.heap.size g cc N (rv L j)) ∧ Hid (Ext w wr)) (fun x _ _ => N - (RowKit.intOf x).toNat)
      case atStart => exact ⟨0, by omega, rfl, by go_num, by unfold Hid; rw [rv_zero]; exact HAt.out, HE⟩
      case round =>
        clear HAt HE
        obtain ⟨j, hj, rfl, rfl, HAt, HE⟩ := hrel
        by_cases hsw : 2 * j + 1 < N
        · obtain ⟨k, hk⟩ : ∃ k, k = N - 1 - j := ⟨_, rfl⟩
          have hkz : (N : Int) - 1 - (j : Int) = (k : Int) := by omega
          rw [hkz]
          have hkN : k < N := by omega
          have hjN : j < N := by omega
          have hjk : j < k := by omega
          have c0 := HAt.out.cell j hjN
          have c1 := HAt.out.cell k hkN
          have f0 : wr.frozen? ⟨g, j, none⟩ = false := World.ownsRow.frozenAt HAt.out.2 j
          have f1 : wr.frozen? ⟨g, k, none⟩ = false := World.ownsRow.frozenAt HAt.out.2 k
          have g0 : (rv L j).getD j 0 = L.getD j 0 := by
            have hl : j < (rv L j).length := by rw [rv_len, show L.length = N from HN.out]; exact hjN
            rw [List.getD_eq_getElem?_getD, List.getElem?_eq_getElem hl, Option.getD_some]
            exact rv_get L j j hl (Nat.le_refl _) (by rw [show L.length = N from HN.out]; omega)
          have g1 : (rv L j).getD k 0 = L.getD (L.length - 1 - j) 0 := by
            have hl : k < (rv L j).length := by rw [rv_len, show L.length = N from HN.out]; exact hkN
            rw [List.getD_eq_getElem?_getD, List.getElem?_eq_getElem hl, Option.getD_some, show L.length - 1 - j = k by rw [show L.length = N from HN.out, hk]]
            exact rv_get L j k hl (by omega) (by rw [show L.length = N from HN.out]; omega)
          rw [g0] at c0
          rw [g1] at c1
          have HSW : Hid (((rv L j).set j (L.getD (L.length - 1 - j) 0)).set k (L.getD j 0) = rv L (j + 1)) := by
            have h := rv_swap L j (by rw [show L.length = N from HN.out]; exact hsw)
            rw [show L.length - 1 - j = k by rw [show L.length = N from HN.out, hk]] at h ⊢
            exact h
          have HK := Lib.hid hk
          clear hk g0 g1
          generalize L.getD (L.length - 1 - j) 0 = b1 at *
          generalize L.getD j 0 = b0 at *
          have i0 : (j : Int) < (k : Int) := by omega
          have i1 : (j : Int) < (N : Int) := by omega
          have i2 : (k : Int) < (N : Int) := by omega
          go_wp2_with fail
          go_region_with (fail)
          all_goals
            have HA2 : Hid (AtB ((wr.setCell ⟨g, j, none⟩ (.int .u8 (b1.toNat : Int))).setCell ⟨g, k, none⟩ (.int .u8 (b0.toNat : Int))).drew w.heap.size g cc N (rv L (j + 1))) := by
              have h := (HAt.out.store j b1).store k b0
              rw [HSW.out] at h
              exact AtB.drH h
            have HE2 : Hid (Ext w ((wr.setCell ⟨g, j, none⟩ (.int .u8 (b1.toNat : Int))).setCell ⟨g, k, none⟩ (.int .u8 (b0.toNat : Int))).drew) :=
              Ext.dr ((HE.out.setCell (p := ⟨g, j, none⟩) hbg (.int .u8 (b1.toNat : Int))).setCell (p := ⟨g, k, none⟩) hbg (.int .u8 (b0.toNat : Int)))
            go_wp2
            go_roundw
            case rel => exact ⟨j + 1, by omega, by go_num, by go_num, HA2, HE2⟩
            case measure => simp [RowKit.intOf]; omega
        · have hge : N ≤ 2 * j + 1 := by omega
          have i0 : ¬ (j : Int) < (N : Int) - 1 - (j : Int) := by omega
          have hfin : rv L j = decDigits n := by rw [rv_end L j (by rw [show L.length = N from HN.out]; exact hge), HRV.out]
          have hcv := run_convert_bytes_arg (P := Tryz.prog) wr 156 5 Tryz.underlying156 Tryz.underlying5 g 0 N cc ((rv L j).map fun b => (b.toNat : Int)) (by rw [List.length_map]; exact HAt.out.1) (fun q hq => by
            have h := HAt.out.cell q hq
            rw [Nat.zero_add, h]
            have hq2 : q < (rv L j).length := by rw [HAt.out.1]; exact hq
            simp [List.getD, hq2]) 9 Tryz.underlying9
          rw [bytes_back, hfin] at hcv
          clear hfin hge
          go_wp2
          go_ret
          exact ⟨rfl, HE.out⟩
end Go.Proofs.YtbldlibijojbjaaGreatDoor.GB

namespace Go.Proofs.YtbldlibijojbjaaGreatDoor.GB
set_option linter.unusedVariables false
set_option linter.unusedSimpArgs false
open Go.RowKit

theorem szBuilder : (Tryz.prog.info? 229).map (·.size) = some 2 := by kernel_rfl
theorem liesBuilder : liesAt Tryz.prog Tryz.prog.depth 229 (2 / Tryz.prog.cellsOf 229) 0 229 1 = true := by kernel_rfl
theorem infoU8 : (Tryz.prog.info? 5).map (fun i => (i.zero, i.size, i.bytes)) = some (some (.int .u8 0), 1, 1) := by kernel_rfl

set_option maxHeartbeats 1000000 in
set_option maxRecDepth 100000 in
theorem copyCheck_used (b : Nat) (w : World) (h0 : w.cell? ⟨b, 0, none⟩ = some (.pointer (some ⟨b, 0, none⟩))) :
    Calls Tryz.prog 241 #[.pointer (some ⟨b, 0, none⟩)] w fun e w' => e = .returned (.tuple #[]) ∧ w' = w := by
  obtain ⟨j, hj, _⟩ := Option.map_eq_some_iff.1 szBuilder
  go_enter Tryz.func241, Tryz.ntmps241
  go_wp2
  rw [Lib.run_neq_ptr_same w _ Tryz.underlying227 hj]
  go_wp2
  go_end0
  exact ⟨rfl, rfl⟩

set_option maxHeartbeats 1000000 in
set_option maxRecDepth 100000 in
theorem copyCheck_fresh (b : Nat) (w : World) (h0 : w.cell? ⟨b, 0, none⟩ = some (.pointer none)) (hsh : w.shape? b = some (229, 2)) (hfz : w.frozen? ⟨b, 0, none⟩ = false) :
    Calls Tryz.prog 241 #[.pointer (some ⟨b, 0, none⟩)] w fun e w' => e = .returned (.tuple #[]) ∧ w' = w.setCell ⟨b, 0, none⟩ (.pointer (some ⟨b, 0, none⟩)) := by
  obtain ⟨j, hj, hjs⟩ := Option.map_eq_some_iff.1 szBuilder
  go_enter Tryz.func241, Tryz.ntmps241
  go_wp2
  rw [Lib.run_to_unsafe w ⟨b, 0, none⟩ Tryz.underlying227 Tryz.underlying262 hj (by rw [hjs]; decide) hsh (Nat.zero_lt_succ 1)]
  simp only [Result.andThen]
  rw [Oper.upon_value]
  go_wp2
  rw [run_callFunc_extern Tryz.func257 (by kernel_rfl) (by kernel_rfl) (by kernel_rfl) (e := Extern.AbiNoEscape.same) (by kernel_rfl)]
  rw [Lib.run_noEscape]
  simp only [Result.andThen]
  rw [Oper.upon_value]
  go_wp2
  rw [Lib.run_from_unsafe w ⟨b, 0, none⟩ Tryz.underlying262 Tryz.underlying227 hj hsh liesBuilder]
  simp only [Result.andThen]
  rw [Oper.upon_value]
  go_wp2
  go_end0
  exact ⟨rfl, rfl⟩

theorem copyCheck_any (B b : Nat) (bs : List Value) (w : World) (h : Lib.IsBuilder 229 5 B b bs w) :
    Calls Tryz.prog 241 #[.pointer (some ⟨b, 0, none⟩)] w fun e w' => e = .returned (.tuple #[]) ∧ (Lib.BuilderAt 229 5 B b (.pointer (some ⟨b, 0, none⟩)) bs w' ∧ Below B w w' ∧ Lib.OthersKept 5 (some b) w w') := by
  rcases h with h | h
  · refine (copyCheck_fresh b w h.cell0 h.shape h.frozen0).mono ?_
    rintro e w' ⟨rfl, rfl⟩
    exact ⟨rfl, h.used _, (Below.refl B w).setCell (p := ⟨b, 0, none⟩) h.1 _, (Lib.OthersKept.refl _ (some b) w).setCell ⟨b, 0, none⟩ rfl _⟩
  · refine (copyCheck_used b w h.cell0).mono ?_
    rintro e w' ⟨rfl, rfl⟩
    exact ⟨rfl, h, Below.refl B _, Lib.OthersKept.refl _ _ _⟩

set_option maxHeartbeats 2000000 in
set_option maxRecDepth 100000 in
theorem writeString_any (B b : Nat) (bs : List Value) (s : ByteArray) (w : World) (h : Lib.IsBuilder 229 5 B b bs w) (hlen : bs.length + s.size ≤ 140737488355328) (hBw : B ≤ w.heap.size) :
    Calls Tryz.prog 224 #[.pointer (some ⟨b, 0, none⟩), .string s] w fun e w' => e = .returned (.tuple #[.int .i64 s.size, .nilIface]) ∧ (Lib.BuilderAt 229 5 B b (.pointer (some ⟨b, 0, none⟩)) (bs ++ Lib.strCells s) w' ∧ Below B w w' ∧ Lib.OthersKept 5 (some b) w w') := by
  obtain ⟨i0, hi, hz0, hz1, hz2⟩ := info_parts infoU8
  go_enter Tryz.func224, Tryz.ntmps224
  go_wp2_with (go_at_call 241; refine (copyCheck_any B b bs _ h).mono ?_)
  rintro e w1 ⟨rfl, h1, hb1, hk1⟩
  obtain ⟨hB, v, hbk, hown, hne⟩ := h1
  have c0 : w1.cell? ⟨b, 0, none⟩ = some (.pointer (some ⟨b, 0, none⟩)) := by rw [Lib.cell_of_heap hbk]; rfl
  have c1 : w1.cell? ⟨b, 1, none⟩ = some v := by rw [Lib.cell_of_heap hbk]; rfl
  go_wp2_with (at_builtin; refine Lib.wpList_append_own_string _ rfl _ _ 156 9 rfl B 5 i0 Tryz.underlying156 Tryz.underlying9 hi hz0 hz1 hz2 _ _ _ rfl hown s rfl ?c3 ?c4 ?c5 ?_)
  case c3 => unfold maxLen; omega
  case c4 => omega
  case c5 => have := hb1.size; omega
  intro v' w2 hown' hgrow _
  have hlt : b < w1.heap.size := by
    rcases Nat.lt_or_ge b w1.heap.size with h' | h'
    · exact h'
    · simp [Array.getElem?_eq_none h'] at hbk
  have hb2 : w2.heap[b]? = some (.cells #[.pointer (some ⟨b, 0, none⟩), v] 229 (0, 0)) := by
    rw [hgrow.block b hlt (fun e => hne e.symm)]
    exact hbk
  have d0 : w2.cell? ⟨b, 0, none⟩ = some (.pointer (some ⟨b, 0, none⟩)) := by rw [Lib.cell_of_heap hb2]; rfl
  have d1 : w2.cell? ⟨b, 1, none⟩ = some v := by rw [Lib.cell_of_heap hb2]; rfl
  have f1 : w2.frozen? ⟨b, 1, none⟩ = false := Lib.frozen_of_heap hb2 1
  obtain ⟨ao, n', cap, rfl⟩ : ∃ ao n' cap, v' = .slice ao n' cap := by
    rcases hown'.2 with ⟨hv, _⟩ | ⟨g, cap, cur, hv, _⟩
    · exact ⟨_, _, _, hv⟩
    · exact ⟨_, _, _, hv⟩
  go_wp2
  go_ret2
  refine ⟨rfl, ?_, ?_, ?_⟩
  · exact Lib.BuilderAt.put (T := 229) (e := 5) hB hb2 (bs' := bs ++ Lib.strCells s) (by simpa [Lib.strCells_length] using hown') (by decide)
  · exact (hb1.grown hgrow (by have := hb1.size; omega) (fun k hk => (hown.lt k hk).1)).setCell (p := ⟨b, 1, none⟩) hB _
  · refine (hk1.grown hgrow ?_).setCell ⟨b, 1, none⟩ rfl _
    intro j hj
    rcases hown.2 with ⟨hv, _⟩ | ⟨g, cap, cur, hv, hg, hh, _⟩
    · rw [hv] at hj; cases hj
    · rw [hv] at hj; cases hj; exact ⟨_, _, hh⟩
/-- The builder's frame keeps whatever is no cells. -/
theorem others_keeps {b : Nat} {w w' : World} (h : Lib.OthersKept 5 (some b) w w') (hs : w.heap.size ≤ w'.heap.size) {cs : Array Value} {T : TypeId} {fz : Nat × Nat} (hb : w.heap[b]? = some (.cells cs T fz)) : KeepsOthers w w' :=
  ⟨hs, fun k o hk ho => h k o hk (fun e => by cases e; rw [hb] at hk; cases hk; simp [Obj.isCells] at ho) (fun c fz e => by subst e; simp [Obj.isCells] at ho)⟩
end Go.Proofs.YtbldlibijojbjaaGreatDoor.GB

namespace Go.Proofs.YtbldlibijojbjaaGreatDoor.GB
set_option linter.unusedVariables false
set_option linter.unusedSimpArgs false
open Go.RowKit Go.Shelf
attribute [local go_sem] Oper.semAt_some

/-- A place and its word. -/
abbrev NW := { x : Nat × Nat // x.1 < 1099511627776 ∧ x.2 < 1000000000 }
/-- The text that a word adds: padded but for the first word. -/
def piece (len : Nat) (x : NW) : List UInt8 := if x.1.1 + 1 < len then pad9 x.1.2 else Lib.decDigits x.1.2
def textOf (len : Nat) (pre : List NW) : List UInt8 := pre.flatMap (piece len)
theorem textOf_snoc (len : Nat) (pre : List NW) (x : NW) : textOf len (pre ++ [x]) = textOf len pre ++ piece len x := by simp [textOf]
theorem piece_len (len : Nat) (x : NW) : (piece len x).length ≤ 9 := by
  have h : x.1.2 < BB := x.2.2
  unfold piece
  split
  · rw [pad9_len h]; exact Nat.le_refl _
  · exact dec_len9 h
theorem textOf_len (len : Nat) (pre : List NW) : (textOf len pre).length ≤ 9 * pre.length := by
  induction pre with
  | nil => exact Nat.le_refl _
  | cons x pre ih =>
    have := piece_len len x
    simp only [textOf, List.flatMap_cons, List.length_append, List.length_cons] at ih ⊢
    omega
/-- The words of l, the last first. -/
def downs (l : List Nat) (k : Nat) : List NW := (List.range k).map fun j => if h : l.length - 1 - j < 1099511627776 ∧ wd l (l.length - 1 - j) < 1000000000 then ⟨(l.length - 1 - j, wd l (l.length - 1 - j)), h⟩ else ⟨(0, 0), by decide⟩
theorem downs_succ {l : List Nat} {k m : Nat} (hm : m + k + 1 = l.length) (h1 : m < 1099511627776) (h2 : wd l m < 1000000000) : downs l (k + 1) = downs l k ++ [⟨(m, wd l m), h1, h2⟩] := by
  have e : l.length - 1 - k = m := by omega
  simp only [downs, List.range_succ, List.map_append, List.map_cons, List.map_nil]
  congr 2
  simp only [e]
  rw [dif_pos ⟨h1, h2⟩]
theorem downs_length (l : List Nat) (k : Nat) : (downs l k).length = k := by simp [downs]
theorem wd_wds (m : Nat) : ∀ n, wd (wds n) m = n / BB ^ m % BB := by
  induction m with
  | zero => intro n; rcases Nat.eq_zero_or_pos n with e | e
            · rw [e, wds_zero]; simp [wd]
            · rw [wds_pos (by omega)]; simp [wd]
  | succ m ih =>
    intro n
    rcases Nat.eq_zero_or_pos n with e | e
    · rw [e, wds_zero, Nat.zero_div, Nat.zero_mod]; simp [wd]
    · rw [wds_pos (by omega)]
      have : wd (n % BB :: wds (n / BB)) (m + 1) = wd (wds (n / BB)) m := by simp [wd]
      rw [this, ih, Nat.div_div_eq_div_mul, Nat.pow_succ, Nat.mul_comm]
theorem nine9 : BB = 1000000000 := rfl
theorem wd_wds_lt (n m : Nat) : wd (wds n) m < 1000000000 := by
  rw [wd_wds, ← nine9]; exact Nat.mod_lt _ BB_pos
theorem downs_text (n : Nat) (hl : (wds n).length ≤ 549755813888) (h0 : n ≠ 0) : ∀ k, k < (wds n).length → textOf (wds n).length (downs (wds n) (k + 1)) = Lib.decDigits (n / BB ^ ((wds n).length - (k + 1))) := by
  intro k
  induction k with
  | zero =>
    intro hk
    obtain ⟨m, hm⟩ : ∃ m, m + 0 + 1 = (wds n).length := ⟨(wds n).length - 1, by omega⟩
    rw [downs_succ (k := 0) (m := m) (l := wds n) hm (by omega) (wd_wds_lt n m)]
    have e : (wds n).length - (0 + 1) = m := by omega
    rw [e]
    have h1 := wds_len_lt n
    have hq : n / BB ^ m < BB := by rw [Nat.div_lt_iff_lt_mul (Nat.pow_pos BB_pos), Nat.mul_comm, ← Nat.pow_succ]; rw [← hm] at h1; exact h1
    simp only [downs, List.range_zero, List.map_nil, List.nil_append, textOf, List.flatMap_cons, List.flatMap_nil, List.append_nil, piece]
    rw [if_neg (by omega), wd_wds, Nat.mod_eq_of_lt hq]
  | succ k ih =>
    intro hk
    obtain ⟨m, hm⟩ : ∃ m, m + (k + 1) + 1 = (wds n).length := ⟨(wds n).length - (k + 2), by omega⟩
    rw [downs_succ hm (by omega) (wd_wds_lt n m), textOf_snoc, ih (by omega)]
    have e1 : (wds n).length - (k + 1 + 1) = m := by omega
    have e2 : (wds n).length - (k + 1) = m + 1 := by omega
    rw [e1, e2]
    have h1 := wds_len_ge h0
    have hq : BB ≤ n / BB ^ m := by
      rw [Nat.le_div_iff_mul_le (Nat.pow_pos BB_pos), Nat.mul_comm, ← Nat.pow_succ]
      exact Nat.le_trans (Nat.pow_le_pow_right BB_pos (by omega)) h1
    rw [dec_words hq, Nat.div_div_eq_div_mul, ← Nat.pow_succ]
    congr 1
    unfold piece
    rw [if_pos (by show m + 1 < _; omega)]
    show pad9 (wd (wds n) m) = _
    rw [wd_wds]
theorem downs_all (n : Nat) (hl : (wds n).length ≤ 549755813888) (h0 : n ≠ 0) : textOf (wds n).length (downs (wds n) (wds n).length) = Lib.decDigits n := by
  have hp := wds_len_pos h0
  obtain ⟨k, hk⟩ : ∃ k, (wds n).length = k + 1 := ⟨(wds n).length - 1, by omega⟩
  have h := downs_text n hl h0 k (by omega)
  rw [← hk, Nat.sub_self, Nat.pow_zero, Nat.div_one] at h
  exact h

/-- What the body of a loop over a slice's words keeps: what lay below s0, and the box. -/
def Kps (s0 bx : Nat) (W W' : World) : Prop := Below s0 W W' ∧ ∀ v, W.cell? ⟨bx, 0, none⟩ = some v → W'.cell? ⟨bx, 0, none⟩ = some v
theorem Kps.t {s0 bx : Nat} {A B C : World} (h : Kps s0 bx A B) (k : Kps s0 bx B C) : Kps s0 bx A C := ⟨h.1.trans k.1, fun v e => k.2 v (h.2 v e)⟩
theorem Kps.refl (s0 bx : Nat) (A : World) : Kps s0 bx A A := ⟨Below.refl _ _, fun _ e => e⟩
theorem Kps.b {s0 bx : Nat} {w : World} (hn : s0 ≤ w.heap.size) (W : World) (l : Nat) (o o' : Obj) (hl : w.heap.size ≤ l) (h : W.heap[l]? = some o) (hc : o.isCells = false) (hw : o.isWalk = false) : Kps s0 bx W (W.putObj l o') :=
  ⟨belowK_b hn W l o o' hl h hc hw, fun v e => cell_kept e (grownBy_putObj' W l o') (fun r e => by cases e; exact ⟨o, h, hc⟩)⟩

set_option maxHeartbeats 2000000 in
set_option maxRecDepth 100000 in
/-- The closure of slices.Backward. -/
theorem back1_in (F : Fence) (n : Nat) (h8 : F.fn 239) (hro : F.round = none) (hn : 1 ≤ n) (l Bs s0 : Nat) (A : Option Addr) (cap : Nat) (zs : List Nat) (hz : ∀ j, wd zs j < 1000000000) (hlen : zs.length ≤ 549755813888) (J Jx : List NW → World → Prop)
    (hY : ∀ pre x W, J pre W → pre.length < zs.length → YieldAt F (n - 1) Tryz.prog l #[.int .i64 (x.1.1 : Int), .int .u32 (x.1.2 : Int)] W fun e W' =>
      (e = .returned (.bool true) ∧ J (pre ++ [x]) W' ∧ Kps s0 Bs W W') ∨ (e = .returned (.bool false) ∧ Jx (pre ++ [x]) W'))
    (W : World) (hBs : W.cell? ⟨Bs, 0, none⟩ = some (.slice A zs.length cap)) (w0 : World) (hw0 : w0.heap.size = s0) (hEw : Below s0 w0 W) (hR : RdN w0 A zs) (h0 : J [] W) :
    CallsIn F n Tryz.prog 239 #[.func (.yield l) #[] #[], .pointer (some ⟨Bs, 0, none⟩)] W fun e W' => (∃ v, e = .returned v) ∧
      ((∃ ys, ys = downs zs zs.length ∧ J ys W') ∨ (∃ pre, True ∧ Jx pre W')) := by
  have HR := Lib.hid hR
  clear hR
  refine callsIn_of_wp Tryz.func239 rfl h8 ?_ hro
  simp only [Tryz.ntmps239, List.size_toArray, List.length_cons, List.length_nil, Nat.reduceAdd, Nat.reduceSub, Array.replicate_succ, Array.replicate_zero, List.push_toArray, List.append_toArray, List.nil_append, List.cons_append]
  gi_wp2
  gi_loopw [3] (fun i wr => ∃ (k : Nat) (z : Int), k ≤ zs.length ∧ i = .int .i64 z ∧ z = (zs.length : Int) - 1 - k ∧ J (downs zs k) wr ∧ Kps s0 Bs W wr)
    (fun i _ => (intOf i + 1).toNat)
  case atStart => exact ⟨0, _, Nat.zero_le _, rfl, by omega, h0, Kps.refl _ _ _⟩
  case round =>
    obtain ⟨k, z, hk, rfl, hz1, hJs, hnx⟩ := hrel
    have hbox := hnx.2 _ hBs
    by_cases hlt : k < zs.length
    · obtain ⟨m, rfl⟩ : ∃ m : Nat, z = m := ⟨z.toNat, by omega⟩
      have hm : m + k + 1 = zs.length := by omega
      have hE2 : Ext w0 wr := by unfold Ext; rw [hw0]; exact hEw.trans hnx.1
      obtain ⟨g, off, rfl, hg, hc⟩ := HR.out.ext hE2 m (by omega)
      have hwd : zs[m]'(by omega) = wd zs m := (wd_lt (by omega)).symm
      rw [hwd] at hc
      have hx := hz m
      generalize hgx : wd zs m = x at hc hx
      have hml : m < zs.length := by omega
      have hmb : m < 1099511627776 := by omega
      obtain ⟨fn, tmps, assign, body, hy, hR⟩ := hY _ ⟨(m, x), hmb, hx⟩ wr hJs (by rw [downs_length]; exact hlt)
      dsimp only at hy
      have HM := Lib.hid hm
      have HGX := Lib.hid hgx
      have HN := Lib.hid hnx
      clear hz1 hm hgx hwd hnx hE2
      gi_wp2
      refine hR.mono ?_
      rintro e W3 (⟨rfl, hJ3, hk3⟩ | ⟨rfl, hJx3⟩)
      · gi_wp2
        go_roundw
        case rel => exact ⟨k + 1, _, by omega, rfl, by have := HM.out; omega, by rw [downs_succ HM.out (by omega) (hz m)]; have := HGX.out; subst this; exact hJ3, HN.out.t hk3⟩
        case measure => simp [intOf]
      · gi_wp2
        refine bodyPost_ret (results_none rfl _ _ _) rfl ?_
        exact ⟨⟨_, rfl⟩, .inr ⟨_, trivial, hJx3⟩⟩
    · obtain rfl : k = zs.length := by omega
      obtain rfl : z = -1 := by omega
      gi_wp2
      go_end0
      exact ⟨⟨_, rfl⟩, .inl ⟨_, rfl, hJs⟩⟩

set_option maxHeartbeats 1000000 in
theorem backward_in (F : Fence) (n : Nat) (h5 : F.fn 222) (hro : F.round = none) (a : Option Addr) (len cap : Nat) (w : World) :
    CallsIn F n Tryz.prog 222 #[.slice a len cap] w fun e w' => e = .returned (.func (.func 239) #[] #[.pointer (some ⟨w.heap.size, 0, none⟩)]) ∧ w' = w.alloc (.cells #[.slice a len cap] 185) := by
  refine callsIn_of_wp Tryz.func222 rfl h5 ?_ hro
  simp only [Tryz.ntmps222, List.size_toArray, List.length_cons, List.length_nil, Nat.reduceAdd, Nat.reduceSub, Array.replicate_succ, Array.replicate_zero, List.push_toArray, List.append_toArray, List.nil_append, List.cons_append]
  gi_wp2
  go_ret
  exact ⟨rfl, rfl⟩

theorem back_stops (F : Fence) (n : Nat) (h8 : F.fn 239) (hro : F.round = none) (hn : 1 ≤ n) (Bs s0 : Nat) (A : Option Addr) (cap : Nat) (zs : List Nat) (hz : ∀ j, wd zs j < 1000000000) (hlen : zs.length ≤ 549755813888)
    (w0 w : World) (hw0 : w0.heap.size = s0) (hE : Below s0 w0 w) (hBs : Bs < w.heap.size) (hR : RdN w0 A zs) (hc : w.cell? ⟨Bs, 0, none⟩ = some (.slice A zs.length cap)) :
    SeqStopsK F n Tryz.prog 239 #[.pointer (some ⟨Bs, 0, none⟩)] (fun x : NW => #[Value.int .i64 (x.1.1 : Int), Value.int .u32 (x.1.2 : Int)]) (Kps s0 Bs) (fun ys => ys = downs zs zs.length)
      (fun pre => True) zs.length w := fun l J Jx W hW _ _ hY h0 =>
  back1_in F n h8 hro hn l Bs s0 A cap zs hz hlen J Jx hY W ((hW.cell (p := ⟨Bs, 0, none⟩) hBs).trans hc) w0 hw0 (hE.trans (hW.mono (by have := hE.size; omega))) hR h0
end Go.Proofs.YtbldlibijojbjaaGreatDoor.GB
