import Derived.Test.YtadimepmoljnpaaGreatDoorCDx
import Derived.Test.YtadimepmoljnpaaGreatDoorMFu
import Derived.Test.YtadimepmoljnpaaGreatDoorMNum
import Derived.Shelf.RegionOpenPlain
import Derived.Lib.Strings
import Derived.Lib.Slices
import Derived.Lib.Walk
import Derived.Lib.Builder
import Derived.Lib.AppendStr
import Derived.Lib.UnsafeStr
import Derived.Lib.MakeNoZero
import Derived.Laws.Externs
import Derived.Laws.IdiomCopy
import Derived.Laws.BitsLemmas
import Derived.RangeFuncOwn
import Derived.Lib.OthersKept
import Derived.Lib.BufferKept
import Derived.RangeFuncNested
import Derived.RangeFuncBound
import Derived.RangeFuncCalls
import Derived.RangeFuncLeaves
import Derived.RangeFuncFrom
import Derived.RangeFuncBox
import Derived.Shelf.Abstract
import Derived.Shelf.RegionOpen
import Derived.WalkKit
import Derived.OwnWalkIn
import Derived.TacticsInMore
import Derived.LoopNIn
import Derived.LoopIn
namespace Go.Proofs.YtadimepmoljnpaaGreatDoor.GB
set_option linter.unusedVariables false
set_option linter.unusedSimpArgs false
open Go.RowKit
attribute [local go_sem ↓] Go.wp_at_zero Go.wp_at_succ

/-- v is a number of the package's: the words of n. -/
def NumV (w : World) (v : Value) (n : Nat) : Prop := ∃ A c, v = .slice A (wds n).length c ∧ (wds n).length ≤ c ∧ c ≤ maxLen ∧ RdN w A (wds n)
theorem NumV.ext {w w' : World} {v : Value} {n : Nat} (h : NumV w v n) (hE : Ext w w') : NumV w' v n := by
  obtain ⟨A, c, h1, h2, h3, h4⟩ := h
  exact ⟨A, c, h1, h2, h3, h4.ext hE⟩
theorem NumV.of_own {w : World} {base : Nat} {v : Value} {n : Nat} {r : List Nat} (h : OwnN w base v r) (hr : r = wds n) : NumV w v n := by
  subst hr
  obtain ⟨A, c, rfl, h1, h2, h3, _⟩ := h.parts
  exact ⟨A, c, rfl, h1, h2, h3⟩
/-- The call hands back a number. -/
def RetV (w : World) (n : Nat) (e : Ending) (w' : World) : Prop := ∃ v, e = .returned v ∧ NumV w' v n ∧ Ext w w'
theorem RetN.v {w : World} {n : Nat} {e : Ending} {w' : World} (h : RetN w (fun r => r = wds n) e w') : RetV w n e w' := by
  obtain ⟨v, r, rfl, h1, h2, h3⟩ := h
  exact ⟨v, rfl, NumV.of_own h1 h2, h3⟩
/-- Two numbers. -/
def RetVV (w : World) (q r : Nat) (e : Ending) (w' : World) : Prop := ∃ v1 v2, e = .returned (.tuple #[v1, v2]) ∧ NumV w' v1 q ∧ NumV w' v2 r ∧ Ext w w'

theorem divide_v (v1 v2 : Value) (a b : Nat) (w : World) (hla : (wds a).length ≤ 549755813888) (hlb : (wds b).length ≤ 549755813888) (h1 : NumV w v1 a) (h2 : NumV w v2 b) (hb0 : 0 < b) :
    Calls Tryz.prog 217 #[v1, v2] w (RetVV w (a / b) (a % b)) := by
  obtain ⟨A, ca, rfl, hca, hcm, ha⟩ := h1
  obtain ⟨B, cb, rfl, hcb, hcm2, hb⟩ := h2
  have h : Calls Tryz.prog 217 #[.slice A (wds a).length ca, .slice B (wds b).length cb] w (RetRR w (a / b) (a % b)) := by
    rcases Nat.lt_or_ge a b with h | h
    · exact divide_less _ _ _ _ _ _ a b w rfl rfl (by omega) (by omega) hca hcm ha hb h
    · by_cases hs : a < 1000000000000000000
      · exact divide_small _ _ _ _ _ _ a b w rfl rfl (by omega) (by omega) ha hb h hb0 hs
      · by_cases h9 : b < 1000000000
        · have e : (wds b).length = 1 := by rw [wds_small (by omega) h9]; rfl
          rw [e]
          exact divide_one _ _ _ _ _ a b w rfl (by omega) ha hb h hb0 h9 (by omega)
        · refine divide_big _ _ _ _ _ _ a b w rfl rfl hla hlb ha hb h ?_ (by omega)
          rcases Nat.lt_or_ge (wds b).length 2 with h3 | h3
          · exfalso
            have h4 := wds_len_lt b
            have h5 : BB ^ (wds b).length ≤ BB ^ 1 := Nat.pow_le_pow_right BB_pos (by omega)
            rw [Nat.pow_one] at h5
            have h6 := BB_eq
            omega
          · exact h3
  refine h.mono ?_
  rintro e w' ⟨A1, c1, A2, c2, rfl, r1, l1, m1, r2, l2, m2, hE⟩
  exact ⟨_, _, rfl, ⟨A1, c1, rfl, l1, m1, r1⟩, ⟨A2, c2, rfl, l2, m2, r2⟩, hE⟩

theorem small_v (v : Value) (n : Nat) (w : World) (hla : (wds n).length ≤ 549755813888) (h : NumV w v n) : Calls Tryz.prog 215 #[v] w (SmallPost w n) := by
  obtain ⟨A, ca, rfl, hca, hcm, ha⟩ := h
  exact small_any A ca _ n w rfl (by omega) ha

theorem NumV.uniq {w : World} {v : Value} {n m : Nat} (h : NumV w v n) (k : NumV w v m) : n = m := by
  obtain ⟨A, c, rfl, _, _, h1⟩ := h
  obtain ⟨B, d, e, _, _, h2⟩ := k
  injection e with e1 e2 e3
  subst e1 e3
  apply wds_inj
  apply List.ext_getElem e2
  intro j hj hj2
  obtain ⟨b1, o1, q1, _, c1⟩ := h1 j hj
  obtain ⟨b2, o2, q2, _, c2⟩ := h2 j hj2
  rw [q1] at q2
  injection q2 with q2
  injection q2 with q3 q4
  subst q3 q4
  rw [c1] at c2
  injection c2 with c2
  injection c2 with _ c2
  omega
open Classical in
/-- The number that a value stands for. -/
noncomputable def numOf (w : World) (v : Value) : Nat := if h : ∃ n, NumV w v n then Classical.choose h else 0
theorem numOf_eq {w : World} {v : Value} {n : Nat} (h : NumV w v n) : numOf w v = n := by
  unfold numOf
  rw [dif_pos ⟨n, h⟩]
  exact (Classical.choose_spec (⟨n, h⟩ : ∃ n, NumV w v n)).uniq h
theorem divide_h (v1 v2 : Value) (a b : Nat) (w : World) (hla : (wds a).length ≤ 549755813888) (hlb : (wds b).length ≤ 549755813888) (h1 : Hid (NumV w v1 a)) (h2 : Hid (NumV w v2 b)) (hb0 : 0 < b) :
    Calls Tryz.prog 217 #[v1, v2] w (RetVV w (a / b) (a % b)) := divide_v v1 v2 a b w hla hlb h1.out h2.out hb0
/-- What small says of a number that is small, or is not. -/
theorem small_yes (v : Value) (n : Nat) (w : World) (hla : (wds n).length ≤ 549755813888) (h : Hid (NumV w v n)) (hs : Hid (n < 1000000000000000000)) :
    Calls Tryz.prog 215 #[v] w (fun e w' => e = .returned (.tuple #[.int .u64 (n : Int), .bool true]) ∧ Ext w w') :=
  (small_v v n w hla h.out).mono fun e w' h => ⟨h.1 hs.out, h.2.2⟩
theorem small_no (v : Value) (n : Nat) (w : World) (hla : (wds n).length ≤ 549755813888) (h : Hid (NumV w v n)) (hs : Hid (1000000000000000000 ≤ n)) :
    Calls Tryz.prog 215 #[v] w (fun e w' => e = .returned (.tuple #[.int .u64 0, .bool false]) ∧ Ext w w') :=
  (small_v v n w hla h.out).mono fun e w' h => ⟨h.2.1 hs.out, h.2.2⟩
theorem small_b (n : Nat) (hla : (wds n).length ≤ 549755813888) : ∃ (s : Int) (b : Bool), Hid (b = true → n < 1000000000000000000) ∧ ∀ v w, Hid (NumV w v n) → Calls Tryz.prog 215 #[v] w (fun e w' => e = .returned (.tuple #[.int .u64 s, .bool b]) ∧ Ext w w') := by
  by_cases h : n < 1000000000000000000
  · exact ⟨n, true, fun _ => h, fun v w hv => small_yes v n w hla hv h⟩
  · exact ⟨0, false, (by intro e; cases e), fun v w hv => small_no v n w hla hv (by unfold Hid; omega)⟩
theorem of_h (x : Nat) (w : World) (h : Hid (x < 1000000000000000000)) : Calls Tryz.prog 216 #[.int .u64 x] w (RetV w x) := (of_any x w h.out).mono fun e w' h => h.v
theorem vslice {w : World} {v : Value} {n : Nat} (h : NumV w v n) : ∃ A c, v = .slice A (wds n).length c := by
  obtain ⟨A, c, h, _⟩ := h; exact ⟨A, c, h⟩
theorem wds_pos_iff (n : Nat) : 0 < (wds n).length ↔ 0 < n := by
  constructor
  · intro h
    rcases Nat.eq_zero_or_pos n with e | e
    · rw [e, wds_zero] at h; simp at h
    · exact e
  · intro h; exact wds_len_pos (by omega)

set_option maxHeartbeats 1000000 in
set_option maxRecDepth 100000 in
theorem gcd_any (v1 v2 : Value) (a b : Nat) (w : World) (hla : (wds a).length ≤ 549755813888) (hlb : (wds b).length ≤ 549755813888) (h1 : NumV w v1 a) (h2 : NumV w v2 b) :
    Calls Tryz.prog 189 #[v1, v2] w (RetV w (Nat.gcd a b)) := by
  have H1 := Lib.hid h1
  have H2 := Lib.hid h2
  clear h1 h2
  go_enter Tryz.func189, Tryz.ntmps189
  go_wp2
  go_loopw [0, 1] (fun x y wr => ∃ (X Y : Nat), (wds X).length ≤ 549755813888 ∧ (wds Y).length ≤ 549755813888 ∧ Hid (NumV wr x X) ∧ Hid (NumV wr y Y) ∧ Hid (Nat.gcd X Y = Nat.gcd a b) ∧ Hid (Ext w wr)) (fun x y wr => numOf wr y)
  case atStart => exact ⟨a, b, hla, hlb, H1, H2, rfl, Ext.rfl' w⟩
  case round =>
    obtain ⟨X, Y, hX, hY, HX, HY, HG, HE⟩ := hrel
    obtain ⟨A, ca, rfl⟩ := vslice HX.out
    obtain ⟨B, cb, rfl⟩ := vslice HY.out
    by_cases h0 : 0 < (wds Y).length
    · have hY0 : 0 < Y := (wds_pos_iff Y).1 h0
      by_cases hb : X < 1000000000000000000 ∧ Y < 1000000000000000000
      · have S1 := Lib.hid hb.1
        have S2 := Lib.hid hb.2
        clear hb hY0
        go_wp2_with fail
        refine (small_yes _ X _ hX HX S1).mono ?_
        rintro e w1 ⟨rfl, hE1⟩
        have E1 := Lib.hid (HE.out.tr hE1)
        have HY1 := Lib.hid (HY.out.ext hE1)
        clear hE1
        go_wp2_with fail
        refine (small_yes _ Y _ hY HY1 S2).mono ?_
        rintro e w2 ⟨rfl, hE2⟩
        have E2 := Lib.hid (E1.out.tr hE2)
        clear hE2
        go_wp2_with fail
        go_loopw [5, 7] (fun x y wq => ∃ (P Q : Nat), x = .int .u64 P ∧ y = .int .u64 Q ∧ Hid (P < 1000000000000000000) ∧ Hid (Q < 1000000000000000000) ∧ Hid (Nat.gcd P Q = Nat.gcd a b) ∧ Hid (Ext w wq)) (fun x y _ => (intOf y).toNat)
        case atStart => exact ⟨X, Y, rfl, rfl, S1, S2, HG, E2⟩
        case round =>
          obtain ⟨P, Q, rfl, rfl, HP, HQ, HPQ, EQ⟩ := hrel
          by_cases hq : 0 < Q
          · have hr1 : (P : Int).tmod (Q : Int) = ((P % Q : Nat) : Int) := by rw [Int.tmod_eq_emod_of_nonneg (by omega)]; exact (Int.natCast_emod P Q).symm
            have hr2 : (P : Int) % (Q : Int) = ((P % Q : Nat) : Int) := (Int.natCast_emod P Q).symm
            have hlt : P % Q < Q := Nat.mod_lt P hq
            have HR : Hid (P % Q < 1000000000000000000) := Nat.lt_trans hlt HQ.out
            have hb1 : ¬ ((Q : Int) = 0) := by omega
            have HG2 : Hid (Nat.gcd Q (P % Q) = Nat.gcd a b) := by
              unfold Hid; rw [← HPQ.out, Nat.gcd_comm P Q, Nat.gcd_rec Q P, Nat.gcd_comm]
            generalize P % Q = R at hr1 hr2 hlt HR HG2
            go_wp2_with fail
            go_quiet (fail)
            go_wp2
            go_roundw
            case rel => exact ⟨Q, R, rfl, rfl, HQ, HR, HG2, EQ.out.drN _⟩
            case measure => simp [intOf]; omega
          · go_wp2_with fail
            refine (of_h P _ HP).mono ?_
            rintro e w3 ⟨v, rfl, hV, hE3⟩
            go_wp2_with fail
            go_ret
            refine ⟨_, rfl, ?_, EQ.out.tr hE3⟩
            have : Q = 0 := by omega
            subst this
            rw [← HPQ.out, Nat.gcd_zero_right]
            exact hV
      · obtain ⟨s1, b1, B1, S1⟩ := small_b X hX
        obtain ⟨s2, b2, B2, S2⟩ := small_b Y hY
        have hR1 : (wds (X % Y)).length ≤ 549755813888 := Nat.le_trans (wds_mono (Nat.le_of_lt (Nat.mod_lt X hY0))) hY
        have HG2 : Hid (Nat.gcd Y (X % Y) = Nat.gcd a b) := by
          unfold Hid; rw [← HG.out, Nat.gcd_comm X Y, Nat.gcd_rec Y X, Nat.gcd_comm]
        have hb2 : b1 = true → b2 = false := by
          intro e1
          rcases Bool.eq_false_or_eq_true b2 with e2 | e2
          · exact absurd ⟨B1.out e1, B2.out e2⟩ hb
          · exact e2
        have hlt : X % Y < Y := Nat.mod_lt X hY0
        clear hb B1 B2
        cases b1
        all_goals
          try (obtain rfl := hb2 rfl)
          clear hb2
          go_wp2_with fail
          refine (S1 _ _ HX).mono ?_
          rintro e w1 ⟨rfl, hE1⟩
          have E1 := Lib.hid (HE.out.tr hE1)
          have HX1 := Lib.hid (HX.out.ext hE1)
          have HY1 := Lib.hid (HY.out.ext hE1)
          clear hE1
          go_wp2_with fail
          refine (S2 _ _ HY1).mono ?_
          rintro e w2 ⟨rfl, hE2⟩
          have E2 := Lib.hid (E1.out.tr hE2)
          have HX2 := Lib.hid (HX1.out.ext hE2)
          have HY2 := Lib.hid (HY1.out.ext hE2)
          clear hE2
          go_wp2_with fail
          refine (divide_h _ _ X Y _ hX hY HX2 HY2 hY0).mono ?_
          rintro e w3 ⟨q, r, rfl, hq, hr, hE3⟩
          have E3 := Lib.hid (E2.out.tr hE3)
          have HR3 := Lib.hid hr
          have HY3 := Lib.hid (HY2.out.ext hE3)
          clear hE3 hq hr
          go_wp2_with fail
          have hm1 : numOf wr (.slice B (wds Y).length cb) = Y := numOf_eq HY.out
          have hm2 : numOf w3 r = X % Y := numOf_eq HR3.out
          have HM1 := Lib.hid hm1
          have HM2 := Lib.hid hm2
          clear hm1 hm2
          go_roundw
          case rel => exact ⟨Y, X % Y, hY, hR1, HY3, HR3, HG2, E3⟩
          case measure => show numOf w3 r < numOf wr (.slice B (wds Y).length cb); rw [HM1.out, HM2.out]; exact hlt
    · go_wp2_with fail
      go_ret
      refine ⟨_, rfl, ?_, HE.out⟩
      have : Y = 0 := by rcases Nat.eq_zero_or_pos Y with e | e
                         · exact e
                         · exact absurd ((wds_pos_iff Y).2 e) h0
      subst this
      rw [← HG.out, Nat.gcd_zero_right]
      exact HX.out
end Go.Proofs.YtadimepmoljnpaaGreatDoor.GB

namespace Go.Proofs.YtadimepmoljnpaaGreatDoor.GB
set_option linter.unusedVariables false
set_option linter.unusedSimpArgs false
open Go.RowKit
attribute [local go_sem ↓] Go.wp_at_zero Go.wp_at_succ
end Go.Proofs.YtadimepmoljnpaaGreatDoor.GB

namespace Go.Proofs.YtadimepmoljnpaaGreatDoor.GB
set_option linter.unusedVariables false
set_option linter.unusedSimpArgs false
open Go.RowKit Lib
attribute [local go_sem ↓] Go.wp_at_zero Go.wp_at_succ
end Go.Proofs.YtadimepmoljnpaaGreatDoor.GB

namespace Go.Proofs.YtadimepmoljnpaaGreatDoor.GB
set_option linter.unusedVariables false
set_option linter.unusedSimpArgs false
open Go.RowKit

theorem szBuilder : (Tryz.prog.info? 259).map (·.size) = some 2 := by kernel_rfl
theorem liesBuilder : liesAt Tryz.prog Tryz.prog.depth 259 (2 / Tryz.prog.cellsOf 259) 0 259 1 = true := by kernel_rfl
theorem infoU8 : (Tryz.prog.info? 5).map (fun i => (i.zero, i.size, i.bytes)) = some (some (.int .u8 0), 1, 1) := by kernel_rfl

set_option maxHeartbeats 1000000 in
set_option maxRecDepth 100000 in
theorem copyCheck_used (b : Nat) (w : World) (h0 : w.cell? ⟨b, 0, none⟩ = some (.pointer (some ⟨b, 0, none⟩))) :
    Calls Tryz.prog 260 #[.pointer (some ⟨b, 0, none⟩)] w fun e w' => e = .returned (.tuple #[]) ∧ w' = w := by
  obtain ⟨j, hj, _⟩ := Option.map_eq_some_iff.1 szBuilder
  go_enter Tryz.func260, Tryz.ntmps260
  go_wp2
  rw [Lib.run_neq_ptr_same w _ Tryz.underlying257 hj]
  go_wp2
  go_end0
  exact ⟨rfl, rfl⟩

set_option maxHeartbeats 1000000 in
set_option maxRecDepth 100000 in
theorem copyCheck_fresh (b : Nat) (w : World) (h0 : w.cell? ⟨b, 0, none⟩ = some (.pointer none)) (hsh : w.shape? b = some (259, 2)) (hfz : w.frozen? ⟨b, 0, none⟩ = false) :
    Calls Tryz.prog 260 #[.pointer (some ⟨b, 0, none⟩)] w fun e w' => e = .returned (.tuple #[]) ∧ w' = w.setCell ⟨b, 0, none⟩ (.pointer (some ⟨b, 0, none⟩)) := by
  obtain ⟨j, hj, hjs⟩ := Option.map_eq_some_iff.1 szBuilder
  go_enter Tryz.func260, Tryz.ntmps260
  go_wp2
  rw [Lib.run_to_unsafe w ⟨b, 0, none⟩ Tryz.underlying257 Tryz.underlying293 hj (by rw [hjs]; decide) hsh (Nat.zero_lt_succ 1)]
  simp only [Result.andThen]
  rw [Oper.upon_value]
  go_wp2
  rw [run_callFunc_extern Tryz.func277 (by kernel_rfl) (by kernel_rfl) (by kernel_rfl) (e := Extern.AbiNoEscape.same) (by kernel_rfl)]
  rw [Lib.run_noEscape]
  simp only [Result.andThen]
  rw [Oper.upon_value]
  go_wp2
  rw [Lib.run_from_unsafe w ⟨b, 0, none⟩ Tryz.underlying293 Tryz.underlying257 hj hsh liesBuilder]
  simp only [Result.andThen]
  rw [Oper.upon_value]
  go_wp2
  go_end0
  exact ⟨rfl, rfl⟩

theorem copyCheck_any (B b : Nat) (bs : List Value) (w : World) (h : Lib.IsBuilder 259 5 B b bs w) :
    Calls Tryz.prog 260 #[.pointer (some ⟨b, 0, none⟩)] w fun e w' => e = .returned (.tuple #[]) ∧ (Lib.BuilderAt 259 5 B b (.pointer (some ⟨b, 0, none⟩)) bs w' ∧ Below B w w' ∧ Lib.OthersKept 5 (some b) w w') := by
  rcases h with h | h
  · refine (copyCheck_fresh b w h.cell0 h.shape h.frozen0).mono ?_
    rintro e w' ⟨rfl, rfl⟩
    exact ⟨rfl, h.used _, (Below.refl B w).setCell (p := ⟨b, 0, none⟩) h.1 _, (Lib.OthersKept.refl _ (some b) w).setCell ⟨b, 0, none⟩ rfl _⟩
  · refine (copyCheck_used b w h.cell0).mono ?_
    rintro e w' ⟨rfl, rfl⟩
    exact ⟨rfl, h, Below.refl B _, Lib.OthersKept.refl _ _ _⟩

set_option maxHeartbeats 2000000 in
set_option maxRecDepth 100000 in
theorem writeString_any (B b : Nat) (bs : List Value) (s : ByteArray) (w : World) (h : Lib.IsBuilder 259 5 B b bs w) (hlen : bs.length + s.size ≤ 140737488355328) (hBw : B ≤ w.heap.size) :
    Calls Tryz.prog 240 #[.pointer (some ⟨b, 0, none⟩), .string s] w fun e w' => e = .returned (.tuple #[.int .i64 s.size, .nilIface]) ∧ (Lib.BuilderAt 259 5 B b (.pointer (some ⟨b, 0, none⟩)) (bs ++ Lib.strCells s) w' ∧ Below B w w' ∧ Lib.OthersKept 5 (some b) w w') := by
  obtain ⟨i0, hi, hz0, hz1, hz2⟩ := info_parts infoU8
  go_enter Tryz.func240, Tryz.ntmps240
  go_wp2_with (go_at_call 260; refine (copyCheck_any B b bs _ h).mono ?_)
  rintro e w1 ⟨rfl, h1, hb1, hk1⟩
  obtain ⟨hB, v, hbk, hown, hne⟩ := h1
  have c0 : w1.cell? ⟨b, 0, none⟩ = some (.pointer (some ⟨b, 0, none⟩)) := by rw [Lib.cell_of_heap hbk]; rfl
  have c1 : w1.cell? ⟨b, 1, none⟩ = some v := by rw [Lib.cell_of_heap hbk]; rfl
  go_wp2_with (at_builtin; refine Lib.wpList_append_own_string _ rfl _ _ 202 9 rfl B 5 i0 Tryz.underlying202 Tryz.underlying9 hi hz0 hz1 hz2 _ _ _ rfl hown s rfl ?c3 ?c4 ?c5 ?_)
  case c3 => unfold maxLen; omega
  case c4 => omega
  case c5 => have := hb1.size; omega
  intro v' w2 hown' hgrow _
  have hlt : b < w1.heap.size := by
    rcases Nat.lt_or_ge b w1.heap.size with h' | h'
    · exact h'
    · simp [Array.getElem?_eq_none h'] at hbk
  have hb2 : w2.heap[b]? = some (.cells #[.pointer (some ⟨b, 0, none⟩), v] 259 (0, 0)) := by
    rw [hgrow.block b hlt (fun e => hne e.symm)]
    exact hbk
  have d0 : w2.cell? ⟨b, 0, none⟩ = some (.pointer (some ⟨b, 0, none⟩)) := by rw [Lib.cell_of_heap hb2]; rfl
  have d1 : w2.cell? ⟨b, 1, none⟩ = some v := by rw [Lib.cell_of_heap hb2]; rfl
  have f1 : w2.frozen? ⟨b, 1, none⟩ = false := Lib.frozen_of_heap hb2 1
  obtain ⟨ao, n', cap, rfl⟩ : ∃ ao n' cap, v' = .slice ao n' cap := by
    rcases hown'.2 with ⟨hv, _⟩ | ⟨g, cap, cur, hv, _⟩
    · exact ⟨_, _, _, hv⟩
    · exact ⟨_, _, _, hv⟩
  go_wp2
  go_ret2
  refine ⟨rfl, ?_, ?_, ?_⟩
  · exact Lib.BuilderAt.put (T := 259) (e := 5) hB hb2 (bs' := bs ++ Lib.strCells s) (by simpa [Lib.strCells_length] using hown') (by decide)
  · exact (hb1.grown hgrow (by have := hb1.size; omega) (fun k hk => (hown.lt k hk).1)).setCell (p := ⟨b, 1, none⟩) hB _
  · refine (hk1.grown hgrow ?_).setCell ⟨b, 1, none⟩ rfl _
    intro j hj
    rcases hown.2 with ⟨hv, _⟩ | ⟨g, cap, cur, hv, hg, hh, _⟩
    · rw [hv] at hj; cases hj
    · rw [hv] at hj; cases hj; exact ⟨_, _, hh⟩
/-- The builder's frame keeps whatever is no cells. -/
theorem others_keeps {b : Nat} {w w' : World} (h : Lib.OthersKept 5 (some b) w w') (hs : w.heap.size ≤ w'.heap.size) {cs : Array Value} {T : TypeId} {fz : Nat × Nat} (hb : w.heap[b]? = some (.cells cs T fz)) : KeepsOthers w w' :=
  ⟨hs, fun k o hk ho => h k o hk (fun e => by cases e; rw [hb] at hk; cases hk; simp [Obj.isCells] at ho) (fun c fz e => by subst e; simp [Obj.isCells] at ho)⟩
end Go.Proofs.YtadimepmoljnpaaGreatDoor.GB

namespace Go.Proofs.YtadimepmoljnpaaGreatDoor.GB
set_option linter.unusedVariables false
set_option linter.unusedSimpArgs false
open Go.RowKit Go.Shelf
attribute [local go_sem] Oper.semAt_some

/-- A place and its word. -/
abbrev NW := { x : Nat × Nat // x.1 < 1099511627776 ∧ x.2 < 1000000000 }
/-- The text that a word adds: padded but for the first word. -/
def piece (len : Nat) (x : NW) : List UInt8 := if x.1.1 + 1 < len then pad9 x.1.2 else Lib.decDigits x.1.2
def textOf (len : Nat) (pre : List NW) : List UInt8 := pre.flatMap (piece len)
theorem textOf_snoc (len : Nat) (pre : List NW) (x : NW) : textOf len (pre ++ [x]) = textOf len pre ++ piece len x := by simp [textOf]
theorem piece_len (len : Nat) (x : NW) : (piece len x).length ≤ 9 := by
  have h : x.1.2 < BB := x.2.2
  unfold piece
  split
  · rw [pad9_len h]; exact Nat.le_refl _
  · exact dec_len9 h
theorem textOf_len (len : Nat) (pre : List NW) : (textOf len pre).length ≤ 9 * pre.length := by
  induction pre with
  | nil => exact Nat.le_refl _
  | cons x pre ih =>
    have := piece_len len x
    simp only [textOf, List.flatMap_cons, List.length_append, List.length_cons] at ih ⊢
    omega
/-- The words of l, the last first. -/
def downs (l : List Nat) (k : Nat) : List NW := (List.range k).map fun j => if h : l.length - 1 - j < 1099511627776 ∧ wd l (l.length - 1 - j) < 1000000000 then ⟨(l.length - 1 - j, wd l (l.length - 1 - j)), h⟩ else ⟨(0, 0), by decide⟩
theorem downs_succ {l : List Nat} {k m : Nat} (hm : m + k + 1 = l.length) (h1 : m < 1099511627776) (h2 : wd l m < 1000000000) : downs l (k + 1) = downs l k ++ [⟨(m, wd l m), h1, h2⟩] := by
  have e : l.length - 1 - k = m := by omega
  simp only [downs, List.range_succ, List.map_append, List.map_cons, List.map_nil]
  congr 2
  simp only [e]
  rw [dif_pos ⟨h1, h2⟩]
theorem downs_length (l : List Nat) (k : Nat) : (downs l k).length = k := by simp [downs]
theorem wd_wds (m : Nat) : ∀ n, wd (wds n) m = n / BB ^ m % BB := by
  induction m with
  | zero => intro n; rcases Nat.eq_zero_or_pos n with e | e
            · rw [e, wds_zero]; simp [wd]
            · rw [wds_pos (by omega)]; simp [wd]
  | succ m ih =>
    intro n
    rcases Nat.eq_zero_or_pos n with e | e
    · rw [e, wds_zero, Nat.zero_div, Nat.zero_mod]; simp [wd]
    · rw [wds_pos (by omega)]
      have : wd (n % BB :: wds (n / BB)) (m + 1) = wd (wds (n / BB)) m := by simp [wd]
      rw [this, ih, Nat.div_div_eq_div_mul, Nat.pow_succ, Nat.mul_comm]
theorem nine9 : BB = 1000000000 := rfl
theorem wd_wds_lt (n m : Nat) : wd (wds n) m < 1000000000 := by
  rw [wd_wds, ← nine9]; exact Nat.mod_lt _ BB_pos
theorem downs_text (n : Nat) (hl : (wds n).length ≤ 549755813888) (h0 : n ≠ 0) : ∀ k, k < (wds n).length → textOf (wds n).length (downs (wds n) (k + 1)) = Lib.decDigits (n / BB ^ ((wds n).length - (k + 1))) := by
  intro k
  induction k with
  | zero =>
    intro hk
    obtain ⟨m, hm⟩ : ∃ m, m + 0 + 1 = (wds n).length := ⟨(wds n).length - 1, by omega⟩
    rw [downs_succ (k := 0) (m := m) (l := wds n) hm (by omega) (wd_wds_lt n m)]
    have e : (wds n).length - (0 + 1) = m := by omega
    rw [e]
    have h1 := wds_len_lt n
    have hq : n / BB ^ m < BB := by rw [Nat.div_lt_iff_lt_mul (Nat.pow_pos BB_pos), Nat.mul_comm, ← Nat.pow_succ]; rw [← hm] at h1; exact h1
    simp only [downs, List.range_zero, List.map_nil, List.nil_append, textOf, List.flatMap_cons, List.flatMap_nil, List.append_nil, piece]
    rw [if_neg (by omega), wd_wds, Nat.mod_eq_of_lt hq]
  | succ k ih =>
    intro hk
    obtain ⟨m, hm⟩ : ∃ m, m + (k + 1) + 1 = (wds n).length := ⟨(wds n).length - (k + 2), by omega⟩
    rw [downs_succ hm (by omega) (wd_wds_lt n m), textOf_snoc, ih (by omega)]
    have e1 : (wds n).length - (k + 1 + 1) = m := by omega
    have e2 : (wds n).length - (k + 1) = m + 1 := by omega
    rw [e1, e2]
    have h1 := wds_len_ge h0
    have hq : BB ≤ n / BB ^ m := by
      rw [Nat.le_div_iff_mul_le (Nat.pow_pos BB_pos), Nat.mul_comm, ← Nat.pow_succ]
      exact Nat.le_trans (Nat.pow_le_pow_right BB_pos (by omega)) h1
    rw [dec_words hq, Nat.div_div_eq_div_mul, ← Nat.pow_succ]
    congr 1
    unfold piece
    rw [if_pos (by show m + 1 < _; omega)]
    show pad9 (wd (wds n) m) = _
    rw [wd_wds]
theorem downs_all (n : Nat) (hl : (wds n).length ≤ 549755813888) (h0 : n ≠ 0) : textOf (wds n).length (downs (wds n) (wds n).length) = Lib.decDigits n := by
  have hp := wds_len_pos h0
  obtain ⟨k, hk⟩ : ∃ k, (wds n).length = k + 1 := ⟨(wds n).length - 1, by omega⟩
  have h := downs_text n hl h0 k (by omega)
  rw [← hk, Nat.sub_self, Nat.pow_zero, Nat.div_one] at h
  exact h

/-- What the body of a loop over a slice's words keeps: what lay below s0, and the box. -/
def Kps (s0 bx : Nat) (W W' : World) : Prop := Below s0 W W' ∧ ∀ v, W.cell? ⟨bx, 0, none⟩ = some v → W'.cell? ⟨bx, 0, none⟩ = some v
theorem Kps.t {s0 bx : Nat} {A B C : World} (h : Kps s0 bx A B) (k : Kps s0 bx B C) : Kps s0 bx A C := ⟨h.1.trans k.1, fun v e => k.2 v (h.2 v e)⟩
theorem Kps.refl (s0 bx : Nat) (A : World) : Kps s0 bx A A := ⟨Below.refl _ _, fun _ e => e⟩
theorem Kps.b {s0 bx : Nat} {w : World} (hn : s0 ≤ w.heap.size) (W : World) (l : Nat) (o o' : Obj) (hl : w.heap.size ≤ l) (h : W.heap[l]? = some o) (hc : o.isCells = false) (hw : o.isWalk = false) : Kps s0 bx W (W.putObj l o') :=
  ⟨belowK_b hn W l o o' hl h hc hw, fun v e => cell_kept e (grownBy_putObj' W l o') (fun r e => by cases e; exact ⟨o, h, hc⟩)⟩

set_option maxHeartbeats 2000000 in
set_option maxRecDepth 100000 in
/-- The closure of slices.Backward. -/
theorem back1_in (F : Fence) (n : Nat) (h8 : F.fn 258) (hro : F.round = none) (hn : 1 ≤ n) (l Bs s0 : Nat) (A : Option Addr) (cap : Nat) (zs : List Nat) (hz : ∀ j, wd zs j < 1000000000) (hlen : zs.length ≤ 549755813888) (J Jx : List NW → World → Prop)
    (hY : ∀ pre x W, J pre W → pre.length < zs.length → YieldAt F (n - 1) Tryz.prog l #[.int .i64 (x.1.1 : Int), .int .u32 (x.1.2 : Int)] W fun e W' =>
      (e = .returned (.bool true) ∧ J (pre ++ [x]) W' ∧ Kps s0 Bs W W') ∨ (e = .returned (.bool false) ∧ Jx (pre ++ [x]) W'))
    (W : World) (hBs : W.cell? ⟨Bs, 0, none⟩ = some (.slice A zs.length cap)) (w0 : World) (hw0 : w0.heap.size = s0) (hEw : Below s0 w0 W) (hR : RdN w0 A zs) (h0 : J [] W) :
    CallsIn F n Tryz.prog 258 #[.func (.yield l) #[] #[], .pointer (some ⟨Bs, 0, none⟩)] W fun e W' => (∃ v, e = .returned v) ∧
      ((∃ ys, ys = downs zs zs.length ∧ J ys W') ∨ (∃ pre, True ∧ Jx pre W')) := by
  have HR := Lib.hid hR
  clear hR
  refine callsIn_of_wp Tryz.func258 rfl h8 ?_ hro
  simp only [Tryz.ntmps258, List.size_toArray, List.length_cons, List.length_nil, Nat.reduceAdd, Nat.reduceSub, Array.replicate_succ, Array.replicate_zero, List.push_toArray, List.append_toArray, List.nil_append, List.cons_append]
  gi_wp2
  gi_loopw [3] (fun i wr => ∃ (k : Nat) (z : Int), k ≤ zs.length ∧ i = .int .i64 z ∧ z = (zs.length : Int) - 1 - k ∧ J (downs zs k) wr ∧ Kps s0 Bs W wr)
    (fun i _ => (intOf i + 1).toNat)
  case atStart => exact ⟨0, _, Nat.zero_le _, rfl, by omega, h0, Kps.refl _ _ _⟩
  case round =>
    obtain ⟨k, z, hk, rfl, hz1, hJs, hnx⟩ := hrel
    have hbox := hnx.2 _ hBs
    by_cases hlt : k < zs.length
    · obtain ⟨m, rfl⟩ : ∃ m : Nat, z = m := ⟨z.toNat, by omega⟩
      have hm : m + k + 1 = zs.length := by omega
      have hE2 : Ext w0 wr := by unfold Ext; rw [hw0]; exact hEw.trans hnx.1
      obtain ⟨g, off, rfl, hg, hc⟩ := HR.out.ext hE2 m (by omega)
      have hwd : zs[m]'(by omega) = wd zs m := (wd_lt (by omega)).symm
      rw [hwd] at hc
      have hx := hz m
      generalize hgx : wd zs m = x at hc hx
      have hml : m < zs.length := by omega
      have hmb : m < 1099511627776 := by omega
      obtain ⟨fn, tmps, assign, body, hy, hR⟩ := hY _ ⟨(m, x), hmb, hx⟩ wr hJs (by rw [downs_length]; exact hlt)
      dsimp only at hy
      have HM := Lib.hid hm
      have HGX := Lib.hid hgx
      have HN := Lib.hid hnx
      clear hz1 hm hgx hwd hnx hE2
      gi_wp2
      refine hR.mono ?_
      rintro e W3 (⟨rfl, hJ3, hk3⟩ | ⟨rfl, hJx3⟩)
      · gi_wp2
        go_roundw
        case rel => exact ⟨k + 1, _, by omega, rfl, by have := HM.out; omega, by rw [downs_succ HM.out (by omega) (hz m)]; have := HGX.out; subst this; exact hJ3, HN.out.t hk3⟩
        case measure => simp [intOf]
      · gi_wp2
        refine bodyPost_ret (results_none rfl _ _ _) rfl ?_
        exact ⟨⟨_, rfl⟩, .inr ⟨_, trivial, hJx3⟩⟩
    · obtain rfl : k = zs.length := by omega
      obtain rfl : z = -1 := by omega
      gi_wp2
      go_end0
      exact ⟨⟨_, rfl⟩, .inl ⟨_, rfl, hJs⟩⟩

set_option maxHeartbeats 1000000 in
theorem backward_in (F : Fence) (n : Nat) (h5 : F.fn 238) (hro : F.round = none) (a : Option Addr) (len cap : Nat) (w : World) :
    CallsIn F n Tryz.prog 238 #[.slice a len cap] w fun e w' => e = .returned (.func (.func 258) #[] #[.pointer (some ⟨w.heap.size, 0, none⟩)]) ∧ w' = w.alloc (.cells #[.slice a len cap] 214) := by
  refine callsIn_of_wp Tryz.func238 rfl h5 ?_ hro
  simp only [Tryz.ntmps238, List.size_toArray, List.length_cons, List.length_nil, Nat.reduceAdd, Nat.reduceSub, Array.replicate_succ, Array.replicate_zero, List.push_toArray, List.append_toArray, List.nil_append, List.cons_append]
  gi_wp2
  go_ret
  exact ⟨rfl, rfl⟩

theorem back_stops (F : Fence) (n : Nat) (h8 : F.fn 258) (hro : F.round = none) (hn : 1 ≤ n) (Bs s0 : Nat) (A : Option Addr) (cap : Nat) (zs : List Nat) (hz : ∀ j, wd zs j < 1000000000) (hlen : zs.length ≤ 549755813888)
    (w0 w : World) (hw0 : w0.heap.size = s0) (hE : Below s0 w0 w) (hBs : Bs < w.heap.size) (hR : RdN w0 A zs) (hc : w.cell? ⟨Bs, 0, none⟩ = some (.slice A zs.length cap)) :
    SeqStopsK F n Tryz.prog 258 #[.pointer (some ⟨Bs, 0, none⟩)] (fun x : NW => #[Value.int .i64 (x.1.1 : Int), Value.int .u32 (x.1.2 : Int)]) (Kps s0 Bs) (fun ys => ys = downs zs zs.length)
      (fun pre => True) zs.length w := fun l J Jx W hW _ _ hY h0 =>
  back1_in F n h8 hro hn l Bs s0 A cap zs hz hlen J Jx hY W ((hW.cell (p := ⟨Bs, 0, none⟩) hBs).trans hc) w0 hw0 (hE.trans (hW.mono (by have := hE.size; omega))) hR h0
end Go.Proofs.YtadimepmoljnpaaGreatDoor.GB

namespace Go.Proofs.YtadimepmoljnpaaGreatDoor.GB
set_option linter.unusedVariables false
set_option linter.unusedSimpArgs false
open Go.RowKit Go.Shelf
attribute [local go_sem] Oper.semAt_some

theorem builder_kept {T e : TypeId} {B b : Nat} {bs : List Value} {W W' : World} {row : Option Nat} (h : Lib.IsBuilder T e B b bs W) (hg : W.grownBy W' row) (hrow : ∀ r, row = some r → ∃ o : Obj, W.heap[r]? = some o ∧ o.isCells = false) : Lib.IsBuilder T e B b bs W' := by
  have key : ∀ p, Lib.BuilderAt T e B b p bs W → Lib.BuilderAt T e B b p bs W' := by
    rintro p ⟨h1, v, h2, h3, h4⟩
    refine ⟨h1, v, (grownBy_keeps_cells hg hrow h2 rfl).trans h2, h3.kept hg ?_, h4⟩
    rcases h3.2 with ⟨hv, _⟩ | ⟨g, cap, cur, hv, hgb, hh, _⟩
    · left; rw [hv]; rfl
    · right; rw [hv]; intro e
      obtain ⟨o, ho, hc⟩ := hrow g e.symm
      rw [hh] at ho; cases ho; simp [Obj.isCells] at hc
  exact h.imp (key _) (key _)
theorem ext_grown {W W' : World} (hb : Ext W W') : W.grownBy W' none := ⟨hb.os, hb.tape, hb.output, hb.size, fun i hi _ => hb.block i hi⟩
theorem builder_ext {T e : TypeId} {B b : Nat} {bs : List Value} {W W' : World} (h : Lib.IsBuilder T e B b bs W) (hb : Ext W W') : Lib.IsBuilder T e B b bs W' := builder_kept h (ext_grown hb) (fun r e => by cases e)
theorem builder_cells {T e : TypeId} {B b : Nat} {bs : List Value} {W : World} (h : Lib.IsBuilder T e B b bs W) : ∃ cs, W.heap[b]? = some (.cells cs T (0, 0)) := by
  rcases h with ⟨_, v, h, _⟩ | ⟨_, v, h, _⟩ <;> exact ⟨_, h⟩
/-- What the builder at b leaves as it was. -/
def BK (b : Nat) (W W' : World) : Prop := Below b W W' ∧ Lib.OthersKept 5 (some b) W W'
theorem BK.tr {b : Nat} {A B C : World} (h : BK b A B) (k : BK b B C) : BK b A C := ⟨h.1.trans k.1, h.2.trans k.2⟩
theorem BK.ext {b : Nat} {W W' : World} (h : Ext W W') (hb : b ≤ W.heap.size) : BK b W W' := ⟨h.mono hb, (Lib.OthersKept.refl _ _ _).below h⟩
theorem BK.far {b k : Nat} {W W' : World} (h : BK b W W') {cs : Array Value} {T : TypeId} {fz : Nat × Nat} (hk : W.heap[k]? = some (.cells cs T fz)) (hb : k ≠ b) (hT : T ≠ 5) : W'.heap[k]? = some (.cells cs T fz) :=
  h.2 k _ hk (fun e => hb (Option.some.inj e)) (fun c fz e => hT (by cases e; rfl))
theorem str_cells (l : List UInt8) (t : List UInt8) : Lib.byteCells l ++ Lib.strCells ⟨t.toArray⟩ = Lib.byteCells (l ++ t) := by
  simp [Lib.byteCells, Lib.strCells]
theorem size_mk (t : List UInt8) : (⟨t.toArray⟩ : ByteArray).size = t.length := by simp [ByteArray.size]
/-- Writing a text into the builder. -/
theorem write_h (b : Nat) (l t : List UInt8) (w : World) (h : Hid (Lib.IsBuilder 259 5 b b (Lib.byteCells l) w)) (hlen : Hid (l.length + t.length ≤ 140737488355328)) :
    Calls Tryz.prog 240 #[.pointer (some ⟨b, 0, none⟩), .string ⟨t.toArray⟩] w fun e w' => e = .returned (.tuple #[.int .i64 t.length, .nilIface]) ∧ (Lib.IsBuilder 259 5 b b (Lib.byteCells (l ++ t)) w' ∧ BK b w w') := by
  obtain ⟨cs, hc⟩ := builder_cells h.out
  have hb : b ≤ w.heap.size := Nat.le_of_lt (Array.getElem?_eq_some_iff.1 hc).1
  refine (writeString_any b b _ ⟨t.toArray⟩ w h.out (by rw [Lib.byteCells_length, size_mk]; exact hlen.out) hb).mono ?_
  rintro e w' ⟨rfl, h1, h2, h3⟩
  rw [str_cells] at h1
  exact ⟨by rw [size_mk], .inr h1, h2, h3⟩
theorem repeat0 (k : Nat) : Lib.repeatL [48] k = List.replicate k 48 := by
  induction k with
  | zero => rfl
  | succ k ih => rw [Lib.repeatL, ih, List.replicate_succ]; rfl
theorem pads_h (k : Nat) (w : World) (hk : k ≤ 9) : Calls Tryz.prog 241 #[.string ⟨#[48]⟩, .int .i64 k] w (RetS w (List.replicate k 48)) := by
  refine (Tryz.strings_Repeat ⟨#[48]⟩ k w (by omega) (by simp [ByteArray.size]; omega)).mono ?_
  rintro e w' ⟨rfl, hE⟩
  exact ⟨by rw [← repeat0], hE⟩
set_option maxHeartbeats 2000000 in
set_option maxRecDepth 100000 in
theorem text_zero (v : Value) (w : World) (h : NumV w v 0) :
    Calls Tryz.prog 214 #[v] w (RetS w (Lib.decDigits 0)) := by
  obtain ⟨A, c, rfl, h1, h2, h3⟩ := h
  have e : (wds 0).length = 0 := by rw [wds_zero]; rfl
  rw [e]
  go_enter Tryz.func214, Tryz.ntmps214
  go_wp2
  go_ret
  exact ⟨by rw [Lib.decDigits]; rfl, (Ext.rfl' w).al _⟩

theorem round_end {s0 : Nat} {w W W4 : World} {cs cA : Array Value} {T : TypeId} {bs : List Value} (K : BK (s0 + 1) W W4) (hcs : W.heap[s0 + 1]? = some (.cells cs T (0, 0))) (hx1 : W.heap[s0]? = some (.cells cA 214 (0, 0))) (hx2 : W.heap[s0 + 1 + 1]? = some (.cells cA 214 (0, 0)))
    (hb : Below s0 w W) (hB : Lib.IsBuilder 259 5 (s0 + 1) (s0 + 1) bs W4) :
    KeepsOthers W W4 ∧ Kps s0 (s0 + 1 + 1) W W4 ∧ (Lib.IsBuilder 259 5 (s0 + 1) (s0 + 1) bs W4 ∧ W4.heap[s0]? = some (.cells cA 214 (0, 0)) ∧ W4.heap[s0 + 1 + 1]? = some (.cells cA 214 (0, 0))) ∧ Below s0 w W4 := by
  have hB4 : Below s0 W W4 := K.1.mono (by omega)
  have h2 := K.far hx2 (by omega) (by decide)
  refine ⟨others_keeps K.2 hB4.size hcs, ⟨hB4, fun v e => ?_⟩, ⟨hB, (K.1.block s0 (by omega)).trans hx1, h2⟩, hb.trans hB4⟩
  rw [Lib.cell_of_heap h2]; rw [Lib.cell_of_heap hx2] at e; exact e

set_option maxHeartbeats 4000000 in
set_option maxRecDepth 100000 in
theorem text_some (v : Value) (n : Nat) (w : World) (h : NumV w v n) (hW : Wd w) (h0 : n ≠ 0) (hl : (wds n).length ≤ 549755813888) :
    Calls Tryz.prog 214 #[v] w (RetS w (Lib.decDigits n)) := by
  obtain ⟨A, c, rfl, h1, h2, h3⟩ := h
  refine (callsIn_wide (n := 5)).1 ?_
  have hp := wds_len_pos h0
  obtain ⟨len, hlen⟩ : ∃ len, len = (wds n).length := ⟨_, rfl⟩
  rw [← hlen] at hl hp h1 ⊢
  have HL := Lib.hid hlen
  have HR := Lib.hid h3
  clear hlen h3
  have hpb : (((len : Nat) : Int) == 0) = false := by rw [beq_eq_false_iff_ne]; omega
  refine callsIn_of_wp_marks Tryz.func214 rfl trivial ?_ rfl
  simp only [Tryz.ntmps214, List.size_toArray, List.length_cons, List.length_nil, Nat.reduceAdd, Nat.reduceSub, Array.replicate_succ, Array.replicate_zero, List.push_toArray, List.append_toArray, List.nil_append, List.cons_append]
  gi_wp2_with (refine ⟨trivial, ?_⟩; gi_at_call 238; refine (backward_in Fence.wide (5 - 1) trivial rfl _ _ _ _).mono ?_; rintro e w' ⟨rfl, rfl⟩)
  have hE1 : Below w.heap.size w (w.alloc (.cells #[.slice A len c] 214)) := (Below.refl _ w).alloc (Nat.le_refl _) _
  have hE2 : Below w.heap.size w ((w.alloc (.cells #[.slice A len c] 214)).alloc (.cells #[.pointer none, .slice none 0 0] 259)) := hE1.alloc (by simp) _
  have hE3 : Below w.heap.size w (((w.alloc (.cells #[.slice A len c] 214)).alloc (.cells #[.pointer none, .slice none 0 0] 259)).alloc (.cells #[.slice A len c] 214)) := hE2.alloc (by simp; omega) _
  have bN := Boxed.new ((w.alloc (.cells #[.slice A len c] 214)).alloc (.cells #[.pointer none, .slice none 0 0] 259)) 214 (.slice A len c)
  have bM := ((Boxed.new w 214 (.slice A len c)).alloc (.cells #[.pointer none, .slice none 0 0] 259)).alloc (.cells #[.slice A len c] 214)
  have bB := Lib.fresh_isBuilder 259 5 (w.alloc (.cells #[.slice A len c] 214))
  rw [World.size_alloc] at bN bB
  rw [World.size_alloc] at bN
  have bB2 := builder_kept bB (World.grownBy_alloc _ (.cells #[.slice A len c] 214) none) (fun r e => by cases e)
  have hx1 : (((w.alloc (.cells #[.slice A len c] 214)).alloc (.cells #[.pointer none, .slice none 0 0] 259)).alloc (.cells #[.slice A len c] 214)).heap[w.heap.size]? = some (.cells #[.slice A len c] 214 (0, 0)) :=
    (Below.heap_alloc _ _ _ (by simp; omega)).trans ((Below.heap_alloc _ _ _ (by simp)).trans (World.alloc_heap_new w _))
  have hx2 : (((w.alloc (.cells #[.slice A len c] 214)).alloc (.cells #[.pointer none, .slice none 0 0] 259)).alloc (.cells #[.slice A len c] 214)).heap[w.heap.size + 1 + 1]? = some (.cells #[.slice A len c] 214 (0, 0)) := by
    have := World.alloc_heap_new ((w.alloc (.cells #[.slice A len c] 214)).alloc (.cells #[.pointer none, .slice none 0 0] 259)) (.cells #[.slice A len c] 214)
    rwa [World.size_alloc, World.size_alloc] at this
  generalize hW3 : (((w.alloc (.cells #[.slice A len c] 214)).alloc (.cells #[.pointer none, .slice none 0 0] 259)).alloc (.cells #[.slice A len c] 214)) = w3 at *
  have hs3 : w3.heap.size = w.heap.size + 3 := by rw [← hW3]; simp
  have hst := back_stops Fence.wide (5 - 1) trivial rfl (by omega) (w.heap.size + 1 + 1) w.heap.size A c (wds n) (wd_wds_lt n) (by rw [← HL.out]; exact hl) w w3 rfl hE3 (by omega) HR.out (by rw [← HL.out]; exact bN.cell)
  refine wpIn_rangeFunc_ownF (F := Fence.wide) rfl (by omega) (gf := 258) (lb := #[.pointer (some ⟨w.heap.size + 1 + 1, 0, none⟩)]) rfl trivial (enters_of Tryz.func258 (by kernel_rfl) rfl)
    hst Kps.t (Kps.b (by omega)) (Below.refl _ _) (fun _ => rfl)
    (fun pre W => (Lib.IsBuilder 259 5 (w.heap.size + 1) (w.heap.size + 1) (Lib.byteCells (textOf len pre)) W ∧ W.heap[w.heap.size]? = some (.cells #[.slice A len c] 214 (0, 0)) ∧ W.heap[w.heap.size + 1 + 1]? = some (.cells #[.slice A len c] 214 (0, 0))) ∧ Below w.heap.size w W)
    (fun _ _ _ => False)
    (OwnFrom.and (Own.from (fun s X Y row hs hg hr => ⟨builder_kept hs.1 hg hr, (grownBy_keeps_cells hg hr hs.2.1 rfl).trans hs.2.1, (grownBy_keeps_cells hg hr hs.2.2 rfl).trans hs.2.2⟩) _) (ownFrom_below (Nat.le_refl _) (by omega)))
    (fun _ _ _ _ _ hs _ _ => hs)
    ⟨⟨bB2, hx1, hx2⟩, hE3⟩
    (fun x => { tmps := #[.slice A len c, .pointer (some ⟨w.heap.size, 0, none⟩), .string ⟨#[]⟩, .pointer (some ⟨w.heap.size + 1, 0, none⟩), .int .i64 (x.1.1 : Int), .int .u32 (x.1.2 : Int), undef, .slice A len c, .int .i64 len, .bool false, .slice A len c, .func (.func 258) #[] #[.pointer (some ⟨w.heap.size + 1 + 1, 0, none⟩)], .int .i64 (x.1.1 : Int), .int .u32 (x.1.2 : Int), undef, undef, undef, undef, undef, undef, undef, undef, undef, undef, undef, undef, undef, undef, undef, undef], defers := [] }) ?assign ?body ?done ?stop
  case assign =>
    intro l x W K hK
    gi_wp2
    exact hK
  case body =>
    rintro l pre ⟨⟨i, u⟩, hi1, hi2⟩ W ⟨⟨hB, hx1, hx2⟩, hb⟩ hpl
    dsimp only at hi1 hi2 ⊢
    have hWw : Wd W := hW.ext hb
    have HB := Lib.hid hB
    have hbk := builder_cells hB
    have hsz : w.heap.size + 1 ≤ W.heap.size := by obtain ⟨cs, h⟩ := hbk; exact Nat.le_of_lt (Array.getElem?_eq_some_iff.1 h).1
    have hcell : W.cell? ⟨w.heap.size, 0, none⟩ = some (.slice A len c) := by rw [Lib.cell_of_heap hx1]; rfl
    have hwr : IntKind.u64.wrap (u : Int) = (u : Int) := by rw [IntKind.wrap_u64]; omega
    have hdl : (Lib.decDigits u).length ≤ 9 := dec_len9 (by rw [BB_eq]; exact hi2)
    have hds : (⟨(Lib.decDigits u).toArray⟩ : ByteArray).size = (Lib.decDigits u).length := size_mk _
    have htl := textOf_len len pre
    have hlen9 : Hid ((textOf len pre).length + 100 ≤ 140737488355328) := by unfold Hid; rw [← HL.out] at hpl; omega
    by_cases hil : i + 1 < len
    · have hpc : Hid (piece len ⟨(i, u), hi1, hi2⟩ = List.replicate (9 - (Lib.decDigits u).length) 48 ++ Lib.decDigits u) := by unfold Hid piece; rw [if_pos hil]; rfl
      have hib : decide ((i : Int) < (len : Int) - 1) = true := decide_eq_true (by omega)
      have hpd : (9 : Int) - ((Lib.decDigits u).length : Int) = ((9 - (Lib.decDigits u).length : Nat) : Int) := by omega
      obtain ⟨pd, hpdn⟩ : ∃ pd, pd = 9 - (Lib.decDigits u).length := ⟨_, rfl⟩
      rw [← hpdn] at hpd hpc
      have hpd9 : pd ≤ 9 := by omega
      have HP := Lib.hid hpdn
      clear hpdn
      gi_wp2
      refine ⟨trivial, ?_⟩
      refine (CallsIn.inRound l (callsIn_wide.2 (formatUint_any u (by omega) W hWw))).mono ?_
      rintro e W1 ⟨rfl, hE1⟩
      have B1 := Lib.hid (builder_ext HB.out hE1)
      have K1 := Lib.hid (BK.ext hE1 hsz)
      have hcell1 := hE1.cell hcell
      clear hE1 hcell
      gi_wp2
      refine ⟨trivial, ?_⟩
      refine (CallsIn.inRound l (callsIn_wide.2 (pads_h pd W1 hpd9))).mono ?_
      rintro e W2 ⟨rfl, hE2⟩
      have B2 := Lib.hid (builder_ext B1.out hE2)
      have K2 := Lib.hid (K1.out.tr (BK.ext hE2 (by have := K1.out.1.size; omega)))
      clear hE2
      gi_wp2
      refine ⟨trivial, ?_⟩
      refine (CallsIn.inRound l (callsIn_wide.2 (write_h _ _ _ W2 B2 (by have := hlen9.out; unfold Hid; rw [List.length_replicate]; omega)))).mono ?_
      rintro e W3 ⟨rfl, hB3, hK3⟩
      have B3 := Lib.hid hB3
      have K3 := Lib.hid (K2.out.tr hK3)
      clear hB3 hK3
      gi_wp2
      refine ⟨trivial, ?_⟩
      refine (CallsIn.inRound l (callsIn_wide.2 (write_h _ _ _ W3 B3 (by have := hlen9.out; unfold Hid; rw [List.length_append, List.length_replicate]; omega)))).mono ?_
      rintro e W4 ⟨rfl, hB4, hK4⟩
      have B4 := Lib.hid hB4
      have K4 := Lib.hid (K3.out.tr hK4)
      clear hB4 hK4
      gi_wp2
      rw [List.append_assoc] at B4
      obtain ⟨cs, hcs⟩ := hbk
      exact round_end K4.out hcs hx1 hx2 hb (by rw [textOf_snoc, hpc.out]; exact B4.out)
    · have hpc : Hid (piece len ⟨(i, u), hi1, hi2⟩ = Lib.decDigits u) := by unfold Hid piece; rw [if_neg hil]
      have hib : decide ((i : Int) < (len : Int) - 1) = false := decide_eq_false (by omega)
      gi_wp2
      refine ⟨trivial, ?_⟩
      refine (CallsIn.inRound l (callsIn_wide.2 (formatUint_any u (by omega) W hWw))).mono ?_
      rintro e W1 ⟨rfl, hE1⟩
      have B1 := Lib.hid (builder_ext HB.out hE1)
      have K1 := Lib.hid (BK.ext hE1 hsz)
      have hcell1 := hE1.cell hcell
      clear hE1 hcell
      gi_wp2
      refine ⟨trivial, ?_⟩
      refine (CallsIn.inRound l (callsIn_wide.2 (write_h _ _ _ W1 B1 (by have := hlen9.out; unfold Hid; omega)))).mono ?_
      rintro e W4 ⟨rfl, hB4, hK4⟩
      have B4 := Lib.hid hB4
      have K4 := Lib.hid (K1.out.tr hK4)
      clear hB4 hK4
      gi_wp2
      obtain ⟨cs, hcs⟩ := hbk
      exact round_end K4.out hcs hx1 hx2 hb (by rw [textOf_snoc, hpc.out]; exact B4.out)
  case done =>
    rintro D ys W hD rfl ⟨⟨hB, hx1, hx2⟩, hb⟩ hK
    obtain ⟨cs, hcs⟩ := builder_cells hB
    have hsz : w.heap.size + 1 ≤ W.heap.size := Nat.le_of_lt (Array.getElem?_eq_some_iff.1 hcs).1
    have hs := Tryz.Builder_String_any_k (w.heap.size + 1) (w.heap.size + 1) _ W (Lib.IsBuilderF.of hB) hsz
    gi_wp2
    refine ⟨trivial, ?_⟩
    refine (callsIn_wide.2 hs).mono ?_
    rintro e W2 ⟨rfl, hF, hB2, hO⟩
    gi_wp2
    have hK2 : W2.heap[D]? = some (.deferred (some [])) := hO D _ hK (fun e => by cases e; rw [hcs] at hK; cases hK) (fun c fz e => by cases e)
    refine ⟨by simp, .inl ⟨_, _, rfl, run_takeDeferred hK2, ?_⟩⟩
    refine ⟨_, results_tmp rfl _ _ _, ?_, ?_⟩
    · rw [HL.out, downs_all n (by rw [← HL.out]; exact hl) h0]; rfl
    · exact (hb.trans (hB2.mono (by omega))).trans (belowK_b (w := w) (Nat.le_refl _) W2 D _ _ (by omega) hK2 rfl rfl)
  case stop =>
    rintro D c pre W _ _ h _
    exact h.elim
theorem text_any (v : Value) (n : Nat) (w : World) (h : NumV w v n) (hW : Wd w) (hl : (wds n).length ≤ 549755813888) :
    Calls Tryz.prog 214 #[v] w (RetS w (Lib.decDigits n)) := by
  by_cases h0 : n = 0
  · subst h0; exact text_zero v w h
  · exact text_some v n w h hW h0 hl
end Go.Proofs.YtadimepmoljnpaaGreatDoor.GB

namespace Go.Proofs.YtadimepmoljnpaaGreatDoor.GB
set_option linter.unusedVariables false
set_option linter.unusedSimpArgs false
open Go.RowKit Go.Shelf
attribute [local go_sem ↓] Go.wp_at_zero Go.wp_at_succ

/-- A number of at most 2^38 bits. -/
def Fit (a : Nat) : Prop := ∃ k, k ≤ 1099511627776 ∧ a < 2 ^ k
theorem Fit.len {a : Nat} (h : Fit a) : (wds a).length ≤ 549755813888 := by
  obtain ⟨k, hk, ha⟩ := h
  have h1 : 2 ^ k ≤ 2 ^ (29 * (k / 29 + 1)) := Nat.pow_le_pow_right (by omega) (by omega)
  have h2 : (2 ^ 29) ^ (k / 29 + 1) ≤ BB ^ (k / 29 + 1) := Nat.pow_le_pow_left (by rw [BB_eq]; decide) _
  rw [Nat.pow_mul] at h1
  have : a < BB ^ (k / 29 + 1) := Nat.lt_of_lt_of_le ha (Nat.le_trans h1 h2)
  exact Nat.le_trans (wds_len_le this) (by omega)
theorem Fit.dec0 {a : Nat} (h : Fit a) : (Lib.decDigits a).length ≤ 400000000000 := by
  obtain ⟨k, hk, ha⟩ := h
  rcases Nat.eq_zero_or_pos a with e | e
  · exact Nat.le_trans (dec_len_le a 1 (by omega)) (by omega)
  have h0 := dec_len_ge a e
  have h1 : 2 ^ k ≤ 2 ^ (3 * (k / 3 + 1)) := Nat.pow_le_pow_right (by omega) (by omega)
  have h2 : (2 ^ 3) ^ (k / 3 + 1) ≤ 10 ^ (k / 3 + 1) := Nat.pow_le_pow_left (by decide) _
  rw [Nat.pow_mul] at h1
  have h3 : 10 ^ ((Lib.decDigits a).length - 1) < 10 ^ (k / 3 + 1) := Nat.lt_of_le_of_lt h0 (Nat.lt_of_lt_of_le ha (Nat.le_trans h1 h2))
  have h4 := (Nat.pow_lt_pow_iff_right (a := 10) (by omega)).1 h3
  generalize (Lib.decDigits a).length = L at *
  omega
theorem Fit.dec {a : Nat} (h : Fit a) : (Lib.decDigits a).length ≤ 1099511627776 := Nat.le_trans h.dec0 (by omega)
theorem Fit.le {a b : Nat} (h : Fit a) (hb : b ≤ a) : Fit b := by
  obtain ⟨k, hk, ha⟩ := h
  exact ⟨k, hk, Nat.lt_of_le_of_lt hb ha⟩
/-- The text of a number. -/
abbrev dtx (a : Nat) : Value := .string ⟨(Lib.decDigits a).toArray⟩
theorem dtx_size (a : Nat) : (⟨(Lib.decDigits a).toArray⟩ : ByteArray).size = (Lib.decDigits a).length := size_mk _

theorem valid_any (s : ByteArray) (w : World) (hs : s.size ≤ 9223372036854775807) :
    Calls Tryz.prog 113 #[.string s] w fun e w' => e = .returned (.bool (canB s.data.toList)) ∧ w = w' := by
  rcases Nat.eq_zero_or_pos s.size with h | h
  · have e1 : s.data.toList = [] := by
      apply List.eq_nil_of_length_eq_zero; rw [bytes_len]; exact h
    have e2 : s.toList = [] := by rw [ByteArray.toList_eq, e1]
    refine (Valid_empty s w e2).mono ?_
    rintro e w' ⟨rfl, rfl⟩
    rw [e1]
    exact ⟨rfl, rfl⟩
  · have e2 : s.toList.isEmpty = false := by
      have hl : s.toList.length = s.size := by rw [ByteArray.toList_eq, bytes_len]
      cases hq : s.toList with
      | nil => rw [hq] at hl; simp at hl; omega
      | cons => rfl
    exact Valid_some s w hs e2 h
theorem valid_dec (a : Nat) (w : World) (h : Fit a) :
    Calls Tryz.prog 113 #[dtx a] w fun e w' => e = .returned (.bool true) ∧ w = w' := by
  have := h.dec
  refine (valid_any _ w (by rw [dtx_size]; omega)).mono ?_
  rintro e w' ⟨rfl, rfl⟩
  exact ⟨by rw [(canB_iff (Lib.decDigits a)).2 (dec_canon a)], rfl⟩
theorem read_v (a : Nat) (w : World) (h : Fit a) : Calls Tryz.prog 213 #[dtx a] w (RetV w a) :=
  (read_any _ w a rfl (by rw [dtx_size]; exact h.dec)).mono fun e w' h => h.v

set_option maxHeartbeats 1000000 in
set_option maxRecDepth 100000 in
theorem both_n (a b : Nat) (w : World) (ha : Fit a) (hb : Fit b) :
    Calls Tryz.prog 187 #[dtx a, dtx b] w fun e w' => ∃ v1 v2, e = .returned (.tuple #[v1, v2, .int .i64 0]) ∧ NumV w' v1 a ∧ NumV w' v2 b ∧ Ext w w' := by
  go_enter Tryz.func187, Tryz.ntmps187
  go_wp2_with fail
  refine (valid_dec a _ ha).mono ?_
  rintro e w1 ⟨rfl, rfl⟩
  go_wp2_with fail
  refine (valid_dec b _ hb).mono ?_
  rintro e w1 ⟨rfl, rfl⟩
  go_wp2_with fail
  refine (read_v a _ ha).mono ?_
  rintro e w1 ⟨v1, rfl, h1, hE1⟩
  go_wp2_with fail
  refine (read_v b _ hb).mono ?_
  rintro e w2 ⟨v2, rfl, h2, hE2⟩
  go_wp2_with fail
  go_ret3
  exact ⟨v1, v2, rfl, h1.ext hE2, h2, hE1.tr hE2⟩

set_option maxHeartbeats 1000000 in
set_option maxRecDepth 100000 in
theorem apply_n (K : Nat) (hK : ∀ args w, (callFunc K args).run Tryz.prog w = .ok (.enter K args) w) (v1 v2 : Value) (r : Nat) (w : World) (hW : Wd w) (hr : Fit r)
    (hop : Calls Tryz.prog K #[v1, v2] w (RetV w r)) :
    Calls Tryz.prog 188 #[.func (.func K) #[v1] #[], v2] w fun e w' => e = .returned (.tuple #[dtx r, .int .i64 0]) ∧ Ext w w' := by
  go_enter Tryz.func188, Tryz.ntmps188
  go_wp2_with fail
  refine hop.mono ?_
  rintro e w1 ⟨v, rfl, h1, hE1⟩
  go_wp2_with fail
  refine (text_any v r _ h1 (hW.ext hE1) hr.len).mono ?_
  rintro e w2 ⟨rfl, hE2⟩
  go_wp2_with fail
  go_ret2
  exact ⟨rfl, hE1.tr hE2⟩

theorem times_v (v1 v2 : Value) (a b : Nat) (w : World) (ha : Fit a) (hb : Fit b) (h1 : NumV w v1 a) (h2 : NumV w v2 b) : Calls Tryz.prog 196 #[v1, v2] w (RetV w (a * b)) := by
  obtain ⟨A, ca, rfl, _, _, h1⟩ := h1
  obtain ⟨B, cb, rfl, _, _, h2⟩ := h2
  have := ha.len
  have := hb.len
  exact (times_n A B ca cb _ _ a b w rfl rfl (by omega) (by omega) h1 h2).mono fun e w' h => h.v
theorem plus_v (v1 v2 : Value) (a b : Nat) (w : World) (ha : Fit a) (hb : Fit b) (h1 : NumV w v1 a) (h2 : NumV w v2 b) : Calls Tryz.prog 224 #[v1, v2] w (RetV w (a + b)) := by
  obtain ⟨A, ca, rfl, _, _, h1⟩ := h1
  obtain ⟨B, cb, rfl, _, _, h2⟩ := h2
  have := ha.len
  have := hb.len
  exact (plus_any A B ca cb _ _ a b w rfl rfl (by omega) (by omega) h1 h2).mono fun e w' h => h.v
theorem minus_v (v1 v2 : Value) (a b : Nat) (w : World) (ha : Fit a) (hb : Fit b) (h1 : NumV w v1 a) (h2 : NumV w v2 b) (hle : b ≤ a) : Calls Tryz.prog 226 #[v1, v2] w (RetV w (a - b)) := by
  obtain ⟨A, ca, rfl, _, _, h1⟩ := h1
  obtain ⟨B, cb, rfl, _, _, h2⟩ := h2
  have := ha.len
  have := hb.len
  exact (minus_any A B ca cb _ _ a b w rfl rfl (by omega) (by omega) h1 h2 hle).mono fun e w' h => h.v
theorem compare_v (v1 v2 : Value) (a b : Nat) (w : World) (ha : Fit a) (hb : Fit b) (h1 : NumV w v1 a) (h2 : NumV w v2 b) : Calls Tryz.prog 225 #[v1, v2] w fun e w' => e = .returned (.int .i64 (cmpZ a b)) ∧ Ext w w' := by
  obtain ⟨A, ca, rfl, _, _, h1⟩ := h1
  obtain ⟨B, cb, rfl, _, _, h2⟩ := h2
  have := ha.len
  have := hb.len
  exact compare_any A B ca cb _ _ a b w rfl rfl (by omega) (by omega) h1 h2

/-- The call hands back the text of a number, and no error. -/
def RetD (w : World) (r : Nat) (e : Ending) (w' : World) : Prop := e = .returned (.tuple #[dtx r, .int .i64 0]) ∧ Ext w w'

set_option maxHeartbeats 1000000 in
set_option maxRecDepth 100000 in
theorem Mul_n (a b : Nat) (w : World) (hW : Wd w) (ha : Fit a) (hb : Fit b) (hr : Fit (a * b)) :
    Calls Tryz.prog 158 #[dtx a, dtx b] w (RetD w (a * b)) := by
  go_enter Tryz.func158, Tryz.ntmps158
  go_wp2_with fail
  refine (both_n a b _ ha hb).mono ?_
  rintro e w1 ⟨v1, v2, rfl, h1, h2, hE1⟩
  go_wp2_with fail
  refine (apply_n 196 (enters_of Tryz.func196 (by kernel_rfl) rfl) _ _ (a * b) _ (hW.ext hE1) hr (times_v _ _ a b _ ha hb h1 h2)).mono ?_
  rintro e w2 ⟨rfl, hE2⟩
  go_wp2_with fail
  go_ret2
  exact ⟨rfl, hE1.tr hE2⟩
set_option maxHeartbeats 1000000 in
set_option maxRecDepth 100000 in
theorem Add_n (a b : Nat) (w : World) (hW : Wd w) (ha : Fit a) (hb : Fit b) (hr : Fit (a + b)) :
    Calls Tryz.prog 197 #[dtx a, dtx b] w (RetD w (a + b)) := by
  go_enter Tryz.func197, Tryz.ntmps197
  go_wp2_with fail
  refine (both_n a b _ ha hb).mono ?_
  rintro e w1 ⟨v1, v2, rfl, h1, h2, hE1⟩
  go_wp2_with fail
  refine (apply_n 224 (enters_of Tryz.func224 (by kernel_rfl) rfl) _ _ (a + b) _ (hW.ext hE1) hr (plus_v _ _ a b _ ha hb h1 h2)).mono ?_
  rintro e w2 ⟨rfl, hE2⟩
  go_wp2_with fail
  go_ret2
  exact ⟨rfl, hE1.tr hE2⟩
set_option maxHeartbeats 1000000 in
set_option maxRecDepth 100000 in
theorem GCD_n (a b : Nat) (w : World) (hW : Wd w) (ha : Fit a) (hb : Fit b) (hr : Fit (Nat.gcd a b)) :
    Calls Tryz.prog 154 #[dtx a, dtx b] w (RetD w (Nat.gcd a b)) := by
  go_enter Tryz.func154, Tryz.ntmps154
  go_wp2_with fail
  refine (both_n a b _ ha hb).mono ?_
  rintro e w1 ⟨v1, v2, rfl, h1, h2, hE1⟩
  go_wp2_with fail
  refine (apply_n 189 (enters_of Tryz.func189 (by kernel_rfl) rfl) _ _ (Nat.gcd a b) _ (hW.ext hE1) hr (gcd_any _ _ a b _ ha.len hb.len h1 h2)).mono ?_
  rintro e w2 ⟨rfl, hE2⟩
  go_wp2_with fail
  go_ret2
  exact ⟨rfl, hE1.tr hE2⟩
set_option maxHeartbeats 1000000 in
set_option maxRecDepth 100000 in
theorem Compare_n (a b : Nat) (w : World) (ha : Fit a) (hb : Fit b) :
    Calls Tryz.prog 198 #[dtx a, dtx b] w fun e w' => e = .returned (.tuple #[.int .i64 (cmpZ a b), .int .i64 0]) ∧ Ext w w' := by
  go_enter Tryz.func198, Tryz.ntmps198
  go_wp2_with fail
  refine (both_n a b _ ha hb).mono ?_
  rintro e w1 ⟨v1, v2, rfl, h1, h2, hE1⟩
  go_wp2_with fail
  refine (compare_v _ _ a b _ ha hb h1 h2).mono ?_
  rintro e w2 ⟨rfl, hE2⟩
  go_wp2_with fail
  go_ret2
  exact ⟨rfl, hE1.tr hE2⟩
set_option maxHeartbeats 1000000 in
set_option maxRecDepth 100000 in
theorem Sub_n (a b : Nat) (w : World) (hW : Wd w) (ha : Fit a) (hb : Fit b) (hle : b ≤ a) :
    Calls Tryz.prog 199 #[dtx a, dtx b] w (RetD w (a - b)) := by
  have hc : decide (cmpZ a b < 0) = false := cmpZ_geb hle
  go_enter Tryz.func199, Tryz.ntmps199
  go_wp2_with fail
  refine (both_n a b _ ha hb).mono ?_
  rintro e w1 ⟨v1, v2, rfl, h1, h2, hE1⟩
  go_wp2_with fail
  refine (compare_v _ _ a b _ ha hb h1 h2).mono ?_
  rintro e w2 ⟨rfl, hE2⟩
  go_wp2_with fail
  refine (apply_n 226 (enters_of Tryz.func226 (by kernel_rfl) rfl) _ _ (a - b) _ (hW.ext (hE1.tr hE2)) (ha.le (by omega)) (minus_v _ _ a b _ ha hb (h1.ext hE2) (h2.ext hE2) hle)).mono ?_
  rintro e w3 ⟨rfl, hE3⟩
  go_wp2_with fail
  go_ret2
  exact ⟨rfl, (hE1.tr hE2).tr hE3⟩
set_option maxHeartbeats 1000000 in
set_option maxRecDepth 100000 in
theorem DivMod_n (a b : Nat) (w : World) (hW : Wd w) (ha : Fit a) (hb : Fit b) (h0 : 0 < b) :
    Calls Tryz.prog 247 #[dtx a, dtx b] w fun e w' => e = .returned (.tuple #[dtx (a / b), dtx (a % b), .int .i64 0]) ∧ Ext w w' := by
  go_enter Tryz.func247, Tryz.ntmps247
  go_wp2_with fail
  refine (both_n a b _ ha hb).mono ?_
  rintro e w1 ⟨v1, v2, rfl, h1, h2, hE1⟩
  obtain ⟨B, cb, rfl⟩ := vslice h2
  have hp := (wds_pos_iff b).2 h0
  have hpb : (((wds b).length : Int) == 0) = false := by rw [beq_eq_false_iff_ne]; omega
  go_wp2_with fail
  refine (divide_v _ _ a b _ ha.len hb.len h1 h2 h0).mono ?_
  rintro e w2 ⟨q, r, rfl, hq, hr, hE2⟩
  go_wp2_with fail
  refine (text_any q (a / b) _ hq (hW.ext (hE1.tr hE2)) (ha.le (Nat.div_le_self a b)).len).mono ?_
  rintro e w3 ⟨rfl, hE3⟩
  go_wp2_with fail
  refine (text_any r (a % b) _ (hr.ext hE3) (hW.ext ((hE1.tr hE2).tr hE3)) (hb.le (Nat.le_of_lt (Nat.mod_lt a h0))).len).mono ?_
  rintro e w4 ⟨rfl, hE4⟩
  go_wp2_with fail
  go_ret3
  exact ⟨rfl, ((hE1.tr hE2).tr hE3).tr hE4⟩
end Go.Proofs.YtadimepmoljnpaaGreatDoor.GB
