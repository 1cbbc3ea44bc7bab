import Derived.Test.YtbldlibijojbjaaGreatDoorCDx
import Derived.Test.YtbldlibijojbjaaGreatDoorMCp
import Derived.Test.YtbldlibijojbjaaGreatDoorMBd
import Derived.Shelf.RegionOpenPlain
import Derived.Lib.Strings
import Derived.Lib.Slices
import Derived.Lib.Walk
import Derived.Lib.Builder
import Derived.Lib.AppendStr
import Derived.Lib.UnsafeStr
import Derived.Lib.MakeNoZero
import Derived.Laws.Externs
import Derived.Laws.IdiomCopy
import Derived.Laws.BitsLemmas
import Derived.RangeFuncOwn
import Derived.Lib.OthersKept
import Derived.Lib.BufferKept
namespace Go.Proofs.YtbldlibijojbjaaGreatDoor.GB
set_option linter.unusedVariables false
set_option linter.unusedSimpArgs false
open Go.RowKit
attribute [local go_sem ↓] Go.wp_at_zero Go.wp_at_succ

/-- v is a number of the package's: the words of n. -/
def NumV (w : World) (v : Value) (n : Nat) : Prop := ∃ A c, v = .slice A (wds n).length c ∧ (wds n).length ≤ c ∧ c ≤ maxLen ∧ RdN w A (wds n)
theorem NumV.ext {w w' : World} {v : Value} {n : Nat} (h : NumV w v n) (hE : Ext w w') : NumV w' v n := by
  obtain ⟨A, c, h1, h2, h3, h4⟩ := h
  exact ⟨A, c, h1, h2, h3, h4.ext hE⟩
theorem NumV.of_own {w : World} {base : Nat} {v : Value} {n : Nat} {r : List Nat} (h : OwnN w base v r) (hr : r = wds n) : NumV w v n := by
  subst hr
  obtain ⟨A, c, rfl, h1, h2, h3, _⟩ := h.parts
  exact ⟨A, c, rfl, h1, h2, h3⟩
theorem NumV.nil (w : World) : NumV w (.slice none 0 0) 0 := ⟨none, 0, by rw [wds_zero]; rfl, by rw [wds_zero]; exact Nat.le_refl _, by simp [maxLen], by rw [wds_zero]; exact RdN.nil _ _⟩
/-- The call hands back a number. -/
def RetV (w : World) (n : Nat) (e : Ending) (w' : World) : Prop := ∃ v, e = .returned v ∧ NumV w' v n ∧ Ext w w'
theorem RetN.v {w : World} {n : Nat} {e : Ending} {w' : World} (h : RetN w (fun r => r = wds n) e w') : RetV w n e w' := by
  obtain ⟨v, r, rfl, h1, h2, h3⟩ := h
  exact ⟨v, rfl, NumV.of_own h1 h2, h3⟩
/-- Two numbers. -/
def RetVV (w : World) (q r : Nat) (e : Ending) (w' : World) : Prop := ∃ v1 v2, e = .returned (.tuple #[v1, v2]) ∧ NumV w' v1 q ∧ NumV w' v2 r ∧ Ext w w'

theorem divide_v (v1 v2 : Value) (a b : Nat) (w : World) (hla : (wds a).length ≤ 549755813888) (hlb : (wds b).length ≤ 549755813888) (h1 : NumV w v1 a) (h2 : NumV w v2 b) (hb0 : 0 < b) :
    Calls Tryz.prog 202 #[v1, v2] w (RetVV w (a / b) (a % b)) := by
  obtain ⟨A, ca, rfl, hca, hcm, ha⟩ := h1
  obtain ⟨B, cb, rfl, hcb, hcm2, hb⟩ := h2
  have h : Calls Tryz.prog 202 #[.slice A (wds a).length ca, .slice B (wds b).length cb] w (RetRR w (a / b) (a % b)) := by
    rcases Nat.lt_or_ge a b with h | h
    · exact divide_less _ _ _ _ _ _ a b w rfl rfl (by omega) (by omega) hca hcm ha hb h
    · by_cases hs : a < 1000000000000000000
      · exact divide_small _ _ _ _ _ _ a b w rfl rfl (by omega) (by omega) ha hb h hb0 hs
      · by_cases h9 : b < 1000000000
        · have e : (wds b).length = 1 := by rw [wds_small (by omega) h9]; rfl
          rw [e]
          exact divide_one _ _ _ _ _ a b w rfl (by omega) ha hb h hb0 h9 (by omega)
        · refine divide_big _ _ _ _ _ _ a b w rfl rfl hla hlb ha hb h ?_ (by omega)
          rcases Nat.lt_or_ge (wds b).length 2 with h3 | h3
          · exfalso
            have h4 := wds_len_lt b
            have h5 : BB ^ (wds b).length ≤ BB ^ 1 := Nat.pow_le_pow_right BB_pos (by omega)
            rw [Nat.pow_one] at h5
            have h6 := BB_eq
            omega
          · exact h3
  refine h.mono ?_
  rintro e w' ⟨A1, c1, A2, c2, rfl, r1, l1, m1, r2, l2, m2, hE⟩
  exact ⟨_, _, rfl, ⟨A1, c1, rfl, l1, m1, r1⟩, ⟨A2, c2, rfl, l2, m2, r2⟩, hE⟩

theorem small_v (v : Value) (n : Nat) (w : World) (hla : (wds n).length ≤ 549755813888) (h : NumV w v n) : Calls Tryz.prog 200 #[v] w (SmallPost w n) := by
  obtain ⟨A, ca, rfl, hca, hcm, ha⟩ := h
  exact small_any A ca _ n w rfl (by omega) ha

theorem NumV.uniq {w : World} {v : Value} {n m : Nat} (h : NumV w v n) (k : NumV w v m) : n = m := by
  obtain ⟨A, c, rfl, _, _, h1⟩ := h
  obtain ⟨B, d, e, _, _, h2⟩ := k
  injection e with e1 e2 e3
  subst e1 e3
  apply wds_inj
  apply List.ext_getElem e2
  intro j hj hj2
  obtain ⟨b1, o1, q1, _, c1⟩ := h1 j hj
  obtain ⟨b2, o2, q2, _, c2⟩ := h2 j hj2
  rw [q1] at q2
  injection q2 with q2
  injection q2 with q3 q4
  subst q3 q4
  rw [c1] at c2
  injection c2 with c2
  injection c2 with _ c2
  omega
open Classical in
/-- The number that a value stands for. -/
noncomputable def numOf (w : World) (v : Value) : Nat := if h : ∃ n, NumV w v n then Classical.choose h else 0
theorem numOf_eq {w : World} {v : Value} {n : Nat} (h : NumV w v n) : numOf w v = n := by
  unfold numOf
  rw [dif_pos ⟨n, h⟩]
  exact (Classical.choose_spec (⟨n, h⟩ : ∃ n, NumV w v n)).uniq h
theorem divide_h (v1 v2 : Value) (a b : Nat) (w : World) (hla : (wds a).length ≤ 549755813888) (hlb : (wds b).length ≤ 549755813888) (h1 : Hid (NumV w v1 a)) (h2 : Hid (NumV w v2 b)) (hb0 : 0 < b) :
    Calls Tryz.prog 202 #[v1, v2] w (RetVV w (a / b) (a % b)) := divide_v v1 v2 a b w hla hlb h1.out h2.out hb0
/-- What small says of a number that is small, or is not. -/
theorem small_yes (v : Value) (n : Nat) (w : World) (hla : (wds n).length ≤ 549755813888) (h : Hid (NumV w v n)) (hs : Hid (n < 1000000000000000000)) :
    Calls Tryz.prog 200 #[v] w (fun e w' => e = .returned (.tuple #[.int .u64 (n : Int), .bool true]) ∧ Ext w w') :=
  (small_v v n w hla h.out).mono fun e w' h => ⟨h.1 hs.out, h.2.2⟩
theorem small_no (v : Value) (n : Nat) (w : World) (hla : (wds n).length ≤ 549755813888) (h : Hid (NumV w v n)) (hs : Hid (1000000000000000000 ≤ n)) :
    Calls Tryz.prog 200 #[v] w (fun e w' => e = .returned (.tuple #[.int .u64 0, .bool false]) ∧ Ext w w') :=
  (small_v v n w hla h.out).mono fun e w' h => ⟨h.2.1 hs.out, h.2.2⟩
theorem small_b (n : Nat) (hla : (wds n).length ≤ 549755813888) : ∃ (s : Int) (b : Bool), Hid (b = true → n < 1000000000000000000) ∧ ∀ v w, Hid (NumV w v n) → Calls Tryz.prog 200 #[v] w (fun e w' => e = .returned (.tuple #[.int .u64 s, .bool b]) ∧ Ext w w') := by
  by_cases h : n < 1000000000000000000
  · exact ⟨n, true, fun _ => h, fun v w hv => small_yes v n w hla hv h⟩
  · exact ⟨0, false, (by intro e; cases e), fun v w hv => small_no v n w hla hv (by unfold Hid; omega)⟩
theorem of_h (x : Nat) (w : World) (h : Hid (x < 1000000000000000000)) : Calls Tryz.prog 201 #[.int .u64 x] w (RetV w x) := (of_any x w h.out).mono fun e w' h => h.v
theorem vslice {w : World} {v : Value} {n : Nat} (h : NumV w v n) : ∃ A c, v = .slice A (wds n).length c := by
  obtain ⟨A, c, h, _⟩ := h; exact ⟨A, c, h⟩
theorem wds_pos_iff (n : Nat) : 0 < (wds n).length ↔ 0 < n := by
  constructor
  · intro h
    rcases Nat.eq_zero_or_pos n with e | e
    · rw [e, wds_zero] at h; simp at h
    · exact e
  · intro h; exact wds_len_pos (by omega)

set_option maxHeartbeats 1000000 in
set_option maxRecDepth 100000 in
theorem gcd_any (v1 v2 : Value) (a b : Nat) (w : World) (hla : (wds a).length ≤ 549755813888) (hlb : (wds b).length ≤ 549755813888) (h1 : NumV w v1 a) (h2 : NumV w v2 b) :
    Calls Tryz.prog 175 #[v1, v2] w (RetV w (Nat.gcd a b)) := by
  have H1 := Lib.hid h1
  have H2 := Lib.hid h2
  clear h1 h2
  go_enter Tryz.func175, Tryz.ntmps175
  go_wp2
  go_loopw [0, 1] (fun x y wr => ∃ (X Y : Nat), (wds X).length ≤ 549755813888 ∧ (wds Y).length ≤ 549755813888 ∧ Hid (NumV wr x X) ∧ Hid (NumV wr y Y) ∧ Hid (Nat.gcd X Y = Nat.gcd a b) ∧ Hid (Ext w wr)) (fun x y wr => numOf wr y)
  case atStart => exact ⟨a, b, hla, hlb, H1, H2, rfl, Ext.rfl' w⟩
  case round =>
    obtain ⟨X, Y, hX, hY, HX, HY, HG, HE⟩ := hrel
    obtain ⟨A, ca, rfl⟩ := vslice HX.out
    obtain ⟨B, cb, rfl⟩ := vslice HY.out
    by_cases h0 : 0 < (wds Y).length
    · have hY0 : 0 < Y := (wds_pos_iff Y).1 h0
      by_cases hb : X < 1000000000000000000 ∧ Y < 1000000000000000000
      · have S1 := Lib.hid hb.1
        have S2 := Lib.hid hb.2
        clear hb hY0
        go_wp2_with fail
        refine (small_yes _ X _ hX HX S1).mono ?_
        rintro e w1 ⟨rfl, hE1⟩
        have E1 := Lib.hid (HE.out.tr hE1)
        have HY1 := Lib.hid (HY.out.ext hE1)
        clear hE1
        go_wp2_with fail
        refine (small_yes _ Y _ hY HY1 S2).mono ?_
        rintro e w2 ⟨rfl, hE2⟩
        have E2 := Lib.hid (E1.out.tr hE2)
        clear hE2
        go_wp2_with fail
        go_loopw [5, 7] (fun x y wq => ∃ (P Q : Nat), x = .int .u64 P ∧ y = .int .u64 Q ∧ Hid (P < 1000000000000000000) ∧ Hid (Q < 1000000000000000000) ∧ Hid (Nat.gcd P Q = Nat.gcd a b) ∧ Hid (Ext w wq)) (fun x y _ => (intOf y).toNat)
        case atStart => exact ⟨X, Y, rfl, rfl, S1, S2, HG, E2⟩
        case round =>
          obtain ⟨P, Q, rfl, rfl, HP, HQ, HPQ, EQ⟩ := hrel
          by_cases hq : 0 < Q
          · have hr1 : (P : Int).tmod (Q : Int) = ((P % Q : Nat) : Int) := by rw [Int.tmod_eq_emod_of_nonneg (by omega)]; exact (Int.natCast_emod P Q).symm
            have hr2 : (P : Int) % (Q : Int) = ((P % Q : Nat) : Int) := (Int.natCast_emod P Q).symm
            have hlt : P % Q < Q := Nat.mod_lt P hq
            have HR : Hid (P % Q < 1000000000000000000) := Nat.lt_trans hlt HQ.out
            have hb1 : ¬ ((Q : Int) = 0) := by omega
            have HG2 : Hid (Nat.gcd Q (P % Q) = Nat.gcd a b) := by
              unfold Hid; rw [← HPQ.out, Nat.gcd_comm P Q, Nat.gcd_rec Q P, Nat.gcd_comm]
            generalize P % Q = R at hr1 hr2 hlt HR HG2
            go_wp2_with fail
            go_quiet (fail)
            go_wp2
            go_roundw
            case rel => exact ⟨Q, R, rfl, rfl, HQ, HR, HG2, EQ.out.drN _⟩
            case measure => simp [intOf]; omega
          · go_wp2_with fail
            refine (of_h P _ HP).mono ?_
            rintro e w3 ⟨v, rfl, hV, hE3⟩
            go_wp2_with fail
            go_ret
            refine ⟨_, rfl, ?_, EQ.out.tr hE3⟩
            have : Q = 0 := by omega
            subst this
            rw [← HPQ.out, Nat.gcd_zero_right]
            exact hV
      · obtain ⟨s1, b1, B1, S1⟩ := small_b X hX
        obtain ⟨s2, b2, B2, S2⟩ := small_b Y hY
        have hR1 : (wds (X % Y)).length ≤ 549755813888 := Nat.le_trans (wds_mono (Nat.le_of_lt (Nat.mod_lt X hY0))) hY
        have HG2 : Hid (Nat.gcd Y (X % Y) = Nat.gcd a b) := by
          unfold Hid; rw [← HG.out, Nat.gcd_comm X Y, Nat.gcd_rec Y X, Nat.gcd_comm]
        have hb2 : b1 = true → b2 = false := by
          intro e1
          rcases Bool.eq_false_or_eq_true b2 with e2 | e2
          · exact absurd ⟨B1.out e1, B2.out e2⟩ hb
          · exact e2
        have hlt : X % Y < Y := Nat.mod_lt X hY0
        clear hb B1 B2
        cases b1
        all_goals
          try (obtain rfl := hb2 rfl)
          clear hb2
          go_wp2_with fail
          refine (S1 _ _ HX).mono ?_
          rintro e w1 ⟨rfl, hE1⟩
          have E1 := Lib.hid (HE.out.tr hE1)
          have HX1 := Lib.hid (HX.out.ext hE1)
          have HY1 := Lib.hid (HY.out.ext hE1)
          clear hE1
          go_wp2_with fail
          refine (S2 _ _ HY1).mono ?_
          rintro e w2 ⟨rfl, hE2⟩
          have E2 := Lib.hid (E1.out.tr hE2)
          have HX2 := Lib.hid (HX1.out.ext hE2)
          have HY2 := Lib.hid (HY1.out.ext hE2)
          clear hE2
          go_wp2_with fail
          refine (divide_h _ _ X Y _ hX hY HX2 HY2 hY0).mono ?_
          rintro e w3 ⟨q, r, rfl, hq, hr, hE3⟩
          have E3 := Lib.hid (E2.out.tr hE3)
          have HR3 := Lib.hid hr
          have HY3 := Lib.hid (HY2.out.ext hE3)
          clear hE3 hq hr
          go_wp2_with fail
          have hm1 : numOf wr (.slice B (wds Y).length cb) = Y := numOf_eq HY.out
          have hm2 : numOf w3 r = X % Y := numOf_eq HR3.out
          have HM1 := Lib.hid hm1
          have HM2 := Lib.hid hm2
          clear hm1 hm2
          go_roundw
          case rel => exact ⟨Y, X % Y, hY, hR1, HY3, HR3, HG2, E3⟩
          case measure => show numOf w3 r < numOf wr (.slice B (wds Y).length cb); rw [HM1.out, HM2.out]; exact hlt
    · go_wp2_with fail
      go_ret
      refine ⟨_, rfl, ?_, HE.out⟩
      have : Y = 0 := by rcases Nat.eq_zero_or_pos Y with e | e
                         · exact e
                         · exact absurd ((wds_pos_iff Y).2 e) h0
      subst this
      rw [← HG.out, Nat.gcd_zero_right]
      exact HX.out
end Go.Proofs.YtbldlibijojbjaaGreatDoor.GB

namespace Go.Proofs.YtbldlibijojbjaaGreatDoor.GB
set_option linter.unusedVariables false
set_option linter.unusedSimpArgs false
open Go.RowKit

theorem szBuilder : (Tryz.prog.info? 229).map (·.size) = some 2 := by kernel_rfl
theorem liesBuilder : liesAt Tryz.prog Tryz.prog.depth 229 (2 / Tryz.prog.cellsOf 229) 0 229 1 = true := by kernel_rfl
theorem infoU8 : (Tryz.prog.info? 5).map (fun i => (i.zero, i.size, i.bytes)) = some (some (.int .u8 0), 1, 1) := by kernel_rfl

set_option maxHeartbeats 1000000 in
set_option maxRecDepth 100000 in
theorem copyCheck_used (b : Nat) (w : World) (h0 : w.cell? ⟨b, 0, none⟩ = some (.pointer (some ⟨b, 0, none⟩))) :
    Calls Tryz.prog 241 #[.pointer (some ⟨b, 0, none⟩)] w fun e w' => e = .returned (.tuple #[]) ∧ w' = w := by
  obtain ⟨j, hj, _⟩ := Option.map_eq_some_iff.1 szBuilder
  go_enter Tryz.func241, Tryz.ntmps241
  go_wp2
  rw [Lib.run_neq_ptr_same w _ Tryz.underlying227 hj]
  go_wp2
  go_end0
  exact ⟨rfl, rfl⟩

set_option maxHeartbeats 1000000 in
set_option maxRecDepth 100000 in
theorem copyCheck_fresh (b : Nat) (w : World) (h0 : w.cell? ⟨b, 0, none⟩ = some (.pointer none)) (hsh : w.shape? b = some (229, 2)) (hfz : w.frozen? ⟨b, 0, none⟩ = false) :
    Calls Tryz.prog 241 #[.pointer (some ⟨b, 0, none⟩)] w fun e w' => e = .returned (.tuple #[]) ∧ w' = w.setCell ⟨b, 0, none⟩ (.pointer (some ⟨b, 0, none⟩)) := by
  obtain ⟨j, hj, hjs⟩ := Option.map_eq_some_iff.1 szBuilder
  go_enter Tryz.func241, Tryz.ntmps241
  go_wp2
  rw [Lib.run_to_unsafe w ⟨b, 0, none⟩ Tryz.underlying227 Tryz.underlying262 hj (by rw [hjs]; decide) hsh (Nat.zero_lt_succ 1)]
  simp only [Result.andThen]
  rw [Oper.upon_value]
  go_wp2
  rw [run_callFunc_extern Tryz.func257 (by kernel_rfl) (by kernel_rfl) (by kernel_rfl) (e := Extern.AbiNoEscape.same) (by kernel_rfl)]
  rw [Lib.run_noEscape]
  simp only [Result.andThen]
  rw [Oper.upon_value]
  go_wp2
  rw [Lib.run_from_unsafe w ⟨b, 0, none⟩ Tryz.underlying262 Tryz.underlying227 hj hsh liesBuilder]
  simp only [Result.andThen]
  rw [Oper.upon_value]
  go_wp2
  go_end0
  exact ⟨rfl, rfl⟩

theorem copyCheck_any (B b : Nat) (bs : List Value) (w : World) (h : Lib.IsBuilder 229 5 B b bs w) :
    Calls Tryz.prog 241 #[.pointer (some ⟨b, 0, none⟩)] w fun e w' => e = .returned (.tuple #[]) ∧ (Lib.BuilderAt 229 5 B b (.pointer (some ⟨b, 0, none⟩)) bs w' ∧ Below B w w' ∧ Lib.OthersKept 5 (some b) w w') := by
  rcases h with h | h
  · refine (copyCheck_fresh b w h.cell0 h.shape h.frozen0).mono ?_
    rintro e w' ⟨rfl, rfl⟩
    exact ⟨rfl, h.used _, (Below.refl B w).setCell (p := ⟨b, 0, none⟩) h.1 _, (Lib.OthersKept.refl _ (some b) w).setCell ⟨b, 0, none⟩ rfl _⟩
  · refine (copyCheck_used b w h.cell0).mono ?_
    rintro e w' ⟨rfl, rfl⟩
    exact ⟨rfl, h, Below.refl B _, Lib.OthersKept.refl _ _ _⟩

set_option maxHeartbeats 2000000 in
set_option maxRecDepth 100000 in
theorem writeString_any (B b : Nat) (bs : List Value) (s : ByteArray) (w : World) (h : Lib.IsBuilder 229 5 B b bs w) (hlen : bs.length + s.size ≤ 140737488355328) (hBw : B ≤ w.heap.size) :
    Calls Tryz.prog 224 #[.pointer (some ⟨b, 0, none⟩), .string s] w fun e w' => e = .returned (.tuple #[.int .i64 s.size, .nilIface]) ∧ (Lib.BuilderAt 229 5 B b (.pointer (some ⟨b, 0, none⟩)) (bs ++ Lib.strCells s) w' ∧ Below B w w' ∧ Lib.OthersKept 5 (some b) w w') := by
  obtain ⟨i0, hi, hz0, hz1, hz2⟩ := info_parts infoU8
  go_enter Tryz.func224, Tryz.ntmps224
  go_wp2_with (go_at_call 241; refine (copyCheck_any B b bs _ h).mono ?_)
  rintro e w1 ⟨rfl, h1, hb1, hk1⟩
  obtain ⟨hB, v, hbk, hown, hne⟩ := h1
  have c0 : w1.cell? ⟨b, 0, none⟩ = some (.pointer (some ⟨b, 0, none⟩)) := by rw [Lib.cell_of_heap hbk]; rfl
  have c1 : w1.cell? ⟨b, 1, none⟩ = some v := by rw [Lib.cell_of_heap hbk]; rfl
  go_wp2_with (at_builtin; refine Lib.wpList_append_own_string _ rfl _ _ 156 9 rfl B 5 i0 Tryz.underlying156 Tryz.underlying9 hi hz0 hz1 hz2 _ _ _ rfl hown s rfl ?c3 ?c4 ?c5 ?_)
  case c3 => unfold maxLen; omega
  case c4 => omega
  case c5 => have := hb1.size; omega
  intro v' w2 hown' hgrow _
  have hlt : b < w1.heap.size := by
    rcases Nat.lt_or_ge b w1.heap.size with h' | h'
    · exact h'
    · simp [Array.getElem?_eq_none h'] at hbk
  have hb2 : w2.heap[b]? = some (.cells #[.pointer (some ⟨b, 0, none⟩), v] 229 (0, 0)) := by
    rw [hgrow.block b hlt (fun e => hne e.symm)]
    exact hbk
  have d0 : w2.cell? ⟨b, 0, none⟩ = some (.pointer (some ⟨b, 0, none⟩)) := by rw [Lib.cell_of_heap hb2]; rfl
  have d1 : w2.cell? ⟨b, 1, none⟩ = some v := by rw [Lib.cell_of_heap hb2]; rfl
  have f1 : w2.frozen? ⟨b, 1, none⟩ = false := Lib.frozen_of_heap hb2 1
  obtain ⟨ao, n', cap, rfl⟩ : ∃ ao n' cap, v' = .slice ao n' cap := by
    rcases hown'.2 with ⟨hv, _⟩ | ⟨g, cap, cur, hv, _⟩
    · exact ⟨_, _, _, hv⟩
    · exact ⟨_, _, _, hv⟩
  go_wp2
  go_ret2
  refine ⟨rfl, ?_, ?_, ?_⟩
  · exact Lib.BuilderAt.put (T := 229) (e := 5) hB hb2 (bs' := bs ++ Lib.strCells s) (by simpa [Lib.strCells_length] using hown') (by decide)
  · exact (hb1.grown hgrow (by have := hb1.size; omega) (fun k hk => (hown.lt k hk).1)).setCell (p := ⟨b, 1, none⟩) hB _
  · refine (hk1.grown hgrow ?_).setCell ⟨b, 1, none⟩ rfl _
    intro j hj
    rcases hown.2 with ⟨hv, _⟩ | ⟨g, cap, cur, hv, hg, hh, _⟩
    · rw [hv] at hj; cases hj
    · rw [hv] at hj; cases hj; exact ⟨_, _, hh⟩
/-- The builder's frame keeps whatever is no cells. -/
theorem others_keeps {b : Nat} {w w' : World} (h : Lib.OthersKept 5 (some b) w w') (hs : w.heap.size ≤ w'.heap.size) {cs : Array Value} {T : TypeId} {fz : Nat × Nat} (hb : w.heap[b]? = some (.cells cs T fz)) : KeepsOthers w w' :=
  ⟨hs, fun k o hk ho => h k o hk (fun e => by cases e; rw [hb] at hk; cases hk; simp [Obj.isCells] at ho) (fun c fz e => by subst e; simp [Obj.isCells] at ho)⟩
end Go.Proofs.YtbldlibijojbjaaGreatDoor.GB
