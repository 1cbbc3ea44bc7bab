import Derived.Test.YtbldlibijojbjaaGreatDoorCRn
import Derived.Test.YtbldlibijojbjaaGreatDoorCSl
namespace Go.Proofs.YtbldlibijojbjaaGreatDoor.GB
set_option linter.unusedVariables false
set_option linter.unusedSimpArgs false
open Go.RowKit Go.Shelf
attribute [local go_sem ↓] Go.wp_at_zero Go.wp_at_succ

set_option maxHeartbeats 4000000 in
set_option maxRecDepth 100000 in
theorem rCompare_bad (s t : ByteArray) (w : World) (hW : Wd w) (hs : s.size ≤ 1000000) (ht : t.size ≤ 1000000) (h : (ratB s.data.toList && ratB t.data.toList) = false) :
    Calls Tryz.prog 119 #[.string s, .string t] w fun e w' => e = .returned (.tuple #[.int .i64 0, .int .i64 1]) ∧ Ext w w' := by
  have h1 := rboth_bad s t w hW hs ht h
  clear h
  go_enter Tryz.func119, Tryz.ntmps119
  go_wp2_with fail
  refine h1.mono ?_
  rintro e w1 ⟨rfl, hE⟩
  clear h1
  go_wp2_with fail
  go_ret2
  exact ⟨rfl, (hE.al _).al _⟩
set_option maxHeartbeats 4000000 in
set_option maxRecDepth 100000 in
theorem rCompare_e (s t a b c d : ByteArray) (w : World) (hst : (s.toList == t.toList) = true) (h1 : ∀ W, Ext w W → Calls Tryz.prog 129 #[.string s, .string t] W fun e w' => e = .returned (.tuple #[.agg #[.string a, .string b], .agg #[.string c, .string d], .int .i64 0]) ∧ Ext W w') :
    Calls Tryz.prog 119 #[.string s, .string t] w fun e w' => e = .returned (.tuple #[.int .i64 0, .int .i64 0]) ∧ Ext w w' := by
  go_enter Tryz.func119, Tryz.ntmps119
  go_wp2_with fail
  refine (h1 _ (Ext.rfl' _)).mono ?_
  rintro e w1 ⟨rfl, hE⟩
  clear h1
  go_wp2_with fail
  go_ret2
  exact ⟨rfl, (hE.al _).al _⟩
set_option maxHeartbeats 4000000 in
set_option maxRecDepth 100000 in
theorem rCompare_s (s t a b c d : ByteArray) (p q : Int) (w : World) (hst : (s.toList == t.toList) = false) (h1 : ∀ W, Ext w W → Calls Tryz.prog 129 #[.string s, .string t] W fun e w' => e = .returned (.tuple #[.agg #[.string a, .string b], .agg #[.string c, .string d], .int .i64 0]) ∧ Ext W w')
    (h2 : ∀ W, Ext w W → Calls Tryz.prog 144 #[.agg #[.string a, .string b]] W fun e w' => e = .returned (.int .i64 p) ∧ Ext W w') (h3 : ∀ W, Ext w W → Calls Tryz.prog 144 #[.agg #[.string c, .string d]] W fun e w' => e = .returned (.int .i64 q) ∧ Ext W w') (hpq : (p == q) = false) (hp1 : -1 ≤ p) (hp2 : p ≤ 1) (hq1 : -1 ≤ q) (hq2 : q ≤ 1) :
    Calls Tryz.prog 119 #[.string s, .string t] w fun e w' => e = .returned (.tuple #[.int .i64 (max (-1) (min (p - q) 1)), .int .i64 0]) ∧ Ext w w' := by
  go_enter Tryz.func119, Tryz.ntmps119
  go_wp2_with fail
  refine (h1 _ (Ext.rfl' _)).mono ?_
  rintro e w1 ⟨rfl, hE⟩
  clear h1
  obtain ⟨X1, X2, E2⟩ := boxes2 w1 #[.string a, .string b] #[.string c, .string d] 102
  have HE := Lib.hid (hE.tr E2)
  have a0 := X1.c0
  have a1 := X1.c1
  have b0 := X2.c0
  have b1 := X2.c1
  clear X1 X2 hE E2
  go_wp2_with fail
  generalize ((w1.alloc (.cells #[.string a, .string b] 102)).alloc (.cells #[.string c, .string d] 102)) = W0 at *
  generalize w1.heap.size = g at *
  go_region_held3 (fun w' => w'.cell? ⟨g, 0, none⟩ = some (.string a) ∧ w'.cell? ⟨g, 1, none⟩ = some (.string b) ∧ w'.cell? ⟨g + 1, 0, none⟩ = some (.string c) ∧ w'.cell? ⟨g + 1, 1, none⟩ = some (.string d)) (((try dsimp only); (repeat' apply And.intro) <;> assumption))
    (first
      | (go_at_call 144; (with_reducible refine (h2 _ (Ext.dr' HE)).mono ?_); rintro e w2 ⟨rfl, hE2⟩; have q0 := Ext.cellD hE2 a0; have q1 := Ext.cellD hE2 a1; have q2 := Ext.cellD hE2 b0; have q3 := Ext.cellD hE2 b1; have HE2 := Lib.hid ((Ext.dr' HE).tr hE2); clear hE2)
      | (go_at_call 144; (with_reducible refine (h3 _ HE2.out).mono ?_); rintro e w3 ⟨rfl, hE3⟩; have t0 := Ext.cellH hE3 q0; have t1 := Ext.cellH hE3 q1; have t2 := Ext.cellH hE3 q2; have t3 := Ext.cellH hE3 q3; have HE3 := Lib.hid (HE2.out.tr hE3); clear hE3))
  all_goals
    clear a0 a1 b0 b1 q0 q1 q2 q3
    go_wp2_with fail
    go_ret2
    exact ⟨rfl, HE3.out⟩
set_option maxHeartbeats 4000000 in
set_option maxRecDepth 100000 in
theorem rCompare_m (s t a b c d u v : ByteArray) (p r : Int) (w : World) (hst : (s.toList == t.toList) = false) (h1 : ∀ W, Ext w W → Calls Tryz.prog 129 #[.string s, .string t] W fun e w' => e = .returned (.tuple #[.agg #[.string a, .string b], .agg #[.string c, .string d], .int .i64 0]) ∧ Ext W w')
    (h2 : ∀ W, Ext w W → Calls Tryz.prog 144 #[.agg #[.string a, .string b]] W fun e w' => e = .returned (.int .i64 p) ∧ Ext W w') (h3 : ∀ W, Ext w W → Calls Tryz.prog 144 #[.agg #[.string c, .string d]] W fun e w' => e = .returned (.int .i64 p) ∧ Ext W w')
    (h4 : ∀ W, Ext w W → Calls Tryz.prog 145 #[.string a, .string d] W fun e w' => e = .returned (.tuple #[.string u, .int .i64 0]) ∧ Ext W w')
    (h5 : ∀ W, Ext w W → Calls Tryz.prog 145 #[.string c, .string b] W fun e w' => e = .returned (.tuple #[.string v, .int .i64 0]) ∧ Ext W w')
    (h6 : ∀ W, Ext w W → Calls Tryz.prog 146 #[.string u, .string v] W fun e w' => e = .returned (.tuple #[.int .i64 r, .int .i64 0]) ∧ Ext W w') :
    Calls Tryz.prog 119 #[.string s, .string t] w fun e w' => e = .returned (.tuple #[.int .i64 r, .int .i64 0]) ∧ Ext w w' := by
  go_enter Tryz.func119, Tryz.ntmps119
  go_wp2_with fail
  refine (h1 _ (Ext.rfl' _)).mono ?_
  rintro e w1 ⟨rfl, hE⟩
  clear h1
  obtain ⟨X1, X2, E2⟩ := boxes2 w1 #[.string a, .string b] #[.string c, .string d] 102
  have HE := Lib.hid (hE.tr E2)
  have a0 := X1.c0
  have a1 := X1.c1
  have b0 := X2.c0
  have b1 := X2.c1
  clear X1 X2 hE E2
  go_wp2_with fail
  generalize ((w1.alloc (.cells #[.string a, .string b] 102)).alloc (.cells #[.string c, .string d] 102)) = W0 at *
  generalize w1.heap.size = g at *
  go_region_held3 (fun w' => w'.cell? ⟨g, 0, none⟩ = some (.string a) ∧ w'.cell? ⟨g, 1, none⟩ = some (.string b) ∧ w'.cell? ⟨g + 1, 0, none⟩ = some (.string c) ∧ w'.cell? ⟨g + 1, 1, none⟩ = some (.string d)) (((try dsimp only); (repeat' apply And.intro) <;> assumption))
    (first
      | (go_at_call 144; (with_reducible refine (h2 _ (Ext.dr' HE)).mono ?_); rintro e w2 ⟨rfl, hE2⟩; have q0 := Ext.cellD hE2 a0; have q1 := Ext.cellD hE2 a1; have q2 := Ext.cellD hE2 b0; have q3 := Ext.cellD hE2 b1; have HE2 := Lib.hid ((Ext.dr' HE).tr hE2); clear hE2)
      | (go_at_call 144; (with_reducible refine (h3 _ HE2.out).mono ?_); rintro e w3 ⟨rfl, hE3⟩; have t0 := Ext.cellH hE3 q0; have t1 := Ext.cellH hE3 q1; have t2 := Ext.cellH hE3 q2; have t3 := Ext.cellH hE3 q3; have HE3 := Lib.hid (HE2.out.tr hE3); clear hE3))
  all_goals
    clear a0 a1 b0 b1 q0 q1 q2 q3
    go_wp2_with fail
    refine (h4 _ HE3.out).mono ?_
    rintro e w4 ⟨rfl, hE4⟩
    have v0 := Ext.cellH hE4 t0
    have v1 := Ext.cellH hE4 t1
    have v2 := Ext.cellH hE4 t2
    have v3 := Ext.cellH hE4 t3
    have HE4 := Lib.hid (HE3.out.tr hE4)
    clear hE4 t0 t1 t2 t3
    go_wp2_with fail
    refine (h5 _ HE4.out).mono ?_
    rintro e w5 ⟨rfl, hE5⟩
    have HE5 := Lib.hid (HE4.out.tr hE5)
    clear hE5
    go_wp2_with fail
    refine (h6 _ HE5.out).mono ?_
    rintro e w6 ⟨rfl, hE6⟩
    have HE6 := Lib.hid (HE5.out.tr hE6)
    clear hE6
    go_wp2_with fail
    go_ret2
    exact ⟨rfl, HE6.out⟩
/-- How two numbers compare. -/
def cmpR (x y : Rat) : Int := if x < y then -1 else if y < x then 1 else 0
theorem sgnZ_cases (z : Int) : (z < 0 ∧ sgnZ z = -1) ∨ (z = 0 ∧ sgnZ z = 0) ∨ (0 < z ∧ sgnZ z = 1) := by
  unfold sgnZ
  rcases (by omega : z < 0 ∨ z = 0 ∨ 0 < z) with h | h | h
  · left; rw [if_neg (by omega), if_pos h]; exact ⟨h, rfl⟩
  · right; left; rw [if_pos h]; exact ⟨h, rfl⟩
  · right; right; rw [if_neg (by omega), if_neg (by omega)]; exact ⟨h, rfl⟩
theorem cmpR_sub (x y : Rat) : sgnZ (x.num * y.den + -(y.num * x.den)) = cmpR x y := by
  unfold cmpR
  simp only [Rat.lt_iff]
  rcases sgnZ_cases (x.num * y.den + -(y.num * x.den)) with ⟨h, e⟩ | ⟨h, e⟩ | ⟨h, e⟩
  · rw [e, if_pos (by omega)]
  · rw [e, if_neg (by omega), if_neg (by omega)]
  · rw [e, if_neg (by omega), if_pos (by omega)]
theorem cmpR_sign (x y : Rat) (h : sgnZ x.num ≠ sgnZ y.num) : max (-1) (min (sgnZ x.num - sgnZ y.num) 1) = cmpR x y := by
  have dx : (0 : Int) < x.den := Int.natCast_pos.2 x.den_pos
  have dy : (0 : Int) < y.den := Int.natCast_pos.2 y.den_pos
  unfold cmpR
  simp only [Rat.lt_iff]
  have neg : ∀ {a b : Int}, a < 0 → 0 < b → a * b < 0 := fun ha hb => Int.mul_neg_of_neg_of_pos ha hb
  have pos : ∀ {a b : Int}, 0 < a → 0 < b → 0 < a * b := fun ha hb => Int.mul_pos ha hb
  have zer : ∀ {a b : Int}, a = 0 → a * b = 0 := fun ha => by rw [ha, Int.zero_mul]
  rcases sgnZ_cases x.num with ⟨h1, e1⟩ | ⟨h1, e1⟩ | ⟨h1, e1⟩ <;> rcases sgnZ_cases y.num with ⟨h2, e2⟩ | ⟨h2, e2⟩ | ⟨h2, e2⟩ <;> rw [e1, e2] at h ⊢
  · exact absurd rfl h
  · have := neg h1 dy; have := zer h2 (b := x.den); rw [if_pos (by omega)]; rfl
  · have := neg h1 dy; have := pos h2 dx; rw [if_pos (by omega)]; rfl
  · have := zer h1 (b := y.den); have := neg h2 dx; rw [if_neg (by omega), if_pos (by omega)]; rfl
  · exact absurd rfl h
  · have := zer h1 (b := y.den); have := pos h2 dx; rw [if_pos (by omega)]; rfl
  · have := pos h1 dy; have := neg h2 dx; rw [if_neg (by omega), if_pos (by omega)]; rfl
  · have := pos h1 dy; have := zer h2 (b := x.den); rw [if_neg (by omega), if_pos (by omega)]; rfl
  · exact absurd rfl h
theorem rtx_eq (x y : Rat) : (((⟨(rtext x).toArray⟩ : ByteArray).toList == (⟨(rtext y).toArray⟩ : ByteArray).toList)) = decide (x = y) := by
  rw [ByteArray.toList_eq, ByteArray.toList_eq]
  show (rtext x == rtext y) = _
  by_cases h : x = y
  · subst h; simp
  · rw [decide_eq_false h, beq_eq_false_iff_ne]; intro e; exact h (rtext_inj e)
theorem rCompare_q (x y : Rat) (m n : Nat) (w : World) (hW : Wd w) (hx : Bd x m) (hy : Bd y n) (hk : m + n + 1 ≤ KK) :
    Calls Tryz.prog 119 #[rtx x, rtx y] w fun e w' => e = .returned (.tuple #[.int .i64 (cmpR x y), .int .i64 0]) ∧ Ext w w' := by
  by_cases hmn : m + 1 ≤ KK ∧ n + 1 ≤ KK
  case neg => 
    exfalso
    omega
  have fx := hx.fit hmn.1
  have fy := hy.fit hmn.2
  have hb := fun W (hE : Ext w W) => rboth_q x y m n W (hW.ext hE) hx hy hmn.1 hmn.2
  have he := rtx_eq x y
  by_cases hxy : x = y
  · subst hxy
    rw [decide_eq_true rfl] at he
    have h := rCompare_e _ _ _ _ _ _ w he hb
    have e0 : cmpR x x = 0 := by unfold cmpR; rw [if_neg Rat.lt_irrefl, if_neg Rat.lt_irrefl]
    rw [e0]
    exact h
  · rw [decide_eq_false hxy] at he
    by_cases hs : sgnZ x.num = sgnZ y.num
    · have b1 := hx.fit_nd hy
      have b2 := hy.fit_nd hx
      rw [Nat.add_comm n m] at b2
      have a1 : (x.num * (y.den : Int)).natAbs = x.num.natAbs * y.den := by rw [Int.natAbs_mul]; simp
      have a2 : (y.num * (x.den : Int)).natAbs = y.num.natAbs * x.den := by rw [Int.natAbs_mul]; simp
      have p2 : 2 ^ (m + n) + 2 ^ (m + n) = 2 ^ (m + n + 1) := by rw [Nat.pow_succ]; omega
      have iy : itx (y.den : Int) = dtx y.den := by show Value.string _ = Value.string _; rw [itoa_nat]
      have ix : itx (x.den : Int) = dtx x.den := by show Value.string _ = Value.string _; rw [itoa_nat]
      have h4 : ∀ W, Ext w W → Calls Tryz.prog 145 #[itx x.num, dtx y.den] W fun e w' => e = .returned (.tuple #[itx (x.num * y.den), .int .i64 0]) ∧ Ext W w' := by
        intro W hE
        have h := Mul_z x.num (y.den : Int) W (hW.ext hE) fx.1 (by simpa using fy.2) (by simpa using Fit.of (by omega) b1)
        rwa [iy] at h
      have h5 : ∀ W, Ext w W → Calls Tryz.prog 145 #[itx y.num, dtx x.den] W fun e w' => e = .returned (.tuple #[itx (y.num * x.den), .int .i64 0]) ∧ Ext W w' := by
        intro W hE
        have h := Mul_z y.num (x.den : Int) W (hW.ext hE) fy.1 (by simpa using fx.2) (by simpa using Fit.of (by omega) b2)
        rwa [ix] at h
      have h6 : ∀ W, Ext w W → Calls Tryz.prog 146 #[itx (x.num * y.den), itx (y.num * x.den)] W fun e w' => e = .returned (.tuple #[.int .i64 (cmpR x y), .int .i64 0]) ∧ Ext W w' := by
        intro W hE
        have h := Compare_z (x.num * y.den) (y.num * x.den) W (hW.ext hE) (by rw [a1]; exact Fit.of (by omega) b1) (by rw [a2]; exact Fit.of (by omega) b2) (by rw [a1, a2]; exact Fit.of (k := m + n + 1) (by omega) (by omega))
        rwa [cmpR_sub] at h
      have hs1 : ∀ W, Ext w W → Calls Tryz.prog 144 #[FV x] W fun e w' => e = .returned (.int .i64 (sgnZ x.num)) ∧ Ext W w' := fun W _ => rsign_q x W fx.1
      have hs2 : ∀ W, Ext w W → Calls Tryz.prog 144 #[FV y] W fun e w' => e = .returned (.int .i64 (sgnZ x.num)) ∧ Ext W w' := fun W _ => by rw [hs]; exact rsign_q y W fy.1
      exact rCompare_m _ _ _ _ _ _ _ _ _ _ w he hb hs1 hs2 h4 h5 h6
    · rw [← cmpR_sign x y hs]
      have c1 := sgnZ_cases x.num
      have c2 := sgnZ_cases y.num
      exact rCompare_s _ _ _ _ _ _ _ _ w he hb (fun W _ => rsign_q x W fx.1) (fun W _ => rsign_q y W fy.1) (beq_eq_false_iff_ne.2 hs) (by omega) (by omega) (by omega) (by omega)
end Go.Proofs.YtbldlibijojbjaaGreatDoor.GB

namespace Go.Proofs.YtbldlibijojbjaaGreatDoor.GB
set_option linter.unusedVariables false
set_option linter.unusedSimpArgs false
open Go.RowKit Go.Shelf
attribute [local go_sem ↓] Go.wp_at_zero Go.wp_at_succ

/-- None of the first k is one. -/
def NoneB (b : ByteArray → Bool) (l : List ByteArray) (k : Nat) : Prop := ∀ j, (h : j < l.length) → j < k → b l[j] = false
theorem NoneB.step {b : ByteArray → Bool} {l : List ByteArray} {k : Nat} (h : NoneB b l k) (hk : k < l.length) (h0 : b l[k] = false) : NoneB b l (k + 1) := by
  intro j hj hjk
  by_cases e : j = k
  · subst e; exact h0
  · exact h j hj (by omega)
theorem NoneB.all {b : ByteArray → Bool} {l : List ByteArray} {k : Nat} (h : NoneB b l k) (hk : l.length ≤ k) : l.any b = false := by
  rw [List.any_eq_false]
  intro x hx
  obtain ⟨j, hj, rfl⟩ := List.mem_iff_getElem.1 hx
  rw [h j hj (by omega)]; simp
theorem any_of {b : ByteArray → Bool} {l : List ByteArray} {k : Nat} (hk : k < l.length) (h0 : b l[k] = true) : l.any b = true := by
  rw [List.any_eq_true]
  exact ⟨l[k], List.getElem_mem _, h0⟩
/-- What IndexFunc answers. -/
def IdxA (r : Bool) (w : World) (e : Ending) (w' : World) : Prop := ∃ i : Int, e = .returned (.int .i64 i) ∧ decide (0 ≤ i) = r ∧ Ext w w'
set_option maxHeartbeats 1000000 in
set_option maxRecDepth 100000 in
theorem indexf_any (A : Option Addr) (c : Nat) (l : List ByteArray) (b : ByteArray → Bool) (w : World) (hl : l.length ≤ c) (hm : c ≤ 9223372036854775807) (hr : RdS w A l)
    (hc : ∀ j, (h : j < l.length) → ∀ W, Ext w W → Calls Tryz.prog 52 #[.string l[j]] W fun e w' => e = .returned (.bool (b l[j])) ∧ Ext W w') :
    Calls Tryz.prog 90 #[.slice A l.length c, .func (.func 52) #[] #[]] w (IdxA (l.any b) w) := by
  go_enter Tryz.func90, Tryz.ntmps90
  go_wp2_with fail
  go_loopw [8] (fun v wr => ∃ k : Nat, k ≤ l.length ∧ v = .int .i64 k ∧ Hid (NoneB b l k) ∧ Hid (Ext w wr)) (fun v _ => l.length - (intOf v).toNat)
  case atStart => exact ⟨0, Nat.zero_le _, rfl, (fun j hj h => by omega), Ext.rfl' _⟩
  case round =>
    obtain ⟨k, hk, rfl, HN, HE⟩ := hrel
    by_cases hlt : k < l.length
    · have hck := hc k hlt
      obtain ⟨q, off, rfl, hb, hcell⟩ := hr k hlt
      have hcw := HE.out.cell hcell
      cases h0 : b l[k]
      · have HN2 := Lib.hid (HN.out.step hlt h0)
        rw [h0] at hck
        clear h0
        generalize l[k] = s at *
        go_wp2_with fail
        refine (hck _ HE.out).mono ?_
        rintro e w1 ⟨rfl, hE1⟩
        have HE1 := Lib.hid (HE.out.tr hE1)
        clear hE1
        go_wp2_with fail
        go_roundw
        case rel => exact ⟨k + 1, by omega, by go_num, HN2, HE1⟩
        case measure => simp [intOf]; omega
      · have HT := Lib.hid (any_of hlt h0)
        rw [h0] at hck
        clear h0
        generalize l[k] = s at *
        go_wp2_with fail
        refine (hck _ HE.out).mono ?_
        rintro e w1 ⟨rfl, hE1⟩
        have HE1 := Lib.hid (HE.out.tr hE1)
        clear hE1
        go_wp2_with fail
        go_ret
        exact ⟨_, rfl, by rw [HT.out]; simp, HE1.out⟩
    · have HT := Lib.hid (HN.out.all (Nat.not_lt.1 hlt))
      go_wp2_with fail
      go_ret
      exact ⟨_, rfl, by rw [HT.out]; rfl, HE.out⟩
set_option maxHeartbeats 1000000 in
set_option maxRecDepth 100000 in
theorem containsf_any (A : Option Addr) (c : Nat) (l : List ByteArray) (b : ByteArray → Bool) (w : World) (hl : l.length ≤ c) (hm : c ≤ 9223372036854775807) (hr : RdS w A l)
    (hc : ∀ j, (h : j < l.length) → ∀ W, Ext w W → Calls Tryz.prog 52 #[.string l[j]] W fun e w' => e = .returned (.bool (b l[j])) ∧ Ext W w') :
    Calls Tryz.prog 51 #[.slice A l.length c, .func (.func 52) #[] #[]] w fun e w' => e = .returned (.bool (l.any b)) ∧ Ext w w' := by
  have h := indexf_any A c l b w hl hm hr hc
  clear hr hc
  generalize l.any b = r at h ⊢
  generalize l.length = n at *
  go_enter Tryz.func51, Tryz.ntmps51
  go_wp2_with fail
  refine h.mono ?_
  rintro e w1 ⟨i, rfl, hi, hE⟩
  clear h
  go_wp2_with fail
  go_ret
  exact ⟨rfl, hE⟩
set_option maxHeartbeats 1000000 in
set_option maxRecDepth 100000 in
theorem vclos (s : ByteArray) (r : Bool) (w : World) (h : Calls Tryz.prog 41 #[.string s] w fun e w' => e = .returned (.bool r) ∧ Ext w w') :
    Calls Tryz.prog 52 #[.string s] w fun e w' => e = .returned (.bool (!r)) ∧ Ext w w' := by
  cases r
  all_goals
    go_enter Tryz.func52, Tryz.ntmps52
    go_wp2_with fail
    refine h.mono ?_
    rintro e w1 ⟨rfl, hE⟩
    clear h
    go_wp2_with fail
    go_ret
    exact ⟨rfl, hE⟩
/-- Is the last text zero's? -/
def lastZ (l : List ByteArray) : Bool := match l.getLast? with | some s => isZ s | none => false
/-- Is a list of texts a polynomial's? -/
noncomputable def polB (l : List ByteArray) : Bool := decide (l.length ≤ 17) && !(lastZ l) && !(l.any fun s => !ratB s.data.toList)
set_option maxHeartbeats 1000000 in
set_option maxRecDepth 100000 in
theorem pvalid_g (A : Option Addr) (c : Nat) (l : List ByteArray) (b : ByteArray → Bool) (w : World) (hl : l.length ≤ c) (hm : c ≤ 9223372036854775807) (hr : RdS w A l)
    (hc : l.length ≤ 17 → ∀ j, (h : j < l.length) → ∀ W, Ext w W → Calls Tryz.prog 52 #[.string l[j]] W fun e w' => e = .returned (.bool (b l[j])) ∧ Ext W w') :
    Calls Tryz.prog 16 #[.slice A l.length c] w fun e w' => e = .returned (.bool (decide (l.length ≤ 17) && !(lastZ l) && !(l.any b))) ∧ Ext w w' := by
  by_cases h17 : 17 < l.length
  · have e1 : decide (l.length ≤ 17) = false := decide_eq_false (by omega)
    rw [e1]
    clear hc hr e1
    generalize l.length = n at *
    go_enter Tryz.func16, Tryz.ntmps16
    go_wp2_with fail
    go_ret
    exact ⟨rfl, Ext.rfl' _⟩
  · have e1 : decide (l.length ≤ 17) = true := decide_eq_true (by omega)
    rw [e1]
    have h := containsf_any A c l b w hl hm hr (hc (by omega))
    clear hc e1
    generalize l.any b = r at h ⊢
    rcases Nat.eq_zero_or_pos l.length with h0 | h0
    · have hn : l = [] := List.eq_nil_of_length_eq_zero h0
      subst hn
      clear hr h0
      simp only [List.length_nil] at *
      go_enter Tryz.func16, Tryz.ntmps16
      go_wp2_with fail
      refine h.mono ?_
      rintro e w1 ⟨rfl, hE⟩
      clear h
      go_wp2_with fail
      go_ret
      exact ⟨rfl, hE⟩
    · obtain ⟨k, hk⟩ : ∃ k, l.length = k + 1 := ⟨l.length - 1, by omega⟩
      obtain ⟨q, off, rfl, hb, hcell⟩ := hr k (by omega)
      have hlast : l.getLast? = some (l[k]'(by omega)) := by
        have e : l.length - 1 = k := by omega
        rw [List.getLast?_eq_getElem?, e]
        exact List.getElem?_eq_getElem _
      have hlz : lastZ l = isZ (l[k]'(by omega)) := by unfold lastZ; rw [hlast]
      rw [hlz]
      clear hlz
      generalize l[k]'(by omega) = s at *
      rw [hk] at h hl ⊢
      clear hr hlast
      cases hz : isZ s
      · have hz1 := isZ_sp _ _ hz
        clear hz
        have hk17 : ¬ (17 < k + 1) := by omega
        clear h17 hk h0
        go_enter Tryz.func16, Tryz.ntmps16
        go_wp2_with fail
        refine h.mono ?_
        rintro e w1 ⟨rfl, hE⟩
        clear h
        go_wp2_with fail
        go_ret
        exact ⟨rfl, hE⟩
      · have hz1 := isZ_sp _ _ hz
        clear hz
        have hk17 : ¬ (17 < k + 1) := by omega
        clear h17 hk h0
        go_enter Tryz.func16, Tryz.ntmps16
        go_wp2_with fail
        go_ret
        exact ⟨rfl, Ext.rfl' _⟩
end Go.Proofs.YtbldlibijojbjaaGreatDoor.GB
