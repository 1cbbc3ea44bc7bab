import Derived.Test.YtadimepmoljnpaaGreatDoorCUl
import Derived.Test.YtadimepmoljnpaaGreatDoorCUq
import Derived.Test.YtadimepmoljnpaaGreatDoorMHm
import Derived.Test.YtadimepmoljnpaaGreatDoorMEn
namespace Go.Proofs.YtadimepmoljnpaaGreatDoor.GB
set_option linter.unusedVariables false
set_option linter.unusedSimpArgs false
open Go.RowKit Go.Shelf
attribute [local go_sem ↓] Go.wp_at_zero Go.wp_at_succ
/-- Short lists, or too long ones, of numbers of at most 8 bytes. -/
def few9 (l : List ByteArray) : Bool := l.all (fun s => decide (s.size ≤ 8)) && (decide (l.length ≤ 6) || decide (17 < l.length))
theorem few9_no {l : List ByteArray} {k : Nat} (hk : k < l.length) (h : 8 < l[k].size) : few9 l = false := by
  unfold few9
  have : l.all (fun s => decide (s.size ≤ 8)) = false := by
    rw [List.all_eq_false]
    exact ⟨l[k], List.getElem_mem _, by simp; omega⟩
  rw [this]; rfl
set_option maxHeartbeats 8000000 in
set_option maxRecDepth 200000 in
theorem Few9_v (v1 : Value) (l : List ByteArray) (w : World) (h1 : SlS w v1 l) :
    Calls Tryz.prog 40 #[v1] w fun e w' => e = .returned (.bool (few9 l)) ∧ w = w' := by
  obtain ⟨A, c, rfl, a1, a2, a3⟩ := h1
  obtain ⟨n, hn⟩ : ∃ n, n = l.length := ⟨_, rfl⟩
  have HN : Hid (l.length = n) := hn.symm
  rw [show l.length = n from HN.out] at a1 ⊢
  clear hn
  go_enter Tryz.func40, Tryz.ntmps40
  go_wp2
  go_loop [3] (fun v => ∃ k : Nat, k ≤ n ∧ v = .int .i64 (k : Int) ∧ Hid (∀ s ∈ l.take k, s.size ≤ 8)) (fun v => n - (intOf v).toNat)
  case atStart => exact ⟨0, Nat.zero_le _, rfl, fun s hs => by cases hs⟩
  case round =>
    obtain ⟨k, hk, rfl, HT⟩ := hrel
    by_cases hlt : k < n
    · have k1 : k < l.length := by rw [HN.out]; exact hlt
      obtain ⟨b, off, rfl, hb, hc⟩ := a3 k k1
      by_cases hs : l[k].size ≤ 8
      · have HT' : Hid (∀ s ∈ l.take (k + 1), s.size ≤ 8) := by
          intro s hm
          rw [List.take_succ_eq_append_getElem k1] at hm
          rcases List.mem_append.1 hm with hm | hm
          · exact HT.out s hm
          · rw [List.mem_singleton.1 hm]; exact hs
        generalize l[k] = s at *
        have hs2 : ¬ ((8 : Int) < (s.size : Int)) := by omega
        have hs3 : ¬ (8 < s.size) := by omega
        go_wp2
        go_round
        case rel => exact ⟨k + 1, by omega, by go_num, HT'⟩
        case measure => simp [intOf]; omega
      · have HR := Lib.hid (few9_no k1 (Nat.not_le.1 hs))
        generalize l[k] = s at *
        have hs2 : ((8 : Int) < (s.size : Int)) := by omega
        have hs3 : (8 < s.size) := by omega
        go_wp2
        go_ret
        exact ⟨by rw [HR.out]; rfl, rfl⟩
    · have HA : Hid (few9 l = (decide (n ≤ 6) || decide (17 < n))) := by
        have := HT.out
        rw [List.take_of_length_le (by have : l.length = n := HN.out; omega)] at this
        show few9 l = _
        unfold few9
        have : l.all (fun s => decide (s.size ≤ 8)) = true := by rw [List.all_eq_true]; intro s hs; simpa using this s hs
        rw [this, show l.length = n from HN.out]; rfl
      have hk' : k = n := by omega
      subst hk'
      by_cases c1 : k ≤ 6
      · have c2 : ((k : Int) ≤ 6) := by omega
        have HA2 : Hid (few9 l = true) := by rw [HA.out, decide_eq_true c1]; rfl
        clear HA
        go_wp2
        go_ret
        exact ⟨by rw [HA2.out]; rfl, rfl⟩
      · have c2 : ¬ ((k : Int) ≤ 6) := by omega
        by_cases c3 : 17 < k
        · have c4 : (17 : Int) < (k : Int) := by omega
          have HA2 : Hid (few9 l = true) := by rw [HA.out, decide_eq_false c1, decide_eq_true c3]; rfl
          clear HA
          go_wp2
          go_ret
          exact ⟨by rw [HA2.out]; rfl, rfl⟩
        · have c4 : ¬ (17 : Int) < (k : Int) := by omega
          have HA2 : Hid (few9 l = false) := by rw [HA.out, decide_eq_false c1, decide_eq_false c3]; rfl
          clear HA
          go_wp2
          go_ret
          exact ⟨by rw [HA2.out]; rfl, rfl⟩
set_option maxHeartbeats 8000000 in
set_option maxRecDepth 200000 in
theorem few1_true (a b : ByteArray) (w : World) (ha : a.size ≤ 140737488351232) (hb : b.size ≤ 140737488351232) (h : 24 < a.size + b.size) :
    Calls Tryz.prog 42 #[.agg #[.string a, .string b]] w fun e w' => e = .returned (.bool true) ∧ Ext w w' := by
  have z1 : IntKind.i64.wrap ((a.size : Int) + (b.size : Int)) = (a.size : Int) + (b.size : Int) := by rw [IntKind.wrap_i64]; omega
  have z2 : (24 : Int) < (a.size : Int) + (b.size : Int) := by omega
  clear h ha hb
  have b1 := Bx.new w #[.string a, .string b] 26
  have E0 := (Ext.rfl' w).al (.cells #[.string a, .string b] 26)
  go_enter Tryz.func42, Tryz.ntmps42
  go_wp2_with fail
  go_ret
  exact ⟨rfl, E0⟩
set_option maxHeartbeats 8000000 in
set_option maxRecDepth 200000 in
theorem idx1_true (g c : Nat) (a b : ByteArray) (w : World) (c0 : w.cell? ⟨g, 0, none⟩ = some (.string a)) (c1 : w.cell? ⟨g, 1, none⟩ = some (.string b)) (ha : a.size ≤ 140737488351232) (hb : b.size ≤ 140737488351232) (h : 24 < a.size + b.size) :
    Calls Tryz.prog 79 #[.slice (some ⟨g, 0, none⟩) 1 c, .func (.func 42) #[] #[]] w fun e w' => e = .returned (.int .i64 (0)) ∧ Ext w w' := by
  have HF : Hid (∀ W, Calls Tryz.prog 42 #[.agg #[.string a, .string b]] W fun e w' => e = .returned (.bool true) ∧ Ext W w') := fun W => few1_true a b W ha hb h
  clear ha hb h
  go_enter Tryz.func79, Tryz.ntmps79
  go_wp2_with fail
  go_loopw [8] (fun v wr => ∃ k : Nat, k = 0 ∧ v = .int .i64 k ∧ Hid (Ext w wr)) (fun v _ => 1 - (intOf v).toNat)
  case atStart => exact ⟨0, rfl, rfl, Lib.hid (Ext.rfl' w)⟩
  case round =>
    obtain ⟨k, hk, rfl, HE⟩ := hrel
    subst hk
    have d0 := HE.out.cell c0
    have d1 := HE.out.cell c1
    go_wp2_with fail
    refine (HF.out _).mono ?_
    rintro e w1 ⟨rfl, hE⟩
    have HE2 := Lib.hid (HE.out.tr hE)
    clear hE HE
    go_wp2_with fail
    go_ret
    exact ⟨rfl, HE2.out⟩
set_option maxHeartbeats 8000000 in
set_option maxRecDepth 200000 in
theorem con1_true (g c : Nat) (a b : ByteArray) (w : World) (c0 : w.cell? ⟨g, 0, none⟩ = some (.string a)) (c1 : w.cell? ⟨g, 1, none⟩ = some (.string b)) (ha : a.size ≤ 140737488351232) (hb : b.size ≤ 140737488351232) (h : 24 < a.size + b.size) :
    Calls Tryz.prog 41 #[.slice (some ⟨g, 0, none⟩) 1 c, .func (.func 42) #[] #[]] w fun e w' => e = .returned (.bool true) ∧ Ext w w' := by
  have HF := Lib.hid (idx1_true g c a b w c0 c1 ha hb h)
  clear c0 c1 ha hb h
  go_enter Tryz.func41, Tryz.ntmps41
  go_wp2_with fail
  refine (HF.out).mono ?_
  rintro e w1 ⟨rfl, hE⟩
  have HE := Lib.hid hE
  clear hE HF
  go_wp2_with fail
  go_ret
  exact ⟨rfl, HE.out⟩
set_option maxHeartbeats 8000000 in
set_option maxRecDepth 200000 in
theorem few1_false (a b : ByteArray) (w : World) (ha : a.size ≤ 140737488351232) (hb : b.size ≤ 140737488351232) (h : a.size + b.size ≤ 24) :
    Calls Tryz.prog 42 #[.agg #[.string a, .string b]] w fun e w' => e = .returned (.bool false) ∧ Ext w w' := by
  have z1 : IntKind.i64.wrap ((a.size : Int) + (b.size : Int)) = (a.size : Int) + (b.size : Int) := by rw [IntKind.wrap_i64]; omega
  have z2 : ¬ (24 : Int) < (a.size : Int) + (b.size : Int) := by omega
  clear h ha hb
  have b1 := Bx.new w #[.string a, .string b] 26
  have E0 := (Ext.rfl' w).al (.cells #[.string a, .string b] 26)
  go_enter Tryz.func42, Tryz.ntmps42
  go_wp2_with fail
  go_ret
  exact ⟨rfl, E0⟩
set_option maxHeartbeats 8000000 in
set_option maxRecDepth 200000 in
theorem idx1_false (g c : Nat) (a b : ByteArray) (w : World) (c0 : w.cell? ⟨g, 0, none⟩ = some (.string a)) (c1 : w.cell? ⟨g, 1, none⟩ = some (.string b)) (ha : a.size ≤ 140737488351232) (hb : b.size ≤ 140737488351232) (h : a.size + b.size ≤ 24) :
    Calls Tryz.prog 79 #[.slice (some ⟨g, 0, none⟩) 1 c, .func (.func 42) #[] #[]] w fun e w' => e = .returned (.int .i64 (-1)) ∧ Ext w w' := by
  have HF : Hid (∀ W, Calls Tryz.prog 42 #[.agg #[.string a, .string b]] W fun e w' => e = .returned (.bool false) ∧ Ext W w') := fun W => few1_false a b W ha hb h
  clear ha hb h
  go_enter Tryz.func79, Tryz.ntmps79
  go_wp2_with fail
  go_loopw [8] (fun v wr => ∃ k : Nat, k ≤ 1 ∧ v = .int .i64 k ∧ Hid (Ext w wr)) (fun v _ => 1 - (intOf v).toNat)
  case atStart => exact ⟨0, Nat.zero_le _, rfl, Lib.hid (Ext.rfl' w)⟩
  case round =>
    obtain ⟨k, hk, rfl, HE⟩ := hrel
    rcases (by omega : k = 0 ∨ k = 1) with rfl | rfl
    · have d0 := HE.out.cell c0
      have d1 := HE.out.cell c1
      go_wp2_with fail
      refine (HF.out _).mono ?_
      rintro e w1 ⟨rfl, hE⟩
      have HE2 := Lib.hid (HE.out.tr hE)
      clear hE HE
      go_wp2_with fail
      go_roundw
      case rel => exact ⟨1, by omega, by go_num, HE2⟩
      case measure => simp [intOf]
    · go_wp2_with fail
      go_ret
      exact ⟨rfl, HE.out⟩
set_option maxHeartbeats 8000000 in
set_option maxRecDepth 200000 in
theorem con1_false (g c : Nat) (a b : ByteArray) (w : World) (c0 : w.cell? ⟨g, 0, none⟩ = some (.string a)) (c1 : w.cell? ⟨g, 1, none⟩ = some (.string b)) (ha : a.size ≤ 140737488351232) (hb : b.size ≤ 140737488351232) (h : a.size + b.size ≤ 24) :
    Calls Tryz.prog 41 #[.slice (some ⟨g, 0, none⟩) 1 c, .func (.func 42) #[] #[]] w fun e w' => e = .returned (.bool false) ∧ Ext w w' := by
  have HF := Lib.hid (idx1_false g c a b w c0 c1 ha hb h)
  clear c0 c1 ha hb h
  go_enter Tryz.func41, Tryz.ntmps41
  go_wp2_with fail
  refine (HF.out).mono ?_
  rintro e w1 ⟨rfl, hE⟩
  have HE := Lib.hid hE
  clear hE HF
  go_wp2_with fail
  go_ret
  exact ⟨rfl, HE.out⟩
set_option maxHeartbeats 8000000 in
set_option maxRecDepth 200000 in
theorem few_v9 (v : Value) (l : List ByteArray) (g c : Nat) (a b : ByteArray) (w : World) (hv : SlS w v l) (c0 : w.cell? ⟨g, 0, none⟩ = some (.string a)) (c1 : w.cell? ⟨g, 1, none⟩ = some (.string b)) (ha : a.size ≤ 140737488351232) (hb : b.size ≤ 140737488351232) :
    Calls Tryz.prog 11 #[v, .slice (some ⟨g, 0, none⟩) 1 c] w fun e w' => e = .returned (.bool (few9 l && decide (a.size + b.size ≤ 24))) ∧ Ext w w' := by
  have HF := Lib.hid (Few9_v v l w hv)
  cases h9 : few9 l
  · rw [h9] at HF
    clear hv c0 c1 ha hb h9
    go_enter Tryz.func11, Tryz.ntmps11
    go_wp2_with fail
    refine (HF.out).mono ?_
    rintro e w1 ⟨rfl, rfl⟩
    clear HF
    go_wp2_with fail
    go_ret
    exact ⟨rfl, Ext.rfl' _⟩
  · rw [h9] at HF
    by_cases h : a.size + b.size ≤ 24
    · have HC := Lib.hid (con1_false g c a b w c0 c1 ha hb h)
      rw [decide_eq_true h]
      clear hv c0 c1 ha hb h9 h
      go_enter Tryz.func11, Tryz.ntmps11
      go_wp2_with fail
      refine (HF.out).mono ?_
      rintro e w1 ⟨rfl, rfl⟩
      clear HF
      go_wp2_with fail
      refine (HC.out).mono ?_
      rintro e w1 ⟨rfl, hE⟩
      have HE := Lib.hid hE
      clear hE HC
      go_wp2_with fail
      go_ret
      exact ⟨rfl, HE.out⟩
    · have HC := Lib.hid (con1_true g c a b w c0 c1 ha hb (by omega))
      rw [decide_eq_false h]
      clear hv c0 c1 ha hb h9 h
      go_enter Tryz.func11, Tryz.ntmps11
      go_wp2_with fail
      refine (HF.out).mono ?_
      rintro e w1 ⟨rfl, rfl⟩
      clear HF
      go_wp2_with fail
      refine (HC.out).mono ?_
      rintro e w1 ⟨rfl, hE⟩
      have HE := Lib.hid hE
      clear hE HC
      go_wp2_with fail
      go_ret
      exact ⟨rfl, HE.out⟩
end Go.Proofs.YtadimepmoljnpaaGreatDoor.GB

namespace Go.Proofs.YtadimepmoljnpaaGreatDoor.GB
set_option linter.unusedVariables false
set_option linter.unusedSimpArgs false
open Go.RowKit Go.Shelf
attribute [local go_sem ↓] Go.wp_at_zero Go.wp_at_succ
theorem calls_ex {P : Program} {f : FuncId} {args : Array Value} {w : World} {R : Ending → World → Prop} (h : Calls P f args w R) : ∃ e w', R e w' := by
  obtain ⟨e, w', fr, h, -⟩ := h []
  exact ⟨e, w', h⟩
theorem rden (x : Rat) : x * (x.den : Rat) = (x.num : Rat) := by
  have h : (x.num : Rat) / (x.den : Rat) = x := by
    have h := Rat.mkRat_eq_div x.num x.den
    rw [Rat.mkRat_self] at h
    exact h.symm
  have hd : (x.den : Rat) ≠ 0 := ratnz x.den_pos
  have e2 : (x.num : Rat) / (x.den : Rat) * (x.den : Rat) = (x.num : Rat) := by grind
  rwa [h] at e2
/-- Two numbers of n bits over one denominator. -/
theorem cb_pair {x y : Rat} {n : Nat} (hx : Bd x n) (hy : Bd y n) : CB [x, y] (2 * n) := by
  have h1 := hx.1
  have h2 := hx.2
  have h3 := hy.1
  have h4 := hy.2
  have hp : 2 ^ (2 * n) = 2 ^ n * 2 ^ n := by rw [Nat.two_mul, Nat.pow_add]
  have hxd : x * (x.den : Rat) = (x.num : Rat) := rden x
  have hyd : y * (y.den : Rat) = (y.num : Rat) := rden y
  have hD : ((x.den * y.den : Nat) : Rat) = (x.den : Rat) * (y.den : Rat) := by push_cast; rfl
  refine cb_two (D := x.den * y.den) (a := x.num * (y.den : Int)) (b := y.num * (x.den : Int)) (Nat.mul_pos x.den_pos y.den_pos) ?_ ?_ ?_ ?_ ?_
  · rw [hp]; exact Nat.mul_le_mul h2 h4
  · rw [hD]; push_cast; rw [← hxd]; grind
  · rw [hD]; push_cast; rw [← hyd]; grind
  · rw [hp, Int.natAbs_mul]; exact Nat.mul_lt_mul_of_lt_of_le h1 (by simpa using h4) (Nat.two_pow_pos n)
  · rw [hp, Int.natAbs_mul]; exact Nat.mul_lt_mul_of_lt_of_le h3 (by simpa using h2) (Nat.two_pow_pos n)
theorem chk_ok {p : Pl} {x y : Rat} (tp : Tr p) (lp : p.length ≤ 17) (hxy : x < y) : chk (p.map rb) (rb x) (rb y) = 0 := by
  have h1 : polB (p.map rb) = true := (polB_iff _).2 ⟨p, rfl, tp, lp⟩
  have h2 : ivB (rb x) (rb y) = true := by rw [ivB_of]; exact decide_eq_true (by grind)
  have h3 : rb x ≠ rb y := fun e => by
    have := rtext_inj (show rtext x = rtext y by have := congrArg (fun s : ByteArray => s.data.toList) e; simpa [rb] using this)
    grind
  unfold chk
  rw [h1, h2, if_neg h3]; rfl
theorem sq_ex (v : Value) (p : Pl) (w : World) (hW : Wd w) (h : PO w v p 32) (hl : p.length ≤ 6) (hp : p ≠ []) : ∃ s, SQ p s := by
  obtain ⟨e, w', v', s, -, -, hs, -⟩ := calls_ex (ssimp_v v p w hW ⟨h.1, h.2.1.mono (by omega), h.2.2⟩ hp hl)
  exact ⟨s, hs⟩
theorem ck_ok (v : Value) (p : Pl) (w : World) (hW : Wd w) (h : PO w v p 32) (hs : SB (p.map rb)) (x y : Rat) (hxy : x < y) (hx : (rb x).size ≤ 10000) (hy : (rb y).size ≤ 10000) : CK v (rb x) (rb y) 0 w := by
  have hc := ck_v v (p.map rb) (rb x) (rb y) w hW h.1 hs hx hy
  rwa [chk_ok h.2.2.1 h.2.2.2 hxy] at hc
theorem SQ.sp' {p s : Pl} (h : SQ p s) : SimpP p s := by obtain ⟨q, e, hS, -⟩ := h; exact hS
theorem PO.up {w : World} {v : Value} {p : Pl} (h : PO w v p 32) : PO w v p 52 := ⟨h.1, h.2.1.mono (by omega), h.2.2⟩
/-- A polynomial and a range that pass the checks. -/
structure SC (v : Value) (p s : Pl) (x y : Rat) (n : Nat) (w : World) : Prop where
  hW : Wd w
  h : PO w v p 32
  hl : p.length ≤ 6
  hp : p ≠ []
  hS : SimpP p s
  hxy : x < y
  hx : Bd x n
  hy : Bd y n
  hn : n ≤ 400000
  hc : CK v (rb x) (rb y) 0 w
section
variable {v : Value} {p s : Pl} {x y : Rat} {n : Nat} {w : World}
theorem SC.Count_s (c : SC v p s x y n w) : Calls Tryz.prog 15 #[v, .agg #[rtx x, rtx y]] w (RetN2 (cntP s x y) 0 w) := by
  obtain ⟨hW, h, hl, hp, hS, hxy, hx, hy, hn, hc⟩ := c
  refine (sCount_yes v p x y n w hW h.up hp hl hx hy (by omega) hc).mono ?_
  rintro e w' ⟨s', hs', rfl, hE⟩
  rw [SimpP.uniq hS hs'.sp']
  exact ⟨rfl, hE⟩
theorem SC.Simple_f (c : SC v p s x y n w) : Hid (∀ W, Ext w W → Calls Tryz.prog 44 #[v] W fun e w' => ∃ v', e = .returned v' ∧ PS w' v' s ∧ Ext W w') := fun W hE => by
  obtain ⟨hW, h, hl, hp, hS, hxy, hx, hy, hn, hc⟩ := c
  refine (ssimp_v v p W (hW.ext hE) (h.up.ext hE) hp hl).mono ?_
  rintro e w' ⟨v', s', rfl, h1, h2, h3⟩
  rw [SimpP.uniq h2.sp' hS] at h1
  exact ⟨v', rfl, h1, h3⟩
theorem SC.ct_f (c : SC v p s x y n w) : CT s := by
  obtain ⟨hW, h, hl, hp, hS, hxy, hx, hy, hn, hc⟩ := c
  obtain ⟨s', hs'⟩ := sq_ex v p w hW h hl hp
  rw [SimpP.uniq hS hs'.sp']
  exact hs'.ct h.2.2.1 hp hl
theorem SC.Count_f (c : SC v p s x y n w) : Hid (∀ W u, Ext w W → PS W u s → Calls Tryz.prog 49 #[u, rtx x, rtx y] W fun e w' => e = .returned (.int .i64 (cntP s x y)) ∧ Ext W w') := fun W u hE hu => by
  have hct := c.ct_f
  obtain ⟨hW, h, hl, hp, hS, hxy, hx, hy, hn, hc⟩ := c
  exact scount_v u s x y n W (hW.ext hE) hu hct.ne hct.len hct.si hx hy (by omega)
theorem SC.Isolate_s (c : SC v p s x y n w) (k : Nat) (hk : hvE (k : Int) = 0) : Calls Tryz.prog 20 #[v, .agg #[rtx x, rtx y], .int .i64 (k : Int)] w (RetIL (if (isoL s k x y).2 then 0 else 15) (if (isoL s k x y).2 then ivs (isoL s k x y).1 else []) w) := by
  have hct := c.ct_f
  obtain ⟨hW, h, hl, hp, hS, hxy, hx, hy, hn, hc⟩ := c
  have hk24 : k ≤ 24 := by unfold hvE at hk; split at hk <;> omega
  have HS := SC.Simple_f ⟨hW, h, hl, hp, hS, hxy, hx, hy, hn, hc⟩
  have HI : Hid (∀ W u, Ext w W → PS W u s → Calls Tryz.prog 56 #[u, .agg #[rtx x, rtx y], .int .i64 (k : Int)] W (RetIso s k x y W)) := fun W u hE hu =>
    siso_v s hct k u x y (2 * n) W (hW.ext hE) hu hxy (cb_pair hx hy) (by omega)
  obtain ⟨A, cc, rfl⟩ := h.1.sl
  have hp0 : p.length ≠ 0 := fun e => hp (List.eq_nil_of_length_eq_zero e)
  unfold RetIso at HI
  cases hb : (isoL s k x y).2
  · rw [hb] at HI
    exact sIso_bf A p.length cc _ _ _ s _ w hc hp0 hk HS HI
  · rw [hb] at HI
    exact sIso_bt A p.length cc _ _ _ s _ w hc hp0 hk HS HI
theorem SC.Narrow_s (c : SC v p s x y n w) (k : Nat) (hk : hvE (k : Int) = 0) : Calls Tryz.prog 22 #[v, .agg #[rtx x, rtx y], .int .i64 (k : Int)] w (if cntP s x y = 1 then RetIv0 0 (rb (narL s k (x, y)).1) (rb (narL s k (x, y)).2) w else RetIv0 11 ⟨#[]⟩ ⟨#[]⟩ w) := by
  have hct := c.ct_f
  obtain ⟨hW, h, hl, hp, hS, hxy, hx, hy, hn, hc⟩ := c
  have hk24 : k ≤ 24 := by unfold hvE at hk; split at hk <;> omega
  have HS := SC.Simple_f ⟨hW, h, hl, hp, hS, hxy, hx, hy, hn, hc⟩
  have HN := SC.Count_f ⟨hW, h, hl, hp, hS, hxy, hx, hy, hn, hc⟩
  have HW : Hid (∀ W u, Ext w W → PS W u s → Calls Tryz.prog 60 #[u, .agg #[rtx x, rtx y], .int .i64 (k : Int)] W fun e w' => e = .returned (.agg #[rtx (narL s k (x, y)).1, rtx (narL s k (x, y)).2]) ∧ Ext W w') := fun W u hE hu =>
    snarrow_v s hct k u (x, y) (2 * n) W (hW.ext hE) hu (cb_pair hx hy) (by omega)
  obtain ⟨A, cc, rfl⟩ := h.1.sl
  have hp0 : p.length ≠ 0 := fun e => hp (List.eq_nil_of_length_eq_zero e)
  by_cases h1 : cntP s x y = 1
  · rw [if_pos h1]
    rw [h1] at HN
    exact sNar_bt A p.length cc _ _ _ s _ _ w hc hp0 hk HS HN HW
  · rw [if_neg h1]
    exact sNar_bf A p.length cc _ _ _ s _ w hc hp0 hk h1 HS HN
end
end Go.Proofs.YtadimepmoljnpaaGreatDoor.GB

namespace Go.Proofs.YtadimepmoljnpaaGreatDoor.GB
set_option linter.unusedVariables false
set_option linter.unusedSimpArgs false
open Go.RowKit Go.Shelf
attribute [local go_sem ↓] Go.wp_at_zero Go.wp_at_succ
theorem isoL_lt {s : Pl} : ∀ (k : Nat) (lo hi : Rat), lo < hi → ∀ I ∈ (isoL s k lo hi).1, I.1 < I.2
  | 0, lo, hi, h, I, hI => by
    by_cases h0 : cntP s lo hi = 0
    · rw [isoL_zero h0] at hI; cases hI
    · by_cases h1 : cntP s lo hi = 1
      · rw [isoL_one h1] at hI; rw [List.mem_singleton.1 hI]; exact h
      · rw [isoL_end h0 h1] at hI; cases hI
  | k + 1, lo, hi, h, I, hI => by
    by_cases h0 : cntP s lo hi = 0
    · rw [isoL_zero h0] at hI; cases hI
    · by_cases h1 : cntP s lo hi = 1
      · rw [isoL_one h1] at hI; rw [List.mem_singleton.1 hI]; exact h
      · rw [isoL_step h0 h1] at hI
        obtain ⟨m1, m2⟩ := mid_lt h
        rcases List.mem_append.1 hI with hI | hI
        · exact isoL_lt (s := s) k _ _ m1 I hI
        · exact isoL_lt (s := s) k _ _ m2 I hI
theorem narL_lt {s : Pl} : ∀ (k : Nat) (I : Rat × Rat), I.1 < I.2 → (narL s k I).1 < (narL s k I).2
  | 0, I, h => h
  | k + 1, I, h => by
    refine narL_lt (s := s) k (nar1 s I) ?_
    obtain ⟨m1, m2⟩ := mid_lt h
    unfold nar1
    split
    · exact m1
    · exact m2
theorem Eval_w (v : Value) (p : Pl) (x : Rat) (n : Nat) (w : World) (hW : Wd w) (h : PO w v p 32) (hx : Bd x n) (hn : n ≤ 1000000) : Hid (∀ W, Ext w W → Calls Tryz.prog 28 #[v, rtx x] W fun e w' => e = .returned (.tuple #[rtx (pev p x), .int .i64 0]) ∧ Ext W w') := fun W hE =>
  Eval_p v p 32 W (hW.ext hE) (h.ext hE) x n hx (Nat.le_trans (show 20 * (n + 32 + 1) + 20 ≤ 100000000000 by omega) kk10)
theorem less_w (N : Nat) (w : World) (hW : Wd w) (hN : N ≤ 100000000) : Hid (∀ W x y, Ext w W → Bd x N → Bd y N → Calls Tryz.prog 53 #[rtx x, rtx y] W fun e w' => e = .returned (.bool (decide (x < y))) ∧ Ext W w') := fun W x y hE hx hy =>
  sless_v x y N N W (hW.ext hE) hx hy (Nat.le_trans (show N + N + 20 ≤ 100000000000 by omega) kk10)
theorem pev_w {p : Pl} {x : Rat} {n : Nat} (h : PB p 32) (hl : p.length ≤ 6) (hx : Bd x n) (hn : n ≤ 1000000) : Bd (pev p x) 6000198 := (pev_bd h hx).mono (by
  have := Nat.mul_le_mul hl (show n + 32 + 1 ≤ 1000033 by omega)
  omega)
theorem penc_w {p : Pl} {I : Rat × Rat} {n : Nat} (h : PB p 32) (hl : p.length ≤ 6) (hI : Bd I.1 n ∧ Bd I.2 n) (hn : n ≤ 1000000) : Bd (penc I p).1 6000198 ∧ Bd (penc I p).2 6000198 := by
  have h1 := penc_bd h hI
  have := Nat.mul_le_mul hl (show n + 32 + 1 ≤ 1000033 by omega)
  exact ⟨h1.1.mono (by omega), h1.2.mono (by omega)⟩
theorem bd0 : Bd (0 : Rat) 6000198 := (Bd.of_int 0 0 (by decide)).mono (Nat.zero_le _)
/-- Positive, at a polynomial other than zero. -/
theorem SC.Positive_s {v : Value} {p s : Pl} {x y : Rat} {n : Nat} {w : World} (c : SC v p s x y n w) : Calls Tryz.prog 17 #[v, .agg #[rtx x, rtx y]] w (RetBE (decide (0 < pev p x) && (cntP s x y == 0)) 0 w) := by
  have HS := c.Simple_f
  have HN := c.Count_f
  have hnn := c.hn
  have HE := Eval_w v p x n w c.hW c.h c.hx (by omega)
  have hL := less_w 6000198 w c.hW (by omega)
  have HL : Hid (∀ W, Ext w W → Calls Tryz.prog 53 #[.string ⟨#[48]⟩, rtx (pev p x)] W fun e w' => e = .returned (.bool (decide (0 < pev p x))) ∧ Ext W w') := fun W hE => by
    have h := hL.out W 0 (pev p x) hE bd0 (pev_w c.h.2.1 c.hl c.hx (by omega))
    rwa [show rtx 0 = .string ⟨#[48]⟩ by rw [← rb_v, rb0]] at h
  cases hb : decide (0 < pev p x)
  · rw [hb] at HL
    exact sPos_f v _ _ _ w c.hc HE HL
  · rw [hb] at HL
    exact sPos_t v _ _ _ s _ _ rfl w c.hc HE HL HS HN
/-- The values of which Extremes takes the least and the greatest one. -/
noncomputable def exR (p sd : Pl) (x y : Rat) (k : Nat) : (Rat × Rat) × (Rat × Rat) := exF (pev p x, pev p x) ((pev p y, pev p y) :: (if pder p = [] then [] else (isoL sd 24 x y).1.map fun I => penc (narL sd k I) p))
noncomputable def exE (p sd : Pl) (x y : Rat) : Int := if pder p = [] then 0 else if (isoL sd 24 x y).2 then 0 else 15
/-- Extremes, where the checks are passed. -/
theorem Extremes_s (v : Value) (p sd : Pl) (x y : Rat) (n k : Nat) (w : World) (hW : Wd w) (h : PO w v p 32) (hl : p.length ≤ 6) (hS : pder p ≠ [] → SimpP (pder p) sd) (hxy : x < y) (hx : Bd x n) (hy : Bd y n) (hn : n ≤ 400000) (hc : CK v (rb x) (rb y) 0 w) (hk : hvE (k : Int) = 0) :
    Calls Tryz.prog 25 #[v, .agg #[rtx x, rtx y], .int .i64 (k : Int)] w (if exE p sd x y = 0 then RetII 0 (rb (exR p sd x y k).1.1) (rb (exR p sd x y k).1.2) (rb (exR p sd x y k).2.1) (rb (exR p sd x y k).2.2) w else RetII 15 ⟨#[]⟩ ⟨#[]⟩ ⟨#[]⟩ ⟨#[]⟩ w) := by
  have HE1 := Eval_w v p x n w hW h hx (by omega)
  have HE2 := Eval_w v p y n w hW h hy (by omega)
  have HL := less_w 6000198 w hW (by omega)
  have hk24 : k ≤ 24 := by unfold hvE at hk; split at hk <;> omega
  have HD : Hid (∀ W, Ext w W → Calls Tryz.prog 62 #[v] W (RP0 (pder p) W)) := fun W hE => Derive_p v p 32 W (hW.ext hE) (h.ext hE) (by have := kk10; omega)
  have b1 := pev_w h.2.1 hl hx (by omega)
  have b2 := pev_w h.2.1 hl hy (by omega)
  obtain ⟨A, cc, rfl⟩ := h.1.sl
  by_cases hd : pder p = []
  · have e1 : exE p sd x y = 0 := by unfold exE; rw [if_pos hd]
    rw [if_pos e1]
    have e2 : exR p sd x y k = exF (pev p x, pev p x) [(pev p y, pev p y)] := by unfold exR; rw [if_pos hd]
    rw [e2]
    rw [hd] at HD
    refine sExt_const A p.length cc _ _ k _ _ 6000198 w hc hk HE1 HE2 HL HD (fun z hz => ?_)
    simp at hz
    rcases hz with rfl | rfl
    · exact ⟨b1, b1⟩
    · exact ⟨b2, b2⟩
  · have hSd := hS hd
    have hdt := pder_tr h.2.2.1
    have hdp : PB (pder p) 52 := pder_pb h.2.1 (by omega)
    have hdl : (pder p).length ≤ 6 := by rw [pder_len]; omega
    have HS : Hid (∀ W u, Ext w W → PS W u (pder p) → Calls Tryz.prog 44 #[u] W fun e w' => ∃ v, e = .returned v ∧ PS w' v sd ∧ FrV W v ∧ Ext W w') := fun W u hE hu => by
      refine (ssimp_f u (pder p) W (hW.ext hE) ⟨hu, hdp, hdt, by omega⟩ hd hdl).mono ?_
      rintro e w' ⟨v', s', rfl, q1, q2, q3, q4⟩
      rw [SimpP.uniq q2.sp' hSd] at q1
      exact ⟨v', rfl, q1, q3, q4⟩
    have hct : CT sd := by
      obtain ⟨e, w', v1, -, hq, hEq⟩ := calls_ex (HD.out w (Ext.rfl' w))
      obtain ⟨e, w2, v', s', -, -, q2, -⟩ := calls_ex (ssimp_v v1 (pder p) w' (hW.ext hEq) ⟨hq, hdp, hdt, by omega⟩ hd hdl)
      rw [SimpP.uniq hSd q2.sp']
      exact q2.ct hdt hd hdl
    have hcb := cb_pair hx hy
    have HI : Hid (∀ W u, Ext w W → PS W u sd → Calls Tryz.prog 56 #[u, .agg #[rtx x, rtx y], .int .i64 24] W (RetIso sd 24 x y W)) := fun W u hE hu =>
      siso_v sd hct 24 u x y (2 * n) W (hW.ext hE) hu hxy hcb (by omega)
    unfold RetIso at HI
    cases hb : (isoL sd 24 x y).2
    · have e1 : exE p sd x y = 15 := by unfold exE; rw [if_neg hd, hb]; rfl
      rw [if_neg (by rw [e1]; decide)]
      rw [hb] at HI
      exact sExt_lim A p.length cc _ _ k _ _ 6000198 w hc hk HE1 HE2 HL (pder p) sd _ hd HD HS HI
    · have e1 : exE p sd x y = 0 := by unfold exE; rw [if_neg hd, hb]; rfl
      rw [if_pos e1]
      have e2 : exR p sd x y k = exF (pev p x, pev p x) ((pev p y, pev p y) :: (isoL sd 24 x y).1.map fun I => penc (narL sd k I) p) := by unfold exR; rw [if_neg hd]
      rw [e2]
      rw [hb] at HI
      have hIcb : ∀ I ∈ (isoL sd 24 x y).1, CB [(narL sd k I).1, (narL sd k I).2] (2 * n + 24 + k) := fun I hI => narL_cb k I _ (isoL_cb 24 x y _ hcb I hI)
      have HN : Hid (∀ W u I, Ext w W → PS W u sd → I ∈ (isoL sd 24 x y).1 → Calls Tryz.prog 60 #[u, .agg #[rtx I.1, rtx I.2], .int .i64 (k : Int)] W fun e w' => e = .returned (.agg #[rtx (narL sd k I).1, rtx (narL sd k I).2]) ∧ Ext W w') := fun W u I hE hu hI =>
        snarrow_v sd hct k u I (2 * n + 24) W (hW.ext hE) hu (isoL_cb 24 x y _ hcb I hI) (by omega)
      have HEn : Hid (∀ W I, Ext w W → I ∈ (isoL sd 24 x y).1 → Calls Tryz.prog 63 #[.slice A p.length cc, .agg #[rtx (narL sd k I).1, rtx (narL sd k I).2]] W fun e w' => e = .returned (.tuple #[.agg #[rtx (penc (narL sd k I) p).1, rtx (penc (narL sd k I) p).2], .int .i64 0]) ∧ Ext W w') := fun W I hE hI =>
        Enclose_p _ p 32 W (hW.ext hE) (h.ext hE) _ _ (2 * n + 24 + k) (cb_get (hIcb I hI)).1 (cb_get (hIcb I hI)).2 (by have := narL_lt (s := sd) k I (isoL_lt (s := sd) 24 x y hxy I hI); grind) (Nat.le_trans (show 40 * (2 * n + 24 + k + 32 + 1) + 40 ≤ 100000000000 by omega) kk10)
      refine sExt_yes A p.length cc _ _ k _ _ 6000198 w hc hk HE1 HE2 HL (pder p) sd _ _ _ hd ?_ HD HS HI HN HEn (fun z hz => ?_)
      · have h1 := isoL_len hct.mono 24 x y hxy
        have h2 := hct.cnt x y
        omega
      · rcases List.mem_cons.1 hz with rfl | hz
        · exact ⟨b1, b1⟩
        · rcases List.mem_cons.1 hz with rfl | hz
          · exact ⟨b2, b2⟩
          · obtain ⟨I, hI, rfl⟩ := List.mem_map.1 hz
            exact penc_w h.2.1 hl (cb_get (hIcb I hI)) (by omega)
end Go.Proofs.YtadimepmoljnpaaGreatDoor.GB

namespace Go.Proofs.YtadimepmoljnpaaGreatDoor.GB
set_option linter.unusedVariables false
set_option linter.unusedSimpArgs false
open Go
/-! The examples of chapter 09. -/
theorem pe_dec {a b : Pl} (h : ptrim a = ptrim b) : PE a b := (cf_ptrim a).symm.trans (by rw [h]; exact cf_ptrim b)
def drB (a b q t : Pl) : Bool := decide (q.getLast? ≠ some 0) && decide (t.getLast? ≠ some 0) && decide (t.length < b.length) && decide (ptrim a = ptrim (padd (pmul q b) t))
theorem dr_of {a b q t : Pl} (h : drB a b q t = true) : DivRel a b q t := by
  unfold drB at h
  simp only [Bool.and_eq_true, decide_eq_true_eq] at h
  exact ⟨h.1.1.1, h.1.1.2, h.1.2, pe_dec h.2⟩
/-- A greatest common divisor, by its witnesses: p = c d, p' = e d, d = a p + b p'. -/
def gcB (p d a b c e : Pl) : Bool := decide (d.getLast? ≠ some 0) && decide (lead d = 1) && decide (ptrim p = ptrim (pmul c d)) && decide (ptrim (pder p) = ptrim (pmul e d)) && decide (ptrim d = ptrim (padd (pmul a p) (pmul b (pder p))))
theorem gc_of {p d a b c e : Pl} (h : gcB p d a b c e = true) : GcdRel p (pder p) d := by
  unfold gcB at h
  simp only [Bool.and_eq_true, decide_eq_true_eq] at h
  exact ⟨h.1.1.1.1, .inr h.1.1.1.2, ⟨c, pe_dec h.1.1.2⟩, ⟨e, pe_dec h.1.2⟩, ⟨a, b, pe_dec h.2⟩⟩
theorem simp_by {p d a b c e q s : Pl} (h1 : gcB p d a b c e = true) (h2 : drB p d q [] = true) (h3 : s = pmon q) : SimpP p s := ⟨d, q, gc_of h1, dr_of h2, h3⟩
theorem ex1_simp : SimpP [0, -1, 0, 1] [0, -1, 0, 1] := simp_by (d := [1]) (a := [0, -9 / 2]) (b := [-1, 0, 3 / 2]) (c := [0, -1, 0, 1]) (e := [-1, 0, 3]) (q := [0, -1, 0, 1]) (by decide +kernel) (by decide +kernel) (by decide +kernel)
theorem ex2_simp : SimpP (pder [0, -1, 1]) [-1 / 2, 1] := simp_by (d := [1]) (a := []) (b := [1 / 2]) (c := [-1, 2]) (e := [2]) (q := [-1, 2]) (by decide +kernel) (by decide +kernel) (by decide +kernel)
theorem ex3_simp : SimpP [0, 0, 2] [0, 1] := simp_by (d := [0, 1]) (a := []) (b := [1 / 4]) (c := [0, 2]) (e := [4]) (q := [0, 2]) (by decide +kernel) (by decide +kernel) (by decide +kernel)
theorem ex4_simp : SimpP [1, 0, 1] [1, 0, 1] := simp_by (d := [1]) (a := [1]) (b := [0, -1 / 2]) (c := [1, 0, 1]) (e := [0, 2]) (q := [1, 0, 1]) (by decide +kernel) (by decide +kernel) (by decide +kernel)
theorem sch_by {f : Nat} {a b q t r : Pl} (ha : a ≠ []) (tb : Tr b) (h : drB a b q t = true) (hr : pneg t = r) : sch (f + 1) a b = a :: sch f b r := by
  rw [sch_step ha tb (dr_of h), hr]
theorem ex1_chain : chainP [0, -1, 0, 1] = [[0, -1, 0, 1], [-1, 0, 3], [0, 2 / 3], [1]] := by
  unfold chainP
  have e : pder [0, -1, 0, 1] = [-1, 0, 3] := by decide +kernel
  rw [e]
  show sch (4 + 1) _ _ = _
  rw [sch_by (q := [0, 1 / 3]) (t := [0, -2 / 3]) (r := [0, 2 / 3]) (by simp) (by unfold Tr; decide +kernel) (by decide +kernel) (by decide +kernel)]
  show _ :: sch (3 + 1) _ _ = _
  rw [sch_by (q := [0, 9 / 2]) (t := [-1]) (r := [1]) (by simp) (by unfold Tr; decide +kernel) (by decide +kernel) (by decide +kernel)]
  show _ :: _ :: sch (2 + 1) _ _ = _
  rw [sch_by (q := [0, 2 / 3]) (t := []) (r := []) (by simp) (by unfold Tr; decide +kernel) (by decide +kernel) (by decide +kernel)]
  show _ :: _ :: _ :: sch (1 + 1) _ _ = _
  rw [sch_last (by simp)]
theorem ex2_chain : chainP [-1 / 2, 1] = [[-1 / 2, 1], [1]] := by
  unfold chainP
  have e : pder [-1 / 2, 1] = [1] := by decide +kernel
  rw [e]
  show sch (2 + 1) _ _ = _
  rw [sch_by (q := [-1 / 2, 1]) (t := []) (r := []) (by simp) (by unfold Tr; decide +kernel) (by decide +kernel) (by decide +kernel)]
  show _ :: sch (1 + 1) _ _ = _
  rw [sch_last (by simp)]
theorem ex4_chain : chainP [1, 0, 1] = [[1, 0, 1], [0, 2], [-1]] := by
  unfold chainP
  have e : pder [1, 0, 1] = [0, 2] := by decide +kernel
  rw [e]
  show sch (3 + 1) _ _ = _
  rw [sch_by (q := [0, 1 / 2]) (t := [1]) (r := [-1]) (by simp) (by unfold Tr; decide +kernel) (by decide +kernel) (by decide +kernel)]
  show _ :: sch (2 + 1) _ _ = _
  rw [sch_by (q := [0, -2]) (t := []) (r := []) (by simp) (by unfold Tr; decide +kernel) (by decide +kernel) (by decide +kernel)]
  show _ :: _ :: sch (1 + 1) _ _ = _
  rw [sch_last (by simp)]
theorem cnt1 (x y : Rat) (k : Int) (h : (chgs [[0, -1, 0, 1], [-1, 0, 3], [0, 2 / 3], [1]] x).2 - (chgs [[0, -1, 0, 1], [-1, 0, 3], [0, 2 / 3], [1]] y).2 = k) : cntP [0, -1, 0, 1] x y = k := by unfold cntP; rw [ex1_chain]; exact h
theorem cnt2 (x y : Rat) (k : Int) (h : (chgs [[-1 / 2, 1], [1]] x).2 - (chgs [[-1 / 2, 1], [1]] y).2 = k) : cntP [-1 / 2, 1] x y = k := by unfold cntP; rw [ex2_chain]; exact h
theorem cnt4 (x y : Rat) (k : Int) (h : (chgs [[1, 0, 1], [0, 2], [-1]] x).2 - (chgs [[1, 0, 1], [0, 2], [-1]] y).2 = k) : cntP [1, 0, 1] x y = k := by unfold cntP; rw [ex4_chain]; exact h
theorem ex_c1 : cntP [0, -1, 0, 1] (-2) 2 = 3 := cnt1 _ _ _ (by decide +kernel)
theorem ex_c2 : cntP [0, -1, 0, 1] (-1) 1 = 2 := cnt1 _ _ _ (by decide +kernel)
theorem ex_c3 : cntP [0, -1, 0, 1] (-2) 0 = 2 := cnt1 _ _ _ (by decide +kernel)
theorem ex_c4 : cntP [0, -1, 0, 1] 0 2 = 1 := cnt1 _ _ _ (by decide +kernel)
theorem ex_c5 : cntP [0, -1, 0, 1] (-2) (-1) = 1 := cnt1 _ _ _ (by decide +kernel)
theorem ex_c6 : cntP [0, -1, 0, 1] (-1) 0 = 1 := cnt1 _ _ _ (by decide +kernel)
theorem ex_c7 : cntP [0, -1, 0, 1] 0 1 = 1 := cnt1 _ _ _ (by decide +kernel)
theorem ex_c8 : cntP [1, 0, 1] (-2) 2 = 0 := cnt4 _ _ _ (by decide +kernel)
theorem ex_iso : isoL [0, -1, 0, 1] 3 (-2) 2 = ([(-2, -1), (-1, 0), (0, 2)], true) := by
  have m1 : ((-2 : Rat) + 2) * (1 / 2) = 0 := by decide +kernel
  have m2 : ((-2 : Rat) + 0) * (1 / 2) = -1 := by decide +kernel
  rw [isoL_step (by rw [ex_c1]; decide) (by rw [ex_c1]; decide), m1, isoL_step (lo := -2) (hi := 0) (by rw [ex_c3]; decide) (by rw [ex_c3]; decide), m2, isoL_one ex_c5, isoL_one ex_c6, isoL_one ex_c4]
  rfl
theorem ex_nar : narL [0, -1, 0, 1] 1 (0, 2) = (0, 1) := by
  have m1 : ((0 : Rat) + 2) * (1 / 2) = 1 := by decide +kernel
  show nar1 _ (0, 2) = _
  unfold nar1
  dsimp only
  rw [m1, if_pos ex_c7]
theorem ex_ext : exE [0, -1, 1] [-1 / 2, 1] 0 2 = 0 ∧ exR [0, -1, 1] [-1 / 2, 1] 0 2 2 = ((-1 / 2, 0), (2, 2)) := by
  have hd : pder [0, -1, 1] ≠ [] := by decide +kernel
  have h1 : isoL [-1 / 2, 1] 24 0 2 = ([(0, 2)], true) := isoL_one (cnt2 _ _ _ (by decide +kernel))
  have m1 : ((0 : Rat) + 2) * (1 / 2) = 1 := by decide +kernel
  have m2 : ((0 : Rat) + 1) * (1 / 2) = 1 / 2 := by decide +kernel
  have h2 : narL [-1 / 2, 1] 2 (0, 2) = (0, 1 / 2) := by
    show nar1 _ (nar1 _ (0, 2)) = _
    have e1 : nar1 [-1 / 2, 1] (0, 2) = (0, 1) := by
      unfold nar1; dsimp only
      rw [m1, if_pos (cnt2 _ _ _ (by decide +kernel))]
    have e2 : nar1 [-1 / 2, 1] (0, 1) = (0, 1 / 2) := by
      unfold nar1; dsimp only
      rw [m2, if_pos (cnt2 _ _ _ (by decide +kernel))]
    rw [e1, e2]
  constructor
  · unfold exE; rw [if_neg hd, h1]; rfl
  · unfold exR
    rw [if_neg hd, h1]
    show exF _ (_ :: [penc (narL _ _ _) _]) = _
    rw [h2]
    decide +kernel
end Go.Proofs.YtadimepmoljnpaaGreatDoor.GB

namespace Go.Proofs.YtadimepmoljnpaaGreatDoor.GB
set_option linter.unusedVariables false
set_option linter.unusedSimpArgs false
open Go.RowKit Go.Shelf
attribute [local go_sem ↓] Go.wp_at_zero Go.wp_at_succ
theorem iv_cells {w : World} {A : Option Addr} {L : List (Rat × Rat)} (h : ∀ j, (h : j < (ivs L).length) → ∃ b off, A = some ⟨b, off, none⟩ ∧ b < w.heap.size ∧ w.cell? ⟨b, off + 2 * j, none⟩ = some (ivs L)[j].1 ∧ w.cell? ⟨b, off + (2 * j + 1), none⟩ = some (ivs L)[j].2) :
    ∀ j, (h : j < L.length) → ∃ b off, A = some ⟨b, off, none⟩ ∧ b < w.heap.size ∧ w.cell? ⟨b, off + j * 2, none⟩ = some (.string (rb (L[j]).1)) ∧ w.cell? ⟨b, off + j * 2 + 1, none⟩ = some (.string (rb (L[j]).2)) := by
  intro j hj
  obtain ⟨b, off, e, hb, c1, c2⟩ := h j (by rw [ivs_len]; exact hj)
  have e1 : (ivs L)[j]'(by rw [ivs_len]; exact hj) = (rtx (L[j]).1, rtx (L[j]).2) := by simp [ivs]
  rw [e1] at c1 c2
  refine ⟨b, off, e, hb, ?_, ?_⟩
  · rw [Nat.mul_comm j 2, rb_v]; exact c1
  · rw [Nat.mul_comm j 2, Nat.add_assoc, rb_v]; exact c2
set_option maxHeartbeats 8000000 in
set_option maxRecDepth 200000 in
theorem EqI_v (v1 v2 : Value) (L : List (Rat × Rat)) (w : World) (h1 : LI w v1 (ivs L)) (h2 : LI w v2 (ivs L)) :
    Calls Tryz.prog 39 #[v1, v2] w fun e w' => e = .returned (.bool true) ∧ Ext w w' := by
  obtain ⟨A, c, rfl, a1, a2, a3⟩ := h1
  obtain ⟨B, d, rfl, b1, b2, b3⟩ := h2
  have a3 := iv_cells a3
  have b3 := iv_cells b3
  obtain ⟨n, hn⟩ : ∃ n, n = L.length := ⟨_, rfl⟩
  have HN : Hid (L.length = n) := hn.symm
  rw [ivs_len, show L.length = n from HN.out] at a1 ⊢
  rw [ivs_len, show L.length = n from HN.out] at b1
  have H3 := Lib.hid a3
  have H4 := Lib.hid b3
  clear hn a3 b3
  go_enter Tryz.func39, Tryz.ntmps39
  go_wp2
  go_loopw [13] (fun v wr => ∃ k : Nat, k ≤ n ∧ v = .int .i64 (k : Int) ∧ Hid (Ext w wr)) (fun v _ => n - (intOf v).toNat)
  case atStart => exact ⟨0, Nat.zero_le _, rfl, Ext.rfl' _⟩
  case round =>
    obtain ⟨k, hk, rfl, HE⟩ := hrel
    by_cases hlt : k < n
    · have k1 : k < L.length := by rw [HN.out]; exact hlt
      obtain ⟨b, off, rfl, hb, hc, hc2⟩ := H3.out k k1
      obtain ⟨b', off', rfl, hb', hc', hc2'⟩ := H4.out k k1
      replace hc := HE.out.cell hc
      replace hc2 := HE.out.cell hc2
      replace hc' := HE.out.cell hc'
      replace hc2' := HE.out.cell hc2'
      generalize rb (L[k]).1 = s at *
      generalize rb (L[k]).2 = t at *
      have q1 : (s.toList == s.toList) = true := by rw [sEq]; simp
      have q2 : (t.toList == t.toList) = true := by rw [sEq]; simp
      go_wp2
      go_region_with (fail)
      all_goals
        go_wp2
        go_roundw
        case rel => exact ⟨k + 1, by omega, by go_num, Ext.dr' HE⟩
        case measure => simp [intOf]; omega
    · have hk' : k = n := by omega
      subst hk'
      go_wp2
      go_ret
      exact ⟨rfl, HE⟩
end Go.Proofs.YtadimepmoljnpaaGreatDoor.GB

namespace Go.Proofs.YtadimepmoljnpaaGreatDoor.GB
set_option linter.unusedVariables false
set_option linter.unusedSimpArgs false
open Go.RowKit Go.Shelf
open Go.Lib (decDigits itoa)
attribute [local go_sem ↓] Go.wp_at_zero Go.wp_at_succ
theorem rbm12 : rb (-1 / 2) = ⟨#[45, 49, 47, 50]⟩ := by
  have e1 : (-1 / 2 : Rat).num = -1 := by decide +kernel
  have e2 : (-1 / 2 : Rat).den = 2 := by decide +kernel
  unfold rb
  rw [rtext_frac (by rw [e2]; decide), e1, e2, itoa, if_pos (by decide), show (-1 : Int).natAbs = 1 from rfl, dd1 1 (by decide), dd1 2 (by decide)]
  rfl
def pC : Pl := [0, -1, 0, 1]
def pT : Pl := [0, 0, 2]
def pH : Pl := [1, 0, 1]
def pZ : Pl := [0, 1]
theorem pC_rb : pC.map rb = [⟨#[48]⟩, ⟨#[45, 49]⟩, ⟨#[48]⟩, ⟨#[49]⟩] := by simp [pC, rb0, rb1, rbm1]
theorem pT_rb : pT.map rb = [⟨#[48]⟩, ⟨#[48]⟩, ⟨#[50]⟩] := by simp [pT, rb0, rb2]
theorem pH_rb : pH.map rb = [⟨#[49]⟩, ⟨#[48]⟩, ⟨#[49]⟩] := by simp [pH, rb0, rb1]
theorem pZ_rb : pZ.map rb = [⟨#[48]⟩, ⟨#[49]⟩] := by simp [pZ, rb0, rb1]
theorem sb_lit (l : List ByteArray) (h : l.all (fun s => decide (s.size ≤ 1000000)) = true) : SB l := by
  intro s hs
  have := List.all_eq_true.1 h s hs
  simpa using this
/-- The examples pass the checks. -/
theorem sc_lit {v : Value} {p s : Pl} {x y : Rat} {w : World} (hW : Wd w) (h : PS w v p) (h2 : PB p 32 ∧ Tr p ∧ p.length ≤ 17) (hl : p.length ≤ 6) (hp : p ≠ []) (hS : SimpP p s) (hx : Bd x 8 ∧ Bd y 8 ∧ x < y) (hb : (p.map rb).all (fun s => decide (s.size ≤ 1000000)) = true) (h3 : (rb x).size ≤ 10000) (h4 : (rb y).size ≤ 10000) : SC v p s x y 8 w :=
  ⟨hW, PO.lit 32 h h2, hl, hp, hS, hx.2.2, hx.1, hx.2.1, by decide, ck_ok v p w hW (PO.lit 32 h h2) (sb_lit _ hb) x y hx.2.2 h3 h4⟩
theorem sc1 {v : Value} {x y : Rat} {w : World} (hW : Wd w) (h : PS w v pC) (hx : Bd x 8 ∧ Bd y 8 ∧ x < y) (h3 : (rb x).size ≤ 10000) (h4 : (rb y).size ≤ 10000) : SC v pC pC x y 8 w :=
  sc_lit hW h (by decide +kernel) (by decide) (by decide) ex1_simp hx (by rw [pC_rb]; decide) h3 h4
theorem sz2 : (rb 2).size ≤ 10000 := by rw [rb2]; decide
theorem szm2 : (rb (-2)).size ≤ 10000 := by rw [rbm2]; decide
theorem sz1 : (rb 1).size ≤ 10000 := by rw [rb1]; decide
theorem szm1 : (rb (-1)).size ≤ 10000 := by rw [rbm1]; decide
theorem sz0 : (rb 0).size ≤ 10000 := by rw [rb0]; decide
theorem aw9_c1 (v : Value) (w : World) (hW : Wd w) (h : PS w v pC) : Calls Tryz.prog 15 #[v, .agg #[.string ⟨#[45, 50]⟩, .string ⟨#[50]⟩]] w (RetN2 3 0 w) := by
  have c := (sc1 (x := -2) (y := 2) hW h (by decide +kernel) szm2 sz2).Count_s
  rwa [show cntP pC (-2) 2 = 3 from ex_c1, ← rb_v, ← rb_v, rbm2, rb2] at c
theorem aw9_c2 (v : Value) (w : World) (hW : Wd w) (h : PS w v pC) : Calls Tryz.prog 15 #[v, .agg #[.string ⟨#[45, 49]⟩, .string ⟨#[49]⟩]] w (RetN2 2 0 w) := by
  have c := (sc1 (x := -1) (y := 1) hW h (by decide +kernel) szm1 sz1).Count_s
  rwa [show cntP pC (-1) 1 = 2 from ex_c2, ← rb_v, ← rb_v, rbm1, rb1] at c
theorem aw9_iso (v : Value) (w : World) (hW : Wd w) (h : PS w v pC) : Calls Tryz.prog 20 #[v, .agg #[.string ⟨#[45, 50]⟩, .string ⟨#[50]⟩], .int .i64 3] w (RetIL 0 (ivs [(-2, -1), (-1, 0), (0, 2)]) w) := by
  have c := (sc1 (x := -2) (y := 2) hW h (by decide +kernel) szm2 sz2).Isolate_s 3 (by decide)
  rw [show isoL pC 3 (-2) 2 = ([(-2, -1), (-1, 0), (0, 2)], true) from ex_iso, if_pos rfl, if_pos rfl] at c
  rwa [← rb_v, ← rb_v, rbm2, rb2] at c
theorem aw9_nar (v : Value) (w : World) (hW : Wd w) (h : PS w v pC) : Calls Tryz.prog 22 #[v, .agg #[.string ⟨#[48]⟩, .string ⟨#[50]⟩], .int .i64 1] w (RetIv0 0 ⟨#[48]⟩ ⟨#[49]⟩ w) := by
  have c := (sc1 (x := 0) (y := 2) hW h (by decide +kernel) sz0 sz2).Narrow_s 1 (by decide)
  rw [if_pos (show cntP pC 0 2 = 1 from ex_c4), show narL pC 1 (0, 2) = (0, 1) from ex_nar] at c
  dsimp only at c
  rwa [← rb_v, ← rb_v, rb2, rb0, rb1] at c
theorem aw9_pos (v : Value) (w : World) (hW : Wd w) (h : PS w v pH) : Calls Tryz.prog 17 #[v, .agg #[.string ⟨#[45, 50]⟩, .string ⟨#[50]⟩]] w (RetBE true 0 w) := by
  have c := (sc_lit (x := -2) (y := 2) (s := pH) hW h (by decide +kernel) (by decide) (by decide) ex4_simp (by decide +kernel) (by rw [pH_rb]; decide) szm2 sz2).Positive_s
  rw [show cntP pH (-2) 2 = 0 from ex_c8, show (decide (0 < pev pH (-2)) && ((0 : Int) == 0)) = true by decide +kernel] at c
  rwa [← rb_v, ← rb_v, rbm2, rb2] at c
theorem aw9_ext (v : Value) (w : World) (hW : Wd w) (h : PS w v pX) : Calls Tryz.prog 25 #[v, .agg #[.string ⟨#[48]⟩, .string ⟨#[50]⟩], .int .i64 2] w (RetII 0 ⟨#[45, 49, 47, 50]⟩ ⟨#[48]⟩ ⟨#[50]⟩ ⟨#[50]⟩ w) := by
  have h32 := PO.lit 32 h (by decide +kernel)
  have c := Extremes_s v pX [-1 / 2, 1] 0 2 8 2 w hW h32 (by decide) (fun _ => ex2_simp) (by decide +kernel) (by decide +kernel) (by decide +kernel) (by decide) (ck_ok v pX w hW h32 (sb_lit _ (by rw [pX_rb]; decide)) 0 2 (by decide +kernel) sz0 sz2) (by decide)
  obtain ⟨e1, e2⟩ := ex_ext
  rw [if_pos (show exE pX [-1 / 2, 1] 0 2 = 0 from e1), show exR pX [-1 / 2, 1] 0 2 2 = ((-1 / 2, 0), (2, 2)) from e2] at c
  dsimp only at c
  rwa [← rb_v, ← rb_v, rb2, rb0, rbm12] at c
theorem aw9_simp (v : Value) (w : World) (hW : Wd w) (h : PS w v pT) : Calls Tryz.prog 12 #[v] w (RP0 pZ w) := by
  refine (sSimple_yes v pT w hW (PO.lit 52 h (by decide +kernel)) (by decide) (by decide)).mono ?_
  rintro e w' ⟨u, rfl, ⟨s, h1, h2⟩, hE⟩
  have e : s = pZ := SimpP.uniq h2.sp' ex3_simp
  subst e
  exact ⟨u, rfl, h1, hE⟩
theorem LI.lit3 (W : World) (x1 y1 x2 y2 x3 y3 : Rat) (T : TypeId) : LI (W.alloc (.cells #[.string (rb x1), .string (rb y1), .string (rb x2), .string (rb y2), .string (rb x3), .string (rb y3)] T)) (.slice (some ⟨W.heap.size, 0, none⟩) 3 3) (ivs [(x1, y1), (x2, y2), (x3, y3)]) := by
  refine ⟨some ⟨W.heap.size, 0, none⟩, 3, rfl, Nat.le_refl _, by decide, ?_⟩
  intro j hj
  refine ⟨W.heap.size, 0, rfl, by simp, ?_, ?_⟩ <;> rw [Lib.cell_of_heap (World.alloc_heap_new W _)] <;> rcases j with _ | _ | _ | j <;> first | rfl | (exfalso; simp [ivs] at hj; omega)
set_option maxHeartbeats 16000000 in
set_option maxRecDepth 400000 in
theorem awake_v (w : World) (hW : Wd w) : Calls Tryz.prog 10 #[] w fun e w' => e = .returned (.bool true) ∧ Ext w w' := by
  have HW := Lib.hid hW
  have HE := Lib.hid (Ext.rfl' w)
  clear hW
  go_enter Tryz.func10, Tryz.ntmps10
  go_wp2_with fail
  have g0 : PS (w.alloc (.cells #[.string ⟨#[48]⟩, .string ⟨#[45, 49]⟩, .string ⟨#[48]⟩, .string ⟨#[49]⟩] 24)) (.slice (some ⟨w.heap.size, 0, none⟩) 4 4) pC := by unfold PS; rw [pC_rb]; exact SlS.lit w [⟨#[48]⟩, ⟨#[45, 49]⟩, ⟨#[48]⟩, ⟨#[49]⟩] 24 (by decide)
  replace g0 := g0.ext ((Ext.rfl' _).al (.cells #[.string ⟨#[45, 50]⟩, .string ⟨#[50]⟩] 26))
  have g1 := Bx.new (w.alloc (.cells #[.string ⟨#[48]⟩, .string ⟨#[45, 49]⟩, .string ⟨#[48]⟩, .string ⟨#[49]⟩] 24)) #[.string ⟨#[45, 50]⟩, .string ⟨#[50]⟩] 26
  have hE := ((Ext.rfl' w).al (.cells #[.string ⟨#[48]⟩, .string ⟨#[45, 49]⟩, .string ⟨#[48]⟩, .string ⟨#[49]⟩] 24)).al (.cells #[.string ⟨#[45, 50]⟩, .string ⟨#[50]⟩] 26)
  simp only [World.size_alloc] at g0 g1
  replace g0 := Lib.hid g0
  replace g1 := Lib.hid g1
  generalize hWn : (w.alloc (.cells #[.string ⟨#[48]⟩, .string ⟨#[45, 49]⟩, .string ⟨#[48]⟩, .string ⟨#[49]⟩] 24)).alloc (.cells #[.string ⟨#[45, 50]⟩, .string ⟨#[50]⟩] 26) = W1 at *
  clear hWn
  generalize hb1 : w.heap.size + 1 = bHB at *
  clear hb1
  generalize hb0 : w.heap.size = bH1 at *
  clear hb0
  replace HW := Wd.hext HW hE
  replace HE := Lib.hid (HE.out.tr hE)
  clear hE
  have H1 := g0
  clear g0
  have HB := g1
  clear g1
  refine (aw9_c1 _ _ HW.out H1.out).mono ?_
  rintro e W2 ⟨rfl, hE⟩
  replace HW := Wd.hext HW hE
  replace HE := Lib.hid (HE.out.tr hE)
  replace H1 := PS.hext H1 hE
  replace HB := Bx.hext HB hE
  clear hE
  go_wp2_with fail
  refine (aw9_c2 _ _ HW.out H1.out).mono ?_
  rintro e W3 ⟨rfl, hE⟩
  replace HW := Wd.hext HW hE
  replace HE := Lib.hid (HE.out.tr hE)
  replace H1 := PS.hext H1 hE
  replace HB := Bx.hext HB hE
  clear hE
  obtain ⟨q0, q1, -, -⟩ := HB.out.e2
  go_wp2_with fail
  clear q0 q1
  refine (aw9_iso _ _ HW.out H1.out).mono ?_
  rintro e W4 ⟨v7, rfl, h, hE⟩
  have H7 := Lib.hid h
  clear h
  replace HW := Wd.hext HW hE
  replace HE := Lib.hid (HE.out.tr hE)
  replace H1 := PS.hext H1 hE
  replace HB := Bx.hext HB hE
  clear hE
  go_wp2_with fail
  have g0 : PS (W4.alloc (.cells #[.string ⟨#[48]⟩, .string ⟨#[45, 49]⟩, .string ⟨#[49]⟩] 24)) (.slice (some ⟨W4.heap.size, 0, none⟩) 3 3) pX := by unfold PS; rw [pX_rb]; exact SlS.lit W4 [⟨#[48]⟩, ⟨#[45, 49]⟩, ⟨#[49]⟩] 24 (by decide)
  have hE := (Ext.rfl' W4).al (.cells #[.string ⟨#[48]⟩, .string ⟨#[45, 49]⟩, .string ⟨#[49]⟩] 24)
  replace g0 := Lib.hid g0
  generalize hWn : W4.alloc (.cells #[.string ⟨#[48]⟩, .string ⟨#[45, 49]⟩, .string ⟨#[49]⟩] 24) = W5 at *
  clear hWn
  generalize hb0 : W4.heap.size = bH9 at *
  clear hb0
  replace HW := Wd.hext HW hE
  replace HE := Lib.hid (HE.out.tr hE)
  replace H1 := PS.hext H1 hE
  replace HB := Bx.hext HB hE
  replace H7 := LI.hext H7 hE
  clear hE
  have H9 := g0
  clear g0
  refine (aw9_ext _ _ HW.out H9.out).mono ?_
  rintro e W6 ⟨rfl, hE⟩
  replace HW := Wd.hext HW hE
  replace HE := Lib.hid (HE.out.tr hE)
  replace H1 := PS.hext H1 hE
  replace HB := Bx.hext HB hE
  replace H7 := LI.hext H7 hE
  replace H9 := PS.hext H9 hE
  clear hE
  go_wp2_with fail
  have g0 := Bx.new W6 #[.string ⟨#[45, 49, 47, 50]⟩, .string ⟨#[48]⟩] 26
  replace g0 := g0.ext ((Ext.rfl' _).al (.cells #[.string ⟨#[50]⟩, .string ⟨#[50]⟩] 26))
  replace g0 := g0.ext ((Ext.rfl' _).al (.cells #[.string ⟨#[48]⟩, .string ⟨#[48]⟩, .string ⟨#[50]⟩] 24))
  have g1 := Bx.new (W6.alloc (.cells #[.string ⟨#[45, 49, 47, 50]⟩, .string ⟨#[48]⟩] 26)) #[.string ⟨#[50]⟩, .string ⟨#[50]⟩] 26
  replace g1 := g1.ext ((Ext.rfl' _).al (.cells #[.string ⟨#[48]⟩, .string ⟨#[48]⟩, .string ⟨#[50]⟩] 24))
  have g2 : PS (((W6.alloc (.cells #[.string ⟨#[45, 49, 47, 50]⟩, .string ⟨#[48]⟩] 26)).alloc (.cells #[.string ⟨#[50]⟩, .string ⟨#[50]⟩] 26)).alloc (.cells #[.string ⟨#[48]⟩, .string ⟨#[48]⟩, .string ⟨#[50]⟩] 24)) (.slice (some ⟨((W6.alloc (.cells #[.string ⟨#[45, 49, 47, 50]⟩, .string ⟨#[48]⟩] 26)).alloc (.cells #[.string ⟨#[50]⟩, .string ⟨#[50]⟩] 26)).heap.size, 0, none⟩) 3 3) pT := by unfold PS; rw [pT_rb]; exact SlS.lit ((W6.alloc (.cells #[.string ⟨#[45, 49, 47, 50]⟩, .string ⟨#[48]⟩] 26)).alloc (.cells #[.string ⟨#[50]⟩, .string ⟨#[50]⟩] 26)) [⟨#[48]⟩, ⟨#[48]⟩, ⟨#[50]⟩] 24 (by decide)
  have hE := (((Ext.rfl' W6).al (.cells #[.string ⟨#[45, 49, 47, 50]⟩, .string ⟨#[48]⟩] 26)).al (.cells #[.string ⟨#[50]⟩, .string ⟨#[50]⟩] 26)).al (.cells #[.string ⟨#[48]⟩, .string ⟨#[48]⟩, .string ⟨#[50]⟩] 24)
  simp only [World.size_alloc] at g0 g1 g2
  replace g0 := Lib.hid g0
  replace g1 := Lib.hid g1
  replace g2 := Lib.hid g2
  generalize hWn : ((W6.alloc (.cells #[.string ⟨#[45, 49, 47, 50]⟩, .string ⟨#[48]⟩] 26)).alloc (.cells #[.string ⟨#[50]⟩, .string ⟨#[50]⟩] 26)).alloc (.cells #[.string ⟨#[48]⟩, .string ⟨#[48]⟩, .string ⟨#[50]⟩] 24) = W7 at *
  clear hWn
  generalize hb2 : W6.heap.size + 1 + 1 = bH12 at *
  clear hb2
  generalize hb1 : W6.heap.size + 1 = bHB10 at *
  clear hb1
  generalize hb0 : W6.heap.size = bHB9 at *
  clear hb0
  replace HW := Wd.hext HW hE
  replace HE := Lib.hid (HE.out.tr hE)
  replace H1 := PS.hext H1 hE
  replace HB := Bx.hext HB hE
  replace H7 := LI.hext H7 hE
  replace H9 := PS.hext H9 hE
  clear hE
  have HB9 := g0
  clear g0
  have HB10 := g1
  clear g1
  have H12 := g2
  clear g2
  refine (aw9_simp _ _ HW.out H12.out).mono ?_
  rintro e W8 ⟨v13, rfl, h, hE⟩
  have H13 := Lib.hid h
  clear h
  replace HW := Wd.hext HW hE
  replace HE := Lib.hid (HE.out.tr hE)
  replace H1 := PS.hext H1 hE
  replace HB := Bx.hext HB hE
  replace H7 := LI.hext H7 hE
  replace H9 := PS.hext H9 hE
  replace HB9 := Bx.hext HB9 hE
  replace HB10 := Bx.hext HB10 hE
  replace H12 := PS.hext H12 hE
  clear hE
  go_wp2_with fail
  refine (aw9_nar _ _ HW.out H1.out).mono ?_
  rintro e W9 ⟨rfl, hE⟩
  replace HW := Wd.hext HW hE
  replace HE := Lib.hid (HE.out.tr hE)
  replace H1 := PS.hext H1 hE
  replace HB := Bx.hext HB hE
  replace H7 := LI.hext H7 hE
  replace H9 := PS.hext H9 hE
  replace HB9 := Bx.hext HB9 hE
  replace HB10 := Bx.hext HB10 hE
  replace H12 := PS.hext H12 hE
  replace H13 := PS.hext H13 hE
  clear hE
  obtain ⟨q0, q1, -, -⟩ := ((HB.out.al (.cells #[.string ⟨#[48]⟩, .string ⟨#[49]⟩] 26)).al (.cells #[.string ⟨#[49]⟩, .string ⟨#[48]⟩, .string ⟨#[49]⟩] 24)).e2
  go_wp2_with fail
  clear q0 q1
  have g0 := Bx.new W9 #[.string ⟨#[48]⟩, .string ⟨#[49]⟩] 26
  replace g0 := g0.ext ((Ext.rfl' _).al (.cells #[.string ⟨#[49]⟩, .string ⟨#[48]⟩, .string ⟨#[49]⟩] 24))
  have g1 : PS ((W9.alloc (.cells #[.string ⟨#[48]⟩, .string ⟨#[49]⟩] 26)).alloc (.cells #[.string ⟨#[49]⟩, .string ⟨#[48]⟩, .string ⟨#[49]⟩] 24)) (.slice (some ⟨(W9.alloc (.cells #[.string ⟨#[48]⟩, .string ⟨#[49]⟩] 26)).heap.size, 0, none⟩) 3 3) pH := by unfold PS; rw [pH_rb]; exact SlS.lit (W9.alloc (.cells #[.string ⟨#[48]⟩, .string ⟨#[49]⟩] 26)) [⟨#[49]⟩, ⟨#[48]⟩, ⟨#[49]⟩] 24 (by decide)
  have hE := ((Ext.rfl' W9).al (.cells #[.string ⟨#[48]⟩, .string ⟨#[49]⟩] 26)).al (.cells #[.string ⟨#[49]⟩, .string ⟨#[48]⟩, .string ⟨#[49]⟩] 24)
  simp only [World.size_alloc] at g0 g1
  replace g0 := Lib.hid g0
  replace g1 := Lib.hid g1
  generalize hWn : (W9.alloc (.cells #[.string ⟨#[48]⟩, .string ⟨#[49]⟩] 26)).alloc (.cells #[.string ⟨#[49]⟩, .string ⟨#[48]⟩, .string ⟨#[49]⟩] 24) = W10 at *
  clear hWn
  generalize hb1 : W9.heap.size + 1 = bH15 at *
  clear hb1
  generalize hb0 : W9.heap.size = bHB14 at *
  clear hb0
  replace HW := Wd.hext HW hE
  replace HE := Lib.hid (HE.out.tr hE)
  replace H1 := PS.hext H1 hE
  replace HB := Bx.hext HB hE
  replace H7 := LI.hext H7 hE
  replace H9 := PS.hext H9 hE
  replace HB9 := Bx.hext HB9 hE
  replace HB10 := Bx.hext HB10 hE
  replace H12 := PS.hext H12 hE
  replace H13 := PS.hext H13 hE
  clear hE
  have HB14 := g0
  clear g0
  have H15 := g1
  clear g1
  refine (aw9_pos _ _ HW.out H15.out).mono ?_
  rintro e W11 ⟨rfl, hE⟩
  replace HW := Wd.hext HW hE
  replace HE := Lib.hid (HE.out.tr hE)
  replace H1 := PS.hext H1 hE
  replace HB := Bx.hext HB hE
  replace H7 := LI.hext H7 hE
  replace H9 := PS.hext H9 hE
  replace HB9 := Bx.hext HB9 hE
  replace HB10 := Bx.hext HB10 hE
  replace H12 := PS.hext H12 hE
  replace H13 := PS.hext H13 hE
  replace HB14 := Bx.hext HB14 hE
  replace H15 := PS.hext H15 hE
  clear hE
  go_wp2_with fail
  have g0 := LI.lit3 W11 (-2) (-1) (-1) 0 0 2 26
  simp only [rbm2, rbm1, rb0, rb2] at g0
  have hE := (Ext.rfl' W11).al (.cells #[.string ⟨#[45, 50]⟩, .string ⟨#[45, 49]⟩, .string ⟨#[45, 49]⟩, .string ⟨#[48]⟩, .string ⟨#[48]⟩, .string ⟨#[50]⟩] 26)
  replace g0 := Lib.hid g0
  generalize hWn : W11.alloc (.cells #[.string ⟨#[45, 50]⟩, .string ⟨#[45, 49]⟩, .string ⟨#[45, 49]⟩, .string ⟨#[48]⟩, .string ⟨#[48]⟩, .string ⟨#[50]⟩] 26) = W12 at *
  clear hWn
  generalize hb0 : W11.heap.size = bH16 at *
  clear hb0
  replace HW := Wd.hext HW hE
  replace HE := Lib.hid (HE.out.tr hE)
  replace H1 := PS.hext H1 hE
  replace HB := Bx.hext HB hE
  replace H7 := LI.hext H7 hE
  replace H9 := PS.hext H9 hE
  replace HB9 := Bx.hext HB9 hE
  replace HB10 := Bx.hext HB10 hE
  replace H12 := PS.hext H12 hE
  replace H13 := PS.hext H13 hE
  replace HB14 := Bx.hext HB14 hE
  replace H15 := PS.hext H15 hE
  clear hE
  have H16 := g0
  clear g0
  refine (EqI_v _ _ _ _ H7.out H16.out).mono ?_
  rintro e W13 ⟨rfl, hE⟩
  replace HW := Wd.hext HW hE
  replace HE := Lib.hid (HE.out.tr hE)
  replace H1 := PS.hext H1 hE
  replace HB := Bx.hext HB hE
  replace H7 := LI.hext H7 hE
  replace H9 := PS.hext H9 hE
  replace HB9 := Bx.hext HB9 hE
  replace HB10 := Bx.hext HB10 hE
  replace H12 := PS.hext H12 hE
  replace H13 := PS.hext H13 hE
  replace HB14 := Bx.hext HB14 hE
  replace H15 := PS.hext H15 hE
  replace H16 := LI.hext H16 hE
  clear hE
  obtain ⟨q0, q1, -, -⟩ := HB9.out.e2
  obtain ⟨q2, q3, -, -⟩ := HB10.out.e2
  go_wp2_with fail
  clear q0 q1 q2 q3
  have g0 : PS (W13.alloc (.cells #[.string ⟨#[48]⟩, .string ⟨#[49]⟩] 24)) (.slice (some ⟨W13.heap.size, 0, none⟩) 2 2) pZ := by unfold PS; rw [pZ_rb]; exact SlS.lit W13 [⟨#[48]⟩, ⟨#[49]⟩] 24 (by decide)
  have hE := (Ext.rfl' W13).al (.cells #[.string ⟨#[48]⟩, .string ⟨#[49]⟩] 24)
  replace g0 := Lib.hid g0
  generalize hWn : W13.alloc (.cells #[.string ⟨#[48]⟩, .string ⟨#[49]⟩] 24) = W14 at *
  clear hWn
  generalize hb0 : W13.heap.size = bH17 at *
  clear hb0
  replace HW := Wd.hext HW hE
  replace HE := Lib.hid (HE.out.tr hE)
  replace H1 := PS.hext H1 hE
  replace HB := Bx.hext HB hE
  replace H7 := LI.hext H7 hE
  replace H9 := PS.hext H9 hE
  replace HB9 := Bx.hext HB9 hE
  replace HB10 := Bx.hext HB10 hE
  replace H12 := PS.hext H12 hE
  replace H13 := PS.hext H13 hE
  replace HB14 := Bx.hext HB14 hE
  replace H15 := PS.hext H15 hE
  replace H16 := LI.hext H16 hE
  clear hE
  have H17 := g0
  clear g0
  refine (aw_same _ _ _ _ H13.out H17.out).mono ?_
  rintro e W15 ⟨rfl, hE⟩
  replace HW := Wd.hext HW hE
  replace HE := Lib.hid (HE.out.tr hE)
  replace H1 := PS.hext H1 hE
  replace HB := Bx.hext HB hE
  replace H7 := LI.hext H7 hE
  replace H9 := PS.hext H9 hE
  replace HB9 := Bx.hext HB9 hE
  replace HB10 := Bx.hext HB10 hE
  replace H12 := PS.hext H12 hE
  replace H13 := PS.hext H13 hE
  replace HB14 := Bx.hext HB14 hE
  replace H15 := PS.hext H15 hE
  replace H16 := LI.hext H16 hE
  replace H17 := PS.hext H17 hE
  clear hE
  obtain ⟨q0, q1, -, -⟩ := HB14.out.e2
  go_wp2_with fail
  go_ret
  exact ⟨rfl, HE.out⟩
end Go.Proofs.YtadimepmoljnpaaGreatDoor.GB
