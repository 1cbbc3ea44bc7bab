import Derived.Test.YtadimepmoljnpaaGreatDoorCUf
import Derived.Test.YtadimepmoljnpaaGreatDoorMEn
import Derived.Test.YtadimepmoljnpaaGreatDoorMHm
import Derived.Test.YtadimepmoljnpaaGreatDoorMUa
namespace Go.Proofs.YtadimepmoljnpaaGreatDoor.GB
set_option linter.unusedVariables false
set_option linter.unusedSimpArgs false
open Go.RowKit Go.Shelf
attribute [local go_sem ↓] Go.wp_at_zero Go.wp_at_succ
theorem tl_eq {a b : ByteArray} (h : a = b) : (a.toList == b.toList) = true := by subst h; simp
theorem tl_ne {a b : ByteArray} (h : a ≠ b) : (a.toList == b.toList) = false := by
  rw [beq_eq_false_iff_ne, ByteArray.toList_eq, ByteArray.toList_eq]
  intro e
  apply h
  cases a; cases b
  simp at e
  rw [e]
/-- The error of a polynomial and a range. -/
noncomputable def chk (l : List ByteArray) (a b : ByteArray) : Int := if polB l && ivB a b then (if a = b then 9 else 0) else 1
set_option maxHeartbeats 8000000 in
set_option maxRecDepth 200000 in
theorem scheck_v (v : Value) (l : List ByteArray) (a b : ByteArray) (w : World) (hW : Wd w) (h : SlS w v l) (hs : SB l) (ha : a.size ≤ 10000) (hb : b.size ≤ 10000) :
    Calls Tryz.prog 48 #[v, .agg #[.string a, .string b]] w fun e w' => e = .returned (.int .i64 (chk l a b)) ∧ Ext w w' := by
  have HV := Lib.hid (pValid_any v l w hW h hs)
  have HI := Lib.hid (iva_any a b w hW ha hb)
  obtain ⟨k, hk⟩ : ∃ k, chk l a b = k := ⟨_, rfl⟩
  rw [hk]
  unfold chk at hk
  have b1 := (Bx.new w #[.string a, .string b] 26)
  have E0 := (Ext.rfl' w).al (.cells #[.string a, .string b] 26)
  clear h hs ha hb hW
  cases hp : polB l
  · rw [hp] at HV hk
    simp only [Bool.false_and, Bool.false_eq_true, if_false] at hk
    subst hk
    clear HI
    go_enter Tryz.func48, Tryz.ntmps48
    go_wp2_with fail
    generalize w.alloc (.cells #[.string a, .string b] 26) = W0 at *
    refine (HV.out _ E0).mono ?_
    rintro e w1 ⟨rfl, hE⟩
    replace b1 := b1.ext hE
    have E1 := E0.tr hE
    obtain ⟨c0, c1, -, -⟩ := b1.e2
    clear hE E0
    go_wp2_with fail
    go_ret
    exact ⟨rfl, E1⟩
  · rw [hp] at HV hk
    cases hi : ivB a b
    · rw [hi] at HI hk
      simp only [Bool.and_false, Bool.false_eq_true, if_false] at hk
      subst hk
      clear hp hi
      go_enter Tryz.func48, Tryz.ntmps48
      go_wp2_with fail
      generalize w.alloc (.cells #[.string a, .string b] 26) = W0 at *
      refine (HV.out _ E0).mono ?_
      rintro e w1 ⟨rfl, hE⟩
      replace b1 := b1.ext hE
      have E1 := E0.tr hE
      obtain ⟨c0, c1, -, -⟩ := b1.e2
      clear hE E0
      go_wp2_with fail
      refine (HI.out _ E1).mono ?_
      rintro e w2 ⟨rfl, hE⟩
      replace b1 := b1.ext hE
      replace E1 := E1.tr hE
      obtain ⟨c0, c1, -, -⟩ := b1.e2
      clear hE
      go_wp2_with fail
      go_ret
      exact ⟨rfl, E1⟩
    · rw [hi] at HI hk
      by_cases hab : a = b
      · have he : (a.toList == b.toList) = true := tl_eq hab
        rw [if_pos hab] at hk
        simp only [Bool.and_self, if_true] at hk
        subst hk
        clear hp hi hab
        go_enter Tryz.func48, Tryz.ntmps48
        go_wp2_with fail
        generalize w.alloc (.cells #[.string a, .string b] 26) = W0 at *
        refine (HV.out _ E0).mono ?_
        rintro e w1 ⟨rfl, hE⟩
        replace b1 := b1.ext hE
        have E1 := E0.tr hE
        obtain ⟨c0, c1, -, -⟩ := b1.e2
        clear hE E0
        go_wp2_with fail
        refine (HI.out _ E1).mono ?_
        rintro e w2 ⟨rfl, hE⟩
        replace b1 := b1.ext hE
        replace E1 := E1.tr hE
        obtain ⟨c0, c1, -, -⟩ := b1.e2
        clear hE
        go_wp2_with fail
        go_ret
        exact ⟨rfl, E1⟩
      · have he : (a.toList == b.toList) = false := tl_ne hab
        rw [if_neg hab] at hk
        simp only [Bool.and_self, if_true] at hk
        subst hk
        clear hp hi hab
        go_enter Tryz.func48, Tryz.ntmps48
        go_wp2_with fail
        generalize w.alloc (.cells #[.string a, .string b] 26) = W0 at *
        refine (HV.out _ E0).mono ?_
        rintro e w1 ⟨rfl, hE⟩
        replace b1 := b1.ext hE
        have E1 := E0.tr hE
        obtain ⟨c0, c1, -, -⟩ := b1.e2
        clear hE E0
        go_wp2_with fail
        refine (HI.out _ E1).mono ?_
        rintro e w2 ⟨rfl, hE⟩
        replace b1 := b1.ext hE
        replace E1 := E1.tr hE
        obtain ⟨c0, c1, -, -⟩ := b1.e2
        clear hE
        go_wp2_with fail
        go_ret
        exact ⟨rfl, E1⟩
set_option maxHeartbeats 8000000 in
set_option maxRecDepth 200000 in
theorem sSimple_yes (v : Value) (p : Pl) (w : World) (hW : Wd w) (h : PO w v p 52) (hp : p ≠ []) (hl : p.length ≤ 6) : Calls Tryz.prog 12 #[v] w (RetQ0 (fun W u => ∃ s, PS W u s ∧ SQ p s) w) := by
  have HV := Lib.hid (h.va hW (by have := kk10; omega))
  have HS : Hid (∀ W, Ext w W → Calls Tryz.prog 44 #[v] W (RetSQ p W)) := fun W hE => ssimp_v v p W (hW.ext hE) (h.ext hE) hp hl
  obtain ⟨A, c, rfl⟩ := h.1.sl
  have z1 : ((p.length : Int) == 0) = false := beq_eq_false_iff_ne.2 (by have := List.length_pos_iff.2 hp; omega)
  clear h hp hl hW
  generalize p.length = n at *
  go_enter Tryz.func12, Tryz.ntmps12
  go_wp2_with fail
  refine (HV.out _ (Ext.rfl' _)).mono ?_
  rintro e w1 ⟨rfl, hE⟩
  have HE := Lib.hid hE
  clear hE HV
  go_wp2_with fail
  refine (HS.out _ HE.out).mono ?_
  rintro e w2 ⟨u, s, rfl, hu, hs, hE⟩
  have HU := Lib.hid hu
  have HQ := Lib.hid hs
  replace HE := Lib.hid (HE.out.tr hE)
  clear hu hs hE HS
  go_wp2_with fail
  go_ret2
  exact ⟨_, rfl, ⟨s, HU.out, HQ.out⟩, HE.out⟩
def RetN2 (k m : Int) (w : World) (e : Ending) (w' : World) : Prop := e = .returned (.tuple #[.int .i64 k, .int .i64 m]) ∧ Ext w w'
/-- A check that was made. -/
def CK (v : Value) (a b : ByteArray) (k : Int) (w : World) : Prop := ∀ W, Ext w W → Calls Tryz.prog 48 #[v, .agg #[.string a, .string b]] W fun e w' => e = .returned (.int .i64 k) ∧ Ext W w'
theorem ck_v (v : Value) (l : List ByteArray) (a b : ByteArray) (w : World) (hW : Wd w) (h : SlS w v l) (hs : SB l) (ha : a.size ≤ 10000) (hb : b.size ≤ 10000) : CK v a b (chk l a b) w := fun W hE => scheck_v v l a b W (hW.ext hE) (h.ext hE) hs ha hb
set_option maxHeartbeats 8000000 in
set_option maxRecDepth 200000 in
theorem sCount_no (v : Value) (a b : ByteArray) (k : Int) (w : World) (h : CK v a b k w) (hk : k ≠ 0) : Calls Tryz.prog 15 #[v, .agg #[.string a, .string b]] w (RetN2 0 k w) := by
  have HC := Lib.hid h
  have z : (k == 0) = false := beq_eq_false_iff_ne.2 hk
  clear h hk
  have b1 := (Bx.new w #[.string a, .string b] 26)
  have E0 := (Ext.rfl' w).al (.cells #[.string a, .string b] 26)
  go_enter Tryz.func15, Tryz.ntmps15
  go_wp2_with fail
  generalize w.alloc (.cells #[.string a, .string b] 26) = W0 at *
  refine (HC.out _ E0).mono ?_
  rintro e w1 ⟨rfl, hE⟩
  replace b1 := b1.ext hE
  replace E0 := E0.tr hE
  obtain ⟨c0, c1, -, -⟩ := b1.e2
  clear hE HC
  go_wp2_with fail
  go_ret2
  exact ⟨rfl, E0⟩
set_option maxHeartbeats 8000000 in
set_option maxRecDepth 200000 in
theorem sCount_zero (A : Option Addr) (c : Nat) (a b : ByteArray) (w : World) (h : CK (.slice A 0 c) a b 0 w) : Calls Tryz.prog 15 #[.slice A 0 c, .agg #[.string a, .string b]] w (RetN2 0 16 w) := by
  have HC := Lib.hid h
  clear h
  have b1 := (Bx.new w #[.string a, .string b] 26)
  have E0 := (Ext.rfl' w).al (.cells #[.string a, .string b] 26)
  go_enter Tryz.func15, Tryz.ntmps15
  go_wp2_with fail
  generalize w.alloc (.cells #[.string a, .string b] 26) = W0 at *
  refine (HC.out _ E0).mono ?_
  rintro e w1 ⟨rfl, hE⟩
  replace b1 := b1.ext hE
  replace E0 := E0.tr hE
  obtain ⟨c0, c1, -, -⟩ := b1.e2
  clear hE HC
  go_wp2_with fail
  go_ret2
  exact ⟨rfl, E0⟩
set_option maxHeartbeats 8000000 in
set_option maxRecDepth 200000 in
theorem sCount_yes (v : Value) (p : Pl) (x y : Rat) (n : Nat) (w : World) (hW : Wd w) (h : PO w v p 52) (hp : p ≠ []) (hl : p.length ≤ 6) (hx : Bd x n) (hy : Bd y n) (hn : n ≤ 1000000) (hc : CK v (rb x) (rb y) 0 w) :
    Calls Tryz.prog 15 #[v, .agg #[rtx x, rtx y]] w fun e w' => ∃ s, SQ p s ∧ e = .returned (.tuple #[.int .i64 (cntP s x y), .int .i64 0]) ∧ Ext w w' := by
  have HC := Lib.hid hc
  have HS : Hid (∀ W, Ext w W → Calls Tryz.prog 44 #[v] W (RetSQ p W)) := fun W hE => ssimp_v v p W (hW.ext hE) (h.ext hE) hp hl
  have HN : Hid (∀ W u s, Ext w W → PS W u s → SQ p s → Calls Tryz.prog 49 #[u, rtx x, rtx y] W fun e w' => e = .returned (.int .i64 (cntP s x y)) ∧ Ext W w') := fun W u s hE hu hs =>
    scount_v u s x y n W (hW.ext hE) hu hs.ne (by have := hs.len; omega) (hs.si hl) hx hy (by omega)
  obtain ⟨A, c, rfl⟩ := h.1.sl
  have z1 : ((p.length : Int) == 0) = false := beq_eq_false_iff_ne.2 (by have := List.length_pos_iff.2 hp; omega)
  clear h hp hl hW hc hx hy
  unfold rtx at *
  unfold rb at HC
  generalize (⟨(rtext x).toArray⟩ : ByteArray) = a at *
  generalize (⟨(rtext y).toArray⟩ : ByteArray) = b at *
  generalize p.length = n at *
  have b1 := (Bx.new w #[.string a, .string b] 26)
  have E0 := (Ext.rfl' w).al (.cells #[.string a, .string b] 26)
  go_enter Tryz.func15, Tryz.ntmps15
  go_wp2_with fail
  generalize w.alloc (.cells #[.string a, .string b] 26) = W0 at *
  refine (HC.out _ E0).mono ?_
  rintro e w1 ⟨rfl, hE⟩
  replace b1 := b1.ext hE
  replace E0 := E0.tr hE
  obtain ⟨c0, c1, -, -⟩ := b1.e2
  clear hE HC
  go_wp2_with fail
  have d0 : w1.drew.cell? ⟨w.heap.size, 0, none⟩ = some (.string a) := c0
  have d1 : w1.drew.cell? ⟨w.heap.size, 1, none⟩ = some (.string b) := c1
  go_region_held3 (fun w' => w'.cell? ⟨w.heap.size, 0, none⟩ = some (.string a) ∧ w'.cell? ⟨w.heap.size, 1, none⟩ = some (.string b)) (((try dsimp only); (repeat' apply And.intro) <;> (first | (with_reducible assumption) | ((go_keep); done))))
    (first
      | (go_at_call 44; (with_reducible refine (HS.out _ E0.dr).mono ?_); rintro e w2 ⟨u, s, rfl, hu, hs, hE⟩; have HU := Lib.hid hu; have HQ := Lib.hid hs; have E2 := E0.dr.tr hE; have k0 := Ext.cell hE d0; have k1 := Ext.cell hE d1; clear hu hs hE)
      | (go_at_call 49; (with_reducible refine (HN.out _ _ _ E2 HU.out HQ.out).mono ?_); rintro e w3 ⟨rfl, hE⟩; have E3 := E2.tr hE; have r0 := Ext.cell hE k0; have r1 := Ext.cell hE k1; clear hE))
  all_goals
    go_wp2_with fail
    go_ret2
    exact ⟨s, HQ.out, rfl, E3⟩
end Go.Proofs.YtadimepmoljnpaaGreatDoor.GB

namespace Go.Proofs.YtadimepmoljnpaaGreatDoor.GB
set_option linter.unusedVariables false
set_option linter.unusedSimpArgs false
open Go
/-! Polynomials as functions: bounds, Lipschitz and Taylor, and what is 0 everywhere. -/
def Wi (y b : Rat) : Prop := -b ≤ y ∧ y ≤ b
theorem Wi.nn {y b : Rat} (h : Wi y b) : 0 ≤ b := by obtain ⟨h1, h2⟩ := h; grind
theorem Wi.mul {x y a b : Rat} (h : Wi x a) (k : Wi y b) : Wi (x * y) (a * b) := by
  obtain ⟨h1, h2⟩ := h
  obtain ⟨k1, k2⟩ := k
  have e1 := Rat.mul_nonneg (show 0 ≤ a - x by grind) (show 0 ≤ b + y by grind)
  have e2 := Rat.mul_nonneg (show 0 ≤ a + x by grind) (show 0 ≤ b - y by grind)
  have e3 := Rat.mul_nonneg (show 0 ≤ a - x by grind) (show 0 ≤ b - y by grind)
  have e4 := Rat.mul_nonneg (show 0 ≤ a + x by grind) (show 0 ≤ b + y by grind)
  constructor <;> grind
theorem Wi.add {x y a b : Rat} (h : Wi x a) (k : Wi y b) : Wi (x + y) (a + b) := by
  obtain ⟨h1, h2⟩ := h
  obtain ⟨k1, k2⟩ := k
  constructor <;> grind
theorem Wi.mono {x a b : Rat} (h : Wi x a) (k : a ≤ b) : Wi x b := by
  obtain ⟨h1, h2⟩ := h
  constructor <;> grind
def rab (x : Rat) : Rat := if x < 0 then -x else x
theorem rab_wi (x : Rat) : Wi x (rab x) := by unfold rab Wi; split <;> constructor <;> grind
def bB (M : Rat) : Pl → Rat
  | [] => 0
  | c :: p => rab c + M * bB M p
def lB (M : Rat) : Pl → Rat
  | [] => 0
  | _ :: p => M * lB M p + bB M p
def cB (M : Rat) : Pl → Rat
  | [] => 0
  | _ :: p => M * cB M p + lB M p
theorem bB_ok {M x : Rat} (h : Wi x M) (p : Pl) : Wi (pev p x) (bB M p) := by
  induction p with
  | nil => constructor <;> simp [pev, bB]
  | cons c p ih => exact (rab_wi c).add (h.mul ih)
theorem lB_ok {M x y : Rat} (h : Wi x M) (k : Wi y M) (p : Pl) : ∃ f, pev p y - pev p x = (y - x) * f ∧ Wi f (lB M p) := by
  induction p with
  | nil => exact ⟨0, by simp only [pev]; grind, by constructor <;> simp [lB]⟩
  | cons c p ih =>
    obtain ⟨f, h1, h2⟩ := ih
    refine ⟨y * f + pev p x, ?_, (k.mul h2).add (bB_ok h p)⟩
    simp only [pev]
    grind
theorem pev_D_cons (c : Rat) (p : Pl) (x : Rat) : pev (pder (c :: p)) x = pev p x + x * pev (pder p) x := by
  rw [pev_PE (D_cons c p), pev_padd, pev]; grind
theorem cB_ok {M x y : Rat} (h : Wi x M) (k : Wi y M) (p : Pl) : ∃ f, pev p y - pev p x - (y - x) * pev (pder p) x = (y - x) * (y - x) * f ∧ Wi f (cB M p) := by
  induction p with
  | nil => exact ⟨0, by simp only [pev, pder, List.length_nil, List.range_zero, List.map_nil, Nat.zero_sub]; grind, by constructor <;> simp [cB]⟩
  | cons c p ih =>
    obtain ⟨f, h1, h2⟩ := ih
    obtain ⟨g, h3, h4⟩ := lB_ok h k p
    refine ⟨x * f + g, ?_, (h.mul h2).add h4⟩
    rw [pev_D_cons]
    simp only [pev]
    grind
theorem zero_of_ev (p : Pl) (h : ∀ x, x ≠ 0 → pev p x = 0) : PE p [] := by
  induction p with
  | nil => exact PE.rfl' _
  | cons c g ih =>
    have hc : c = 0 := by
      apply Classical.byContradiction
      intro hc
      have hB := (bB_ok (show Wi 0 1 by constructor <;> decide) g).nn
      have hr := rab_wi c
      obtain ⟨D, hD⟩ : ∃ D, D = bB 1 g + rab c + 1 := ⟨_, rfl⟩
      have hr0 := hr.nn
      have hD0 : 0 < D := by grind
      have hDn : D ≠ 0 := by grind
      have hx : c / D * D = c := by grind
      have hx0 : c / D ≠ 0 := by intro e; rw [e] at hx; grind
      have hw : Wi (c / D) 1 := by
        constructor
        · apply Classical.byContradiction
          intro hn
          have := Rat.mul_pos (show 0 < -1 - c / D by grind) hD0
          obtain ⟨r1, r2⟩ := hr
          grind
        · apply Classical.byContradiction
          intro hn
          have := Rat.mul_pos (show 0 < c / D - 1 by grind) hD0
          obtain ⟨r1, r2⟩ := hr
          grind
      have h1 := h _ hx0
      rw [pev] at h1
      obtain ⟨g1, g2⟩ := bB_ok hw g
      have h2 : c * (D + pev g (c / D)) = 0 := by
        have : D * (c + c / D * pev g (c / D)) = 0 := by rw [h1]; grind
        grind
      rcases Rat.mul_eq_zero.1 h2 with h3 | h3
      · exact hc h3
      · grind
    subst hc
    have h2 := ih (fun x hx => by
      have h1 := h x hx
      rw [pev] at h1
      have h2 : x * pev g x = 0 := by grind
      exact (Rat.mul_eq_zero.1 h2).resolve_left hx)
    intro i
    cases i with
    | zero => rfl
    | succ i => rw [cf_succ, h2 i]; simp
def EV (a b : Pl) : Prop := ∀ x, pev a x = pev b x
theorem EV.pe {a b : Pl} (h : EV a b) : PE a b := by
  have h2 := zero_of_ev (padd a (pneg b)) (fun x _ => by rw [pev_padd]; unfold pneg; rw [pev_psc, h x]; grind)
  intro i
  have := h2 i
  rw [cf_padd, cf_pneg] at this
  simp at this
  grind
theorem EV.D {a b : Pl} (h : EV a b) : EV (pder a) (pder b) := fun x => pev_PE (D_congr h.pe) x
theorem ev_Dmul (a b : Pl) (x : Rat) : pev (pder (pmul a b)) x = pev (pder a) x * pev b x + pev a x * pev (pder b) x := by
  rw [pev_PE (D_mul a b), pev_padd, pev_pmul, pev_pmul]
theorem ev_trim (a : Pl) (x : Rat) : pev (ptrim a) x = pev a x := pev_PE (cf_ptrim a) x
/-! Divisors. -/
def Dv (a b : Pl) : Prop := ∃ c : Pl, ∀ x, pev b x = pev c x * pev a x
def Cop (a b : Pl) : Prop := ∃ u v : Pl, ∀ x, pev u x * pev a x + pev v x * pev b x = 1
theorem Dv.of {a b : Pl} (h : Dvd a b) : Dv a b := by
  obtain ⟨c, hc⟩ := h
  exact ⟨c, fun x => by rw [pev_PE hc, pev_pmul]⟩
theorem Cop.dvd {a b c : Pl} (h : Cop a b) (k : Dv a (pmul b c)) : Dv a c := by
  obtain ⟨u, v, huv⟩ := h
  obtain ⟨d, hd⟩ := k
  refine ⟨padd (pmul u c) (pmul v d), fun x => ?_⟩
  have h1 := huv x
  have h2 := hd x
  rw [pev_pmul] at h2
  rw [pev_padd, pev_pmul, pev_pmul]
  grind
theorem Cop.mul {a b c : Pl} (h : Cop a b) (k : Cop a c) : Cop a (pmul b c) := by
  obtain ⟨u, v, h1⟩ := h
  obtain ⟨y, z, h2⟩ := k
  refine ⟨padd (pmul u (padd (pmul y a) (pmul z c))) (pmul v (pmul b y)), pmul v z, fun x => ?_⟩
  have e1 := h1 x
  have e2 := h2 x
  simp only [pev_padd, pev_pmul]
  grind
theorem Cop.of_dv {a b c : Pl} (h : Cop a b) (k : Dv c b) : Cop a c := by
  obtain ⟨u, v, h1⟩ := h
  obtain ⟨d, hd⟩ := k
  refine ⟨u, pmul v d, fun x => ?_⟩
  have e1 := h1 x
  have e2 := hd x
  simp only [pev_pmul]
  grind
theorem pev_one (x : Rat) : pev [1] x = 1 := by simp [pev]; grind
theorem Cop.one (a : Pl) : Cop a [1] := ⟨[], [1], fun x => by simp only [pev]; grind⟩
def ppow (a : Pl) : Nat → Pl
  | 0 => [1]
  | n + 1 => pmul a (ppow a n)
theorem Cop.pow {a b : Pl} (h : Cop a b) (k : Nat) : Cop a (ppow b k) := by
  induction k with
  | zero => exact Cop.one a
  | succ k ih => exact h.mul ih
theorem not_nil {a : Pl} (h : Tr a) (h0 : a ≠ []) : ¬ PE a [] := fun e => h0 (tr_zero h e)
theorem trim_ne {a : Pl} (h : ¬ PE a []) : ptrim a ≠ [] := fun e => h ((cf_ptrim a).symm.trans (by rw [e]; exact PE.rfl' _))
theorem cancel {g f : Pl} (hg : ¬ PE g []) (h : ∀ x, pev g x * pev f x = 0) (x : Rat) : pev f x = 0 := by
  apply Classical.byContradiction
  intro hx
  have hf : ¬ PE f [] := fun e => hx (by rw [pev_PE e]; rfl)
  refine pmul_ne (tr_ptrim g) (tr_ptrim f) (trim_ne hg) (trim_ne hf) ?_
  apply EV.pe
  intro y
  rw [pev_pmul, ev_trim, ev_trim]; exact h y
theorem mul_nz {a b : Pl} (ha : ¬ PE a []) (hb : ¬ PE b []) : ¬ PE (pmul a b) [] := fun e => by
  have := cancel ha (f := b) (fun x => by rw [← pev_pmul, pev_PE e]; rfl)
  exact hb (EV.pe this)
theorem div_ex {p r : Pl} (hr : Tr r) (hr0 : r ≠ []) : ∃ q t, DivRel p r q t := by
  suffices h : ∀ k Q R, DInv p r Q R k → k ≤ Q.length → ∃ q t, DivRel p r q t from
    h (p.length + 1) _ _ (DInv.start p r (p.length + 1) (by have := List.length_pos_iff.2 hr0; omega)) (by simp)
  intro k
  induction k with
  | zero => intro Q R h _; exact ⟨_, _, h.done hr0⟩
  | succ k ih =>
    intro Q R h hk
    exact ih _ _ (h.step hr0 (lead_ne hr hr0) rfl (by omega) (PE.rfl' _)) (by simp; omega)
/-- A greatest common divisor, as a sum of multiples. -/
theorem gcd_ex (a b : Pl) : ∃ d u v, Tr d ∧ Dv d a ∧ Dv d b ∧ ∀ x, pev d x = pev u x * pev a x + pev v x * pev b x := by
  suffices h : ∀ n (a b : Pl), Tr b → b.length ≤ n → ∃ d u v, Tr d ∧ Dv d a ∧ Dv d b ∧ ∀ x, pev d x = pev u x * pev a x + pev v x * pev b x by
    obtain ⟨d, u, v, h1, h2, ⟨c, h3⟩, h4⟩ := h _ a (ptrim b) (tr_ptrim b) (Nat.le_refl _)
    exact ⟨d, u, v, h1, h2, ⟨c, fun x => by rw [← ev_trim]; exact h3 x⟩, fun x => by have := h4 x; rw [ev_trim] at this; exact this⟩
  intro n
  induction n with
  | zero =>
    intro a b tb hb
    have : b = [] := List.length_eq_zero_iff.1 (by omega)
    subst this
    exact ⟨ptrim a, [1], [], tr_ptrim a, ⟨[1], fun x => by rw [pev_one, ev_trim]; grind⟩, ⟨[], fun x => by simp [pev]⟩, fun x => by rw [ev_trim, pev_one]; simp only [pev]; grind⟩
  | succ n ih =>
    intro a b tb hb
    by_cases h0 : b = []
    · subst h0
      exact ⟨ptrim a, [1], [], tr_ptrim a, ⟨[1], fun x => by rw [pev_one, ev_trim]; grind⟩, ⟨[], fun x => by simp [pev]⟩, fun x => by rw [ev_trim, pev_one]; simp only [pev]; grind⟩
    · obtain ⟨q, t, h⟩ := div_ex (p := a) tb h0
      obtain ⟨d, u, v, h1, ⟨c1, h2⟩, ⟨c2, h3⟩, h4⟩ := ih b t h.trt (by have := h.lt; omega)
      have he : ∀ x, pev a x = pev q x * pev b x + pev t x := fun x => by rw [pev_PE h.eq, pev_padd, pev_pmul]
      refine ⟨d, v, padd u (pneg (pmul v q)), h1, ⟨padd (pmul q c1) c2, fun x => ?_⟩, ⟨c1, h2⟩, fun x => ?_⟩
      · have e1 := he x; have e2 := h2 x; have e3 := h3 x
        rw [pev_padd, pev_pmul]; grind
      · have e1 := he x; have e2 := h4 x
        rw [pev_padd]; unfold pneg; rw [pev_psc, pev_pmul]; grind
theorem Dv.len {a b : Pl} (ta : Tr a) (tb : Tr b) (hb : b ≠ []) (h : Dv a b) : a ≠ [] ∧ ∃ c, Tr c ∧ c ≠ [] ∧ (∀ x, pev b x = pev c x * pev a x) ∧ b.length = c.length + a.length - 1 := by
  obtain ⟨c, hc⟩ := h
  have hn := not_nil tb hb
  have ha : a ≠ [] := by
    intro e; subst e
    exact hn (EV.pe fun x => by rw [hc x]; simp [pev])
  have hcn : ¬ PE c [] := fun e => hn (EV.pe fun x => by rw [hc x, pev_PE e]; simp [pev])
  have h1 := trim_ne hcn
  refine ⟨ha, ptrim c, tr_ptrim c, h1, fun x => by rw [ev_trim]; exact hc x, ?_⟩
  have h2 := (pmul_tr (tr_ptrim c) ta h1 ha).1
  have h3 : ptrim (pmul (ptrim c) a) = b := by
    rw [← ptrim_tr tb]
    apply ptrim_eq
    apply EV.pe
    intro x
    rw [pev_pmul, ev_trim]; exact (hc x).symm
  rw [h3] at h2; exact h2
theorem one_len {d : Pl} (td : Tr d) (h : d.length = 1) : ∃ c, c ≠ 0 ∧ ∀ x, pev d x = c := by
  obtain ⟨c, rfl⟩ := List.length_eq_one_iff.1 h
  refine ⟨c, ?_, fun x => by simp [pev]; grind⟩
  intro e; subst e; simp [Tr] at td
theorem Cop.of_len {d u v a b : Pl} (td : Tr d) (h : d.length = 1) (he : ∀ x, pev d x = pev u x * pev a x + pev v x * pev b x) : Cop a b := by
  obtain ⟨c, hc, h1⟩ := one_len td h
  refine ⟨psc (1 / c) u, psc (1 / c) v, fun x => ?_⟩
  have e1 := h1 x
  have e2 := he x
  have e3 : 1 / c * c = 1 := by grind
  rw [pev_psc, pev_psc]; grind
/-! The simple part has no multiple divisor, and the polynomial divides a power of it. -/
theorem Dv.nz {a b : Pl} (h : Dv a b) (hb : ¬ PE b []) : ¬ PE a [] := fun e => by
  obtain ⟨c, hc⟩ := h
  exact hb (EV.pe fun x => by rw [hc x, pev_PE e]; simp [pev])
/-- Descent: t divides g1 again and again. -/
theorem sq_down {t g s s1 r1 w a b : Pl} (tt : Tr t) (ht : 2 ≤ t.length) (hg : ¬ PE g [])
    (hs : ∀ x, pev s x = pev s1 x * pev t x) (hr : ∀ x, pev (pder s) x = pev r1 x * pev t x)
    (hD : ∀ x, pev s x * pev (pder g) x = pev g x * (pev w x - pev (pder s) x))
    (hab : ∀ x, pev a x * pev s x + pev b x * pev w x = 1) :
    ∀ n (g1 e : Pl) (j : Rat), Tr g1 → g1.length ≤ n → (∀ x, pev g x = pev e x * pev g1 x) → (∀ x, pev t x * pev (pder e) x = j * pev e x * pev (pder t) x) → False := by
  have ht0 : ¬ PE t [] := not_nil tt (by intro e; subst e; simp at ht)
  have hsD : ∀ x, pev (pder s) x = pev (pder t) x * pev s1 x + pev t x * pev (pder s1) x := fun x => by
    have := EV.D (a := s) (b := pmul t s1) (fun y => by rw [pev_pmul, hs y]; grind) x
    rw [this, ev_Dmul]
  have hcop : Cop t (padd w (pneg (pder s))) := by
    refine ⟨padd (pmul a s1) (pmul b r1), b, fun x => ?_⟩
    have e1 := hab x; have e2 := hs x; have e3 := hr x
    simp only [pev_padd, pev_pmul, pneg, pev_psc]
    grind
  intro n
  induction n with
  | zero =>
    intro g1 e j tg hl he hj
    have : g1 = [] := List.length_eq_zero_iff.1 (by omega)
    subst this
    exact hg (EV.pe fun x => by rw [he x]; simp [pev])
  | succ n ih =>
    intro g1 e j tg hl he hj
    have hg1 : g1 ≠ [] := by
      intro h; subst h
      exact hg (EV.pe fun x => by rw [he x]; simp [pev])
    have he0 : ¬ PE e [] := fun h => hg (EV.pe fun x => by rw [he x, pev_PE h]; simp [pev])
    have hgD : ∀ x, pev (pder g) x = pev (pder e) x * pev g1 x + pev e x * pev (pder g1) x := fun x => by
      have := EV.D (a := g) (b := pmul e g1) (fun y => by rw [pev_pmul, he y]) x
      rw [this, ev_Dmul]
    -- t divides g1 (w - s')
    have key : ∀ x, pev (pmul t e) x * pev (padd (pmul t (padd (psc j (pmul (padd r1 (pneg (pder s1))) g1)) (pmul s1 (pder g1)))) (pneg (pmul g1 (padd w (pneg (pder s)))))) x = 0 := fun x => by
      have e1 := hs x; have e2 := hr x; have e3 := hD x; have e4 := he x; have e5 := hj x; have e6 := hgD x; have e7 := hsD x
      simp only [pev_padd, pev_pmul, pneg, pev_psc]
      have h1 : pev t x * pev (pder s1) x = pev r1 x * pev t x - pev (pder t) x * pev s1 x := by grind
      have h2 : pev t x * (pev s x * (pev (pder e) x * pev g1 x + pev e x * pev (pder g1) x)) = pev t x * (pev e x * pev g1 x) * (pev w x - pev (pder s) x) := by rw [← e6, ← e4, e3]; grind
      have h3 : pev s1 x * pev t x * (j * pev e x * pev (pder t) x * pev g1 x + pev t x * pev e x * pev (pder g1) x) = pev t x * (pev e x * pev g1 x) * (pev w x - pev (pder s) x) := by
        rw [← e5, ← e1, ← h2]; grind
      have h4 : pev t x * (j * (pev r1 x - pev (pder s1) x) * pev g1 x + pev s1 x * pev (pder g1) x) = j * pev g1 x * (pev (pder t) x * pev s1 x) + pev t x * pev s1 x * pev (pder g1) x := by grind
      grind
    have hdv : Dv t (pmul (padd w (pneg (pder s))) g1) := by
      refine ⟨padd (psc j (pmul (padd r1 (pneg (pder s1))) g1)) (pmul s1 (pder g1)), fun x => ?_⟩
      have := cancel (mul_nz ht0 he0) key x
      simp only [pev_padd, pev_pmul, pneg, pev_psc] at this ⊢
      grind
    obtain ⟨-, g2, tg2, hg2, hg3, hl2⟩ := (hcop.dvd hdv).len tt tg hg1
    refine ih g2 (pmul e t) (j + 1) tg2 (by omega) (fun x => ?_) (fun x => ?_)
    · have e1 := he x; have e2 := hg3 x
      rw [pev_pmul]; grind
    · have e5 := hj x
      rw [ev_Dmul, pev_pmul]; grind
/-- A part whose divisors divide a power of s, and a part that has none with s. -/
theorem split_ex (s : Pl) : ∀ n (p : Pl), Tr p → p ≠ [] → p.length ≤ n → ∃ u h k, (∀ x, pev p x = pev u x * pev h x) ∧ Dv u (ppow s k) ∧ Cop h s := by
  intro n
  induction n with
  | zero => intro p tp hp hl; exact absurd (List.length_eq_zero_iff.1 (by omega)) hp
  | succ n ih =>
    intro p tp hp hl
    obtain ⟨d, y, v, td, h1, h2, h3⟩ := gcd_ex p s
    obtain ⟨hd, c, tc, hc, hpc, hlc⟩ := h1.len td tp hp
    have ld := List.length_pos_iff.2 hd
    by_cases h : d.length = 1
    · exact ⟨[1], p, 0, fun x => by rw [pev_one]; grind, ⟨[1], fun x => by rw [ppow, pev_one]; grind⟩, Cop.of_len td h h3⟩
    · obtain ⟨u, h, k, e1, ⟨z, e2⟩, e3⟩ := ih c tc hc (by omega)
      obtain ⟨m, hm⟩ := h2
      refine ⟨pmul d u, h, k + 1, fun x => ?_, ⟨pmul m z, fun x => ?_⟩, e3⟩
      · have a1 := hpc x; have a2 := e1 x
        rw [pev_pmul]; grind
      · have a1 := e2 x; have a2 := hm x
        rw [ppow, pev_pmul, pev_pmul, pev_pmul]; grind
theorem pder_zero_len {h : Pl} (th : Tr h) (hd : PE (pder h) []) : h.length ≤ 1 := by
  refine tr_len th 1 fun i hi => ?_
  have h1 := hd (i - 1)
  rw [cf_pder, show i - 1 + 1 = i by omega] at h1
  rw [cf_nil] at h1
  rcases Rat.mul_eq_zero.1 h1 with h2 | h2
  · exact h2
  · exfalso
    have := nz (i - 1)
    rw [show i - 1 + 1 = i by omega] at this
    exact this h2
theorem simple_facts {p g s : Pl} (tp : Tr p) (hp : p ≠ []) (hg : GcdRel p (pder p) g) (hs : ∀ x, pev p x = pev s x * pev g x) :
    Cop s (pder s) ∧ ∃ k, Dv p (ppow s k) := by
  have hpn := not_nil tp hp
  have hgn : ¬ PE g [] := (Dv.of hg.dp).nz hpn
  obtain ⟨w, hw⟩ := Dv.of hg.dr
  obtain ⟨a, b, hab⟩ := hg.bez
  have hbz : ∀ x, pev a x * pev s x + pev b x * pev w x = 1 := fun x => by
    have := cancel hgn (f := padd (padd (pmul a s) (pmul b w)) [-1]) (fun x => by
      have e1 := pev_PE hab x
      rw [pev_padd, pev_pmul, pev_pmul, hs, hw] at e1
      simp only [pev_padd, pev_pmul, pev]
      grind) x
    simp only [pev_padd, pev_pmul, pev] at this
    grind
  have hpD : ∀ x, pev w x * pev g x = pev (pder s) x * pev g x + pev s x * pev (pder g) x := fun x => by
    rw [← hw, EV.D (a := p) (b := pmul s g) (fun y => by rw [pev_pmul, hs y]) x, ev_Dmul]
  have hsn : ¬ PE s [] := fun e => hpn (EV.pe fun x => by rw [hs x, pev_PE e]; simp [pev])
  constructor
  · obtain ⟨t, u, v, tt, ⟨s1, hs1⟩, ⟨r1, hr1⟩, ht⟩ := gcd_ex s (pder s)
    have ht0 : t ≠ [] := by
      intro e; subst e
      exact hsn (EV.pe fun x => by rw [hs1 x]; simp [pev])
    have l0 := List.length_pos_iff.2 ht0
    by_cases h1 : t.length = 1
    · exact Cop.of_len tt h1 ht
    · exfalso
      refine sq_down (a := a) (b := b) (w := w) tt (by omega) hgn hs1 hr1 (fun x => by have := hpD x; grind) hbz _ (ptrim g) [1] 0 (tr_ptrim g) (Nat.le_refl _) (fun x => by rw [pev_one, ev_trim]; grind) (fun x => ?_)
      have : pder [1] = [] := rfl
      rw [this]; simp [pev]
  · obtain ⟨u, h, k, e1, e2, e3⟩ := split_ex s _ p tp hp (Nat.le_refl _)
    obtain ⟨h', hh⟩ : ∃ h', h' = ptrim h := ⟨_, rfl⟩
    have th : Tr h' := by rw [hh]; exact tr_ptrim h
    have ev : ∀ x, pev h' x = pev h x := fun x => by rw [hh, ev_trim]
    have hn : h' ≠ [] := by
      intro e
      exact hpn (EV.pe fun x => by rw [e1 x, ← ev x, e]; simp [pev])
    have c1 : Cop h' s := by
      obtain ⟨y, z, hyz⟩ := e3
      exact ⟨y, z, fun x => by rw [ev]; exact hyz x⟩
    have d1 : Dv h' (pmul s g) := ⟨u, fun x => by rw [pev_pmul, ← hs, e1, ev]⟩
    have d2 : Dv h' g := c1.dvd d1
    have d3 : Dv h' (pmul u (pder h')) := by
      obtain ⟨m, hm⟩ := d2
      refine ⟨padd (pmul w m) (pneg (pder u)), fun x => ?_⟩
      have a1 := hw x
      have a2 : pev (pder p) x = pev (pder u) x * pev h' x + pev u x * pev (pder h') x := by
        rw [EV.D (a := p) (b := pmul u h') (fun y => by rw [pev_pmul, e1 y, ev]) x, ev_Dmul]
      have a3 := hm x
      simp only [pev_padd, pev_pmul, pneg, pev_psc]
      grind
    have d4 : Dv h' (pder h') := ((c1.pow k).of_dv e2).dvd d3
    have hl : h'.length = 1 := by
      have l0 := List.length_pos_iff.2 hn
      by_cases hz : pder h' = []
      · have := pder_zero_len th (by rw [hz]; exact PE.rfl' _)
        omega
      · have hz2 : ptrim (pder h') ≠ [] ∨ ptrim (pder h') = [] := by
          by_cases q : ptrim (pder h') = []
          · exact .inr q
          · exact .inl q
        rcases hz2 with q | q
        · obtain ⟨c, hc⟩ := d4
          obtain ⟨-, c', -, hc', -, hl⟩ := Dv.len (b := ptrim (pder h')) th (tr_ptrim _) q ⟨c, fun x => by rw [ev_trim]; exact hc x⟩
          have := List.length_pos_iff.2 hc'
          have := ptrim_len (pder h')
          have e : (pder h').length = h'.length - 1 := by simp [pder]
          omega
        · have := pder_zero_len th ((cf_ptrim _).symm.trans (by rw [q]; exact PE.rfl' _))
          omega
    obtain ⟨c, hc, hcx⟩ := one_len th hl
    obtain ⟨m, hm⟩ := e2
    refine ⟨k, psc (1 / c) m, fun x => ?_⟩
    have a1 := hm x; have a2 := e1 x; have a3 := hcx x; have a4 := ev x
    have a5 : 1 / c * c = 1 := by grind
    rw [pev_psc]; grind
end Go.Proofs.YtadimepmoljnpaaGreatDoor.GB

namespace Go.Proofs.YtadimepmoljnpaaGreatDoor.GB
set_option linter.unusedVariables false
set_option linter.unusedSimpArgs false
open Go
/-! Sturm's chain between two near places. -/
theorem sg_neg {x : Rat} (h : x < 0) : sgq x.num = -1 := by
  have h1 : ¬ 0 ≤ x.num := fun e => by have := Rat.num_nonneg.1 e; grind
  unfold sgq; rw [if_pos (by omega)]
theorem sg_pos {x : Rat} (h : 0 < x) : sgq x.num = 1 := by
  have h1 := Rat.num_nonneg.2 (show 0 ≤ x by grind)
  have h2 : x.num ≠ 0 := fun e => by rw [Rat.num_eq_zero] at e; grind
  unfold sgq; rw [if_neg (by omega), if_pos (by omega)]
theorem sg_lt (x : Rat) : sgq x.num = -1 ↔ x < 0 := by
  constructor
  · intro h
    rcases (by grind : x < 0 ∨ x = 0 ∨ 0 < x) with h1 | h1 | h1
    · exact h1
    · subst h1; exact absurd h (by decide)
    · rw [sg_pos h1] at h; exact absurd h (by decide)
  · exact sg_neg
inductive Pat : Int → List Int → List Int → Prop
  | nil (s) : Pat s [] []
  | fix (s t A B) : t = 1 ∨ t = -1 → Pat t A B → Pat s (t :: A) (t :: B)
  | skip (s x y A B) : (x = 1 ∨ x = -1 ∨ x = 0) → (y = 1 ∨ y = -1 ∨ y = 0) → Pat (-s) A B → Pat s (x :: -s :: A) (y :: -s :: B)
theorem chg_three {s x : Int} (hs : s = 1 ∨ s = -1) (hx : x = 1 ∨ x = -1 ∨ x = 0) (n : Int) : chg (chg (s, n) x) (-s) = (-s, n + 1) := by
  rcases hs with rfl | rfl <;> rcases hx with rfl | rfl | rfl <;> simp [chg]
theorem Pat.fold {s : Int} {A B : List Int} (h : Pat s A B) : (s = 1 ∨ s = -1) → ∀ n m : Int, (A.foldl chg (s, n)).2 - n = (B.foldl chg (s, m)).2 - m := by
  induction h with
  | nil s => intro _ n m; simp
  | fix s t A B ht h ih =>
    intro hs n m
    rw [List.foldl_cons, List.foldl_cons]
    have e : ∃ c : Int, (c = 0 ∨ c = 1) ∧ ∀ k : Int, chg (s, k) t = (t, k + c) := by
      rcases hs with rfl | rfl <;> rcases ht with rfl | rfl
      · exact ⟨0, .inl rfl, fun k => by simp [chg]⟩
      · exact ⟨1, .inr rfl, fun k => by simp [chg]⟩
      · exact ⟨1, .inr rfl, fun k => by simp [chg]⟩
      · exact ⟨0, .inl rfl, fun k => by simp [chg]⟩
    obtain ⟨c, -, hc⟩ := e
    rw [hc, hc]
    have := ih ht (n + c) (m + c)
    omega
  | skip s x y A B hx hy h ih =>
    intro hs n m
    rw [List.foldl_cons, List.foldl_cons, List.foldl_cons, List.foldl_cons, chg_three hs hx, chg_three hs hy]
    have := ih (by rcases hs with rfl | rfl <;> simp) (n + 1) (m + 1)
    omega
/-- Bounds for a chain. -/
def LB (K M : Rat) : List Pl → Prop
  | [] => True
  | [a] => lB M a ≤ K ∧ ∃ c, c ≠ 0 ∧ ∀ x, pev a x = c
  | a :: b :: r => lB M a ≤ K ∧ (∃ u v, bB M u ≤ K ∧ bB M v ≤ K ∧ ∀ x, pev u x * pev a x + pev v x * pev b x = 1) ∧ (∀ c r', r = c :: r' → ∃ q, bB M q ≤ K ∧ ∀ x, pev a x + pev c x = pev q x * pev b x) ∧ LB K M (b :: r)
theorem LB.mono {K L M : Rat} (hk : K ≤ L) : ∀ {l : List Pl}, LB K M l → LB L M l
  | [], _ => trivial
  | [a], h => ⟨Rat.le_trans h.1 hk, h.2⟩
  | a :: b :: r, h => by
    obtain ⟨h1, ⟨u, v, h2, h3, h4⟩, h5, h6⟩ := h
    refine ⟨Rat.le_trans h1 hk, ⟨u, v, Rat.le_trans h2 hk, Rat.le_trans h3 hk, h4⟩, fun c r' e => ?_, LB.mono hk h6⟩
    obtain ⟨q, hq, hq2⟩ := h5 c r' e
    exact ⟨q, Rat.le_trans hq hk, hq2⟩
def rmx (a b : Rat) : Rat := if a ≤ b then b else a
theorem rmx_l (a b : Rat) : a ≤ rmx a b := by unfold rmx; split <;> grind
theorem rmx_r (a b : Rat) : b ≤ rmx a b := by unfold rmx; split <;> grind
theorem unit_len {a : Pl} (ta : Tr a) (h : Cop a []) : a.length = 1 := by
  obtain ⟨u, v, huv⟩ := h
  have hd : Dv a [1] := ⟨u, fun x => by rw [pev_one]; have := huv x; simp only [pev] at this; grind⟩
  obtain ⟨ha, c, -, hc, -, hl⟩ := hd.len ta (by simp [Tr]) (by simp)
  have h1 := List.length_pos_iff.2 ha
  have h2 := List.length_pos_iff.2 hc
  simp at hl
  omega
/-- The chain of coprime polynomials has bounds; it begins with them. -/
theorem sch_lb (M : Rat) : ∀ (f : Nat) (a b : Pl), Tr a → Tr b → a ≠ [] → Cop a b → b.length < f → ∃ K r, 1 ≤ K ∧ LB K M (sch f a b) ∧ sch f a b = a :: r ∧ (b ≠ [] → ∃ r', r = b :: r') ∧ (b = [] → r = []) := by
  intro f
  induction f with
  | zero => intro a b _ _ _ _ h; omega
  | succ f ih =>
    intro a b ta tb ha hc hl
    by_cases hb : b = []
    · subst hb
      rw [sch_last ha]
      exact ⟨rmx 1 (lB M a), [], rmx_l _ _, ⟨rmx_r _ _, one_len ta (unit_len ta hc)⟩, rfl, fun h => absurd rfl h, fun _ => rfl⟩
    · obtain ⟨q, t, hd⟩ := div_ex (p := a) tb hb
      rw [sch_step ha tb hd]
      have he : ∀ x, pev a x = pev q x * pev b x + pev t x := fun x => by rw [pev_PE hd.eq, pev_padd, pev_pmul]
      obtain ⟨u, v, huv⟩ := hc
      have hc2 : Cop b (pneg t) := by
        refine ⟨padd (pmul u q) v, pneg u, fun x => ?_⟩
        have e1 := huv x; have e2 := he x
        simp only [pev_padd, pev_pmul, pneg, pev_psc]
        grind
      obtain ⟨K, r, k1, k2, k3, k4, k5⟩ := ih b (pneg t) tb (tr_pneg hd.trt) hb hc2 (by rw [pneg_len]; have := hd.lt; omega)
      obtain ⟨L, hL⟩ : ∃ L, L = rmx K (rmx (lB M a) (rmx (bB M u) (rmx (bB M v) (bB M q)))) := ⟨_, rfl⟩
      have l1 : K ≤ L := by rw [hL]; exact rmx_l _ _
      have l2 : lB M a ≤ L := by rw [hL]; exact Rat.le_trans (rmx_l _ _) (rmx_r _ _)
      have l3 : bB M u ≤ L := by rw [hL]; exact Rat.le_trans (rmx_l _ _) (Rat.le_trans (rmx_r _ _) (rmx_r _ _))
      have l4 : bB M v ≤ L := by rw [hL]; exact Rat.le_trans (rmx_l _ _) (Rat.le_trans (rmx_r _ _) (Rat.le_trans (rmx_r _ _) (rmx_r _ _)))
      have l5 : bB M q ≤ L := by rw [hL]; exact Rat.le_trans (rmx_r _ _) (Rat.le_trans (rmx_r _ _) (Rat.le_trans (rmx_r _ _) (rmx_r _ _)))
      refine ⟨L, b :: r, Rat.le_trans k1 l1, ?_, by rw [k3], fun _ => ⟨r, rfl⟩, fun h => absurd h hb⟩
      rw [k3] at k2 ⊢
      refine ⟨l2, ⟨u, v, l3, l4, huv⟩, fun c r' e => ⟨q, l5, fun x => ?_⟩, k2.mono l1⟩
      by_cases ht : pneg t = []
      · have := k5 ht; rw [this] at e; cases e
      · obtain ⟨r2, hr2⟩ := k4 ht
        rw [hr2] at e
        injection e with e1 e2
        rw [← e1, he x]
        unfold pneg; rw [pev_psc]; grind
/-- Far from 0 at a: the same sign nearby. -/
theorem far_sign {K M e a b : Rat} {p : Pl} (hl : lB M p ≤ K) (ha : Wi a M) (hb : Wi b M) (hab : a ≤ b) (hk : K * (b - a) < e) :
    (e ≤ pev p a → 0 < pev p b) ∧ (pev p a ≤ -e → pev p b < 0) := by
  obtain ⟨f, h1, h2⟩ := lB_ok ha hb p
  obtain ⟨h3, h4⟩ := h2.mono hl
  have e1 := Rat.mul_nonneg (show 0 ≤ b - a by grind) (show 0 ≤ K - f by grind)
  have e2 := Rat.mul_nonneg (show 0 ≤ b - a by grind) (show 0 ≤ K + f by grind)
  constructor <;> intro h <;> grind
/-- The other one of a coprime pair is far from 0. -/
theorem bez_far {K e x y u v : Rat} (hK : 1 ≤ K) (hu : Wi u K) (hv : Wi v K) (h : u * x + v * y = 1) (he : e * (4 * K * K) = 1) (hx : Wi x e) : 2 * e ≤ y ∨ y ≤ -(2 * e) := by
  apply Classical.byContradiction
  intro hn
  have hy : Wi y (2 * e) := by constructor <;> grind
  have h1 := (hu.mul hx).add (hv.mul hy)
  rw [h] at h1
  obtain ⟨-, h2⟩ := h1
  have he0 := hx.nn
  -- 1 <= 3 K e, 4 K K e = 1
  have h3 : K * e * (4 * K) = 1 := by grind
  have h4 := Rat.mul_nonneg (show 0 ≤ K - 1 by grind) (Rat.mul_nonneg (show 0 ≤ K by grind) he0)
  grind
theorem sg3 (x : Rat) : sgq x.num = 1 ∨ sgq x.num = -1 ∨ sgq x.num = 0 := by
  unfold sgq; split
  · exact .inr (.inl rfl)
  · split
    · exact .inl rfl
    · exact .inr (.inr rfl)
/-- The pattern of the signs behind a polynomial that is far from 0. -/
theorem chain_pat {K M e a b : Rat} (hK : 1 ≤ K) (he : e * (4 * K * K) = 1) (ha : Wi a M) (hb : Wi b M) (hab : a ≤ b) (hk : K * (b - a) < e) :
    ∀ n (p : Pl) (r : List Pl), r.length ≤ n → LB K M (p :: r) → (e ≤ pev p a ∨ pev p a ≤ -e) → Pat (sgnAt a p) (r.map (sgnAt a)) (r.map (sgnAt b)) := by
  have he0 : 0 < e := by
    have h1 := Rat.mul_nonneg (show 0 ≤ b - a by grind) (show 0 ≤ K by grind)
    grind
  intro n
  induction n with
  | zero =>
    intro p r hl _ _
    have : r = [] := List.length_eq_zero_iff.1 (by omega)
    subst this; exact Pat.nil _
  | succ n ih =>
    intro p r hl hLB hp
    cases r with
    | nil => exact Pat.nil _
    | cons q r =>
      obtain ⟨hp1, ⟨u, v, hu, hv, huv⟩, hq, hrest⟩ := hLB
      simp only [List.length_cons] at hl
      by_cases hfar : e ≤ pev q a ∨ pev q a ≤ -e
      · have hql : lB M q ≤ K := by cases r with
          | nil => exact hrest.1
          | cons _ _ => exact hrest.1
        have hs := far_sign hql ha hb hab hk
        have e1 : sgnAt b q = sgnAt a q ∧ (sgnAt a q = 1 ∨ sgnAt a q = -1) := by
          unfold sgnAt
          rcases hfar with h | h
          · rw [sg_pos (hs.1 h), sg_pos (by grind)]; exact ⟨rfl, .inl rfl⟩
          · rw [sg_neg (hs.2 h), sg_neg (by grind)]; exact ⟨rfl, .inr rfl⟩
        rw [List.map_cons, List.map_cons, e1.1]
        exact Pat.fix _ _ _ _ e1.2 (ih q r (by omega) hrest hfar)
      · have hw : Wi (pev q a) e := by constructor <;> grind
        cases r with
        | nil =>
          obtain ⟨-, c, hc, hcx⟩ := hrest
          have e1 : sgnAt b q = sgnAt a q ∧ (sgnAt a q = 1 ∨ sgnAt a q = -1) := by
            unfold sgnAt
            rw [hcx, hcx]
            rcases (by grind : c < 0 ∨ 0 < c) with h | h
            · rw [sg_neg h]; exact ⟨rfl, .inr rfl⟩
            · rw [sg_pos h]; exact ⟨rfl, .inl rfl⟩
          rw [List.map_cons, List.map_cons, e1.1]
          exact Pat.fix _ _ _ _ e1.2 (Pat.nil _)
        | cons s r =>
          obtain ⟨g, hg, hgx⟩ := hq s r rfl
          obtain ⟨hq1, ⟨u2, v2, hu2, hv2, huv2⟩, -, hrest2⟩ := hrest
          have f1 := bez_far hK ((bB_ok ha u2).mono hu2) ((bB_ok ha v2).mono hv2) (huv2 a) he hw
          have huv' : pev v a * pev q a + pev u a * pev p a = 1 := by have := huv a; grind
          have f0 := bez_far hK ((bB_ok ha v).mono hv) ((bB_ok ha u).mono hu) huv' he hw
          have f2 := ((bB_ok ha g).mono hg).mul hw
          rw [← hgx a] at f2
          obtain ⟨f3, f4⟩ := f2
          -- K e <= 1/4 .. the sum is small
          have f5 : e ≤ e * K := by
            have := Rat.mul_nonneg (show 0 ≤ K - 1 by grind) (show 0 ≤ e by grind); grind
          have hsl : lB M s ≤ K := by cases r with
            | nil => exact hrest2.1
            | cons _ _ => exact hrest2.1
          have hs := far_sign hsl ha hb hab hk
          -- the size of the sum: below 2/K times 1/2
          have g1 := bez_far (e := e) hK ((bB_ok ha u2).mono hu2) ((bB_ok ha v2).mono hv2) (huv2 a) he hw
          have big : ∀ x y z : Rat, Wi x K → Wi y K → x * pev q a + y * z = 1 → K * e < z ∨ z < -(K * e) := by
            intro x y z hx hy hxy
            apply Classical.byContradiction
            intro hn
            have hz : Wi z (K * e) := by constructor <;> grind
            have h1 := (hx.mul hw).add (hy.mul hz)
            rw [hxy] at h1
            obtain ⟨-, h2⟩ := h1
            have h3 := Rat.mul_nonneg (show 0 ≤ K - 1 by grind) (Rat.mul_nonneg (show 0 ≤ K by grind) (show 0 ≤ e by grind))
            grind
          have b1 := big _ _ _ ((bB_ok ha u2).mono hu2) ((bB_ok ha v2).mono hv2) (huv2 a)
          have b0 := big _ _ _ ((bB_ok ha v).mono hv) ((bB_ok ha u).mono hu) huv'
          have e1 : sgnAt a s = - sgnAt a p ∧ sgnAt b s = - sgnAt a p := by
            unfold sgnAt
            rcases b1 with h1 | h1 <;> rcases b0 with h0 | h0
            · exfalso; grind
            · have i1 : 0 < pev s a := by grind
              have i2 : pev p a < 0 := by grind
              rw [sg_pos i1, sg_neg i2, sg_pos (hs.1 (by grind))]; exact ⟨rfl, rfl⟩
            · have i1 : pev s a < 0 := by grind
              have i2 : 0 < pev p a := by grind
              rw [sg_neg i1, sg_pos i2, sg_neg (hs.2 (by grind))]; exact ⟨rfl, rfl⟩
            · exfalso; grind
          rw [List.map_cons, List.map_cons, List.map_cons, List.map_cons, e1.1, e1.2]
          refine Pat.skip _ _ _ _ _ (sg3 _) (sg3 _) ?_
          rw [← e1.1]
          exact ih s r (by simp at hl; omega) hrest2 (by grind)
end Go.Proofs.YtadimepmoljnpaaGreatDoor.GB

namespace Go.Proofs.YtadimepmoljnpaaGreatDoor.GB
set_option linter.unusedVariables false
set_option linter.unusedSimpArgs false
open Go
/-- How often the signs of the chain change at a place. -/
noncomputable def vch (s : Pl) (x : Rat) : Int := (chgs (chainP s) x).2
theorem cntP_v (s : Pl) (a b : Rat) : cntP s a b = vch s a - vch s b := rfl
/-- Away from 0, with one sign. -/
def Away (f : Rat → Rat) (a b : Rat) : Prop := ∃ m, 0 < m ∧ ((∀ x, a ≤ x → x ≤ b → m ≤ f x) ∨ (∀ x, a ≤ x → x ≤ b → f x ≤ -m))
/-- What happens between two near places. -/
def Tiny (f : Rat → Rat) (a b : Rat) (d : Int) : Prop :=
  (Away f a b ∧ d = 0) ∨ ∃ t : Rat, (t = 1 ∨ t = -1) ∧ (∀ x y, a ≤ x → x < y → y ≤ b → 0 < t * (f y - f x)) ∧ d = (if t * f a < 0 then 1 else 0) - (if t * f b < 0 then 1 else 0)
theorem chg_head {t x : Int} (ht : t = 1 ∨ t = -1) (hx : x = 1 ∨ x = -1 ∨ x = 0) : chg (chg (0, 0) x) t = (t, if x = -t then 1 else 0) := by
  rcases ht with rfl | rfl <;> rcases hx with rfl | rfl | rfl <;> simp [chg]
theorem chg_first {t : Int} (ht : t = 1 ∨ t = -1) : chg (0, 0) t = (t, 0) := by
  rcases ht with rfl | rfl <;> simp [chg]
theorem near_val {K M a x : Rat} {p : Pl} {h : Rat} (hl : lB M p ≤ K) (ha : Wi a M) (hx : Wi x M) (hax : a ≤ x) (hk : K * (x - a) ≤ h) : -h ≤ pev p x - pev p a ∧ pev p x - pev p a ≤ h := by
  obtain ⟨f, h1, h2⟩ := lB_ok ha hx p
  obtain ⟨h3, h4⟩ := h2.mono hl
  have e1 := Rat.mul_nonneg (show 0 ≤ x - a by grind) (show 0 ≤ K - f by grind)
  have e2 := Rat.mul_nonneg (show 0 ≤ x - a by grind) (show 0 ≤ K + f by grind)
  constructor <;> grind
theorem wi_mid {M a b x : Rat} (ha : Wi a M) (hb : Wi b M) (h1 : a ≤ x) (h2 : x ≤ b) : Wi x M := by
  obtain ⟨a1, a2⟩ := ha
  obtain ⟨b1, b2⟩ := hb
  constructor <;> grind
theorem tiny {s : Pl} (ts : Tr s) (hs : s ≠ []) (hc : Cop s (pder s)) (tds : Tr (pder s)) (M : Rat) :
    ∃ h, 0 < h ∧ ∀ a b, Wi a M → Wi b M → a ≤ b → b - a ≤ h → Tiny (pev s) a b (vch s a - vch s b) := by
  obtain ⟨K0, r, hK0, hLB0, hch, hr1, hr0⟩ := sch_lb M (s.length + 1) s (pder s) ts tds hs hc (by simp [pder]; omega)
  obtain ⟨K, hKd⟩ : ∃ K, K = rmx K0 (cB M s) := ⟨_, rfl⟩
  have hK : 1 ≤ K := by rw [hKd]; exact Rat.le_trans hK0 (rmx_l _ _)
  have hC : cB M s ≤ K := by rw [hKd]; exact rmx_r _ _
  have hLB : LB K M (s :: r) := by rw [← hch]; exact hLB0.mono (by rw [hKd]; exact rmx_l _ _)
  have hKp : 0 < 4 * K * K := by
    have := Rat.mul_pos (show 0 < K by grind) (show 0 < K by grind); grind
  obtain ⟨e, he⟩ : ∃ e, e * (4 * K * K) = 1 := ⟨1 / (4 * K * K), by grind⟩
  have he0 : 0 < e := by
    apply Classical.byContradiction
    intro hn
    have := Rat.mul_nonneg (show 0 ≤ -e by grind) (show 0 ≤ 4 * K * K by grind); grind
  obtain ⟨h, hh⟩ : ∃ h, 2 * (K * h) = e := ⟨e / (2 * K), by grind⟩
  have hh0 : 0 < h := by
    apply Classical.byContradiction
    intro hn
    have := Rat.mul_nonneg (show 0 ≤ -h by grind) (show 0 ≤ K by grind); grind
  have hsl : lB M s ≤ K := by cases r with
    | nil => exact hLB.1
    | cons _ _ => exact hLB.1
  refine ⟨h, hh0, fun a b ha hb hab hd => ?_⟩
  have hstep : ∀ x, a ≤ x → x ≤ b → 2 * (K * (x - a)) ≤ e := fun x h1 h2 => by
    have := Rat.mul_nonneg (show 0 ≤ K by grind) (show 0 ≤ h - (x - a) by grind); grind
  have hlt : K * (b - a) < e := by have := hstep b hab (Rat.le_refl); grind
  have eC : chainP s = s :: r := hch
  by_cases hfar : e ≤ pev s a ∨ pev s a ≤ -e
  · refine .inl ⟨⟨e / 2, by grind, ?_⟩, ?_⟩
    · rcases hfar with hf | hf
      · refine .inl fun x h1 h2 => ?_
        have := near_val (h := e / 2) hsl ha (wi_mid ha hb h1 h2) h1 (by have := hstep x h1 h2; grind)
        grind
      · refine .inr fun x h1 h2 => ?_
        have := near_val (h := e / 2) hsl ha (wi_mid ha hb h1 h2) h1 (by have := hstep x h1 h2; grind)
        grind
    · have hs2 := far_sign hsl ha hb hab hlt
      have hp := chain_pat hK he ha hb hab hlt _ s r (Nat.le_refl _) hLB hfar
      have e1 : sgnAt b s = sgnAt a s ∧ (sgnAt a s = 1 ∨ sgnAt a s = -1) := by
        unfold sgnAt
        rcases hfar with h | h
        · rw [sg_pos (hs2.1 h), sg_pos (by grind)]; exact ⟨rfl, .inl rfl⟩
        · rw [sg_neg (hs2.2 h), sg_neg (by grind)]; exact ⟨rfl, .inr rfl⟩
      have := hp.fold e1.2 0 0
      unfold vch chgs
      rw [eC, List.map_cons, List.map_cons, List.foldl_cons, List.foldl_cons, e1.1, chg_first e1.2]
      omega
  · have hw : Wi (pev s a) e := by constructor <;> grind
    by_cases hd0 : pder s = []
    · have hr := hr0 hd0
      subst hr
      obtain ⟨-, c, hc0, hcx⟩ := hLB
      refine .inl ⟨?_, ?_⟩
      · rcases (by grind : c < 0 ∨ 0 < c) with h1 | h1
        · exact ⟨-c, by grind, .inr fun x _ _ => by rw [hcx]; grind⟩
        · exact ⟨c, h1, .inl fun x _ _ => by rw [hcx]; grind⟩
      · unfold vch chgs
        rw [eC]
        have : sgnAt a s = sgnAt b s := by unfold sgnAt; rw [hcx, hcx]
        rw [List.map_cons, List.map_cons, this]
        exact Int.sub_self _
    · obtain ⟨r', hr⟩ := hr1 hd0
      subst hr
      obtain ⟨-, ⟨u, v, hu, hv, huv⟩, -, hrest⟩ := hLB
      have hfd := bez_far hK ((bB_ok ha u).mono hu) ((bB_ok ha v).mono hv) (huv a) he hw
      have hdl : lB M (pder s) ≤ K := by cases r' with
        | nil => exact hrest.1
        | cons _ _ => exact hrest.1
      have hp := chain_pat hK he ha hb hab hlt _ (pder s) r' (Nat.le_refl _) hrest (by grind)
      obtain ⟨t, ht, htt, hdx⟩ : ∃ t : Int, (t = 1 ∨ t = -1) ∧ (sgnAt a (pder s) = t ∧ sgnAt b (pder s) = t) ∧ 2 * e ≤ (t : Rat) * pev (pder s) a := by
        have hs2 := far_sign hdl ha hb hab hlt
        unfold sgnAt
        rcases hfd with h1 | h1
        · exact ⟨1, .inl rfl, ⟨sg_pos (by grind), sg_pos (hs2.1 (by grind))⟩, by grind⟩
        · exact ⟨-1, .inr rfl, ⟨sg_neg (by grind), sg_neg (hs2.2 (by grind))⟩, by grind⟩
      refine .inr ⟨t, by rcases ht with rfl | rfl <;> simp, fun x y hx hxy hy => ?_, ?_⟩
      · obtain ⟨f, h1, h2⟩ := cB_ok (wi_mid ha hb hx (by grind)) (wi_mid ha hb (by grind) hy) s
        obtain ⟨h3, h4⟩ := h2.mono hC
        have n1 := near_val (h := e / 2) hdl ha (wi_mid ha hb hx (by grind)) hx (by have := hstep x hx (by grind); grind)
        have n2 : (y - x) * K ≤ e / 2 := by
          have := Rat.mul_nonneg (show 0 ≤ K by grind) (show 0 ≤ h - (y - x) by grind); grind
        have n3 := Rat.mul_nonneg (show 0 ≤ y - x by grind) (show 0 ≤ K - f by grind)
        have n4 := Rat.mul_nonneg (show 0 ≤ y - x by grind) (show 0 ≤ K + f by grind)
        have n5 : e / 2 ≤ (t : Rat) * (pev (pder s) x + (y - x) * f) := by
          rcases ht with rfl | rfl
          · have : ((1 : Int) : Rat) = 1 := rfl
            rw [this] at hdx ⊢; grind
          · have : ((-1 : Int) : Rat) = -1 := rfl
            rw [this] at hdx ⊢; grind
        have n6 := Rat.mul_pos (show 0 < y - x by grind) (show 0 < (t : Rat) * (pev (pder s) x + (y - x) * f) by grind)
        have n7 : (t : Rat) * (pev s y - pev s x) = (y - x) * ((t : Rat) * (pev (pder s) x + (y - x) * f)) := by grind
        rw [n7]; exact n6
      · have hsg : ∀ x, ((t : Rat) * pev s x < 0 ↔ sgnAt x s = -t) := fun x => by
          unfold sgnAt
          rcases ht with rfl | rfl
          · have : ((1 : Int) : Rat) = 1 := rfl
            rw [this, sg_lt]; grind
          · have : ((-1 : Int) : Rat) = -1 := rfl
            rw [this]
            constructor
            · intro h; rw [sg_pos (by grind)]; rfl
            · intro h
              rcases (by grind : pev s x < 0 ∨ pev s x = 0 ∨ 0 < pev s x) with h1 | h1 | h1
              · rw [sg_neg h1] at h; exact absurd h (by decide)
              · rw [h1] at h; exact absurd h (by decide)
              · grind
        have hf := hp.fold (by rw [htt.1]; exact ht)
        unfold vch chgs
        rw [eC, List.map_cons, List.map_cons, List.map_cons, List.map_cons, List.foldl_cons, List.foldl_cons, List.foldl_cons, List.foldl_cons, htt.1, htt.2, chg_head ht (show sgnAt a s = 1 ∨ sgnAt a s = -1 ∨ sgnAt a s = 0 from sg3 _), chg_head ht (show sgnAt b s = 1 ∨ sgnAt b s = -1 ∨ sgnAt b s = 0 from sg3 _)]
        rw [htt.1] at hf
        have := hf (if sgnAt a s = -t then 1 else 0) (if sgnAt b s = -t then 1 else 0)
        have i1 : (if (t : Rat) * pev s a < 0 then (1 : Int) else 0) = if sgnAt a s = -t then 1 else 0 := by simp only [hsg]
        have i2 : (if (t : Rat) * pev s b < 0 then (1 : Int) else 0) = if sgnAt b s = -t then 1 else 0 := by simp only [hsg]
        rw [i1, i2]
        omega
/-! From near places to all. -/
theorem rat_big (x : Rat) : ∃ n : Nat, x ≤ (n : Rat) := by
  refine ⟨(x.floor + 1).toNat, ?_⟩
  have h1 := Rat.lt_floor_add_one x
  have h2 : (x.floor + 1 : Int) ≤ (((x.floor + 1).toNat : Nat) : Int) := Int.self_le_toNat _
  have h3 : ((x.floor + 1 : Int) : Rat) ≤ ((((x.floor + 1).toNat : Nat) : Int) : Rat) := Rat.intCast_le_intCast.2 h2
  have h4 : ((((x.floor + 1).toNat : Nat) : Int) : Rat) = (((x.floor + 1).toNat : Nat) : Rat) := by push_cast; rfl
  grind
theorem step_ind {h : Rat} (hh : 0 < h) (P : Rat → Rat → Prop) (lo hi : Rat) (small : ∀ a b, lo ≤ a → b ≤ hi → a ≤ b → b - a ≤ h → P a b) (trans : ∀ a m b, lo ≤ a → a ≤ m → m ≤ b → b ≤ hi → P a m → P m b → P a b) :
    ∀ a b, lo ≤ a → a ≤ b → b ≤ hi → P a b := by
  intro a b ha hab hb
  obtain ⟨n, hn⟩ := rat_big ((b - a) / h)
  have hn2 : b - a ≤ (n : Rat) * h := by
    have h1 : (b - a) / h * h = b - a := by grind
    have h2 := Rat.mul_nonneg (show 0 ≤ (n : Rat) - (b - a) / h by grind) (show 0 ≤ h by grind)
    grind
  clear hn
  induction n generalizing a with
  | zero =>
    have : ((0 : Nat) : Rat) = 0 := rfl
    rw [this] at hn2
    exact small a b ha hb hab (by grind)
  | succ n ih =>
    by_cases hc : b - a ≤ h
    · exact small a b ha hb hab hc
    · have e : ((n + 1 : Nat) : Rat) = (n : Rat) + 1 := by push_cast; rfl
      rw [e] at hn2
      exact trans a (a + h) b ha (by grind) (by grind) hb (small a (a + h) ha (by grind) (by grind) (by grind)) (ih (a + h) (by grind) (by grind) (by grind))
section
variable {f : Rat → Rat} {V : Rat → Int}
def TinyAll (f : Rat → Rat) (V : Rat → Int) : Prop := ∀ M, ∃ h, 0 < h ∧ ∀ a b, Wi a M → Wi b M → a ≤ b → b - a ≤ h → Tiny f a b (V a - V b)
theorem wi_ends (a b : Rat) : ∃ M, ∀ x, a ≤ x → x ≤ b → Wi x M := by
  refine ⟨rab a + rab b, fun x h1 h2 => ?_⟩
  obtain ⟨a1, a2⟩ := rab_wi a
  obtain ⟨b1, b2⟩ := rab_wi b
  constructor <;> grind
theorem Tiny.nonneg {a b : Rat} {d : Int} (h : Tiny f a b d) (hab : a ≤ b) : 0 ≤ d := by
  rcases h with ⟨-, rfl⟩ | ⟨t, ht, hm, rfl⟩
  · exact Int.le_refl _
  · by_cases e : a = b
    · subst e; simp
    · have := hm a b (Rat.le_refl) (by grind) (Rat.le_refl)
      by_cases h2 : t * f b < 0
      · rw [if_pos h2, if_pos (by grind)]; decide
      · rw [if_neg h2]; split <;> decide
theorem TinyAll.mono (H : TinyAll f V) {a b : Rat} (hab : a ≤ b) : V b ≤ V a := by
  obtain ⟨M, hM⟩ := wi_ends a b
  obtain ⟨h, hh, ht⟩ := H M
  refine step_ind hh (fun x y => V y ≤ V x) a b (fun x y h1 h2 h3 h4 => ?_) (fun x m y _ _ _ _ h1 h2 => Int.le_trans h2 h1) a b (Rat.le_refl) hab (Rat.le_refl)
  have := (ht x y (hM x h1 (by grind)) (hM y (by grind) h2) h3 h4).nonneg h3
  omega
theorem TinyAll.root (H : TinyAll f V) {a b : Rat} (hab : a < b) (h0 : f b = 0) : V b < V a := by
  obtain ⟨M, hM⟩ := wi_ends a b
  obtain ⟨h, hh, ht⟩ := H M
  obtain ⟨c, hc1, hc2, hc3⟩ : ∃ c, a ≤ c ∧ c < b ∧ b - c ≤ h := by
    by_cases hx : b - a ≤ h
    · exact ⟨a, Rat.le_refl, hab, hx⟩
    · exact ⟨b - h, by grind, by grind, by grind⟩
  have h1 := H.mono hc1
  have h2 : V b < V c := by
    rcases ht c b (hM c hc1 (by grind)) (hM b (by grind) (Rat.le_refl)) (by grind) hc3 with ⟨⟨m, hm, h3⟩, -⟩ | ⟨t, ht, hm, hd⟩
    · exfalso
      rcases h3 with h3 | h3
      · have := h3 b (by grind) (Rat.le_refl); grind
      · have := h3 b (by grind) (Rat.le_refl); grind
    · have h3 := hm c b (Rat.le_refl) hc2 (Rat.le_refl)
      rw [h0] at h3 hd
      rw [if_pos (by grind), if_neg (by grind)] at hd
      omega
  omega
theorem Away.joined {a m b : Rat} (hab : a ≤ m) (hmb : m ≤ b) (h : Away f a m) (k : Away f m b) : Away f a b := by
  obtain ⟨x, hx, h1⟩ := h
  obtain ⟨y, hy, k1⟩ := k
  obtain ⟨z, hz, hzx, hzy⟩ : ∃ z, 0 < z ∧ z ≤ x ∧ z ≤ y := by
    by_cases h : x ≤ y
    · exact ⟨x, hx, Rat.le_refl, h⟩
    · exact ⟨y, hy, by grind, Rat.le_refl⟩
  refine ⟨z, hz, ?_⟩
  rcases h1 with h1 | h1 <;> rcases k1 with k1 | k1
  · refine .inl fun u hu1 hu2 => ?_
    by_cases hu : u ≤ m
    · have := h1 u hu1 hu; grind
    · have := k1 u (by grind) hu2; grind
  · exfalso
    have := h1 m hab (Rat.le_refl); have := k1 m (Rat.le_refl) hmb; grind
  · exfalso
    have := h1 m hab (Rat.le_refl); have := k1 m (Rat.le_refl) hmb; grind
  · refine .inr fun u hu1 hu2 => ?_
    by_cases hu : u ≤ m
    · have := h1 u hu1 hu; grind
    · have := k1 u (by grind) hu2; grind
end
end Go.Proofs.YtadimepmoljnpaaGreatDoor.GB
