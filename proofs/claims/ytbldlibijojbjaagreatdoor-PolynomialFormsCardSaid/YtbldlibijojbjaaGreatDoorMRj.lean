import Derived.Test.YtbldlibijojbjaaGreatDoorMRh
namespace Go.Proofs.YtbldlibijojbjaaGreatDoor.GB
set_option linter.unusedVariables false
set_option linter.unusedSimpArgs false
open Go.RowKit Go.Shelf
attribute [local go_sem ↓] Go.wp_at_zero Go.wp_at_succ

/-- Is a text a rational number's? -/
def RatS (l : List UInt8) : Prop := ∃ q, l = rtext q
noncomputable def ratB (l : List UInt8) : Bool := @decide (RatS l) (Classical.propDecidable _)
theorem ratB_t {l : List UInt8} (h : ratB l = true) : RatS l := @of_decide_eq_true _ (Classical.propDecidable _) h
theorem ratB_f {l : List UInt8} (h : ratB l = false) : ¬ RatS l := @of_decide_eq_false _ (Classical.propDecidable _) h
theorem ratB_of {l : List UInt8} (h : RatS l) : ratB l = true := @decide_eq_true _ (Classical.propDecidable _) h
theorem ratB_no {l : List UInt8} (h : ¬ RatS l) : ratB l = false := @decide_eq_false _ (Classical.propDecidable _) h
theorem intB_itoa (z : Int) : intB (Lib.itoa z) = true := (intB_iff _).2 ⟨z, rfl⟩
theorem canB_dec (n : Nat) : canB (Lib.decDigits n) = true := (canB_iff _).2 (dec_canon n)
theorem itx_zero (z : Int) : ((⟨(Lib.itoa z).toArray⟩ : ByteArray).toList == [48]) = decide (z = 0) := by
  rw [ByteArray.toList_eq]
  show (Lib.itoa z == [48]) = _
  have h0 : Lib.itoa 0 = [48] := by
    have h := itoa_nat 0
    rw [Lib.decDigits] at h
    exact h
  by_cases h : z = 0
  · subst h; rw [h0]; rfl
  · rw [decide_eq_false h, beq_eq_false_iff_ne]
    intro e; rw [← h0] at e; exact h (itoa_inj e)
theorem list_of {s : ByteArray} {l : List UInt8} (h : s.data.toList = l) : s = ⟨l.toArray⟩ := by
  apply ByteArray.ext; apply Array.toList_inj.1; rw [h]
theorem fit_len {n : Nat} {k : Nat} (h : (Lib.decDigits n).length ≤ k) (hk : 4 * k ≤ KK) : Fit n := by
  have h1 := dec_len_lt n
  have h2 : 10 ^ (Lib.decDigits n).length ≤ 16 ^ k := Nat.le_trans (Nat.pow_le_pow_left (by omega) _) (Nat.pow_le_pow_right (by omega) h)
  have h3 : (16 : Nat) ^ k = 2 ^ (4 * k) := by rw [show (16 : Nat) = 2 ^ 4 from rfl, ← Nat.pow_mul]
  exact Fit.of hk (by omega)
theorem itoa_abs_len (z : Int) : (Lib.decDigits z.natAbs).length ≤ (Lib.itoa z).length := by
  rcases (by omega : z < 0 ∨ 0 ≤ z) with hz | hz
  · rw [itoa_of_neg hz, List.length_cons]; omega
  · rw [itoa_of_nonneg hz]; exact Nat.le_refl _
/-- What read answers. -/
def RdA (s : ByteArray) (w : World) (e : Ending) (w' : World) : Prop := ∃ a b, e = .returned (.tuple #[.agg #[.string a, .string b], .bool (ratB s.data.toList)]) ∧ Ext w w' ∧ ∀ q, s.data.toList = rtext q → (Value.agg #[.string a, .string b]) = FV q
theorem rread_any (s : ByteArray) (w : World) (hW : Wd w) (hs : s.size ≤ 1000000) :
    Calls Tryz.prog 85 #[.string s] w (RdA s w) := by
  have hlen : s.data.toList.length = s.size := bytes_len s
  rcases cut_cases s.data.toList with h47 | ⟨p, d, h47, hpd⟩
  · have h1 : ∀ W, Ext w W → Calls Tryz.prog 126 #[.string s] W fun e w' => e = .returned (.bool (intB s.data.toList)) ∧ Ext W w' := fun W _ => iValid_any s W (by omega)
    have hr : intB s.data.toList = ratB s.data.toList := by
      have hi := (rat_valid_int h47).symm
      cases hb : intB s.data.toList
      · exact (ratB_no (fun hr => by have := (intB_iff _).2 (hi.2 hr); rw [hb] at this; cases this)).symm
      · exact (ratB_of (hi.1 ((intB_iff _).1 hb))).symm
    refine (rread_0 s _ w (fun W _ => cut_miss47 s W h47) h1).mono ?_
    rintro e w' ⟨rfl, hE⟩
    refine ⟨_, _, by rw [hr], hE, fun q hq => ?_⟩
    have hq1 : q.den = 1 := by
      apply Classical.byContradiction
      intro hne
      rw [rtext_frac hne] at hq
      rw [hq] at h47
      simp at h47
    rw [rtext_int hq1] at hq
    unfold FV
    rw [hq1, dtx1, list_of hq]
  · have hcut : ∀ W, Ext w W → Calls Tryz.prog 125 #[.string s, .string ⟨#[47]⟩] W fun e w' => e = .returned (.tuple #[.string ⟨p.toArray⟩, .string ⟨d.toArray⟩, .bool true]) ∧ Ext W w' := fun W _ => cut_hit47 s p d W hpd h47 (by omega)
    have hl2 : p.length + 1 + d.length = s.size := by rw [← hlen, hpd]; simp; omega
    have h1 : ∀ W, Ext w W → Calls Tryz.prog 126 #[.string ⟨p.toArray⟩] W fun e w' => e = .returned (.bool (intB p)) ∧ Ext W w' := fun W _ => iValid_any ⟨p.toArray⟩ W (by rw [size_mk]; omega)
    have h2 : ∀ W, Ext w W → Calls Tryz.prog 127 #[.string ⟨d.toArray⟩] W fun e w' => e = .returned (.bool (canB d)) ∧ Ext W w' := fun W _ => (valid_any ⟨d.toArray⟩ W (by rw [size_mk]; omega)).mono fun e w' h => ⟨h.1, h.2 ▸ Ext.rfl' _⟩
    have hbad : ∀ (P : Prop), ¬ RatS s.data.toList → (∀ e w', (e = .returned (.tuple #[.agg #[.string ⟨p.toArray⟩, .string ⟨d.toArray⟩], .bool false]) ∧ Ext w w') → RdA s w e w') := by
      rintro _ hn e w' ⟨rfl, hE⟩
      exact ⟨_, _, by rw [ratB_no hn], hE, fun q hq => absurd ⟨q, hq⟩ hn⟩
    have hiff := rat_valid_frac (d := d) h47
    have hno : ∀ {Q : Prop}, (∀ (z : Int) (n : Nat), p = Lib.itoa z → d = Lib.decDigits n → z ≠ 0 → n ≠ 0 → n ≠ 1 → Nat.gcd z.natAbs n = 1 → False) → ¬ RatS s.data.toList := by
      rintro _ hf hr
      unfold RatS at hr
      rw [hpd] at hr
      obtain ⟨z, n, a1, a2, a3, a4, a5, a6⟩ := hiff.1 hr
      exact hf z n a1 a2 a3 a4 a5 a6
    cases hp : intB p
    · rw [hp] at h1
      exact (rread_1 s _ _ w hcut h1).mono (hbad True (hno (Q := True) fun z n a1 _ _ _ _ _ => by rw [a1, intB_itoa] at hp; cases hp))
    · rw [hp] at h1
      obtain ⟨z, rfl⟩ := (intB_iff _).1 hp
      have hz := itx_zero z
      by_cases hz0 : z = 0
      · rw [decide_eq_true hz0] at hz
        exact (rread_2 s _ _ w hcut h1 hz).mono (hbad True (hno (Q := True) fun z' n a1 _ a3 _ _ _ => a3 (by rw [← itoa_inj a1]; exact hz0)))
      · rw [decide_eq_false hz0] at hz
        cases hd : canB d
        · rw [hd] at h2
          exact (rread_3 s _ _ w hcut h1 hz h2).mono (hbad True (hno (Q := True) fun z' n _ a2 _ _ _ _ => by rw [a2, canB_dec] at hd; cases hd))
        · rw [hd] at h2
          obtain ⟨n, rfl⟩ := (canon_iff d).1 ((canB_iff _).1 hd)
          have hn0 := dtx_zero n
          have hn1 := dtx_one n
          by_cases h0 : n = 0
          · rw [decide_eq_true h0] at hn0
            exact (rread_4 s _ _ w hcut h1 hz h2 hn0).mono (hbad True (hno (Q := True) fun z' n' _ a2 _ a4 _ _ => a4 (by rw [← dec_inj a2]; exact h0)))
          · rw [decide_eq_false h0] at hn0
            by_cases h1' : n = 1
            · rw [decide_eq_true h1'] at hn1
              exact (rread_5 s _ _ w hcut h1 hz h2 hn0 hn1).mono (hbad True (hno (Q := True) fun z' n' _ a2 _ _ a5 _ => a5 (by rw [← dec_inj a2]; exact h1')))
            · rw [decide_eq_false h1'] at hn1
              have fz : Fit z.natAbs := fit_len (k := 1000000) (Nat.le_trans (itoa_abs_len z) (by omega)) (by rw [KK_eq]; omega)
              have fn : Fit n := fit_len (k := 1000000) (by omega) (by rw [KK_eq]; omega)
              have h3 : ∀ W, Ext w W → Calls Tryz.prog 128 #[itx z, dtx n] W fun e w' => e = .returned (dtx (Nat.gcd z.natAbs n)) ∧ Ext W w' := fun W hE => divisor_z z n W (hW.ext hE) fz fn
              have hg := dtx_one (Nat.gcd z.natAbs n)
              by_cases hg1 : Nat.gcd z.natAbs n = 1
              · rw [decide_eq_true hg1] at hg
                refine (rread_7 s _ _ w hcut h1 hz h2 hn0 hn1 _ hg h3).mono ?_
                rintro e w' ⟨rfl, hE⟩
                have hq := rat_of_frac h0 h1' hg1
                have hrs : RatS s.data.toList := ⟨_, by rw [hpd]; exact hq⟩
                refine ⟨_, _, by rw [ratB_of hrs], hE, fun q hq2 => ?_⟩
                rw [hpd, hq] at hq2
                rw [← rtext_inj hq2]
              · rw [decide_eq_false hg1] at hg
                exact (rread_6 s _ _ w hcut h1 hz h2 hn0 hn1 _ hg h3).mono (hbad True (hno (Q := True) fun z' n' a1 a2 _ _ _ a6 => hg1 (by rw [itoa_inj a1, dec_inj a2]; exact a6)))
set_option maxHeartbeats 2000000 in
set_option maxRecDepth 100000 in
theorem rValid_any (s : ByteArray) (w : World) (hW : Wd w) (hs : s.size ≤ 1000000) :
    Calls Tryz.prog 41 #[.string s] w fun e w' => e = .returned (.bool (ratB s.data.toList)) ∧ Ext w w' := by
  have h := rread_any s w hW hs
  unfold RdA at h
  generalize ratB s.data.toList = r at h ⊢
  go_enter Tryz.func41, Tryz.ntmps41
  go_wp2_with fail
  refine h.mono ?_
  rintro e w1 ⟨a, b, rfl, hE, _⟩
  clear h
  go_wp2_with fail
  go_ret
  exact ⟨rfl, hE.al _⟩
end Go.Proofs.YtbldlibijojbjaaGreatDoor.GB

namespace Go.Proofs.YtbldlibijojbjaaGreatDoor.GB
set_option linter.unusedVariables false
set_option linter.unusedSimpArgs false
open Go.RowKit Go.Shelf
attribute [local go_sem ↓] Go.wp_at_zero Go.wp_at_succ

theorem rread_q (q : Rat) (n : Nat) (w : World) (hW : Wd w) (hq : Bd q n) (hn : n + 1 ≤ KK) :
    Calls Tryz.prog 85 #[rtx q] w fun e w' => e = .returned (.tuple #[FV q, .bool true]) ∧ Ext w w' := by
  have hk := KK_eq
  have f := hq.fit hn
  have l1 := itoa_len f.1
  have l2 := f.2.dec
  by_cases h1 : q.den = 1
  · have e1 : rtx q = itx q.num := by show Value.string _ = Value.string _; rw [rtext_int h1]
    have e2 : FV q = .agg #[itx q.num, .string ⟨#[49]⟩] := by unfold FV; rw [h1, dtx1]
    rw [e1, e2]
    have hv : ∀ W, Ext w W → Calls Tryz.prog 126 #[itx q.num] W fun e w' => e = .returned (.bool true) ∧ Ext W w' := by
      intro W _
      have h := iValid_any ⟨(Lib.itoa q.num).toArray⟩ W (by rw [size_mk]; omega)
      have et : intB (⟨(Lib.itoa q.num).toArray⟩ : ByteArray).data.toList = true := intB_itoa _
      rwa [et] at h
    exact rread_0 _ true w (fun W _ => cut_miss47 _ W (itoa_no47 _)) hv
  · have hl := hq.len
    have hpd : (⟨(rtext q).toArray⟩ : ByteArray).data.toList = Lib.itoa q.num ++ 47 :: Lib.decDigits q.den := rtext_frac h1
    have hcut : ∀ W, Ext w W → Calls Tryz.prog 125 #[rtx q, .string ⟨#[47]⟩] W fun e w' => e = .returned (.tuple #[itx q.num, dtx q.den, .bool true]) ∧ Ext W w' := fun W _ => cut_hit47 _ _ _ W hpd (itoa_no47 _) (by rw [size_mk]; omega)
    have hv : ∀ W, Ext w W → Calls Tryz.prog 126 #[itx q.num] W fun e w' => e = .returned (.bool true) ∧ Ext W w' := by
      intro W _
      have h := iValid_any ⟨(Lib.itoa q.num).toArray⟩ W (by rw [size_mk]; omega)
      have et : intB (⟨(Lib.itoa q.num).toArray⟩ : ByteArray).data.toList = true := intB_itoa _
      rwa [et] at h
    have hv2 : ∀ W, Ext w W → Calls Tryz.prog 127 #[dtx q.den] W fun e w' => e = .returned (.bool true) ∧ Ext W w' := fun W _ => (valid_dec q.den W f.2).mono fun e w' h => ⟨h.1, h.2 ▸ Ext.rfl' _⟩
    have hz : q.num ≠ 0 := fun h => h1 (by rw [Rat.num_eq_zero.1 h]; rfl)
    have hg : Nat.gcd q.num.natAbs q.den = 1 := q.reduced
    have h3 : ∀ W, Ext w W → Calls Tryz.prog 128 #[itx q.num, dtx q.den] W fun e w' => e = .returned (dtx 1) ∧ Ext W w' := by
      intro W hE
      have h := divisor_z q.num q.den W (hW.ext hE) f.1 f.2
      rwa [hg] at h
    exact rread_7 _ _ _ w hcut hv (by rw [itx_zero]; exact decide_eq_false hz) hv2 (by rw [dtx_zero]; exact decide_eq_false q.den_nz) (by rw [dtx_one]; exact decide_eq_false h1) _ (by rw [dtx_one]; rfl) h3
set_option maxHeartbeats 2000000 in
set_option maxRecDepth 100000 in
theorem rValid_q (q : Rat) (n : Nat) (w : World) (hW : Wd w) (hq : Bd q n) (hn : n + 1 ≤ KK) :
    Calls Tryz.prog 41 #[rtx q] w fun e w' => e = .returned (.bool true) ∧ Ext w w' := by
  have h := rread_q q n w hW hq hn
  go_enter Tryz.func41, Tryz.ntmps41
  go_wp2_with fail
  refine h.mono ?_
  rintro e w1 ⟨rfl, hE⟩
  clear h
  go_wp2_with fail
  go_ret
  exact ⟨rfl, hE.al _⟩
set_option maxHeartbeats 4000000 in
set_option maxRecDepth 100000 in
theorem rboth_ok (s t a b c d : ByteArray) (w : World) (h1 : ∀ W, Ext w W → Calls Tryz.prog 85 #[.string s] W fun e w' => e = .returned (.tuple #[.agg #[.string a, .string b], .bool true]) ∧ Ext W w') (h2 : ∀ W, Ext w W → Calls Tryz.prog 85 #[.string t] W fun e w' => e = .returned (.tuple #[.agg #[.string c, .string d], .bool true]) ∧ Ext W w') :
    Calls Tryz.prog 129 #[.string s, .string t] w fun e w' => e = .returned (.tuple #[.agg #[.string a, .string b], .agg #[.string c, .string d], .int .i64 0]) ∧ Ext w w' := by
  obtain ⟨X1, X2, E⟩ := boxes2 w #[.string ⟨#[]⟩, .string ⟨#[]⟩] #[.string ⟨#[]⟩, .string ⟨#[]⟩] 102
  go_enter Tryz.func129, Tryz.ntmps129
  go_wp2_with fail
  generalize ((w.alloc (.cells #[.string ⟨#[]⟩, .string ⟨#[]⟩] 102)).alloc (.cells #[.string ⟨#[]⟩, .string ⟨#[]⟩] 102)) = W0 at *
  refine (h1 _ E).mono ?_
  rintro e w1 ⟨rfl, hE1⟩
  go_wp2_with fail
  have Y3 := Bx.new w1 #[.string a, .string b] 102
  refine (h2 _ ((E.tr hE1).al (.cells #[.string a, .string b] 102))).mono ?_
  rintro e w2 ⟨rfl, hE2⟩
  have hg1 := (X1.ext hE1).lt
  have hg2 := (X2.ext hE1).lt
  have hg3 := (Y3.ext hE2).lt
  have Z1 := (((X1.ext hE1).al (.cells #[.string a, .string b] 102)).ext hE2).al (.cells #[.string c, .string d] 102)
  have Z2 := (((X2.ext hE1).al (.cells #[.string a, .string b] 102)).ext hE2).al (.cells #[.string c, .string d] 102)
  have Z3 := (Y3.ext hE2).al (.cells #[.string c, .string d] 102)
  have Z4 := Bx.new w2 #[.string c, .string d] 102
  have E4 := ((E.tr hE1).al (.cells #[.string a, .string b] 102)).tr hE2 |>.al (.cells #[.string c, .string d] 102)
  clear X1 X2 E hE1 hE2 Y3 h1 h2
  go_wp2_with fail
  generalize w2.alloc (.cells #[.string c, .string d] 102) = W9 at *
  generalize w1.heap.size = g1 at *
  generalize w2.heap.size = g2 at *
  generalize hs0 : w.heap.size = s0 at *
  have n1 : s0 ≠ g1 := by omega
  have n2 : s0 ≠ g2 := by omega
  have n3 : s0 + 1 ≠ g1 := by omega
  have n4 : s0 + 1 ≠ g2 := by omega
  have n5 := n1.symm
  have n6 := n2.symm
  have n7 := n3.symm
  have n8 := n4.symm
  have a0 := Z3.c0
  have a1 := Z3.c1
  have b0 := Z4.c0
  have b1 := Z4.c1
  have r0 := Z1.c0
  have r1 := Z1.c1
  have r2 := Z2.c0
  have r3 := Z2.c1
  have f0 := Z1.f 0
  have f1 := Z1.f 1
  have f2 := Z2.f 0
  have f3 := Z2.f 1
  have HZ1 := Lib.hid Z1
  have HZ2 := Lib.hid Z2
  have HE := Lib.hid E4
  clear Z1 Z2 Z3 Z4 E4 hg1 hg2 hg3
  go_region_with (fail)
  all_goals
    go_wp2_with fail
    obtain ⟨d0, d1⟩ := set2 HZ1.out (.string a) (.string b)
    have HZ3 := (HZ2.out.set (p := ⟨s0, 0, none⟩) (by simp) (.string a)).set (p := ⟨s0, 1, none⟩) (by simp) (.string b)
    obtain ⟨d2, d3⟩ := set2 HZ3 (.string c) (.string d)
    have d4 : ((((W9.setCell ⟨s0, 0, none⟩ (.string a)).setCell ⟨s0, 1, none⟩ (.string b)).setCell ⟨s0 + 1, 0, none⟩ (.string c)).setCell ⟨s0 + 1, 1, none⟩ (.string d)).cell? ⟨s0, 0, none⟩ = some (.string a) := by
      rw [World.cell?_setCell_other _ _ _ _ (by simp), World.cell?_setCell_other _ _ _ _ (by simp)]; exact d0
    have d5 : ((((W9.setCell ⟨s0, 0, none⟩ (.string a)).setCell ⟨s0, 1, none⟩ (.string b)).setCell ⟨s0 + 1, 0, none⟩ (.string c)).setCell ⟨s0 + 1, 1, none⟩ (.string d)).cell? ⟨s0, 1, none⟩ = some (.string b) := by
      rw [World.cell?_setCell_other _ _ _ _ (by simp), World.cell?_setCell_other _ _ _ _ (by simp)]; exact d1
    have E9 : Ext w ((((W9.setCell ⟨s0, 0, none⟩ (.string a)).setCell ⟨s0, 1, none⟩ (.string b)).setCell ⟨s0 + 1, 0, none⟩ (.string c)).setCell ⟨s0 + 1, 1, none⟩ (.string d)) :=
      ext_set2 (b := s0 + 1) (ext_set2 (b := s0) HE.out (by omega) _ _) (by omega) _ _
    refine bodyPost_ret (v := .tuple #[.agg #[.string a, .string b], .agg #[.string c, .string d], .int .i64 0]) ?_ rfl ⟨rfl, E9.dr⟩
    simp [results, Tryz.f129, go_sem, d2, d3, d4, d5]
set_option maxHeartbeats 4000000 in
set_option maxRecDepth 100000 in
theorem rboth_no1 (s t a b c d : ByteArray) (y : Bool) (w : World) (h1 : ∀ W, Ext w W → Calls Tryz.prog 85 #[.string s] W fun e w' => e = .returned (.tuple #[.agg #[.string a, .string b], .bool false]) ∧ Ext W w') (h2 : ∀ W, Ext w W → Calls Tryz.prog 85 #[.string t] W fun e w' => e = .returned (.tuple #[.agg #[.string c, .string d], .bool y]) ∧ Ext W w') :
    Calls Tryz.prog 129 #[.string s, .string t] w fun e w' => e = .returned (.tuple #[.agg #[.string ⟨#[]⟩, .string ⟨#[]⟩], .agg #[.string ⟨#[]⟩, .string ⟨#[]⟩], .int .i64 1]) ∧ Ext w w' := by
  obtain ⟨X1, X2, E⟩ := boxes2 w #[.string ⟨#[]⟩, .string ⟨#[]⟩] #[.string ⟨#[]⟩, .string ⟨#[]⟩] 102
  go_enter Tryz.func129, Tryz.ntmps129
  go_wp2_with fail
  generalize ((w.alloc (.cells #[.string ⟨#[]⟩, .string ⟨#[]⟩] 102)).alloc (.cells #[.string ⟨#[]⟩, .string ⟨#[]⟩] 102)) = W0 at *
  refine (h1 _ E).mono ?_
  rintro e w1 ⟨rfl, hE1⟩
  go_wp2_with fail
  have Y3 := Bx.new w1 #[.string a, .string b] 102
  refine (h2 _ ((E.tr hE1).al (.cells #[.string a, .string b] 102))).mono ?_
  rintro e w2 ⟨rfl, hE2⟩
  have hg1 := (X1.ext hE1).lt
  have hg2 := (X2.ext hE1).lt
  have hg3 := (Y3.ext hE2).lt
  have Z1 := (((X1.ext hE1).al (.cells #[.string a, .string b] 102)).ext hE2).al (.cells #[.string c, .string d] 102)
  have Z2 := (((X2.ext hE1).al (.cells #[.string a, .string b] 102)).ext hE2).al (.cells #[.string c, .string d] 102)
  have Z3 := (Y3.ext hE2).al (.cells #[.string c, .string d] 102)
  have Z4 := Bx.new w2 #[.string c, .string d] 102
  have E4 := ((E.tr hE1).al (.cells #[.string a, .string b] 102)).tr hE2 |>.al (.cells #[.string c, .string d] 102)
  clear X1 X2 E hE1 hE2 Y3 h1 h2
  have r0 := Z1.c0
  have r1 := Z1.c1
  have r2 := Z2.c0
  have r3 := Z2.c1
  have f0 := Z1.f 0
  have f1 := Z1.f 1
  have f2 := Z2.f 0
  have f3 := Z2.f 1
  have HZ1 := Lib.hid Z1
  have HZ2 := Lib.hid Z2
  have HE := Lib.hid E4
  clear Z1 Z2 Z3 Z4 E4 hg1 hg2 hg3
  go_wp2_with fail
  generalize w2.alloc (.cells #[.string c, .string d] 102) = W9 at *
  generalize hs0 : w.heap.size = s0 at *
  all_goals
    obtain ⟨d0, d1⟩ := set2 HZ1.out (.string ⟨#[]⟩) (.string ⟨#[]⟩)
    have HZ3 := (HZ2.out.set (p := ⟨s0, 0, none⟩) (by simp) (.string ⟨#[]⟩)).set (p := ⟨s0, 1, none⟩) (by simp) (.string ⟨#[]⟩)
    obtain ⟨d2, d3⟩ := set2 HZ3 (.string ⟨#[]⟩) (.string ⟨#[]⟩)
    have d4 : ((((W9.setCell ⟨s0, 0, none⟩ (.string ⟨#[]⟩)).setCell ⟨s0, 1, none⟩ (.string ⟨#[]⟩)).setCell ⟨s0 + 1, 0, none⟩ (.string ⟨#[]⟩)).setCell ⟨s0 + 1, 1, none⟩ (.string ⟨#[]⟩)).cell? ⟨s0, 0, none⟩ = some (.string ⟨#[]⟩) := by
      rw [World.cell?_setCell_other _ _ _ _ (by simp), World.cell?_setCell_other _ _ _ _ (by simp)]; exact d0
    have d5 : ((((W9.setCell ⟨s0, 0, none⟩ (.string ⟨#[]⟩)).setCell ⟨s0, 1, none⟩ (.string ⟨#[]⟩)).setCell ⟨s0 + 1, 0, none⟩ (.string ⟨#[]⟩)).setCell ⟨s0 + 1, 1, none⟩ (.string ⟨#[]⟩)).cell? ⟨s0, 1, none⟩ = some (.string ⟨#[]⟩) := by
      rw [World.cell?_setCell_other _ _ _ _ (by simp), World.cell?_setCell_other _ _ _ _ (by simp)]; exact d1
    have E9 : Ext w ((((W9.setCell ⟨s0, 0, none⟩ (.string ⟨#[]⟩)).setCell ⟨s0, 1, none⟩ (.string ⟨#[]⟩)).setCell ⟨s0 + 1, 0, none⟩ (.string ⟨#[]⟩)).setCell ⟨s0 + 1, 1, none⟩ (.string ⟨#[]⟩)) :=
      ext_set2 (b := s0 + 1) (ext_set2 (b := s0) HE.out (by omega) _ _) (by omega) _ _
    refine bodyPost_ret (v := .tuple #[.agg #[.string ⟨#[]⟩, .string ⟨#[]⟩], .agg #[.string ⟨#[]⟩, .string ⟨#[]⟩], .int .i64 1]) ?_ rfl ⟨rfl, E9⟩
    simp [results, Tryz.f129, go_sem, d2, d3, d4, d5]
set_option maxHeartbeats 4000000 in
set_option maxRecDepth 100000 in
theorem rboth_no2 (s t a b c d : ByteArray) (y : Bool) (w : World) (h1 : ∀ W, Ext w W → Calls Tryz.prog 85 #[.string s] W fun e w' => e = .returned (.tuple #[.agg #[.string a, .string b], .bool true]) ∧ Ext W w') (h2 : ∀ W, Ext w W → Calls Tryz.prog 85 #[.string t] W fun e w' => e = .returned (.tuple #[.agg #[.string c, .string d], .bool false]) ∧ Ext W w') :
    Calls Tryz.prog 129 #[.string s, .string t] w fun e w' => e = .returned (.tuple #[.agg #[.string ⟨#[]⟩, .string ⟨#[]⟩], .agg #[.string ⟨#[]⟩, .string ⟨#[]⟩], .int .i64 1]) ∧ Ext w w' := by
  obtain ⟨X1, X2, E⟩ := boxes2 w #[.string ⟨#[]⟩, .string ⟨#[]⟩] #[.string ⟨#[]⟩, .string ⟨#[]⟩] 102
  go_enter Tryz.func129, Tryz.ntmps129
  go_wp2_with fail
  generalize ((w.alloc (.cells #[.string ⟨#[]⟩, .string ⟨#[]⟩] 102)).alloc (.cells #[.string ⟨#[]⟩, .string ⟨#[]⟩] 102)) = W0 at *
  refine (h1 _ E).mono ?_
  rintro e w1 ⟨rfl, hE1⟩
  go_wp2_with fail
  have Y3 := Bx.new w1 #[.string a, .string b] 102
  refine (h2 _ ((E.tr hE1).al (.cells #[.string a, .string b] 102))).mono ?_
  rintro e w2 ⟨rfl, hE2⟩
  have hg1 := (X1.ext hE1).lt
  have hg2 := (X2.ext hE1).lt
  have hg3 := (Y3.ext hE2).lt
  have Z1 := (((X1.ext hE1).al (.cells #[.string a, .string b] 102)).ext hE2).al (.cells #[.string c, .string d] 102)
  have Z2 := (((X2.ext hE1).al (.cells #[.string a, .string b] 102)).ext hE2).al (.cells #[.string c, .string d] 102)
  have Z3 := (Y3.ext hE2).al (.cells #[.string c, .string d] 102)
  have Z4 := Bx.new w2 #[.string c, .string d] 102
  have E4 := ((E.tr hE1).al (.cells #[.string a, .string b] 102)).tr hE2 |>.al (.cells #[.string c, .string d] 102)
  clear X1 X2 E hE1 hE2 Y3 h1 h2
  have r0 := Z1.c0
  have r1 := Z1.c1
  have r2 := Z2.c0
  have r3 := Z2.c1
  have f0 := Z1.f 0
  have f1 := Z1.f 1
  have f2 := Z2.f 0
  have f3 := Z2.f 1
  have HZ1 := Lib.hid Z1
  have HZ2 := Lib.hid Z2
  have HE := Lib.hid E4
  clear Z1 Z2 Z3 Z4 E4 hg1 hg2 hg3
  go_wp2_with fail
  generalize w2.alloc (.cells #[.string c, .string d] 102) = W9 at *
  generalize hs0 : w.heap.size = s0 at *
  all_goals
    obtain ⟨d0, d1⟩ := set2 HZ1.out (.string ⟨#[]⟩) (.string ⟨#[]⟩)
    have HZ3 := (HZ2.out.set (p := ⟨s0, 0, none⟩) (by simp) (.string ⟨#[]⟩)).set (p := ⟨s0, 1, none⟩) (by simp) (.string ⟨#[]⟩)
    obtain ⟨d2, d3⟩ := set2 HZ3 (.string ⟨#[]⟩) (.string ⟨#[]⟩)
    have d4 : ((((W9.setCell ⟨s0, 0, none⟩ (.string ⟨#[]⟩)).setCell ⟨s0, 1, none⟩ (.string ⟨#[]⟩)).setCell ⟨s0 + 1, 0, none⟩ (.string ⟨#[]⟩)).setCell ⟨s0 + 1, 1, none⟩ (.string ⟨#[]⟩)).cell? ⟨s0, 0, none⟩ = some (.string ⟨#[]⟩) := by
      rw [World.cell?_setCell_other _ _ _ _ (by simp), World.cell?_setCell_other _ _ _ _ (by simp)]; exact d0
    have d5 : ((((W9.setCell ⟨s0, 0, none⟩ (.string ⟨#[]⟩)).setCell ⟨s0, 1, none⟩ (.string ⟨#[]⟩)).setCell ⟨s0 + 1, 0, none⟩ (.string ⟨#[]⟩)).setCell ⟨s0 + 1, 1, none⟩ (.string ⟨#[]⟩)).cell? ⟨s0, 1, none⟩ = some (.string ⟨#[]⟩) := by
      rw [World.cell?_setCell_other _ _ _ _ (by simp), World.cell?_setCell_other _ _ _ _ (by simp)]; exact d1
    have E9 : Ext w ((((W9.setCell ⟨s0, 0, none⟩ (.string ⟨#[]⟩)).setCell ⟨s0, 1, none⟩ (.string ⟨#[]⟩)).setCell ⟨s0 + 1, 0, none⟩ (.string ⟨#[]⟩)).setCell ⟨s0 + 1, 1, none⟩ (.string ⟨#[]⟩)) :=
      ext_set2 (b := s0 + 1) (ext_set2 (b := s0) HE.out (by omega) _ _) (by omega) _ _
    refine bodyPost_ret (v := .tuple #[.agg #[.string ⟨#[]⟩, .string ⟨#[]⟩], .agg #[.string ⟨#[]⟩, .string ⟨#[]⟩], .int .i64 1]) ?_ rfl ⟨rfl, E9⟩
    simp [results, Tryz.f129, go_sem, d2, d3, d4, d5]
end Go.Proofs.YtbldlibijojbjaaGreatDoor.GB
