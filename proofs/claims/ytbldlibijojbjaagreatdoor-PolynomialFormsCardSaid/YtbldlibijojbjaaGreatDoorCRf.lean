import Derived.Test.YtbldlibijojbjaaGreatDoorMRc
namespace Go.Proofs.YtbldlibijojbjaaGreatDoor.GB
set_option linter.unusedVariables false
set_option linter.unusedSimpArgs false
open Go.RowKit Go.Shelf
attribute [local go_sem ↓] Go.wp_at_zero Go.wp_at_succ

/-- What Euclid's loop holds: two numbers of the same greatest common divisor, in bounds. -/
def OInv (p q a b : Int) : Prop := Int.gcd a b = Int.gcd p q ∧ a.natAbs < 9223372036854775808 ∧ b.natAbs < 9223372036854775808
theorem OInv.step {p q a b : Int} (h : OInv p q a b) (hb : b ≠ 0) : OInv p q b (a.tmod b) ∧ (a.tmod b).natAbs < b.natAbs := by
  obtain ⟨h1, h2, h3⟩ := h
  have e : (a.tmod b).natAbs = a.natAbs % b.natAbs := Int.natAbs_tmod _ _
  have e2 : a.natAbs % b.natAbs < b.natAbs := Nat.mod_lt _ (by omega)
  refine ⟨⟨?_, h3, by omega⟩, by omega⟩
  rw [← h1]
  unfold Int.gcd
  rw [e, Nat.gcd_comm, ← Nat.gcd_rec, Nat.gcd_comm]
theorem OInv.done {p q a : Int} (h : OInv p q a 0) : a.natAbs = Nat.gcd p.natAbs q.natAbs := by
  have := h.1
  unfold Int.gcd at this
  simpa using this
theorem max_neg (a : Int) : max a (-a) = (a.natAbs : Int) := by omega
theorem OInv.wrap {p q a : Int} {b : Int} (h : OInv p q a b) : wrap64 (-a) = -a ∨ (a.natAbs : Int) = 9223372036854775808 := by
  have := h.2.1
  left
  unfold wrap64
  omega
theorem OInv.max {p q a : Int} (h : OInv p q a 0) : Max.max a (wrap64 (-a)) = ((Nat.gcd p.natAbs q.natAbs : Nat) : Int) := by
  have h1 : wrap64 (-a) = -a := by
    have := h.2.1
    unfold wrap64
    omega
  rw [h1, max_neg, h.done]
theorem fmt_z (x : Int) (h : Hid (x.natAbs < 9223372036854775808)) (w : World) (hW : Hid (Wd w)) :
    Calls Tryz.prog 230 #[.int .i64 x, .int .i64 10] w fun e w' => e = .returned (itx x) ∧ Ext w w' := by
  have := h.out
  refine (Tryz.strconv_FormatInt_10 x (by omega) (by omega) w hW.out.tab).mono ?_
  rintro e w' ⟨rfl, k, os, rfl⟩
  exact ⟨rfl, Ext.grow _ _ _⟩
theorem tdiv_abs (x g : Int) (h : Hid (x.natAbs < 9223372036854775808)) : Hid ((x.tdiv g).natAbs < 9223372036854775808) := by
  have := h.out
  have e : (x.tdiv g).natAbs = x.natAbs / g.natAbs := Int.natAbs_tdiv _ _
  have := Nat.div_le_self x.natAbs g.natAbs
  unfold Hid
  omega
theorem wrap_abs (x : Int) (h : Hid (x.natAbs < 9223372036854775808)) : wrap64 x = x := by
  have := h.out
  unfold wrap64
  omega

set_option maxHeartbeats 2000000 in
set_option maxRecDepth 100000 in
theorem of_w (p q : Int) (w : World) (hW : Wd w) (hI : Hid (OInv p q p q)) (hq : Hid (0 < q)) :
    Calls Tryz.prog 204 #[.int .i64 p, .int .i64 q] w fun e w' => e = .returned (.agg #[itx (p.tdiv (Nat.gcd p.natAbs q.natAbs : Nat)), itx (q.tdiv (Nat.gcd p.natAbs q.natAbs : Nat))]) ∧ Ext w w' := by
  have X := Bx.new w #[.string ⟨#[]⟩, .string ⟨#[]⟩] 102
  have E := (Ext.rfl' w).al (.cells #[.string ⟨#[]⟩, .string ⟨#[]⟩] 102)
  go_enter Tryz.func204, Tryz.ntmps204
  go_wp2_with fail
  generalize w.alloc (.cells #[.string ⟨#[]⟩, .string ⟨#[]⟩] 102) = W0 at *
  go_loopw [5, 6] (fun u v wr => ∃ a b : Int, u = .int .i64 a ∧ v = .int .i64 b ∧ Hid (OInv p q a b) ∧ Hid (Bx wr w.heap.size #[.string ⟨#[]⟩, .string ⟨#[]⟩] 102) ∧ Hid (Ext w wr)) (fun _ v _ => (intOf v).natAbs)
  case atStart => exact ⟨p, q, rfl, rfl, hI, Lib.hid X, Lib.hid E⟩
  case round =>
    obtain ⟨a, b, rfl, rfl, HO, HX, HE⟩ := hrel
    clear X E
    by_cases hb : b = 0
    · subst hb
      have hm := HO.out.max
      have hp9 : Hid (p.natAbs < 9223372036854775808) := hI.out.2.1
      have hq9 : Hid (q.natAbs < 9223372036854775808) := hI.out.2.2
      have hgn : ((((Nat.gcd p.natAbs q.natAbs : Nat) : Int)) == 0) = false := by
        have h0 : 0 < Nat.gcd p.natAbs q.natAbs := Nat.gcd_pos_of_pos_right _ (by have := hq.out; omega)
        rw [beq_eq_false_iff_ne]; omega
      generalize hgd : ((Nat.gcd p.natAbs q.natAbs : Nat) : Int) = g at *
      have HGD := Lib.hid hgd
      clear hgd
      have hgn2 : ¬ (g = 0) := beq_eq_false_iff_ne.1 hgn
      have hP := tdiv_abs p g hp9
      have hQ := tdiv_abs q g hq9
      have wP := wrap_abs _ hP
      have wQ := wrap_abs _ hQ
      have wP2 : IntKind.i64.wrap (p.tdiv g) = p.tdiv g := by rw [IntKind.wrap_i64]; have := hP.out; omega
      have wQ2 : IntKind.i64.wrap (q.tdiv g) = q.tdiv g := by rw [IntKind.wrap_i64]; have := hQ.out; omega
      have HW1 : Hid (Wd wr.drew) := hW.ext (Ext.dr' HE)
      go_wp2_with fail
      (go_region_with (first
        | (go_at_call 230; (with_reducible refine (fmt_z (p.tdiv g) hP _ HW1).mono ?_); rintro e w2 ⟨rfl, hE2⟩; have HX2 := Lib.hid (Bx.ext (Bx.drH HX).out hE2); have E2 := Lib.hid ((Ext.dr' HE).tr hE2); have HW2 := Lib.hid (Wd.ext HW1.out hE2); clear hE2)
        | (go_at_call 230; (with_reducible refine (fmt_z (q.tdiv g) hQ _ HW2).mono ?_); rintro e w3 ⟨rfl, hE3⟩; have HX3 := Lib.hid (Bx.ext HX2.out hE3); have E3 := Lib.hid (E2.out.tr hE3); have c0 := HX3.out.c0; have c1 := HX3.out.c1; have f0 := HX3.out.f 0; have f1 := HX3.out.f 1; clear hE3)))
      all_goals
        go_wp2_with fail
        obtain ⟨d0, d1⟩ := set2 HX3.out (itx (p.tdiv g)) (itx (q.tdiv g))
        refine bodyPost_ret (v := .agg #[itx (p.tdiv g), itx (q.tdiv g)]) ?_ rfl ⟨by rw [HGD.out], ext_set2 (b := w.heap.size) E3.out (Nat.le_refl _) _ _⟩
        simp [results, Tryz.f204, go_sem, d0, d1]
    · have hb1 : (b == 0) = false := by simpa using hb
      have hb2 : (b != 0) = true := by simpa using hb
      have HS := Lib.hid (HO.out.step hb)
      have hb3 : ¬ (b = 0) := hb
      go_wp2_with fail
      go_quiet (fail)
      go_wp2
      go_roundw
      case rel => exact ⟨b, a.tmod b, rfl, rfl, HS.out.1, HX, HE.out.drN _⟩
      case measure => simp [intOf]; have := HS.out.2; rw [Int.natAbs_tmod] at this; exact this
theorem tdiv_ediv {x : Int} {g : Nat} (hg : 0 < g) (hd : g ∣ x.natAbs) : x.tdiv (g : Int) = x / (g : Int) := by
  have : ((g : Int)) ∣ x := Int.natAbs_dvd_natAbs.1 (by rw [Int.natAbs_natCast]; exact hd)
  exact (Int.tdiv_eq_ediv_of_dvd this)
theorem of_q (p q : Int) (w : World) (hW : Wd w) (hp : p.natAbs < 9223372036854775808) (hq : q.natAbs < 9223372036854775808) (h0 : 0 < q) :
    Calls Tryz.prog 204 #[.int .i64 p, .int .i64 q] w fun e w' => e = .returned (FV (mkRat p q.toNat)) ∧ Ext w w' := by
  have hn0 : q.toNat ≠ 0 := by omega
  have hqn : q.natAbs = q.toNat := by omega
  obtain ⟨e1, e2⟩ := rat_lowest p q.toNat hn0
  have h := of_w p q w hW ⟨rfl, hp, hq⟩ h0
  have hg : 0 < Nat.gcd p.natAbs q.natAbs := Nat.gcd_pos_of_pos_right _ (by omega)
  rw [tdiv_ediv hg (Nat.gcd_dvd_left _ _), tdiv_ediv hg (Nat.gcd_dvd_right _ _)] at h
  unfold FV
  rw [e1, e2]
  rw [hqn] at h
  have e3 : q / ((Nat.gcd p.natAbs q.toNat : Nat) : Int) = ((q.toNat / Nat.gcd p.natAbs q.toNat : Nat) : Int) := by
    generalize Nat.gcd p.natAbs q.toNat = g
    rw [Int.natCast_ediv, Int.toNat_of_nonneg (Int.le_of_lt h0)]
  rw [e3] at h
  have e4 : itx ((q.toNat / Nat.gcd p.natAbs q.toNat : Nat) : Int) = dtx (q.toNat / Nat.gcd p.natAbs q.toNat) := by
    show Value.string _ = Value.string _
    rw [itoa_nat]
  rw [e4] at h
  exact h
end Go.Proofs.YtbldlibijojbjaaGreatDoor.GB
