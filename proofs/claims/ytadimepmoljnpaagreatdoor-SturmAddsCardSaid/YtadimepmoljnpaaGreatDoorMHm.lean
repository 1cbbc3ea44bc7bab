import Derived.Test.YtadimepmoljnpaaGreatDoorMEn
import Derived.Deep.RegionHeld3
namespace Go.Proofs.YtadimepmoljnpaaGreatDoor.GB
set_option linter.unusedVariables false
set_option linter.unusedSimpArgs false
open Go.RowKit Go.Shelf
attribute [local go_sem ↓] Go.wp_at_zero Go.wp_at_succ
attribute [local go_sem] Oper.semAt_some
theorem field_hi (x y : ByteArray) (w : World) : Sem.run Tryz.prog (Instr.field 26 (Value.agg #[.string x, .string y]) 1) w = .ok (.string y) w := by kernel_rfl
theorem field_lo (x y : ByteArray) (w : World) : Sem.run Tryz.prog (Instr.field 26 (Value.agg #[.string x, .string y]) 0) w = .ok (.string x) w := by kernel_rfl
attribute [local go_sem] field_hi field_lo
/-- less hands back a bool. -/
def LSS (x y : Value) (b : Bool) (w : World) : Prop := ∀ W, Ext w W → Calls Tryz.prog 65 #[x, y] W fun e w' => e = .returned (.bool b) ∧ Ext W w'
set_option maxHeartbeats 4000000 in
set_option maxRecDepth 100000 in
theorem has_x (s t x : ByteArray) (w : World) (hv : IVA (.agg #[.string s, .string t]) true w) (hx : RVA (.string x) false w) : Calls Tryz.prog 27 #[.agg #[.string s, .string t], .string x] w fun e w' => e = .returned (.bool false) ∧ Ext w w' := by
  have b3 := Bx.new w #[.string s, .string t] 26
  have E0 := (Ext.rfl' w).al (.cells #[.string s, .string t] 26)
  obtain ⟨c0, c1, -, -⟩ := b3.e2
  go_enter Tryz.func27, Tryz.ntmps27
  go_wp2_with fail
  generalize w.alloc (.cells #[.string s, .string t] 26) = W0 at *
  refine (hv _ E0).mono ?_
  rintro e w1 ⟨rfl, hE⟩
  replace b3 := b3.ext hE
  have E1 := E0.tr hE
  clear hE c0 c1
  obtain ⟨c0, c1, -, -⟩ := b3.e2
  go_wp2_with fail
  refine (hx _ E1).mono ?_
  rintro e w2 ⟨rfl, hE⟩
  replace b3 := b3.ext hE
  have E2 := E1.tr hE
  clear hE c0 c1
  obtain ⟨c0, c1, -, -⟩ := b3.e2
  go_wp2_with fail
  go_ret
  exact ⟨rfl, E2⟩
set_option maxHeartbeats 4000000 in
set_option maxRecDepth 100000 in
theorem has_lo (s t x : ByteArray) (w : World) (hv : IVA (.agg #[.string s, .string t]) true w) (hx : RVA (.string x) true w) (h1 : LSS (.string x) (.string s) true w) : Calls Tryz.prog 27 #[.agg #[.string s, .string t], .string x] w fun e w' => e = .returned (.bool false) ∧ Ext w w' := by
  have b3 := Bx.new w #[.string s, .string t] 26
  have E0 := (Ext.rfl' w).al (.cells #[.string s, .string t] 26)
  obtain ⟨c0, c1, -, -⟩ := b3.e2
  go_enter Tryz.func27, Tryz.ntmps27
  go_wp2_with fail
  generalize w.alloc (.cells #[.string s, .string t] 26) = W0 at *
  refine (hv _ E0).mono ?_
  rintro e w1 ⟨rfl, hE⟩
  replace b3 := b3.ext hE
  have E1 := E0.tr hE
  clear hE c0 c1
  obtain ⟨c0, c1, -, -⟩ := b3.e2
  go_wp2_with fail
  refine (hx _ E1).mono ?_
  rintro e w2 ⟨rfl, hE⟩
  replace b3 := b3.ext hE
  have E2 := E1.tr hE
  clear hE c0 c1
  obtain ⟨c0, c1, -, -⟩ := b3.e2
  go_wp2_with fail
  refine (h1 _ E2).mono ?_
  rintro e w3 ⟨rfl, hE⟩
  replace b3 := b3.ext hE
  have E3 := E2.tr hE
  clear hE c0 c1
  obtain ⟨c0, c1, -, -⟩ := b3.e2
  go_wp2_with fail
  go_ret
  exact ⟨rfl, E3⟩
set_option maxHeartbeats 4000000 in
set_option maxRecDepth 100000 in
theorem has_hi (s t x : ByteArray) (w : World) (hv : IVA (.agg #[.string s, .string t]) true w) (hx : RVA (.string x) true w) (h1 : LSS (.string x) (.string s) false w) (h2 : LSS (.string t) (.string x) true w) : Calls Tryz.prog 27 #[.agg #[.string s, .string t], .string x] w fun e w' => e = .returned (.bool false) ∧ Ext w w' := by
  have b3 := Bx.new w #[.string s, .string t] 26
  have E0 := (Ext.rfl' w).al (.cells #[.string s, .string t] 26)
  obtain ⟨c0, c1, -, -⟩ := b3.e2
  go_enter Tryz.func27, Tryz.ntmps27
  go_wp2_with fail
  generalize w.alloc (.cells #[.string s, .string t] 26) = W0 at *
  refine (hv _ E0).mono ?_
  rintro e w1 ⟨rfl, hE⟩
  replace b3 := b3.ext hE
  have E1 := E0.tr hE
  clear hE c0 c1
  obtain ⟨c0, c1, -, -⟩ := b3.e2
  go_wp2_with fail
  refine (hx _ E1).mono ?_
  rintro e w2 ⟨rfl, hE⟩
  replace b3 := b3.ext hE
  have E2 := E1.tr hE
  clear hE c0 c1
  obtain ⟨c0, c1, -, -⟩ := b3.e2
  go_wp2_with fail
  refine (h1 _ E2).mono ?_
  rintro e w3 ⟨rfl, hE⟩
  replace b3 := b3.ext hE
  have E3 := E2.tr hE
  clear hE c0 c1
  obtain ⟨c0, c1, -, -⟩ := b3.e2
  go_wp2_with fail
  refine (h2 _ E3).mono ?_
  rintro e w4 ⟨rfl, hE⟩
  replace b3 := b3.ext hE
  have E4 := E3.tr hE
  clear hE c0 c1
  obtain ⟨c0, c1, -, -⟩ := b3.e2
  go_wp2_with fail
  go_ret
  exact ⟨rfl, E4⟩
set_option maxHeartbeats 4000000 in
set_option maxRecDepth 100000 in
theorem has_in (s t x : ByteArray) (w : World) (hv : IVA (.agg #[.string s, .string t]) true w) (hx : RVA (.string x) true w) (h1 : LSS (.string x) (.string s) false w) (h2 : LSS (.string t) (.string x) false w) : Calls Tryz.prog 27 #[.agg #[.string s, .string t], .string x] w fun e w' => e = .returned (.bool true) ∧ Ext w w' := by
  have b3 := Bx.new w #[.string s, .string t] 26
  have E0 := (Ext.rfl' w).al (.cells #[.string s, .string t] 26)
  obtain ⟨c0, c1, -, -⟩ := b3.e2
  go_enter Tryz.func27, Tryz.ntmps27
  go_wp2_with fail
  generalize w.alloc (.cells #[.string s, .string t] 26) = W0 at *
  refine (hv _ E0).mono ?_
  rintro e w1 ⟨rfl, hE⟩
  replace b3 := b3.ext hE
  have E1 := E0.tr hE
  clear hE c0 c1
  obtain ⟨c0, c1, -, -⟩ := b3.e2
  go_wp2_with fail
  refine (hx _ E1).mono ?_
  rintro e w2 ⟨rfl, hE⟩
  replace b3 := b3.ext hE
  have E2 := E1.tr hE
  clear hE c0 c1
  obtain ⟨c0, c1, -, -⟩ := b3.e2
  go_wp2_with fail
  refine (h1 _ E2).mono ?_
  rintro e w3 ⟨rfl, hE⟩
  replace b3 := b3.ext hE
  have E3 := E2.tr hE
  clear hE c0 c1
  obtain ⟨c0, c1, -, -⟩ := b3.e2
  go_wp2_with fail
  refine (h2 _ E3).mono ?_
  rintro e w4 ⟨rfl, hE⟩
  replace b3 := b3.ext hE
  have E4 := E3.tr hE
  clear hE c0 c1
  obtain ⟨c0, c1, -, -⟩ := b3.e2
  go_wp2_with fail
  go_ret
  exact ⟨rfl, E4⟩
end Go.Proofs.YtadimepmoljnpaaGreatDoor.GB

namespace Go.Proofs.YtadimepmoljnpaaGreatDoor.GB
set_option linter.unusedVariables false
set_option linter.unusedSimpArgs false
open Go
theorem penc_bd {p : Pl} {n m : Nat} {I : Rat × Rat} (hp : PB p n) (h : Bd I.1 m ∧ Bd I.2 m) : Bd (penc I p).1 (p.length * (m + n + 1)) ∧ Bd (penc I p).2 (p.length * (m + n + 1)) := by
  induction p with
  | nil => exact ⟨(Bd.of_int 0 0 (by decide)).mono (Nat.zero_le _), (Bd.of_int 0 0 (by decide)).mono (Nat.zero_le _)⟩
  | cons c p ih =>
    have h1 : Bd c n := hp c (by simp)
    have h2 := ih fun q hq => hp q (by simp [hq])
    have e : (c :: p).length * (m + n + 1) = p.length * (m + n + 1) + (m + n + 1) := by rw [List.length_cons, Nat.succ_mul]
    rw [e]
    have h3 := iaddR_bd (imulR_bd h2 h) (b := (c, c)) ⟨h1, h1⟩
    exact ⟨h3.1.mono (by omega), h3.2.mono (by omega)⟩
end Go.Proofs.YtadimepmoljnpaaGreatDoor.GB

namespace Go.Proofs.YtadimepmoljnpaaGreatDoor.GB
set_option linter.unusedVariables false
set_option linter.unusedSimpArgs false
open Go
/-- The two texts are an interval's. -/
def IvR (s t : List UInt8) : Prop := ∃ I1 I2 : Rat, s = rtext I1 ∧ t = rtext I2 ∧ I1 ≤ I2
noncomputable def ivB (s t : ByteArray) : Bool := @decide (IvR s.data.toList t.data.toList) (Classical.propDecidable _)
theorem ivB_of {I1 I2 : Rat} : ivB (rb I1) (rb I2) = decide (I1 ≤ I2) := by
  unfold ivB
  by_cases h : I1 ≤ I2
  · rw [decide_eq_true h]
    exact @decide_eq_true _ (Classical.propDecidable _) ⟨I1, I2, rfl, rfl, h⟩
  · rw [decide_eq_false h]
    refine @decide_eq_false _ (Classical.propDecidable _) ?_
    rintro ⟨a, b, ha, hb, hab⟩
    have ea : I1 = a := rtext_inj ha
    have eb : I2 = b := rtext_inj hb
    exact h (by rw [ea, eb]; exact hab)
theorem ivB_yes {s t : ByteArray} (h : ivB s t = true) : ∃ I1 I2 : Rat, s = rb I1 ∧ t = rb I2 ∧ I1 ≤ I2 := by
  obtain ⟨a, b, ha, hb, hab⟩ := @of_decide_eq_true _ (Classical.propDecidable _) h
  exact ⟨a, b, list_of ha, list_of hb, hab⟩
theorem rb_size (q : Rat) : (rb q).size = (rtext q).length := by simp [rb, ByteArray.size]
theorem bd_size (q : Rat) (n : Nat) (h : (rb q).size ≤ n) : Bd q (4 * n) := (Bd.of_len q).mono (by rw [rb_size] at h; omega)
/-- interval.Valid at any short texts. -/
theorem iva_any (s t : ByteArray) (w : World) (hW : Wd w) (hs : s.size ≤ 10000) (ht : t.size ≤ 10000) : IVA (.agg #[.string s, .string t]) (ivB s t) w := by
  intro W hE
  cases hb : (ratB s.data.toList && ratB t.data.toList)
  · have h := iValid_no s t W (hW.ext hE) (by omega) (by omega) hb
    have e : ivB s t = false := by
      cases hi : ivB s t
      · rfl
      · obtain ⟨a, b, rfl, rfl, -⟩ := ivB_yes hi
        have h1 : ratB (rb a).data.toList = true := ratB_of ⟨a, rfl⟩
        have h2 : ratB (rb b).data.toList = true := ratB_of ⟨b, rfl⟩
        rw [h1, h2] at hb; cases hb
    rw [e]; exact h
  · rw [Bool.and_eq_true] at hb
    obtain ⟨a, ha⟩ := ratB_t hb.1
    obtain ⟨b, hb2⟩ := ratB_t hb.2
    obtain rfl : s = rb a := list_of ha
    obtain rfl : t = rb b := list_of hb2
    rw [ivB_of]
    exact iValid_q a b 40000 40000 W (hW.ext hE) (bd_size a 10000 hs) (bd_size b 10000 ht) (by have := kk32; omega)
theorem lss_q (x y : Rat) (w : World) (hW : Wd w) (hx : Bd x 40000) (hy : Bd y 40000) : LSS (.string (rb x)) (.string (rb y)) (decide (x < y)) w := fun W hE =>
  iless_q x y 40000 40000 W (hW.ext hE) hx hy (by have := kk32; omega)
theorem lss_b {x y : Rat} {w : World} {b : Bool} (h : LSS (.string (rb x)) (.string (rb y)) (decide (x < y)) w) (hb : decide (x < y) = b) : LSS (.string (rb x)) (.string (rb y)) b w := by rw [← hb]; exact h
theorem iva_q (a b : Rat) (w : World) (hW : Wd w) (ha : Bd a 40000) (hb : Bd b 40000) (h : a ≤ b) : IVA (.agg #[.string (rb a), .string (rb b)]) true w := fun W hE => by
  have hh := iValid_q a b 40000 40000 W (hW.ext hE) ha hb (by have := kk32; omega)
  rwa [decide_eq_true h] at hh
theorem rva_q (a : Rat) (w : World) (hW : Wd w) (ha : Bd a 40000) : RVA (.string (rb a)) true w := fun W hE => rValid_q a 40000 W (hW.ext hE) ha (by have := kk32; omega)
/-- Has, at an interval and a number. -/
theorem has_q (I1 I2 X : Rat) (w : World) (hW : Wd w) (h1 : Bd I1 40000) (h2 : Bd I2 40000) (hX : Bd X 40000) (hle : I1 ≤ I2) :
    Calls Tryz.prog 27 #[.agg #[.string (rb I1), .string (rb I2)], .string (rb X)] w fun e w' => e = .returned (.bool (decide (I1 ≤ X ∧ X ≤ I2))) ∧ Ext w w' := by
  have hv := iva_q I1 I2 w hW h1 h2 hle
  have hx := rva_q X w hW hX
  have l1 := lss_q X I1 w hW hX h1
  have l2 := lss_q I2 X w hW h2 hX
  by_cases c1 : X < I1
  · rw [decide_eq_false (fun h => absurd h.1 (Rat.not_le.2 c1))]
    exact has_lo _ _ _ w hv hx (lss_b l1 (decide_eq_true c1))
  · by_cases c2 : I2 < X
    · rw [decide_eq_false (fun h => absurd h.2 (Rat.not_le.2 c2))]
      exact has_hi _ _ _ w hv hx (lss_b l1 (decide_eq_false c1)) (lss_b l2 (decide_eq_true c2))
    · rw [decide_eq_true ⟨Rat.not_lt.1 c1, Rat.not_lt.1 c2⟩]
      exact has_in _ _ _ w hv hx (lss_b l1 (decide_eq_false c1)) (lss_b l2 (decide_eq_false c2))
/-- Has, at a text that is no number. -/
theorem has_no (I1 I2 : Rat) (x : ByteArray) (w : World) (hW : Wd w) (h1 : Bd I1 40000) (h2 : Bd I2 40000) (hle : I1 ≤ I2) (hx : x.size ≤ 10000) (hb : ratB x.data.toList = false) :
    Calls Tryz.prog 27 #[.agg #[.string (rb I1), .string (rb I2)], .string x] w fun e w' => e = .returned (.bool false) ∧ Ext w w' :=
  has_x _ _ _ w (iva_q I1 I2 w hW h1 h2 hle) (rva_any x w hW (by omega) false hb)
end Go.Proofs.YtadimepmoljnpaaGreatDoor.GB
