import Derived.Test.YtbldlibijojbjaaGreatDoorCHm
import Derived.Test.YtbldlibijojbjaaGreatDoorCVa
namespace Go.Proofs.YtbldlibijojbjaaGreatDoor.GB
set_option linter.unusedVariables false
set_option linter.unusedSimpArgs false
open Go
/-! Enclosures contain. -/
theorem rle_trans {a b c : Rat} (h : a ≤ b) (k : b ≤ c) : a ≤ c := Rat.le_trans h k
theorem endR_mono (s : Rat × Rat) (a : Rat) : (endR s a).1 ≤ s.1 ∧ s.2 ≤ (endR s a).2 ∧ (endR s a).1 ≤ a ∧ a ≤ (endR s a).2 := by
  unfold endR
  refine ⟨?_, ?_, ?_, ?_⟩ <;> (dsimp only; split <;> grind)
theorem foldlR_mono (l : Pl) (s : Rat × Rat) : (l.foldl endR s).1 ≤ s.1 ∧ s.2 ≤ (l.foldl endR s).2 ∧ ∀ z ∈ l, (l.foldl endR s).1 ≤ z ∧ z ≤ (l.foldl endR s).2 := by
  induction l generalizing s with
  | nil => exact ⟨Rat.le_refl, Rat.le_refl, fun z hz => by cases hz⟩
  | cons a l ih =>
    obtain ⟨h1, h2, h3⟩ := ih (endR s a)
    obtain ⟨e1, e2, e3, e4⟩ := endR_mono s a
    refine ⟨rle_trans h1 e1, rle_trans e2 h2, fun z hz => ?_⟩
    rcases List.mem_cons.1 hz with rfl | hz
    · exact ⟨rle_trans h1 e3, rle_trans e4 h2⟩
    · exact h3 z hz
theorem ends_all (x : Rat) (l : Pl) : ∀ z ∈ x :: l, (endsR (x :: l)).1 ≤ z ∧ z ≤ (endsR (x :: l)).2 := by
  intro z hz
  obtain ⟨h1, h2, h3⟩ := foldlR_mono l (x, x)
  rcases List.mem_cons.1 hz with rfl | hz
  · exact ⟨h1, h2⟩
  · exact h3 z hz
theorem foldl_mem (P : Rat → Prop) (l : Pl) (s : Rat × Rat) (h : P s.1 ∧ P s.2) (hl : ∀ z ∈ l, P z) : P (l.foldl endR s).1 ∧ P (l.foldl endR s).2 := by
  induction l generalizing s with
  | nil => exact h
  | cons a l ih =>
    refine ih _ ?_ (fun z hz => hl z (by simp [hz]))
    have ha := hl a (by simp)
    unfold endR
    constructor
    · dsimp only; split; exact ha; exact h.1
    · dsimp only; split; exact ha; exact h.2
theorem ends_mem (P : Rat → Prop) (x : Rat) (l : Pl) (h : ∀ z ∈ x :: l, P z) : P (endsR (x :: l)).1 ∧ P (endsR (x :: l)).2 :=
  foldl_mem P l (x, x) ⟨h x (by simp), h x (by simp)⟩ (fun z hz => h z (by simp [hz]))
theorem lin_le {c y b1 b2 : Rat} (h1 : b1 ≤ y) (h2 : y ≤ b2) : (c * y ≤ c * b1 ∨ c * y ≤ c * b2) ∧ (c * b1 ≤ c * y ∨ c * b2 ≤ c * y) := by
  have g1 : 0 ≤ y - b1 := by grind
  have g2 : 0 ≤ b2 - y := by grind
  rcases Rat.le_total (a := 0) (b := c) with h | h
  · have k1 := Rat.mul_nonneg h g1
    have k2 := Rat.mul_nonneg h g2
    exact ⟨.inr (by grind), .inl (by grind)⟩
  · have h' : 0 ≤ -c := by grind
    have k1 := Rat.mul_nonneg h' g1
    have k2 := Rat.mul_nonneg h' g2
    exact ⟨.inl (by grind), .inr (by grind)⟩
theorem imul_in {a b : Rat × Rat} {x y : Rat} (hx : a.1 ≤ x ∧ x ≤ a.2) (hy : b.1 ≤ y ∧ y ≤ b.2) : (imulR a b).1 ≤ x * y ∧ x * y ≤ (imulR a b).2 := by
  have hA := ends_all (a.1 * b.1) [a.1 * b.2, a.2 * b.1, a.2 * b.2]
  have c1 := hA (a.1 * b.1) (by simp)
  have c2 := hA (a.1 * b.2) (by simp)
  have c3 := hA (a.2 * b.1) (by simp)
  have c4 := hA (a.2 * b.2) (by simp)
  have l1 := lin_le (c := y) hx.1 hx.2
  have l2 := lin_le (c := a.1) hy.1 hy.2
  have l3 := lin_le (c := a.2) hy.1 hy.2
  have e1 : y * x = x * y := Rat.mul_comm _ _
  have e2 : y * a.1 = a.1 * y := Rat.mul_comm _ _
  have e3 : y * a.2 = a.2 * y := Rat.mul_comm _ _
  rw [e1, e2, e3] at l1
  unfold imulR
  constructor
  · rcases l1.2 with h | h
    · rcases l2.2 with k | k
      · exact rle_trans c1.1 (rle_trans k h)
      · exact rle_trans c2.1 (rle_trans k h)
    · rcases l3.2 with k | k
      · exact rle_trans c3.1 (rle_trans k h)
      · exact rle_trans c4.1 (rle_trans k h)
  · rcases l1.1 with h | h
    · rcases l2.1 with k | k
      · exact rle_trans h (rle_trans k c1.2)
      · exact rle_trans h (rle_trans k c2.2)
    · rcases l3.1 with k | k
      · exact rle_trans h (rle_trans k c3.2)
      · exact rle_trans h (rle_trans k c4.2)
theorem iadd_in {a b : Rat × Rat} {x y : Rat} (hx : a.1 ≤ x ∧ x ≤ a.2) (hy : b.1 ≤ y ∧ y ≤ b.2) : (iaddR a b).1 ≤ x + y ∧ x + y ≤ (iaddR a b).2 := by
  have hA := ends_all (a.1 + b.1) [a.1 + b.2, a.2 + b.1, a.2 + b.2]
  have c1 := hA (a.1 + b.1) (by simp)
  have c4 := hA (a.2 + b.2) (by simp)
  unfold iaddR
  exact ⟨rle_trans c1.1 (by grind), rle_trans (by grind) c4.2⟩
theorem penc_in (I : Rat × Rat) (p : Pl) (X : Rat) (hX : I.1 ≤ X ∧ X ≤ I.2) : (penc I p).1 ≤ pev p X ∧ pev p X ≤ (penc I p).2 := by
  induction p with
  | nil => exact ⟨Rat.le_refl, Rat.le_refl⟩
  | cons c p ih =>
    have h := iadd_in (imul_in ih hX) (b := (c, c)) (y := c) ⟨Rat.le_refl, Rat.le_refl⟩
    have e : pev p X * X + c = pev (c :: p) X := by show _ = c + X * pev p X; grind
    rw [e] at h
    exact h
theorem penc_le (I : Rat × Rat) (p : Pl) : (penc I p).1 ≤ (penc I p).2 := by
  cases p with
  | nil => exact Rat.le_refl
  | cons c p => exact endsR_le _ _
/-- A narrower interval has a narrower enclosure. -/
theorem penc_sub (I J : Rat × Rat) (p : Pl) (h1 : I.1 ≤ J.1) (h2 : J.1 ≤ J.2) (h3 : J.2 ≤ I.2) : (penc I p).1 ≤ (penc J p).1 ∧ (penc J p).2 ≤ (penc I p).2 := by
  induction p with
  | nil => exact ⟨Rat.le_refl, Rat.le_refl⟩
  | cons c p ih =>
    have hle := penc_le J p
    show (iaddR (imulR (penc I p) I) (c, c)).1 ≤ (iaddR (imulR (penc J p) J) (c, c)).1 ∧ (iaddR (imulR (penc J p) J) (c, c)).2 ≤ (iaddR (imulR (penc I p) I) (c, c)).2
    generalize penc J p = b at *
    generalize penc I p = a at *
    have j1 : I.1 ≤ J.1 ∧ J.1 ≤ I.2 := ⟨h1, rle_trans h2 h3⟩
    have j2 : I.1 ≤ J.2 ∧ J.2 ≤ I.2 := ⟨rle_trans h1 h2, h3⟩
    have b1 : a.1 ≤ b.1 ∧ b.1 ≤ a.2 := ⟨ih.1, rle_trans hle ih.2⟩
    have b2 : a.1 ≤ b.2 ∧ b.2 ≤ a.2 := ⟨rle_trans ih.1 hle, ih.2⟩
    have hm : ∀ z ∈ [b.1 * J.1, b.1 * J.2, b.2 * J.1, b.2 * J.2], (imulR a I).1 ≤ z ∧ z ≤ (imulR a I).2 := by
      intro z hz
      simp at hz
      rcases hz with rfl | rfl | rfl | rfl
      · exact imul_in b1 j1
      · exact imul_in b1 j2
      · exact imul_in b2 j1
      · exact imul_in b2 j2
    have hM := ends_mem (fun z => (imulR a I).1 ≤ z ∧ z ≤ (imulR a I).2) _ _ hm
    have cc : (c, c).1 ≤ c ∧ c ≤ (c, c).2 := ⟨Rat.le_refl, Rat.le_refl⟩
    have hs : ∀ z ∈ [(imulR b J).1 + c, (imulR b J).1 + c, (imulR b J).2 + c, (imulR b J).2 + c], (iaddR (imulR a I) (c, c)).1 ≤ z ∧ z ≤ (iaddR (imulR a I) (c, c)).2 := by
      intro z hz
      simp at hz
      rcases hz with rfl | rfl
      · exact iadd_in hM.1 cc
      · exact iadd_in hM.2 cc
    have hS := ends_mem (fun z => (iaddR (imulR a I) (c, c)).1 ≤ z ∧ z ≤ (iaddR (imulR a I) (c, c)).2) _ _ hs
    exact ⟨hS.1.1, hS.2.2⟩
theorem penc_bd {p : Pl} {n m : Nat} {I : Rat × Rat} (hp : PB p n) (h : Bd I.1 m ∧ Bd I.2 m) : Bd (penc I p).1 (p.length * (m + n + 1)) ∧ Bd (penc I p).2 (p.length * (m + n + 1)) := by
  induction p with
  | nil => exact ⟨(Bd.of_int 0 0 (by decide)).mono (Nat.zero_le _), (Bd.of_int 0 0 (by decide)).mono (Nat.zero_le _)⟩
  | cons c p ih =>
    have h1 : Bd c n := hp c (by simp)
    have h2 := ih fun q hq => hp q (by simp [hq])
    have e : (c :: p).length * (m + n + 1) = p.length * (m + n + 1) + (m + n + 1) := by rw [List.length_cons, Nat.succ_mul]
    rw [e]
    have h3 := iaddR_bd (imulR_bd h2 h) (b := (c, c)) ⟨h1, h1⟩
    exact ⟨h3.1.mono (by omega), h3.2.mono (by omega)⟩
end Go.Proofs.YtbldlibijojbjaaGreatDoor.GB

namespace Go.Proofs.YtbldlibijojbjaaGreatDoor.GB
set_option linter.unusedVariables false
set_option linter.unusedSimpArgs false
open Go
/-- The two texts are an interval's. -/
def IvR (s t : List UInt8) : Prop := ∃ I1 I2 : Rat, s = rtext I1 ∧ t = rtext I2 ∧ I1 ≤ I2
noncomputable def ivB (s t : ByteArray) : Bool := @decide (IvR s.data.toList t.data.toList) (Classical.propDecidable _)
theorem ivB_of {I1 I2 : Rat} : ivB (rb I1) (rb I2) = decide (I1 ≤ I2) := by
  unfold ivB
  by_cases h : I1 ≤ I2
  · rw [decide_eq_true h]
    exact @decide_eq_true _ (Classical.propDecidable _) ⟨I1, I2, rfl, rfl, h⟩
  · rw [decide_eq_false h]
    refine @decide_eq_false _ (Classical.propDecidable _) ?_
    rintro ⟨a, b, ha, hb, hab⟩
    have ea : I1 = a := rtext_inj ha
    have eb : I2 = b := rtext_inj hb
    exact h (by rw [ea, eb]; exact hab)
theorem ivB_yes {s t : ByteArray} (h : ivB s t = true) : ∃ I1 I2 : Rat, s = rb I1 ∧ t = rb I2 ∧ I1 ≤ I2 := by
  obtain ⟨a, b, ha, hb, hab⟩ := @of_decide_eq_true _ (Classical.propDecidable _) h
  exact ⟨a, b, list_of ha, list_of hb, hab⟩
theorem rb_size (q : Rat) : (rb q).size = (rtext q).length := by simp [rb, ByteArray.size]
theorem bd_size (q : Rat) (n : Nat) (h : (rb q).size ≤ n) : Bd q (4 * n) := (Bd.of_len q).mono (by rw [rb_size] at h; omega)
/-- interval.Valid at any short texts. -/
theorem iva_any (s t : ByteArray) (w : World) (hW : Wd w) (hs : s.size ≤ 10000) (ht : t.size ≤ 10000) : IVA (.agg #[.string s, .string t]) (ivB s t) w := by
  intro W hE
  cases hb : (ratB s.data.toList && ratB t.data.toList)
  · have h := iValid_no s t W (hW.ext hE) (by omega) (by omega) hb
    have e : ivB s t = false := by
      cases hi : ivB s t
      · rfl
      · obtain ⟨a, b, rfl, rfl, -⟩ := ivB_yes hi
        have h1 : ratB (rb a).data.toList = true := ratB_of ⟨a, rfl⟩
        have h2 : ratB (rb b).data.toList = true := ratB_of ⟨b, rfl⟩
        rw [h1, h2] at hb; cases hb
    rw [e]; exact h
  · rw [Bool.and_eq_true] at hb
    obtain ⟨a, ha⟩ := ratB_t hb.1
    obtain ⟨b, hb2⟩ := ratB_t hb.2
    obtain rfl : s = rb a := list_of ha
    obtain rfl : t = rb b := list_of hb2
    rw [ivB_of]
    exact iValid_q a b 40000 40000 W (hW.ext hE) (bd_size a 10000 hs) (bd_size b 10000 ht) (by have := kk32; omega)
theorem lss_q (x y : Rat) (w : World) (hW : Wd w) (hx : Bd x 40000) (hy : Bd y 40000) : LSS (.string (rb x)) (.string (rb y)) (decide (x < y)) w := fun W hE =>
  iless_q x y 40000 40000 W (hW.ext hE) hx hy (by have := kk32; omega)
theorem lss_b {x y : Rat} {w : World} {b : Bool} (h : LSS (.string (rb x)) (.string (rb y)) (decide (x < y)) w) (hb : decide (x < y) = b) : LSS (.string (rb x)) (.string (rb y)) b w := by rw [← hb]; exact h
theorem iva_q (a b : Rat) (w : World) (hW : Wd w) (ha : Bd a 40000) (hb : Bd b 40000) (h : a ≤ b) : IVA (.agg #[.string (rb a), .string (rb b)]) true w := fun W hE => by
  have hh := iValid_q a b 40000 40000 W (hW.ext hE) ha hb (by have := kk32; omega)
  rwa [decide_eq_true h] at hh
theorem rva_q (a : Rat) (w : World) (hW : Wd w) (ha : Bd a 40000) : RVA (.string (rb a)) true w := fun W hE => rValid_q a 40000 W (hW.ext hE) ha (by have := kk32; omega)
/-- Has, at an interval and a number. -/
theorem has_q (I1 I2 X : Rat) (w : World) (hW : Wd w) (h1 : Bd I1 40000) (h2 : Bd I2 40000) (hX : Bd X 40000) (hle : I1 ≤ I2) :
    Calls Tryz.prog 45 #[.agg #[.string (rb I1), .string (rb I2)], .string (rb X)] w fun e w' => e = .returned (.bool (decide (I1 ≤ X ∧ X ≤ I2))) ∧ Ext w w' := by
  have hv := iva_q I1 I2 w hW h1 h2 hle
  have hx := rva_q X w hW hX
  have l1 := lss_q X I1 w hW hX h1
  have l2 := lss_q I2 X w hW h2 hX
  by_cases c1 : X < I1
  · rw [decide_eq_false (fun h => absurd h.1 (Rat.not_le.2 c1))]
    exact has_lo _ _ _ w hv hx (lss_b l1 (decide_eq_true c1))
  · by_cases c2 : I2 < X
    · rw [decide_eq_false (fun h => absurd h.2 (Rat.not_le.2 c2))]
      exact has_hi _ _ _ w hv hx (lss_b l1 (decide_eq_false c1)) (lss_b l2 (decide_eq_true c2))
    · rw [decide_eq_true ⟨Rat.not_lt.1 c1, Rat.not_lt.1 c2⟩]
      exact has_in _ _ _ w hv hx (lss_b l1 (decide_eq_false c1)) (lss_b l2 (decide_eq_false c2))
/-- Has, at a text that is no number. -/
theorem has_no (I1 I2 : Rat) (x : ByteArray) (w : World) (hW : Wd w) (h1 : Bd I1 40000) (h2 : Bd I2 40000) (hle : I1 ≤ I2) (hx : x.size ≤ 10000) (hb : ratB x.data.toList = false) :
    Calls Tryz.prog 45 #[.agg #[.string (rb I1), .string (rb I2)], .string x] w fun e w' => e = .returned (.bool false) ∧ Ext w w' :=
  has_x _ _ _ w (iva_q I1 I2 w hW h1 h2 hle) (rva_any x w hW (by omega) false hb)
theorem ps_bx {W : World} {b : Nat} {x y : Rat} {T : TypeId} (h : Bx W b #[.string (rb x), .string (rb y)] T) : PS W (.slice (some ⟨b, 0, none⟩) (1 + 1) 2) [x, y] := by
  refine ⟨some ⟨b, 0, none⟩, 2, rfl, Nat.le_refl _, by decide, ?_⟩
  intro j hj
  obtain ⟨c0, c1, -, -⟩ := h.e2
  rcases j with _ | _ | j
  · exact ⟨b, 0, rfl, h.lt, c0⟩
  · exact ⟨b, 0, rfl, h.lt, c1⟩
  · simp at hj; omega
theorem ends2 (W : World) (b : Nat) (x y : Rat) (T : TypeId) (hW : Wd W) (h : Bx W b #[.string (rb x), .string (rb y)] T) (hx : Bd x 40000) (hy : Bd y 40000) :
    Calls Tryz.prog 88 #[.slice (some ⟨b, 0, none⟩) 2 2] W fun e w' => e = .returned (.agg #[.string (rb (endsR [x, y]).1), .string (rb (endsR [x, y]).2)]) ∧ Ext W w' :=
  ends_q b 2 x [y] 1 40000 W (Lib.hid rfl) (by decide) (by decide) (by decide) (by decide) hW (ps_bx h) (by intro q hq; simp at hq; rcases hq with rfl | rfl; exact hx; exact hy) (by have := kk32; omega)
/-- The common part of two intervals. -/
def meetR (I J : Rat × Rat) : Rat × Rat := ((endsR [I.1, J.1]).2, (endsR [I.2, J.2]).1)
theorem meet_in (I1 I2 J1 J2 : Rat) (w : World) (hW : Wd w) (h1 : Bd I1 40000) (h2 : Bd I2 40000) (h3 : Bd J1 40000) (h4 : Bd J2 40000) (hI : I1 ≤ I2) (hJ : J1 ≤ J2) (c1 : J1 ≤ I2) (c2 : I1 ≤ J2) :
    Calls Tryz.prog 46 #[.agg #[.string (rb I1), .string (rb I2)], .agg #[.string (rb J1), .string (rb J2)]] w fun e w' => e = .returned (.tuple #[.agg #[.string (rb (meetR (I1, I2) (J1, J2)).1), .string (rb (meetR (I1, I2) (J1, J2)).2)], .bool true]) ∧ Ext w w' :=
  meet_yes _ _ _ _ w (iva_q I1 I2 w hW h1 h2 hI) (iva_q J1 J2 w hW h3 h4 hJ) (lss_b (lss_q I2 J1 w hW h2 h3) (decide_eq_false (Rat.not_lt.2 c1))) (lss_b (lss_q J2 I1 w hW h4 h1) (decide_eq_false (Rat.not_lt.2 c2))) _ _ _ _
    (fun W b hE hb => ends2 W b I1 J1 _ (hW.ext hE) hb h1 h3) (fun W b hE hb => ends2 W b I2 J2 _ (hW.ext hE) hb h2 h4)
theorem meet_out (I1 I2 J1 J2 : Rat) (w : World) (hW : Wd w) (h1 : Bd I1 40000) (h2 : Bd I2 40000) (h3 : Bd J1 40000) (h4 : Bd J2 40000) (hI : I1 ≤ I2) (hJ : J1 ≤ J2) (c : I2 < J1 ∨ J2 < I1) :
    Calls Tryz.prog 46 #[.agg #[.string (rb I1), .string (rb I2)], .agg #[.string (rb J1), .string (rb J2)]] w fun e w' => e = .returned (.tuple #[.agg #[.string ⟨#[]⟩, .string ⟨#[]⟩], .bool false]) ∧ Ext w w' := by
  have i1 := iva_q I1 I2 w hW h1 h2 hI
  have i2 := iva_q J1 J2 w hW h3 h4 hJ
  have l1 := lss_q I2 J1 w hW h2 h3
  have l2 := lss_q J2 I1 w hW h4 h1
  by_cases c1 : I2 < J1
  · exact meet_no3 _ _ _ _ w i1 i2 (lss_b l1 (decide_eq_true c1))
  · exact meet_no4 _ _ _ _ w i1 i2 (lss_b l1 (decide_eq_false c1)) (lss_b l2 (decide_eq_true (c.resolve_left c1)))
theorem meet_bad (I1 I2 : Rat) (u v : ByteArray) (w : World) (hW : Wd w) (h1 : Bd I1 40000) (h2 : Bd I2 40000) (hI : I1 ≤ I2) (hu : u.size ≤ 10000) (hv : v.size ≤ 10000) (hb : ivB u v = false) :
    Calls Tryz.prog 46 #[.agg #[.string (rb I1), .string (rb I2)], .agg #[.string u, .string v]] w fun e w' => e = .returned (.tuple #[.agg #[.string ⟨#[]⟩, .string ⟨#[]⟩], .bool false]) ∧ Ext w w' :=
  meet_no2 _ _ _ _ w (iva_q I1 I2 w hW h1 h2 hI) (by have := iva_any u v w hW hu hv; rwa [hb] at this)
/-- The common part lies in the first interval. -/
theorem meetR_sub {I J : Rat × Rat} (hI : I.1 ≤ I.2) (hJ : J.1 ≤ J.2) (c1 : J.1 ≤ I.2) (c2 : I.1 ≤ J.2) : I.1 ≤ (meetR I J).1 ∧ (meetR I J).1 ≤ (meetR I J).2 ∧ (meetR I J).2 ≤ I.2 := by
  have a1 := ends_all I.1 [J.1]
  have a2 := ends_all I.2 [J.2]
  have m1 := (ends_mem (fun z => z ≤ I.2 ∧ z ≤ J.2) I.1 [J.1] (by intro z hz; simp at hz; rcases hz with rfl | rfl; exact ⟨hI, c2⟩; exact ⟨c1, hJ⟩)).2
  refine ⟨(a1 I.1 (by simp)).2, ?_, (a2 I.2 (by simp)).1⟩
  exact (ends_mem (fun z => (meetR I J).1 ≤ z) I.2 [J.2] (by intro z hz; simp at hz; rcases hz with rfl | rfl; exact m1.1; exact m1.2)).1
/-- What lies within is the common part. -/
theorem meetR_in {I J : Rat × Rat} (h1 : I.1 ≤ J.1) (h2 : J.2 ≤ I.2) : meetR I J = J := by
  have e1 : endR (I.1, I.1) J.1 = (if J.1 < I.1 then J.1 else I.1, if I.1 < J.1 then J.1 else I.1) := rfl
  have e2 : endR (I.2, I.2) J.2 = (if J.2 < I.2 then J.2 else I.2, if I.2 < J.2 then J.2 else I.2) := rfl
  have e3 : (meetR I J).1 = J.1 := by
    show (if I.1 < J.1 then J.1 else I.1) = J.1
    split
    · rfl
    · grind
  have e4 : (meetR I J).2 = J.2 := by
    show (if J.2 < I.2 then J.2 else I.2) = J.2
    split
    · rfl
    · grind
  exact Prod.ext e3 e4
theorem meetR_bd {I J : Rat × Rat} {n : Nat} (h1 : Bd I.1 n) (h2 : Bd I.2 n) (h3 : Bd J.1 n) (h4 : Bd J.2 n) : Bd (meetR I J).1 n ∧ Bd (meetR I J).2 n :=
  ⟨(ends_mem (fun z => Bd z n) I.1 [J.1] (by intro z hz; simp at hz; rcases hz with rfl | rfl; exact h1; exact h3)).2, (ends_mem (fun z => Bd z n) I.2 [J.2] (by intro z hz; simp at hz; rcases hz with rfl | rfl; exact h2; exact h4)).1⟩
end Go.Proofs.YtbldlibijojbjaaGreatDoor.GB
