import Derived.Test.YtbldlibijojbjaaGreatDoorMIk
import Derived.Test.YtbldlibijojbjaaGreatDoorMSh
import Derived.Deep.RegionHeld3
import Derived.Test.YtbldlibijojbjaaGreatDoorMAw
namespace Go.Proofs.YtbldlibijojbjaaGreatDoor.GB
set_option linter.unusedVariables false
set_option linter.unusedSimpArgs false
open Go.RowKit Go.Shelf
attribute [local go_sem ↓] Go.wp_at_zero Go.wp_at_succ
attribute [local go_sem] Oper.semAt_some
theorem field_hi (x y : ByteArray) (w : World) : Sem.run Tryz.prog (Instr.field 44 (Value.agg #[.string x, .string y]) 1) w = .ok (.string y) w := by kernel_rfl
theorem field_lo (x y : ByteArray) (w : World) : Sem.run Tryz.prog (Instr.field 44 (Value.agg #[.string x, .string y]) 0) w = .ok (.string x) w := by kernel_rfl
attribute [local go_sem] field_hi field_lo
end Go.Proofs.YtbldlibijojbjaaGreatDoor.GB

namespace Go.Proofs.YtbldlibijojbjaaGreatDoor.GB
set_option linter.unusedVariables false
set_option linter.unusedSimpArgs false
open Go
theorem penc_bd {p : Pl} {n m : Nat} {I : Rat × Rat} (hp : PB p n) (h : Bd I.1 m ∧ Bd I.2 m) : Bd (penc I p).1 (p.length * (m + n + 1)) ∧ Bd (penc I p).2 (p.length * (m + n + 1)) := by
  induction p with
  | nil => exact ⟨(Bd.of_int 0 0 (by decide)).mono (Nat.zero_le _), (Bd.of_int 0 0 (by decide)).mono (Nat.zero_le _)⟩
  | cons c p ih =>
    have h1 : Bd c n := hp c (by simp)
    have h2 := ih fun q hq => hp q (by simp [hq])
    have e : (c :: p).length * (m + n + 1) = p.length * (m + n + 1) + (m + n + 1) := by rw [List.length_cons, Nat.succ_mul]
    rw [e]
    have h3 := iaddR_bd (imulR_bd h2 h) (b := (c, c)) ⟨h1, h1⟩
    exact ⟨h3.1.mono (by omega), h3.2.mono (by omega)⟩
end Go.Proofs.YtbldlibijojbjaaGreatDoor.GB

namespace Go.Proofs.YtbldlibijojbjaaGreatDoor.GB
set_option linter.unusedVariables false
set_option linter.unusedSimpArgs false
open Go
/-- The two texts are an interval's. -/
def IvR (s t : List UInt8) : Prop := ∃ I1 I2 : Rat, s = rtext I1 ∧ t = rtext I2 ∧ I1 ≤ I2
noncomputable def ivB (s t : ByteArray) : Bool := @decide (IvR s.data.toList t.data.toList) (Classical.propDecidable _)
theorem ivB_of {I1 I2 : Rat} : ivB (rb I1) (rb I2) = decide (I1 ≤ I2) := by
  unfold ivB
  by_cases h : I1 ≤ I2
  · rw [decide_eq_true h]
    exact @decide_eq_true _ (Classical.propDecidable _) ⟨I1, I2, rfl, rfl, h⟩
  · rw [decide_eq_false h]
    refine @decide_eq_false _ (Classical.propDecidable _) ?_
    rintro ⟨a, b, ha, hb, hab⟩
    have ea : I1 = a := rtext_inj ha
    have eb : I2 = b := rtext_inj hb
    exact h (by rw [ea, eb]; exact hab)
theorem ivB_yes {s t : ByteArray} (h : ivB s t = true) : ∃ I1 I2 : Rat, s = rb I1 ∧ t = rb I2 ∧ I1 ≤ I2 := by
  obtain ⟨a, b, ha, hb, hab⟩ := @of_decide_eq_true _ (Classical.propDecidable _) h
  exact ⟨a, b, list_of ha, list_of hb, hab⟩
theorem rb_size (q : Rat) : (rb q).size = (rtext q).length := by simp [rb, ByteArray.size]
theorem bd_size (q : Rat) (n : Nat) (h : (rb q).size ≤ n) : Bd q (4 * n) := (Bd.of_len q).mono (by rw [rb_size] at h; omega)
/-- interval.Valid at any short texts. -/
theorem iva_any (s t : ByteArray) (w : World) (hW : Wd w) (hs : s.size ≤ 10000) (ht : t.size ≤ 10000) : IVA (.agg #[.string s, .string t]) (ivB s t) w := by
  intro W hE
  cases hb : (ratB s.data.toList && ratB t.data.toList)
  · have h := iValid_no s t W (hW.ext hE) (by omega) (by omega) hb
    have e : ivB s t = false := by
      cases hi : ivB s t
      · rfl
      · obtain ⟨a, b, rfl, rfl, -⟩ := ivB_yes hi
        have h1 : ratB (rb a).data.toList = true := ratB_of ⟨a, rfl⟩
        have h2 : ratB (rb b).data.toList = true := ratB_of ⟨b, rfl⟩
        rw [h1, h2] at hb; cases hb
    rw [e]; exact h
  · rw [Bool.and_eq_true] at hb
    obtain ⟨a, ha⟩ := ratB_t hb.1
    obtain ⟨b, hb2⟩ := ratB_t hb.2
    obtain rfl : s = rb a := list_of ha
    obtain rfl : t = rb b := list_of hb2
    rw [ivB_of]
    exact iValid_q a b 40000 40000 W (hW.ext hE) (bd_size a 10000 hs) (bd_size b 10000 ht) (by have := kk32; omega)
end Go.Proofs.YtbldlibijojbjaaGreatDoor.GB
