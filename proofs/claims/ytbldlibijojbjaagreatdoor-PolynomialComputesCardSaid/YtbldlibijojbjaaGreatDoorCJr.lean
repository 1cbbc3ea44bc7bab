import Derived.Test.YtbldlibijojbjaaGreatDoorCJq
import Derived.Test.YtbldlibijojbjaaGreatDoorCYj
namespace Go.Proofs.YtbldlibijojbjaaGreatDoor.GB
set_option linter.unusedVariables false
set_option linter.unusedSimpArgs false
open Go.RowKit Go.Shelf
attribute [local go_sem ↓] Go.wp_at_zero Go.wp_at_succ
theorem PQ.hext {w w' : World} {v : Value} {p : Pl} (h : Hid (PQ w v p)) (hE : Ext w w') : Hid (PQ w' v p) := h.out.ext hE
theorem nines_len : (wds (10 ^ 40)).length ≤ 549755813888 := by
  have f : Fit (10 ^ 40) := Fit.of (k := 200) (by unfold KK; omega) (by decide)
  exact Nat.le_trans f.len (by decide)
/-- Reading a polynomial at any world. -/
theorem q8From_40 (A : Option Addr) (c ln : Nat) (l : List ByteArray) (w : World) (HLN : Hid (l.length = ln)) (hl : ln ≤ 1000) (hr : RdS w A l) (hs : ∀ s ∈ l, s.size ≤ 40) :
    Calls Tryz.prog 53 #[.slice A ln c] w (FromR l w) :=
  q8From_any A c ln l w (10 ^ 40) 40 HLN hl hr hs (by omega) (OverC.all _ w nines_len) (Nat.le_trans nines_len (by decide)) (Nat.le_refl _)
theorem q8From_yes (v : Value) (p : Pl) (w : World) (h : SlS w v (p.map rb)) (tp : Tr p) (lp : p.length ≤ 17) (hs : ∀ s ∈ p.map rb, s.size ≤ 40) :
    Calls Tryz.prog 53 #[v] w fun e w' => ∃ v, e = .returned (.tuple #[v, .bool true]) ∧ PQ w' v p ∧ Ext w w' := by
  obtain ⟨A, c, rfl, h1, h2, h3⟩ := h
  have hb : polB (p.map rb) = true := (polB_iff _).2 ⟨p, rfl, tp, lp⟩
  refine (q8From_40 A c _ (p.map rb) w (Lib.hid rfl) (by rw [List.length_map]; omega) h3 hs).mono ?_
  rintro e w' ⟨v, rfl, hp, hE⟩
  obtain ⟨p', e, -, -, hq⟩ := hp hb
  have e2 := rb_inj e
  subst e2
  exact ⟨v, by rw [hb], hq, hE⟩
theorem q8From_no (v : Value) (l : List ByteArray) (b : Bool) (w : World) (h : SlS w v l) (hl : l.length ≤ 1000) (hs : ∀ s ∈ l, s.size ≤ 40) (hb : polB l = b) :
    Calls Tryz.prog 53 #[v] w fun e w' => ∃ v, e = .returned (.tuple #[v, .bool b]) ∧ Ext w w' := by
  obtain ⟨A, c, rfl, h1, h2, h3⟩ := h
  refine (q8From_40 A c _ l w (Lib.hid rfl) hl h3 hs).mono ?_
  rintro e w' ⟨v, rfl, -, hE⟩
  exact ⟨v, by rw [hb], hE⟩
end Go.Proofs.YtbldlibijojbjaaGreatDoor.GB
