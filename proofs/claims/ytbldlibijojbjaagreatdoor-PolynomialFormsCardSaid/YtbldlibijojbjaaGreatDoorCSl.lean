import Derived.Test.YtbldlibijojbjaaGreatDoorMBd
namespace Go.Proofs.YtbldlibijojbjaaGreatDoor.GB
set_option linter.unusedVariables false
set_option linter.unusedSimpArgs false
open Go.RowKit

/-- Strings in memory: read only. -/
def RdS (w : World) (A : Option Addr) (l : List ByteArray) : Prop := ∀ j, (h : j < l.length) → ∃ b off, A = some ⟨b, off, none⟩ ∧ b < w.heap.size ∧ w.cell? ⟨b, off + j, none⟩ = some (.string l[j])
theorem RdS.ext {w w' : World} {A : Option Addr} {l : List ByteArray} (h : RdS w A l) (hb : Ext w w') : RdS w' A l := fun j hj => by
  obtain ⟨b, off, e, h1, h2⟩ := h j hj
  exact ⟨b, off, e, Nat.lt_of_lt_of_le h1 hb.size, hb.cell h2⟩
theorem RdS.take {w : World} {A : Option Addr} {l : List ByteArray} (h : RdS w A l) (k : Nat) : RdS w A (l.take k) := fun j hj => by
  have hj' : j < k ∧ j < l.length := by simp at hj; omega
  obtain ⟨b, off, e, h1, h2⟩ := h j hj'.2
  exact ⟨b, off, e, h1, by rw [h2]; simp⟩
/-- A slice that reads as these strings. -/
def SlS (w : World) (v : Value) (l : List ByteArray) : Prop := ∃ A c, v = .slice A l.length c ∧ l.length ≤ c ∧ c ≤ 9223372036854775807 ∧ RdS w A l
theorem SlS.ext {w w' : World} {v : Value} {l : List ByteArray} (h : SlS w v l) (hb : Ext w w') : SlS w' v l := by
  obtain ⟨A, c, rfl, h1, h2, h3⟩ := h
  exact ⟨A, c, rfl, h1, h2, h3.ext hb⟩
theorem SlS.nil (w : World) : SlS w (.slice none 0 0) [] := ⟨none, 0, rfl, Nat.le_refl _, by decide, fun j hj => by simp at hj⟩
/-- Strings as values. -/
def strs (l : List ByteArray) : List Value := l.map Value.string
theorem strs_length (l : List ByteArray) : (strs l).length = l.length := by simp [strs]
theorem strs_append (a b : List ByteArray) : strs (a ++ b) = strs a ++ strs b := by simp [strs]
/-- A slice of strings in a block from base on that nothing else reads. -/
def OwnS (w : World) (base : Nat) (v : Value) (l : List ByteArray) : Prop := w.ownsRow base 30 1 v l.length (strs l)
theorem OwnS.ext {w w' : World} {base : Nat} {v : Value} {l : List ByteArray} (h : OwnS w base v l) (hb : Ext w w') : OwnS w' base v l :=
  World.ownsRow.kept h (row := none) ⟨hb.os, hb.tape, hb.output, hb.size, fun i hi _ => hb.block i hi⟩ (by cases v.ownBlock <;> simp)
theorem OwnS.parts {w : World} {base : Nat} {v : Value} {l : List ByteArray} (h : OwnS w base v l) : ∃ A c, v = .slice A l.length c ∧ l.length ≤ c ∧ c ≤ maxLen ∧ RdS w A l ∧ (∀ a, A = some a → base ≤ a.block) := by
  rcases h.2 with ⟨hv, h0⟩ | ⟨g, cap, cur, hv, hg, hh, h1, h2, h3, h4⟩
  · refine ⟨none, 0, by rw [hv, h0], by omega, by simp [maxLen], fun j hj => by omega, fun a e => by cases e⟩
  · refine ⟨_, cap, hv, h1, h2, fun j hj => ⟨g, 0, rfl, (Array.getElem?_eq_some_iff.1 hh).1, ?_⟩, fun a e => by cases e; exact hg⟩
    subst hv
    have := World.ownsRow.cellAt h j (by omega)
    rw [Nat.zero_add, this]
    simp [strs, hj]
theorem OwnS.sl {w : World} {base : Nat} {v : Value} {l : List ByteArray} (h : OwnS w base v l) : SlS w v l := by
  obtain ⟨A, c, rfl, h1, h2, h3, _⟩ := h.parts
  exact ⟨A, c, rfl, h1, h2, h3⟩

def isZ (b : ByteArray) : Bool := b.toList == [48]
/-- Zeros at the end left out. -/
def tzS (l : List ByteArray) : List ByteArray := if h : l = [] then [] else if isZ (l.getLast h) then tzS l.dropLast else l
termination_by l.length
decreasing_by simp only [List.length_dropLast]; have := List.length_pos_iff.2 h; omega
theorem tzS_nil : tzS [] = [] := by rw [tzS]; rfl
theorem tzS_zero (l : List ByteArray) (b : ByteArray) (hb : isZ b = true) : tzS (l ++ [b]) = tzS l := by rw [tzS, dif_neg (by simp)]; simp [hb]
theorem tzS_last (l : List ByteArray) (b : ByteArray) (hb : isZ b = false) : tzS (l ++ [b]) = l ++ [b] := by rw [tzS, dif_neg (by simp)]; simp [hb]
theorem tzS_step {l : List ByteArray} {k : Nat} (hk : k < l.length) (h : tzS (l.take (k + 1)) = tzS l) (h0 : isZ l[k] = true) : tzS (l.take k) = tzS l := by
  rw [← h, List.take_succ_eq_append_getElem hk, tzS_zero _ _ h0]
theorem tzS_stop {l : List ByteArray} {k : Nat} (hk : k < l.length) (h : tzS (l.take (k + 1)) = tzS l) (h0 : isZ l[k] = false) : tzS l = l.take (k + 1) := by
  rw [← h, List.take_succ_eq_append_getElem hk, tzS_last _ _ h0]
theorem tzS_prefix (l : List ByteArray) : tzS l = l.take (tzS l).length ∧ (tzS l).length ≤ l.length := by
  fun_induction tzS l with
  | case1 => simp
  | case2 l h0 h1 ih =>
    obtain ⟨e, hl⟩ := ih
    simp at hl
    generalize (tzS l.dropLast).length = n at *
    refine ⟨?_, by omega⟩
    rw [e, List.dropLast_eq_take, List.take_take, Nat.min_eq_left (by omega)]
  | case3 l h0 h1 => simp
theorem isZ_sp (b : ByteArray) (x : Bool) (h : isZ b = x) : (b.toList == [48]) = x := h

set_option maxHeartbeats 400000 in
theorem ptrimS_any (A : Option Addr) (c : Nat) (l : List ByteArray) (w : World) (hl : l.length ≤ c) (hm : c ≤ 9223372036854775807) (hr : RdS w A l) :
    Calls Tryz.prog 47 #[.slice A l.length c] w fun e w' => e = .returned (.slice A (tzS l).length c) ∧ w = w' := by
  go_enter Tryz.func47, Tryz.ntmps47
  go_wp2
  go_loop [0] (fun v => ∃ k : Nat, k ≤ l.length ∧ v = .slice A k c ∧ Hid (tzS (l.take k) = tzS l)) (fun v => match v with | .slice _ n _ => n | _ => 0)
  case atStart => exact ⟨l.length, Nat.le_refl _, rfl, by rw [List.take_length]; rfl⟩
  case round =>
    obtain ⟨k, hk, rfl, HT⟩ := hrel
    cases k with
    | zero =>
      go_wp2
      go_ret
      exact ⟨ret_slice (by have := HT.out; rw [List.take_zero, tzS_nil] at this; rw [← this]; rfl), rfl⟩
    | succ k =>
      obtain ⟨b, off, rfl, hb, hc⟩ := hr k (by omega)
      cases h0 : isZ l[k]
      · have HL : Hid ((tzS l).length = k + 1) := by have := tzS_stop _ HT.out h0; unfold Hid; rw [this, List.length_take]; omega
        have h0' := isZ_sp _ _ h0
        clear h0
        generalize l[k] = s at *
        go_wp2
        go_ret
        exact ⟨ret_slice HL.out.symm, rfl⟩
      · have HT' : Hid (tzS (l.take k) = tzS l) := tzS_step _ HT.out h0
        have h0' := isZ_sp _ _ h0
        clear h0
        generalize l[k] = s at *
        go_wp2
        go_round
        case rel => exact ⟨k, by omega, rfl, HT'⟩
        case measure => simp
theorem ptrimS_v (v : Value) (l : List ByteArray) (w : World) (h : SlS w v l) :
    Calls Tryz.prog 47 #[v] w fun e w' => ∃ v', e = .returned v' ∧ SlS w' v' (tzS l) ∧ w = w' := by
  obtain ⟨A, c, rfl, h1, h2, h3⟩ := h
  refine (ptrimS_any A c l w h1 h2 h3).mono ?_
  rintro e w' ⟨rfl, rfl⟩
  obtain ⟨e1, hl⟩ := tzS_prefix l
  exact ⟨_, rfl, ⟨A, c, rfl, by omega, h2, by rw [e1]; exact h3.take _⟩, rfl⟩
def atS (l : List ByteArray) (i : Nat) : ByteArray := l.getD i ⟨#[48]⟩
set_option maxHeartbeats 400000 in
theorem at_any (v : Value) (l : List ByteArray) (i : Nat) (w : World) (hi : i ≤ 1099511627776) (h : SlS w v l) :
    Calls Tryz.prog 132 #[v, .int .i64 i] w fun e w' => e = .returned (.string (atS l i)) ∧ w = w' := by
  obtain ⟨A, c, rfl, h1, h2, h3⟩ := h
  by_cases hlt : i < l.length
  · obtain ⟨b, off, rfl, hb, hc⟩ := h3 i hlt
    have e1 : atS l i = l[i] := by simp [atS, hlt]
    rw [e1]
    generalize l[i] = s at *
    have hd : decide (l.length ≤ i) = false := by simp; omega
    go_enter Tryz.func132, Tryz.ntmps132
    go_wp2
    go_ret
    exact ⟨rfl, rfl⟩
  · have e1 : atS l i = ⟨#[48]⟩ := by simp [atS, List.getElem?_eq_none (Nat.not_lt.1 hlt)]
    rw [e1]
    have hd : decide (l.length ≤ i) = true := by simp; omega
    go_enter Tryz.func132, Tryz.ntmps132
    go_wp2
    go_ret
    exact ⟨rfl, rfl⟩
end Go.Proofs.YtbldlibijojbjaaGreatDoor.GB
