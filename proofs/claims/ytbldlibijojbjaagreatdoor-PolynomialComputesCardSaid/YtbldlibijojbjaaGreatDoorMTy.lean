import Derived.Test.YtbldlibijojbjaaGreatDoorMGc
import Derived.Test.YtbldlibijojbjaaGreatDoorMFu
import Derived.Test.YtbldlibijojbjaaGreatDoorMNum
import Derived.Deep.RegionHeld3
namespace Go.Proofs.YtbldlibijojbjaaGreatDoor.GB
set_option linter.unusedVariables false
set_option linter.unusedSimpArgs false
open Go.RowKit Go.Shelf
attribute [local go_sem] Oper.semAt_some

theorem builder_kept {T e : TypeId} {B b : Nat} {bs : List Value} {W W' : World} {row : Option Nat} (h : Lib.IsBuilder T e B b bs W) (hg : W.grownBy W' row) (hrow : ∀ r, row = some r → ∃ o : Obj, W.heap[r]? = some o ∧ o.isCells = false) : Lib.IsBuilder T e B b bs W' := by
  have key : ∀ p, Lib.BuilderAt T e B b p bs W → Lib.BuilderAt T e B b p bs W' := by
    rintro p ⟨h1, v, h2, h3, h4⟩
    refine ⟨h1, v, (grownBy_keeps_cells hg hrow h2 rfl).trans h2, h3.kept hg ?_, h4⟩
    rcases h3.2 with ⟨hv, _⟩ | ⟨g, cap, cur, hv, hgb, hh, _⟩
    · left; rw [hv]; rfl
    · right; rw [hv]; intro e
      obtain ⟨o, ho, hc⟩ := hrow g e.symm
      rw [hh] at ho; cases ho; simp [Obj.isCells] at hc
  exact h.imp (key _) (key _)
theorem ext_grown {W W' : World} (hb : Ext W W') : W.grownBy W' none := ⟨hb.os, hb.tape, hb.output, hb.size, fun i hi _ => hb.block i hi⟩
theorem builder_ext {T e : TypeId} {B b : Nat} {bs : List Value} {W W' : World} (h : Lib.IsBuilder T e B b bs W) (hb : Ext W W') : Lib.IsBuilder T e B b bs W' := builder_kept h (ext_grown hb) (fun r e => by cases e)
theorem builder_cells {T e : TypeId} {B b : Nat} {bs : List Value} {W : World} (h : Lib.IsBuilder T e B b bs W) : ∃ cs, W.heap[b]? = some (.cells cs T (0, 0)) := by
  rcases h with ⟨_, v, h, _⟩ | ⟨_, v, h, _⟩ <;> exact ⟨_, h⟩
/-- What the builder at b leaves as it was. -/
def BK (b : Nat) (W W' : World) : Prop := Below b W W' ∧ Lib.OthersKept 5 (some b) W W'
theorem BK.tr {b : Nat} {A B C : World} (h : BK b A B) (k : BK b B C) : BK b A C := ⟨h.1.trans k.1, h.2.trans k.2⟩
theorem BK.ext {b : Nat} {W W' : World} (h : Ext W W') (hb : b ≤ W.heap.size) : BK b W W' := ⟨h.mono hb, (Lib.OthersKept.refl _ _ _).below h⟩
theorem BK.far {b k : Nat} {W W' : World} (h : BK b W W') {cs : Array Value} {T : TypeId} {fz : Nat × Nat} (hk : W.heap[k]? = some (.cells cs T fz)) (hb : k ≠ b) (hT : T ≠ 5) : W'.heap[k]? = some (.cells cs T fz) :=
  h.2 k _ hk (fun e => hb (Option.some.inj e)) (fun c fz e => hT (by cases e; rfl))
theorem str_cells (l : List UInt8) (t : List UInt8) : Lib.byteCells l ++ Lib.strCells ⟨t.toArray⟩ = Lib.byteCells (l ++ t) := by
  simp [Lib.byteCells, Lib.strCells]
theorem size_mk (t : List UInt8) : (⟨t.toArray⟩ : ByteArray).size = t.length := by simp [ByteArray.size]
/-- Writing a text into the builder. -/
theorem write_h (b : Nat) (l t : List UInt8) (w : World) (h : Hid (Lib.IsBuilder 229 5 b b (Lib.byteCells l) w)) (hlen : Hid (l.length + t.length ≤ 140737488355328)) :
    Calls Tryz.prog 224 #[.pointer (some ⟨b, 0, none⟩), .string ⟨t.toArray⟩] w fun e w' => e = .returned (.tuple #[.int .i64 t.length, .nilIface]) ∧ (Lib.IsBuilder 229 5 b b (Lib.byteCells (l ++ t)) w' ∧ BK b w w') := by
  obtain ⟨cs, hc⟩ := builder_cells h.out
  have hb : b ≤ w.heap.size := Nat.le_of_lt (Array.getElem?_eq_some_iff.1 hc).1
  refine (writeString_any b b _ ⟨t.toArray⟩ w h.out (by rw [Lib.byteCells_length, size_mk]; exact hlen.out) hb).mono ?_
  rintro e w' ⟨rfl, h1, h2, h3⟩
  rw [str_cells] at h1
  exact ⟨by rw [size_mk], .inr h1, h2, h3⟩
theorem repeat0 (k : Nat) : Lib.repeatL [48] k = List.replicate k 48 := by
  induction k with
  | zero => rfl
  | succ k ih => rw [Lib.repeatL, ih, List.replicate_succ]; rfl
theorem pads_h (k : Nat) (w : World) (hk : k ≤ 9) : Calls Tryz.prog 225 #[.string ⟨#[48]⟩, .int .i64 k] w (RetS w (List.replicate k 48)) := by
  refine (Tryz.strings_Repeat ⟨#[48]⟩ k w (by omega) (by simp [ByteArray.size]; omega)).mono ?_
  rintro e w' ⟨rfl, hE⟩
  exact ⟨by rw [← repeat0], hE⟩
set_option maxHeartbeats 2000000 in
set_option maxRecDepth 100000 in
theorem text_zero (v : Value) (w : World) (h : NumV w v 0) :
    Calls Tryz.prog 199 #[v] w (RetS w (Lib.decDigits 0)) := by
  obtain ⟨A, c, rfl, h1, h2, h3⟩ := h
  have e : (wds 0).length = 0 := by rw [wds_zero]; rfl
  rw [e]
  go_enter Tryz.func199, Tryz.ntmps199
  go_wp2
  go_ret
  exact ⟨by rw [Lib.decDigits]; rfl, (Ext.rfl' w).al _⟩

theorem round_end {s0 : Nat} {w W W4 : World} {cs cA : Array Value} {T : TypeId} {bs : List Value} (K : BK (s0 + 1) W W4) (hcs : W.heap[s0 + 1]? = some (.cells cs T (0, 0))) (hx1 : W.heap[s0]? = some (.cells cA 185 (0, 0))) (hx2 : W.heap[s0 + 1 + 1]? = some (.cells cA 185 (0, 0)))
    (hb : Below s0 w W) (hB : Lib.IsBuilder 229 5 (s0 + 1) (s0 + 1) bs W4) :
    KeepsOthers W W4 ∧ Kps s0 (s0 + 1 + 1) W W4 ∧ (Lib.IsBuilder 229 5 (s0 + 1) (s0 + 1) bs W4 ∧ W4.heap[s0]? = some (.cells cA 185 (0, 0)) ∧ W4.heap[s0 + 1 + 1]? = some (.cells cA 185 (0, 0))) ∧ Below s0 w W4 := by
  have hB4 : Below s0 W W4 := K.1.mono (by omega)
  have h2 := K.far hx2 (by omega) (by decide)
  refine ⟨others_keeps K.2 hB4.size hcs, ⟨hB4, fun v e => ?_⟩, ⟨hB, (K.1.block s0 (by omega)).trans hx1, h2⟩, hb.trans hB4⟩
  rw [Lib.cell_of_heap h2]; rw [Lib.cell_of_heap hx2] at e; exact e

set_option maxHeartbeats 4000000 in
set_option maxRecDepth 100000 in
theorem text_some (v : Value) (n : Nat) (w : World) (h : NumV w v n) (hW : Wd w) (h0 : n ≠ 0) (hl : (wds n).length ≤ 549755813888) :
    Calls Tryz.prog 199 #[v] w (RetS w (Lib.decDigits n)) := by
  obtain ⟨A, c, rfl, h1, h2, h3⟩ := h
  refine (callsIn_wide (n := 5)).1 ?_
  have hp := wds_len_pos h0
  obtain ⟨len, hlen⟩ : ∃ len, len = (wds n).length := ⟨_, rfl⟩
  rw [← hlen] at hl hp h1 ⊢
  have HL := Lib.hid hlen
  have HR := Lib.hid h3
  clear hlen h3
  have hpb : (((len : Nat) : Int) == 0) = false := by rw [beq_eq_false_iff_ne]; omega
  refine callsIn_of_wp_marks Tryz.func199 rfl trivial ?_ rfl
  simp only [Tryz.ntmps199, List.size_toArray, List.length_cons, List.length_nil, Nat.reduceAdd, Nat.reduceSub, Array.replicate_succ, Array.replicate_zero, List.push_toArray, List.append_toArray, List.nil_append, List.cons_append]
  gi_wp2_with (refine ⟨trivial, ?_⟩; gi_at_call 222; refine (backward_in Fence.wide (5 - 1) trivial rfl _ _ _ _).mono ?_; rintro e w' ⟨rfl, rfl⟩)
  have hE1 : Below w.heap.size w (w.alloc (.cells #[.slice A len c] 185)) := (Below.refl _ w).alloc (Nat.le_refl _) _
  have hE2 : Below w.heap.size w ((w.alloc (.cells #[.slice A len c] 185)).alloc (.cells #[.pointer none, .slice none 0 0] 229)) := hE1.alloc (by simp) _
  have hE3 : Below w.heap.size w (((w.alloc (.cells #[.slice A len c] 185)).alloc (.cells #[.pointer none, .slice none 0 0] 229)).alloc (.cells #[.slice A len c] 185)) := hE2.alloc (by simp; omega) _
  have bN := Boxed.new ((w.alloc (.cells #[.slice A len c] 185)).alloc (.cells #[.pointer none, .slice none 0 0] 229)) 185 (.slice A len c)
  have bM := ((Boxed.new w 185 (.slice A len c)).alloc (.cells #[.pointer none, .slice none 0 0] 229)).alloc (.cells #[.slice A len c] 185)
  have bB := Lib.fresh_isBuilder 229 5 (w.alloc (.cells #[.slice A len c] 185))
  rw [World.size_alloc] at bN bB
  rw [World.size_alloc] at bN
  have bB2 := builder_kept bB (World.grownBy_alloc _ (.cells #[.slice A len c] 185) none) (fun r e => by cases e)
  have hx1 : (((w.alloc (.cells #[.slice A len c] 185)).alloc (.cells #[.pointer none, .slice none 0 0] 229)).alloc (.cells #[.slice A len c] 185)).heap[w.heap.size]? = some (.cells #[.slice A len c] 185 (0, 0)) :=
    (Below.heap_alloc _ _ _ (by simp; omega)).trans ((Below.heap_alloc _ _ _ (by simp)).trans (World.alloc_heap_new w _))
  have hx2 : (((w.alloc (.cells #[.slice A len c] 185)).alloc (.cells #[.pointer none, .slice none 0 0] 229)).alloc (.cells #[.slice A len c] 185)).heap[w.heap.size + 1 + 1]? = some (.cells #[.slice A len c] 185 (0, 0)) := by
    have := World.alloc_heap_new ((w.alloc (.cells #[.slice A len c] 185)).alloc (.cells #[.pointer none, .slice none 0 0] 229)) (.cells #[.slice A len c] 185)
    rwa [World.size_alloc, World.size_alloc] at this
  generalize hW3 : (((w.alloc (.cells #[.slice A len c] 185)).alloc (.cells #[.pointer none, .slice none 0 0] 229)).alloc (.cells #[.slice A len c] 185)) = w3 at *
  have hs3 : w3.heap.size = w.heap.size + 3 := by rw [← hW3]; simp
  have hst := back_stops Fence.wide (5 - 1) trivial rfl (by omega) (w.heap.size + 1 + 1) w.heap.size A c (wds n) (wd_wds_lt n) (by rw [← HL.out]; exact hl) w w3 rfl hE3 (by omega) HR.out (by rw [← HL.out]; exact bN.cell)
  refine wpIn_rangeFunc_ownF (F := Fence.wide) rfl (by omega) (gf := 239) (lb := #[.pointer (some ⟨w.heap.size + 1 + 1, 0, none⟩)]) rfl trivial (enters_of Tryz.func239 (by kernel_rfl) rfl)
    hst Kps.t (Kps.b (by omega)) (Below.refl _ _) (fun _ => rfl)
    (fun pre W => (Lib.IsBuilder 229 5 (w.heap.size + 1) (w.heap.size + 1) (Lib.byteCells (textOf len pre)) W ∧ W.heap[w.heap.size]? = some (.cells #[.slice A len c] 185 (0, 0)) ∧ W.heap[w.heap.size + 1 + 1]? = some (.cells #[.slice A len c] 185 (0, 0))) ∧ Below w.heap.size w W)
    (fun _ _ _ => False)
    (OwnFrom.and (Own.from (fun s X Y row hs hg hr => ⟨builder_kept hs.1 hg hr, (grownBy_keeps_cells hg hr hs.2.1 rfl).trans hs.2.1, (grownBy_keeps_cells hg hr hs.2.2 rfl).trans hs.2.2⟩) _) (ownFrom_below (Nat.le_refl _) (by omega)))
    (fun _ _ _ _ _ hs _ _ => hs)
    ⟨⟨bB2, hx1, hx2⟩, hE3⟩
    (fun x => { tmps := #[.slice A len c, .pointer (some ⟨w.heap.size, 0, none⟩), .string ⟨#[]⟩, .pointer (some ⟨w.heap.size + 1, 0, none⟩), .int .i64 (x.1.1 : Int), .int .u32 (x.1.2 : Int), undef, .slice A len c, .int .i64 len, .bool false, .slice A len c, .func (.func 239) #[] #[.pointer (some ⟨w.heap.size + 1 + 1, 0, none⟩)], .int .i64 (x.1.1 : Int), .int .u32 (x.1.2 : Int), undef, undef, undef, undef, undef, undef, undef, undef, undef, undef, undef, undef, undef, undef, undef, undef], defers := [] }) ?assign ?body ?done ?stop
  case assign =>
    intro l x W K hK
    gi_wp2
    exact hK
  case body =>
    rintro l pre ⟨⟨i, u⟩, hi1, hi2⟩ W ⟨⟨hB, hx1, hx2⟩, hb⟩ hpl
    dsimp only at hi1 hi2 ⊢
    have hWw : Wd W := hW.ext hb
    have HB := Lib.hid hB
    have hbk := builder_cells hB
    have hsz : w.heap.size + 1 ≤ W.heap.size := by obtain ⟨cs, h⟩ := hbk; exact Nat.le_of_lt (Array.getElem?_eq_some_iff.1 h).1
    have hcell : W.cell? ⟨w.heap.size, 0, none⟩ = some (.slice A len c) := by rw [Lib.cell_of_heap hx1]; rfl
    have hwr : IntKind.u64.wrap (u : Int) = (u : Int) := by rw [IntKind.wrap_u64]; omega
    have hdl : (Lib.decDigits u).length ≤ 9 := dec_len9 (by rw [BB_eq]; exact hi2)
    have hds : (⟨(Lib.decDigits u).toArray⟩ : ByteArray).size = (Lib.decDigits u).length := size_mk _
    have htl := textOf_len len pre
    have hlen9 : Hid ((textOf len pre).length + 100 ≤ 140737488355328) := by unfold Hid; rw [← HL.out] at hpl; omega
    by_cases hil : i + 1 < len
    · have hpc : Hid (piece len ⟨(i, u), hi1, hi2⟩ = List.replicate (9 - (Lib.decDigits u).length) 48 ++ Lib.decDigits u) := by unfold Hid piece; rw [if_pos hil]; rfl
      have hib : decide ((i : Int) < (len : Int) - 1) = true := decide_eq_true (by omega)
      have hpd : (9 : Int) - ((Lib.decDigits u).length : Int) = ((9 - (Lib.decDigits u).length : Nat) : Int) := by omega
      obtain ⟨pd, hpdn⟩ : ∃ pd, pd = 9 - (Lib.decDigits u).length := ⟨_, rfl⟩
      rw [← hpdn] at hpd hpc
      have hpd9 : pd ≤ 9 := by omega
      have HP := Lib.hid hpdn
      clear hpdn
      gi_wp2
      refine ⟨trivial, ?_⟩
      refine (CallsIn.inRound l (callsIn_wide.2 (formatUint_any u (by omega) W hWw))).mono ?_
      rintro e W1 ⟨rfl, hE1⟩
      have B1 := Lib.hid (builder_ext HB.out hE1)
      have K1 := Lib.hid (BK.ext hE1 hsz)
      have hcell1 := hE1.cell hcell
      clear hE1 hcell
      gi_wp2
      refine ⟨trivial, ?_⟩
      refine (CallsIn.inRound l (callsIn_wide.2 (pads_h pd W1 hpd9))).mono ?_
      rintro e W2 ⟨rfl, hE2⟩
      have B2 := Lib.hid (builder_ext B1.out hE2)
      have K2 := Lib.hid (K1.out.tr (BK.ext hE2 (by have := K1.out.1.size; omega)))
      clear hE2
      gi_wp2
      refine ⟨trivial, ?_⟩
      refine (CallsIn.inRound l (callsIn_wide.2 (write_h _ _ _ W2 B2 (by have := hlen9.out; unfold Hid; rw [List.length_replicate]; omega)))).mono ?_
      rintro e W3 ⟨rfl, hB3, hK3⟩
      have B3 := Lib.hid hB3
      have K3 := Lib.hid (K2.out.tr hK3)
      clear hB3 hK3
      gi_wp2
      refine ⟨trivial, ?_⟩
      refine (CallsIn.inRound l (callsIn_wide.2 (write_h _ _ _ W3 B3 (by have := hlen9.out; unfold Hid; rw [List.length_append, List.length_replicate]; omega)))).mono ?_
      rintro e W4 ⟨rfl, hB4, hK4⟩
      have B4 := Lib.hid hB4
      have K4 := Lib.hid (K3.out.tr hK4)
      clear hB4 hK4
      gi_wp2
      rw [List.append_assoc] at B4
      obtain ⟨cs, hcs⟩ := hbk
      exact round_end K4.out hcs hx1 hx2 hb (by rw [textOf_snoc, hpc.out]; exact B4.out)
    · have hpc : Hid (piece len ⟨(i, u), hi1, hi2⟩ = Lib.decDigits u) := by unfold Hid piece; rw [if_neg hil]
      have hib : decide ((i : Int) < (len : Int) - 1) = false := decide_eq_false (by omega)
      gi_wp2
      refine ⟨trivial, ?_⟩
      refine (CallsIn.inRound l (callsIn_wide.2 (formatUint_any u (by omega) W hWw))).mono ?_
      rintro e W1 ⟨rfl, hE1⟩
      have B1 := Lib.hid (builder_ext HB.out hE1)
      have K1 := Lib.hid (BK.ext hE1 hsz)
      have hcell1 := hE1.cell hcell
      clear hE1 hcell
      gi_wp2
      refine ⟨trivial, ?_⟩
      refine (CallsIn.inRound l (callsIn_wide.2 (write_h _ _ _ W1 B1 (by have := hlen9.out; unfold Hid; omega)))).mono ?_
      rintro e W4 ⟨rfl, hB4, hK4⟩
      have B4 := Lib.hid hB4
      have K4 := Lib.hid (K1.out.tr hK4)
      clear hB4 hK4
      gi_wp2
      obtain ⟨cs, hcs⟩ := hbk
      exact round_end K4.out hcs hx1 hx2 hb (by rw [textOf_snoc, hpc.out]; exact B4.out)
  case done =>
    rintro D ys W hD rfl ⟨⟨hB, hx1, hx2⟩, hb⟩ hK
    obtain ⟨cs, hcs⟩ := builder_cells hB
    have hsz : w.heap.size + 1 ≤ W.heap.size := Nat.le_of_lt (Array.getElem?_eq_some_iff.1 hcs).1
    have hs := Tryz.Builder_String_any_k (w.heap.size + 1) (w.heap.size + 1) _ W (Lib.IsBuilderF.of hB) hsz
    gi_wp2
    refine ⟨trivial, ?_⟩
    refine (callsIn_wide.2 hs).mono ?_
    rintro e W2 ⟨rfl, hF, hB2, hO⟩
    gi_wp2
    have hK2 : W2.heap[D]? = some (.deferred (some [])) := hO D _ hK (fun e => by cases e; rw [hcs] at hK; cases hK) (fun c fz e => by cases e)
    refine ⟨by simp, .inl ⟨_, _, rfl, run_takeDeferred hK2, ?_⟩⟩
    refine ⟨_, results_tmp rfl _ _ _, ?_, ?_⟩
    · rw [HL.out, downs_all n (by rw [← HL.out]; exact hl) h0]; rfl
    · exact (hb.trans (hB2.mono (by omega))).trans (belowK_b (w := w) (Nat.le_refl _) W2 D _ _ (by omega) hK2 rfl rfl)
  case stop =>
    rintro D c pre W _ _ h _
    exact h.elim
theorem text_any (v : Value) (n : Nat) (w : World) (h : NumV w v n) (hW : Wd w) (hl : (wds n).length ≤ 549755813888) :
    Calls Tryz.prog 199 #[v] w (RetS w (Lib.decDigits n)) := by
  by_cases h0 : n = 0
  · subst h0; exact text_zero v w h
  · exact text_some v n w h hW h0 hl
end Go.Proofs.YtbldlibijojbjaaGreatDoor.GB

namespace Go.Proofs.YtbldlibijojbjaaGreatDoor.GB
set_option linter.unusedVariables false
set_option linter.unusedSimpArgs false
open Go.RowKit Go.Shelf
attribute [local go_sem ↓] Go.wp_at_zero Go.wp_at_succ

/-- A number of at most 2^38 bits. -/
def Fit (a : Nat) : Prop := ∃ k, k ≤ 274877906944 ∧ a < 2 ^ k
theorem Fit.len {a : Nat} (h : Fit a) : (wds a).length ≤ 549755813888 := by
  obtain ⟨k, hk, ha⟩ := h
  have : a < BB ^ k := Nat.lt_of_lt_of_le ha (Nat.pow_le_pow_left (by rw [BB_eq]; omega) k)
  exact Nat.le_trans (wds_len_le this) (by omega)
theorem Fit.dec {a : Nat} (h : Fit a) : (Lib.decDigits a).length ≤ 1099511627776 := by
  obtain ⟨k, hk, ha⟩ := h
  exact Nat.le_trans (dec_len_le a k ha) (by omega)
theorem Fit.le {a b : Nat} (h : Fit a) (hb : b ≤ a) : Fit b := by
  obtain ⟨k, hk, ha⟩ := h
  exact ⟨k, hk, Nat.lt_of_le_of_lt hb ha⟩
/-- The text of a number. -/
abbrev dtx (a : Nat) : Value := .string ⟨(Lib.decDigits a).toArray⟩
theorem dtx_size (a : Nat) : (⟨(Lib.decDigits a).toArray⟩ : ByteArray).size = (Lib.decDigits a).length := size_mk _

theorem valid_any (s : ByteArray) (w : World) (hs : s.size ≤ 9223372036854775807) :
    Calls Tryz.prog 127 #[.string s] w fun e w' => e = .returned (.bool (canB s.data.toList)) ∧ w = w' := by
  rcases Nat.eq_zero_or_pos s.size with h | h
  · have e1 : s.data.toList = [] := by
      apply List.eq_nil_of_length_eq_zero; rw [bytes_len]; exact h
    have e2 : s.toList = [] := by rw [ByteArray.toList_eq, e1]
    refine (Valid_empty s w e2).mono ?_
    rintro e w' ⟨rfl, rfl⟩
    rw [e1]
    exact ⟨rfl, rfl⟩
  · have e2 : s.toList.isEmpty = false := by
      have hl : s.toList.length = s.size := by rw [ByteArray.toList_eq, bytes_len]
      cases hq : s.toList with
      | nil => rw [hq] at hl; simp at hl; omega
      | cons => rfl
    exact Valid_some s w hs e2 h
theorem valid_dec (a : Nat) (w : World) (h : Fit a) :
    Calls Tryz.prog 127 #[dtx a] w fun e w' => e = .returned (.bool true) ∧ w = w' := by
  have := h.dec
  refine (valid_any _ w (by rw [dtx_size]; omega)).mono ?_
  rintro e w' ⟨rfl, rfl⟩
  exact ⟨by rw [(canB_iff (Lib.decDigits a)).2 (dec_canon a)], rfl⟩
theorem read_v (a : Nat) (w : World) (h : Fit a) : Calls Tryz.prog 198 #[dtx a] w (RetV w a) :=
  (read_any _ w a rfl (by rw [dtx_size]; exact h.dec)).mono fun e w' h => h.v

set_option maxHeartbeats 1000000 in
set_option maxRecDepth 100000 in
theorem both_n (a b : Nat) (w : World) (ha : Fit a) (hb : Fit b) :
    Calls Tryz.prog 173 #[dtx a, dtx b] w fun e w' => ∃ v1 v2, e = .returned (.tuple #[v1, v2, .int .i64 0]) ∧ NumV w' v1 a ∧ NumV w' v2 b ∧ Ext w w' := by
  go_enter Tryz.func173, Tryz.ntmps173
  go_wp2_with fail
  refine (valid_dec a _ ha).mono ?_
  rintro e w1 ⟨rfl, rfl⟩
  go_wp2_with fail
  refine (valid_dec b _ hb).mono ?_
  rintro e w1 ⟨rfl, rfl⟩
  go_wp2_with fail
  refine (read_v a _ ha).mono ?_
  rintro e w1 ⟨v1, rfl, h1, hE1⟩
  go_wp2_with fail
  refine (read_v b _ hb).mono ?_
  rintro e w2 ⟨v2, rfl, h2, hE2⟩
  go_wp2_with fail
  go_ret3
  exact ⟨v1, v2, rfl, h1.ext hE2, h2, hE1.tr hE2⟩

set_option maxHeartbeats 1000000 in
set_option maxRecDepth 100000 in
theorem apply_n (K : Nat) (hK : ∀ args w, (callFunc K args).run Tryz.prog w = .ok (.enter K args) w) (v1 v2 : Value) (r : Nat) (w : World) (hW : Wd w) (hr : Fit r)
    (hop : Calls Tryz.prog K #[v1, v2] w (RetV w r)) :
    Calls Tryz.prog 174 #[.func (.func K) #[v1] #[], v2] w fun e w' => e = .returned (.tuple #[dtx r, .int .i64 0]) ∧ Ext w w' := by
  go_enter Tryz.func174, Tryz.ntmps174
  go_wp2_with fail
  refine hop.mono ?_
  rintro e w1 ⟨v, rfl, h1, hE1⟩
  go_wp2_with fail
  refine (text_any v r _ h1 (hW.ext hE1) hr.len).mono ?_
  rintro e w2 ⟨rfl, hE2⟩
  go_wp2_with fail
  go_ret2
  exact ⟨rfl, hE1.tr hE2⟩

theorem times_v (v1 v2 : Value) (a b : Nat) (w : World) (ha : Fit a) (hb : Fit b) (h1 : NumV w v1 a) (h2 : NumV w v2 b) : Calls Tryz.prog 213 #[v1, v2] w (RetV w (a * b)) := by
  obtain ⟨A, ca, rfl, _, _, h1⟩ := h1
  obtain ⟨B, cb, rfl, _, _, h2⟩ := h2
  have := ha.len
  have := hb.len
  exact (times_n A B ca cb _ _ a b w rfl rfl (by omega) (by omega) h1 h2).mono fun e w' h => h.v
theorem plus_v (v1 v2 : Value) (a b : Nat) (w : World) (ha : Fit a) (hb : Fit b) (h1 : NumV w v1 a) (h2 : NumV w v2 b) : Calls Tryz.prog 235 #[v1, v2] w (RetV w (a + b)) := by
  obtain ⟨A, ca, rfl, _, _, h1⟩ := h1
  obtain ⟨B, cb, rfl, _, _, h2⟩ := h2
  have := ha.len
  have := hb.len
  exact (plus_any A B ca cb _ _ a b w rfl rfl (by omega) (by omega) h1 h2).mono fun e w' h => h.v
theorem minus_v (v1 v2 : Value) (a b : Nat) (w : World) (ha : Fit a) (hb : Fit b) (h1 : NumV w v1 a) (h2 : NumV w v2 b) (hle : b ≤ a) : Calls Tryz.prog 236 #[v1, v2] w (RetV w (a - b)) := by
  obtain ⟨A, ca, rfl, _, _, h1⟩ := h1
  obtain ⟨B, cb, rfl, _, _, h2⟩ := h2
  have := ha.len
  have := hb.len
  exact (minus_any A B ca cb _ _ a b w rfl rfl (by omega) (by omega) h1 h2 hle).mono fun e w' h => h.v
theorem compare_v (v1 v2 : Value) (a b : Nat) (w : World) (ha : Fit a) (hb : Fit b) (h1 : NumV w v1 a) (h2 : NumV w v2 b) : Calls Tryz.prog 227 #[v1, v2] w fun e w' => e = .returned (.int .i64 (cmpZ a b)) ∧ Ext w w' := by
  obtain ⟨A, ca, rfl, _, _, h1⟩ := h1
  obtain ⟨B, cb, rfl, _, _, h2⟩ := h2
  have := ha.len
  have := hb.len
  exact compare_any A B ca cb _ _ a b w rfl rfl (by omega) (by omega) h1 h2

/-- The call hands back the text of a number, and no error. -/
def RetD (w : World) (r : Nat) (e : Ending) (w' : World) : Prop := e = .returned (.tuple #[dtx r, .int .i64 0]) ∧ Ext w w'

set_option maxHeartbeats 1000000 in
set_option maxRecDepth 100000 in
theorem Mul_n (a b : Nat) (w : World) (hW : Wd w) (ha : Fit a) (hb : Fit b) (hr : Fit (a * b)) :
    Calls Tryz.prog 187 #[dtx a, dtx b] w (RetD w (a * b)) := by
  go_enter Tryz.func187, Tryz.ntmps187
  go_wp2_with fail
  refine (both_n a b _ ha hb).mono ?_
  rintro e w1 ⟨v1, v2, rfl, h1, h2, hE1⟩
  go_wp2_with fail
  refine (apply_n 213 (enters_of Tryz.func213 (by kernel_rfl) rfl) _ _ (a * b) _ (hW.ext hE1) hr (times_v _ _ a b _ ha hb h1 h2)).mono ?_
  rintro e w2 ⟨rfl, hE2⟩
  go_wp2_with fail
  go_ret2
  exact ⟨rfl, hE1.tr hE2⟩
set_option maxHeartbeats 1000000 in
set_option maxRecDepth 100000 in
theorem Add_n (a b : Nat) (w : World) (hW : Wd w) (ha : Fit a) (hb : Fit b) (hr : Fit (a + b)) :
    Calls Tryz.prog 214 #[dtx a, dtx b] w (RetD w (a + b)) := by
  go_enter Tryz.func214, Tryz.ntmps214
  go_wp2_with fail
  refine (both_n a b _ ha hb).mono ?_
  rintro e w1 ⟨v1, v2, rfl, h1, h2, hE1⟩
  go_wp2_with fail
  refine (apply_n 235 (enters_of Tryz.func235 (by kernel_rfl) rfl) _ _ (a + b) _ (hW.ext hE1) hr (plus_v _ _ a b _ ha hb h1 h2)).mono ?_
  rintro e w2 ⟨rfl, hE2⟩
  go_wp2_with fail
  go_ret2
  exact ⟨rfl, hE1.tr hE2⟩
set_option maxHeartbeats 1000000 in
set_option maxRecDepth 100000 in
theorem GCD_n (a b : Nat) (w : World) (hW : Wd w) (ha : Fit a) (hb : Fit b) (hr : Fit (Nat.gcd a b)) :
    Calls Tryz.prog 153 #[dtx a, dtx b] w (RetD w (Nat.gcd a b)) := by
  go_enter Tryz.func153, Tryz.ntmps153
  go_wp2_with fail
  refine (both_n a b _ ha hb).mono ?_
  rintro e w1 ⟨v1, v2, rfl, h1, h2, hE1⟩
  go_wp2_with fail
  refine (apply_n 175 (enters_of Tryz.func175 (by kernel_rfl) rfl) _ _ (Nat.gcd a b) _ (hW.ext hE1) hr (gcd_any _ _ a b _ ha.len hb.len h1 h2)).mono ?_
  rintro e w2 ⟨rfl, hE2⟩
  go_wp2_with fail
  go_ret2
  exact ⟨rfl, hE1.tr hE2⟩
set_option maxHeartbeats 1000000 in
set_option maxRecDepth 100000 in
theorem Compare_n (a b : Nat) (w : World) (ha : Fit a) (hb : Fit b) :
    Calls Tryz.prog 215 #[dtx a, dtx b] w fun e w' => e = .returned (.tuple #[.int .i64 (cmpZ a b), .int .i64 0]) ∧ Ext w w' := by
  go_enter Tryz.func215, Tryz.ntmps215
  go_wp2_with fail
  refine (both_n a b _ ha hb).mono ?_
  rintro e w1 ⟨v1, v2, rfl, h1, h2, hE1⟩
  go_wp2_with fail
  refine (compare_v _ _ a b _ ha hb h1 h2).mono ?_
  rintro e w2 ⟨rfl, hE2⟩
  go_wp2_with fail
  go_ret2
  exact ⟨rfl, hE1.tr hE2⟩
set_option maxHeartbeats 1000000 in
set_option maxRecDepth 100000 in
theorem Sub_n (a b : Nat) (w : World) (hW : Wd w) (ha : Fit a) (hb : Fit b) (hle : b ≤ a) :
    Calls Tryz.prog 216 #[dtx a, dtx b] w (RetD w (a - b)) := by
  have hc : decide (cmpZ a b < 0) = false := cmpZ_geb hle
  go_enter Tryz.func216, Tryz.ntmps216
  go_wp2_with fail
  refine (both_n a b _ ha hb).mono ?_
  rintro e w1 ⟨v1, v2, rfl, h1, h2, hE1⟩
  go_wp2_with fail
  refine (compare_v _ _ a b _ ha hb h1 h2).mono ?_
  rintro e w2 ⟨rfl, hE2⟩
  go_wp2_with fail
  refine (apply_n 236 (enters_of Tryz.func236 (by kernel_rfl) rfl) _ _ (a - b) _ (hW.ext (hE1.tr hE2)) (ha.le (by omega)) (minus_v _ _ a b _ ha hb (h1.ext hE2) (h2.ext hE2) hle)).mono ?_
  rintro e w3 ⟨rfl, hE3⟩
  go_wp2_with fail
  go_ret2
  exact ⟨rfl, (hE1.tr hE2).tr hE3⟩
set_option maxHeartbeats 1000000 in
set_option maxRecDepth 100000 in
theorem DivMod_n (a b : Nat) (w : World) (hW : Wd w) (ha : Fit a) (hb : Fit b) (h0 : 0 < b) :
    Calls Tryz.prog 232 #[dtx a, dtx b] w fun e w' => e = .returned (.tuple #[dtx (a / b), dtx (a % b), .int .i64 0]) ∧ Ext w w' := by
  go_enter Tryz.func232, Tryz.ntmps232
  go_wp2_with fail
  refine (both_n a b _ ha hb).mono ?_
  rintro e w1 ⟨v1, v2, rfl, h1, h2, hE1⟩
  obtain ⟨B, cb, rfl⟩ := vslice h2
  have hp := (wds_pos_iff b).2 h0
  have hpb : (((wds b).length : Int) == 0) = false := by rw [beq_eq_false_iff_ne]; omega
  go_wp2_with fail
  refine (divide_v _ _ a b _ ha.len hb.len h1 h2 h0).mono ?_
  rintro e w2 ⟨q, r, rfl, hq, hr, hE2⟩
  go_wp2_with fail
  refine (text_any q (a / b) _ hq (hW.ext (hE1.tr hE2)) (ha.le (Nat.div_le_self a b)).len).mono ?_
  rintro e w3 ⟨rfl, hE3⟩
  go_wp2_with fail
  refine (text_any r (a % b) _ (hr.ext hE3) (hW.ext ((hE1.tr hE2).tr hE3)) (hb.le (Nat.le_of_lt (Nat.mod_lt a h0))).len).mono ?_
  rintro e w4 ⟨rfl, hE4⟩
  go_wp2_with fail
  go_ret3
  exact ⟨rfl, ((hE1.tr hE2).tr hE3).tr hE4⟩
end Go.Proofs.YtbldlibijojbjaaGreatDoor.GB

namespace Go.Proofs.YtbldlibijojbjaaGreatDoor.GB
set_option linter.unusedVariables false
set_option linter.unusedSimpArgs false
open Go.RowKit Go.Shelf

theorem dtx_zero (n : Nat) : ((⟨(Lib.decDigits n).toArray⟩ : ByteArray).toList == [48]) = decide (n = 0) := by
  rw [ByteArray.toList_eq]
  show (Lib.decDigits n == [48]) = _
  have h0 : Lib.decDigits 0 = [48] := by rw [Lib.decDigits]; rfl
  by_cases h : n = 0
  · subst h; rw [h0]; rfl
  · rw [decide_eq_false h, beq_eq_false_iff_ne]
    intro e; rw [← h0] at e; exact h (dec_inj e)
theorem dtx0 : dtx 0 = .string ⟨#[48]⟩ := by
  have h0 : Lib.decDigits 0 = [48] := by rw [Lib.decDigits]; rfl
  show Value.string _ = _
  rw [h0]
theorem dtx1 : dtx 1 = .string ⟨#[49]⟩ := by
  have h0 : Lib.decDigits 1 = [49] := by rw [Lib.decDigits]; rfl
  show Value.string _ = _
  rw [h0]
/-- A number with a sign, as the package keeps it. -/
abbrev IV (z : Int) : Value := .agg #[.bool (decide (z < 0)), dtx z.natAbs]
/-- The text of a number with a sign. -/
abbrev itx (z : Int) : Value := .string ⟨(Lib.itoa z).toArray⟩
/-- A box of cells. -/
def Bx (w : World) (b : Nat) (cs : Array Value) (T : TypeId) : Prop := w.heap[b]? = some (.cells cs T (0, 0))
theorem Bx.lt {w : World} {b : Nat} {cs : Array Value} {T : TypeId} (h : Bx w b cs T) : b < w.heap.size := (Array.getElem?_eq_some_iff.1 h).1
theorem Bx.ext {w w' : World} {b : Nat} {cs : Array Value} {T : TypeId} (h : Bx w b cs T) (hE : Ext w w') : Bx w' b cs T := (hE.block b h.lt).trans h
theorem Bx.new (w : World) (cs : Array Value) (T : TypeId) : Bx (w.alloc (.cells cs T)) w.heap.size cs T := World.alloc_heap_new w _
theorem Bx.al {w : World} {b : Nat} {cs : Array Value} {T : TypeId} (h : Bx w b cs T) (o : Obj) : Bx (w.alloc o) b cs T := (Below.heap_alloc _ _ _ h.lt).trans h
theorem Bx.c {w : World} {b : Nat} {cs : Array Value} {T : TypeId} (h : Bx w b cs T) (j : Nat) : w.cell? ⟨b, j, none⟩ = cs[j]? := Lib.cell_of_heap h j
theorem Bx.f {w : World} {b : Nat} {cs : Array Value} {T : TypeId} (h : Bx w b cs T) (j : Nat) : w.frozen? ⟨b, j, none⟩ = false := Lib.frozen_of_heap h j
theorem Bx.c0 {w : World} {b : Nat} {x y : Value} {T : TypeId} (h : Bx w b #[x, y] T) : w.cell? ⟨b, 0, none⟩ = some x := h.c 0
theorem Bx.c1 {w : World} {b : Nat} {x y : Value} {T : TypeId} (h : Bx w b #[x, y] T) : w.cell? ⟨b, 1, none⟩ = some y := h.c 1
theorem IV_with (x : Bool) (n : Nat) : Value.agg #[.bool (x && !decide (n = 0)), dtx n] = IV (if x then -(n : Int) else n) := by
  cases x
  · have : (decide (((n : Nat) : Int) < 0)) = false := by simp
    simp [IV, this]
  · by_cases h : n = 0
    · subst h; simp [IV]
    · have : (decide (-(n : Int) < 0)) = true := by simp; omega
      simp only [IV, if_true, this, Int.natAbs_neg, Int.natAbs_natCast, h]
      rfl
theorem set2 {w : World} {b : Nat} {x y : Value} {T : TypeId} (h : Bx w b #[x, y] T) (u v : Value) :
    ((w.setCell ⟨b, 0, none⟩ u).setCell ⟨b, 1, none⟩ v).cell? ⟨b, 0, none⟩ = some u ∧ ((w.setCell ⟨b, 0, none⟩ u).setCell ⟨b, 1, none⟩ v).cell? ⟨b, 1, none⟩ = some v := by
  have h0 := h.c0
  have h1 := h.c1
  constructor
  · rw [World.cell?_setCell_other _ _ _ _ (by simp)]
    exact World.cell?_setCell_same _ _ _ h0
  · exact World.cell?_setCell_same (w.setCell ⟨b, 0, none⟩ u) ⟨b, 1, none⟩ v (by rw [World.cell?_setCell_other _ _ _ _ (by simp)]; exact h1)
theorem ext_set2 {w w1 : World} {b : Nat} (h : Ext w w1) (hb : w.heap.size ≤ b) (u v : Value) : Ext w ((w1.setCell ⟨b, 0, none⟩ u).setCell ⟨b, 1, none⟩ v) :=
  (Below.setCell (p := ⟨b, 0, none⟩) h hb u).setCell (p := ⟨b, 1, none⟩) hb v

set_option maxHeartbeats 1000000 in
set_option maxRecDepth 100000 in
theorem with_any (x : Bool) (n : Nat) (w : World) : Calls Tryz.prog 188 #[.bool x, dtx n] w fun e w' => e = .returned (IV (if x then -(n : Int) else n)) ∧ Ext w w' := by
  rw [← IV_with]
  have hz := dtx_zero n
  have hz2 : (Lib.decDigits n == [48]) = decide (n = 0) := by rw [← hz, ByteArray.toList_eq]
  cases x
  · go_enter Tryz.func188, Tryz.ntmps188
    go_wp2_with fail
    refine bodyPost_ret (v := .agg #[.bool false, dtx n]) (by simp [results, Tryz.f188, go_sem]) rfl ⟨rfl, (Ext.rfl' _).al _⟩
  · go_enter Tryz.func188, Tryz.ntmps188
    go_wp2_with fail
    refine bodyPost_ret (v := .agg #[.bool (!decide (n = 0)), dtx n]) (by simp [results, Tryz.f188, go_sem, hz, hz2]) rfl ⟨rfl, (Ext.rfl' _).al _⟩
set_option maxHeartbeats 1000000 in
set_option maxRecDepth 100000 in
theorem zero_any (w : World) : Calls Tryz.prog 186 #[] w fun e w' => e = .returned (.agg #[.bool false, .string ⟨#[48]⟩]) ∧ Ext w w' := by
  go_enter Tryz.func186, Tryz.ntmps186
  go_wp2_with fail
  refine bodyPost_ret (v := .agg #[.bool false, .string ⟨#[48]⟩]) (by simp [results, Tryz.f186, go_sem]) rfl ⟨rfl, (Ext.rfl' _).al _⟩
theorem bit_any (x : Bool) (w : World) : Calls Tryz.prog 191 #[.bool x] w fun e w' => e = .returned (.int .i64 (if x then 1 else 0)) ∧ w = w' := by
  cases x
  · go_enter Tryz.func191, Tryz.ntmps191
    go_wp2_with fail
    go_ret
    exact ⟨rfl, rfl⟩
  · go_enter Tryz.func191, Tryz.ntmps191
    go_wp2_with fail
    go_ret
    exact ⟨rfl, rfl⟩
theorem cat45 (n : Nat) : ((⟨#[45]⟩ : ByteArray) ++ ⟨(Lib.decDigits n).toArray⟩) = ⟨(45 :: Lib.decDigits n).toArray⟩ := by
  apply ByteArray.ext
  simp
set_option maxHeartbeats 1000000 in
set_option maxRecDepth 100000 in
theorem itext_any (z : Int) (w : World) (hz : Fit z.natAbs) : Calls Tryz.prog 163 #[IV z] w fun e w' => e = .returned (itx z) ∧ Ext w w' := by
  have hl := hz.dec
  have hs : ¬ 9223372036854775807 < 1 + (⟨(Lib.decDigits z.natAbs).toArray⟩ : ByteArray).size := by rw [dtx_size]; omega
  rcases (by omega : z < 0 ∨ 0 ≤ z) with h | h
  · have hd : decide (z < 0) = true := decide_eq_true h
    have hr : Lib.itoa z = 45 :: Lib.decDigits z.natAbs := itoa_of_neg h
    have hc := cat45 z.natAbs
    unfold IV itx
    rw [hd, hr]
    generalize z.natAbs = n at *
    clear h hd hr
    go_enter Tryz.func163, Tryz.ntmps163
    go_wp2_with fail
    go_ret
    exact ⟨rfl, (Ext.rfl' _).al _⟩
  · have hd : decide (z < 0) = false := decide_eq_false (by omega)
    have hr : Lib.itoa z = Lib.decDigits z.natAbs := itoa_of_nonneg h
    unfold IV itx
    rw [hd, hr]
    generalize z.natAbs = n at *
    clear h hd hr
    go_enter Tryz.func163, Tryz.ntmps163
    go_wp2_with fail
    go_ret
    exact ⟨rfl, (Ext.rfl' _).al _⟩
set_option maxHeartbeats 1000000 in
set_option maxRecDepth 100000 in
theorem opposite_any (z : Int) (w : World) : Calls Tryz.prog 165 #[IV z] w fun e w' => e = .returned (IV (-z)) ∧ Ext w w' := by
  generalize hy : -z = y
  go_enter Tryz.func165, Tryz.ntmps165
  go_wp2_with fail
  refine (with_any _ _ _).mono ?_
  rintro e w1 ⟨rfl, hE⟩
  have E1 : Ext w w1 := (((Ext.rfl' w).al _).al _).tr hE
  have B1 := ((Bx.new (w.alloc (.cells #[.bool (decide (z < 0)), dtx z.natAbs] 166)) #[.bool false, .string ⟨#[]⟩] 166)).ext hE
  rw [World.size_alloc] at B1
  have c0 := B1.c0
  have c1 := B1.c1
  have f0 := B1.f 0
  have f1 := B1.f 1
  have hz : (if (!decide (z < 0)) = true then -((z.natAbs : Nat) : Int) else (z.natAbs : Int)) = y := by
    by_cases h : z < 0
    · simp [h]; omega
    · simp [h]; omega
  rw [hz]
  go_wp2_with fail
  obtain ⟨d0, d1⟩ := set2 B1 (.bool (decide (y < 0))) (dtx y.natAbs)
  have E2 := ext_set2 (b := w.heap.size + 1) E1 (by omega) (.bool (decide (y < 0))) (dtx y.natAbs)
  refine bodyPost_ret (v := IV y) ?_ rfl ⟨rfl, E2⟩
  simp [results, Tryz.f165, go_sem, d0, d1]
theorem Bx.set {w : World} {b : Nat} {cs : Array Value} {T : TypeId} (h : Bx w b cs T) {p : Addr} (hp : b ≠ p.block) (u : Value) : Bx (w.setCell p u) b cs T := (Below.heap_setCell w p u b hp).trans h
theorem boxes2 (w : World) (A B : Array Value) (T : TypeId) : Bx ((w.alloc (.cells A T)).alloc (.cells B T)) w.heap.size A T ∧ Bx ((w.alloc (.cells A T)).alloc (.cells B T)) (w.heap.size + 1) B T ∧ Ext w ((w.alloc (.cells A T)).alloc (.cells B T)) := by
  refine ⟨(Bx.new w A T).al _, ?_, ((Ext.rfl' w).al _).al _⟩
  have := Bx.new (w.alloc (.cells A T)) B T
  rwa [World.size_alloc] at this
theorem boxes3 (w : World) (A B C : Array Value) (T : TypeId) : Bx (((w.alloc (.cells A T)).alloc (.cells B T)).alloc (.cells C T)) w.heap.size A T ∧ Bx (((w.alloc (.cells A T)).alloc (.cells B T)).alloc (.cells C T)) (w.heap.size + 1) B T ∧ Bx (((w.alloc (.cells A T)).alloc (.cells B T)).alloc (.cells C T)) (w.heap.size + 1 + 1) C T ∧ Ext w (((w.alloc (.cells A T)).alloc (.cells B T)).alloc (.cells C T)) := by
  obtain ⟨h1, h2, h3⟩ := boxes2 w A B T
  refine ⟨h1.al _, h2.al _, ?_, h3.al _⟩
  have := Bx.new ((w.alloc (.cells A T)).alloc (.cells B T)) C T
  rw [World.size_alloc, World.size_alloc] at this
  exact this
theorem sign_mul (a b : Int) : (if (!(decide (a < 0) == decide (b < 0))) = true then -((a.natAbs * b.natAbs : Nat) : Int) else ((a.natAbs * b.natAbs : Nat) : Int)) = a * b := by
  rw [Int.natCast_mul]
  by_cases h : a < 0
  · have ha : (a.natAbs : Int) = -a := by omega
    by_cases k : b < 0
    · have hb : (b.natAbs : Int) = -b := by omega
      rw [ha, hb, decide_eq_true h, decide_eq_true k]
      simp [Int.neg_mul_neg]
    · have hb : (b.natAbs : Int) = b := by omega
      rw [ha, hb, decide_eq_true h, decide_eq_false k]
      simp [Int.neg_mul]
  · have ha : (a.natAbs : Int) = a := by omega
    by_cases k : b < 0
    · have hb : (b.natAbs : Int) = -b := by omega
      rw [ha, hb, decide_eq_false h, decide_eq_true k]
      simp [Int.mul_neg]
    · have hb : (b.natAbs : Int) = b := by omega
      rw [ha, hb, decide_eq_false h, decide_eq_false k]
      simp

set_option maxHeartbeats 1000000 in
set_option maxRecDepth 100000 in
theorem times_i (a b : Int) (w : World) (hW : Wd w) (ha : Fit a.natAbs) (hb : Fit b.natAbs) (hr : Fit (a.natAbs * b.natAbs)) : Calls Tryz.prog 162 #[IV a, IV b] w fun e w' => e = .returned (IV (a * b)) ∧ Ext w w' := by
  have hs := sign_mul a b
  generalize a * b = y at hs ⊢
  go_enter Tryz.func162, Tryz.ntmps162
  go_wp2_with fail
  obtain ⟨X1, X2, X3, E0⟩ := boxes3 w #[.bool (decide (a < 0)), dtx a.natAbs] #[.bool (decide (b < 0)), dtx b.natAbs] #[.bool false, .string ⟨#[]⟩] 166
  refine (Mul_n _ _ _ (hW.ext E0) ha hb hr).mono ?_
  rintro e w1 ⟨rfl, hE1⟩
  have E1 := E0.tr hE1
  have Y1 := X1.ext hE1
  have Y2 := X2.ext hE1
  have Y3 := X3.ext hE1
  have c1 := Y1.c0
  have c2 := Y2.c0
  clear X1 X2 X3 hE1 E0
  go_wp2_with fail
  refine (with_any _ _ _).mono ?_
  rintro e w9 ⟨rfl, hE9⟩
  rw [hs]
  have E9 := E1.tr hE9
  have Y9 := Y3.ext hE9
  have f0 := Y9.f 0
  have f1 := Y9.f 1
  have g0 := Y9.c0
  have g1 := Y9.c1
  go_wp2_with fail
  obtain ⟨d0, d1⟩ := set2 Y9 (.bool (decide (y < 0))) (dtx y.natAbs)
  refine bodyPost_ret (v := IV y) ?_ rfl ⟨rfl, ext_set2 (b := w.heap.size + 1 + 1) E9 (by omega) _ _⟩
  simp [results, Tryz.f162, go_sem, d0, d1]

/-- Signs that agree: the sum of the sizes. -/
theorem sign_sum (a b : Int) (h : decide (a < 0) = decide (b < 0)) : (if decide (a < 0) = true then -((a.natAbs + b.natAbs : Nat) : Int) else ((a.natAbs + b.natAbs : Nat) : Int)) = a + b := by
  by_cases h1 : a < 0
  · rw [decide_eq_true h1] at h; have := of_decide_eq_true h.symm
    simp [h1]; omega
  · rw [decide_eq_false h1] at h; have := of_decide_eq_false h.symm
    simp [h1]; omega
set_option maxHeartbeats 1000000 in
set_option maxRecDepth 100000 in
theorem sum_i (a b : Int) (w : World) (hW : Wd w) (ha : Fit a.natAbs) (hb : Fit b.natAbs) (hr : Fit (a.natAbs + b.natAbs)) (hsg : decide (a < 0) = decide (b < 0)) : Calls Tryz.prog 189 #[IV a, IV b] w fun e w' => e = .returned (IV (a + b)) ∧ Ext w w' := by
  have hs := sign_sum a b hsg
  clear hsg
  generalize a + b = y at hs ⊢
  go_enter Tryz.func189, Tryz.ntmps189
  go_wp2_with fail
  obtain ⟨X1, X2, X3, E0⟩ := boxes3 w #[.bool (decide (a < 0)), dtx a.natAbs] #[.bool (decide (b < 0)), dtx b.natAbs] #[.bool false, .string ⟨#[]⟩] 166
  refine (Add_n _ _ _ (hW.ext E0) ha hb hr).mono ?_
  rintro e w1 ⟨rfl, hE1⟩
  have E1 := E0.tr hE1
  have Y1 := X1.ext hE1
  have Y3 := X3.ext hE1
  have c1 := Y1.c0
  clear X1 X2 X3 hE1 E0
  go_wp2_with fail
  refine (with_any _ _ _).mono ?_
  rintro e w9 ⟨rfl, hE9⟩
  rw [hs]
  have E9 := E1.tr hE9
  have Y9 := Y3.ext hE9
  have f0 := Y9.f 0
  have f1 := Y9.f 1
  have g0 := Y9.c0
  have g1 := Y9.c1
  go_wp2_with fail
  obtain ⟨d0, d1⟩ := set2 Y9 (.bool (decide (y < 0))) (dtx y.natAbs)
  refine bodyPost_ret (v := IV y) ?_ rfl ⟨rfl, ext_set2 (b := w.heap.size + 1 + 1) E9 (by omega) _ _⟩
  simp [results, Tryz.f189, go_sem, d0, d1]

/-- Signs that differ: the greater size less the other, with its sign. -/
theorem sign_dif (a b : Int) (h : decide (a < 0) ≠ decide (b < 0)) (hle : b.natAbs ≤ a.natAbs) : (if decide (a < 0) = true then -((a.natAbs - b.natAbs : Nat) : Int) else ((a.natAbs - b.natAbs : Nat) : Int)) = a + b := by
  by_cases h1 : a < 0
  · rw [decide_eq_true h1] at h
    have : ¬ b < 0 := fun k => h (decide_eq_true k).symm
    simp [h1]; omega
  · rw [decide_eq_false h1] at h
    have : b < 0 := by
      rcases (by omega : b < 0 ∨ 0 ≤ b) with k | k
      · exact k
      · exact absurd (decide_eq_false (by omega)).symm h
    simp [h1]; omega
set_option maxHeartbeats 1000000 in
set_option maxRecDepth 100000 in
theorem dif_ge (a b : Int) (w : World) (hW : Wd w) (ha : Fit a.natAbs) (hb : Fit b.natAbs) (hsg : decide (a < 0) ≠ decide (b < 0)) (hle : b.natAbs ≤ a.natAbs) : Calls Tryz.prog 190 #[IV a, IV b] w fun e w' => e = .returned (IV (a + b)) ∧ Ext w w' := by
  have hs := sign_dif a b hsg hle
  have hc := cmpZ_geb hle
  clear hsg
  generalize a + b = y at hs ⊢
  go_enter Tryz.func190, Tryz.ntmps190
  go_wp2_with fail
  obtain ⟨X1, X2, X3, E0⟩ := boxes3 w #[.bool (decide (a < 0)), dtx a.natAbs] #[.bool (decide (b < 0)), dtx b.natAbs] #[.bool false, .string ⟨#[]⟩] 166
  refine (Compare_n _ _ _ ha hb).mono ?_
  rintro e w1 ⟨rfl, hE1⟩
  have E1 := E0.tr hE1
  have Y1 := X1.ext hE1
  have Y2 := X2.ext hE1
  have Y3 := X3.ext hE1
  have c1 := Y1.c1
  have c2 := Y2.c1
  clear X1 X2 X3 hE1 E0
  go_wp2_with fail
  refine (Sub_n _ _ _ (hW.ext E1) ha hb hle).mono ?_
  rintro e w2 ⟨rfl, hE2⟩
  have E2 := E1.tr hE2
  have Z1 := Y1.ext hE2
  have Z3 := Y3.ext hE2
  have c3 := Z1.c0
  clear hE2
  go_wp2_with fail
  refine (with_any _ _ _).mono ?_
  rintro e w9 ⟨rfl, hE9⟩
  rw [hs]
  have E9 := E2.tr hE9
  have Y9 := Z3.ext hE9
  have f0 := Y9.f 0
  have f1 := Y9.f 1
  have g0 := Y9.c0
  have g1 := Y9.c1
  go_wp2_with fail
  obtain ⟨d0, d1⟩ := set2 Y9 (.bool (decide (y < 0))) (dtx y.natAbs)
  refine bodyPost_ret (v := IV y) ?_ rfl ⟨rfl, ext_set2 (b := w.heap.size + 1 + 1) E9 (by omega) _ _⟩
  simp [results, Tryz.f190, go_sem, d0, d1]

set_option maxHeartbeats 1000000 in
set_option maxRecDepth 100000 in
theorem dif_lt (a b : Int) (w : World) (hW : Wd w) (ha : Fit a.natAbs) (hb : Fit b.natAbs) (hsg : decide (a < 0) ≠ decide (b < 0)) (hlt : a.natAbs < b.natAbs) : Calls Tryz.prog 190 #[IV a, IV b] w fun e w' => e = .returned (IV (a + b)) ∧ Ext w w' := by
  have hs := sign_dif b a hsg.symm (by omega)
  rw [Int.add_comm] at hs
  have hc := cmpZ_ltb hlt
  clear hsg
  generalize a + b = y at hs ⊢
  go_enter Tryz.func190, Tryz.ntmps190
  go_wp2_with fail
  obtain ⟨X1, X2, X3, E0⟩ := boxes3 w #[.bool (decide (a < 0)), dtx a.natAbs] #[.bool (decide (b < 0)), dtx b.natAbs] #[.bool false, .string ⟨#[]⟩] 166
  refine (Compare_n _ _ _ ha hb).mono ?_
  rintro e w1 ⟨rfl, hE1⟩
  have E1 := E0.tr hE1
  have Y1 := X1.ext hE1
  have Y2 := X2.ext hE1
  have Y3 := X3.ext hE1
  have c1 := Y1.c1
  have c2 := Y2.c1
  have c3 := Y1.c0
  have c4 := Y2.c0
  have p1 := Y1.f 0
  have p2 := Y1.f 1
  have p3 := Y2.f 0
  have p4 := Y2.f 1
  clear X1 X2 X3 hE1 E0
  go_wp2_with fail
  have Z3 := (((Y3.set (p := ⟨w.heap.size, 0, none⟩) (by simp; omega) (.bool (decide (b < 0)))).set (p := ⟨w.heap.size, 1, none⟩) (by simp; omega) (dtx b.natAbs)).set (p := ⟨w.heap.size + 1, 0, none⟩) (by simp) (.bool (decide (a < 0)))).set (p := ⟨w.heap.size + 1, 1, none⟩) (by simp) (dtx a.natAbs)
  have E2 := ext_set2 (b := w.heap.size + 1) (ext_set2 (b := w.heap.size) E1 (Nat.le_refl _) (.bool (decide (b < 0))) (dtx b.natAbs)) (by omega) (.bool (decide (a < 0))) (dtx a.natAbs)
  have k0 := (set2 Y1 (.bool (decide (b < 0))) (dtx b.natAbs)).1
  have k1 : (((((w1.setCell ⟨w.heap.size, 0, none⟩ (.bool (decide (b < 0)))).setCell ⟨w.heap.size, 1, none⟩ (dtx b.natAbs)).setCell ⟨w.heap.size + 1, 0, none⟩ (.bool (decide (a < 0)))).setCell ⟨w.heap.size + 1, 1, none⟩ (dtx a.natAbs))).cell? ⟨w.heap.size, 0, none⟩ = some (.bool (decide (b < 0))) := by
    rw [World.cell?_setCell_other _ _ _ _ (by simp), World.cell?_setCell_other _ _ _ _ (by simp)]; exact k0
  clear c1 c2 c3 c4 p1 p2 p3 p4 Y1 Y2 Y3 E1 k0
  generalize (((((w1.setCell ⟨w.heap.size, 0, none⟩ (.bool (decide (b < 0)))).setCell ⟨w.heap.size, 1, none⟩ (dtx b.natAbs)).setCell ⟨w.heap.size + 1, 0, none⟩ (.bool (decide (a < 0)))).setCell ⟨w.heap.size + 1, 1, none⟩ (dtx a.natAbs))) = w2 at *
  refine (Sub_n _ _ _ (hW.ext E2) hb ha (Nat.le_of_lt hlt)).mono ?_
  rintro e w3 ⟨rfl, hE3⟩
  have E3 := E2.tr hE3
  have Q3 := Z3.ext hE3
  have k2 := hE3.cell k1
  clear hE3 k1
  go_wp2_with fail
  refine (with_any _ _ _).mono ?_
  rintro e w9 ⟨rfl, hE9⟩
  rw [hs]
  have E9 := E3.tr hE9
  have Y9 := Q3.ext hE9
  have f0 := Y9.f 0
  have f1 := Y9.f 1
  have g0 := Y9.c0
  have g1 := Y9.c1
  go_wp2_with fail
  obtain ⟨d0, d1⟩ := set2 Y9 (.bool (decide (y < 0))) (dtx y.natAbs)
  refine bodyPost_ret (v := IV y) ?_ rfl ⟨rfl, ext_set2 (b := w.heap.size + 1 + 1) E9 (by omega) _ _⟩
  simp [results, Tryz.f190, go_sem, d0, d1]

theorem dif_i (a b : Int) (w : World) (hW : Wd w) (ha : Fit a.natAbs) (hb : Fit b.natAbs) (hsg : decide (a < 0) ≠ decide (b < 0)) : Calls Tryz.prog 190 #[IV a, IV b] w fun e w' => e = .returned (IV (a + b)) ∧ Ext w w' := by
  rcases Nat.lt_or_ge a.natAbs b.natAbs with h | h
  · exact dif_lt a b w hW ha hb hsg h
  · exact dif_ge a b w hW ha hb hsg h
end Go.Proofs.YtbldlibijojbjaaGreatDoor.GB
