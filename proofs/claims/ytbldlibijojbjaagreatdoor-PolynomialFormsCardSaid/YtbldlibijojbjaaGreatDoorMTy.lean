import Derived.Test.YtbldlibijojbjaaGreatDoorMFu
import Derived.Test.YtbldlibijojbjaaGreatDoorMNx
import Derived.Test.YtbldlibijojbjaaGreatDoorMBd
import Derived.Lib.Strings
namespace Go.Proofs.YtbldlibijojbjaaGreatDoor.GB
set_option linter.unusedVariables false
set_option linter.unusedSimpArgs false
open Go.RowKit Go.Shelf
attribute [local go_sem] Oper.semAt_some

theorem builder_kept {T e : TypeId} {B b : Nat} {bs : List Value} {W W' : World} {row : Option Nat} (h : Lib.IsBuilder T e B b bs W) (hg : W.grownBy W' row) (hrow : ∀ r, row = some r → ∃ o : Obj, W.heap[r]? = some o ∧ o.isCells = false) : Lib.IsBuilder T e B b bs W' := by
  have key : ∀ p, Lib.BuilderAt T e B b p bs W → Lib.BuilderAt T e B b p bs W' := by
    rintro p ⟨h1, v, h2, h3, h4⟩
    refine ⟨h1, v, (grownBy_keeps_cells hg hrow h2 rfl).trans h2, h3.kept hg ?_, h4⟩
    rcases h3.2 with ⟨hv, _⟩ | ⟨g, cap, cur, hv, hgb, hh, _⟩
    · left; rw [hv]; rfl
    · right; rw [hv]; intro e
      obtain ⟨o, ho, hc⟩ := hrow g e.symm
      rw [hh] at ho; cases ho; simp [Obj.isCells] at hc
  exact h.imp (key _) (key _)
theorem ext_grown {W W' : World} (hb : Ext W W') : W.grownBy W' none := ⟨hb.os, hb.tape, hb.output, hb.size, fun i hi _ => hb.block i hi⟩
theorem builder_ext {T e : TypeId} {B b : Nat} {bs : List Value} {W W' : World} (h : Lib.IsBuilder T e B b bs W) (hb : Ext W W') : Lib.IsBuilder T e B b bs W' := builder_kept h (ext_grown hb) (fun r e => by cases e)
theorem builder_cells {T e : TypeId} {B b : Nat} {bs : List Value} {W : World} (h : Lib.IsBuilder T e B b bs W) : ∃ cs, W.heap[b]? = some (.cells cs T (0, 0)) := by
  rcases h with ⟨_, v, h, _⟩ | ⟨_, v, h, _⟩ <;> exact ⟨_, h⟩
/-- What the builder at b leaves as it was. -/
def BK (b : Nat) (W W' : World) : Prop := Below b W W' ∧ Lib.OthersKept 5 (some b) W W'
theorem BK.refl (b : Nat) (W : World) : BK b W W := ⟨Below.refl _ _, Lib.OthersKept.refl _ _ _⟩
theorem BK.tr {b : Nat} {A B C : World} (h : BK b A B) (k : BK b B C) : BK b A C := ⟨h.1.trans k.1, h.2.trans k.2⟩
theorem BK.ext {b : Nat} {W W' : World} (h : Ext W W') (hb : b ≤ W.heap.size) : BK b W W' := ⟨h.mono hb, (Lib.OthersKept.refl _ _ _).below h⟩
theorem BK.far {b k : Nat} {W W' : World} (h : BK b W W') {cs : Array Value} {T : TypeId} {fz : Nat × Nat} (hk : W.heap[k]? = some (.cells cs T fz)) (hb : k ≠ b) (hT : T ≠ 5) : W'.heap[k]? = some (.cells cs T fz) :=
  h.2 k _ hk (fun e => hb (Option.some.inj e)) (fun c fz e => hT (by cases e; rfl))
theorem str_cells (l : List UInt8) (t : List UInt8) : Lib.byteCells l ++ Lib.strCells ⟨t.toArray⟩ = Lib.byteCells (l ++ t) := by
  simp [Lib.byteCells, Lib.strCells]
theorem size_mk (t : List UInt8) : (⟨t.toArray⟩ : ByteArray).size = t.length := by simp [ByteArray.size]
/-- Writing a text into the builder. -/
theorem write_h (b : Nat) (l t : List UInt8) (w : World) (h : Hid (Lib.IsBuilder 229 5 b b (Lib.byteCells l) w)) (hlen : Hid (l.length + t.length ≤ 140737488355328)) :
    Calls Tryz.prog 224 #[.pointer (some ⟨b, 0, none⟩), .string ⟨t.toArray⟩] w fun e w' => e = .returned (.tuple #[.int .i64 t.length, .nilIface]) ∧ (Lib.IsBuilder 229 5 b b (Lib.byteCells (l ++ t)) w' ∧ BK b w w') := by
  obtain ⟨cs, hc⟩ := builder_cells h.out
  have hb : b ≤ w.heap.size := Nat.le_of_lt (Array.getElem?_eq_some_iff.1 hc).1
  refine (writeString_any b b _ ⟨t.toArray⟩ w h.out (by rw [Lib.byteCells_length, size_mk]; exact hlen.out) hb).mono ?_
  rintro e w' ⟨rfl, h1, h2, h3⟩
  rw [str_cells] at h1
  exact ⟨by rw [size_mk], .inr h1, h2, h3⟩
theorem repeat0 (k : Nat) : Lib.repeatL [48] k = List.replicate k 48 := by
  induction k with
  | zero => rfl
  | succ k ih => rw [Lib.repeatL, ih, List.replicate_succ]; rfl
theorem pads_h (k : Nat) (w : World) (hk : k ≤ 9) : Calls Tryz.prog 225 #[.string ⟨#[48]⟩, .int .i64 k] w (RetS w (List.replicate k 48)) := by
  refine (Tryz.strings_Repeat ⟨#[48]⟩ k w (by omega) (by simp [ByteArray.size]; omega)).mono ?_
  rintro e w' ⟨rfl, hE⟩
  exact ⟨by rw [← repeat0], hE⟩
set_option maxHeartbeats 2000000 in
set_option maxRecDepth 100000 in
theorem text_zero (v : Value) (w : World) (h : NumV w v 0) :
    Calls Tryz.prog 199 #[v] w (RetS w (Lib.decDigits 0)) := by
  obtain ⟨A, c, rfl, h1, h2, h3⟩ := h
  have e : (wds 0).length = 0 := by rw [wds_zero]; rfl
  rw [e]
  go_enter Tryz.func199, Tryz.ntmps199
  go_wp2
  go_ret
  exact ⟨by rw [Lib.decDigits]; rfl, (Ext.rfl' w).al _⟩

theorem round_end {s0 : Nat} {w W W4 : World} {cs cA : Array Value} {T : TypeId} {bs : List Value} (K : BK (s0 + 1) W W4) (hcs : W.heap[s0 + 1]? = some (.cells cs T (0, 0))) (hx1 : W.heap[s0]? = some (.cells cA 185 (0, 0))) (hx2 : W.heap[s0 + 1 + 1]? = some (.cells cA 185 (0, 0)))
    (hb : Below s0 w W) (hB : Lib.IsBuilder 229 5 (s0 + 1) (s0 + 1) bs W4) :
    KeepsOthers W W4 ∧ Kps s0 (s0 + 1 + 1) W W4 ∧ (Lib.IsBuilder 229 5 (s0 + 1) (s0 + 1) bs W4 ∧ W4.heap[s0]? = some (.cells cA 185 (0, 0)) ∧ W4.heap[s0 + 1 + 1]? = some (.cells cA 185 (0, 0))) ∧ Below s0 w W4 := by
  have hB4 : Below s0 W W4 := K.1.mono (by omega)
  have h2 := K.far hx2 (by omega) (by decide)
  refine ⟨others_keeps K.2 hB4.size hcs, ⟨hB4, fun v e => ?_⟩, ⟨hB, (K.1.block s0 (by omega)).trans hx1, h2⟩, hb.trans hB4⟩
  rw [Lib.cell_of_heap h2]; rw [Lib.cell_of_heap hx2] at e; exact e

set_option maxHeartbeats 4000000 in
set_option maxRecDepth 100000 in
theorem text_some (v : Value) (n : Nat) (w : World) (h : NumV w v n) (hW : Wd w) (h0 : n ≠ 0) (hl : (wds n).length ≤ 549755813888) :
    Calls Tryz.prog 199 #[v] w (RetS w (Lib.decDigits n)) := by
  obtain ⟨A, c, rfl, h1, h2, h3⟩ := h
  refine (callsIn_wide (n := 5)).1 ?_
  have hp := wds_len_pos h0
  obtain ⟨len, hlen⟩ : ∃ len, len = (wds n).length := ⟨_, rfl⟩
  rw [← hlen] at hl hp h1 ⊢
  have HL := Lib.hid hlen
  have HR := Lib.hid h3
  clear hlen h3
  have hpb : (((len : Nat) : Int) == 0) = false := by rw [beq_eq_false_iff_ne]; omega
  refine callsIn_of_wp_marks Tryz.func199 rfl trivial ?_ rfl
  simp only [Tryz.ntmps199, List.size_toArray, List.length_cons, List.length_nil, Nat.reduceAdd, Nat.reduceSub, Array.replicate_succ, Array.replicate_zero, List.push_toArray, List.append_toArray, List.nil_append, List.cons_append]
  gi_wp2_with (refine ⟨trivial, ?_⟩; gi_at_call 222; refine (backward_in Fence.wide (5 - 1) trivial rfl _ _ _ _).mono ?_; rintro e w' ⟨rfl, rfl⟩)
  have hE1 : Below w.heap.size w (w.alloc (.cells #[.slice A len c] 185)) := (Below.refl _ w).alloc (Nat.le_refl _) _
  have hE2 : Below w.heap.size w ((w.alloc (.cells #[.slice A len c] 185)).alloc (.cells #[.pointer none, .slice none 0 0] 229)) := hE1.alloc (by simp) _
  have hE3 : Below w.heap.size w (((w.alloc (.cells #[.slice A len c] 185)).alloc (.cells #[.pointer none, .slice none 0 0] 229)).alloc (.cells #[.slice A len c] 185)) := hE2.alloc (by simp; omega) _
  have bN := Boxed.new ((w.alloc (.cells #[.slice A len c] 185)).alloc (.cells #[.pointer none, .slice none 0 0] 229)) 185 (.slice A len c)
  have bM := ((Boxed.new w 185 (.slice A len c)).alloc (.cells #[.pointer none, .slice none 0 0] 229)).alloc (.cells #[.slice A len c] 185)
  have bB := Lib.fresh_isBuilder 229 5 (w.alloc (.cells #[.slice A len c] 185))
  rw [World.size_alloc] at bN bB
  rw [World.size_alloc] at bN
  have bB2 := builder_kept bB (World.grownBy_alloc _ (.cells #[.slice A len c] 185) none) (fun r e => by cases e)
  have hx1 : (((w.alloc (.cells #[.slice A len c] 185)).alloc (.cells #[.pointer none, .slice none 0 0] 229)).alloc (.cells #[.slice A len c] 185)).heap[w.heap.size]? = some (.cells #[.slice A len c] 185 (0, 0)) :=
    (Below.heap_alloc _ _ _ (by simp; omega)).trans ((Below.heap_alloc _ _ _ (by simp)).trans (World.alloc_heap_new w _))
  have hx2 : (((w.alloc (.cells #[.slice A len c] 185)).alloc (.cells #[.pointer none, .slice none 0 0] 229)).alloc (.cells #[.slice A len c] 185)).heap[w.heap.size + 1 + 1]? = some (.cells #[.slice A len c] 185 (0, 0)) := by
    have := World.alloc_heap_new ((w.alloc (.cells #[.slice A len c] 185)).alloc (.cells #[.pointer none, .slice none 0 0] 229)) (.cells #[.slice A len c] 185)
    rwa [World.size_alloc, World.size_alloc] at this
  generalize hW3 : (((w.alloc (.cells #[.slice A len c] 185)).alloc (.cells #[.pointer none, .slice none 0 0] 229)).alloc (.cells #[.slice A len c] 185)) = w3 at *
  have hs3 : w3.heap.size = w.heap.size + 3 := by rw [← hW3]; simp
  have hst := back_stops Fence.wide (5 - 1) trivial rfl (by omega) (w.heap.size + 1 + 1) w.heap.size A c (wds n) (wd_wds_lt n) (by rw [← HL.out]; exact hl) w w3 rfl hE3 (by omega) HR.out (by rw [← HL.out]; exact bN.cell)
  refine wpIn_rangeFunc_ownF (F := Fence.wide) rfl (by omega) (gf := 239) (lb := #[.pointer (some ⟨w.heap.size + 1 + 1, 0, none⟩)]) rfl trivial (enters_of Tryz.func239 (by kernel_rfl) rfl)
    hst Kps.t (Kps.b (by omega)) (Below.refl _ _) (fun _ => rfl)
    (fun pre W => (Lib.IsBuilder 229 5 (w.heap.size + 1) (w.heap.size + 1) (Lib.byteCells (textOf len pre)) W ∧ W.heap[w.heap.size]? = some (.cells #[.slice A len c] 185 (0, 0)) ∧ W.heap[w.heap.size + 1 + 1]? = some (.cells #[.slice A len c] 185 (0, 0))) ∧ Below w.heap.size w W)
    (fun _ _ _ => False)
    (OwnFrom.and (Own.from (fun s X Y row hs hg hr => ⟨builder_kept hs.1 hg hr, (grownBy_keeps_cells hg hr hs.2.1 rfl).trans hs.2.1, (grownBy_keeps_cells hg hr hs.2.2 rfl).trans hs.2.2⟩) _) (ownFrom_below (Nat.le_refl _) (by omega)))
    (fun _ _ _ _ _ hs _ _ => hs)
    ⟨⟨bB2, hx1, hx2⟩, hE3⟩
    (fun x => { tmps := #[.slice A len c, .pointer (some ⟨w.heap.size, 0, none⟩), .string ⟨#[]⟩, .pointer (some ⟨w.heap.size + 1, 0, none⟩), .int .i64 (x.1.1 : Int), .int .u32 (x.1.2 : Int), undef, .slice A len c, .int .i64 len, .bool false, .slice A len c, .func (.func 239) #[] #[.pointer (some ⟨w.heap.size + 1 + 1, 0, none⟩)], .int .i64 (x.1.1 : Int), .int .u32 (x.1.2 : Int), undef, undef, undef, undef, undef, undef, undef, undef, undef, undef, undef, undef, undef, undef, undef, undef], defers := [] }) ?assign ?body ?done ?stop
  case assign =>
    intro l x W K hK
    gi_wp2
    exact hK
  case body =>
    rintro l pre ⟨⟨i, u⟩, hi1, hi2⟩ W ⟨⟨hB, hx1, hx2⟩, hb⟩ hpl
    dsimp only at hi1 hi2 ⊢
    have hWw : Wd W := hW.ext hb
    have HB := Lib.hid hB
    have hbk := builder_cells hB
    have hsz : w.heap.size + 1 ≤ W.heap.size := by obtain ⟨cs, h⟩ := hbk; exact Nat.le_of_lt (Array.getElem?_eq_some_iff.1 h).1
    have hcell : W.cell? ⟨w.heap.size, 0, none⟩ = some (.slice A len c) := by rw [Lib.cell_of_heap hx1]; rfl
    have hwr : IntKind.u64.wrap (u : Int) = (u : Int) := by rw [IntKind.wrap_u64]; omega
    have hdl : (Lib.decDigits u).length ≤ 9 := dec_len9 (by rw [BB_eq]; exact hi2)
    have hds : (⟨(Lib.decDigits u).toArray⟩ : ByteArray).size = (Lib.decDigits u).length := size_mk _
    have htl := textOf_len len pre
    have hlen9 : Hid ((textOf len pre).length + 100 ≤ 140737488355328) := by unfold Hid; rw [← HL.out] at hpl; omega
    by_cases hil : i + 1 < len
    · have hpc : Hid (piece len ⟨(i, u), hi1, hi2⟩ = List.replicate (9 - (Lib.decDigits u).length) 48 ++ Lib.decDigits u) := by unfold Hid piece; rw [if_pos hil]; rfl
      have hib : decide ((i : Int) < (len : Int) - 1) = true := decide_eq_true (by omega)
      have hpd : (9 : Int) - ((Lib.decDigits u).length : Int) = ((9 - (Lib.decDigits u).length : Nat) : Int) := by omega
      obtain ⟨pd, hpdn⟩ : ∃ pd, pd = 9 - (Lib.decDigits u).length := ⟨_, rfl⟩
      rw [← hpdn] at hpd hpc
      have hpd9 : pd ≤ 9 := by omega
      have HP := Lib.hid hpdn
      clear hpdn
      gi_wp2
      refine ⟨trivial, ?_⟩
      refine (CallsIn.inRound l (callsIn_wide.2 (formatUint_any u (by omega) W hWw))).mono ?_
      rintro e W1 ⟨rfl, hE1⟩
      have B1 := Lib.hid (builder_ext HB.out hE1)
      have K1 := Lib.hid (BK.ext hE1 hsz)
      have hcell1 := hE1.cell hcell
      clear hE1 hcell
      gi_wp2
      refine ⟨trivial, ?_⟩
      refine (CallsIn.inRound l (callsIn_wide.2 (pads_h pd W1 hpd9))).mono ?_
      rintro e W2 ⟨rfl, hE2⟩
      have B2 := Lib.hid (builder_ext B1.out hE2)
      have K2 := Lib.hid (K1.out.tr (BK.ext hE2 (by have := K1.out.1.size; omega)))
      clear hE2
      gi_wp2
      refine ⟨trivial, ?_⟩
      refine (CallsIn.inRound l (callsIn_wide.2 (write_h _ _ _ W2 B2 (by have := hlen9.out; unfold Hid; rw [List.length_replicate]; omega)))).mono ?_
      rintro e W3 ⟨rfl, hB3, hK3⟩
      have B3 := Lib.hid hB3
      have K3 := Lib.hid (K2.out.tr hK3)
      clear hB3 hK3
      gi_wp2
      refine ⟨trivial, ?_⟩
      refine (CallsIn.inRound l (callsIn_wide.2 (write_h _ _ _ W3 B3 (by have := hlen9.out; unfold Hid; rw [List.length_append, List.length_replicate]; omega)))).mono ?_
      rintro e W4 ⟨rfl, hB4, hK4⟩
      have B4 := Lib.hid hB4
      have K4 := Lib.hid (K3.out.tr hK4)
      clear hB4 hK4
      gi_wp2
      rw [List.append_assoc] at B4
      obtain ⟨cs, hcs⟩ := hbk
      exact round_end K4.out hcs hx1 hx2 hb (by rw [textOf_snoc, hpc.out]; exact B4.out)
    · have hpc : Hid (piece len ⟨(i, u), hi1, hi2⟩ = Lib.decDigits u) := by unfold Hid piece; rw [if_neg hil]
      have hib : decide ((i : Int) < (len : Int) - 1) = false := decide_eq_false (by omega)
      gi_wp2
      refine ⟨trivial, ?_⟩
      refine (CallsIn.inRound l (callsIn_wide.2 (formatUint_any u (by omega) W hWw))).mono ?_
      rintro e W1 ⟨rfl, hE1⟩
      have B1 := Lib.hid (builder_ext HB.out hE1)
      have K1 := Lib.hid (BK.ext hE1 hsz)
      have hcell1 := hE1.cell hcell
      clear hE1 hcell
      gi_wp2
      refine ⟨trivial, ?_⟩
      refine (CallsIn.inRound l (callsIn_wide.2 (write_h _ _ _ W1 B1 (by have := hlen9.out; unfold Hid; omega)))).mono ?_
      rintro e W4 ⟨rfl, hB4, hK4⟩
      have B4 := Lib.hid hB4
      have K4 := Lib.hid (K1.out.tr hK4)
      clear hB4 hK4
      gi_wp2
      obtain ⟨cs, hcs⟩ := hbk
      exact round_end K4.out hcs hx1 hx2 hb (by rw [textOf_snoc, hpc.out]; exact B4.out)
  case done =>
    rintro D ys W hD rfl ⟨⟨hB, hx1, hx2⟩, hb⟩ hK
    obtain ⟨cs, hcs⟩ := builder_cells hB
    have hsz : w.heap.size + 1 ≤ W.heap.size := Nat.le_of_lt (Array.getElem?_eq_some_iff.1 hcs).1
    have hs := Tryz.Builder_String_any_k (w.heap.size + 1) (w.heap.size + 1) _ W (Lib.IsBuilderF.of hB) hsz
    gi_wp2
    refine ⟨trivial, ?_⟩
    refine (callsIn_wide.2 hs).mono ?_
    rintro e W2 ⟨rfl, hF, hB2, hO⟩
    gi_wp2
    have hK2 : W2.heap[D]? = some (.deferred (some [])) := hO D _ hK (fun e => by cases e; rw [hcs] at hK; cases hK) (fun c fz e => by cases e)
    refine ⟨by simp, .inl ⟨_, _, rfl, run_takeDeferred hK2, ?_⟩⟩
    refine ⟨_, results_tmp rfl _ _ _, ?_, ?_⟩
    · rw [HL.out, downs_all n (by rw [← HL.out]; exact hl) h0]; rfl
    · exact (hb.trans (hB2.mono (by omega))).trans (belowK_b (w := w) (Nat.le_refl _) W2 D _ _ (by omega) hK2 rfl rfl)
  case stop =>
    rintro D c pre W _ _ h _
    exact h.elim
theorem text_any (v : Value) (n : Nat) (w : World) (h : NumV w v n) (hW : Wd w) (hl : (wds n).length ≤ 549755813888) :
    Calls Tryz.prog 199 #[v] w (RetS w (Lib.decDigits n)) := by
  by_cases h0 : n = 0
  · subst h0; exact text_zero v w h
  · exact text_some v n w h hW h0 hl
end Go.Proofs.YtbldlibijojbjaaGreatDoor.GB

namespace Go.Proofs.YtbldlibijojbjaaGreatDoor.GB
set_option linter.unusedVariables false
set_option linter.unusedSimpArgs false
open Go.RowKit Lib

theorem foldl_mono (l : List UInt8) : ∀ a, a ≤ l.foldl pstep a := by
  induction l with
  | nil => intro a; exact Nat.le_refl _
  | cons c l ih => intro a; exact Nat.le_trans (by unfold pstep; omega) (ih _)
theorem parse_digits (M : Nat) (hM : M < 18446744073709551616) (l : List UInt8) : ∀ acc, (∀ c ∈ l, isDig c) → l.foldl pstep acc ≤ M → Lib.parseUintM M acc l = .ok (l.foldl pstep acc) := by
  induction l with
  | nil => intro acc _ _; rfl
  | cons c l ih =>
    intro acc hd hb
    have hc := hd c (by simp)
    have h1 : acc * 10 + (c.toNat - 48) ≤ M := Nat.le_trans (foldl_mono l _) hb
    unfold Lib.parseUintM
    rw [if_pos (show 48 ≤ c.toNat ∧ c.toNat ≤ 57 from hc), if_neg (by omega), if_neg (by omega)]
    exact ih _ (fun x hx => hd x (by simp [hx])) hb

theorem extract_list (s : ByteArray) (a b : Nat) : (s.extract a b).data.toList = (s.data.toList.take b).drop a := by
  rw [ByteArray.data_extract, Array.toList_extract, List.extract_eq_take_drop, List.drop_take]

/-- strconv.ParseUint(s, 10, 32) of at most nine digits. -/
theorem parse9 (s : ByteArray) (h1 : s.data.toList ≠ []) (hs : s.size ≤ 9) (hd : ∀ c ∈ s.data.toList, isDig c) (w : World) :
    Calls Tryz.prog 220 #[.string s, .int .i64 10, .int .i64 32] w fun e w' => e = .returned (.tuple #[.int .u64 (pval s.data.toList), .nilIface]) ∧ Ext w w' := by
  have hlen : s.data.toList.length ≤ 9 := by rw [bytes_len]; exact hs
  have hv : pval s.data.toList < 1000000000 := Nat.lt_of_lt_of_le (pval_lt _ hd) (Nat.le_trans (Nat.pow_le_pow_right (by omega) hlen) (by decide))
  have hp : Lib.parseUintB 32 s.data.toList = .ok (pval s.data.toList) := by
    unfold Lib.parseUintB
    rw [if_neg h1]
    exact parse_digits _ (by decide) _ _ hd (by have : pval s.data.toList ≤ 2 ^ 32 - 1 := by omega
                                                exact this)
  refine (Tryz.strconv_ParseUint_10_at32_ok s (by omega) _ hp w).mono ?_
  rintro e w' ⟨rfl, h | h⟩
  · exact ⟨rfl, h ▸ Ext.rfl' _⟩
  · exact ⟨rfl, h ▸ Lib.bytesWorld_below _ _ _⟩

theorem ten9 : (10 : Nat) ^ 9 = BB := rfl
theorem ten9_le {j : Nat} (h : j ≤ 9) : 10 ^ j ≤ BB := by rw [← ten9]; exact Nat.pow_le_pow_right (by omega) h
/-- What is read of the digits l when the first k of them are left. -/
def RInv (l : List UInt8) (k : Nat) (r : List Nat) : Prop := Ok r ∧ r.length + k ≤ l.length ∧ val r + BB ^ r.length * pval (l.take k) = pval l ∧ (9 ∣ (l.length - k) ∨ k = 0)
theorem RInv.start (l : List UInt8) : RInv l l.length [] := ⟨fun w hw => (by cases hw), (by simp), (by simp [val]), .inl (by simp)⟩
theorem chunk {v p b a c n : Nat} (h : v + p * (a * b + c) = n) : v + p * c + p * b * a = n := by
  rw [← h, Nat.mul_add, Nat.mul_assoc, Nat.mul_comm b]; omega
theorem RInv.val_step {l : List UInt8} {k j : Nat} {r : List Nat} (h3 : val r + BB ^ r.length * pval (l.take k) = pval l) (hk : k ≤ l.length) (hj : j ≤ k) (h9 : k - j = 9 ∨ j = 0) :
    val (r ++ [pval ((l.take k).drop j)]) + BB ^ (r ++ [pval ((l.take k).drop j)]).length * pval (l.take j) = pval l := by
  have hsplit : l.take k = l.take j ++ (l.take k).drop j := by
    conv => lhs; rw [← List.take_append_drop j (l.take k)]
    rw [List.take_take, Nat.min_eq_left hj]
  have hl2 : ((l.take k).drop j).length = k - j := by rw [List.length_drop, List.length_take, Nat.min_eq_left hk]
  rw [hsplit, pval_append, hl2] at h3
  rw [val_snoc, List.length_append, List.length_singleton, Nat.pow_succ]
  rcases h9 with h9 | h9
  · rw [h9, ten9] at h3
    exact chunk h3
  · subst h9
    rw [List.take_zero, List.drop_zero] at h3 ⊢
    have e : pval [] = 0 := rfl
    rw [e, Nat.zero_mul, Nat.zero_add] at h3
    rw [e, Nat.mul_zero, Nat.add_zero]
    exact h3
theorem RInv.step {l : List UInt8} {k : Nat} {r : List Nat} (h : RInv l k r) (hd : ∀ c ∈ l, isDig c) (hk : k ≤ l.length) (h0 : 0 < k) :
    RInv l (k - 9) (r ++ [pval ((l.take k).drop (k - 9))]) := by
  obtain ⟨h1, h2, h3, h4⟩ := h
  have hdd : ∀ c ∈ (l.take k).drop (k - 9), isDig c := fun c hc => hd c (List.mem_of_mem_take (List.mem_of_mem_drop hc))
  have hl2 : ((l.take k).drop (k - 9)).length = k - (k - 9) := by rw [List.length_drop, List.length_take, Nat.min_eq_left hk]
  have hp := pval_lt _ hdd
  rw [hl2] at hp
  have hp9 : pval ((l.take k).drop (k - 9)) < BB := Nat.lt_of_lt_of_le hp (ten9_le (by omega))
  refine ⟨?_, by rw [List.length_append, List.length_singleton]; omega, RInv.val_step h3 hk (by omega) (by omega), by omega⟩
  intro w hw
  rcases List.mem_append.1 hw with hw | hw
  · exact h1 w hw
  · rw [List.mem_singleton.1 hw]; exact hp9
theorem RInv.done {l : List UInt8} {r : List Nat} (h : RInv l 0 r) : Ok r ∧ val r = pval l := by
  obtain ⟨h1, h2, h3, h4⟩ := h
  refine ⟨h1, ?_⟩
  have : pval (l.take 0) = 0 := rfl
  rw [this] at h3
  omega

set_option maxHeartbeats 1000000 in
set_option maxRecDepth 100000 in
theorem read_any (s : ByteArray) (w : World) (n : Nat) (hn : s.data.toList = decDigits n) (hs : s.size ≤ 1099511627776) :
    Calls Tryz.prog 198 #[.string s] w (RetN w (fun r => r = wds n)) := by
  obtain ⟨i0, hi, hz0, hz1, hz2⟩ := info_parts Tryz.infoU32
  have HN := Lib.hid hn
  have hsz : s.size = s.data.toList.length := (bytes_len s).symm
  clear hn
  go_enter Tryz.func198, Tryz.ntmps198
  go_wp2
  go_loopw [0, 3] (fun x v wr => ∃ (sp : ByteArray) (k : Nat) (r : List Nat), sp.size = k ∧ k ≤ s.size ∧ r.length + k ≤ s.size ∧ x = .string sp ∧ Hid (sp.data.toList = s.data.toList.take k) ∧ Hid (OwnN wr w.heap.size v r) ∧ Hid (RInv s.data.toList k r) ∧ Hid (Ext w wr)) (fun x _ _ => match x with | .string sp => sp.size | _ => 0)
  case atStart => exact ⟨s, s.size, [], rfl, Nat.le_refl _, by simp, rfl, by unfold Hid; rw [hsz, List.take_length], ⟨by simp [u32s], .inl ⟨rfl, rfl⟩⟩, by unfold Hid; rw [hsz]; exact RInv.start _, Ext.rfl' w⟩
  case round =>
    obtain ⟨sp, k, r, rfl, hk1, hk2, rfl, HT, HO, HR, HE⟩ := hrel
    by_cases hk : 0 < sp.size
    · obtain ⟨m, hm⟩ : ∃ m, m = sp.size - 9 := ⟨_, rfl⟩
      have hmx : max ((sp.size : Int) - 9) 0 = (m : Int) := by omega
      have hme : m ≤ sp.size := by omega
      have hmt : ((m : Int)).toNat = m := by omega
      have hex : (sp.extract m sp.size).data.toList = (s.data.toList.take sp.size).drop m := by
        rw [extract_list, HT.out, List.take_take, Nat.min_self]
      have hdd : ∀ c ∈ (sp.extract m sp.size).data.toList, isDig c := fun c hc => by
        rw [hex] at hc
        have := List.mem_of_mem_take (List.mem_of_mem_drop hc)
        rw [HN.out] at this
        exact dec_dig n c this
      have hxl : (sp.extract m sp.size).data.toList.length = sp.size - m := by rw [hex]; simp; omega
      have hP := fun W => parse9 (sp.extract m sp.size) (by intro e; rw [e] at hxl; simp at hxl; omega) (by rw [← bytes_len, hxl]; omega) hdd W
      rw [hex] at hP
      obtain ⟨u, hu⟩ : ∃ u, u = pval ((s.data.toList.take sp.size).drop m) := ⟨_, rfl⟩
      rw [← hu] at hP
      have HR2 := HR.out.step (fun c hc => by rw [HN.out] at hc; exact dec_dig n c hc) (by omega) hk
      rw [← hm, ← hu] at HR2
      have hub : u < 1000000000 := HR2.1 u (by simp)
      have hwrap : IntKind.u32.wrap (u : Int) = (u : Int) := by rw [IntKind.wrap_u32]; omega
      have HR3 := Lib.hid HR2
      have HU := Lib.hid hu
      have HM := Lib.hid hm
      have hbig : (r.length + 1) * 4 ≤ 140737488355328 := by omega
      have hmax : r.length + 1 ≤ maxLen := by unfold maxLen; omega
      have hbase : w.heap.size ≤ wr.heap.size := HE.out.size
      clear hu hm HR2 hex hdd hxl
      go_wp2_with (go_at_call 220; refine (hP _).mono ?_)
      rintro e w1 ⟨rfl, hE1⟩
      have HE1 := Lib.hid (Ext.tr HE.out hE1)
      have HO1 := Lib.hid (HO.out.ext hE1)
      have hbase1 : w.heap.size ≤ w1.heap.size := HE1.out.size
      clear hE1
      go_wp2_with (at_builtin; (refine wpList_append_own _ rfl _ _ 185 rfl w.heap.size 124 i0 (.int .u32 0) 1 4 Tryz.underlying185 hi hz0 hz1 hz2 rfl (by decide) _ r.length (u32s r) rfl (World.ownsRow.alloc HO1.out _) ⟨w1.heap.size, 0, none⟩ 1 1 _ rfl rfl (cell_one_new _ _ _) (by simp [Value.oneCell']) hmax hbig (by simp; omega) ?_); intro v' w2 hown2 hgrow2 _)
      all_goals
        obtain ⟨p1, p2⟩ := own_push HO1.out HE1.out hown2 hgrow2 rfl
        go_roundw
        case rel => exact ⟨sp.extract 0 m, m, r ++ [u], by simp; omega, by omega, by simp; omega, rfl, by unfold Hid; rw [extract_list, HT.out, List.drop_zero, List.take_take, Nat.min_eq_left hme], p1, HR3, p2⟩
        case measure => simp; have := HM.out; omega
    · obtain ⟨hOk, hval⟩ := RInv.done (l := s.data.toList) (r := r) (by have := HR.out; rwa [show sp.size = 0 by omega] at this)
      rw [HN.out, pval_dec] at hval
      obtain ⟨A, c, rfl, hlc, hcm, hrd, hbk⟩ := HO.out.parts
      have hcm' : c ≤ 9223372036854775807 := by unfold maxLen at hcm; omega
      have HV := Lib.hid hval
      clear hval
      go_wp2_with (go_at_call 221; refine (trim_n A c r.length r wr rfl hlc hcm' hrd).mono ?_; rintro e w' ⟨rfl, rfl⟩)
      go_ret
      exact own_trim HO.out hOk HV.out HE.out
end Go.Proofs.YtbldlibijojbjaaGreatDoor.GB
