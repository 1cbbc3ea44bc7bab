import Derived.Test.YtbldlibijojbjaaGreatDoorMBd
import Derived.Test.YtbldlibijojbjaaGreatDoorMNum
import Derived.Test.YtbldlibijojbjaaGreatDoorCShelf
import Derived.Lib.ItoaMem
import Derived.BigCall
import Derived.BigGuard
import Derived.Test.YtbldlibijojbjaaGreatDoorMGc
import Derived.RangeFuncNested
import Derived.RangeFuncBound
import Derived.RangeFuncCalls
import Derived.RangeFuncLeaves
import Derived.RangeFuncFrom
import Derived.RangeFuncBox
import Derived.Shelf.Abstract
import Derived.Shelf.RegionOpen
import Derived.WalkKit
import Derived.OwnWalkIn
import Derived.TacticsInMore
import Derived.LoopNIn
import Derived.LoopIn
namespace Go.Proofs.YtbldlibijojbjaaGreatDoor.GB
set_option linter.unusedVariables false
set_option linter.unusedSimpArgs false
open Go.RowKit Go.Sort Go.Lib

theorem Ext.grow (w : World) (k : Nat) (os : Array Obj) : Ext w (grow (w.drewN k) os) :=
  ⟨rfl, rfl, rfl, by simp only [Go.Sort.grow, World.drewN]; rw [Array.size_append]; omega, fun b hb => by
    simp only [Go.Sort.grow, World.drewN]
    exact Array.getElem?_append_left hb⟩

def RetS (w : World) (l : List UInt8) (e : Ending) (w' : World) : Prop := e = .returned (.string ⟨l.toArray⟩) ∧ Ext w w'

theorem holds_zero0 (w : World) (T : TypeId) (nd : Nat) (hs : nd ≤ 24) : Holds (fun (b : UInt8) => Value.int .u8 (b.toNat : Int)) (w.alloc (.cells zeros24 T)) w.heap.size 0 (Array.replicate nd (0 : UInt8)) := fun j hj => by
  have hj' : j < nd := by simpa using hj
  refine ⟨?_, World.frozen?_alloc_new _ _ _ _⟩
  rw [World.cell?_alloc_new, zeros24_at _ (by omega), getElem!_pos _ j hj]
  simp

theorem small_arm (u : Int) (h0 : 0 ≤ u) (hs : u < 100) (w : World) :
    Calls Tryz.prog 182 #[.int .i64 u] w fun e w' => e = .returned (.string ⟨(Lib.decDigits u.toNat).toArray⟩) ∧ w' = w := by
  have h := Tryz.internal_strconv_small u.toNat (by omega) w
  rwa [Int.toNat_of_nonneg h0] at h

set_option maxHeartbeats 6400000 in
set_option maxRecDepth 100000 in
theorem formatUint_lo (u : Nat) (hs : u < 100) (w : World) :
    Calls Tryz.prog 240 #[.int .u64 u, .int .i64 10] w (RetS w (decDigits u)) := by
  have hw : IntKind.i64.wrap (u : Int) = (u : Int) := by rw [IntKind.wrap_i64]; omega
  have hb : decide ((u : Int) < 100) = true := by simp; omega
  go_enter Tryz.func240, Tryz.ntmps240
  go_wp2_with (go_at_call 182; refine (Tryz.internal_strconv_small u hs _).mono ?_)
  rintro e w' ⟨rfl, rfl⟩
  go_wp2
  go_ret
  exact ⟨rfl, Ext.rfl' _⟩

set_option maxHeartbeats 6400000 in
set_option maxRecDepth 100000 in
theorem formatUint_hi (u : Nat) (hs : 100 ≤ u) (hu64 : u < 18446744073709551616) (w : World) (hW : Wd w) :
    Calls Tryz.prog 240 #[.int .u64 u, .int .i64 10] w (RetS w (decDigits u)) := by
  have htab := hW.tab
  have hu1 : 1 ≤ u := by omega
  have hnd20 : Lib.nDigits u ≤ 20 := by have := Lib.numDigits_eq u hu1 hu64; split at this <;> omega
  have hb3 : Lib.nDigits u ≤ 24 := by omega
  have hal : Tryz.prog.arrayLen 191 = 24 := by kernel_rfl
  have hb : decide ((u : Int) < 100) = false := by simp; omega
  have hsl1 : ∀ W, (Instr.sliceAt 191 (.pointer (some ⟨w.heap.size, 0, none⟩)) none (some (.int .i64 (Lib.nDigits u : Int))) none).run Tryz.prog W = .ok (.slice (some ⟨w.heap.size, 0, none⟩) (Lib.nDigits u) 24) W := fun W => by
    rw [run_sliceAt_array_h W 191 ⟨w.heap.size, 0, none⟩ (by kernel_rfl) .i64 (Lib.nDigits u : Int) (by omega) (by rw [hal]; omega)]
    go_simp
    try omega
  have hH0 := holds_zero0 w 191 (Lib.nDigits u) hb3
  have hfmt := Tryz.internal_strconv_formatBase10 w.heap.size 0 24 u (Array.replicate (Lib.nDigits u) 0) (w.alloc (.cells Lib.zeros24 191)) hH0 (by rw [Array.size_replicate]; exact Lib.lt_pow_nDigits u) hu64 (by rw [Array.size_replicate]; omega)
  rw [Array.size_replicate] at hfmt
  have HH0 := Lib.hid hH0
  clear hH0 hal
  go_enter Tryz.func240, Tryz.ntmps240
  go_wp2_with (first
    | (go_at_call 183; refine (Tryz.internal_strconv_numDigits u hu1 hu64 _ (Lib.tabIs_alloc htab _)).mono ?_; rintro e w' ⟨rfl, rfl⟩)
    | (go_at_call 184; refine hfmt.mono ?_))
  rintro e w' ⟨rfl, k, v', dk, rfl, hF⟩
  have hcv : (convert 156 9 (.slice (some ⟨w.heap.size, 0, none⟩) (Lib.nDigits u) 24)).run Tryz.prog ((putRow (fun (b : UInt8) => Value.int .u8 (b.toNat : Int)) (w.alloc (.cells Lib.zeros24 191)) w.heap.size 0 dk).drewN k) = .ok (.string ⟨(Lib.decDigits u).toArray⟩) ((putRow (fun (b : UInt8) => Value.int .u8 (b.toNat : Int)) (w.alloc (.cells Lib.zeros24 191)) w.heap.size 0 dk).drewN k) := by
    have h := run_convert_bytes_back (P := Tryz.prog) ((putRow (fun (b : UInt8) => Value.int .u8 (b.toNat : Int)) (w.alloc (.cells Lib.zeros24 191)) w.heap.size 0 dk).drewN k) 156 9 5 ⟨w.heap.size, 0, none⟩ 24 (Lib.decDigits u) (by kernel_rfl) (by kernel_rfl) (by kernel_rfl) (fun j hj => by
      rw [Lib.row_is_numeral hF j hj, Lib.add_plain, World.cell?_drewN]
      exact cell?_putRow (fun (b : UInt8) => Value.int .u8 (b.toNat : Int)) _ w.heap.size 0 _ dk HH0.out (by rw [hF.size, Array.size_replicate]) j (by rw [hF.size]; rw [Lib.decDigits_length] at hj; exact hj))
    rw [Lib.decDigits_length] at h
    exact h
  go_wp2
  go_ret
  obtain ⟨os, eo⟩ : ∃ os, (putRow (fun (b : UInt8) => Value.int .u8 (b.toNat : Int)) (w.alloc (.cells Lib.zeros24 191)) w.heap.size 0 dk).drewN k = grow (w.drewN k) os := by
    rw [alloc_eq_grow]
    obtain ⟨os', _, e⟩ := putRow_grow_new (fun (b : UInt8) => Value.int .u8 (b.toNat : Int)) w #[.cells Lib.zeros24 191] w.heap.size 0 dk (Nat.le_refl _)
    exact ⟨os', by rw [e]; rfl⟩
  exact ⟨rfl, by rw [eo]; exact Ext.grow _ _ _⟩

set_option maxRecDepth 100000 in
theorem formatUint_any (u : Nat) (hu64 : u < 18446744073709551616) (w : World) (hW : Wd w) :
    Calls Tryz.prog 223 #[.int .u64 u, .int .i64 10] w (RetS w (decDigits u)) := by
  have h : Calls Tryz.prog 240 #[.int .u64 u, .int .i64 10] w (RetS w (decDigits u)) := by
    rcases Nat.lt_or_ge u 100 with h | h
    · exact formatUint_lo u h w
    · exact formatUint_hi u h hu64 w hW
  go_enter Tryz.func223, Tryz.ntmps223
  go_wp2_with (go_at_call 240; refine h.mono ?_)
  rintro e w' ⟨rfl, hE⟩
  go_wp2
  go_ret
  exact ⟨rfl, hE⟩
end Go.Proofs.YtbldlibijojbjaaGreatDoor.GB

namespace Go.Proofs.YtbldlibijojbjaaGreatDoor.GB
set_option linter.unusedVariables false
set_option linter.unusedSimpArgs false
open Go.RowKit Go.Shelf
attribute [local go_sem] Oper.semAt_some

/-- A place and its word. -/
abbrev NW := { x : Nat × Nat // x.1 < 1099511627776 ∧ x.2 < 1000000000 }
/-- The text that a word adds: padded but for the first word. -/
def piece (len : Nat) (x : NW) : List UInt8 := if x.1.1 + 1 < len then pad9 x.1.2 else Lib.decDigits x.1.2
def textOf (len : Nat) (pre : List NW) : List UInt8 := pre.flatMap (piece len)
theorem textOf_snoc (len : Nat) (pre : List NW) (x : NW) : textOf len (pre ++ [x]) = textOf len pre ++ piece len x := by simp [textOf]
theorem piece_len (len : Nat) (x : NW) : (piece len x).length ≤ 9 := by
  have h : x.1.2 < BB := x.2.2
  unfold piece
  split
  · rw [pad9_len h]; exact Nat.le_refl _
  · exact dec_len9 h
theorem textOf_len (len : Nat) (pre : List NW) : (textOf len pre).length ≤ 9 * pre.length := by
  induction pre with
  | nil => exact Nat.le_refl _
  | cons x pre ih =>
    have := piece_len len x
    simp only [textOf, List.flatMap_cons, List.length_append, List.length_cons] at ih ⊢
    omega
/-- The words of l, the last first. -/
def downs (l : List Nat) (k : Nat) : List NW := (List.range k).map fun j => if h : l.length - 1 - j < 1099511627776 ∧ wd l (l.length - 1 - j) < 1000000000 then ⟨(l.length - 1 - j, wd l (l.length - 1 - j)), h⟩ else ⟨(0, 0), by decide⟩
theorem downs_succ {l : List Nat} {k m : Nat} (hm : m + k + 1 = l.length) (h1 : m < 1099511627776) (h2 : wd l m < 1000000000) : downs l (k + 1) = downs l k ++ [⟨(m, wd l m), h1, h2⟩] := by
  have e : l.length - 1 - k = m := by omega
  simp only [downs, List.range_succ, List.map_append, List.map_cons, List.map_nil]
  congr 2
  simp only [e]
  rw [dif_pos ⟨h1, h2⟩]
theorem downs_length (l : List Nat) (k : Nat) : (downs l k).length = k := by simp [downs]
theorem wd_wds (m : Nat) : ∀ n, wd (wds n) m = n / BB ^ m % BB := by
  induction m with
  | zero => intro n; rcases Nat.eq_zero_or_pos n with e | e
            · rw [e, wds_zero]; simp [wd]
            · rw [wds_pos (by omega)]; simp [wd]
  | succ m ih =>
    intro n
    rcases Nat.eq_zero_or_pos n with e | e
    · rw [e, wds_zero, Nat.zero_div, Nat.zero_mod]; simp [wd]
    · rw [wds_pos (by omega)]
      have : wd (n % BB :: wds (n / BB)) (m + 1) = wd (wds (n / BB)) m := by simp [wd]
      rw [this, ih, Nat.div_div_eq_div_mul, Nat.pow_succ, Nat.mul_comm]
theorem nine9 : BB = 1000000000 := rfl
theorem wd_wds_lt (n m : Nat) : wd (wds n) m < 1000000000 := by
  rw [wd_wds, ← nine9]; exact Nat.mod_lt _ BB_pos
theorem downs_text (n : Nat) (hl : (wds n).length ≤ 549755813888) (h0 : n ≠ 0) : ∀ k, k < (wds n).length → textOf (wds n).length (downs (wds n) (k + 1)) = Lib.decDigits (n / BB ^ ((wds n).length - (k + 1))) := by
  intro k
  induction k with
  | zero =>
    intro hk
    obtain ⟨m, hm⟩ : ∃ m, m + 0 + 1 = (wds n).length := ⟨(wds n).length - 1, by omega⟩
    rw [downs_succ (k := 0) (m := m) (l := wds n) hm (by omega) (wd_wds_lt n m)]
    have e : (wds n).length - (0 + 1) = m := by omega
    rw [e]
    have h1 := wds_len_lt n
    have hq : n / BB ^ m < BB := by rw [Nat.div_lt_iff_lt_mul (Nat.pow_pos BB_pos), Nat.mul_comm, ← Nat.pow_succ]; rw [← hm] at h1; exact h1
    simp only [downs, List.range_zero, List.map_nil, List.nil_append, textOf, List.flatMap_cons, List.flatMap_nil, List.append_nil, piece]
    rw [if_neg (by omega), wd_wds, Nat.mod_eq_of_lt hq]
  | succ k ih =>
    intro hk
    obtain ⟨m, hm⟩ : ∃ m, m + (k + 1) + 1 = (wds n).length := ⟨(wds n).length - (k + 2), by omega⟩
    rw [downs_succ hm (by omega) (wd_wds_lt n m), textOf_snoc, ih (by omega)]
    have e1 : (wds n).length - (k + 1 + 1) = m := by omega
    have e2 : (wds n).length - (k + 1) = m + 1 := by omega
    rw [e1, e2]
    have h1 := wds_len_ge h0
    have hq : BB ≤ n / BB ^ m := by
      rw [Nat.le_div_iff_mul_le (Nat.pow_pos BB_pos), Nat.mul_comm, ← Nat.pow_succ]
      exact Nat.le_trans (Nat.pow_le_pow_right BB_pos (by omega)) h1
    rw [dec_words hq, Nat.div_div_eq_div_mul, ← Nat.pow_succ]
    congr 1
    unfold piece
    rw [if_pos (by show m + 1 < _; omega)]
    show pad9 (wd (wds n) m) = _
    rw [wd_wds]
theorem downs_all (n : Nat) (hl : (wds n).length ≤ 549755813888) (h0 : n ≠ 0) : textOf (wds n).length (downs (wds n) (wds n).length) = Lib.decDigits n := by
  have hp := wds_len_pos h0
  obtain ⟨k, hk⟩ : ∃ k, (wds n).length = k + 1 := ⟨(wds n).length - 1, by omega⟩
  have h := downs_text n hl h0 k (by omega)
  rw [← hk, Nat.sub_self, Nat.pow_zero, Nat.div_one] at h
  exact h

/-- What the body of a loop over a slice's words keeps: what lay below s0, and the box. -/
def Kps (s0 bx : Nat) (W W' : World) : Prop := Below s0 W W' ∧ ∀ v, W.cell? ⟨bx, 0, none⟩ = some v → W'.cell? ⟨bx, 0, none⟩ = some v
theorem Kps.t {s0 bx : Nat} {A B C : World} (h : Kps s0 bx A B) (k : Kps s0 bx B C) : Kps s0 bx A C := ⟨h.1.trans k.1, fun v e => k.2 v (h.2 v e)⟩
theorem Kps.refl (s0 bx : Nat) (A : World) : Kps s0 bx A A := ⟨Below.refl _ _, fun _ e => e⟩
theorem Kps.b {s0 bx : Nat} {w : World} (hn : s0 ≤ w.heap.size) (W : World) (l : Nat) (o o' : Obj) (hl : w.heap.size ≤ l) (h : W.heap[l]? = some o) (hc : o.isCells = false) (hw : o.isWalk = false) : Kps s0 bx W (W.putObj l o') :=
  ⟨belowK_b hn W l o o' hl h hc hw, fun v e => cell_kept e (grownBy_putObj' W l o') (fun r e => by cases e; exact ⟨o, h, hc⟩)⟩

set_option maxHeartbeats 2000000 in
set_option maxRecDepth 100000 in
/-- The closure of slices.Backward. -/
theorem back1_in (F : Fence) (n : Nat) (h8 : F.fn 239) (hro : F.round = none) (hn : 1 ≤ n) (l Bs s0 : Nat) (A : Option Addr) (cap : Nat) (zs : List Nat) (hz : ∀ j, wd zs j < 1000000000) (hlen : zs.length ≤ 549755813888) (J Jx : List NW → World → Prop)
    (hY : ∀ pre x W, J pre W → pre.length < zs.length → YieldAt F (n - 1) Tryz.prog l #[.int .i64 (x.1.1 : Int), .int .u32 (x.1.2 : Int)] W fun e W' =>
      (e = .returned (.bool true) ∧ J (pre ++ [x]) W' ∧ Kps s0 Bs W W') ∨ (e = .returned (.bool false) ∧ Jx (pre ++ [x]) W'))
    (W : World) (hBs : W.cell? ⟨Bs, 0, none⟩ = some (.slice A zs.length cap)) (w0 : World) (hw0 : w0.heap.size = s0) (hEw : Below s0 w0 W) (hR : RdN w0 A zs) (h0 : J [] W) :
    CallsIn F n Tryz.prog 239 #[.func (.yield l) #[] #[], .pointer (some ⟨Bs, 0, none⟩)] W fun e W' => (∃ v, e = .returned v) ∧
      ((∃ ys, ys = downs zs zs.length ∧ J ys W') ∨ (∃ pre, True ∧ Jx pre W')) := by
  have HR := Lib.hid hR
  clear hR
  refine callsIn_of_wp Tryz.func239 rfl h8 ?_ hro
  simp only [Tryz.ntmps239, List.size_toArray, List.length_cons, List.length_nil, Nat.reduceAdd, Nat.reduceSub, Array.replicate_succ, Array.replicate_zero, List.push_toArray, List.append_toArray, List.nil_append, List.cons_append]
  gi_wp2
  gi_loopw [3] (fun i wr => ∃ (k : Nat) (z : Int), k ≤ zs.length ∧ i = .int .i64 z ∧ z = (zs.length : Int) - 1 - k ∧ J (downs zs k) wr ∧ Kps s0 Bs W wr)
    (fun i _ => (intOf i + 1).toNat)
  case atStart => exact ⟨0, _, Nat.zero_le _, rfl, by omega, h0, Kps.refl _ _ _⟩
  case round =>
    obtain ⟨k, z, hk, rfl, hz1, hJs, hnx⟩ := hrel
    have hbox := hnx.2 _ hBs
    by_cases hlt : k < zs.length
    · obtain ⟨m, rfl⟩ : ∃ m : Nat, z = m := ⟨z.toNat, by omega⟩
      have hm : m + k + 1 = zs.length := by omega
      have hE2 : Ext w0 wr := by unfold Ext; rw [hw0]; exact hEw.trans hnx.1
      obtain ⟨g, off, rfl, hg, hc⟩ := HR.out.ext hE2 m (by omega)
      have hwd : zs[m]'(by omega) = wd zs m := (wd_lt (by omega)).symm
      rw [hwd] at hc
      have hx := hz m
      generalize hgx : wd zs m = x at hc hx
      have hml : m < zs.length := by omega
      have hmb : m < 1099511627776 := by omega
      obtain ⟨fn, tmps, assign, body, hy, hR⟩ := hY _ ⟨(m, x), hmb, hx⟩ wr hJs (by rw [downs_length]; exact hlt)
      dsimp only at hy
      have HM := Lib.hid hm
      have HGX := Lib.hid hgx
      have HN := Lib.hid hnx
      clear hz1 hm hgx hwd hnx hE2
      gi_wp2
      refine hR.mono ?_
      rintro e W3 (⟨rfl, hJ3, hk3⟩ | ⟨rfl, hJx3⟩)
      · gi_wp2
        go_roundw
        case rel => exact ⟨k + 1, _, by omega, rfl, by have := HM.out; omega, by rw [downs_succ HM.out (by omega) (hz m)]; have := HGX.out; subst this; exact hJ3, HN.out.t hk3⟩
        case measure => simp [intOf]
      · gi_wp2
        refine bodyPost_ret (results_none rfl _ _ _) rfl ?_
        exact ⟨⟨_, rfl⟩, .inr ⟨_, trivial, hJx3⟩⟩
    · obtain rfl : k = zs.length := by omega
      obtain rfl : z = -1 := by omega
      gi_wp2
      go_end0
      exact ⟨⟨_, rfl⟩, .inl ⟨_, rfl, hJs⟩⟩

set_option maxHeartbeats 1000000 in
theorem backward_in (F : Fence) (n : Nat) (h5 : F.fn 222) (hro : F.round = none) (a : Option Addr) (len cap : Nat) (w : World) :
    CallsIn F n Tryz.prog 222 #[.slice a len cap] w fun e w' => e = .returned (.func (.func 239) #[] #[.pointer (some ⟨w.heap.size, 0, none⟩)]) ∧ w' = w.alloc (.cells #[.slice a len cap] 185) := by
  refine callsIn_of_wp Tryz.func222 rfl h5 ?_ hro
  simp only [Tryz.ntmps222, List.size_toArray, List.length_cons, List.length_nil, Nat.reduceAdd, Nat.reduceSub, Array.replicate_succ, Array.replicate_zero, List.push_toArray, List.append_toArray, List.nil_append, List.cons_append]
  gi_wp2
  go_ret
  exact ⟨rfl, rfl⟩

theorem back_stops (F : Fence) (n : Nat) (h8 : F.fn 239) (hro : F.round = none) (hn : 1 ≤ n) (Bs s0 : Nat) (A : Option Addr) (cap : Nat) (zs : List Nat) (hz : ∀ j, wd zs j < 1000000000) (hlen : zs.length ≤ 549755813888)
    (w0 w : World) (hw0 : w0.heap.size = s0) (hE : Below s0 w0 w) (hBs : Bs < w.heap.size) (hR : RdN w0 A zs) (hc : w.cell? ⟨Bs, 0, none⟩ = some (.slice A zs.length cap)) :
    SeqStopsK F n Tryz.prog 239 #[.pointer (some ⟨Bs, 0, none⟩)] (fun x : NW => #[Value.int .i64 (x.1.1 : Int), Value.int .u32 (x.1.2 : Int)]) (Kps s0 Bs) (fun ys => ys = downs zs zs.length)
      (fun pre => True) zs.length w := fun l J Jx W hW _ _ hY h0 =>
  back1_in F n h8 hro hn l Bs s0 A cap zs hz hlen J Jx hY W ((hW.cell (p := ⟨Bs, 0, none⟩) hBs).trans hc) w0 hw0 (hE.trans (hW.mono (by have := hE.size; omega))) hR h0
end Go.Proofs.YtbldlibijojbjaaGreatDoor.GB
