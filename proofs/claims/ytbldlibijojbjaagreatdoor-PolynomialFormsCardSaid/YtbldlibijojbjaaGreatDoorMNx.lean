import Derived.Test.YtbldlibijojbjaaGreatDoorMNm
import Derived.Deep.QuietTactic
import Derived.BigQuiet
namespace Go.Proofs.YtbldlibijojbjaaGreatDoor.GB
set_option linter.unusedVariables false
set_option linter.unusedSimpArgs false
open Go.RowKit

theorem made_zeros (n : Nat) : (madeCells (Value.int .u32 0).cells (n * 1)).toList = u32s (List.replicate n 0) := by
  apply List.ext_getElem
  · simp [madeCells, u32s]
  · intro i h1 h2
    simp [madeCells, u32s, Value.cells, Nat.mod_one]
theorem ret_int' {k : IntKind} {a b : Int} (h : a = b) : Value.int k a = .int k b := by rw [h]
theorem OwnN.cellAt {w : World} {base g c : Nat} {l : List Nat} (h : OwnN w base (.slice (some ⟨g, 0, none⟩) l.length c) l) (j : Nat) (hj : j < l.length) : w.cell? ⟨g, j, none⟩ = some (.int .u32 (wd l j : Nat)) := by
  have := World.ownsRow.cellAt h j (by omega)
  rw [this, wd_lt hj]; simp [u32s, hj]
theorem OwnN.store {w : World} {base g c : Nat} {l : List Nat} (h : OwnN w base (.slice (some ⟨g, 0, none⟩) l.length c) l) (j x : Nat) {z : Int} (hz : z = (x : Int)) :
    OwnN (w.setCell ⟨g, j, none⟩ (.int .u32 z)) base (.slice (some ⟨g, 0, none⟩) (l.set j x).length c) (l.set j x) := by
  subst hz
  have := (World.ownsRow.stored h j (.int .u32 (x : Int))).1
  unfold OwnN
  rw [List.length_set]
  have e : u32s (l.set j x) = (u32s l).set j (.int .u32 (x : Int)) := by simp [u32s, List.map_set]
  rw [e]; exact this

theorem cast_div {X : Int} {s : Nat} (h : X = (s : Int)) : X / 1000000000 = ((s / 1000000000 : Nat) : Int) := by subst h; omega
theorem cast_mod {X : Int} {s : Nat} (h : X = (s : Int)) : X % 1000000000 = ((s % 1000000000 : Nat) : Int) := by subst h; omega
theorem cast_mac (C x y p : Nat) : (C : Int) + ((x : Int) * (y : Int) + (p : Int)) = ((C + (x * y + p) : Nat) : Int) := by push_cast; rfl
theorem trim_n (A : Option Addr) (c n : Nat) (l : List Nat) (w : World) (hn : l.length = n) (hl : n ≤ c) (hm : c ≤ 9223372036854775807) (hr : RdN w A l) :
    Calls Tryz.prog 221 #[.slice A n c] w fun e w' => e = .returned (.slice A (tz l).length c) ∧ w = w' := by subst hn; exact trim_any A c l w hl hm hr
/-- What is behind trimming: words of the value. -/
theorem own_trim {w wr : World} {A : Option Addr} {c V : Nat} {O : List Nat} (h : OwnN wr w.heap.size (.slice A O.length c) O) (ho : Ok O) (hv : val O = V) (hE : Ext w wr) :
    RetN w (fun r => r = wds V) (.returned (.slice A (tz O).length c)) wr := by
  obtain ⟨m, hm, hme⟩ := tz_prefix O
  have hO2 := h.take m hm
  rw [← hme] at hO2
  have hml : (tz O).length = m := by rw [hme]; simp; omega
  refine ⟨_, tz O, rfl, ?_, ?_, hE⟩
  · rw [hml]; exact hO2
  · rw [tz_wds ho, hv]

set_option maxHeartbeats 1000000 in
set_option maxRecDepth 100000 in
theorem times_any (A B : Option Addr) (ca cb : Nat) (a b : List Nat) (w : World) (hla : a.length ≤ 1099511627776) (hlb : b.length ≤ 1099511627776)
    (ha : RdN w A a) (hb : RdN w B b) (oa : Ok a) (ob : Ok b) :
    Calls Tryz.prog 213 #[.slice A a.length ca, .slice B b.length cb] w (RetN w (fun r => r = wds (val a * val b))) := by
  obtain ⟨i0, hi, hz0, hz1, hz2⟩ := info_parts Tryz.infoU32
  go_enter Tryz.func213, Tryz.ntmps213
  go_wp2_with (refine wpList_make_full _ rfl _ _ _ rfl w.heap.size 124 i0 (.int .u32 0) 1 Tryz.underlying185 hi hz0 hz1 _ _ _ _ (a.length + b.length) rfl rfl (by simp) (by simp) (by rw [hz2]; omega) (by unfold maxLen; omega) (Nat.le_refl _) ?_; intro w1 hown1 hgrow1)
  have hE1 : Hid (Ext w w1) := (Ext.rfl' w).gr0 hgrow1
  have hO1 : Hid (OwnN w1 w.heap.size (.slice (some ⟨w.heap.size, 0, none⟩) (List.replicate (a.length + b.length) 0).length (a.length + b.length)) (List.replicate (a.length + b.length) 0)) := by
    rw [made_zeros] at hown1
    simpa [OwnN, Hid] using hown1
  clear hown1 hgrow1
  go_loopw [19] (fun i wr => ∃ (k : Nat) (O : List Nat), k ≤ a.length ∧ i = .int .i64 k ∧ Hid (TOut a b k O) ∧ Hid (OwnN wr w.heap.size (.slice (some ⟨w.heap.size, 0, none⟩) O.length (a.length + b.length)) O) ∧ Hid (Ext w wr)) (fun i _ => a.length - (intOf i).toNat)
  case atStart => exact ⟨0, _, Nat.zero_le _, rfl, TOut.start a b, hO1, hE1⟩
  case round =>
    obtain ⟨i, O, hi1, rfl, HT, HO, HE⟩ := hrel
    clear hO1 hE1
    by_cases hlt : i < a.length
    · obtain ⟨ba, fa, rfl, hba, hca⟩ := ha.ext HE.out i hlt
      have hx0 : a[i] < 1000000000 := oa _ (List.getElem_mem hlt)
      have hx1 : Hid (wd a i = a[i]) := wd_lt hlt
      generalize a[i] = x at hca hx0 hx1
      obtain ⟨wo, rfl⟩ : ∃ wo : World, wo = wr := ⟨_, rfl⟩
      go_wp2
      go_loopw [8, 26] (fun c i' wr => ∃ (k C : Nat) (P : List Nat), k ≤ b.length ∧ i' = .int .i64 k ∧ c = .int .u64 C ∧ C < 1000000000 ∧ Hid (TIn O b x i k P C) ∧ Hid (OwnN wr w.heap.size (.slice (some ⟨w.heap.size, 0, none⟩) P.length (a.length + b.length)) P) ∧ Hid (Ext w wr)) (fun _ i' _ => b.length - (intOf i').toNat)
      case atStart => exact ⟨0, 0, O, Nat.zero_le _, rfl, rfl, by omega, TIn.start HT.out.2.1, HO, HE⟩
      case round =>
        obtain ⟨k, C, P, hk1, rfl, rfl, hC, HI, HP, HF⟩ := hrel
        have hPl : P.length = a.length + b.length := HI.out.1.trans HT.out.1
        have HPl := Lib.hid hPl
        by_cases hkb : k < b.length
        · obtain ⟨bb, fb, rfl, hbb, hcb⟩ := hb.ext HF.out k hkb
          have hy0 : b[k] < 1000000000 := ob _ (List.getElem_mem hkb)
          have hy1 : Hid (wd b k = b[k]) := wd_lt hkb
          generalize b[k] = y at hcb hy0 hy1
          have hcp := HP.out.cellAt (i + k) (by omega)
          have hfp : wr.frozen? ⟨w.heap.size, i + k, none⟩ = false := World.ownsRow.frozenAt HP.out (i + k)
          have hp0 : wd P (i + k) < 1000000000 := wd_ok HI.out.2.1 _
          have hp1 : Hid (wd P (i + k) = wd P (i + k)) := rfl
          generalize hpe : wd P (i + k) = p at hcp hp0
          have HPE := Lib.hid hpe
          clear hpe hPl
          have hm : (x : Int) * (y : Int) ≤ 999999998000000001 := by
            have : x * y ≤ 999999999 * 999999999 := Nat.mul_le_mul (by omega) (by omega)
            have e : ((x * y : Nat) : Int) = (x : Int) * (y : Int) := by push_cast; rfl
            omega
          have hm0 : 0 ≤ (x : Int) * (y : Int) := Int.mul_nonneg (by omega) (by omega)
          go_wp2
          have hs0 : C + (x * y + p) = C + (x * wd b k + wd P (i + k)) := by rw [hy1.out, HPE.out]
          have HI' := HI.out.step ob hx0 hs0 (by have := HPl.out; omega)
          have HP' := HP.out.store (i + k) ((C + (x * y + p)) % 1000000000) (z := ((C : Int) + ((x : Int) * (y : Int) + (p : Int))) % 1000000000) (cast_mod (cast_mac C x y p))
          have hq : (C + (x * y + p)) / 1000000000 < 1000000000 := HI'.2.2.1
          go_roundw
          case rel => exact ⟨k + 1, _, _, by omega, by go_num, ret_int' (cast_div (cast_mac C x y p)), hq, HI', HP', HF.out.setCell (Nat.le_refl _) _⟩
          case measure => simp [intOf]; omega
        · have hke : k = b.length := by omega
          have HI2 : Hid (TIn O b x i b.length P C) := by rw [← hke]; exact HI
          have hcp := HP.out.cellAt (i + b.length) (by omega)
          have hfp : wr.frozen? ⟨w.heap.size, i + b.length, none⟩ = false := World.ownsRow.frozenAt HP.out (i + b.length)
          generalize wd P (i + b.length) = p at hcp
          have HK := Lib.hid hke
          clear hke hPl
          go_wp2
          have HT' := TOut.row HT.out (by rw [hx1.out]; exact HI2.out) hlt
          have HP' := HP.out.store (i + b.length) C (z := (C : Int)) rfl
          go_roundw
          case rel => exact ⟨i + 1, _, by omega, by go_num, HT', HP', HF.out.setCell (Nat.le_refl _) _⟩
          case measure => simp [intOf]; omega
    · have hke : i = a.length := by omega
      have HT2 : Hid (Ok O ∧ val O = val a * val b) := by
        have h := HT.out; rw [hke] at h; exact h.done
      have hlen : O.length ≤ a.length + b.length := by have := HT.out.1; omega
      have HK := Lib.hid hke
      clear hke
      have hlen2 : Hid (O.length = a.length + b.length) := HT.out.1
      obtain ⟨A', c', hv, h1, h2, h3, h4⟩ := HO.out.parts
      injection hv with hv1 hv2 hv3
      subst hv1
      have hmx : a.length + b.length ≤ 9223372036854775807 := by omega
      have H3 := Lib.hid h3
      clear hv2 hv3 h1 h2 h3 h4 hlen
      go_wp2_with (go_at_call 221; refine (trim_n _ _ _ O _ hlen2.out (Nat.le_refl _) hmx H3.out).mono ?_; rintro e w' ⟨rfl, rfl⟩)
      go_ret
      have hO3 := HO.out
      exact own_trim hO3 HT2.out.1 HT2.out.2 HE.out
end Go.Proofs.YtbldlibijojbjaaGreatDoor.GB

namespace Go.Proofs.YtbldlibijojbjaaGreatDoor.GB
set_option linter.unusedVariables false
set_option linter.unusedSimpArgs false
open Go.RowKit

theorem own_lit2 (w : World) (x y : Nat) {a b : Int} (ha : a = (x : Int)) (hb : b = (y : Int)) : OwnN (w.alloc (.cells #[.int .u32 a, .int .u32 b] 124)) w.heap.size (.slice (some ⟨w.heap.size, 0, none⟩) [x, y].length 2) [x, y] := by
  subst ha hb
  refine ⟨rfl, .inr ⟨w.heap.size, 2, #[.int .u32 x, .int .u32 y], rfl, Nat.le_refl _, heap_alloc_new w _, by simp, by simp [maxLen], by simp, by simp [u32s]⟩⟩
theorem val_two (x y : Nat) : val [x, y] = x + BB * y := by simp [val]

set_option maxHeartbeats 400000 in
set_option maxRecDepth 100000 in
theorem of_any (x : Nat) (w : World) (hx : x < 1000000000000000000) :
    Calls Tryz.prog 201 #[.int .u64 (x : Int)] w (RetN w (fun r => r = wds x)) := by
  have hO := own_lit2 w (x % 1000000000) (x / 1000000000) (a := (x : Int) % 1000000000) (b := (x : Int) / 1000000000) (by omega) (by omega)
  have hok : Hid (Ok [x % 1000000000, x / 1000000000]) := by
    intro v hv
    rw [BB_eq]
    rcases List.mem_cons.1 hv with rfl | hv
    · omega
    · obtain rfl := List.mem_singleton.1 hv; omega
  have hv : Hid (val [x % 1000000000, x / 1000000000] = x) := by
    show val _ = _
    rw [val_two, BB_eq]; omega
  obtain ⟨A', c', hvv, h1, h2, h3, h4⟩ := hO.parts
  injection hvv with hv1 hv2 hv3
  subst hv1
  have HO := Lib.hid hO
  have H3 := Lib.hid h3
  clear hO hv2 hv3 h1 h2 h3 h4
  go_enter Tryz.func201, Tryz.ntmps201
  go_wp2_with (go_at_call 221; refine (trim_n _ _ 2 [x % 1000000000, x / 1000000000] _ rfl (by omega) (by omega) H3.out).mono ?_; rintro e w' ⟨rfl, rfl⟩)
  go_ret
  exact own_trim HO.out hok.out hv.out ((Ext.rfl' w).al _)

/-- The number of at most two words. -/
def SmallPost (w : World) (n : Nat) (e : Ending) (w' : World) : Prop :=
  (n < 1000000000000000000 → e = .returned (.tuple #[.int .u64 (n : Int), .bool true])) ∧ (1000000000000000000 ≤ n → e = .returned (.tuple #[.int .u64 0, .bool false])) ∧ Ext w w'
theorem wds_len2 (n : Nat) : (wds n).length ≤ 2 ↔ n < 1000000000000000000 := by
  constructor
  · intro h
    have := wds_len_lt n
    have h2 : BB ^ (wds n).length ≤ BB ^ 2 := Nat.pow_le_pow_right BB_pos h
    have : BB ^ 2 = 1000000000000000000 := by decide
    omega
  · intro h; exact wds_len_le (by rw [show BB ^ 2 = 1000000000000000000 from by decide]; exact h)

set_option maxHeartbeats 400000 in
set_option maxRecDepth 100000 in
theorem small_any (A : Option Addr) (c k : Nat) (n : Nat) (w : World) (hn : (wds n).length = k) (hk : k ≤ 1099511627776) (hr : RdN w A (wds n)) :
    Calls Tryz.prog 200 #[.slice A k c] w (SmallPost w n) := by
  have h2 := wds_len2 n
  rw [hn] at h2
  match k, hn, hk, h2 with
  | 0, hn, _, _ =>
    have h0 : n = 0 := (wds_nil_iff n).1 (List.length_eq_zero_iff.1 hn)
    subst h0
    go_enter Tryz.func200, Tryz.ntmps200
    go_wp2
    go_ret2
    exact ⟨fun _ => rfl, fun h => by omega, Ext.rfl' w⟩
  | 1, hn, _, _ =>
    have hn0 : n ≠ 0 := by intro e; rw [e, wds_zero] at hn; simp at hn
    have hlt : n < BB := by have := wds_len_lt n; rw [hn] at this; simpa using this
    rw [wds_small hn0 hlt] at hr
    obtain ⟨b, off, rfl, hb, hc⟩ := hr 0 (by simp)
    simp only [List.getElem_cons_zero, Nat.add_zero] at hc
    have HN := Lib.hid hn
    have hx : n < 1000000000 := hlt
    clear hn hlt hn0
    go_enter Tryz.func200, Tryz.ntmps200
    go_wp2
    go_ret2
    exact ⟨fun _ => rfl, fun h => by omega, Ext.rfl' w⟩
  | 2, hn, _, h2 =>
    have hv := val_wds n
    obtain ⟨x, y, hxy⟩ : ∃ x y, wds n = [x, y] := by
      match hw : wds n, hn with
      | [x, y], _ => exact ⟨x, y, rfl⟩
    have ho := ok_wds n
    rw [hxy] at hr hv ho
    have hx : x < 1000000000 := ho x (by simp)
    have hy : y < 1000000000 := ho y (by simp)
    obtain ⟨b, off, rfl, hb, hc⟩ := hr 0 (by simp)
    obtain ⟨b', off', e, hb', hc'⟩ := hr 1 (by simp)
    simp only [Option.some.injEq, Addr.mk.injEq, and_true] at e
    obtain ⟨rfl, rfl⟩ := e
    simp only [List.getElem_cons_zero, List.getElem_cons_succ, Nat.add_zero] at hc hc'
    rw [val_two, BB_eq] at hv
    have HV := Lib.hid hv
    have HN := Lib.hid hn
    clear hn hv hxy h2 hr ho
    go_enter Tryz.func200, Tryz.ntmps200
    go_wp2
    go_quiet (fail)
    all_goals go_wp2
    go_ret2
    have hh : (x : Int) + 1000000000 * (y : Int) = (n : Int) := by have := HV.out; omega
    exact ⟨fun _ => by rw [hh]; rfl, fun h => by have := HV.out; omega, (Ext.rfl' w).drN _⟩
  | k + 3, hn, hk, h2 =>
    have h3 : ¬ n < 1000000000000000000 := fun h => by have := h2.2 h; omega
    have H3 := Lib.hid h3
    clear hn h2 h3
    obtain ⟨m, hm⟩ : ∃ m, m = k + 3 := ⟨_, rfl⟩
    rw [← hm] at hk ⊢
    have h0 : (((m : Nat) : Int) == 0) = false := by rw [beq_eq_false_iff_ne]; omega
    have h1 : (((m : Nat) : Int) == 1) = false := by rw [beq_eq_false_iff_ne]; omega
    have h2 : (((m : Nat) : Int) == 2) = false := by rw [beq_eq_false_iff_ne]; omega
    clear hm hr
    go_enter Tryz.func200, Tryz.ntmps200
    go_wp2
    go_ret2
    exact ⟨fun h => absurd h H3.out, fun _ => rfl, Ext.rfl' w⟩
end Go.Proofs.YtbldlibijojbjaaGreatDoor.GB

namespace Go.Proofs.YtbldlibijojbjaaGreatDoor.GB
set_option linter.unusedVariables false
set_option linter.unusedSimpArgs false
open Go.RowKit

/-- A quotient and a remainder: words of the call's own. -/
def RetNN (w : World) (q r : Nat) (e : Ending) (w' : World) : Prop := ∃ v1 v2, e = .returned (.tuple #[v1, v2]) ∧ OwnN w' w.heap.size v1 (wds q) ∧ OwnN w' w.heap.size v2 (wds r) ∧ Ext w w'

theorem cast_divn {X Y : Int} {s d : Nat} (h : X = (s : Int)) (k : Y = (d : Int)) : X / Y = ((s / d : Nat) : Int) := by subst h k; exact (Int.natCast_ediv s d).symm
theorem cast_modn {X Y : Int} {s d : Nat} (h : X = (s : Int)) (k : Y = (d : Int)) : X % Y = ((s % d : Nat) : Int) := by subst h k; exact (Int.natCast_emod s d).symm

theorem own_tz {w : World} {base : Nat} {A : Option Addr} {c V : Nat} {O : List Nat} (h : OwnN w base (.slice A O.length c) O) (ho : Ok O) (hv : val O = V) : OwnN w base (.slice A (tz O).length c) (wds V) := by
  obtain ⟨m, hm, hme⟩ := tz_prefix O
  have hO2 := h.take m hm
  rw [← hme] at hO2
  have hml : (tz O).length = m := by rw [hme]; simp; omega
  rw [hml, ← hv, ← tz_wds ho]; exact hO2

set_option maxHeartbeats 1000000 in
set_option maxRecDepth 100000 in
theorem by_any (A : Option Addr) (ca k : Nat) (a : List Nat) (d : Nat) (w : World) (hn : a.length = k) (hla : k ≤ 1099511627776) (ha : RdN w A a) (oa : Ok a) (hd : 0 < d) (hd2 : d < 1000000000) :
    Calls Tryz.prog 228 #[.slice A k ca, .int .u64 (d : Int)] w (RetNN w (val a / d) (val a % d)) := by
  obtain ⟨i0, hi, hz0, hz1, hz2⟩ := info_parts Tryz.infoU32
  have HN := Lib.hid hn
  clear hn
  go_enter Tryz.func228, Tryz.ntmps228
  go_wp2_with (refine wpList_make_full _ rfl _ _ _ rfl w.heap.size 124 i0 (.int .u32 0) 1 Tryz.underlying185 hi hz0 hz1 _ _ _ _ k rfl rfl (by simp) (by simp) (by rw [hz2]; omega) (by unfold maxLen; omega) (Nat.le_refl _) ?_; intro w1 hown1 hgrow1)
  have hE1 : Hid (Ext w w1) := (Ext.rfl' w).gr0 hgrow1
  have hO1 : Hid (OwnN w1 w.heap.size (.slice (some ⟨w.heap.size, 0, none⟩) (List.replicate k 0).length k) (List.replicate k 0)) := by
    rw [made_zeros] at hown1
    simpa [OwnN, Hid] using hown1
  clear hown1 hgrow1
  go_loopw [7, 8] (fun r i wr => ∃ (j R : Nat) (O : List Nat), j ≤ k ∧ i = .int .i64 ((j : Int) - 1) ∧ r = .int .u64 (R : Int) ∧ R < d ∧ Hid (BInv a d j O R) ∧ Hid (OwnN wr w.heap.size (.slice (some ⟨w.heap.size, 0, none⟩) O.length k) O) ∧ Hid (Ext w wr)) (fun _ i _ => (intOf i + 1).toNat)
  case atStart => exact ⟨k, 0, _, Nat.le_refl _, rfl, rfl, hd, by rw [← HN.out]; exact BInv.start a d hd, hO1, hE1⟩
  case round =>
    obtain ⟨j, R, O, hj, rfl, rfl, hR, HB, HO, HE⟩ := hrel
    clear hO1 hE1
    cases j with
    | succ j =>
      have hjl : j < a.length := by have := HN.out; omega
      obtain ⟨ba, fa, rfl, hba, hca⟩ := ha.ext HE.out j hjl
      have hx0 : a[j] < 1000000000 := oa _ (List.getElem_mem hjl)
      have hx1 : Hid (wd a j = a[j]) := wd_lt hjl
      generalize a[j] = x at hca hx0 hx1
      have hOl : j < O.length := by have := HB.out.1; omega
      have hcp := HO.out.cellAt j hOl
      have hfp : wr.frozen? ⟨w.heap.size, j, none⟩ = false := World.ownsRow.frozenAt HO.out j
      generalize wd O j = p at hcp
      have HOL := Lib.hid hOl
      clear hjl hOl
      have hj1 : (((j + 1 : Nat) : Int) - 1) = (j : Int) := by omega
      rw [hj1]
      have hR2 : (R : Int) * 1000000000 + (x : Int) < 1000000000000000000 := by omega
      go_wp2
      have HB' := HB.out.step (s := R * 1000000000 + x) oa (by rw [hx1.out]) (by have := HN.out; omega)
      have hq : (R * 1000000000 + x) / d < 4294967296 := by
        have := HB'.2.1 ((R * 1000000000 + x) / d) (List.mem_of_getElem? (i := j) (by simp [HOL.out]))
        rw [BB_eq] at this; omega
      have hz : ((R : Int) * 1000000000 + (x : Int)) / (d : Int) % 4294967296 = (((R * 1000000000 + x) / d : Nat) : Int) := by
        rw [cast_divn (s := R * 1000000000 + x) (d := d) (by omega) rfl]; generalize (R * 1000000000 + x) / d = q at hq ⊢; omega
      have HO' := HO.out.store j ((R * 1000000000 + x) / d) hz
      have hr : (R * 1000000000 + x) % d < d := Nat.mod_lt _ hd
      go_roundw
      case rel => exact ⟨j, (R * 1000000000 + x) % d, _, by omega, rfl, ret_int' (cast_modn (by omega) rfl), hr, HB', HO', HE.out.setCell (Nat.le_refl _) _⟩
      case measure => simp [intOf]
    | zero =>
      have hlen : Hid (O.length = k) := by show O.length = k; rw [HB.out.1]; exact HN.out
      obtain ⟨o1, o2, o3⟩ := HB.out.done
      have hO2 : OwnN wr w.heap.size (.slice (some ⟨w.heap.size, 0, none⟩) (tz O).length k) (wds (val a / d)) := own_tz HO.out o1 o2
      have hRb : R < 1000000000000000000 := by omega
      obtain ⟨A', c', hv, h1, h2, h3, h4⟩ := HO.out.parts
      injection hv with hv1 hv2 hv3
      subst hv1
      have H1 := Lib.hid o1
      have H3 := Lib.hid h3
      have HO2 := Lib.hid hO2
      have H4 := Lib.hid o3
      clear o1 o2 o3 hv2 hv3 h1 h2 h3 h4 hO2
      go_wp2_with fail
      refine (trim_n _ _ k O _ hlen.out (Nat.le_refl _) (by omega) H3.out).mono ?_
      rintro e w' ⟨rfl, rfl⟩
      go_wp2_with fail
      refine (of_any R _ hRb).mono ?_
      rintro e w2 ⟨v, r, rfl, hv, rfl, hE2⟩
      go_wp2
      go_ret2
      exact ⟨_, _, rfl, HO2.out.ext hE2, by rw [← H4.out]; exact hv.lower HE.out.size, HE.out.tr hE2⟩
end Go.Proofs.YtbldlibijojbjaaGreatDoor.GB
