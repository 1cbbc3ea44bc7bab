import Derived.Test.YtbldlibijojbjaaGreatDoorMBd
import Derived.Test.YtbldlibijojbjaaGreatDoorMKn
namespace Go.Proofs.YtbldlibijojbjaaGreatDoor.GB
set_option linter.unusedVariables false
set_option linter.unusedSimpArgs false
open Go.RowKit

/-- Behind i words: the sum's (difference's) words and a carry. -/
def MInv (a b : List Nat) (sg : Int) (i : Nat) (r : List Nat) (c : Int) : Prop :=
  r.length = i ∧ Ok r ∧ -1 ≤ c ∧ c ≤ 1 ∧ (val r : Int) + (BB : Int) ^ i * c = val (a.take i) + sg * val (b.take i)
theorem MInv.start (a b : List Nat) (sg : Int) : MInv a b sg 0 [] 0 := ⟨rfl, (fun w hw => by cases hw), by omega, by omega, by simp [val]⟩
theorem MInv.step {a b : List Nat} {sg : Int} {i : Nat} {r : List Nat} {c x : Int} {w : Nat} {c' : Int} (h : MInv a b sg i r c) (ha : Ok a) (hb : Ok b) (hs : sg = 1 ∨ sg = -1)
    (hx : x = c + wd a i + sg * wd b i) (hw : (w : Int) = x % 1000000000) (hc : c' = x / 1000000000) : MInv a b sg (i + 1) (r ++ [w]) c' := by
  obtain ⟨h1, h2, h3, h4, h5⟩ := h
  have ha' := wd_ok ha i
  have hb' := wd_ok hb i
  have hBn : BB = 1000000000 := rfl
  refine ⟨by simp [h1], Ok.append.2 ⟨h2, fun v hv => ?_⟩, ?_, ?_, ?_⟩
  · obtain rfl := List.mem_singleton.1 hv
    omega
  · rcases hs with rfl | rfl <;> omega
  · rcases hs with rfl | rfl <;> omega
  · rw [val_take_succ, val_take_succ, val_snoc, h1]
    have e : x = w + 1000000000 * c' := by rw [hw, hc]; omega
    have e2 : (w : Int) + (BB : Int) * c' = c + wd a i + sg * wd b i := by rw [← hx, e, hBn]; rfl
    clear hw hc e hx hBn
    push_cast at *
    have e3 : (BB : Int) ^ i * ((w : Int) + BB * c') = (BB : Int) ^ i * (c + wd a i + sg * wd b i) := by rw [e2]
    rw [Int.pow_succ]
    grind
theorem tdiv_pos {x : Int} (h : ¬ x.tmod 1000000000 < 0) : x.tmod 1000000000 = x % 1000000000 ∧ x.tdiv 1000000000 = x / 1000000000 := by
  have h1 := Int.mul_tdiv_add_tmod x 1000000000
  have h2 := Int.tmod_lt_of_pos x (b := 1000000000) (by omega)
  omega
theorem tdiv_bd (x : Int) : x - 1000000000 < 1000000000 * x.tdiv 1000000000 ∧ 1000000000 * x.tdiv 1000000000 < x + 1000000000 := by
  have h1 := Int.mul_tdiv_add_tmod x 1000000000
  have h2 := Int.tmod_lt_of_pos x (b := 1000000000) (by omega)
  have h3 := Int.lt_tmod_of_pos x (b := 1000000000) (by omega)
  omega
theorem tdiv_neg {x : Int} (h : x.tmod 1000000000 < 0) : x.tmod 1000000000 + 1000000000 = x % 1000000000 ∧ x.tdiv 1000000000 - 1 = x / 1000000000 := by
  have h1 := Int.mul_tdiv_add_tmod x 1000000000
  have h2 := Int.lt_tmod_of_pos x (b := 1000000000) (by omega)
  omega
theorem w_neg {X : Int} (h : X.tmod 1000000000 < 0) : wrap64 (X.tmod 1000000000 + 1000000000) % 4294967296 = ((X % 1000000000).toNat : Int) ∧ X.tdiv 1000000000 - 1 = X / 1000000000 := by
  have h1 := tdiv_neg h
  refine ⟨?_, h1.2⟩
  rw [h1.1]; unfold wrap64; omega
theorem w_pos {X : Int} (h : 0 ≤ X.tmod 1000000000) : X.tmod 1000000000 % 4294967296 = ((X % 1000000000).toNat : Int) ∧ X.tdiv 1000000000 = X / 1000000000 := by
  have h1 := tdiv_pos (x := X) (by omega)
  refine ⟨?_, h1.2⟩
  rw [h1.1]; omega
theorem own_base {w : World} {base : Nat} {v : Value} {l : List Nat} (h : OwnN w base v l) : ∀ k, v.ownBlock = some k → base ≤ k := by
  intro k hk
  rcases h.2 with ⟨rfl, _⟩ | ⟨g, cap, cur, rfl, hb, _⟩
  · simp [Value.ownBlock] at hk
  · have : g = k := by simpa [Value.ownBlock] using hk
    omega
theorem own_push {w wr w2 : World} {v v' : Value} {r : List Nat} {o : Obj} {z : Int} {n : Nat} (HO : OwnN wr w.heap.size v r) (HE : Ext w wr)
    (hown : w2.ownsRow w.heap.size 124 1 v' (r.length + 1) (u32s r ++ [.int .u32 z])) (hgrow : (wr.alloc o).grownBy w2 v.ownBlock) (hz : z = (n : Int)) : OwnN w2 w.heap.size v' (r ++ [n]) ∧ Ext w w2 := by
  subst hz
  refine ⟨?_, (HE.al o).gr hgrow (own_base HO)⟩
  unfold OwnN
  rw [u32s_append, List.length_append]
  exact hown
theorem ret_i64 {a b : Int} (h : a = b) : Value.int .i64 a = .int .i64 b := by rw [h]
/-- The end: the sum, or the difference from a number that is not less. -/
def MPost (a b : List Nat) (sg : Int) (r : List Nat) : Prop := Ok r ∧ (val r : Int) = val a + sg * val b ∧ (r.length = max a.length b.length ∨ (r.length = max a.length b.length + 1 ∧ r.getLast? ≠ some 0))
theorem MInv.zero {a b : List Nat} {sg : Int} {r : List Nat} {c : Int} (h : MInv a b sg (max a.length b.length) r c) (hc : ¬ 0 < c) (hle : (val b : Int) ≤ val a ∨ sg = 1) (hs : sg = 1 ∨ sg = -1) : MPost a b sg r := by
  obtain ⟨h1, h2, h3, h4, h5⟩ := h
  rw [List.take_of_length_le (by omega), List.take_of_length_le (by omega)] at h5
  have hv := val_lt h2
  rw [h1] at hv
  have hc0 : c = 0 := by
    rcases Int.lt_or_le c 0 with hlt | hge
    · have : c = -1 := by omega
      subst this
      have h6 : (0 : Int) ≤ val a + sg * val b := by rcases hs with rfl | rfl <;> omega
      have h7 : ((val r : Nat) : Int) < (BB : Int) ^ (max a.length b.length) := by exact_mod_cast hv
      omega
    · omega
  subst hc0
  exact ⟨h2, by omega, .inl h1⟩
theorem MInv.one {a b : List Nat} {sg : Int} {r : List Nat} {c : Int} {w : Nat} (h : MInv a b sg (max a.length b.length) r c) (hc : 0 < c) (hw : (w : Int) = c) : MPost a b sg (r ++ [w]) := by
  obtain ⟨h1, h2, h3, h4, h5⟩ := h
  rw [List.take_of_length_le (by omega), List.take_of_length_le (by omega)] at h5
  refine ⟨Ok.append.2 ⟨h2, fun v hv => ?_⟩, ?_, .inr ⟨by simp [h1], by simp; omega⟩⟩
  · obtain rfl := List.mem_singleton.1 hv
    have hBn : BB = 1000000000 := rfl
    omega
  · rw [val_snoc, h1]; push_cast; rw [hw]; omega

/-- The call hands back words of its own. -/
def RetN (w : World) (P : List Nat → Prop) (e : Ending) (w' : World) : Prop := ∃ v r, e = .returned v ∧ OwnN w' w.heap.size v r ∧ P r ∧ Ext w w'

set_option maxHeartbeats 1000000 in
set_option maxRecDepth 100000 in
theorem merge_any (A B : Option Addr) (ca cb : Nat) (a b : List Nat) (sg : Int) (w : World) (hs : sg = 1 ∨ sg = -1) (hla : a.length ≤ 1099511627776) (hlb : b.length ≤ 1099511627776)
    (ha : RdN w A a) (hb : RdN w B b) (oa : Ok a) (ob : Ok b) (hle : (val b : Int) ≤ val a ∨ sg = 1) :
    Calls Tryz.prog 250 #[.slice A a.length ca, .slice B b.length cb, .int .i64 sg] w (RetN w (MPost a b sg)) := by
  obtain ⟨i0, hi, hz0, hz1, hz2⟩ := info_parts Tryz.infoU32
  have hs1 : -1 ≤ sg := by omega
  have hs2 : sg ≤ 1 := by omega
  have HS := Lib.hid hs
  clear hs
  go_enter Tryz.func250, Tryz.ntmps250
  go_wp2_with (refine wpList_make_own _ rfl _ _ _ rfl w.heap.size 124 i0 (.int .u32 0) 1 Tryz.underlying185 hi hz0 hz1 _ _ _ (a.length + 1) rfl rfl (by simp) (by rw [hz2]; omega) (by unfold maxLen; omega) (Nat.le_refl _) ?_; intro w1 hown1 hgrow1)
  all_goals
    have hE1 : Ext w w1 := (Ext.rfl' w).gr0 hgrow1
    have hO1 : OwnN w1 w.heap.size (.slice (some ⟨w.heap.size, 0, none⟩) 0 (a.length + 1)) [] := hown1
    clear hown1 hgrow1
    go_loopw [7, 8, 20] (fun v c i wr => ∃ (k : Nat) (r : List Nat) (C : Int), k ≤ max a.length b.length ∧ i = .int .i64 k ∧ c = .int .i64 C ∧ -1 ≤ C ∧ C ≤ 1 ∧ Hid (OwnN wr w.heap.size v r) ∧ Hid (MInv a b sg k r C) ∧ Hid (Ext w wr)) (fun _ _ i _ => max a.length b.length - (intOf i).toNat)
    case atStart => exact ⟨0, [], 0, Nat.zero_le _, rfl, rfl, by omega, by omega, hO1, MInv.start a b sg, hE1⟩
    case round =>
      obtain ⟨k, r, C, hk, rfl, rfl, hC1, hC2, HO, HM, HE⟩ := hrel
      by_cases hkm : k < max a.length b.length
      · have hr1 := HM.out.1
        have hrl : r.length ≤ 1099511627776 := by omega
        clear hr1
        have hbig : (r.length + 1) * 4 ≤ 140737488355328 := by omega
        have hmax : r.length + 1 ≤ maxLen := by unfold maxLen; omega
        have hbase : w.heap.size ≤ wr.heap.size := HE.out.size
        by_cases hka : k < a.length
        · obtain ⟨ba, fa, rfl, hba, hca⟩ := ha.ext HE.out k hka
          have hx0 : a[k] < 1000000000 := oa _ (List.getElem_mem hka)
          have hx1 : Hid (wd a k = a[k]) := wd_lt hka
          generalize a[k] = x at hca hx0 hx1
          by_cases hkb : k < b.length
          · obtain ⟨bb, fb, rfl, hbb, hcb⟩ := hb.ext HE.out k hkb
            have hy0 : b[k] < 1000000000 := ob _ (List.getElem_mem hkb)
            have hy1 : Hid (wd b k = b[k]) := wd_lt hkb
            generalize b[k] = y at hcb hy0 hy1
            have hp1 : -1000000000 ≤ sg * (y : Int) := by rcases HS.out with rfl | rfl <;> omega
            have hp2 : sg * (y : Int) ≤ 1000000000 := by rcases HS.out with rfl | rfl <;> omega
            have hq1 : -3 ≤ (C + (x : Int) + sg * (y : Int)).tdiv 1000000000 := by have := tdiv_bd (C + (x : Int) + sg * (y : Int)); omega
            have hq2 : (C + (x : Int) + sg * (y : Int)).tdiv 1000000000 ≤ 3 := by have := tdiv_bd (C + (x : Int) + sg * (y : Int)); omega
            go_wp2_with (at_builtin; (refine wpList_append_own _ rfl _ _ 185 rfl w.heap.size 124 i0 (.int .u32 0) 1 4 Tryz.underlying185 hi hz0 hz1 hz2 rfl (by decide) _ r.length (u32s r) rfl (World.ownsRow.alloc HO.out _) ⟨wr.heap.size, 0, none⟩ 1 1 _ rfl rfl (cell_one_new _ _ _) (by simp [Value.oneCell']) hmax hbig (by simp; omega) ?_); intro v' w2 hown2 hgrow2 _)
            all_goals first
            | (have hs : (C + (x : Int) + sg * (y : Int)).tmod 1000000000 < 0 := ‹_›
               obtain ⟨e1, e2⟩ := w_neg hs
               obtain ⟨p1, p2⟩ := own_push HO.out HE.out hown2 hgrow2 e1
               have HX : C + (x : Int) + sg * (y : Int) = C + wd a k + sg * wd b k := by rw [hx1.out, hy1.out]
               have HM' := HM.out.step oa ob HS.out HX (w := ((C + (x : Int) + sg * (y : Int)) % 1000000000).toNat) (by omega) rfl
               go_roundw
               case rel => exact ⟨k + 1, r ++ [((C + (x : Int) + sg * (y : Int)) % 1000000000).toNat], (C + (x : Int) + sg * (y : Int)) / 1000000000, by omega, by go_num, ret_i64 e2, HM'.2.2.1, HM'.2.2.2.1, p1, HM', p2⟩
               case measure => simp [intOf]; omega)
            | (have hs : 0 ≤ (C + (x : Int) + sg * (y : Int)).tmod 1000000000 := ‹_›
               obtain ⟨e1, e2⟩ := w_pos hs
               obtain ⟨p1, p2⟩ := own_push HO.out HE.out hown2 hgrow2 e1
               have HX : C + (x : Int) + sg * (y : Int) = C + wd a k + sg * wd b k := by rw [hx1.out, hy1.out]
               have HM' := HM.out.step oa ob HS.out HX (w := ((C + (x : Int) + sg * (y : Int)) % 1000000000).toNat) (by omega) rfl
               go_roundw
               case rel => exact ⟨k + 1, r ++ [((C + (x : Int) + sg * (y : Int)) % 1000000000).toNat], (C + (x : Int) + sg * (y : Int)) / 1000000000, by omega, by go_num, ret_i64 e2, HM'.2.2.1, HM'.2.2.2.1, p1, HM', p2⟩
               case measure => simp [intOf]; omega)
          · have hy1 : Hid (wd b k = 0) := wd_ge (by omega)
            have hq1 : -3 ≤ (C + (x : Int)).tdiv 1000000000 := by have := tdiv_bd (C + (x : Int)); omega
            have hq2 : (C + (x : Int)).tdiv 1000000000 ≤ 3 := by have := tdiv_bd (C + (x : Int)); omega
            go_wp2_with (at_builtin; (refine wpList_append_own _ rfl _ _ 185 rfl w.heap.size 124 i0 (.int .u32 0) 1 4 Tryz.underlying185 hi hz0 hz1 hz2 rfl (by decide) _ r.length (u32s r) rfl (World.ownsRow.alloc HO.out _) ⟨wr.heap.size, 0, none⟩ 1 1 _ rfl rfl (cell_one_new _ _ _) (by simp [Value.oneCell']) hmax hbig (by simp; omega) ?_); intro v' w2 hown2 hgrow2 _)
            all_goals first
            | (have hs : (C + (x : Int)).tmod 1000000000 < 0 := ‹_›
               obtain ⟨e1, e2⟩ := w_neg hs
               obtain ⟨p1, p2⟩ := own_push HO.out HE.out hown2 hgrow2 e1
               have HX : C + (x : Int) = C + wd a k + sg * wd b k := by rw [hx1.out, hy1.out]; omega
               have HM' := HM.out.step oa ob HS.out HX (w := ((C + (x : Int)) % 1000000000).toNat) (by omega) rfl
               go_roundw
               case rel => exact ⟨k + 1, r ++ [((C + (x : Int)) % 1000000000).toNat], (C + (x : Int)) / 1000000000, by omega, by go_num, ret_i64 e2, HM'.2.2.1, HM'.2.2.2.1, p1, HM', p2⟩
               case measure => simp [intOf]; omega)
            | (have hs : 0 ≤ (C + (x : Int)).tmod 1000000000 := ‹_›
               obtain ⟨e1, e2⟩ := w_pos hs
               obtain ⟨p1, p2⟩ := own_push HO.out HE.out hown2 hgrow2 e1
               have HX : C + (x : Int) = C + wd a k + sg * wd b k := by rw [hx1.out, hy1.out]; omega
               have HM' := HM.out.step oa ob HS.out HX (w := ((C + (x : Int)) % 1000000000).toNat) (by omega) rfl
               go_roundw
               case rel => exact ⟨k + 1, r ++ [((C + (x : Int)) % 1000000000).toNat], (C + (x : Int)) / 1000000000, by omega, by go_num, ret_i64 e2, HM'.2.2.1, HM'.2.2.2.1, p1, HM', p2⟩
               case measure => simp [intOf]; omega)
        · have hx1 : Hid (wd a k = 0) := wd_ge (by omega)
          have hkb : k < b.length := by omega
          obtain ⟨bb, fb, rfl, hbb, hcb⟩ := hb.ext HE.out k hkb
          have hy0 : b[k] < 1000000000 := ob _ (List.getElem_mem hkb)
          have hy1 : Hid (wd b k = b[k]) := wd_lt hkb
          generalize b[k] = y at hcb hy0 hy1
          have hp1 : -1000000000 ≤ sg * (y : Int) := by rcases HS.out with rfl | rfl <;> omega
          have hp2 : sg * (y : Int) ≤ 1000000000 := by rcases HS.out with rfl | rfl <;> omega
          have hq1 : -3 ≤ (C + sg * (y : Int)).tdiv 1000000000 := by have := tdiv_bd (C + sg * (y : Int)); omega
          have hq2 : (C + sg * (y : Int)).tdiv 1000000000 ≤ 3 := by have := tdiv_bd (C + sg * (y : Int)); omega
          go_wp2_with (at_builtin; (refine wpList_append_own _ rfl _ _ 185 rfl w.heap.size 124 i0 (.int .u32 0) 1 4 Tryz.underlying185 hi hz0 hz1 hz2 rfl (by decide) _ r.length (u32s r) rfl (World.ownsRow.alloc HO.out _) ⟨wr.heap.size, 0, none⟩ 1 1 _ rfl rfl (cell_one_new _ _ _) (by simp [Value.oneCell']) hmax hbig (by simp; omega) ?_); intro v' w2 hown2 hgrow2 _)
          all_goals first
          | (have hs : (C + sg * (y : Int)).tmod 1000000000 < 0 := ‹_›
             obtain ⟨e1, e2⟩ := w_neg hs
             obtain ⟨p1, p2⟩ := own_push HO.out HE.out hown2 hgrow2 e1
             have HX : C + sg * (y : Int) = C + wd a k + sg * wd b k := by rw [hx1.out, hy1.out]; omega
             have HM' := HM.out.step oa ob HS.out HX (w := ((C + sg * (y : Int)) % 1000000000).toNat) (by omega) rfl
             go_roundw
             case rel => exact ⟨k + 1, r ++ [((C + sg * (y : Int)) % 1000000000).toNat], (C + sg * (y : Int)) / 1000000000, by omega, by go_num, ret_i64 e2, HM'.2.2.1, HM'.2.2.2.1, p1, HM', p2⟩
             case measure => simp [intOf]; omega)
          | (have hs : 0 ≤ (C + sg * (y : Int)).tmod 1000000000 := ‹_›
             obtain ⟨e1, e2⟩ := w_pos hs
             obtain ⟨p1, p2⟩ := own_push HO.out HE.out hown2 hgrow2 e1
             have HX : C + sg * (y : Int) = C + wd a k + sg * wd b k := by rw [hx1.out, hy1.out]; omega
             have HM' := HM.out.step oa ob HS.out HX (w := ((C + sg * (y : Int)) % 1000000000).toNat) (by omega) rfl
             go_roundw
             case rel => exact ⟨k + 1, r ++ [((C + sg * (y : Int)) % 1000000000).toNat], (C + sg * (y : Int)) / 1000000000, by omega, by go_num, ret_i64 e2, HM'.2.2.1, HM'.2.2.2.1, p1, HM', p2⟩
             case measure => simp [intOf]; omega)
      · have hke : k = max a.length b.length := by omega
        have HM' : MInv a b sg (max a.length b.length) r C := by rw [← hke]; exact HM.out
        have hrl : r.length ≤ 1099511627776 := by have := HM'.1; omega
        have hbig : (r.length + 1) * 4 ≤ 140737488355328 := by omega
        have hmax : r.length + 1 ≤ maxLen := by unfold maxLen; omega
        have hbase : w.heap.size ≤ wr.heap.size := HE.out.size
        have HM2 := Lib.hid HM'
        clear HM' hke
        by_cases hC : 0 < C
        · go_wp2_with (at_builtin; (refine wpList_append_own _ rfl _ _ 185 rfl w.heap.size 124 i0 (.int .u32 0) 1 4 Tryz.underlying185 hi hz0 hz1 hz2 rfl (by decide) _ r.length (u32s r) rfl (World.ownsRow.alloc HO.out _) ⟨wr.heap.size, 0, none⟩ 1 1 _ rfl rfl (cell_one_new _ _ _) (by simp [Value.oneCell']) hmax hbig (by simp; omega) ?_); intro v' w2 hown2 hgrow2 _)
          go_ret
          obtain ⟨p1, p2⟩ := own_push HO.out HE.out hown2 hgrow2 (n := C.toNat) (by omega)
          exact ⟨_, _, rfl, p1, HM2.out.one hC (by omega), p2⟩
        · go_wp2
          go_ret
          exact ⟨_, _, rfl, HO.out, HM2.out.zero (by omega) hle HS.out, HE.out⟩
end Go.Proofs.YtbldlibijojbjaaGreatDoor.GB

namespace Go.Proofs.YtbldlibijojbjaaGreatDoor.GB
set_option linter.unusedVariables false
set_option linter.unusedSimpArgs false

theorem wd_set (l : List Nat) (j w x : Nat) (h : j < l.length) : wd (l.set j w) x = if x = j then w else wd l x := by
  unfold wd
  rw [List.getD_eq_getElem?_getD, List.getElem?_set, List.getD_eq_getElem?_getD]
  split
  · rename_i e; subst e; simp [h]
  · rename_i e; rw [if_neg (fun e' => e e'.symm)]
theorem val_set (l : List Nat) (j w : Nat) (h : j < l.length) : val (l.set j w) + BB ^ j * wd l j = val l + BB ^ j * w := by
  induction l generalizing j with
  | nil => simp at h
  | cons x l ih =>
    cases j with
    | zero => simp [val, wd]; omega
    | succ j =>
      have := ih j (by simpa using h)
      have e : wd (x :: l) (j + 1) = wd l j := by simp [wd]
      rw [e, List.set_cons_succ, val, val, Nat.pow_succ]
      grind
theorem Ok.set {l : List Nat} (h : Ok l) {j w : Nat} (hw : w < BB) : Ok (l.set j w) := fun v hv => by
  rcases List.mem_or_eq_of_mem_set hv with h1 | h1
  · exact h v h1
  · rw [h1]; exact hw
theorem wd_zeros (n x : Nat) : wd (List.replicate n 0) x = 0 := by unfold wd; by_cases h : x < n <;> simp [h]
theorem val_zeros (n : Nat) : val (List.replicate n 0) = 0 := by
  induction n with
  | zero => rfl
  | succ n ih => rw [List.replicate_succ, val, ih]; simp
theorem ok_zeros (n : Nat) : Ok (List.replicate n 0) := fun w hw => by rw [(List.mem_replicate.1 hw).2]; exact BB_pos

/-- One row of a product. -/
def TIn (O0 b : List Nat) (a i k : Nat) (O : List Nat) (c : Nat) : Prop :=
  O.length = O0.length ∧ Ok O ∧ c < BB ∧ val O + BB ^ (i + k) * c = val O0 + BB ^ i * (a * val (b.take k)) ∧ ∀ x, i + k ≤ x → wd O x = wd O0 x
theorem TIn.start {O0 b : List Nat} {a i : Nat} (h : Ok O0) : TIn O0 b a i 0 O0 0 := ⟨rfl, h, BB_pos, by simp [val], fun _ _ => rfl⟩
theorem TIn.step {O0 b O : List Nat} {a i k c s : Nat} (h : TIn O0 b a i k O c) (ob : Ok b) (ha : a < BB) (hs : s = c + (a * wd b k + wd O (i + k))) (hl : i + k < O.length) :
    TIn O0 b a i (k + 1) (O.set (i + k) (s % 1000000000)) (s / 1000000000) := by
  obtain ⟨h1, h2, h3, h4, h5⟩ := h
  have hB : BB = 1000000000 := rfl
  have w1 := wd_ok ob k
  have w2 := wd_ok h2 (i + k)
  have hm : a * wd b k ≤ (BB - 1) * (BB - 1) := Nat.mul_le_mul (by omega) (by omega)
  have hmm : (BB - 1) * (BB - 1) + BB + BB ≤ BB * BB + 1 := by decide
  refine ⟨by rw [List.length_set]; exact h1, h2.set (by rw [hB]; omega), ?_, ?_, fun x hx => ?_⟩
  · rw [← hB]; refine (Nat.div_lt_iff_lt_mul BB_pos).2 ?_; omega
  · have e := val_set O (i + k) (s % 1000000000) hl
    have e2 := val_take_succ b k
    rw [e2]
    have e3 : s = s % 1000000000 + BB * (s / 1000000000) := by rw [hB]; omega
    generalize s % 1000000000 = r at *
    generalize s / 1000000000 = q at *
    have e4 : r + BB * q = c + (a * wd b k + wd O (i + k)) := by rw [← e3]; exact hs
    have e5 : BB ^ (i + k) * (r + BB * q) = BB ^ (i + k) * (c + (a * wd b k + wd O (i + k))) := by rw [e4]
    rw [show i + (k + 1) = i + k + 1 by omega, Nat.pow_succ]
    have e6 : BB ^ (i + k) = BB ^ i * BB ^ k := Nat.pow_add ..
    grind
  · rw [wd_set _ _ _ _ hl, if_neg (by omega)]; exact h5 x (by omega)
/-- The rows so far. -/
def TOut (a b : List Nat) (i : Nat) (O : List Nat) : Prop :=
  O.length = a.length + b.length ∧ Ok O ∧ val O = val (a.take i) * val b ∧ ∀ x, i + b.length ≤ x → wd O x = 0
theorem TOut.start (a b : List Nat) : TOut a b 0 (List.replicate (a.length + b.length) 0) :=
  ⟨by simp, ok_zeros _, by rw [val_zeros]; simp [val], fun x _ => wd_zeros _ _⟩
theorem TOut.row {a b O0 O : List Nat} {i c : Nat} (h : TOut a b i O0) (k : TIn O0 b (wd a i) i b.length O c) (hi : i < a.length) : TOut a b (i + 1) (O.set (i + b.length) c) := by
  obtain ⟨h1, h2, h3, h4⟩ := h
  obtain ⟨k1, k2, k3, k4, k5⟩ := k
  have hl : i + b.length < O.length := by omega
  refine ⟨by rw [List.length_set]; omega, k2.set k3, ?_, fun x hx => ?_⟩
  · have e := val_set O (i + b.length) c hl
    rw [k5 _ (Nat.le_refl _), h4 _ (Nat.le_refl _)] at e
    rw [List.take_of_length_le (Nat.le_refl _)] at k4
    rw [val_take_succ]
    grind
  · rw [wd_set _ _ _ _ hl, if_neg (by omega), k5 x (by omega), h4 x (by omega)]
theorem TOut.done {a b O : List Nat} (h : TOut a b a.length O) : Ok O ∧ val O = val a * val b := by
  obtain ⟨h1, h2, h3, h4⟩ := h
  rw [List.take_of_length_le (Nat.le_refl _)] at h3
  exact ⟨h2, h3⟩
/-- Division by one word, from the first word on. -/
def BInv (a : List Nat) (w : Nat) (i : Nat) (O : List Nat) (r : Nat) : Prop :=
  O.length = a.length ∧ Ok O ∧ r < w ∧ val (a.drop i) = w * val (O.drop i) + r
theorem BInv.start (a : List Nat) (w : Nat) (hw : 0 < w) : BInv a w a.length (List.replicate a.length 0) 0 :=
  ⟨by simp, ok_zeros _, hw, by rw [List.drop_length, List.drop_eq_nil_of_le (by simp)]; simp [val]⟩
theorem BInv.step {a O : List Nat} {w i r s : Nat} (h : BInv a w (i + 1) O r) (oa : Ok a) (hs : s = r * 1000000000 + wd a i) (hi : i < a.length) : BInv a w i (O.set i (s / w)) (s % w) := by
  obtain ⟨h1, h2, h3, h4⟩ := h
  have hw : 0 < w := by omega
  have hB : BB = 1000000000 := rfl
  have w1 := wd_ok oa i
  have hlt : s / w < BB := by
    refine (Nat.div_lt_iff_lt_mul hw).2 ?_
    have : (r + 1) * BB ≤ w * BB := Nat.mul_le_mul_right BB h3
    rw [Nat.add_mul, Nat.mul_comm w] at this
    rw [hs, ← hB]; omega
  refine ⟨by rw [List.length_set]; exact h1, h2.set hlt, Nat.mod_lt _ hw, ?_⟩
  have e1 := val_drop_cons a i
  have e2 := val_drop_cons (O.set i (s / w)) i
  rw [wd_set _ _ _ _ (by omega), if_pos rfl] at e2
  have e3 : (O.set i (s / w)).drop (i + 1) = O.drop (i + 1) := List.drop_set_of_lt (by omega)
  rw [e1, e2, e3, h4]
  have e4 := Nat.div_add_mod s w
  have hs' : s = r * BB + wd a i := by rw [hs, hB]
  clear hs e1 e2 e3 h4 hB hlt
  generalize s / w = q at *
  generalize s % w = t at *
  generalize val (O.drop (i + 1)) = V at *
  generalize BB = Bs at *
  grind
theorem BInv.done {a O : List Nat} {w r : Nat} (h : BInv a w 0 O r) : Ok O ∧ val O = val a / w ∧ r = val a % w := by
  obtain ⟨h1, h2, h3, h4⟩ := h
  rw [List.drop_zero, List.drop_zero] at h4
  refine ⟨h2, ?_, ?_⟩
  · rw [h4, Nat.mul_add_div (by omega), Nat.div_eq_of_lt h3]; omega
  · rw [h4, Nat.mul_add_mod, Nat.mod_eq_of_lt h3]
end Go.Proofs.YtbldlibijojbjaaGreatDoor.GB
