import Derived.Test.YtbldlibijojbjaaGreatDoorCSl
import Derived.Deep.RegionHeld3
import Derived.Test.YtbldlibijojbjaaGreatDoorMIp
import Derived.Test.YtbldlibijojbjaaGreatDoorMIg
namespace Go.Proofs.YtbldlibijojbjaaGreatDoor.GB
set_option linter.unusedVariables false
set_option linter.unusedSimpArgs false
open Go.RowKit

theorem bytes_inj {s t : ByteArray} (h : s.toList = t.toList) : s = t := by
  rw [ByteArray.toList_eq, ByteArray.toList_eq] at h
  cases s; cases t
  congr 1
  exact Array.toList_inj.1 h
theorem sEq (s t : ByteArray) : (s.toList == t.toList) = decide (s = t) := by
  by_cases h : s = t
  · subst h; simp
  · have : s.toList ≠ t.toList := fun e => h (bytes_inj e)
    simp [h, this]
theorem take_ne {l m : List ByteArray} {k : Nat} (h1 : k < l.length) (h2 : k < m.length) (h : l[k] ≠ m[k]) : ¬ l = m := by
  rintro rfl; exact h rfl
set_option maxHeartbeats 1000000 in
set_option maxRecDepth 100000 in
theorem Same_v (v1 v2 : Value) (l m : List ByteArray) (w : World) (h1 : SlS w v1 l) (h2 : SlS w v2 m) :
    Calls Tryz.prog 18 #[v1, v2] w fun e w' => e = .returned (.bool (decide (l = m))) ∧ Ext w w' := by
  obtain ⟨A, c, rfl, a1, a2, a3⟩ := h1
  obtain ⟨B, d, rfl, b1, b2, b3⟩ := h2
  by_cases hl : l.length = m.length
  · have hl' : ((l.length : Int) == (m.length : Int)) = true := by simp [hl]
    obtain ⟨n, hn⟩ : ∃ n, n = l.length := ⟨_, rfl⟩
    have HN : Hid (l.length = n) := hn.symm
    have HM : Hid (m.length = n) := by show m.length = n; omega
    rw [show l.length = n from HN.out] at a1 ⊢
    rw [show m.length = n from HM.out] at b1 ⊢
    clear hn hl hl'
    go_enter Tryz.func18, Tryz.ntmps18
    go_wp2
    go_loopw [5] (fun v wr => ∃ k : Nat, k ≤ n ∧ v = .int .i64 (k : Int) ∧ Hid (l.take k = m.take k) ∧ Hid (Ext w wr)) (fun v _ => n - (intOf v).toNat)
    case atStart => exact ⟨0, Nat.zero_le _, rfl, rfl, Ext.rfl' _⟩
    case round =>
      obtain ⟨k, hk, rfl, HT, HE⟩ := hrel
      by_cases hlt : k < n
      · have k1 : k < l.length := by rw [HN.out]; exact hlt
        have k2 : k < m.length := by rw [HM.out]; exact hlt
        obtain ⟨b, off, rfl, hb, hc⟩ := a3 k k1
        obtain ⟨b', off', rfl, hb', hc'⟩ := b3 k k2
        replace hc := HE.out.cell hc
        replace hc' := HE.out.cell hc'
        by_cases hs : l[k] = m[k]
        · have HT' : Hid (l.take (k + 1) = m.take (k + 1)) := by
            show l.take (k + 1) = m.take (k + 1)
            rw [List.take_succ_eq_append_getElem k1, List.take_succ_eq_append_getElem k2, HT.out, hs]
          have hq : (l[k].toList == m[k].toList) = true := by rw [sEq]; simp [hs]
          clear hs
          generalize l[k] = s at *
          generalize m[k] = t at *
          go_wp2
          go_region_with (fail)
          all_goals
            go_wp2
            go_roundw
            case rel => exact ⟨k + 1, by omega, by go_num, HT', Ext.dr' HE⟩
            case measure => simp [intOf]; omega
        · have hq : (l[k].toList == m[k].toList) = false := by rw [sEq]; simp [hs]
          have HR := Lib.hid (take_ne k1 k2 hs)
          clear hs
          generalize l[k] = s at *
          generalize m[k] = t at *
          go_wp2
          go_region_with (fail)
          all_goals
            go_wp2
            go_ret
            exact ⟨by rw [decide_eq_false HR.out]; rfl, Ext.dr' HE⟩
      · have HR : Hid (l = m) := by
          have := HT.out
          rwa [List.take_of_length_le (by have : l.length = n := HN.out; omega), List.take_of_length_le (by have : m.length = n := HM.out; omega)] at this
        have hk' : k = n := by omega
        subst hk'
        go_wp2
        go_ret
        exact ⟨by rw [decide_eq_true HR.out]; rfl, HE⟩
  · have hne : ¬ l = m := fun e => hl (by rw [e])
    rw [decide_eq_false hne]
    have hl' : ((l.length : Int) == (m.length : Int)) = false := by rw [beq_eq_false_iff_ne]; omega
    have hl2 : ¬ ((l.length : Int) = (m.length : Int)) := by omega
    clear hne hl
    go_enter Tryz.func18, Tryz.ntmps18
    go_wp2
    go_ret
    exact ⟨rfl, Ext.rfl' _⟩
/-- Short texts. -/
def fewB (l : List ByteArray) : Bool := l.all (fun s => decide (s.size ≤ 12)) && (decide (l.length ≤ 6) || decide (16 ≤ l.length ∧ l.length ≤ 18))
theorem fewB_len {l : List ByteArray} (h : fewB l = true) : l.length ≤ 18 := by
  unfold fewB at h; simp at h; omega
theorem fewB_txt {l : List ByteArray} (h : fewB l = true) : ∀ s ∈ l, s.size ≤ 12 := by
  unfold fewB at h; simp at h; exact h.1
theorem few_no {l : List ByteArray} {k : Nat} (h1 : k < l.length) (h : 12 < l[k].size) : fewB l = false := by
  unfold fewB
  have : l.all (fun s => decide (s.size ≤ 12)) = false := by
    rw [List.all_eq_false]; exact ⟨l[k], List.getElem_mem h1, by simp; omega⟩
  rw [this]; rfl
set_option maxHeartbeats 1000000 in
set_option maxRecDepth 100000 in
theorem Few_v (v1 : Value) (l : List ByteArray) (w : World) (h1 : SlS w v1 l) :
    Calls Tryz.prog 12 #[v1] w fun e w' => e = .returned (.bool (fewB l)) ∧ w = w' := by
  obtain ⟨A, c, rfl, a1, a2, a3⟩ := h1
  obtain ⟨n, hn⟩ : ∃ n, n = l.length := ⟨_, rfl⟩
  have HN : Hid (l.length = n) := hn.symm
  rw [show l.length = n from HN.out] at a1 ⊢
  clear hn
  go_enter Tryz.func12, Tryz.ntmps12
  go_wp2
  go_loop [3] (fun v => ∃ k : Nat, k ≤ n ∧ v = .int .i64 (k : Int) ∧ Hid (∀ s ∈ l.take k, s.size ≤ 12)) (fun v => n - (intOf v).toNat)
  case atStart => exact ⟨0, Nat.zero_le _, rfl, fun s hs => by cases hs⟩
  case round =>
    obtain ⟨k, hk, rfl, HT⟩ := hrel
    by_cases hlt : k < n
    · have k1 : k < l.length := by rw [HN.out]; exact hlt
      obtain ⟨b, off, rfl, hb, hc⟩ := a3 k k1
      by_cases hs : l[k].size ≤ 12
      · have HT' : Hid (∀ s ∈ l.take (k + 1), s.size ≤ 12) := by
          intro s hm
          rw [List.take_succ_eq_append_getElem k1] at hm
          rcases List.mem_append.1 hm with hm | hm
          · exact HT.out s hm
          · rw [List.mem_singleton.1 hm]; exact hs
        generalize l[k] = s at *
        have hs2 : ¬ ((12 : Int) < (s.size : Int)) := by omega
        have hs3 : ¬ (12 < s.size) := by omega
        go_wp2
        go_round
        case rel => exact ⟨k + 1, by omega, by go_num, HT'⟩
        case measure => simp [intOf]; omega
      · have HR := Lib.hid (few_no k1 (Nat.not_le.1 hs))
        generalize l[k] = s at *
        have hs2 : ((12 : Int) < (s.size : Int)) := by omega
        have hs3 : (12 < s.size) := by omega
        go_wp2
        go_ret
        exact ⟨by rw [HR.out]; rfl, rfl⟩
    · have HA : Hid (fewB l = (decide (n ≤ 6) || decide (16 ≤ n ∧ n ≤ 18))) := by
        have := HT.out
        rw [List.take_of_length_le (by have : l.length = n := HN.out; omega)] at this
        show fewB l = _
        unfold fewB
        have : l.all (fun s => decide (s.size ≤ 12)) = true := by rw [List.all_eq_true]; intro s hs; simpa using this s hs
        rw [this, show l.length = n from HN.out]; rfl
      have hk' : k = n := by omega
      subst hk'
      have HA2 := HA.out
      by_cases c1 : k ≤ 6
      · have c2 : ((k : Int) ≤ 6) := by omega
        go_wp2
        go_ret
        exact ⟨rfl, rfl⟩
      · have c2 : ¬ ((k : Int) ≤ 6) := by omega
        by_cases c3 : 16 ≤ k
        · have c4 : (16 : Int) ≤ (k : Int) := by omega
          by_cases c5 : k ≤ 18
          · have c6 : (k : Int) ≤ 18 := by omega
            go_wp2
            go_ret
            exact ⟨rfl, rfl⟩
          · have c6 : ¬ (k : Int) ≤ 18 := by omega
            go_wp2
            go_ret
            exact ⟨rfl, rfl⟩
        · have c4 : ¬ (16 : Int) ≤ (k : Int) := by omega
          go_wp2
          go_ret
          exact ⟨rfl, rfl⟩
end Go.Proofs.YtbldlibijojbjaaGreatDoor.GB

namespace Go.Proofs.YtbldlibijojbjaaGreatDoor.GB
set_option linter.unusedVariables false
set_option linter.unusedSimpArgs false
open Go.RowKit Go.Shelf
attribute [local go_sem ↓] Go.wp_at_zero Go.wp_at_succ
/-- A list of values, and the texts of each. -/
abbrev VL := List (Value × List ByteArray)
def RdV (w : World) (A : Option Addr) (l : VL) : Prop := ∀ j, (h : j < l.length) → ∃ b off, A = some ⟨b, off, none⟩ ∧ b < w.heap.size ∧ w.cell? ⟨b, off + j, none⟩ = some l[j].1 ∧ SlS w l[j].1 l[j].2
/-- All of the first k are short. -/
def FewK (l : VL) (k : Nat) : Prop := ∀ j, (h : j < l.length) → j < k → fewB l[j].2 = true
theorem FewK.step {l : VL} {k : Nat} (h : FewK l k) (hk : k < l.length) (h0 : fewB l[k].2 = true) : FewK l (k + 1) := by
  intro j hj hjk
  by_cases e : j = k
  · subst e; exact h0
  · exact h j hj (by omega)
theorem FewK.all {l : VL} {k : Nat} (h : FewK l k) (hk : l.length ≤ k) : l.all (fun x => fewB x.2) = true := by
  rw [List.all_eq_true]
  intro x hx
  obtain ⟨j, hj, rfl⟩ := List.mem_iff_getElem.1 hx
  exact h j hj (by omega)
theorem few_fail {l : VL} {k : Nat} (hk : k < l.length) (h0 : fewB l[k].2 = false) : l.all (fun x => fewB x.2) = false := by
  rw [List.all_eq_false]
  exact ⟨l[k], List.getElem_mem _, by rw [h0]; simp⟩
def IdxF (r : Bool) (w : World) (e : Ending) (w' : World) : Prop := ∃ i : Int, e = .returned (.int .i64 i) ∧ decide (0 ≤ i) = r ∧ Ext w w'
set_option maxHeartbeats 1000000 in
set_option maxRecDepth 100000 in
theorem few1_v (v : Value) (l : List ByteArray) (w : World) (h : SlS w v l) :
    Calls Tryz.prog 55 #[v] w fun e w' => e = .returned (.bool (!fewB l)) ∧ w = w' := by
  have hf := Few_v v l w h
  generalize fewB l = r at hf ⊢
  cases r
  all_goals
    go_enter Tryz.func55, Tryz.ntmps55
    go_wp2_with fail
    refine hf.mono ?_
    rintro e w1 ⟨rfl, rfl⟩
    clear hf
    go_wp2_with fail
    go_ret
    exact ⟨rfl, rfl⟩
set_option maxHeartbeats 1000000 in
set_option maxRecDepth 100000 in
theorem indexp_any (A : Option Addr) (c : Nat) (l : VL) (w : World) (hl : l.length ≤ 1000) (hr : RdV w A l) :
    Calls Tryz.prog 91 #[.slice A l.length c, .func (.func 55) #[] #[]] w (IdxF (!l.all (fun x => fewB x.2)) w) := by
  go_enter Tryz.func91, Tryz.ntmps91
  go_wp2_with fail
  go_loop [8] (fun v => ∃ k : Nat, k ≤ l.length ∧ v = .int .i64 k ∧ Hid (FewK l k)) (fun v => l.length - (intOf v).toNat)
  case atStart => exact ⟨0, Nat.zero_le _, rfl, fun j hj h => by omega⟩
  case round =>
    obtain ⟨k, hk, rfl, HN⟩ := hrel
    by_cases hlt : k < l.length
    · obtain ⟨q, off, rfl, hb, hcell, hs⟩ := hr k hlt
      have hck := few1_v _ _ w hs
      cases h0 : fewB l[k].2
      · have HT := Lib.hid (few_fail hlt h0)
        rw [h0] at hck
        clear h0 hs
        generalize l[k].1 = s at *
        go_wp2_with fail
        refine hck.mono ?_
        rintro e w1 ⟨rfl, rfl⟩
        go_wp2_with fail
        go_ret
        exact ⟨_, rfl, by rw [HT.out]; simp, Ext.rfl' _⟩
      · have HN2 := Lib.hid (HN.out.step hlt h0)
        rw [h0] at hck
        clear h0 hs
        generalize l[k].1 = s at *
        go_wp2_with fail
        refine hck.mono ?_
        rintro e w1 ⟨rfl, rfl⟩
        go_wp2_with fail
        go_round
        case rel => exact ⟨k + 1, by omega, by go_num, HN2⟩
        case measure => simp [intOf]; omega
    · have HT := Lib.hid (HN.out.all (Nat.not_lt.1 hlt))
      go_wp2_with fail
      go_ret
      exact ⟨_, rfl, by rw [HT.out]; rfl, Ext.rfl' _⟩
set_option maxHeartbeats 1000000 in
set_option maxRecDepth 100000 in
theorem containsp_any (A : Option Addr) (c : Nat) (l : VL) (w : World) (hl : l.length ≤ 1000) (hr : RdV w A l) :
    Calls Tryz.prog 54 #[.slice A l.length c, .func (.func 55) #[] #[]] w fun e w' => e = .returned (.bool (!l.all (fun x => fewB x.2))) ∧ Ext w w' := by
  have h := indexp_any A c l w hl hr
  clear hr
  generalize l.all (fun x => fewB x.2) = r at h ⊢
  generalize l.length = n at *
  go_enter Tryz.func54, Tryz.ntmps54
  go_wp2_with fail
  refine h.mono ?_
  rintro e w1 ⟨i, rfl, hi, hE⟩
  clear h
  go_wp2_with fail
  go_ret
  exact ⟨rfl, hE⟩
set_option maxHeartbeats 1000000 in
set_option maxRecDepth 100000 in
theorem few_any (x : ByteArray) (A : Option Addr) (c : Nat) (l : VL) (w : World) (hl : l.length ≤ 1000) (hr : RdV w A l) :
    Calls Tryz.prog 19 #[.string x, .slice A l.length c] w fun e w' => e = .returned (.bool (decide (x.size ≤ 20) && l.all (fun x => fewB x.2))) ∧ Ext w w' := by
  have h := containsp_any A c l w hl hr
  clear hr
  generalize l.all (fun x => fewB x.2) = r at h ⊢
  generalize l.length = n at *
  by_cases hx : x.size ≤ 20
  · have hx2 : (x.size : Int) ≤ 20 := by omega
    rw [decide_eq_true hx]
    cases r
    all_goals
      go_enter Tryz.func19, Tryz.ntmps19
      go_wp2_with fail
      refine h.mono ?_
      rintro e w1 ⟨rfl, hE⟩
      clear h
      go_wp2_with fail
      go_ret
      exact ⟨rfl, hE⟩
  · have hx2 : ¬ (x.size : Int) ≤ 20 := by omega
    rw [decide_eq_false hx]
    clear h
    go_enter Tryz.func19, Tryz.ntmps19
    go_wp2_with fail
    go_ret
    exact ⟨rfl, Ext.rfl' _⟩
theorem two_polys (w : World) (v1 v2 : Value) (l m : List ByteArray) (T : TypeId) (h1 : SlS w v1 l) (h2 : SlS w v2 m) : RdV (w.alloc (.cells #[v1, v2] T)) (some ⟨w.heap.size, 0, none⟩) [(v1, l), (v2, m)] := by
  intro j hj
  have hE := (Ext.rfl' w).al (.cells #[v1, v2] T)
  refine ⟨w.heap.size, 0, rfl, by simp, ?_, ?_⟩
  · rw [Lib.cell_of_heap (World.alloc_heap_new w _)]
    rcases j with _ | _ | j
    · rfl
    · rfl
    · simp at hj; omega
  · rcases j with _ | _ | j
    · exact h1.ext hE
    · exact h2.ext hE
    · simp at hj; omega
end Go.Proofs.YtbldlibijojbjaaGreatDoor.GB

namespace Go.Proofs.YtbldlibijojbjaaGreatDoor.GB
set_option linter.unusedVariables false
set_option linter.unusedSimpArgs false
open Go
open Go.Lib (decDigits itoa)
theorem dd1 (n : Nat) (h : n < 10) : decDigits n = [UInt8.ofNat (48 + n)] := by rw [decDigits, dif_pos h]
theorem rb_nat (n : Nat) (h : n < 10) : rb ((n : Int) : Rat) = ⟨#[UInt8.ofNat (48 + n)]⟩ := by
  unfold rb
  rw [rtext_of_int, itoa, if_neg (by omega), Int.toNat_natCast, dd1 n h]
theorem rb_neg (n : Nat) (h0 : 0 < n) (h : n < 10) : rb ((-(n : Int) : Int) : Rat) = ⟨#[45, UInt8.ofNat (48 + n)]⟩ := by
  unfold rb
  rw [rtext_of_int, itoa, if_pos (by omega), Int.natAbs_neg, Int.natAbs_natCast, dd1 n h]
theorem rb1 : rb 1 = ⟨#[49]⟩ := rb_nat 1 (by decide)
theorem rb2 : rb 2 = ⟨#[50]⟩ := rb_nat 2 (by decide)
theorem rb3 : rb 3 = ⟨#[51]⟩ := rb_nat 3 (by decide)
theorem rbm1 : rb (-1) = ⟨#[45, 49]⟩ := rb_neg 1 (by decide) (by decide)
theorem rbm2 : rb (-2) = ⟨#[45, 50]⟩ := rb_neg 2 (by decide) (by decide)
theorem rbm4 : rb (-4) = ⟨#[45, 52]⟩ := rb_neg 4 (by decide) (by decide)
theorem rbm8 : rb (-8) = ⟨#[45, 56]⟩ := rb_neg 8 (by decide) (by decide)
theorem rbm13 : rb (-1 / 3) = ⟨#[45, 49, 47, 51]⟩ := by
  have e1 : (-1 / 3 : Rat).num = -1 := by decide +kernel
  have e2 : (-1 / 3 : Rat).den = 3 := by decide +kernel
  unfold rb
  rw [rtext_frac (by rw [e2]; decide), e1, e2, itoa, if_pos (by decide), show (-1 : Int).natAbs = 1 from rfl, dd1 1 (by decide), dd1 3 (by decide)]
  rfl
/-- A slice of new strings. -/
theorem SlS.lit (W : World) (l : List ByteArray) (T : TypeId) (hl : l.length ≤ 100000) : SlS (W.alloc (.cells (strs l).toArray T)) (.slice (some ⟨W.heap.size, 0, none⟩) l.length l.length) l := by
  refine ⟨some ⟨W.heap.size, 0, none⟩, l.length, rfl, Nat.le_refl _, by omega, ?_⟩
  intro j hj
  refine ⟨W.heap.size, 0, rfl, by simp, ?_⟩
  rw [Lib.cell_of_heap (World.alloc_heap_new W _)]
  simp [hj, strs]
theorem kk32 : 4294967296 ≤ KK := by decide +kernel
instance (q : Rat) (n : Nat) : Decidable (Bd q n) := by unfold Bd; infer_instance
instance (p : Pl) (n : Nat) : Decidable (PB p n) := by unfold PB; infer_instance
instance (p : Pl) : Decidable (Tr p) := by unfold Tr; infer_instance
theorem PO.lit {w : World} {v : Value} {p : Pl} (n : Nat) (h : PS w v p) (h2 : PB p n ∧ Tr p ∧ p.length ≤ 17) : PO w v p n := ⟨h, h2⟩
def pA : Pl := [1, 1]
def pB : Pl := [1, -1]
def pP : Pl := [1, 0, -1]
def pI : Pl := [0, 1, 0, -1 / 3]
def pX : Pl := [0, -1, 1]
theorem pA_rb : pA.map rb = [⟨#[49]⟩, ⟨#[49]⟩] := by simp [pA, rb1]
theorem pB_rb : pB.map rb = [⟨#[49]⟩, ⟨#[45, 49]⟩] := by simp [pB, rb1, rbm1]
theorem pP_rb : pP.map rb = [⟨#[49]⟩, ⟨#[48]⟩, ⟨#[45, 49]⟩] := by simp [pP, rb0, rb1, rbm1]
theorem pI_rb : pI.map rb = [⟨#[48]⟩, ⟨#[49]⟩, ⟨#[48]⟩, ⟨#[45, 49, 47, 51]⟩] := by simp [pI, rb0, rb1, rbm13]
theorem pX_rb : pX.map rb = [⟨#[48]⟩, ⟨#[45, 49]⟩, ⟨#[49]⟩] := by simp [pX, rb0, rb1, rbm1]
theorem aw_mul (v1 v2 : Value) (w : World) (hW : Wd w) (h1 : PS w v1 pA) (h2 : PS w v2 pB) : Calls Tryz.prog 25 #[v1, v2] w (RP0 pP w) := by
  have h := Mul_p v1 v2 pA pB 4 4 w hW (PO.lit 4 h1 (by decide +kernel)) (PO.lit 4 h2 (by decide +kernel)) (.inr (.inr (by decide))) (by have := kk32; omega)
  rwa [show ptrim (pmul pA pB) = pP by decide +kernel] at h
theorem pe_lit {a b : Pl} (h : ptrim b = a) : PE a b := h ▸ cf_ptrim _
theorem aw_div (v1 v2 : Value) (w : World) (hW : Wd w) (h1 : PS w v1 pP) (h2 : PS w v2 pA) : Calls Tryz.prog 27 #[v1, v2] w fun e w' => ∃ v3 v4, e = .returned (.tuple #[v3, v4, .int .i64 0]) ∧ PS w' v3 pB ∧ PS w' v4 [] ∧ Ext w w' := by
  have hk : 2 * remB pP.length (pP.length * 4) pA.length (pA.length * 4) + 4 + 4 + 6 ≤ 4294967296 := by decide +kernel
  have b1 := PO.lit 4 h1 (by decide +kernel)
  have b2 := PO.lit 4 h2 (by decide +kernel)
  refine (Div_p v1 v2 pP pA 4 4 w hW b1 b2 _ _ (CB.of_pb b1.2.1) (CB.of_pb b2.2.1) (by decide) (Nat.le_trans hk kk32)).mono ?_
  rintro e w' ⟨v3, v4, q, t, rfl, hd, -, h3, h4, hE⟩
  have hd2 : DivRel pP pA pB [] := ⟨by decide +kernel, by decide +kernel, by decide, pe_lit (by decide +kernel)⟩
  obtain ⟨rfl, rfl⟩ := hd.uniq (by decide +kernel) hd2
  exact ⟨v3, v4, rfl, h3, h4, hE⟩
theorem aw_int (v : Value) (w : World) (hW : Wd w) (h : PS w v pP) : Calls Tryz.prog 35 #[v] w (RP0 pI w) := by
  have h := Integrate_p v pP 4 w hW (PO.lit 4 h (by decide +kernel)) (by decide) (by have := kk32; omega)
  rwa [show pint pP = pI by decide +kernel] at h
theorem aw_enc (v : Value) (w : World) (hW : Wd w) (h : PS w v pX) : Calls Tryz.prog 39 #[v, .agg #[.string ⟨#[45, 49]⟩, .string ⟨#[50]⟩]] w fun e w' => e = .returned (.tuple #[.agg #[.string ⟨#[45, 52]⟩, .string ⟨#[50]⟩], .int .i64 0]) ∧ Ext w w' := by
  have h := Enclose_p v pX 4 w hW (PO.lit 4 h (by decide +kernel)) (-1) 2 4 (by decide +kernel) (by decide +kernel) (by decide +kernel) (by have := kk32; omega)
  rw [show penc (-1, 2) pX = (-4, 2) by decide +kernel] at h
  simpa only [IQ, ← rb_v, rbm1, rb2, rbm4] using h
theorem aw_der (v : Value) (w : World) (hW : Wd w) (h : PS w v pI) : Calls Tryz.prog 33 #[v] w (RP0 pP w) := by
  have h := Derive_p v pI 4 w hW (PO.lit 4 h (by decide +kernel)) (by have := kk32; omega)
  rwa [show pder pI = pP by decide +kernel] at h
theorem aw_shift (v : Value) (w : World) (hW : Wd w) (h : PS w v pP) : Calls Tryz.prog 37 #[v, .string ⟨#[49]⟩] w (RP0 [0, -2, -1] w) := by
  have h := Shift_p v pP 4 w hW (PO.lit 4 h (by decide +kernel)) 1 4 (by decide +kernel) (by decide) (Nat.le_trans (show 40 * (sfB 4 4 17 + 4 + 4 + 2) ≤ 4294967296 by decide +kernel) kk32)
  rwa [show pshf 1 pP = [0, -2, -1] by decide +kernel, ← rb_v, rb1] at h
theorem aw_eval (v : Value) (w : World) (hW : Wd w) (h : PS w v pP) : Calls Tryz.prog 31 #[v, .string ⟨#[51]⟩] w fun e w' => e = .returned (.tuple #[.string ⟨#[45, 56]⟩, .int .i64 0]) ∧ Ext w w' := by
  have h := Eval_p v pP 4 w hW (PO.lit 4 h (by decide +kernel)) 3 4 (by decide +kernel) (by have := kk32; omega)
  rw [show pev pP 3 = -8 by decide +kernel, ← rb_v, rb3] at h
  refine h.mono fun e w' hh => ?_
  unfold RetR at hh
  rwa [← rb_v, rbm8] at hh
theorem aw_gcd (v1 v2 : Value) (w : World) (hW : Wd w) (h1 : PS w v1 pP) (h2 : PS w v2 pA) : Calls Tryz.prog 29 #[v1, v2] w (RP0 pA w) := by
  have b1 := PO.lit 4 h1 (by decide +kernel)
  have b2 := PO.lit 4 h2 (by decide +kernel)
  refine (GCD_p v1 v2 pP pA 4 4 w hW b1 b2 2 1000 _ _ (CB.of_pb b1.2.1) (CB.of_pb b2.2.1) (by decide) (by have := kk32; omega) (by have := kk32; omega) (by decide +kernel)).mono ?_
  rintro e w' ⟨v, rfl, ⟨d, h3, hd, -⟩, hE⟩
  have hd2 : GcdRel pP pA pA := ⟨by decide +kernel, .inr (by decide +kernel), ⟨pB, pe_lit (by decide +kernel)⟩, ⟨[1], pe_lit (by decide +kernel)⟩, ⟨[], [1], pe_lit (by decide +kernel)⟩⟩
  cases hd.uniq hd2
  exact ⟨v, rfl, h3, hE⟩
theorem aw_add (v1 v2 : Value) (w : World) (hW : Wd w) (h1 : PS w v1 pA) (h2 : PS w v2 pB) : Calls Tryz.prog 20 #[v1, v2] w (RP0 [2] w) := by
  have h := Add_p v1 v2 pA pB 4 4 w hW (PO.lit 4 h1 (by decide +kernel)) (PO.lit 4 h2 (by decide +kernel)) (by have := kk32; omega)
  rwa [show ptrim (padd pA pB) = [2] by decide +kernel] at h
theorem aw_sub (v1 v2 : Value) (w : World) (hW : Wd w) (h1 : PS w v1 pA) (h2 : PS w v2 pB) : Calls Tryz.prog 23 #[v1, v2] w (RP0 [0, 2] w) := by
  have h := Sub_p v1 v2 pA pB 4 4 w hW (PO.lit 4 h1 (by decide +kernel)) (PO.lit 4 h2 (by decide +kernel)) (by have := kk32; omega)
  rwa [show ptrim (padd pA (pneg pB)) = [0, 2] by decide +kernel] at h
end Go.Proofs.YtbldlibijojbjaaGreatDoor.GB
