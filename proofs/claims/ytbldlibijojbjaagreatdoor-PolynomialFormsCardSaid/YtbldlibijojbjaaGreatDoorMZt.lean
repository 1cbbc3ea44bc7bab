import Derived.Test.YtbldlibijojbjaaGreatDoorMBd
import Derived.LoopTactic
import Derived.Test.YtbldlibijojbjaaGreatDoorMCp
import Derived.Lib.Builder
import Derived.RangeFuncRecord
import Derived.Test.YtbldlibijojbjaaGreatDoorMTy
import Derived.Laws.BytesArg
import Derived.Test.YtbldlibijojbjaaGreatDoorMGc
namespace Go.Proofs.YtbldlibijojbjaaGreatDoor.GB
set_option linter.unusedVariables false
set_option linter.unusedSimpArgs false
open Go.RowKit
set_option maxHeartbeats 400000 in
theorem ztrim_any (A : Option Addr) (c : Nat) (l : List Nat) (w : World) (hl : l.length ≤ c) (hm : c ≤ 9223372036854775807) (hr : RdN w A l) :
    Calls Tryz.prog 138 #[.slice A l.length c] w fun e w' => e = .returned (.slice A (tz l).length c) ∧ w = w' := by
  go_enter Tryz.func138, Tryz.ntmps138
  go_wp2
  go_loop [0] (fun v => ∃ k : Nat, k ≤ l.length ∧ v = .slice A k c ∧ Hid (tz (l.take k) = tz l)) (fun v => match v with | .slice _ n _ => n | _ => 0)
  case atStart => exact ⟨l.length, Nat.le_refl _, rfl, by rw [List.take_length]; rfl⟩
  case round =>
    obtain ⟨k, hk, rfl, HT⟩ := hrel
    cases k with
    | zero =>
      go_wp2
      go_ret
      exact ⟨ret_slice (by have := HT.out; rw [List.take_zero, tz_nil] at this; rw [← this]; rfl), rfl⟩
    | succ k =>
      obtain ⟨b, off, rfl, hb, hc⟩ := hr k (by omega)
      by_cases h0 : l[k] = 0
      · have HT' : Hid (tz (l.take k) = tz l) := tz_step _ HT.out h0
        have h0' : (((l[k] : Nat) : Int) == 0) = true := by simp [h0]
        clear h0
        go_wp2
        go_round
        case rel => exact ⟨k, by omega, rfl, HT'⟩
        case measure => simp
      · have HL : Hid ((tz l).length = k + 1) := tz_stop _ HT.out h0
        have h0' : (((l[k] : Nat) : Int) == 0) = false := by simp [h0]
        clear h0
        go_wp2
        go_ret
        exact ⟨ret_slice HL.out.symm, rfl⟩
end Go.Proofs.YtbldlibijojbjaaGreatDoor.GB

namespace Go.Proofs.YtbldlibijojbjaaGreatDoor.GB
set_option linter.unusedVariables false
set_option linter.unusedSimpArgs false
open Go.RowKit
theorem can_empty (s : ByteArray) (h : s.size = 0) : canB s.data.toList = false := by
  have e : s.data.toList = [] := List.eq_nil_of_length_eq_zero (by rw [bytes_len]; exact h)
  rw [e]; rfl
set_option maxHeartbeats 1000000 in
theorem zValid_any (s : ByteArray) (w : World) (hs : s.size ≤ 9223372036854775807) :
    Calls Tryz.prog 106 #[.string s] w fun e w' => e = .returned (.bool (canB s.data.toList)) ∧ w = w' := by
  go_enter Tryz.func106, Tryz.ntmps106
  go_wp2
  go_loop [3] (fun v => ∃ k : Nat, k ≤ s.size ∧ v = .int .i64 (k : Int) ∧ Hid (AllDig s k)) (fun v => s.size - (intOf v).toNat)
  case atStart => exact ⟨0, Nat.zero_le _, rfl, fun j hj h => by omega⟩
  case round =>
    obtain ⟨k, hk, rfl, HA⟩ := hrel
    by_cases hlt : k < s.size
    · by_cases h1 : ((s[k]'hlt).toNat : Int) < 48
      · go_wp2
        go_ret
        exact ⟨ret_bool (can_bad s k hlt (by unfold isDigB; simp; omega)).symm, rfl⟩
      · by_cases h2 : (57 : Int) < ((s[k]'hlt).toNat : Int)
        · go_wp2
          go_ret
          exact ⟨ret_bool (can_bad s k hlt (by unfold isDigB; simp; omega)).symm, rfl⟩
        · have HB : Hid (AllDig s (k + 1)) := HA.out.step hlt (by omega) (by omega)
          go_wp2
          go_round
          case rel => exact ⟨k + 1, by omega, by go_num, HB⟩
          case measure => simp [intOf]; omega
    · have hke : k = s.size := by omega
      have HA2 : Hid (AllDig s s.size) := by rw [← hke]; exact HA
      clear HA
      by_cases s0 : s.size = 0
      · have HC := Lib.hid (can_empty s s0)
        have e1 : ((s.size : Int) == 1) = false := by rw [beq_eq_false_iff_ne]; omega
        have e2 : ¬ (1 : Int) < (s.size : Int) := by omega
        go_wp2
        go_ret
        exact ⟨by rw [HC.out]; rfl, rfl⟩
      · have p0 : 0 < s.size := by omega
        by_cases s1 : s.size = 1
        · have HC := Lib.hid (can_good s p0 (fun h => by omega) (fun j hj => HA2.out j hj hj))
          have e1 : ((s.size : Int) == 1) = true := by rw [s1]; rfl
          go_wp2
          go_ret
          exact ⟨by rw [HC.out]; rfl, rfl⟩
        · have e1 : ((s.size : Int) == 1) = false := by rw [beq_eq_false_iff_ne]; omega
          have e2 : (1 : Int) < (s.size : Int) := by omega
          cases hz : (((s[0]'p0).toNat : Int) == 48)
          · have HC := Lib.hid (can_good s p0 (fun h e => by rw [e] at hz; simp at hz) (fun j hj => HA2.out j hj hj))
            go_wp2
            go_ret
            exact ⟨by rw [HC.out]; show Ending.returned (.bool (((s[0]'p0).toNat : Int) != 48)) = _; rw [bne, hz]; rfl, rfl⟩
          · have HC := Lib.hid (can_zero s e2 p0 hz)
            go_wp2
            go_ret
            exact ⟨by rw [HC.out]; show Ending.returned (.bool (((s[0]'p0).toNat : Int) != 48)) = _; rw [bne, hz]; rfl, rfl⟩
end Go.Proofs.YtbldlibijojbjaaGreatDoor.GB

namespace Go.Proofs.YtbldlibijojbjaaGreatDoor.GB
set_option linter.unusedVariables false
set_option linter.unusedSimpArgs false
open Go.RowKit
set_option maxHeartbeats 1000000 in
set_option maxRecDepth 100000 in
theorem zCmp_any (A B : Option Addr) (ca cb n m : Nat) (a b : Nat) (w : World) (hn : (wds a).length = n) (hm : (wds b).length = m) (hla : n ≤ 1099511627776) (hlb : m ≤ 1099511627776)
    (ha : RdN w A (wds a)) (hb : RdN w B (wds b)) :
    Calls Tryz.prog 110 #[.slice A n ca, .slice B m cb] w fun e w' => e = .returned (.int .i64 (cmpZ a b)) ∧ Ext w w' := by
  by_cases hne : n = m
  · subst hne
    have hne' : ((n : Int) == (n : Int)) = true := by simp
    have hlen : Hid ((wds a).length = (wds b).length) := hn.trans hm.symm
    have HN := Lib.hid hn
    have HM := Lib.hid hm
    clear hn hm
    go_enter Tryz.func110, Tryz.ntmps110
    go_wp2
    go_loopw [5] (fun i wr => ∃ (j : Nat), j ≤ n ∧ i = .int .i64 ((j : Int) - 1) ∧ Hid (SameFrom (wds a) (wds b) j) ∧ Hid (Ext w wr)) (fun i _ => (intOf i + 1).toNat)
    case atStart => exact ⟨n, Nat.le_refl _, rfl, by unfold Hid SameFrom; rw [List.drop_eq_nil_of_le (by rw [HN.out]; omega), List.drop_eq_nil_of_le (by rw [HM.out]; omega)], Ext.rfl' w⟩
    case round =>
      obtain ⟨j, hj, rfl, HS, HE⟩ := hrel
      cases j with
      | zero =>
        have HZ : Hid (cmpZ a b = 0) := by
          have h : wds a = wds b := HS.out
          show cmpZ a b = 0
          rw [wds_inj h, cmpZ_eq]
        go_wp2
        go_ret
        exact ⟨by rw [HZ.out]; rfl, HE.out⟩
      | succ j =>
        have hj1 : (((j + 1 : Nat) : Int) - 1) = (j : Int) := by omega
        rw [hj1]
        have hja : j < (wds a).length := by have := HN.out; omega
        have hjb : j < (wds b).length := by have := HM.out; omega
        obtain ⟨ba, fa, rfl, hba, hca⟩ := ha.ext HE.out j hja
        obtain ⟨bb, fb, rfl, hbb, hcb⟩ := hb.ext HE.out j hjb
        have H1 : Hid ((wds a)[j] = wd (wds a) j) := (wd_lt hja).symm
        have H2 : Hid ((wds b)[j] = wd (wds b) j) := (wd_lt hjb).symm
        generalize (wds a)[j] = x at hca H1
        generalize (wds b)[j] = y at hcb H2
        have q0 := hca
        have q1 := hcb
        by_cases hlt : x < y
        · have h1 : (x : Int) < (y : Int) := by omega
          have HL : Hid (cmpZ a b = -1) := by
            have := word_lt (ok_wds a) HS.out (by rw [← H1.out, ← H2.out]; exact hlt)
            rw [val_wds, val_wds] at this
            exact cmpZ_lt this
          clear hlt hja hjb
          go_wp2
          go_quiet (fail)
          all_goals go_wp2
          go_ret
          exact ⟨by rw [HL.out]; rfl, HE.out.drN _⟩
        · have h1 : ¬ (x : Int) < (y : Int) := by omega
          by_cases hgt : y < x
          · have h2 : (y : Int) < (x : Int) := by omega
            have HL : Hid (cmpZ a b = 1) := by
              have := word_lt (ok_wds b) HS.out.symm (by rw [← H1.out, ← H2.out]; exact hgt)
              rw [val_wds, val_wds] at this
              exact cmpZ_gt this
            clear hgt hja hjb hlt
            go_wp2
            go_quiet (fail)
            all_goals go_wp2
            have c1 : (wr.drewN nq).cell? ⟨ba, fa + j, none⟩ = some (.int .u32 (x : Int)) := hca
            have c2 : (wr.drewN nq).cell? ⟨bb, fb + j, none⟩ = some (.int .u32 (y : Int)) := hcb
            have HE2 : Hid (Ext w (wr.drewN nq)) := HE.out.drN _
            clear hca hcb q0 q1 HE hba hbb
            generalize wr.drewN nq = W at *
            go_quiet (fail)
            all_goals go_wp2
            go_ret
            exact ⟨by rw [HL.out]; rfl, HE2.out.drN _⟩
          · have h2 : ¬ (y : Int) < (x : Int) := by omega
            have HS' : Hid (SameFrom (wds a) (wds b) j) := HS.out.step hja hjb (by rw [← H1.out, ← H2.out]; omega)
            clear hgt hja hjb hlt
            go_wp2
            go_quiet (fail)
            all_goals go_wp2
            have c1 : (wr.drewN nq).cell? ⟨ba, fa + j, none⟩ = some (.int .u32 (x : Int)) := hca
            have c2 : (wr.drewN nq).cell? ⟨bb, fb + j, none⟩ = some (.int .u32 (y : Int)) := hcb
            have HE2 : Hid (Ext w (wr.drewN nq)) := HE.out.drN _
            clear hca hcb q0 q1 HE hba hbb
            generalize wr.drewN nq = W at *
            go_quiet (fail)
            all_goals go_wp2
            go_roundw
            case rel => exact ⟨j, by omega, rfl, HS', HE2.out.drN _⟩
            case measure => simp [intOf]
  · have HN := Lib.hid hn
    have HM := Lib.hid hm
    by_cases hlt : n < m
    · have HL : Hid (cmpZ a b = -1) := by
        rcases Nat.lt_or_ge a b with h1 | h1
        · exact cmpZ_lt h1
        · have := wds_mono h1; omega
      have h1 : (n : Int) < (m : Int) := by omega
      have hne' : ((n : Int) == (m : Int)) = false := by rw [beq_eq_false_iff_ne]; omega
      clear hn hm hne
      go_enter Tryz.func110, Tryz.ntmps110
      go_wp2
      go_ret
      exact ⟨by rw [HL.out]; rfl, Ext.rfl' w⟩
    · have HL : Hid (cmpZ a b = 1) := by
        rcases Nat.lt_or_ge b a with h1 | h1
        · exact cmpZ_gt h1
        · have := wds_mono h1; omega
      have h1 : ¬ (n : Int) < (m : Int) := by omega
      have hne' : ((n : Int) == (m : Int)) = false := by rw [beq_eq_false_iff_ne]; omega
      clear hn hm hne
      go_enter Tryz.func110, Tryz.ntmps110
      go_wp2
      go_ret
      exact ⟨by rw [HL.out]; rfl, Ext.rfl' w⟩
end Go.Proofs.YtbldlibijojbjaaGreatDoor.GB

namespace Go.Proofs.YtbldlibijojbjaaGreatDoor.GB
set_option linter.unusedVariables false
set_option linter.unusedSimpArgs false
open Go.RowKit
theorem drop2_lt {l : List Nat} (h : Ok l) (hl : l.length ≤ 2) (j : Nat) : val (l.drop j) < 1000000000000000000 := by
  have h1 : Ok (l.drop j) := fun w hw => h w (List.mem_of_mem_drop hw)
  have h2 := val_lt h1
  have h3 : BB ^ (l.drop j).length ≤ BB ^ 2 := Nat.pow_le_pow_right BB_pos (by simp; omega)
  have h4 : BB ^ 2 = 1000000000000000000 := by decide
  omega
set_option maxHeartbeats 1000000 in
set_option maxRecDepth 100000 in
theorem zword_any (A : Option Addr) (c n : Nat) (a : Nat) (w : World) (hn : (wds a).length = n) (h2 : n ≤ 2) (hr : RdN w A (wds a)) :
    Calls Tryz.prog 139 #[.slice A n c] w fun e w' => e = .returned (.int .u64 (a : Int)) ∧ w = w' := by
  have HN := Lib.hid hn
  have hok := ok_wds a
  have HB : Hid (∀ j, val ((wds a).drop j) < 1000000000000000000) := drop2_lt hok (by omega)
  clear hn
  go_enter Tryz.func139, Tryz.ntmps139
  go_wp2
  go_loop [3, 4] (fun o i => ∃ j : Nat, j ≤ n ∧ i = .int .i64 ((j : Int) - 1) ∧ ∃ z : Nat, o = .int .u64 (z : Int) ∧ z < 1000000000000000000 ∧ Hid (z = val ((wds a).drop j))) (fun _ i => (intOf i + 1).toNat)
  case atStart => exact ⟨n, Nat.le_refl _, rfl, 0, rfl, by omega, by show 0 = _; rw [List.drop_eq_nil_of_le (by have : (wds a).length = n := HN.out; omega)]; rfl⟩
  case round =>
    obtain ⟨j, hj, rfl, z, rfl, hz, HZ⟩ := hrel
    cases j with
    | zero =>
      have HA : Hid (z = a) := by
        have := HZ.out
        rw [List.drop_zero, val_wds] at this; exact this
      go_wp2
      go_ret
      exact ⟨by rw [← show z = a from HA.out]; rfl, rfl⟩
    | succ j =>
      have hj1 : (((j + 1 : Nat) : Int) - 1) = (j : Int) := by omega
      rw [hj1]
      have hja : j < (wds a).length := by have : (wds a).length = n := HN.out; omega
      obtain ⟨ba, fa, rfl, hba, hca⟩ := hr j hja
      have hv : val ((wds a).drop j) = (wds a)[j] + BB * z := by
        rw [List.drop_eq_getElem_cons hja, show z = _ from HZ.out]; rfl
      have hb2 : (wds a)[j] + BB * z < 1000000000000000000 := by rw [← hv]; exact HB.out j
      have hw : (wds a)[j] < BB := hok _ (List.getElem_mem hja)
      have HV := Lib.hid hv
      generalize (wds a)[j] = x at *
      have e1 : BB = 1000000000 := rfl
      rw [e1] at hb2 hw
      have HX : Hid (x + 1000000000 * z = val ((wds a).drop j)) := by
        have := HV.out; rw [e1] at this; exact this.symm
      clear hv e1 HV
      go_wp2
      go_round
      case rel => exact ⟨j, by omega, rfl, x + 1000000000 * z, by go_num, hb2, HX⟩
      case measure => simp [intOf]
/-- The block behind a slice of words is one of words. -/
def Tg (w : World) (A : Option Addr) : Prop := ∀ a, A = some a → ∃ cs fr, w.heap[a.block]? = some (.cells cs 124 fr)
theorem Tg.ext {w w' : World} {A : Option Addr} (h : Tg w A) (hE : Ext w w') : Tg w' A := fun a ha => by
  obtain ⟨cs, fr, h1⟩ := h a ha
  exact ⟨cs, fr, (hE.block a.block (Array.getElem?_eq_some_iff.1 h1).1).trans h1⟩
theorem Tg.nil0 (w : World) : Tg w none := fun a ha => by cases ha
/-- A slice that reads as the words of n. -/
def SlN (w : World) (v : Value) (n : Nat) : Prop := ∃ A c, v = .slice A (wds n).length c ∧ (wds n).length ≤ c ∧ c ≤ 9223372036854775807 ∧ RdN w A (wds n) ∧ Tg w A
theorem SlN.ext {w w' : World} {v : Value} {n : Nat} (h : SlN w v n) (hb : Ext w w') : SlN w' v n := by
  obtain ⟨A, c, rfl, h1, h2, h3, h4⟩ := h
  exact ⟨A, c, rfl, h1, h2, h3.ext hb, h4.ext hb⟩
theorem SlN.nil (w : World) : SlN w (.slice none 0 0) 0 := ⟨none, 0, by rw [wds_zero]; rfl, by rw [wds_zero]; exact Nat.le_refl _, by decide, fun j hj => by (rw [wds_zero] at hj; simp at hj), Tg.nil0 w⟩
theorem RdN.lit (W : World) (l : List Nat) (T : TypeId) : RdN (W.alloc (.cells (u32s l).toArray T)) (some ⟨W.heap.size, 0, none⟩) l := by
  intro j hj
  refine ⟨W.heap.size, 0, rfl, by simp, ?_⟩
  rw [Lib.cell_of_heap (World.alloc_heap_new W _)]
  simp [hj, u32s]
theorem RdN.tz {w : World} {A : Option Addr} {l : List Nat} (h : RdN w A l) : RdN w A (GB.tz l) := by
  obtain ⟨k, hk, e⟩ := tz_prefix l
  rw [e]; exact h.take k
theorem trim_sl {W : World} {A : Option Addr} {c : Nat} {l : List Nat} {n : Nat} (h : RdN W A l) (hl : l.length ≤ c) (hm : c ≤ 9223372036854775807) (ho : Ok l) (hv : val l = n) (ht : Tg W A) : SlN W (.slice A (tz l).length c) n := by
  have e : tz l = wds n := by rw [tz_wds ho, hv]
  have hle : (tz l).length ≤ l.length := by obtain ⟨k, hk, e2⟩ := tz_prefix l; rw [e2]; simp; omega
  refine ⟨A, c, by rw [e], by rw [← e]; omega, hm, ?_, ht⟩
  rw [← e]; exact h.tz
theorem Tg.lit (W : World) (l : List Nat) : Tg (W.alloc (.cells (u32s l).toArray 124)) (some ⟨W.heap.size, 0, none⟩) := fun a ha => by
  cases ha
  exact ⟨_, _, World.alloc_heap_new W _⟩
theorem small_val (n : Nat) : val [n % BB, n / BB] = n := by
  show n % BB + BB * (n / BB + BB * 0) = n
  have := Nat.mod_add_div n BB
  omega
set_option maxHeartbeats 1000000 in
set_option maxRecDepth 100000 in
theorem zSmall_any (n : Nat) (w : World) (hn : n < 4294967296) :
    Calls Tryz.prog 109 #[.int .u32 (n : Int)] w fun e w' => ∃ v, e = .returned v ∧ SlN w' v n ∧ Ext w w' := by
  have hR := RdN.lit w [n % BB, n / BB] 124
  have hS := trim_sl (n := n) hR (Nat.le_refl 2) (by decide) (by intro x hx; simp at hx; rcases hx with rfl | rfl; exact Nat.mod_lt _ BB_pos; exact Nat.div_lt_of_lt_mul (by rw [BB_eq]; omega)) (small_val n) (Tg.lit w _)
  have hT := ztrim_any (some ⟨w.heap.size, 0, none⟩) 2 [n % BB, n / BB] _ (Nat.le_refl 2) (by decide) hR
  have hE := (Ext.rfl' w).al (.cells (u32s [n % BB, n / BB]).toArray 124)
  have e1 : ((n % BB : Nat) : Int) = (n : Int) % 1000000000 := by rw [BB_eq]; omega
  have e2 : ((n / BB : Nat) : Int) = (n : Int) / 1000000000 := by rw [BB_eq]; omega
  have e3 : (u32s [n % BB, n / BB]).toArray = #[.int .u32 ((n : Int) % 1000000000), .int .u32 ((n : Int) / 1000000000)] := by simp [u32s, e1, e2]
  rw [e3] at hS hT hE
  have HS := Lib.hid hS
  have HE := Lib.hid hE
  generalize (tz [n % BB, n / BB]).length = tl at *
  have HT := Lib.hid hT
  clear hR hS hT hE e1 e2 e3
  go_enter Tryz.func109, Tryz.ntmps109
  go_wp2_with fail
  refine (show Calls Tryz.prog 138 #[.slice (some ⟨w.heap.size, 0, none⟩) 2 2] _ _ from HT.out).mono ?_
  rintro e w1 ⟨rfl, rfl⟩
  go_wp2_with fail
  go_ret
  exact ⟨_, rfl, HS.out, HE.out⟩
end Go.Proofs.YtbldlibijojbjaaGreatDoor.GB

namespace Go.Proofs.YtbldlibijojbjaaGreatDoor.GB
set_option linter.unusedVariables false
set_option linter.unusedSimpArgs false
open Go.RowKit Lib
theorem OwnN.sln {w : World} {base c n : Nat} {A : Option Addr} {l : List Nat} (h : OwnN w base (.slice A l.length c) l) (ho : Ok l) (hv : val l = n) : SlN w (.slice A (tz l).length c) n := by
  have ht : Tg w A := by
    intro a ha
    rcases h.2 with ⟨hv2, _⟩ | ⟨g, cap, cur, hv2, hg, hh, _⟩
    · injection hv2 with e1; rw [e1] at ha; cases ha
    · injection hv2 with e1; rw [e1] at ha; cases ha; exact ⟨cur, _, hh⟩
  obtain ⟨A', c', hv', h1, h2, h3, -⟩ := h.parts
  injection hv' with e1 e2 e3
  subst e1 e3
  exact trim_sl h3 h1 (by unfold maxLen at h2; omega) ho hv ht
theorem chunk_len (l : List UInt8) (m i : Nat) : ((l.take i).drop m).length ≤ i - m := by rw [List.length_drop, List.length_take]; omega
theorem chunk_step (l : List UInt8) (m i : Nat) (h : i < l.length) (hm : m ≤ i) : pval ((l.take (i + 1)).drop m) = pval ((l.take i).drop m) * 10 + (l[i].toNat - 48) := by
  have hl : (l.take i).length = i := by rw [List.length_take]; omega
  rw [List.take_succ_eq_append_getElem h, List.drop_append_of_le_length (by rw [hl]; exact hm), pval_snoc]
theorem chunk_nil (l : List UInt8) (m : Nat) (h : m ≤ l.length) : pval ((l.take m).drop m) = 0 := by
  rw [List.drop_eq_nil_of_le (by rw [List.length_take]; omega)]; rfl
set_option maxHeartbeats 2000000 in
set_option maxRecDepth 100000 in
theorem zFrom_any (s : ByteArray) (w : World) (n : Nat) (hn : s.data.toList = decDigits n) (hs : s.size ≤ 1099511627776) :
    Calls Tryz.prog 108 #[.string s] w fun e w' => ∃ v, e = .returned v ∧ SlN w' v n ∧ Ext w w' := by
  obtain ⟨i0, hi, hz0, hz1, hz2⟩ := info_parts Tryz.infoU32
  have HN := Lib.hid hn
  have HSZ : Hid (s.size = s.data.toList.length) := (bytes_len s).symm
  have HD : Hid (∀ c ∈ s.data.toList, isDig c) := by intro c hc; rw [hn] at hc; exact dec_dig n c hc
  clear hn
  go_enter Tryz.func108, Tryz.ntmps108
  go_wp2
  go_loopw [3, 4] (fun v x wr => ∃ (z : Int) (r : List Nat), x = .int .i64 z ∧ -9 ≤ z ∧ z ≤ s.size ∧ r.length + z.toNat ≤ s.size ∧ Hid (OwnN wr w.heap.size v r) ∧ Hid (RInv s.data.toList z.toNat r) ∧ Hid (Ext w wr)) (fun _ x _ => (RowKit.intOf x).toNat)
  case atStart => exact ⟨s.size, [], rfl, by omega, Int.le_refl _, by simp, ⟨by simp [u32s], .inl ⟨rfl, rfl⟩⟩, by unfold Hid; rw [Int.toNat_natCast, HSZ.out]; exact RInv.start _, Ext.rfl' w⟩
  case round =>
    obtain ⟨z, r, rfl, hz1', hz2', hz3, HO, HR, HE⟩ := hrel
    by_cases hk : 0 < z
    · obtain ⟨k, rfl⟩ : ∃ k : Nat, z = (k : Int) := ⟨z.toNat, by omega⟩
      obtain ⟨m, hm⟩ : ∃ m, m = k - 9 := ⟨_, rfl⟩
      have hmx : max (0 : Int) ((k : Int) - 9) = (m : Int) := by omega
      have hmx2 : (if (0 : Int) < (k : Int) - 9 then (k : Int) - 9 else 0) = (m : Int) := by split <;> omega
      have hks : k ≤ s.size := by omega
      have hmk : m ≤ k := by omega
      have hk9 : k ≤ m + 9 := by omega
      have HM := Lib.hid hm
      clear hm
      obtain ⟨A, c, hu, -⟩ := HO.out.parts
      subst hu
      go_wp2
      go_loopw [5, 6] (fun u x wr => ∃ (i v : Nat), m ≤ i ∧ i ≤ k ∧ x = .int .i64 i ∧ u = .int .u32 (v : Int) ∧ Hid (v = pval ((s.data.toList.take i).drop m)) ∧ Hid (OwnN wr w.heap.size (.slice A r.length c) r) ∧ Hid (Ext w wr)) (fun _ x _ => k - (RowKit.intOf x).toNat)
      case atStart => exact ⟨m, 0, Nat.le_refl _, hmk, rfl, rfl, (chunk_nil _ _ (by rw [← HSZ.out]; omega)).symm, HO, HE⟩
      case round =>
        clear HO HE
        obtain ⟨i, v, hmi, hik, rfl, rfl, HV, HO, HE⟩ := hrel
        by_cases hlt : i < k
        · have his : i < s.size := by omega
          have hd : isDig (s[i]'his) := HD.out _ (by rw [← bytes_get s i his]; exact List.getElem_mem _)
          have hdl : 48 ≤ (s[i]'his).toNat ∧ (s[i]'his).toNat ≤ 57 := hd
          have hvb : v < 100000000 := by
            have h1 := pval_lt ((s.data.toList.take i).drop m) (fun c hc => HD.out c (List.mem_of_mem_take (List.mem_of_mem_drop hc)))
            have h2 := chunk_len s.data.toList m i
            have h3 : 10 ^ ((s.data.toList.take i).drop m).length ≤ 10 ^ 8 := Nat.pow_le_pow_right (by omega) (by omega)
            have h4 : (10 : Nat) ^ 8 = 100000000 := by decide
            have h5 : v = _ := HV.out
            omega
          have HV2 : Hid (v * 10 + ((s[i]'his).toNat - 48) = pval ((s.data.toList.take (i + 1)).drop m)) := by
            unfold Hid
            rw [chunk_step _ _ _ (by rw [← HSZ.out]; exact his) hmi, ← HV.out]; rfl
          generalize hq : (s[i]'his).toNat = q at *
          obtain ⟨q1, q2⟩ := hdl
          clear hd
          go_wp2
          go_roundw
          case rel => exact ⟨i + 1, v * 10 + (q - 48), by omega, by omega, by go_num, by go_num, HV2, HO, HE⟩
          case measure => simp [RowKit.intOf]; omega
        · have hie : i = k := by omega
          subst hie
          have HR2 := HR.out.step HD.out (by rw [← HSZ.out]; omega) (by omega)
          rw [Int.toNat_natCast] at HR2
          rw [← show m = i - 9 from HM.out, ← show v = _ from HV.out] at HR2
          have HR3 := Lib.hid HR2
          have hbig : (r.length + 1) * 4 ≤ 140737488355328 := by omega
          have hmax : r.length + 1 ≤ maxLen := by unfold maxLen; omega
          have hbase : w.heap.size ≤ wr.heap.size := HE.out.size
          clear HR2 HR HV
          go_wp2_with (at_builtin; (refine wpList_append_own _ rfl _ _ 82 rfl w.heap.size 124 i0 (.int .u32 0) 1 4 Tryz.underlying82 hi hz0 hz1 hz2 rfl (by decide) _ r.length (u32s r) rfl (World.ownsRow.alloc HO.out _) ⟨wr.heap.size, 0, none⟩ 1 1 _ rfl rfl (cell_one_new _ _ _) (by simp [Value.oneCell']) hmax hbig (by simp; omega) ?_); intro v' w2 hown2 hgrow2 _)
          all_goals
            obtain ⟨p1, p2⟩ := own_push HO.out HE.out hown2 hgrow2 rfl
            go_roundw
            case rel => exact ⟨(i : Int) - 9, r ++ [v], by go_num, by omega, by omega, by simp; omega, p1, by unfold Hid; rw [show ((i : Int) - 9).toNat = m by omega]; exact HR3, p2⟩
            case measure => simp [RowKit.intOf]; omega
    · have hz0' : z.toNat = 0 := by omega
      obtain ⟨hOk, hval⟩ := RInv.done (l := s.data.toList) (r := r) (by have := HR.out; rwa [hz0'] at this)
      rw [HN.out, pval_dec] at hval
      obtain ⟨A, c, rfl, hlc, hcm, hrd, hbk⟩ := HO.out.parts
      have hcm' : c ≤ 9223372036854775807 := by unfold maxLen at hcm; omega
      have HS := Lib.hid (OwnN.sln HO.out hOk hval)
      have hT := ztrim_any A c r wr hlc hcm' hrd
      generalize (tz r).length = tl at *
      have HT := Lib.hid hT
      clear hT hval
      go_wp2_with fail
      refine HT.out.mono ?_
      rintro e w1 ⟨rfl, rfl⟩
      go_wp2_with fail
      go_ret
      exact ⟨_, rfl, HS.out, HE.out⟩
end Go.Proofs.YtbldlibijojbjaaGreatDoor.GB

namespace Go.Proofs.YtbldlibijojbjaaGreatDoor.GB
set_option linter.unusedVariables false
set_option linter.unusedSimpArgs false
open Go.RowKit Lib
/-! Digits of words, the least one first. -/
structure OI (n : Nat) (l : List Nat) (i : Nat) (L : List UInt8) : Prop where
  dig : ∀ c ∈ L, isDig c
  eq : pval L.reverse + 10 ^ L.length * val (l.drop i) = n
  len : L.length ≤ 9 * i
  top : i = l.length → L ≠ [] ∧ L.getLast? ≠ some 48
structure TI (n : Nat) (l : List Nat) (i k w : Nat) (L : List UInt8) : Prop where
  dig : ∀ c ∈ L, isDig c
  eq : pval L.reverse + 10 ^ L.length * (w + 10 ^ (9 - k) * val (l.drop (i + 1))) = n
  lt : w < 10 ^ (9 - k)
  k9 : k ≤ 9
  len : L.length ≤ 9 * i + k
  top : i + 1 = l.length → w = 0 → L ≠ [] ∧ L.getLast? ≠ some 48
theorem OI.start (n : Nat) (h : 0 < n) : OI n (wds n) 0 [] := by
  refine ⟨fun c hc => absurd hc (by simp), ?_, by simp, fun e => ?_⟩
  · rw [List.drop_zero, val_wds]; show 0 + 10 ^ 0 * n = n; omega
  · exfalso
    have : wds n = [] := List.eq_nil_of_length_eq_zero e.symm
    have h2 := val_wds n
    rw [this] at h2
    have : val [] = 0 := rfl
    omega
theorem OI.word {n : Nat} {l : List Nat} {i : Nat} {L : List UInt8} (h : OI n l i L) (ho : Ok l) (ht : l.getLast? ≠ some 0) (hi : i < l.length) : TI n l i 0 l[i] L := by
  have hw : l[i] < BB := ho _ (List.getElem_mem hi)
  refine ⟨h.dig, ?_, by rw [Nat.sub_zero, ten9]; exact hw, by omega, by have := h.len; omega, fun e h0 => ?_⟩
  · have := h.eq
    rw [List.drop_eq_getElem_cons hi] at this
    rw [Nat.sub_zero, ten9]; exact this
  · exfalso
    apply ht
    rw [List.getLast?_eq_getElem?, show l.length - 1 = i by omega, List.getElem?_eq_getElem hi, h0]
theorem ten_split (k w V : Nat) (h : k < 9) : w + 10 ^ (9 - k) * V = w % 10 + 10 * (w / 10 + 10 ^ (9 - (k + 1)) * V) := by
  have e : 10 ^ (9 - k) = 10 * 10 ^ (9 - (k + 1)) := by rw [show 9 - k = (9 - (k + 1)) + 1 by omega, Nat.pow_succ, Nat.mul_comm]
  rw [e, Nat.mul_assoc, Nat.mul_add]
  omega
theorem TI.step {n : Nat} {l : List Nat} {i k w : Nat} {L : List UInt8} (h : TI n l i k w L) (hk : k < 9) (hc : i + 1 < l.length ∨ 0 < w) : TI n l i (k + 1) (w / 10) (L ++ [UInt8.ofNat (48 + w % 10)]) := by
  have hd : (UInt8.ofNat (48 + w % 10)).toNat = 48 + w % 10 := dig_ofNat _ (Nat.mod_lt _ (by omega))
  have e : 10 ^ (9 - k) = 10 * 10 ^ (9 - (k + 1)) := by rw [show 9 - k = (9 - (k + 1)) + 1 by omega, Nat.pow_succ, Nat.mul_comm]
  refine ⟨?_, ?_, ?_, by omega, ?_, ?_⟩
  · intro c hcc
    rcases List.mem_append.1 hcc with h1 | h1
    · exact h.dig c h1
    · rw [List.mem_singleton.1 h1]; unfold isDig; rw [hd]; omega
  · have := h.eq
    rw [ten_split k w _ hk] at this
    rw [List.reverse_append, List.reverse_singleton, List.singleton_append, pval_cons, hd, List.length_reverse, List.length_append, List.length_singleton, Nat.pow_succ]
    generalize w / 10 + 10 ^ (9 - (k + 1)) * val (l.drop (i + 1)) = X at *
    rw [Nat.mul_add] at this
    have e1 : 10 ^ L.length * (10 * X) = 10 ^ L.length * 10 * X := by rw [Nat.mul_assoc]
    have e2 : (48 + w % 10 - 48) * 10 ^ L.length = 10 ^ L.length * (w % 10) := by rw [Nat.add_sub_cancel_left, Nat.mul_comm]
    omega
  · have := h.lt; rw [e] at this; exact Nat.div_lt_of_lt_mul this
  · have := h.len; simp; omega
  · intro e1 e2
    refine ⟨by simp, ?_⟩
    rw [List.getLast?_append, List.getLast?_singleton]
    intro h3
    have h4 : UInt8.ofNat (48 + w % 10) = 48 := by simpa using h3
    rw [h4] at hd
    have : (48 : UInt8).toNat = 48 := rfl
    omega
theorem TI.last {n : Nat} {l : List Nat} {i k w : Nat} {L : List UInt8} (h : TI n l i k w L) (hi : i < l.length) (hc : ¬ (k < 9 ∧ (i + 1 < l.length ∨ 0 < w))) : OI n l (i + 1) L := by
  have hk := h.k9
  have hlt := h.lt
  have h0 : w = 0 := by
    by_cases h9 : k = 9
    · subst h9; simp at hlt; exact hlt
    · omega
  have he : 10 ^ (9 - k) * val (l.drop (i + 1)) = val (l.drop (i + 1)) := by
    by_cases h9 : k = 9
    · subst h9; simp
    · have : l.drop (i + 1) = [] := List.drop_eq_nil_of_le (by omega)
      rw [this]; show _ * 0 = 0; omega
  refine ⟨h.dig, ?_, by have := h.len; omega, fun e => h.top e h0⟩
  have := h.eq
  rw [he, h0, Nat.zero_add] at this
  exact this
theorem OI.fin {n : Nat} {l : List Nat} {L : List UInt8} (h : OI n l l.length L) : L.reverse = decDigits n ∧ L ≠ [] := by
  obtain ⟨t1, t2⟩ := h.top rfl
  have he := h.eq
  rw [List.drop_length, show val [] = 0 from rfl, Nat.mul_zero, Nat.add_zero] at he
  have hc : Canon L.reverse := by
    refine ⟨by simpa using t1, fun c hcc => h.dig c (by simpa using hcc), fun _ => ?_⟩
    rw [List.head?_reverse]; exact t2
  exact ⟨by rw [← he, dec_pval hc], t1⟩
/-! Turning around. -/
def rv (L : List UInt8) (i : Nat) : List UInt8 := (List.range L.length).map fun j => if j < i ∨ L.length ≤ j + i then L.getD (L.length - 1 - j) 0 else L.getD j 0
theorem rv_len (L : List UInt8) (i : Nat) : (rv L i).length = L.length := by simp [rv]
theorem rv_zero (L : List UInt8) : rv L 0 = L := by
  apply List.ext_getElem (by rw [rv_len])
  intro j h1 h2
  simp only [rv, List.getElem_map, List.getElem_range]
  rw [if_neg (by omega)]
  simp [h2]
theorem rv_get (L : List UInt8) (i j : Nat) (h : j < (rv L i).length) (hj : i ≤ j) (hk : j + i < L.length) : (rv L i)[j] = L.getD j 0 := by
  simp only [rv, List.getElem_map, List.getElem_range]
  rw [if_neg (by omega)]
theorem rv_swap (L : List UInt8) (i : Nat) (h : 2 * i + 1 < L.length) : ((rv L i).set i (L.getD (L.length - 1 - i) 0)).set (L.length - 1 - i) (L.getD i 0) = rv L (i + 1) := by
  apply List.ext_getElem (by simp [rv_len])
  intro j h1 h2
  have hj : j < L.length := by rw [rv_len] at h2; exact h2
  rw [List.getElem_set, List.getElem_set]
  simp only [rv, List.getElem_map, List.getElem_range]
  by_cases e1 : L.length - 1 - i = j
  · rw [if_pos e1, if_pos (by omega), show L.length - 1 - j = i by omega]
  · rw [if_neg e1]
    by_cases e2 : i = j
    · subst e2
      rw [if_pos rfl, if_pos (by omega)]
    · rw [if_neg e2]
      by_cases e3 : j < i ∨ L.length ≤ j + i
      · rw [if_pos e3, if_pos (by omega)]
      · rw [if_neg e3, if_neg (by omega)]
theorem rv_end (L : List UInt8) (i : Nat) (h : L.length ≤ 2 * i + 1) : rv L i = L.reverse := by
  apply List.ext_getElem (by simp [rv_len])
  intro j h1 h2
  have hj : j < L.length := by rw [rv_len] at h1; exact h1
  simp only [rv, List.getElem_map, List.getElem_range, List.getElem_reverse]
  by_cases e : j < i ∨ L.length ≤ j + i
  · rw [if_pos e]; simp [List.getD, show L.length - 1 - j < L.length by omega]
  · rw [if_neg e]
    have : L.length - 1 - j = j := by omega
    simp [List.getD, hj, this]
/-! Rows of bytes. -/
def u8s (l : List UInt8) : List Value := l.map fun b => Value.int .u8 (b.toNat : Int)
theorem u8s_length (l : List UInt8) : (u8s l).length = l.length := by simp [u8s]
theorem u8s_append (a b : List UInt8) : u8s (a ++ b) = u8s a ++ u8s b := by simp [u8s]
theorem Tryz.infoU8 : (Tryz.prog.info? 5).map (fun i => (i.zero, i.size, i.bytes)) = some (some (.int .u8 0), 1, 1) := by kernel_rfl
def OwnB (w : World) (base : Nat) (v : Value) (l : List UInt8) : Prop := w.ownsRow base 5 1 v l.length (u8s l)
theorem OwnB.ext {w w' : World} {base : Nat} {v : Value} {l : List UInt8} (h : OwnB w base v l) (hb : Ext w w') : OwnB w' base v l :=
  World.ownsRow.kept h (row := none) ⟨hb.os, hb.tape, hb.output, hb.size, fun i hi _ => hb.block i hi⟩ (by cases v.ownBlock <;> simp)
theorem ownb_push {w wr w2 : World} {v v' : Value} {r : List UInt8} {o : Obj} {z : Int} {n : UInt8} (HO : OwnB wr w.heap.size v r) (HE : Ext w wr)
    (hown : w2.ownsRow w.heap.size 5 1 v' (r.length + 1) (u8s r ++ [.int .u8 z])) (hgrow : (wr.alloc o).grownBy w2 v.ownBlock) (hz : z = (n.toNat : Int)) : OwnB w2 w.heap.size v' (r ++ [n]) ∧ Ext w w2 := by
  subst hz
  refine ⟨?_, (HE.al o).gr hgrow ?_⟩
  · unfold OwnB
    rw [u8s_append, List.length_append]
    exact hown
  · intro k hk
    rcases HO.2 with ⟨rfl, _⟩ | ⟨g, cap, cur, rfl, hb, _⟩
    · simp [Value.ownBlock] at hk
    · have : g = k := by simpa [Value.ownBlock] using hk
      omega
theorem OwnB.at_ {w : World} {base : Nat} {v : Value} {l : List UInt8} (h : OwnB w base v l) (hne : 0 < l.length) : ∃ g c, v = .slice (some ⟨g, 0, none⟩) l.length c ∧ base ≤ g ∧ g < w.heap.size := by
  rcases h.2 with ⟨hv, h0⟩ | ⟨g, cap, cur, hv, hg, hh, h1, h2, h3, h4⟩
  · omega
  · exact ⟨g, cap, hv, hg, (Array.getElem?_eq_some_iff.1 hh).1⟩
theorem OwnB.cellAt {w : World} {base g c : Nat} {l : List UInt8} (h : OwnB w base (.slice (some ⟨g, 0, none⟩) l.length c) l) (j : Nat) (hj : j < l.length) : w.cell? ⟨g, j, none⟩ = some (.int .u8 (l[j].toNat : Int)) := by
  have := World.ownsRow.cellAt h j (by omega)
  rw [this]
  simp [u8s, hj]
theorem OwnB.store {w : World} {base g c : Nat} {l : List UInt8} (h : OwnB w base (.slice (some ⟨g, 0, none⟩) l.length c) l) (j : Nat) (x : UInt8) :
    OwnB (w.setCell ⟨g, j, none⟩ (.int .u8 (x.toNat : Int))) base (.slice (some ⟨g, 0, none⟩) (l.set j x).length c) (l.set j x) := by
  have := (World.ownsRow.stored h j (.int .u8 (x.toNat : Int))).1
  unfold OwnB
  rw [List.length_set]
  have e : u8s (l.set j x) = (u8s l).set j (.int .u8 (x.toNat : Int)) := by simp [u8s, List.map_set]
  rw [e]; exact this
/-- A row of n bytes in block g. -/
def AtB (w : World) (base g c n : Nat) (l : List UInt8) : Prop := l.length = n ∧ OwnB w base (.slice (some ⟨g, 0, none⟩) l.length c) l
theorem AtB.store {w : World} {base g c n : Nat} {l : List UInt8} (h : AtB w base g c n l) (j : Nat) (x : UInt8) : AtB (w.setCell ⟨g, j, none⟩ (.int .u8 (x.toNat : Int))) base g c n (l.set j x) := ⟨by rw [List.length_set]; exact h.1, h.2.store j x⟩
theorem AtB.cell {w : World} {base g c n : Nat} {l : List UInt8} (h : AtB w base g c n l) (j : Nat) (hj : j < n) : w.cell? ⟨g, j, none⟩ = some (.int .u8 ((l.getD j 0).toNat : Int)) := by
  have hj' : j < l.length := by rw [h.1]; exact hj
  rw [h.2.cellAt j hj']; simp [hj']
theorem AtB.drH {w : World} {base g c n : Nat} {l : List UInt8} (h : Hid (AtB w base g c n l)) : Hid (AtB w.drew base g c n l) := h
theorem bytes_back (l : List UInt8) : strOfNums (l.map fun b => (b.toNat : Int)) = ⟨l.toArray⟩ := by
  unfold strOfNums
  congr 2
  rw [List.map_map]
  conv => rhs; rw [← List.map_id l]
  apply List.map_congr_left
  intro b _
  simp
end Go.Proofs.YtbldlibijojbjaaGreatDoor.GB

namespace Go.Proofs.YtbldlibijojbjaaGreatDoor.GB
set_option linter.unusedVariables false
set_option linter.unusedSimpArgs false
open Go.RowKit
attribute [local go_sem ↓] Go.wp_at_zero Go.wp_at_succ
theorem wide_val (n : Nat) : val [n % BB, n / BB % BB, n / BB / BB] = n := by
  show n % BB + BB * (n / BB % BB + BB * (n / BB / BB + BB * 0)) = n
  have h1 := Nat.mod_add_div n BB
  have h2 := Nat.mod_add_div (n / BB) BB
  rw [Nat.mul_zero, Nat.add_zero, h2, h1]
set_option maxHeartbeats 1000000 in
set_option maxRecDepth 100000 in
theorem wide_any (n : Nat) (w : World) (hn : n < 1000000000000000000) :
    Calls Tryz.prog 140 #[.int .u64 (n : Int)] w fun e w' => ∃ v, e = .returned v ∧ SlN w' v n ∧ Ext w w' := by
  have hR := RdN.lit w [n % BB, n / BB % BB, n / BB / BB] 124
  have hlt : n / BB / BB < BB := by
    have h1 : n / BB < 1000000000 := Nat.div_lt_of_lt_mul (by rw [BB_eq]; omega)
    exact Nat.lt_of_le_of_lt (Nat.div_le_self _ _) (by rw [BB_eq] at *; exact h1)
  have hS := trim_sl (n := n) hR (Nat.le_refl 3) (by decide) (by intro x hx; simp at hx; rcases hx with rfl | rfl | rfl; exact Nat.mod_lt _ BB_pos; exact Nat.mod_lt _ BB_pos; exact hlt) (wide_val n) (Tg.lit w _)
  have hT := ztrim_any (some ⟨w.heap.size, 0, none⟩) 3 [n % BB, n / BB % BB, n / BB / BB] _ (Nat.le_refl 3) (by decide) hR
  have hE := (Ext.rfl' w).al (.cells (u32s [n % BB, n / BB % BB, n / BB / BB]).toArray 124)
  rw [BB_eq] at hlt
  have e1 : ((n % BB : Nat) : Int) = (n : Int) % 1000000000 := by rw [BB_eq]; omega
  have e2 : ((n / BB % BB : Nat) : Int) = (n : Int) / 1000000000 % 1000000000 := by rw [BB_eq]; omega
  have e4 : ((n / BB / BB : Nat) : Int) = (n : Int) / 1000000000 / 1000000000 := by rw [BB_eq]; omega
  have e3 : (u32s [n % BB, n / BB % BB, n / BB / BB]).toArray = #[.int .u32 ((n : Int) % 1000000000), .int .u32 ((n : Int) / 1000000000 % 1000000000), .int .u32 ((n : Int) / 1000000000 / 1000000000)] := by simp [u32s, e1, e2, e4]
  rw [e3] at hS hT hE
  have HS := Lib.hid hS
  have HE := Lib.hid hE
  generalize (tz [n % BB, n / BB % BB, n / BB / BB]).length = tl at *
  have HT := Lib.hid hT
  have w1 : ((n : Int) / 1000000000 / 1000000000) % 4294967296 = (n : Int) / 1000000000 / 1000000000 := by omega
  clear hR hS hT hE e1 e2 e3 e4 hlt
  go_enter Tryz.func140, Tryz.ntmps140
  go_wp2_with fail
  refine (show Calls Tryz.prog 138 #[.slice (some ⟨w.heap.size, 0, none⟩) 3 3] _ _ from HT.out).mono ?_
  rintro e w1 ⟨rfl, rfl⟩
  go_wp2_with fail
  go_ret
  exact ⟨_, rfl, HS.out, HE.out⟩
theorem SlN.uniq {w : World} {v : Value} {n m : Nat} (h : SlN w v n) (k : SlN w v m) : n = m := by
  obtain ⟨A, c, rfl, _, _, h1, _⟩ := h
  obtain ⟨B, d, e, _, _, h2, _⟩ := k
  injection e with e1 e2 e3
  subst e1 e3
  apply wds_inj
  apply List.ext_getElem e2
  intro j hj hj2
  obtain ⟨b1, o1, q1, _, c1⟩ := h1 j hj
  obtain ⟨b2, o2, q2, _, c2⟩ := h2 j hj2
  rw [q1] at q2
  injection q2 with q2
  injection q2 with q3 q4
  subst q3 q4
  rw [c1] at c2
  injection c2 with c2
  injection c2 with _ c2
  omega
open Classical in
/-- The number that a value stands for. -/
noncomputable def numS (w : World) (v : Value) : Nat := if h : ∃ n, SlN w v n then Classical.choose h else 0
theorem numS_eq {w : World} {v : Value} {n : Nat} (h : SlN w v n) : numS w v = n := by
  unfold numS
  rw [dif_pos ⟨n, h⟩]
  exact (Classical.choose_spec (⟨n, h⟩ : ∃ n, SlN w v n)).uniq h
theorem SlN.slc {w : World} {v : Value} {n : Nat} (h : SlN w v n) : ∃ A c, v = .slice A (wds n).length c := by
  obtain ⟨A, c, e, _⟩ := h; exact ⟨A, c, e⟩
theorem SlN.rd {w : World} {A : Option Addr} {l c n : Nat} (h : SlN w (.slice A l c) n) : (wds n).length = l ∧ RdN w A (wds n) := by
  obtain ⟨A', c', e, _, _, h, _⟩ := h
  injection e with e1 e2 e3
  subst e1
  exact ⟨e2.symm, h⟩
theorem wds2_lt {n : Nat} (h : (wds n).length ≤ 2) : n < 1000000000000000000 := by
  have h1 := drop2_lt (ok_wds n) h 0
  rwa [List.drop_zero, val_wds] at h1
theorem wpos_iff (n : Nat) : 0 < (wds n).length ↔ 0 < n := by
  constructor
  · intro h
    rcases Nat.eq_zero_or_pos n with e | e
    · rw [e, wds_zero] at h; simp at h
    · exact e
  · intro h
    rcases Nat.eq_zero_or_pos (wds n).length with e | e
    · exfalso
      have := List.eq_nil_of_length_eq_zero e
      have h2 := val_wds n
      rw [this] at h2
      have : val [] = 0 := rfl
      omega
    · exact e
/-- What long division is to do, at numbers up to M. -/
def OverC (M : Nat) (w : World) : Prop := ∀ W v1 v2 a b, Ext w W → SlN W v1 a → SlN W v2 b → 0 < b → ¬ ((wds a).length ≤ 2 ∧ (wds b).length ≤ 2) → a ≤ M → b ≤ M →
  Calls Tryz.prog 141 #[v1, v2] W fun e w' => ∃ v3 v4, e = .returned (.tuple #[v3, v4]) ∧ SlN w' v3 (a / b) ∧ SlN w' v4 (a % b) ∧ Ext W w'
theorem OverC.small (w : World) : OverC 999999999999999999 w := by
  intro W v1 v2 a b hE h1 h2 h0 hn ha hb
  exfalso
  apply hn
  have key : ∀ n, n ≤ 999999999999999999 → (wds n).length ≤ 2 := by
    intro n hn
    have h := wds_mono hn
    have h2 : (wds 999999999999999999).length = 2 := by
      rw [wds_pos (by decide), wds_pos (by decide), show (999999999999999999 : Nat) / BB / BB = 0 by decide, wds_zero]; rfl
    omega
  exact ⟨key a ha, key b hb⟩
set_option maxHeartbeats 2000000 in
set_option maxRecDepth 100000 in
theorem zCommon_any (v1 v2 : Value) (a b M : Nat) (w : World) (h1 : SlN w v1 a) (h2 : SlN w v2 b) (ha : a ≤ M) (hb : b ≤ M) (hOv : OverC M w) (hM : (wds M).length ≤ 1099511627776) :
    Calls Tryz.prog 112 #[v1, v2] w fun e w' => ∃ v, e = .returned v ∧ SlN w' v (Nat.gcd a b) ∧ Ext w w' := by
  have H1 := Lib.hid h1
  have H2 := Lib.hid h2
  have HO := Lib.hid hOv
  have HML := Lib.hid hM
  have HA := Lib.hid ha
  have HB := Lib.hid hb
  clear h1 h2 hOv hM ha hb
  go_enter Tryz.func112, Tryz.ntmps112
  go_wp2
  go_loopw [0, 1] (fun x y wr => ∃ (X Y : Nat), Hid (X ≤ M) ∧ Hid (Y ≤ M) ∧ Hid (SlN wr x X) ∧ Hid (SlN wr y Y) ∧ Hid (Nat.gcd X Y = Nat.gcd a b) ∧ Hid (Ext w wr)) (fun x y wr => numS wr y)
  case atStart => exact ⟨a, b, HA, HB, H1, H2, rfl, Ext.rfl' w⟩
  case round =>
    clear H1 H2
    obtain ⟨X, Y, HXM, HYM, HX, HY, HG, HE⟩ := hrel
    obtain ⟨A, ca, rfl⟩ := HX.out.slc
    obtain ⟨B, cb, rfl⟩ := HY.out.slc
    obtain ⟨xl, hxl⟩ : ∃ xl, (wds X).length = xl := ⟨_, rfl⟩
    obtain ⟨yl, hyl⟩ : ∃ yl, (wds Y).length = yl := ⟨_, rfl⟩
    have hxb : xl ≤ 1099511627776 := by rw [← hxl]; exact Nat.le_trans (wds_mono HXM.out) HML.out
    have hyb : yl ≤ 1099511627776 := by rw [← hyl]; exact Nat.le_trans (wds_mono HYM.out) HML.out
    rw [hxl] at HX
    rw [hyl] at HY
    have HXL := Lib.hid hxl
    have HYL := Lib.hid hyl
    rw [hxl, hyl]
    clear hxl hyl
    by_cases h0 : 0 < yl
    · have HY0 : Hid (0 < Y) := (wpos_iff Y).1 (by rw [HYL.out]; exact h0)
      have z0 : (0 : Int) < (yl : Int) := by omega
      by_cases hb : xl ≤ 2 ∧ yl ≤ 2
      · have S1 : Hid (X < 1000000000000000000) := wds2_lt (by rw [HXL.out]; exact hb.1)
        have S2 : Hid (Y < 1000000000000000000) := wds2_lt (by rw [HYL.out]; exact hb.2)
        have z1 : (xl : Int) ≤ 2 := by omega
        have z2 : (yl : Int) ≤ 2 := by omega
        have hw1 := zword_any A ca xl X wr HXL.out hb.1 HX.out.rd.2
        have hw2 := zword_any B cb yl Y wr HYL.out hb.2 HY.out.rd.2
        have HW1 := Lib.hid hw1
        have HW2 := Lib.hid hw2
        clear hb hw1 hw2
        go_wp2_with fail
        refine HW1.out.mono ?_
        rintro e w1 ⟨rfl, rfl⟩
        go_wp2_with fail
        refine HW2.out.mono ?_
        rintro e w1 ⟨rfl, rfl⟩
        clear HW1 HW2
        go_wp2_with fail
        go_loopw [5, 6] (fun x y wq => ∃ (P Q : Nat), x = .int .u64 P ∧ y = .int .u64 Q ∧ Hid (P < 1000000000000000000) ∧ Hid (Q < 1000000000000000000) ∧ Hid (Nat.gcd P Q = Nat.gcd a b) ∧ Hid (Ext w wq)) (fun x y _ => (intOf y).toNat)
        case atStart => exact ⟨X, Y, rfl, rfl, S1, S2, HG, HE⟩
        case round =>
          obtain ⟨P, Q, rfl, rfl, HP, HQ, HPQ, EQ⟩ := hrel
          by_cases hq : 0 < Q
          · have hr1 : (P : Int).tmod (Q : Int) = ((P % Q : Nat) : Int) := by rw [Int.tmod_eq_emod_of_nonneg (by omega)]; exact (Int.natCast_emod P Q).symm
            have hr2 : (P : Int) % (Q : Int) = ((P % Q : Nat) : Int) := (Int.natCast_emod P Q).symm
            have hlt : P % Q < Q := Nat.mod_lt P hq
            have HR : Hid (P % Q < 1000000000000000000) := Nat.lt_trans hlt HQ.out
            have hb1 : ¬ ((Q : Int) = 0) := by omega
            have hb2 : ((Q : Int) == 0) = false := by rw [beq_eq_false_iff_ne]; omega
            have HG2 : Hid (Nat.gcd Q (P % Q) = Nat.gcd a b) := by
              unfold Hid; rw [← HPQ.out, Nat.gcd_comm P Q, Nat.gcd_rec Q P, Nat.gcd_comm]
            generalize P % Q = R at hr1 hr2 hlt HR HG2
            go_wp2_with fail
            go_quiet (fail)
            go_wp2
            go_roundw
            case rel => exact ⟨Q, R, rfl, rfl, HQ, HR, HG2, EQ.out.drN _⟩
            case measure => simp [intOf]; omega
          · have hq0 : Q = 0 := by omega
            subst hq0
            go_wp2_with fail
            refine (wide_any P _ HP.out).mono ?_
            rintro e w3 ⟨v, rfl, hV, hE3⟩
            go_wp2_with fail
            go_ret
            refine ⟨_, rfl, ?_, EQ.out.tr hE3⟩
            rw [← HPQ.out, Nat.gcd_zero_right]
            exact hV
      · have HG2 : Hid (Nat.gcd Y (X % Y) = Nat.gcd a b) := by
          unfold Hid; rw [← HG.out, Nat.gcd_comm X Y, Nat.gcd_rec Y X, Nat.gcd_comm]
        have hov := HO.out wr _ _ X Y HE.out HX.out HY.out HY0.out (by rw [HXL.out, HYL.out]; exact hb) HXM.out HYM.out
        have HOv := Lib.hid hov
        have HRM : Hid (X % Y ≤ M) := Nat.le_trans (Nat.le_of_lt (Nat.mod_lt X HY0.out)) HYM.out
        clear hov
        have hc : (xl ≤ 2 ∧ ¬ yl ≤ 2) ∨ ¬ xl ≤ 2 := by omega
        clear hb
        rcases hc with ⟨c1, c2⟩ | c1
        all_goals
          try have z1 : (xl : Int) ≤ 2 := by omega
          try have z2 : ¬ (yl : Int) ≤ 2 := by omega
          try have z1 : ¬ (xl : Int) ≤ 2 := by omega
          clear c1
          go_wp2_with fail
          refine HOv.out.mono ?_
          rintro e w3 ⟨q, r, rfl, hq, hr, hE3⟩
          have E3 := Lib.hid (HE.out.tr hE3)
          have HR3 := Lib.hid hr
          have HY3 := Lib.hid (HY.out.ext hE3)
          clear hE3 hq hr
          go_wp2_with fail
          have hm1 : numS wr (.slice B yl cb) = Y := numS_eq HY.out
          have hm2 : numS w3 r = X % Y := numS_eq HR3.out
          have HM1 := Lib.hid hm1
          have HM2 := Lib.hid hm2
          clear hm1 hm2
          go_roundw
          case rel => exact ⟨Y, X % Y, HYM, HRM, HY3, HR3, HG2, E3⟩
          case measure => show numS w3 r < numS wr (.slice B yl cb); rw [HM1.out, HM2.out]; exact Nat.mod_lt X HY0.out
    · have z0 : ¬ (0 : Int) < (yl : Int) := by omega
      go_wp2_with fail
      go_ret
      refine ⟨_, rfl, ?_, HE.out⟩
      have : Y = 0 := by rcases Nat.eq_zero_or_pos Y with e | e
                         · exact e
                         · exact absurd (show 0 < yl by rw [← show (wds Y).length = yl from HYL.out]; exact (wpos_iff Y).2 e) h0
      subst this
      rw [← HG.out, Nat.gcd_zero_right]
      exact HX.out
end Go.Proofs.YtbldlibijojbjaaGreatDoor.GB

namespace Go.Proofs.YtbldlibijojbjaaGreatDoor.GB
set_option linter.unusedVariables false
set_option linter.unusedSimpArgs false
open Go.RowKit Lib
attribute [local go_sem ↓] Go.wp_at_zero Go.wp_at_succ
set_option maxHeartbeats 4000000 in
set_option maxRecDepth 100000 in
theorem zTo_pos (A : Option Addr) (c ln : Nat) (n : Nat) (w : World) (h0 : 0 < n) (HLN : Hid ((wds n).length = ln)) (hl : ln ≤ 1099511627776) (hr : RdN w A (wds n)) :
    Calls Tryz.prog 114 #[.slice A ln c] w fun e w' => e = .returned (.string ⟨(decDigits n).toArray⟩) ∧ Ext w w' := by
  obtain ⟨i0, hi, hz0, hz1, hz2⟩ := info_parts Tryz.infoU8
  have HO0 := Lib.hid (OI.start n h0)
  have HR := Lib.hid hr
  have HOK : Hid (Ok (wds n)) := ok_wds n
  have HTP : Hid ((wds n).getLast? ≠ some 0) := wds_last n
  have hln0 : 0 < ln := by
    have := HLN.out
    rcases Nat.eq_zero_or_pos ln with h | h
    · exfalso
      have e := List.eq_nil_of_length_eq_zero (this.trans h)
      have h2 := val_wds n
      rw [e] at h2
      have : val [] = 0 := rfl
      omega
    · exact h
  have hl0 : ((ln : Int) == 0) = false := by rw [beq_eq_false_iff_ne]; omega
  clear hr
  generalize hwd : wds n = l at *
  clear hwd
  go_enter Tryz.func114, Tryz.ntmps114
  go_wp2
  go_loopw [3, 4] (fun v x wr => ∃ (i : Nat) (L : List UInt8), i ≤ ln ∧ x = .int .i64 i ∧ L.length ≤ 9 * i ∧ Hid (OI n l i L) ∧ Hid (OwnB wr w.heap.size v L) ∧ Hid (Ext w wr)) (fun _ x _ => ln - (RowKit.intOf x).toNat)
  case atStart => exact ⟨0, [], Nat.zero_le _, rfl, by simp, HO0, ⟨by simp [u8s], .inl ⟨rfl, rfl⟩⟩, Ext.rfl' w⟩
  case round =>
    clear HO0
    obtain ⟨i, L, hi1, rfl, hL, HI, HO, HE⟩ := hrel
    by_cases hlt : i < ln
    · have hil : i < l.length := by rw [HLN.out]; exact hlt
      obtain ⟨b, off, rfl, hb, hc⟩ := HR.out i hil
      have HT0 := Lib.hid (HI.out.word HOK.out HTP.out hil)
      replace hc := HE.out.cell hc
      have hwb : l[i] < BB := HOK.out _ (List.getElem_mem hil)
      rw [BB_eq] at hwb
      generalize l[i] = x at *
      clear HI
      go_wp2
      go_loopw [3, 5, 6] (fun v u y wr => ∃ (k z : Nat) (L : List UInt8), k ≤ 9 ∧ y = .int .i64 k ∧ u = .int .u32 (z : Int) ∧ z < 1000000000 ∧ L.length ≤ 9 * i + k ∧ Hid (TI n l i k z L) ∧ Hid (OwnB wr w.heap.size v L) ∧ Hid (Ext w wr)) (fun _ _ y _ => 9 - (RowKit.intOf y).toNat)
      case atStart => exact ⟨0, x, L, by omega, rfl, rfl, hwb, by omega, HT0, HO, HE⟩
      case round =>
        clear HT0 HO HE hc hwb
        obtain ⟨k, z, L, hk, rfl, rfl, hzb, hL, HT, HO, HE⟩ := hrel
        have hmax : L.length + 1 ≤ maxLen := by unfold maxLen; omega
        have hbig : (L.length + 1) * 1 ≤ 140737488355328 := by omega
        have hbase : w.heap.size ≤ wr.heap.size := HE.out.size
        by_cases hgo : k < 9 ∧ (i + 1 < ln ∨ 0 < z)
        · obtain ⟨hk9, hg2⟩ := hgo
          have HT2 := Lib.hid (HT.out.step hk9 (by rw [HLN.out]; exact hg2))
          have hd : (UInt8.ofNat (48 + z % 10)).toNat = 48 + z % 10 := dig_ofNat _ (Nat.mod_lt _ (by omega))
          have HDG := Lib.hid hd
          have t1 : (k : Int) < 9 := by omega
          clear HT hd
          rcases hg2 with hg2 | hg2
          · have t2 : (i : Int) + 1 < (ln : Int) := by omega
            go_wp2_with (at_builtin; (refine wpList_append_own _ rfl _ _ 156 rfl w.heap.size 5 i0 (.int .u8 0) 1 1 Tryz.underlying156 hi hz0 hz1 hz2 rfl (by decide) _ L.length (u8s L) rfl (World.ownsRow.alloc HO.out _) ⟨wr.heap.size, 0, none⟩ 1 1 _ rfl rfl (cell_one_new _ _ _) (by simp [Value.oneCell']) hmax hbig (by simp; omega) ?_); intro v' w2 hown2 hgrow2 _)
            all_goals
              obtain ⟨p1, p2⟩ := ownb_push HO.out HE.out hown2 hgrow2 (n := UInt8.ofNat (48 + z % 10)) (by rw [HDG.out]; omega)
              go_wp2
              go_roundw
              case rel => exact ⟨k + 1, z / 10, L ++ [UInt8.ofNat (48 + z % 10)], by omega, by go_num, by go_num, by omega, by simp; omega, HT2, p1, p2⟩
              case measure => simp [RowKit.intOf]; omega
          · have t3 : (0 : Int) < (z : Int) := by omega
            by_cases h2 : i + 1 < ln
            · have t2 : (i : Int) + 1 < (ln : Int) := by omega
              go_wp2_with (at_builtin; (refine wpList_append_own _ rfl _ _ 156 rfl w.heap.size 5 i0 (.int .u8 0) 1 1 Tryz.underlying156 hi hz0 hz1 hz2 rfl (by decide) _ L.length (u8s L) rfl (World.ownsRow.alloc HO.out _) ⟨wr.heap.size, 0, none⟩ 1 1 _ rfl rfl (cell_one_new _ _ _) (by simp [Value.oneCell']) hmax hbig (by simp; omega) ?_); intro v' w2 hown2 hgrow2 _)
              all_goals
                obtain ⟨p1, p2⟩ := ownb_push HO.out HE.out hown2 hgrow2 (n := UInt8.ofNat (48 + z % 10)) (by rw [HDG.out]; omega)
                go_wp2
                go_roundw
                case rel => exact ⟨k + 1, z / 10, L ++ [UInt8.ofNat (48 + z % 10)], by omega, by go_num, by go_num, by omega, by simp; omega, HT2, p1, p2⟩
                case measure => simp [RowKit.intOf]; omega
            · have t2 : ¬ (i : Int) + 1 < (ln : Int) := by omega
              go_wp2_with (at_builtin; (refine wpList_append_own _ rfl _ _ 156 rfl w.heap.size 5 i0 (.int .u8 0) 1 1 Tryz.underlying156 hi hz0 hz1 hz2 rfl (by decide) _ L.length (u8s L) rfl (World.ownsRow.alloc HO.out _) ⟨wr.heap.size, 0, none⟩ 1 1 _ rfl rfl (cell_one_new _ _ _) (by simp [Value.oneCell']) hmax hbig (by simp; omega) ?_); intro v' w2 hown2 hgrow2 _)
              all_goals
                obtain ⟨p1, p2⟩ := ownb_push HO.out HE.out hown2 hgrow2 (n := UInt8.ofNat (48 + z % 10)) (by rw [HDG.out]; omega)
                go_wp2
                go_roundw
                case rel => exact ⟨k + 1, z / 10, L ++ [UInt8.ofNat (48 + z % 10)], by omega, by go_num, by go_num, by omega, by simp; omega, HT2, p1, p2⟩
                case measure => simp [RowKit.intOf]; omega
        · have HL := Lib.hid (HT.out.last (by rw [HLN.out]; exact hlt) (by rw [HLN.out]; exact hgo))
          clear HT
          by_cases h9 : k < 9
          · have t1 : (k : Int) < 9 := by omega
            have t2 : ¬ (i : Int) + 1 < (ln : Int) := by omega
            have t3 : ¬ (0 : Int) < (z : Int) := by omega
            clear hgo
            go_wp2
            go_roundw
            case rel => exact ⟨i + 1, L, by omega, by go_num, by omega, HL, HO, HE⟩
            case measure => simp [RowKit.intOf]; omega
          · have t1 : ¬ (k : Int) < 9 := by omega
            clear hgo
            go_wp2
            go_roundw
            case rel => exact ⟨i + 1, L, by omega, by go_num, by omega, HL, HO, HE⟩
            case measure => simp [RowKit.intOf]; omega
    · have hie : i = l.length := by rw [HLN.out]; omega
      have hf := (show OI n l l.length L by rw [← hie]; exact HI.out).fin
      have HRV := Lib.hid hf.1
      have hpos := List.length_pos_iff.2 hf.2
      have hAt : AtB wr w.heap.size 0 0 0 [] ∨ True := .inr trivial
      obtain ⟨g, cc, hu, hbg, hgs⟩ := HO.out.at_ hpos
      subst hu
      have HAt : Hid (AtB wr w.heap.size g cc L.length L) := ⟨rfl, HO.out⟩
      have HNL := Lib.hid (show L.length = L.length from rfl)
      clear hf hAt HI hie HO
      obtain ⟨N, hN⟩ : ∃ N, L.length = N := ⟨_, rfl⟩
      have HN := Lib.hid hN
      rw [hN] at HAt hpos hL ⊢
      clear hN HNL
      go_wp2
      go_loopw [7, 8] (fun x y wr => ∃ (j : Nat), 2 * j ≤ N ∧ x = .int .i64 j ∧ y = .int .i64 ((N : Int) - 1 - j) ∧ Hid (AtB wr w.heap.size g cc N (rv L j)) ∧ Hid (Ext w wr)) (fun x _ _ => N - (RowKit.intOf x).toNat)
      case atStart => exact ⟨0, by omega, rfl, by go_num, by unfold Hid; rw [rv_zero]; exact HAt.out, HE⟩
      case round =>
        clear HAt HE
        obtain ⟨j, hj, rfl, rfl, HAt, HE⟩ := hrel
        by_cases hsw : 2 * j + 1 < N
        · obtain ⟨k, hk⟩ : ∃ k, k = N - 1 - j := ⟨_, rfl⟩
          have hkz : (N : Int) - 1 - (j : Int) = (k : Int) := by omega
          rw [hkz]
          have hkN : k < N := by omega
          have hjN : j < N := by omega
          have hjk : j < k := by omega
          have c0 := HAt.out.cell j hjN
          have c1 := HAt.out.cell k hkN
          have f0 : wr.frozen? ⟨g, j, none⟩ = false := World.ownsRow.frozenAt HAt.out.2 j
          have f1 : wr.frozen? ⟨g, k, none⟩ = false := World.ownsRow.frozenAt HAt.out.2 k
          have g0 : (rv L j).getD j 0 = L.getD j 0 := by
            have hl : j < (rv L j).length := by rw [rv_len, show L.length = N from HN.out]; exact hjN
            rw [List.getD_eq_getElem?_getD, List.getElem?_eq_getElem hl, Option.getD_some]
            exact rv_get L j j hl (Nat.le_refl _) (by rw [show L.length = N from HN.out]; omega)
          have g1 : (rv L j).getD k 0 = L.getD (L.length - 1 - j) 0 := by
            have hl : k < (rv L j).length := by rw [rv_len, show L.length = N from HN.out]; exact hkN
            rw [List.getD_eq_getElem?_getD, List.getElem?_eq_getElem hl, Option.getD_some, show L.length - 1 - j = k by rw [show L.length = N from HN.out, hk]]
            exact rv_get L j k hl (by omega) (by rw [show L.length = N from HN.out]; omega)
          rw [g0] at c0
          rw [g1] at c1
          have HSW : Hid (((rv L j).set j (L.getD (L.length - 1 - j) 0)).set k (L.getD j 0) = rv L (j + 1)) := by
            have h := rv_swap L j (by rw [show L.length = N from HN.out]; exact hsw)
            rw [show L.length - 1 - j = k by rw [show L.length = N from HN.out, hk]] at h ⊢
            exact h
          have HK := Lib.hid hk
          clear hk g0 g1
          generalize L.getD (L.length - 1 - j) 0 = b1 at *
          generalize L.getD j 0 = b0 at *
          have i0 : (j : Int) < (k : Int) := by omega
          have i1 : (j : Int) < (N : Int) := by omega
          have i2 : (k : Int) < (N : Int) := by omega
          go_wp2_with fail
          go_region_with (fail)
          all_goals
            have HA2 : Hid (AtB ((wr.setCell ⟨g, j, none⟩ (.int .u8 (b1.toNat : Int))).setCell ⟨g, k, none⟩ (.int .u8 (b0.toNat : Int))).drew w.heap.size g cc N (rv L (j + 1))) := by
              have h := (HAt.out.store j b1).store k b0
              rw [HSW.out] at h
              exact AtB.drH h
            have HE2 : Hid (Ext w ((wr.setCell ⟨g, j, none⟩ (.int .u8 (b1.toNat : Int))).setCell ⟨g, k, none⟩ (.int .u8 (b0.toNat : Int))).drew) :=
              Ext.dr ((HE.out.setCell (p := ⟨g, j, none⟩) hbg (.int .u8 (b1.toNat : Int))).setCell (p := ⟨g, k, none⟩) hbg (.int .u8 (b0.toNat : Int)))
            go_wp2
            go_roundw
            case rel => exact ⟨j + 1, by omega, by go_num, by go_num, HA2, HE2⟩
            case measure => simp [RowKit.intOf]; omega
        · have hge : N ≤ 2 * j + 1 := by omega
          have i0 : ¬ (j : Int) < (N : Int) - 1 - (j : Int) := by omega
          have hfin : rv L j = decDigits n := by rw [rv_end L j (by rw [show L.length = N from HN.out]; exact hge), HRV.out]
          have hcv := run_convert_bytes_arg (P := Tryz.prog) wr 156 5 Tryz.underlying156 Tryz.underlying5 g 0 N cc ((rv L j).map fun b => (b.toNat : Int)) (by rw [List.length_map]; exact HAt.out.1) (fun q hq => by
            have h := HAt.out.cell q hq
            rw [Nat.zero_add, h]
            have hq2 : q < (rv L j).length := by rw [HAt.out.1]; exact hq
            simp [List.getD, hq2]) 9 Tryz.underlying9
          rw [bytes_back, hfin] at hcv
          clear hfin hge
          go_wp2
          go_ret
          exact ⟨rfl, HE.out⟩
end Go.Proofs.YtbldlibijojbjaaGreatDoor.GB
