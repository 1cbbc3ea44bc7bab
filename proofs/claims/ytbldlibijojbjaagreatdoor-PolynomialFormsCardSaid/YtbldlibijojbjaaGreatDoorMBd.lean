import Derived.Test.YtbldlibijojbjaaGreatDoorMNum
import Derived.Test.YtbldlibijojbjaaGreatDoorProg
import Derived.WalkKit
import Derived.OwnWalk
import Derived.Lib.Hide
import Derived.Outline
import Derived.LoopTactic
import Derived.Maps.AppendAt
import Derived.Lib.AppendIntMem
namespace Go.Proofs.YtbldlibijojbjaaGreatDoor.GB
set_option linter.unusedVariables false
set_option linter.unusedSimpArgs false
open Go.Lib (decDigits itoa)

/-- A number whose numerator and denominator have at most n bits. -/
def Bd (q : Rat) (n : Nat) : Prop := q.num.natAbs < 2 ^ n ∧ q.den ≤ 2 ^ n
theorem Bd.mono {q : Rat} {m n : Nat} (h : Bd q m) (hmn : m ≤ n) : Bd q n :=
  ⟨Nat.lt_of_lt_of_le h.1 (Nat.pow_le_pow_right (by omega) hmn), Nat.le_trans h.2 (Nat.pow_le_pow_right (by omega) hmn)⟩
theorem mkRat_num_le (z : Int) (n : Nat) (h : n ≠ 0) : (mkRat z n).num.natAbs ≤ z.natAbs ∧ (mkRat z n).den ≤ n := by
  obtain ⟨h1, h2⟩ := rat_lowest z n h
  rw [h1, h2]
  refine ⟨?_, Nat.div_le_self _ _⟩
  have hg : (Nat.gcd z.natAbs n : Int) ∣ z := Int.ofNat_dvd_left.2 (Nat.gcd_dvd_left _ _)
  rw [Int.natAbs_ediv_of_dvd hg]
  exact Nat.div_le_self _ _
theorem Bd.of_mkRat {z : Int} {n k : Nat} (h : n ≠ 0) (h1 : z.natAbs < 2 ^ k) (h2 : n ≤ 2 ^ k) : Bd (mkRat z n) k := by
  have := mkRat_num_le z n h
  exact ⟨Nat.lt_of_le_of_lt this.1 h1, Nat.le_trans this.2 h2⟩
theorem Bd.mul {a b : Rat} {m n : Nat} (ha : Bd a m) (hb : Bd b n) : Bd (a * b) (m + n) := by
  rw [Rat.mul_def, Rat.normalize_eq_mkRat]
  refine Bd.of_mkRat (Nat.mul_ne_zero a.den_nz b.den_nz) ?_ ?_
  · rw [Int.natAbs_mul, Nat.pow_add]
    exact Nat.mul_lt_mul_of_lt_of_le ha.1 (Nat.le_of_lt hb.1) (by have := Nat.two_pow_pos n; omega)
  · rw [Nat.pow_add]; exact Nat.mul_le_mul ha.2 hb.2
theorem Bd.add {a b : Rat} {m n : Nat} (ha : Bd a m) (hb : Bd b n) : Bd (a + b) (m + n + 1) := by
  rw [Rat.add_def, Rat.normalize_eq_mkRat]
  have hp : 2 ^ (m + n + 1) = 2 ^ m * 2 ^ n + 2 ^ m * 2 ^ n := by rw [Nat.pow_succ, Nat.pow_add]; omega
  have h1 : a.num.natAbs * b.den ≤ 2 ^ m * 2 ^ n := Nat.mul_le_mul (Nat.le_of_lt ha.1) hb.2
  have h2 : b.num.natAbs * a.den < 2 ^ n * 2 ^ m := Nat.mul_lt_mul_of_lt_of_le hb.1 ha.2 (Nat.two_pow_pos m)
  have h3 : a.den * b.den ≤ 2 ^ m * 2 ^ n := Nat.mul_le_mul ha.2 hb.2
  refine Bd.of_mkRat (Nat.mul_ne_zero a.den_nz b.den_nz) ?_ ?_
  · rw [hp]
    have h4 := Int.natAbs_add_le (a.num * b.den) (b.num * a.den)
    rw [Int.natAbs_mul, Int.natAbs_mul, Int.natAbs_natCast, Int.natAbs_natCast] at h4
    rw [Nat.mul_comm (2 ^ n)] at h2
    omega
  · rw [hp]; omega
theorem Bd.neg {a : Rat} {n : Nat} (h : Bd a n) : Bd (-a) n := by
  unfold Bd at *; rw [Rat.neg_num, Rat.neg_den, Int.natAbs_neg]; exact h
theorem Bd.sub {a b : Rat} {m n : Nat} (ha : Bd a m) (hb : Bd b n) : Bd (a - b) (m + n + 1) := by
  rw [Rat.sub_eq_add_neg]; exact ha.add hb.neg
theorem Bd.inv {a : Rat} {n : Nat} (h : Bd a n) : Bd a⁻¹ (n + 1) := by
  have h2 : 2 ^ (n + 1) = 2 ^ n + 2 ^ n := by rw [Nat.pow_succ]; omega
  unfold Bd at *
  rw [Rat.num_inv, Rat.den_inv]
  constructor
  · rw [Int.natAbs_mul, Int.natAbs_natCast]
    have : a.num.sign.natAbs ≤ 1 := by rw [Int.natAbs_sign]; split <;> omega
    have := Nat.mul_le_mul_right a.den this
    have := Nat.two_pow_pos n
    omega
  · split
    · have := Nat.two_pow_pos n; omega
    · omega
theorem Bd.div {a b : Rat} {m n : Nat} (ha : Bd a m) (hb : Bd b n) : Bd (a / b) (m + n + 1) := by
  rw [Rat.div_def]; exact (ha.mul hb.inv).mono (by omega)
theorem Bd.len {q : Rat} {n : Nat} (h : Bd q n) : (rtext q).length ≤ 2 * n + 6 := by
  have h1 : (itoa q.num).length ≤ n + 2 := by
    have hd := dec_len_le _ _ h.1
    by_cases hz : q.num < 0
    · rw [itoa_of_neg hz]; simp; omega
    · rw [itoa_of_nonneg (by omega)]; omega
  have h2 : (decDigits q.den).length ≤ n + 2 := dec_len_le _ _ (Nat.lt_of_le_of_lt h.2 (Nat.pow_lt_pow_right (by omega) (by omega)))
  unfold rtext
  rw [List.length_append]
  split
  · simp; omega
  · rw [List.length_cons]; omega
/-- A number is as great as its text is long. -/
theorem Bd.of_len (q : Rat) : Bd q (4 * (rtext q).length) := by
  have h10 : ∀ k, 10 ^ k ≤ 2 ^ (4 * k) := by
    intro k; rw [Nat.pow_mul]; exact Nat.pow_le_pow_left (by omega) k
  have hn : (decDigits q.num.natAbs).length ≤ (rtext q).length := by
    unfold rtext; rw [List.length_append]
    by_cases hz : q.num < 0
    · rw [itoa_of_neg hz]; simp; omega
    · rw [itoa_of_nonneg (by omega)]; omega
  constructor
  · refine Nat.lt_of_lt_of_le (dec_len_lt _) (Nat.le_trans (h10 _) (Nat.pow_le_pow_right (by omega) (by omega)))
  · by_cases hd : q.den = 1
    · rw [hd]; exact Nat.one_le_two_pow
    · have hl : (decDigits q.den).length ≤ (rtext q).length := by rw [rtext_frac hd]; simp; omega
      refine Nat.le_of_lt (Nat.lt_of_lt_of_le (dec_len_lt _) (Nat.le_trans (h10 _) (Nat.pow_le_pow_right (by omega) (by omega))))
theorem Bd.of_int (z : Int) (n : Nat) (h : z.natAbs < 2 ^ n) : Bd (z : Rat) n := by
  unfold Bd; rw [Rat.num_intCast, Rat.den_intCast]; exact ⟨h, Nat.one_le_two_pow⟩
end Go.Proofs.YtbldlibijojbjaaGreatDoor.GB

namespace Go.Proofs.YtbldlibijojbjaaGreatDoor.GB
set_option linter.unusedVariables false
set_option linter.unusedSimpArgs false
open Go.RowKit

def isDigB (c : UInt8) : Bool := decide (48 ≤ (c.toNat : Int)) && decide ((c.toNat : Int) ≤ 57)
theorem isDigB_iff (c : UInt8) : isDigB c = true ↔ isDig c := by unfold isDigB isDig; simp; omega
def canB (l : List UInt8) : Bool := l != [] && l.all isDigB && !(decide (1 < l.length) && l.head? == some 48)
theorem canB_iff (l : List UInt8) : canB l = true ↔ Canon l := by
  unfold canB Canon
  simp [isDigB_iff]
  grind
theorem bytes_get (s : ByteArray) (k : Nat) (h : k < s.size) : s.data.toList[k]'(by rw [Array.length_toList]; exact h) = s[k] := rfl
theorem bytes_len (s : ByteArray) : s.data.toList.length = s.size := by rw [Array.length_toList]; rfl
theorem can_nil : canB [] = false := rfl
theorem can_zero (s : ByteArray) (h1 : 1 < (s.size : Int)) (h0 : 0 < s.size) (h : (((s[0]'h0).toNat : Int) == 48) = true) : canB s.data.toList = false := by
  have e : s.data.toList.head? = some (s[0]'h0) := by
    rw [List.head?_eq_getElem?, List.getElem?_eq_getElem (by rw [bytes_len]; exact h0), bytes_get]
  have e2 : s[0]'h0 = 48 := by apply UInt8.toNat_inj.1; have := beq_iff_eq.1 h; show _ = 48; omega
  unfold canB
  rw [e, e2, bytes_len]
  have : (1 < s.size) := by omega
  simp [this]
theorem can_bad (s : ByteArray) (k : Nat) (hk : k < s.size) (h : isDigB s[k] = false) : canB s.data.toList = false := by
  have : s.data.toList.all isDigB = false := by
    rw [List.all_eq_false]
    exact ⟨s.data.toList[k]'(by rw [bytes_len]; exact hk), List.getElem_mem _, by rw [bytes_get s k hk, h]; simp⟩
  unfold canB; rw [this]; simp
theorem can_good (s : ByteArray) (h0 : 0 < s.size) (hz : ∀ h : 1 < s.size, (s[0]'h0).toNat ≠ 48) (h : ∀ k, (hk : k < s.size) → isDigB s[k] = true) : canB s.data.toList = true := by
  rw [canB_iff]
  have e : s.data.toList.head? = some (s[0]'h0) := by
    rw [List.head?_eq_getElem?, List.getElem?_eq_getElem (by rw [bytes_len]; exact h0), bytes_get]
  refine ⟨fun hn => ?_, fun c hc => ?_, fun h1 => ?_⟩
  · have := bytes_len s; rw [hn] at this; simp at this; omega
  · obtain ⟨k, hk, rfl⟩ := List.mem_iff_getElem.1 hc
    rw [bytes_len] at hk
    rw [← isDigB_iff, bytes_get s k hk]; exact h k hk
  · rw [e]; intro h2
    rw [bytes_len] at h1
    refine hz h1 ?_
    rw [Option.some.inj h2]; rfl

def AllDig (s : ByteArray) (k : Nat) : Prop := ∀ j, (hj : j < s.size) → j < k → isDigB s[j] = true
def NoZero (s : ByteArray) : Prop := ∀ h0 : 0 < s.size, 1 < s.size → (s[0]'h0).toNat ≠ 48
theorem AllDig.step {s : ByteArray} {k : Nat} (h : AllDig s k) (hk : k < s.size) (h1 : 48 ≤ ((s[k]'hk).toNat : Int)) (h2 : ((s[k]'hk).toNat : Int) ≤ 57) : AllDig s (k + 1) := by
  intro j hj hjk
  by_cases e : j = k
  · subst e; unfold isDigB; simp only [Bool.and_eq_true, decide_eq_true_eq]; exact ⟨h1, h2⟩
  · exact h j hj (by omega)
theorem ret_bool {a b : Bool} (h : a = b) : Ending.returned (.bool a) = .returned (.bool b) := by rw [h]

set_option maxHeartbeats 400000 in
theorem Valid_empty (s : ByteArray) (w : World) (h0 : s.toList = []) :
    Calls Tryz.prog 127 #[.string s] w fun e w' => e = .returned (.bool false) ∧ w = w' := by
  go_enter Tryz.func127, Tryz.ntmps127
  go_wp2
  go_ret
  exact ⟨rfl, rfl⟩

set_option maxHeartbeats 400000 in
theorem Valid_some (s : ByteArray) (w : World) (hs : s.size ≤ 9223372036854775807) (h0 : s.toList.isEmpty = false) (h0' : 0 < s.size) :
    Calls Tryz.prog 127 #[.string s] w fun e w' => e = .returned (.bool (canB s.data.toList)) ∧ w = w' := by
  go_enter Tryz.func127, Tryz.ntmps127
  go_wp2
  · go_ret
    exact ⟨ret_bool (can_zero s ‹_› ‹_› ‹_›).symm, rfl⟩
  all_goals
    have HN : Hid (NoZero s) := by
      intro h1 h2
      first
        | (have hh : (((s[0]'h1).toNat : Int) == 48) = false := ‹_›
           have := beq_eq_false_iff_ne.1 hh
           omega)
        | omega
    go_loop [3, 18] (fun _ i => ∃ k : Nat, k ≤ s.size ∧ i = .int .i64 k ∧ Hid (AllDig s k)) (fun _ i => s.size - (intOf i).toNat)
    case atStart => exact ⟨0, Nat.zero_le _, rfl, fun j hj h => by omega⟩
    case round =>
      obtain ⟨k, hk, rfl, HA⟩ := hrel
      by_cases hlt : k < s.size
      · by_cases h1 : ((s[k]'hlt).toNat : Int) < 48
        · go_wp2
          go_ret
          exact ⟨ret_bool (can_bad s k hlt (by unfold isDigB; simp; omega)).symm, rfl⟩
        · by_cases h2 : (57 : Int) < ((s[k]'hlt).toNat : Int)
          · go_wp2
            go_ret
            exact ⟨ret_bool (can_bad s k hlt (by unfold isDigB; simp; omega)).symm, rfl⟩
          · have HB : Hid (AllDig s (k + 1)) := HA.out.step hlt (by omega) (by omega)
            go_wp2
            go_round
            case rel => exact ⟨k + 1, by omega, by go_num, HB⟩
            case measure => simp [intOf]; omega
      · go_wp2
        go_ret
        exact ⟨ret_bool (can_good s h0' (fun h => HN.out h0' h) (fun j hj => HA.out j hj (by omega))).symm, rfl⟩
end Go.Proofs.YtbldlibijojbjaaGreatDoor.GB

namespace Go.Proofs.YtbldlibijojbjaaGreatDoor.GB
set_option linter.unusedVariables false
set_option linter.unusedSimpArgs false
open Go.RowKit

/-- Words in memory: read only. -/
def RdN (w : World) (A : Option Addr) (l : List Nat) : Prop := ∀ j, (h : j < l.length) → ∃ b off, A = some ⟨b, off, none⟩ ∧ b < w.heap.size ∧ w.cell? ⟨b, off + j, none⟩ = some (.int .u32 (l[j] : Nat))
/-- Zeros at the end left out. -/
def tz (l : List Nat) : List Nat := if l = [] then [] else if l.getLast? = some 0 then tz l.dropLast else l
termination_by l.length
decreasing_by simp only [List.length_dropLast]; have := List.length_pos_iff.2 ‹_›; omega

theorem tz_nil : tz [] = [] := by rw [tz]; rfl
theorem tz_zero (l : List Nat) : tz (l ++ [0]) = tz l := by rw [tz, if_neg (by simp), if_pos (by simp)]; simp
theorem tz_last {l : List Nat} (h : l.getLast? ≠ some 0) : tz l = l := by
  by_cases hn : l = []
  · rw [hn, tz_nil]
  · rw [tz, if_neg hn, if_neg h]
theorem val_tz (l : List Nat) : val (tz l) = val l := by
  fun_induction tz l with
  | case1 => rfl
  | case2 l h0 h1 ih =>
    rw [ih]
    obtain ⟨a, rfl⟩ : ∃ a, l = a ++ [0] := ⟨l.dropLast, by
      have := List.dropLast_concat_getLast h0
      rw [List.getLast?_eq_some_getLast h0] at h1
      rw [← Option.some.inj h1]; exact this.symm⟩
    simp [val_snoc_zero]
  | case3 => rfl
theorem tz_wds {l : List Nat} (h : Ok l) : tz l = wds (val l) := by
  have hok : Ok (tz l) ∧ (tz l).getLast? ≠ some 0 := by
    fun_induction tz l with
    | case1 => exact ⟨h, by simp⟩
    | case2 l h0 h1 ih => exact ih (fun w hw => h w (List.dropLast_subset l hw))
    | case3 l h0 h1 => exact ⟨h, h1⟩
  rw [← wds_val hok.1 hok.2, val_tz]
theorem tz_prefix (l : List Nat) : ∃ k, k ≤ l.length ∧ tz l = l.take k := by
  fun_induction tz l with
  | case1 => exact ⟨0, by simp, rfl⟩
  | case2 l h0 h1 ih =>
    obtain ⟨k, hk, e⟩ := ih
    simp at hk
    refine ⟨k, by omega, ?_⟩
    rw [e, List.dropLast_eq_take, List.take_take, Nat.min_eq_left (by omega)]
  | case3 l h0 h1 => exact ⟨l.length, Nat.le_refl _, by simp⟩

theorem tz_step {l : List Nat} {k : Nat} (hk : k < l.length) (h : tz (l.take (k + 1)) = tz l) (h0 : l[k] = 0) : tz (l.take k) = tz l := by
  rw [← h, List.take_succ_eq_append_getElem hk, h0, tz_zero]
theorem tz_stop {l : List Nat} {k : Nat} (hk : k < l.length) (h : tz (l.take (k + 1)) = tz l) (h0 : l[k] ≠ 0) : (tz l).length = k + 1 := by
  have e : (l.take (k + 1)).getLast? ≠ some 0 := by rw [List.take_succ_eq_append_getElem hk, List.getLast?_concat]; intro e; exact h0 (Option.some.inj e)
  rw [← h, tz_last e]; simp; omega
theorem ret_slice {A : Option Addr} {a b c : Nat} (h : a = b) : Ending.returned (.slice A a c) = .returned (.slice A b c) := by rw [h]

set_option maxHeartbeats 400000 in
theorem trim_any (A : Option Addr) (c : Nat) (l : List Nat) (w : World) (hl : l.length ≤ c) (hm : c ≤ 9223372036854775807) (hr : RdN w A l) :
    Calls Tryz.prog 221 #[.slice A l.length c] w fun e w' => e = .returned (.slice A (tz l).length c) ∧ w = w' := by
  go_enter Tryz.func221, Tryz.ntmps221
  go_wp2
  go_loop [0] (fun v => ∃ k : Nat, k ≤ l.length ∧ v = .slice A k c ∧ Hid (tz (l.take k) = tz l)) (fun v => match v with | .slice _ n _ => n | _ => 0)
  case atStart => exact ⟨l.length, Nat.le_refl _, rfl, by rw [List.take_length]; rfl⟩
  case round =>
    obtain ⟨k, hk, rfl, HT⟩ := hrel
    cases k with
    | zero =>
      go_wp2
      go_ret
      exact ⟨ret_slice (by have := HT.out; rw [List.take_zero, tz_nil] at this; rw [← this]; rfl), rfl⟩
    | succ k =>
      obtain ⟨b, off, rfl, hb, hc⟩ := hr k (by omega)
      by_cases h0 : l[k] = 0
      · have HT' : Hid (tz (l.take k) = tz l) := tz_step _ HT.out h0
        have h0' : (((l[k] : Nat) : Int) == 0) = true := by simp [h0]
        clear h0
        go_wp2
        go_round
        case rel => exact ⟨k, by omega, rfl, HT'⟩
        case measure => simp
      · have HL : Hid ((tz l).length = k + 1) := tz_stop _ HT.out h0
        have h0' : (((l[k] : Nat) : Int) == 0) = false := by simp [h0]
        clear h0
        go_wp2
        go_ret
        exact ⟨ret_slice HL.out.symm, rfl⟩
end Go.Proofs.YtbldlibijojbjaaGreatDoor.GB

namespace Go.Proofs.YtbldlibijojbjaaGreatDoor.GB
set_option linter.unusedVariables false
set_option linter.unusedSimpArgs false
open Go.RowKit

/-- What was there is as it was. -/
abbrev Ext (w w' : World) : Prop := Below w.heap.size w w'
theorem Ext.rfl' (w : World) : Ext w w := Below.refl _ _
theorem Ext.tr {a b c : World} (h : Ext a b) (k : Ext b c) : Ext a c := h.trans (k.mono h.size)
theorem Ext.al {a b : World} (h : Ext a b) (o : Obj) : Ext a (b.alloc o) := h.alloc h.size o
theorem Ext.dr {a b : World} (h : Ext a b) : Ext a b.drew := h.drew
theorem Ext.drN {a b : World} (h : Ext a b) (n : Nat) : Ext a (b.drewN n) := ⟨h.os, h.tape, h.output, h.size, h.block⟩
theorem Ext.gr {a b c : World} (h : Ext a b) {row : Option Nat} (hg : b.grownBy c row) (hr : ∀ k, row = some k → a.heap.size ≤ k) : Ext a c := h.grown hg h.size hr
theorem Ext.gr0 {a b c : World} (h : Ext a b) (hg : b.grownBy c none) : Ext a c := h.grown hg h.size (fun _ e => by cases e)
theorem Ext.cell {a b : World} (h : Ext a b) {p : Addr} {v : Value} (hc : a.cell? p = some v) : b.cell? p = some v := (Below.cell h (World.block_lt_of_cell? a p hc)).trans hc

theorem RdN.ext {w w' : World} {A : Option Addr} {l : List Nat} (h : RdN w A l) (hb : Ext w w') : RdN w' A l := fun j hj => by
  obtain ⟨b, off, e, h1, h2⟩ := h j hj
  exact ⟨b, off, e, Nat.lt_of_lt_of_le h1 hb.size, hb.cell h2⟩
theorem RdN.take {w : World} {A : Option Addr} {l : List Nat} (h : RdN w A l) (k : Nat) : RdN w A (l.take k) := fun j hj => by
  have hj' : j < k ∧ j < l.length := by simp at hj; omega
  obtain ⟨b, off, e, h1, h2⟩ := h j hj'.2
  exact ⟨b, off, e, h1, by rw [h2]; simp⟩

/-- Words as values. -/
def u32s (l : List Nat) : List Value := l.map fun (n : Nat) => Value.int .u32 (n : Int)
theorem u32s_length (l : List Nat) : (u32s l).length = l.length := by simp [u32s]
theorem u32s_append (a b : List Nat) : u32s (a ++ b) = u32s a ++ u32s b := by simp [u32s]
/-- A slice of words in a block from base on that nothing else reads. -/
def OwnN (w : World) (base : Nat) (v : Value) (l : List Nat) : Prop := w.ownsRow base 124 1 v l.length (u32s l)
theorem OwnN.ext {w w' : World} {base : Nat} {v : Value} {l : List Nat} (h : OwnN w base v l) (hb : Ext w w') : OwnN w' base v l :=
  World.ownsRow.kept h (row := none) ⟨hb.os, hb.tape, hb.output, hb.size, fun i hi _ => hb.block i hi⟩ (by cases v.ownBlock <;> simp)
theorem OwnN.lower {w : World} {base base' : Nat} {v : Value} {l : List Nat} (h : OwnN w base v l) (hb : base' ≤ base) : OwnN w base' v l := by
  obtain ⟨h1, h2⟩ := h
  refine ⟨h1, ?_⟩
  rcases h2 with h2 | ⟨g, cap, cur, hv, hg, r⟩
  · exact .inl h2
  · exact .inr ⟨g, cap, cur, hv, Nat.le_trans hb hg, r⟩
theorem OwnN.parts {w : World} {base : Nat} {v : Value} {l : List Nat} (h : OwnN w base v l) : ∃ A c, v = .slice A l.length c ∧ l.length ≤ c ∧ c ≤ maxLen ∧ RdN w A l ∧ (∀ a, A = some a → base ≤ a.block) := by
  rcases h.2 with ⟨hv, h0⟩ | ⟨g, cap, cur, hv, hg, hh, h1, h2, h3, h4⟩
  · refine ⟨none, 0, by rw [hv, h0], by omega, by simp [maxLen], fun j hj => by omega, fun a e => by cases e⟩
  · refine ⟨_, cap, hv, h1, h2, fun j hj => ⟨g, 0, rfl, (Array.getElem?_eq_some_iff.1 hh).1, ?_⟩, fun a e => by cases e; exact hg⟩
    subst hv
    have := World.ownsRow.cellAt h j (by omega)
    rw [Nat.zero_add, this]
    simp [u32s, hj]
theorem OwnN.take {w : World} {base : Nat} {A : Option Addr} {c : Nat} {l : List Nat} (h : OwnN w base (.slice A l.length c) l) (k : Nat) (hk : k ≤ l.length) : OwnN w base (.slice A k c) (l.take k) := by
  have hlen : (l.take k).length = k := by simp; omega
  unfold OwnN
  rw [hlen]
  refine ⟨by rw [u32s_length, hlen]; omega, ?_⟩
  rcases h.2 with ⟨hv, h0⟩ | ⟨g, cap, cur, hv, hg, hh, h1, h2, h3, h4⟩
  · injection hv with e1 e2 e3
    have : k = 0 := by omega
    exact .inl ⟨by rw [e1, this, e3], this⟩
  · injection hv with e1 e2 e3
    refine .inr ⟨g, cap, cur, by rw [e1, e3], hg, hh, by omega, h2, h3, ?_⟩
    have : (cur.toList.take (l.length * 1)).take (k * 1) = (u32s l).take (k * 1) := by rw [h4]
    rw [List.take_take, Nat.min_eq_left (by omega)] at this
    rw [this, Nat.mul_one, u32s, u32s, List.map_take]
/-- The world as the program's start leaves it: one table of the library's. -/
def Wd (w : World) : Prop := Lib.TabBelow Tryz.prog w.heap.size w "internal/strconv.uint64pow10" .u64 Lib.pow10Tab
theorem Wd.ext {w w' : World} (h : Wd w) (hb : Ext w w') : Wd w' := fun w'' hb' => h w'' (Ext.tr hb hb')
theorem Wd.tab {w : World} (h : Wd w) : Lib.TabIs Tryz.prog w "internal/strconv.uint64pow10" .u64 Lib.pow10Tab := h w (Below.refl _ _)
theorem Tryz.infoU32 : (Tryz.prog.info? 124).map (fun i => (i.zero, i.size, i.bytes)) = some (some (.int .u32 0), 1, 4) := by kernel_rfl
end Go.Proofs.YtbldlibijojbjaaGreatDoor.GB
