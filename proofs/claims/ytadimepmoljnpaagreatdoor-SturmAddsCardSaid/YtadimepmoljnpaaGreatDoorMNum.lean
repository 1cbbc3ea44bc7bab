import Derived.Lib.ItoaNum
import Derived.Lib.IndexMore
import Derived.Lib.Strings
import Derived.Test.YtadimepmoljnpaaGreatDoorProg
import Derived.WalkKit
import Derived.OwnWalk
import Derived.Lib.Hide
import Derived.Outline
import Derived.LoopTactic
import Derived.Maps.AppendAt
import Derived.Lib.AppendIntMem
namespace Go.Proofs.YtadimepmoljnpaaGreatDoor.GB
set_option linter.unusedVariables false
set_option linter.unusedSimpArgs false
open Go.Lib (decDigits)

def isDig (c : UInt8) : Prop := 48 ≤ c.toNat ∧ c.toNat ≤ 57
instance (c : UInt8) : Decidable (isDig c) := by unfold isDig; infer_instance
def pstep (a : Nat) (c : UInt8) : Nat := a * 10 + (c.toNat - 48)
def pval (l : List UInt8) : Nat := l.foldl pstep 0
def Canon (l : List UInt8) : Prop := l ≠ [] ∧ (∀ c ∈ l, isDig c) ∧ (1 < l.length → l.head? ≠ some 48)

theorem foldl_pstep (l : List UInt8) : ∀ a, l.foldl pstep a = a * 10 ^ l.length + pval l := by
  induction l with
  | nil => intro a; simp [pval]
  | cons c l ih =>
    intro a
    have h0 : pval (c :: l) = l.foldl pstep (pstep 0 c) := rfl
    rw [h0, List.foldl_cons, ih, ih (pstep 0 c)]
    simp only [pstep, List.length_cons, Nat.pow_succ]
    grind
theorem pval_append (a b : List UInt8) : pval (a ++ b) = pval a * 10 ^ b.length + pval b := by
  unfold pval; rw [List.foldl_append, foldl_pstep b]; rfl
theorem pval_snoc (a : List UInt8) (c : UInt8) : pval (a ++ [c]) = pval a * 10 + (c.toNat - 48) := by
  rw [pval_append]; simp [pval, pstep]
theorem pval_cons (c : UInt8) (l : List UInt8) : pval (c :: l) = (c.toNat - 48) * 10 ^ l.length + pval l := by
  have : c :: l = [c] ++ l := rfl
  rw [this, pval_append]; simp [pval, pstep]
theorem pval_lt (l : List UInt8) (h : ∀ c ∈ l, isDig c) : pval l < 10 ^ l.length := by
  induction l with
  | nil => simp [pval]
  | cons c l ih =>
    rw [pval_cons]
    have h1 := ih (fun d hd => h d (List.mem_cons_of_mem _ hd))
    have h2 : c.toNat - 48 ≤ 9 := by have := h c List.mem_cons_self; unfold isDig at this; omega
    rw [List.length_cons, Nat.pow_succ]
    have := Nat.mul_le_mul_right (10 ^ l.length) h2
    omega
theorem dig_ofNat (d : Nat) (h : d < 10) : (UInt8.ofNat (48 + d)).toNat = 48 + d := by
  rw [UInt8.toNat_ofNat']; omega
theorem dec_small {n : Nat} (h : n < 10) : decDigits n = [UInt8.ofNat (48 + n)] := by rw [decDigits, dif_pos h]
theorem dec_big {n : Nat} (h : 10 ≤ n) : decDigits n = decDigits (n / 10) ++ [UInt8.ofNat (48 + n % 10)] := by rw [decDigits, dif_neg (by omega)]
theorem dec_snoc (n d : Nat) (hn : 0 < n) (hd : d < 10) : decDigits (n * 10 + d) = decDigits n ++ [UInt8.ofNat (48 + d)] := by
  rw [dec_big (by omega), show (n * 10 + d) / 10 = n by omega, show (n * 10 + d) % 10 = d by omega]
theorem pval_dec (n : Nat) : pval (decDigits n) = n := by
  induction n using Nat.strongRecOn with
  | _ n ih =>
    by_cases h : n < 10
    · rw [dec_small h]; simp [pval, pstep]; omega
    · rw [dec_big (by omega), pval_snoc, ih (n / 10) (by omega), dig_ofNat _ (by omega)]; omega
theorem dec_dig (n : Nat) : ∀ c ∈ decDigits n, isDig c := by
  induction n using Nat.strongRecOn with
  | _ n ih =>
    by_cases h : n < 10
    · rw [dec_small h]; intro c hc; obtain rfl := List.mem_singleton.1 hc; unfold isDig; rw [dig_ofNat _ h]; omega
    · rw [dec_big (by omega)]; intro c hc
      rcases List.mem_append.1 hc with hc | hc
      · exact ih (n / 10) (by omega) c hc
      · obtain rfl := List.mem_singleton.1 hc; unfold isDig; rw [dig_ofNat _ (by omega)]; omega
theorem dec_ne (n : Nat) : decDigits n ≠ [] := by
  by_cases h : n < 10
  · rw [dec_small h]; simp
  · rw [dec_big (by omega)]; simp
theorem head_append (a b : List UInt8) (h : a ≠ []) : (a ++ b).head? = a.head? := by cases a <;> simp_all
theorem dec_head (n : Nat) (h0 : 0 < n) : (decDigits n).head? ≠ some 48 := by
  induction n using Nat.strongRecOn with
  | _ n ih =>
    by_cases h : n < 10
    · rw [dec_small h]; intro e
      have := congrArg UInt8.toNat (Option.some.inj e)
      rw [dig_ofNat _ h] at this
      have h48 : (48 : UInt8).toNat = 48 := rfl
      omega
    · rw [dec_big (by omega), head_append _ _ (dec_ne _)]
      exact ih (n / 10) (by omega) (by omega)
theorem dec_canon (n : Nat) : Canon (decDigits n) := by
  refine ⟨dec_ne n, dec_dig n, fun hl => ?_⟩
  by_cases h : n < 10
  · rw [dec_small h] at hl; simp at hl
  · exact dec_head n (by omega)
theorem ofNat_dig (c : UInt8) (h : isDig c) : UInt8.ofNat (48 + (c.toNat - 48)) = c := by
  unfold isDig at h
  rw [show 48 + (c.toNat - 48) = c.toNat by omega]; simp
theorem dec_pval_aux (k : Nat) : ∀ l : List UInt8, l.length = k → Canon l → decDigits (pval l) = l ∧ (0 < pval l ∨ l = [48]) := by
  induction k with
  | zero => intro l hl h; exact absurd (List.length_eq_zero_iff.1 hl) h.1
  | succ k ih =>
    intro l hl h
    obtain ⟨a, c, rfl⟩ : ∃ a c, l = a ++ [c] := ⟨l.dropLast, l.getLast h.1, (List.dropLast_concat_getLast h.1).symm⟩
    have hc : isDig c := h.2.1 c (by simp)
    simp at hl
    rcases a with _ | ⟨x, a⟩
    · have : pval ([] ++ [c]) = c.toNat - 48 := by simp [pval, pstep]
      rw [this]
      have hlt : c.toNat - 48 < 10 := by unfold isDig at hc; omega
      rw [dec_small hlt, ofNat_dig c hc]
      refine ⟨rfl, ?_⟩
      by_cases hz : c.toNat = 48
      · right; have : c = 48 := by apply UInt8.toNat_inj.1; rw [hz]; rfl
        rw [this]; rfl
      · left; unfold isDig at hc; omega
    · have hh := h.2.2 (by simp)
      have hx : x ≠ 48 := by intro e; subst e; simp at hh
      have hcan : Canon (x :: a) := ⟨by simp, fun d hd => h.2.1 d (by simp at hd ⊢; rcases hd with hd | hd <;> simp [hd]), fun _ => by simp [hx]⟩
      obtain ⟨e, hp⟩ := ih (x :: a) hl hcan
      have hpos : 0 < pval (x :: a) := by
        rcases hp with hp | hp
        · exact hp
        · simp at hp; exact absurd hp.1 hx
      rw [pval_snoc, dec_snoc _ _ hpos (by unfold isDig at hc; omega), e, ofNat_dig c hc]
      exact ⟨rfl, .inl (by omega)⟩
theorem dec_pval {l : List UInt8} (h : Canon l) : decDigits (pval l) = l := (dec_pval_aux l.length l rfl h).1
theorem canon_iff (l : List UInt8) : Canon l ↔ ∃ n, l = decDigits n := ⟨fun h => ⟨_, (dec_pval h).symm⟩, fun ⟨n, h⟩ => h ▸ dec_canon n⟩
theorem dec_inj {a b : Nat} (h : decDigits a = decDigits b) : a = b := by rw [← pval_dec a, h, pval_dec]
theorem dec_len_lt (n : Nat) : n < 10 ^ (decDigits n).length := by
  have := pval_lt _ (dec_dig n); rwa [pval_dec] at this
theorem dec_len_ge (n : Nat) (h : 0 < n) : 10 ^ ((decDigits n).length - 1) ≤ n := by
  induction n using Nat.strongRecOn with
  | _ n ih =>
    by_cases h : n < 10
    · rw [dec_small h]; simp; omega
    · rw [dec_big (by omega)]; simp
      have := ih (n / 10) (by omega) (by omega)
      have hl : 0 < (decDigits (n / 10)).length := List.length_pos_iff.2 (dec_ne _)
      obtain ⟨m, hm⟩ : ∃ m, (decDigits (n / 10)).length = m + 1 := ⟨(decDigits (n / 10)).length - 1, by omega⟩
      rw [hm] at this ⊢
      simp at this
      rw [Nat.pow_succ]; omega
/-- Length of the numeral: at most the bits. -/
theorem dec_len_le (n k : Nat) (h : n < 2 ^ k) : (decDigits n).length ≤ k + 1 := by
  by_cases hz : n = 0
  · subst hz; rw [dec_small (by omega)]; simp
  · have h1 := dec_len_ge n (by omega)
    rcases Nat.lt_or_ge (k + 1) (decDigits n).length with hlt | hge
    · exfalso
      have h2 : 10 ^ (k + 1) ≤ 10 ^ ((decDigits n).length - 1) := Nat.pow_le_pow_right (by omega) (by omega)
      have h3 : 2 ^ k ≤ 10 ^ k := Nat.pow_le_pow_left (by omega) k
      rw [Nat.pow_succ] at h2
      omega
    · exact hge
end Go.Proofs.YtadimepmoljnpaaGreatDoor.GB

namespace Go.Proofs.YtadimepmoljnpaaGreatDoor.GB
set_option linter.unusedVariables false
set_option linter.unusedSimpArgs false
open Go.Lib (decDigits)

/-- The base of the words. -/
def BB : Nat := 1000000000
theorem BB_eq : BB = 1000000000 := rfl
theorem BB_pos : 0 < BB := by decide
def val : List Nat → Nat
  | [] => 0
  | w :: ws => w + BB * val ws
def Ok (l : List Nat) : Prop := ∀ w ∈ l, w < BB
def wds (n : Nat) : List Nat := if _h : n = 0 then [] else n % BB :: wds (n / BB)
termination_by n
decreasing_by have : 1 < BB := by decide
              exact Nat.div_lt_self (by omega) this

theorem wds_zero : wds 0 = [] := by rw [wds, dif_pos rfl]
theorem wds_pos {n : Nat} (h : n ≠ 0) : wds n = n % BB :: wds (n / BB) := by rw [wds, dif_neg h]
theorem val_wds (n : Nat) : val (wds n) = n := by
  induction n using Nat.strongRecOn with
  | _ n ih =>
    by_cases h : n = 0
    · subst h; rw [wds_zero]; rfl
    · rw [wds_pos h, val, ih (n / BB) (Nat.div_lt_self (by omega) (by decide))]
      exact Nat.mod_add_div n BB
theorem ok_wds (n : Nat) : Ok (wds n) := by
  induction n using Nat.strongRecOn with
  | _ n ih =>
    by_cases h : n = 0
    · subst h; rw [wds_zero]; intro w hw; cases hw
    · rw [wds_pos h]; intro w hw
      rcases List.mem_cons.1 hw with rfl | hw
      · exact Nat.mod_lt _ BB_pos
      · exact ih (n / BB) (Nat.div_lt_self (by omega) (by decide)) w hw
theorem wds_small {n : Nat} (h0 : n ≠ 0) (h : n < BB) : wds n = [n] := by
  rw [wds_pos h0, Nat.mod_eq_of_lt h, Nat.div_eq_of_lt h, wds_zero]
theorem wds_nil_iff (n : Nat) : wds n = [] ↔ n = 0 := by
  constructor
  · intro h; by_cases h0 : n = 0
    · exact h0
    · rw [wds_pos h0] at h; cases h
  · rintro rfl; exact wds_zero
theorem wds_inj {a b : Nat} (h : wds a = wds b) : a = b := by rw [← val_wds a, h, val_wds]
theorem Ok.cons {w : Nat} {l : List Nat} : Ok (w :: l) ↔ w < BB ∧ Ok l := by simp [Ok]
theorem Ok.append {a b : List Nat} : Ok (a ++ b) ↔ Ok a ∧ Ok b := by
  unfold Ok; constructor
  · intro h; exact ⟨fun w hw => h w (List.mem_append_left _ hw), fun w hw => h w (List.mem_append_right _ hw)⟩
  · rintro ⟨h1, h2⟩ w hw
    rcases List.mem_append.1 hw with hw | hw
    · exact h1 w hw
    · exact h2 w hw
theorem val_append (a b : List Nat) : val (a ++ b) = val a + BB ^ a.length * val b := by
  induction a with
  | nil => simp [val]
  | cons w a ih => simp only [List.cons_append, val, ih, List.length_cons, Nat.pow_succ]; grind
theorem val_snoc (a : List Nat) (w : Nat) : val (a ++ [w]) = val a + BB ^ a.length * w := by rw [val_append]; simp [val]
theorem val_lt {l : List Nat} (h : Ok l) : val l < BB ^ l.length := by
  induction l with
  | nil => simp [val]
  | cons w l ih =>
    have ⟨h1, h2⟩ := Ok.cons.1 h
    have h3 := ih h2
    rw [val, List.length_cons, Nat.pow_succ]
    have h4 : BB * (val l + 1) ≤ BB * BB ^ l.length := Nat.mul_le_mul_left BB h3
    rw [Nat.mul_comm (BB ^ l.length)]
    rw [Nat.mul_add] at h4; omega
/-- Words without zeros at the end are the words of their value. -/
theorem wds_val {l : List Nat} (h : Ok l) (hl : l.getLast? ≠ some 0) : wds (val l) = l := by
  induction l with
  | nil => exact wds_zero
  | cons w l ih =>
    have ⟨h1, h2⟩ := Ok.cons.1 h
    have hv : val (w :: l) = w + BB * val l := rfl
    rcases l with _ | ⟨x, l⟩
    · have hw : w ≠ 0 := by intro e; subst e; simp at hl
      rw [hv]; simp only [val, Nat.mul_zero, Nat.add_zero]; exact wds_small hw h1
    · have hl' : (x :: l).getLast? ≠ some 0 := by rwa [List.getLast?_cons_cons] at hl
      have e := ih h2 hl'
      have hne : val (x :: l) ≠ 0 := by intro e0; rw [e0, wds_zero] at e; cases e
      have hp : 0 < BB * val (x :: l) := Nat.mul_pos BB_pos (by omega)
      rw [hv, wds_pos (by omega), Nat.add_mul_mod_self_left, Nat.mod_eq_of_lt h1, Nat.add_mul_div_left _ _ BB_pos, Nat.div_eq_of_lt h1, Nat.zero_add, e]
theorem wds_last (n : Nat) : (wds n).getLast? ≠ some 0 := by
  induction n using Nat.strongRecOn with
  | _ n ih =>
    by_cases h : n = 0
    · subst h; rw [wds_zero]; simp
    · by_cases hs : n < BB
      · rw [wds_small h hs]; simp; exact h
      · have hd : n / BB ≠ 0 := by
          have : 0 < n / BB := Nat.div_pos (by omega) BB_pos
          omega
        have hi := ih (n / BB) (Nat.div_lt_self (by omega) (by decide))
        rw [wds_pos h]
        cases hw : wds (n / BB) with
        | nil => exact absurd ((wds_nil_iff _).1 hw) hd
        | cons x l => rw [List.getLast?_cons_cons, ← hw]; exact hi
/-- A zero at the end is left out. -/
theorem val_snoc_zero (l : List Nat) : val (l ++ [0]) = val l := by rw [val_snoc]; simp
theorem wds_len_pos {n : Nat} (h : n ≠ 0) : 0 < (wds n).length := by rw [wds_pos h]; simp
theorem wds_len_lt (n : Nat) : n < BB ^ (wds n).length := by have := val_lt (ok_wds n); rwa [val_wds] at this
theorem wds_len_ge {n : Nat} (h : n ≠ 0) : BB ^ ((wds n).length - 1) ≤ n := by
  induction n using Nat.strongRecOn with
  | _ n ih =>
    rw [wds_pos h, List.length_cons, Nat.add_sub_cancel]
    by_cases hd : n / BB = 0
    · rw [hd, wds_zero]; simp; omega
    · have h1 := ih (n / BB) (Nat.div_lt_self (by omega) (by decide)) hd
      have h2 := wds_len_pos hd
      obtain ⟨m, hm⟩ : ∃ m, (wds (n / BB)).length = m + 1 := ⟨(wds (n / BB)).length - 1, by omega⟩
      rw [hm] at h1 ⊢
      rw [Nat.pow_succ]
      have := Nat.mul_le_mul_right BB h1
      have := Nat.div_mul_le_self n BB
      simp at *; omega
theorem wds_len_le {n k : Nat} (h : n < BB ^ k) : (wds n).length ≤ k := by
  by_cases h0 : n = 0
  · subst h0; rw [wds_zero]; simp
  · rcases Nat.lt_or_ge k (wds n).length with hlt | hge
    · have h1 := wds_len_ge h0
      have h2 : BB ^ k ≤ BB ^ ((wds n).length - 1) := Nat.pow_le_pow_right BB_pos (by omega)
      omega
    · exact hge
theorem wds_mono {a b : Nat} (h : a ≤ b) : (wds a).length ≤ (wds b).length := wds_len_le (Nat.lt_of_le_of_lt h (wds_len_lt b))
/-- Lists of words with one length: the greater first words decide. -/
theorem val_take_drop (l : List Nat) (i : Nat) (hi : i ≤ l.length) : val l = val (l.take i) + BB ^ i * val (l.drop i) := by
  have := val_append (l.take i) (l.drop i)
  rw [List.take_append_drop, List.length_take, Nat.min_eq_left hi] at this
  exact this
theorem take_succ (l : List Nat) (i : Nat) (h : i < l.length) : val (l.take (i + 1)) = val (l.take i) + BB ^ i * l.getD i 0 := by
  rw [List.take_succ_eq_append_getElem h, val_snoc, List.length_take, Nat.min_eq_left (by omega), List.getD_eq_getElem?_getD, List.getElem?_eq_getElem h]; rfl

/-! ### Words and digits -/
def pad9 (w : Nat) : List UInt8 := List.replicate (9 - (decDigits w).length) 48 ++ decDigits w
theorem pval_zeros (k : Nat) : pval (List.replicate k 48) = 0 := by
  induction k with
  | zero => rfl
  | succ k ih => rw [List.replicate_succ, pval_cons, ih]; simp
theorem dec_len9 {w : Nat} (h : w < BB) : (decDigits w).length ≤ 9 := by
  by_cases hz : w = 0
  · subst hz; rw [dec_small (by omega)]; simp
  · have := dec_len_ge w (by omega)
    rcases Nat.lt_or_ge 9 (decDigits w).length with hlt | hge
    · have : 10 ^ 9 ≤ 10 ^ ((decDigits w).length - 1) := Nat.pow_le_pow_right (by omega) (by omega)
      rw [BB_eq] at h; omega
    · exact hge
theorem pad9_len {w : Nat} (h : w < BB) : (pad9 w).length = 9 := by
  have := dec_len9 h
  simp [pad9]; omega
theorem pad9_dig (w : Nat) : ∀ c ∈ pad9 w, isDig c := by
  intro c hc
  rcases List.mem_append.1 hc with hc | hc
  · obtain rfl := (List.mem_replicate.1 hc).2
    unfold isDig; decide
  · exact dec_dig w c hc
theorem pval_pad9 (w : Nat) : pval (pad9 w) = w := by rw [pad9, pval_append, pval_zeros, pval_dec]; omega
theorem dec_words {n : Nat} (h : BB ≤ n) : decDigits n = decDigits (n / BB) ++ pad9 (n % BB) := by
  have hd : n / BB ≠ 0 := by
    have : 0 < n / BB := Nat.div_pos h BB_pos
    omega
  have hm := Nat.mod_lt n BB_pos
  have hc : Canon (decDigits (n / BB) ++ pad9 (n % BB)) := by
    refine ⟨by simp [dec_ne], fun c hc => ?_, fun _ => ?_⟩
    · rcases List.mem_append.1 hc with hc | hc
      · exact dec_dig _ c hc
      · exact pad9_dig _ c hc
    · rw [head_append _ _ (dec_ne _)]; exact dec_head _ (Nat.pos_of_ne_zero hd)
  have := dec_pval hc
  rw [pval_append, pval_dec, pval_pad9, pad9_len hm, show (10 : Nat) ^ 9 = BB from rfl] at this
  rw [← this, show n / BB * BB + n % BB = n by rw [Nat.mul_comm]; exact Nat.div_add_mod n BB]
end Go.Proofs.YtadimepmoljnpaaGreatDoor.GB

namespace Go.Proofs.YtadimepmoljnpaaGreatDoor.GB
set_option linter.unusedVariables false
set_option linter.unusedSimpArgs false
open Go.Lib (decDigits itoa cut index trimPrefix hasPrefix)

/-! ### Integers as texts -/
theorem itoa_nat (n : Nat) : itoa (n : Int) = decDigits n := by unfold itoa; rw [if_neg (by omega), Int.toNat_natCast]
theorem itoa_neg (n : Nat) (h : 0 < n) : itoa (-(n : Int)) = 45 :: decDigits n := by
  unfold itoa; rw [if_pos (by omega), Int.natAbs_neg, Int.natAbs_natCast]
theorem itoa_of_neg {z : Int} (h : z < 0) : itoa z = 45 :: decDigits z.natAbs := by unfold itoa; rw [if_pos h]
theorem itoa_of_nonneg {z : Int} (h : 0 ≤ z) : itoa z = decDigits z.natAbs := by
  unfold itoa; rw [if_neg (by omega)]; congr 1; omega
theorem dec_no (n : Nat) (c : UInt8) (h : c ∈ decDigits n) : c ≠ 45 ∧ c ≠ 47 := by
  have := dec_dig n c h
  unfold isDig at this
  constructor <;> (rintro rfl; simp at this)
theorem itoa_no47 (z : Int) : 47 ∉ itoa z := by
  unfold itoa; split
  · intro h; rcases List.mem_cons.1 h with h | h
    · exact absurd h (by decide)
    · exact (dec_no _ _ h).2 rfl
  · intro h; exact (dec_no _ _ h).2 rfl
theorem dec_head45 (n : Nat) : hasPrefix (decDigits n) [45] = false := by
  unfold hasPrefix
  cases h : decDigits n with
  | nil => exact absurd h (dec_ne n)
  | cons c l =>
    have := (dec_no n c (by rw [h]; simp)).1
    simp [List.isPrefixOf]; exact fun e => this e.symm
theorem itoa_prefix (z : Int) : hasPrefix (itoa z) [45] = decide (z < 0) ∧ trimPrefix (itoa z) [45] = decDigits z.natAbs := by
  by_cases h : z < 0
  · rw [itoa_of_neg h]
    have : hasPrefix (45 :: decDigits z.natAbs) [45] = true := by simp [hasPrefix, List.isPrefixOf]
    exact ⟨by rw [this]; simp [h], by rw [trimPrefix, if_pos this]; rfl⟩
  · rw [itoa_of_nonneg (by omega)]
    exact ⟨by rw [dec_head45]; simp; omega, by rw [trimPrefix, dec_head45]; rfl⟩
theorem itoa_inj {a b : Int} (h : itoa a = itoa b) : a = b := by
  have h1 := (itoa_prefix a); have h2 := itoa_prefix b
  rw [h] at h1
  have e1 := h1.1.symm.trans h2.1
  have e2 := dec_inj (h1.2.symm.trans h2.2)
  simp at e1; omega
theorem prefix_cases (l : List UInt8) : (∃ t, l = 45 :: t ∧ hasPrefix l [45] = true ∧ trimPrefix l [45] = t) ∨ (hasPrefix l [45] = false ∧ trimPrefix l [45] = l) := by
  cases hl : hasPrefix l [45] with
  | true =>
    left
    cases l with
    | nil => simp [hasPrefix, List.isPrefixOf] at hl
    | cons c t =>
      have hc : c = 45 := by simp [hasPrefix, List.isPrefixOf] at hl; exact hl.symm
      subst hc
      exact ⟨t, rfl, rfl, by rw [trimPrefix, if_pos hl]; rfl⟩
  | false => right; exact ⟨rfl, by rw [trimPrefix, hl]; rfl⟩
/-- An integer's text: what is behind the sign is a natural number's, and it is not '-0'. -/
theorem int_valid (l : List UInt8) : (∃ z, l = itoa z) ↔ Canon (trimPrefix l [45]) ∧ ¬ (hasPrefix l [45] = true ∧ trimPrefix l [45] = [48]) := by
  constructor
  · rintro ⟨z, rfl⟩
    obtain ⟨h1, h2⟩ := itoa_prefix z
    rw [h1, h2]
    refine ⟨dec_canon _, fun ⟨h3, h4⟩ => ?_⟩
    have h5 : decDigits z.natAbs = decDigits 0 := by rw [h4, dec_small (by omega)]; rfl
    have := dec_inj h5
    simp at h3; omega
  · rintro ⟨h1, h2⟩
    rcases prefix_cases l with ⟨t, rfl, h3, h4⟩ | ⟨h3, h4⟩
    · rw [h4] at h1 h2
      have hp : 0 < pval t := by
        rcases (dec_pval_aux t.length t rfl h1).2 with h | h
        · exact h
        · exact absurd ⟨h3, h⟩ h2
      exact ⟨-(pval t : Int), by rw [itoa_neg _ hp, dec_pval h1]⟩
    · rw [h4] at h1
      exact ⟨(pval l : Int), by rw [itoa_nat, dec_pval h1]⟩

/-! ### Rational numbers as texts -/
def rtext (q : Rat) : List UInt8 := itoa q.num ++ (if q.den = 1 then [] else 47 :: decDigits q.den)
theorem index47_miss (l : List UInt8) (h : 47 ∉ l) : index l [47] = -1 := by
  induction l with
  | nil => rfl
  | cons c l ih =>
    have h1 : c ≠ 47 := fun e => h (by rw [e]; simp)
    have h2 := ih (fun hm => h (List.mem_cons_of_mem _ hm))
    rw [index, h2, if_neg (by simp [List.isPrefixOf]; exact fun e => h1 e.symm)]
    rfl
theorem index47_hit (p d : List UInt8) (h : 47 ∉ p) : index (p ++ 47 :: d) [47] = p.length := by
  induction p with
  | nil => simp [index, List.isPrefixOf]
  | cons c p ih =>
    have h1 : c ≠ 47 := fun e => h (by rw [e]; simp)
    have h2 := ih (fun hm => h (List.mem_cons_of_mem _ hm))
    rw [List.cons_append, index, h2, if_neg (by simp [List.isPrefixOf]; exact fun e => h1 e.symm), if_neg (by simp)]
    simp
theorem cut_miss (l : List UInt8) (h : 47 ∉ l) : cut l [47] = (l, [], false) := by
  unfold cut; rw [index47_miss l h, if_neg (by omega)]
theorem cut_hit (p d : List UInt8) (h : 47 ∉ p) : cut (p ++ 47 :: d) [47] = (p, d, true) := by
  unfold cut
  rw [index47_hit p d h, if_pos (by omega)]
  have h1 : ((p.length : Int)).toNat = p.length := by omega
  rw [h1]
  simp
theorem cut_cases (l : List UInt8) : 47 ∉ l ∨ ∃ p d, 47 ∉ p ∧ l = p ++ 47 :: d := by
  induction l with
  | nil => left; simp
  | cons c l ih =>
    by_cases hc : c = 47
    · right; exact ⟨[], l, by simp, by rw [hc]; rfl⟩
    · rcases ih with h | ⟨p, d, h1, h2⟩
      · left; intro hm; rcases List.mem_cons.1 hm with h3 | h3
        · exact hc h3.symm
        · exact h h3
      · right; refine ⟨c :: p, d, ?_, by rw [h2]; rfl⟩
        intro hm; rcases List.mem_cons.1 hm with h3 | h3
        · exact hc h3.symm
        · exact h1 h3
theorem rtext_int {q : Rat} (h : q.den = 1) : rtext q = itoa q.num := by rw [rtext, if_pos h, List.append_nil]
theorem rtext_frac {q : Rat} (h : q.den ≠ 1) : rtext q = itoa q.num ++ 47 :: decDigits q.den := by rw [rtext, if_neg h]
theorem rtext_of_int (z : Int) : rtext (z : Rat) = itoa z := by rw [rtext_int (by simp)]; simp
theorem rtext_inj {a b : Rat} (h : rtext a = rtext b) : a = b := by
  have hcut : ∀ q : Rat, cut (rtext q) [47] = (itoa q.num, (if q.den = 1 then [] else decDigits q.den), decide (q.den ≠ 1)) := by
    intro q
    by_cases hq : q.den = 1
    · rw [rtext_int hq, cut_miss _ (itoa_no47 _), if_pos hq]; simp [hq]
    · rw [rtext_frac hq, cut_hit _ _ (itoa_no47 _), if_neg hq]; simp [hq]
  have h1 := hcut a
  rw [h, hcut b] at h1
  simp only [Prod.mk.injEq] at h1
  obtain ⟨h1, h2, h3⟩ := h1
  have hn := itoa_inj h1
  have hd : a.den = b.den := by
    by_cases ha : a.den = 1
    · by_cases hb : b.den = 1
      · rw [ha, hb]
      · simp [ha, hb] at h3
    · by_cases hb : b.den = 1
      · simp [ha, hb] at h3
      · rw [if_neg ha, if_neg hb] at h2; exact (dec_inj h2).symm
  exact Rat.ext hn.symm hd
/-- A text without a slash is a rational number's just if it is an integer's. -/
theorem rat_valid_int {l : List UInt8} (h : 47 ∉ l) : (∃ q, l = rtext q) ↔ ∃ z, l = itoa z := by
  constructor
  · rintro ⟨q, rfl⟩
    by_cases hq : q.den = 1
    · exact ⟨q.num, rtext_int hq⟩
    · rw [rtext_frac hq] at h; simp at h
  · rintro ⟨z, rfl⟩; exact ⟨(z : Rat), (rtext_of_int z).symm⟩
/-- One with a slash: a numerator that is not 0, a denominator that is greater than 1, in lowest terms. -/
theorem rat_valid_frac {p d : List UInt8} (h : 47 ∉ p) : (∃ q, p ++ 47 :: d = rtext q) ↔ ∃ (z : Int) (n : Nat), p = itoa z ∧ d = decDigits n ∧ z ≠ 0 ∧ n ≠ 0 ∧ n ≠ 1 ∧ Nat.gcd z.natAbs n = 1 := by
  constructor
  · rintro ⟨q, hq⟩
    have hd : q.den ≠ 1 := by
      intro hd; rw [rtext_int hd] at hq
      have := itoa_no47 q.num; rw [← hq] at this; simp at this
    rw [rtext_frac hd] at hq
    have h1 := cut_hit p d h
    rw [hq, cut_hit _ _ (itoa_no47 _)] at h1
    simp only [Prod.mk.injEq] at h1
    refine ⟨q.num, q.den, h1.1.symm, h1.2.1.symm, ?_, q.den_nz, hd, q.reduced⟩
    intro h0
    have := q.reduced
    rw [h0] at this
    simp [Nat.Coprime] at this
    exact hd this
  · rintro ⟨z, n, rfl, rfl, _, h2, h3, h4⟩
    refine ⟨⟨z, n, h2, h4⟩, ?_⟩
    rw [rtext_frac (by exact h3)]
theorem rat_of_frac {z : Int} {n : Nat} (h2 : n ≠ 0) (h3 : n ≠ 1) (h4 : Nat.gcd z.natAbs n = 1) : itoa z ++ 47 :: decDigits n = rtext ⟨z, n, h2, h4⟩ := by
  rw [rtext_frac (by exact h3)]
/-- Lowest terms: the quotients by the greatest common divisor. -/
theorem rat_lowest (z : Int) (n : Nat) (h : n ≠ 0) : ((mkRat z n).num = z / (Nat.gcd z.natAbs n : Nat)) ∧ (mkRat z n).den = n / Nat.gcd z.natAbs n := by
  rw [← Rat.normalize_eq_mkRat h, Rat.normalize_eq]
  exact ⟨rfl, rfl⟩
end Go.Proofs.YtadimepmoljnpaaGreatDoor.GB

namespace Go.Proofs.YtadimepmoljnpaaGreatDoor.GB
set_option linter.unusedVariables false
set_option linter.unusedSimpArgs false
open Go.Lib (decDigits itoa)

/-- A number whose numerator and denominator have at most n bits. -/
def Bd (q : Rat) (n : Nat) : Prop := q.num.natAbs < 2 ^ n ∧ q.den ≤ 2 ^ n
theorem Bd.mono {q : Rat} {m n : Nat} (h : Bd q m) (hmn : m ≤ n) : Bd q n :=
  ⟨Nat.lt_of_lt_of_le h.1 (Nat.pow_le_pow_right (by omega) hmn), Nat.le_trans h.2 (Nat.pow_le_pow_right (by omega) hmn)⟩
theorem mkRat_num_le (z : Int) (n : Nat) (h : n ≠ 0) : (mkRat z n).num.natAbs ≤ z.natAbs ∧ (mkRat z n).den ≤ n := by
  obtain ⟨h1, h2⟩ := rat_lowest z n h
  rw [h1, h2]
  refine ⟨?_, Nat.div_le_self _ _⟩
  have hg : (Nat.gcd z.natAbs n : Int) ∣ z := Int.ofNat_dvd_left.2 (Nat.gcd_dvd_left _ _)
  rw [Int.natAbs_ediv_of_dvd hg]
  exact Nat.div_le_self _ _
theorem Bd.of_mkRat {z : Int} {n k : Nat} (h : n ≠ 0) (h1 : z.natAbs < 2 ^ k) (h2 : n ≤ 2 ^ k) : Bd (mkRat z n) k := by
  have := mkRat_num_le z n h
  exact ⟨Nat.lt_of_le_of_lt this.1 h1, Nat.le_trans this.2 h2⟩
theorem Bd.mul {a b : Rat} {m n : Nat} (ha : Bd a m) (hb : Bd b n) : Bd (a * b) (m + n) := by
  rw [Rat.mul_def, Rat.normalize_eq_mkRat]
  refine Bd.of_mkRat (Nat.mul_ne_zero a.den_nz b.den_nz) ?_ ?_
  · rw [Int.natAbs_mul, Nat.pow_add]
    exact Nat.mul_lt_mul_of_lt_of_le ha.1 (Nat.le_of_lt hb.1) (by have := Nat.two_pow_pos n; omega)
  · rw [Nat.pow_add]; exact Nat.mul_le_mul ha.2 hb.2
theorem Bd.add {a b : Rat} {m n : Nat} (ha : Bd a m) (hb : Bd b n) : Bd (a + b) (m + n + 1) := by
  rw [Rat.add_def, Rat.normalize_eq_mkRat]
  have hp : 2 ^ (m + n + 1) = 2 ^ m * 2 ^ n + 2 ^ m * 2 ^ n := by rw [Nat.pow_succ, Nat.pow_add]; omega
  have h1 : a.num.natAbs * b.den ≤ 2 ^ m * 2 ^ n := Nat.mul_le_mul (Nat.le_of_lt ha.1) hb.2
  have h2 : b.num.natAbs * a.den < 2 ^ n * 2 ^ m := Nat.mul_lt_mul_of_lt_of_le hb.1 ha.2 (Nat.two_pow_pos m)
  have h3 : a.den * b.den ≤ 2 ^ m * 2 ^ n := Nat.mul_le_mul ha.2 hb.2
  refine Bd.of_mkRat (Nat.mul_ne_zero a.den_nz b.den_nz) ?_ ?_
  · rw [hp]
    have h4 := Int.natAbs_add_le (a.num * b.den) (b.num * a.den)
    rw [Int.natAbs_mul, Int.natAbs_mul, Int.natAbs_natCast, Int.natAbs_natCast] at h4
    rw [Nat.mul_comm (2 ^ n)] at h2
    omega
  · rw [hp]; omega
theorem Bd.neg {a : Rat} {n : Nat} (h : Bd a n) : Bd (-a) n := by
  unfold Bd at *; rw [Rat.neg_num, Rat.neg_den, Int.natAbs_neg]; exact h
theorem Bd.sub {a b : Rat} {m n : Nat} (ha : Bd a m) (hb : Bd b n) : Bd (a - b) (m + n + 1) := by
  rw [Rat.sub_eq_add_neg]; exact ha.add hb.neg
theorem Bd.inv {a : Rat} {n : Nat} (h : Bd a n) : Bd a⁻¹ (n + 1) := by
  have h2 : 2 ^ (n + 1) = 2 ^ n + 2 ^ n := by rw [Nat.pow_succ]; omega
  unfold Bd at *
  rw [Rat.num_inv, Rat.den_inv]
  constructor
  · rw [Int.natAbs_mul, Int.natAbs_natCast]
    have : a.num.sign.natAbs ≤ 1 := by rw [Int.natAbs_sign]; split <;> omega
    have := Nat.mul_le_mul_right a.den this
    have := Nat.two_pow_pos n
    omega
  · split
    · have := Nat.two_pow_pos n; omega
    · omega
theorem Bd.div {a b : Rat} {m n : Nat} (ha : Bd a m) (hb : Bd b n) : Bd (a / b) (m + n + 1) := by
  rw [Rat.div_def]; exact (ha.mul hb.inv).mono (by omega)
/-- A number is as great as its text is long. -/
theorem Bd.of_len (q : Rat) : Bd q (4 * (rtext q).length) := by
  have h10 : ∀ k, 10 ^ k ≤ 2 ^ (4 * k) := by
    intro k; rw [Nat.pow_mul]; exact Nat.pow_le_pow_left (by omega) k
  have hn : (decDigits q.num.natAbs).length ≤ (rtext q).length := by
    unfold rtext; rw [List.length_append]
    by_cases hz : q.num < 0
    · rw [itoa_of_neg hz]; simp; omega
    · rw [itoa_of_nonneg (by omega)]; omega
  constructor
  · refine Nat.lt_of_lt_of_le (dec_len_lt _) (Nat.le_trans (h10 _) (Nat.pow_le_pow_right (by omega) (by omega)))
  · by_cases hd : q.den = 1
    · rw [hd]; exact Nat.one_le_two_pow
    · have hl : (decDigits q.den).length ≤ (rtext q).length := by rw [rtext_frac hd]; simp; omega
      refine Nat.le_of_lt (Nat.lt_of_lt_of_le (dec_len_lt _) (Nat.le_trans (h10 _) (Nat.pow_le_pow_right (by omega) (by omega))))
theorem Bd.of_int (z : Int) (n : Nat) (h : z.natAbs < 2 ^ n) : Bd (z : Rat) n := by
  unfold Bd; rw [Rat.num_intCast, Rat.den_intCast]; exact ⟨h, Nat.one_le_two_pow⟩
end Go.Proofs.YtadimepmoljnpaaGreatDoor.GB

namespace Go.Proofs.YtadimepmoljnpaaGreatDoor.GB
set_option linter.unusedVariables false
set_option linter.unusedSimpArgs false
open Go.RowKit

def isDigB (c : UInt8) : Bool := decide (48 ≤ (c.toNat : Int)) && decide ((c.toNat : Int) ≤ 57)
theorem isDigB_iff (c : UInt8) : isDigB c = true ↔ isDig c := by unfold isDigB isDig; simp; omega
def canB (l : List UInt8) : Bool := l != [] && l.all isDigB && !(decide (1 < l.length) && l.head? == some 48)
theorem canB_iff (l : List UInt8) : canB l = true ↔ Canon l := by
  unfold canB Canon
  simp [isDigB_iff]
  grind
theorem bytes_get (s : ByteArray) (k : Nat) (h : k < s.size) : s.data.toList[k]'(by rw [Array.length_toList]; exact h) = s[k] := rfl
theorem bytes_len (s : ByteArray) : s.data.toList.length = s.size := by rw [Array.length_toList]; rfl
theorem can_zero (s : ByteArray) (h1 : 1 < (s.size : Int)) (h0 : 0 < s.size) (h : (((s[0]'h0).toNat : Int) == 48) = true) : canB s.data.toList = false := by
  have e : s.data.toList.head? = some (s[0]'h0) := by
    rw [List.head?_eq_getElem?, List.getElem?_eq_getElem (by rw [bytes_len]; exact h0), bytes_get]
  have e2 : s[0]'h0 = 48 := by apply UInt8.toNat_inj.1; have := beq_iff_eq.1 h; show _ = 48; omega
  unfold canB
  rw [e, e2, bytes_len]
  have : (1 < s.size) := by omega
  simp [this]
theorem can_bad (s : ByteArray) (k : Nat) (hk : k < s.size) (h : isDigB s[k] = false) : canB s.data.toList = false := by
  have : s.data.toList.all isDigB = false := by
    rw [List.all_eq_false]
    exact ⟨s.data.toList[k]'(by rw [bytes_len]; exact hk), List.getElem_mem _, by rw [bytes_get s k hk, h]; simp⟩
  unfold canB; rw [this]; simp
theorem can_good (s : ByteArray) (h0 : 0 < s.size) (hz : ∀ h : 1 < s.size, (s[0]'h0).toNat ≠ 48) (h : ∀ k, (hk : k < s.size) → isDigB s[k] = true) : canB s.data.toList = true := by
  rw [canB_iff]
  have e : s.data.toList.head? = some (s[0]'h0) := by
    rw [List.head?_eq_getElem?, List.getElem?_eq_getElem (by rw [bytes_len]; exact h0), bytes_get]
  refine ⟨fun hn => ?_, fun c hc => ?_, fun h1 => ?_⟩
  · have := bytes_len s; rw [hn] at this; simp at this; omega
  · obtain ⟨k, hk, rfl⟩ := List.mem_iff_getElem.1 hc
    rw [bytes_len] at hk
    rw [← isDigB_iff, bytes_get s k hk]; exact h k hk
  · rw [e]; intro h2
    rw [bytes_len] at h1
    refine hz h1 ?_
    rw [Option.some.inj h2]; rfl

def AllDig (s : ByteArray) (k : Nat) : Prop := ∀ j, (hj : j < s.size) → j < k → isDigB s[j] = true
def NoZero (s : ByteArray) : Prop := ∀ h0 : 0 < s.size, 1 < s.size → (s[0]'h0).toNat ≠ 48
theorem AllDig.step {s : ByteArray} {k : Nat} (h : AllDig s k) (hk : k < s.size) (h1 : 48 ≤ ((s[k]'hk).toNat : Int)) (h2 : ((s[k]'hk).toNat : Int) ≤ 57) : AllDig s (k + 1) := by
  intro j hj hjk
  by_cases e : j = k
  · subst e; unfold isDigB; simp only [Bool.and_eq_true, decide_eq_true_eq]; exact ⟨h1, h2⟩
  · exact h j hj (by omega)
theorem ret_bool {a b : Bool} (h : a = b) : Ending.returned (.bool a) = .returned (.bool b) := by rw [h]

set_option maxHeartbeats 400000 in
theorem Valid_empty (s : ByteArray) (w : World) (h0 : s.toList = []) :
    Calls Tryz.prog 113 #[.string s] w fun e w' => e = .returned (.bool false) ∧ w = w' := by
  go_enter Tryz.func113, Tryz.ntmps113
  go_wp2
  go_ret
  exact ⟨rfl, rfl⟩

set_option maxHeartbeats 400000 in
theorem Valid_some (s : ByteArray) (w : World) (hs : s.size ≤ 9223372036854775807) (h0 : s.toList.isEmpty = false) (h0' : 0 < s.size) :
    Calls Tryz.prog 113 #[.string s] w fun e w' => e = .returned (.bool (canB s.data.toList)) ∧ w = w' := by
  go_enter Tryz.func113, Tryz.ntmps113
  go_wp2
  · go_ret
    exact ⟨ret_bool (can_zero s ‹_› ‹_› ‹_›).symm, rfl⟩
  all_goals
    have HN : Hid (NoZero s) := by
      intro h1 h2
      first
        | (have hh : (((s[0]'h1).toNat : Int) == 48) = false := ‹_›
           have := beq_eq_false_iff_ne.1 hh
           omega)
        | omega
    go_loop [3, 18] (fun _ i => ∃ k : Nat, k ≤ s.size ∧ i = .int .i64 k ∧ Hid (AllDig s k)) (fun _ i => s.size - (intOf i).toNat)
    case atStart => exact ⟨0, Nat.zero_le _, rfl, fun j hj h => by omega⟩
    case round =>
      obtain ⟨k, hk, rfl, HA⟩ := hrel
      by_cases hlt : k < s.size
      · by_cases h1 : ((s[k]'hlt).toNat : Int) < 48
        · go_wp2
          go_ret
          exact ⟨ret_bool (can_bad s k hlt (by unfold isDigB; simp; omega)).symm, rfl⟩
        · by_cases h2 : (57 : Int) < ((s[k]'hlt).toNat : Int)
          · go_wp2
            go_ret
            exact ⟨ret_bool (can_bad s k hlt (by unfold isDigB; simp; omega)).symm, rfl⟩
          · have HB : Hid (AllDig s (k + 1)) := HA.out.step hlt (by omega) (by omega)
            go_wp2
            go_round
            case rel => exact ⟨k + 1, by omega, by go_num, HB⟩
            case measure => simp [intOf]; omega
      · go_wp2
        go_ret
        exact ⟨ret_bool (can_good s h0' (fun h => HN.out h0' h) (fun j hj => HA.out j hj (by omega))).symm, rfl⟩
end Go.Proofs.YtadimepmoljnpaaGreatDoor.GB

namespace Go.Proofs.YtadimepmoljnpaaGreatDoor.GB
set_option linter.unusedVariables false
set_option linter.unusedSimpArgs false
open Go.RowKit

/-- Words in memory: read only. -/
def RdN (w : World) (A : Option Addr) (l : List Nat) : Prop := ∀ j, (h : j < l.length) → ∃ b off, A = some ⟨b, off, none⟩ ∧ b < w.heap.size ∧ w.cell? ⟨b, off + j, none⟩ = some (.int .u32 (l[j] : Nat))
/-- Zeros at the end left out. -/
def tz (l : List Nat) : List Nat := if l = [] then [] else if l.getLast? = some 0 then tz l.dropLast else l
termination_by l.length
decreasing_by simp only [List.length_dropLast]; have := List.length_pos_iff.2 ‹_›; omega

theorem tz_nil : tz [] = [] := by rw [tz]; rfl
theorem tz_zero (l : List Nat) : tz (l ++ [0]) = tz l := by rw [tz, if_neg (by simp), if_pos (by simp)]; simp
theorem tz_last {l : List Nat} (h : l.getLast? ≠ some 0) : tz l = l := by
  by_cases hn : l = []
  · rw [hn, tz_nil]
  · rw [tz, if_neg hn, if_neg h]
theorem val_tz (l : List Nat) : val (tz l) = val l := by
  fun_induction tz l with
  | case1 => rfl
  | case2 l h0 h1 ih =>
    rw [ih]
    obtain ⟨a, rfl⟩ : ∃ a, l = a ++ [0] := ⟨l.dropLast, by
      have := List.dropLast_concat_getLast h0
      rw [List.getLast?_eq_some_getLast h0] at h1
      rw [← Option.some.inj h1]; exact this.symm⟩
    simp [val_snoc_zero]
  | case3 => rfl
theorem tz_wds {l : List Nat} (h : Ok l) : tz l = wds (val l) := by
  have hok : Ok (tz l) ∧ (tz l).getLast? ≠ some 0 := by
    fun_induction tz l with
    | case1 => exact ⟨h, by simp⟩
    | case2 l h0 h1 ih => exact ih (fun w hw => h w (List.dropLast_subset l hw))
    | case3 l h0 h1 => exact ⟨h, h1⟩
  rw [← wds_val hok.1 hok.2, val_tz]
theorem tz_prefix (l : List Nat) : ∃ k, k ≤ l.length ∧ tz l = l.take k := by
  fun_induction tz l with
  | case1 => exact ⟨0, by simp, rfl⟩
  | case2 l h0 h1 ih =>
    obtain ⟨k, hk, e⟩ := ih
    simp at hk
    refine ⟨k, by omega, ?_⟩
    rw [e, List.dropLast_eq_take, List.take_take, Nat.min_eq_left (by omega)]
  | case3 l h0 h1 => exact ⟨l.length, Nat.le_refl _, by simp⟩

theorem tz_step {l : List Nat} {k : Nat} (hk : k < l.length) (h : tz (l.take (k + 1)) = tz l) (h0 : l[k] = 0) : tz (l.take k) = tz l := by
  rw [← h, List.take_succ_eq_append_getElem hk, h0, tz_zero]
theorem tz_stop {l : List Nat} {k : Nat} (hk : k < l.length) (h : tz (l.take (k + 1)) = tz l) (h0 : l[k] ≠ 0) : (tz l).length = k + 1 := by
  have e : (l.take (k + 1)).getLast? ≠ some 0 := by rw [List.take_succ_eq_append_getElem hk, List.getLast?_concat]; intro e; exact h0 (Option.some.inj e)
  rw [← h, tz_last e]; simp; omega
theorem ret_slice {A : Option Addr} {a b c : Nat} (h : a = b) : Ending.returned (.slice A a c) = .returned (.slice A b c) := by rw [h]

set_option maxHeartbeats 400000 in
theorem trim_any (A : Option Addr) (c : Nat) (l : List Nat) (w : World) (hl : l.length ≤ c) (hm : c ≤ 9223372036854775807) (hr : RdN w A l) :
    Calls Tryz.prog 223 #[.slice A l.length c] w fun e w' => e = .returned (.slice A (tz l).length c) ∧ w = w' := by
  go_enter Tryz.func223, Tryz.ntmps223
  go_wp2
  go_loop [0] (fun v => ∃ k : Nat, k ≤ l.length ∧ v = .slice A k c ∧ Hid (tz (l.take k) = tz l)) (fun v => match v with | .slice _ n _ => n | _ => 0)
  case atStart => exact ⟨l.length, Nat.le_refl _, rfl, by rw [List.take_length]; rfl⟩
  case round =>
    obtain ⟨k, hk, rfl, HT⟩ := hrel
    cases k with
    | zero =>
      go_wp2
      go_ret
      exact ⟨ret_slice (by have := HT.out; rw [List.take_zero, tz_nil] at this; rw [← this]; rfl), rfl⟩
    | succ k =>
      obtain ⟨b, off, rfl, hb, hc⟩ := hr k (by omega)
      by_cases h0 : l[k] = 0
      · have HT' : Hid (tz (l.take k) = tz l) := tz_step _ HT.out h0
        have h0' : (((l[k] : Nat) : Int) == 0) = true := by simp [h0]
        clear h0
        go_wp2
        go_round
        case rel => exact ⟨k, by omega, rfl, HT'⟩
        case measure => simp
      · have HL : Hid ((tz l).length = k + 1) := tz_stop _ HT.out h0
        have h0' : (((l[k] : Nat) : Int) == 0) = false := by simp [h0]
        clear h0
        go_wp2
        go_ret
        exact ⟨ret_slice HL.out.symm, rfl⟩
end Go.Proofs.YtadimepmoljnpaaGreatDoor.GB

namespace Go.Proofs.YtadimepmoljnpaaGreatDoor.GB
set_option linter.unusedVariables false
set_option linter.unusedSimpArgs false
open Go.RowKit

/-- What was there is as it was. -/
abbrev Ext (w w' : World) : Prop := Below w.heap.size w w'
theorem Ext.rfl' (w : World) : Ext w w := Below.refl _ _
theorem Ext.tr {a b c : World} (h : Ext a b) (k : Ext b c) : Ext a c := h.trans (k.mono h.size)
theorem Ext.al {a b : World} (h : Ext a b) (o : Obj) : Ext a (b.alloc o) := h.alloc h.size o
theorem Ext.dr {a b : World} (h : Ext a b) : Ext a b.drew := h.drew
theorem Ext.drN {a b : World} (h : Ext a b) (n : Nat) : Ext a (b.drewN n) := ⟨h.os, h.tape, h.output, h.size, h.block⟩
theorem Ext.gr {a b c : World} (h : Ext a b) {row : Option Nat} (hg : b.grownBy c row) (hr : ∀ k, row = some k → a.heap.size ≤ k) : Ext a c := h.grown hg h.size hr
theorem Ext.gr0 {a b c : World} (h : Ext a b) (hg : b.grownBy c none) : Ext a c := h.grown hg h.size (fun _ e => by cases e)
theorem Ext.cell {a b : World} (h : Ext a b) {p : Addr} {v : Value} (hc : a.cell? p = some v) : b.cell? p = some v := (Below.cell h (World.block_lt_of_cell? a p hc)).trans hc

theorem RdN.ext {w w' : World} {A : Option Addr} {l : List Nat} (h : RdN w A l) (hb : Ext w w') : RdN w' A l := fun j hj => by
  obtain ⟨b, off, e, h1, h2⟩ := h j hj
  exact ⟨b, off, e, Nat.lt_of_lt_of_le h1 hb.size, hb.cell h2⟩
theorem RdN.take {w : World} {A : Option Addr} {l : List Nat} (h : RdN w A l) (k : Nat) : RdN w A (l.take k) := fun j hj => by
  have hj' : j < k ∧ j < l.length := by simp at hj; omega
  obtain ⟨b, off, e, h1, h2⟩ := h j hj'.2
  exact ⟨b, off, e, h1, by rw [h2]; simp⟩

/-- Words as values. -/
def u32s (l : List Nat) : List Value := l.map fun (n : Nat) => Value.int .u32 (n : Int)
theorem u32s_length (l : List Nat) : (u32s l).length = l.length := by simp [u32s]
theorem u32s_append (a b : List Nat) : u32s (a ++ b) = u32s a ++ u32s b := by simp [u32s]
/-- A slice of words in a block from base on that nothing else reads. -/
def OwnN (w : World) (base : Nat) (v : Value) (l : List Nat) : Prop := w.ownsRow base 181 1 v l.length (u32s l)
theorem OwnN.ext {w w' : World} {base : Nat} {v : Value} {l : List Nat} (h : OwnN w base v l) (hb : Ext w w') : OwnN w' base v l :=
  World.ownsRow.kept h (row := none) ⟨hb.os, hb.tape, hb.output, hb.size, fun i hi _ => hb.block i hi⟩ (by cases v.ownBlock <;> simp)
theorem OwnN.lower {w : World} {base base' : Nat} {v : Value} {l : List Nat} (h : OwnN w base v l) (hb : base' ≤ base) : OwnN w base' v l := by
  obtain ⟨h1, h2⟩ := h
  refine ⟨h1, ?_⟩
  rcases h2 with h2 | ⟨g, cap, cur, hv, hg, r⟩
  · exact .inl h2
  · exact .inr ⟨g, cap, cur, hv, Nat.le_trans hb hg, r⟩
theorem OwnN.parts {w : World} {base : Nat} {v : Value} {l : List Nat} (h : OwnN w base v l) : ∃ A c, v = .slice A l.length c ∧ l.length ≤ c ∧ c ≤ maxLen ∧ RdN w A l ∧ (∀ a, A = some a → base ≤ a.block) := by
  rcases h.2 with ⟨hv, h0⟩ | ⟨g, cap, cur, hv, hg, hh, h1, h2, h3, h4⟩
  · refine ⟨none, 0, by rw [hv, h0], by omega, by simp [maxLen], fun j hj => by omega, fun a e => by cases e⟩
  · refine ⟨_, cap, hv, h1, h2, fun j hj => ⟨g, 0, rfl, (Array.getElem?_eq_some_iff.1 hh).1, ?_⟩, fun a e => by cases e; exact hg⟩
    subst hv
    have := World.ownsRow.cellAt h j (by omega)
    rw [Nat.zero_add, this]
    simp [u32s, hj]
theorem OwnN.take {w : World} {base : Nat} {A : Option Addr} {c : Nat} {l : List Nat} (h : OwnN w base (.slice A l.length c) l) (k : Nat) (hk : k ≤ l.length) : OwnN w base (.slice A k c) (l.take k) := by
  have hlen : (l.take k).length = k := by simp; omega
  unfold OwnN
  rw [hlen]
  refine ⟨by rw [u32s_length, hlen]; omega, ?_⟩
  rcases h.2 with ⟨hv, h0⟩ | ⟨g, cap, cur, hv, hg, hh, h1, h2, h3, h4⟩
  · injection hv with e1 e2 e3
    have : k = 0 := by omega
    exact .inl ⟨by rw [e1, this, e3], this⟩
  · injection hv with e1 e2 e3
    refine .inr ⟨g, cap, cur, by rw [e1, e3], hg, hh, by omega, h2, h3, ?_⟩
    have : (cur.toList.take (l.length * 1)).take (k * 1) = (u32s l).take (k * 1) := by rw [h4]
    rw [List.take_take, Nat.min_eq_left (by omega)] at this
    rw [this, Nat.mul_one, u32s, u32s, List.map_take]
/-- The world as the program's start leaves it: one table of the library's. -/
def Wd (w : World) : Prop := Lib.TabBelow Tryz.prog w.heap.size w "internal/strconv.uint64pow10" .u64 Lib.pow10Tab
theorem Wd.ext {w w' : World} (h : Wd w) (hb : Ext w w') : Wd w' := fun w'' hb' => h w'' (Ext.tr hb hb')
theorem Wd.tab {w : World} (h : Wd w) : Lib.TabIs Tryz.prog w "internal/strconv.uint64pow10" .u64 Lib.pow10Tab := h w (Below.refl _ _)
theorem Tryz.infoU32 : (Tryz.prog.info? 181).map (fun i => (i.zero, i.size, i.bytes)) = some (some (.int .u32 0), 1, 4) := by kernel_rfl
end Go.Proofs.YtadimepmoljnpaaGreatDoor.GB

namespace Go.Proofs.YtadimepmoljnpaaGreatDoor.GB
set_option linter.unusedVariables false
set_option linter.unusedSimpArgs false
open Go.RowKit

/-- Strings in memory: read only. -/
def RdS (w : World) (A : Option Addr) (l : List ByteArray) : Prop := ∀ j, (h : j < l.length) → ∃ b off, A = some ⟨b, off, none⟩ ∧ b < w.heap.size ∧ w.cell? ⟨b, off + j, none⟩ = some (.string l[j])
theorem RdS.ext {w w' : World} {A : Option Addr} {l : List ByteArray} (h : RdS w A l) (hb : Ext w w') : RdS w' A l := fun j hj => by
  obtain ⟨b, off, e, h1, h2⟩ := h j hj
  exact ⟨b, off, e, Nat.lt_of_lt_of_le h1 hb.size, hb.cell h2⟩
theorem RdS.take {w : World} {A : Option Addr} {l : List ByteArray} (h : RdS w A l) (k : Nat) : RdS w A (l.take k) := fun j hj => by
  have hj' : j < k ∧ j < l.length := by simp at hj; omega
  obtain ⟨b, off, e, h1, h2⟩ := h j hj'.2
  exact ⟨b, off, e, h1, by rw [h2]; simp⟩
/-- A slice that reads as these strings. -/
def SlS (w : World) (v : Value) (l : List ByteArray) : Prop := ∃ A c, v = .slice A l.length c ∧ l.length ≤ c ∧ c ≤ 9223372036854775807 ∧ RdS w A l
theorem SlS.ext {w w' : World} {v : Value} {l : List ByteArray} (h : SlS w v l) (hb : Ext w w') : SlS w' v l := by
  obtain ⟨A, c, rfl, h1, h2, h3⟩ := h
  exact ⟨A, c, rfl, h1, h2, h3.ext hb⟩
theorem SlS.nil (w : World) : SlS w (.slice none 0 0) [] := ⟨none, 0, rfl, Nat.le_refl _, by decide, fun j hj => by simp at hj⟩
/-- Strings as values. -/
def strs (l : List ByteArray) : List Value := l.map Value.string
theorem strs_length (l : List ByteArray) : (strs l).length = l.length := by simp [strs]
theorem strs_append (a b : List ByteArray) : strs (a ++ b) = strs a ++ strs b := by simp [strs]
/-- A slice of strings in a block from base on that nothing else reads. -/
def OwnS (w : World) (base : Nat) (v : Value) (l : List ByteArray) : Prop := w.ownsRow base 24 1 v l.length (strs l)
theorem OwnS.ext {w w' : World} {base : Nat} {v : Value} {l : List ByteArray} (h : OwnS w base v l) (hb : Ext w w') : OwnS w' base v l :=
  World.ownsRow.kept h (row := none) ⟨hb.os, hb.tape, hb.output, hb.size, fun i hi _ => hb.block i hi⟩ (by cases v.ownBlock <;> simp)
theorem OwnS.parts {w : World} {base : Nat} {v : Value} {l : List ByteArray} (h : OwnS w base v l) : ∃ A c, v = .slice A l.length c ∧ l.length ≤ c ∧ c ≤ maxLen ∧ RdS w A l ∧ (∀ a, A = some a → base ≤ a.block) := by
  rcases h.2 with ⟨hv, h0⟩ | ⟨g, cap, cur, hv, hg, hh, h1, h2, h3, h4⟩
  · refine ⟨none, 0, by rw [hv, h0], by omega, by simp [maxLen], fun j hj => by omega, fun a e => by cases e⟩
  · refine ⟨_, cap, hv, h1, h2, fun j hj => ⟨g, 0, rfl, (Array.getElem?_eq_some_iff.1 hh).1, ?_⟩, fun a e => by cases e; exact hg⟩
    subst hv
    have := World.ownsRow.cellAt h j (by omega)
    rw [Nat.zero_add, this]
    simp [strs, hj]
theorem OwnS.sl {w : World} {base : Nat} {v : Value} {l : List ByteArray} (h : OwnS w base v l) : SlS w v l := by
  obtain ⟨A, c, rfl, h1, h2, h3, _⟩ := h.parts
  exact ⟨A, c, rfl, h1, h2, h3⟩

def isZ (b : ByteArray) : Bool := b.toList == [48]
/-- Zeros at the end left out. -/
def tzS (l : List ByteArray) : List ByteArray := if h : l = [] then [] else if isZ (l.getLast h) then tzS l.dropLast else l
termination_by l.length
decreasing_by simp only [List.length_dropLast]; have := List.length_pos_iff.2 h; omega
theorem tzS_nil : tzS [] = [] := by rw [tzS]; rfl
theorem tzS_zero (l : List ByteArray) (b : ByteArray) (hb : isZ b = true) : tzS (l ++ [b]) = tzS l := by rw [tzS, dif_neg (by simp)]; simp [hb]
theorem tzS_last (l : List ByteArray) (b : ByteArray) (hb : isZ b = false) : tzS (l ++ [b]) = l ++ [b] := by rw [tzS, dif_neg (by simp)]; simp [hb]
theorem tzS_step {l : List ByteArray} {k : Nat} (hk : k < l.length) (h : tzS (l.take (k + 1)) = tzS l) (h0 : isZ l[k] = true) : tzS (l.take k) = tzS l := by
  rw [← h, List.take_succ_eq_append_getElem hk, tzS_zero _ _ h0]
theorem tzS_stop {l : List ByteArray} {k : Nat} (hk : k < l.length) (h : tzS (l.take (k + 1)) = tzS l) (h0 : isZ l[k] = false) : tzS l = l.take (k + 1) := by
  rw [← h, List.take_succ_eq_append_getElem hk, tzS_last _ _ h0]
theorem tzS_prefix (l : List ByteArray) : tzS l = l.take (tzS l).length ∧ (tzS l).length ≤ l.length := by
  fun_induction tzS l with
  | case1 => simp
  | case2 l h0 h1 ih =>
    obtain ⟨e, hl⟩ := ih
    simp at hl
    generalize (tzS l.dropLast).length = n at *
    refine ⟨?_, by omega⟩
    rw [e, List.dropLast_eq_take, List.take_take, Nat.min_eq_left (by omega)]
  | case3 l h0 h1 => simp
theorem isZ_sp (b : ByteArray) (x : Bool) (h : isZ b = x) : (b.toList == [48]) = x := h

set_option maxHeartbeats 400000 in
theorem ptrimS_any (A : Option Addr) (c : Nat) (l : List ByteArray) (w : World) (hl : l.length ≤ c) (hm : c ≤ 9223372036854775807) (hr : RdS w A l) :
    Calls Tryz.prog 167 #[.slice A l.length c] w fun e w' => e = .returned (.slice A (tzS l).length c) ∧ w = w' := by
  go_enter Tryz.func167, Tryz.ntmps167
  go_wp2
  go_loop [0] (fun v => ∃ k : Nat, k ≤ l.length ∧ v = .slice A k c ∧ Hid (tzS (l.take k) = tzS l)) (fun v => match v with | .slice _ n _ => n | _ => 0)
  case atStart => exact ⟨l.length, Nat.le_refl _, rfl, by rw [List.take_length]; rfl⟩
  case round =>
    obtain ⟨k, hk, rfl, HT⟩ := hrel
    cases k with
    | zero =>
      go_wp2
      go_ret
      exact ⟨ret_slice (by have := HT.out; rw [List.take_zero, tzS_nil] at this; rw [← this]; rfl), rfl⟩
    | succ k =>
      obtain ⟨b, off, rfl, hb, hc⟩ := hr k (by omega)
      cases h0 : isZ l[k]
      · have HL : Hid ((tzS l).length = k + 1) := by have := tzS_stop _ HT.out h0; unfold Hid; rw [this, List.length_take]; omega
        have h0' := isZ_sp _ _ h0
        clear h0
        generalize l[k] = s at *
        go_wp2
        go_ret
        exact ⟨ret_slice HL.out.symm, rfl⟩
      · have HT' : Hid (tzS (l.take k) = tzS l) := tzS_step _ HT.out h0
        have h0' := isZ_sp _ _ h0
        clear h0
        generalize l[k] = s at *
        go_wp2
        go_round
        case rel => exact ⟨k, by omega, rfl, HT'⟩
        case measure => simp
theorem ptrimS_v (v : Value) (l : List ByteArray) (w : World) (h : SlS w v l) :
    Calls Tryz.prog 167 #[v] w fun e w' => ∃ v', e = .returned v' ∧ SlS w' v' (tzS l) ∧ w = w' := by
  obtain ⟨A, c, rfl, h1, h2, h3⟩ := h
  refine (ptrimS_any A c l w h1 h2 h3).mono ?_
  rintro e w' ⟨rfl, rfl⟩
  obtain ⟨e1, hl⟩ := tzS_prefix l
  exact ⟨_, rfl, ⟨A, c, rfl, by omega, h2, by rw [e1]; exact h3.take _⟩, rfl⟩
def atS (l : List ByteArray) (i : Nat) : ByteArray := l.getD i ⟨#[48]⟩
set_option maxHeartbeats 400000 in
theorem at_any (v : Value) (l : List ByteArray) (i : Nat) (w : World) (hi : i ≤ 1099511627776) (h : SlS w v l) :
    Calls Tryz.prog 229 #[v, .int .i64 i] w fun e w' => e = .returned (.string (atS l i)) ∧ w = w' := by
  obtain ⟨A, c, rfl, h1, h2, h3⟩ := h
  by_cases hlt : i < l.length
  · obtain ⟨b, off, rfl, hb, hc⟩ := h3 i hlt
    have e1 : atS l i = l[i] := by simp [atS, hlt]
    rw [e1]
    generalize l[i] = s at *
    have hd : decide (l.length ≤ i) = false := by simp; omega
    go_enter Tryz.func229, Tryz.ntmps229
    go_wp2
    go_ret
    exact ⟨rfl, rfl⟩
  · have e1 : atS l i = ⟨#[48]⟩ := by simp [atS, List.getElem?_eq_none (Nat.not_lt.1 hlt)]
    rw [e1]
    have hd : decide (l.length ≤ i) = true := by simp; omega
    go_enter Tryz.func229, Tryz.ntmps229
    go_wp2
    go_ret
    exact ⟨rfl, rfl⟩
end Go.Proofs.YtadimepmoljnpaaGreatDoor.GB
