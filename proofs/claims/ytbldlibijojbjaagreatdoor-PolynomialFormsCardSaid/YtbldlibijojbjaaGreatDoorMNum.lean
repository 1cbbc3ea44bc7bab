import Derived.Lib.ItoaNum
import Derived.Lib.IndexMore
import Derived.Lib.Strings
namespace Go.Proofs.YtbldlibijojbjaaGreatDoor.GB
set_option linter.unusedVariables false
set_option linter.unusedSimpArgs false
open Go.Lib (decDigits)

def isDig (c : UInt8) : Prop := 48 ≤ c.toNat ∧ c.toNat ≤ 57
instance (c : UInt8) : Decidable (isDig c) := by unfold isDig; infer_instance
def pstep (a : Nat) (c : UInt8) : Nat := a * 10 + (c.toNat - 48)
def pval (l : List UInt8) : Nat := l.foldl pstep 0
def Canon (l : List UInt8) : Prop := l ≠ [] ∧ (∀ c ∈ l, isDig c) ∧ (1 < l.length → l.head? ≠ some 48)

theorem foldl_pstep (l : List UInt8) : ∀ a, l.foldl pstep a = a * 10 ^ l.length + pval l := by
  induction l with
  | nil => intro a; simp [pval]
  | cons c l ih =>
    intro a
    have h0 : pval (c :: l) = l.foldl pstep (pstep 0 c) := rfl
    rw [h0, List.foldl_cons, ih, ih (pstep 0 c)]
    simp only [pstep, List.length_cons, Nat.pow_succ]
    grind
theorem pval_append (a b : List UInt8) : pval (a ++ b) = pval a * 10 ^ b.length + pval b := by
  unfold pval; rw [List.foldl_append, foldl_pstep b]; rfl
theorem pval_snoc (a : List UInt8) (c : UInt8) : pval (a ++ [c]) = pval a * 10 + (c.toNat - 48) := by
  rw [pval_append]; simp [pval, pstep]
theorem pval_cons (c : UInt8) (l : List UInt8) : pval (c :: l) = (c.toNat - 48) * 10 ^ l.length + pval l := by
  have : c :: l = [c] ++ l := rfl
  rw [this, pval_append]; simp [pval, pstep]
theorem pval_lt (l : List UInt8) (h : ∀ c ∈ l, isDig c) : pval l < 10 ^ l.length := by
  induction l with
  | nil => simp [pval]
  | cons c l ih =>
    rw [pval_cons]
    have h1 := ih (fun d hd => h d (List.mem_cons_of_mem _ hd))
    have h2 : c.toNat - 48 ≤ 9 := by have := h c List.mem_cons_self; unfold isDig at this; omega
    rw [List.length_cons, Nat.pow_succ]
    have := Nat.mul_le_mul_right (10 ^ l.length) h2
    omega
theorem dig_ofNat (d : Nat) (h : d < 10) : (UInt8.ofNat (48 + d)).toNat = 48 + d := by
  rw [UInt8.toNat_ofNat']; omega
theorem dec_small {n : Nat} (h : n < 10) : decDigits n = [UInt8.ofNat (48 + n)] := by rw [decDigits, dif_pos h]
theorem dec_big {n : Nat} (h : 10 ≤ n) : decDigits n = decDigits (n / 10) ++ [UInt8.ofNat (48 + n % 10)] := by rw [decDigits, dif_neg (by omega)]
theorem dec_snoc (n d : Nat) (hn : 0 < n) (hd : d < 10) : decDigits (n * 10 + d) = decDigits n ++ [UInt8.ofNat (48 + d)] := by
  rw [dec_big (by omega), show (n * 10 + d) / 10 = n by omega, show (n * 10 + d) % 10 = d by omega]
theorem pval_dec (n : Nat) : pval (decDigits n) = n := by
  induction n using Nat.strongRecOn with
  | _ n ih =>
    by_cases h : n < 10
    · rw [dec_small h]; simp [pval, pstep]; omega
    · rw [dec_big (by omega), pval_snoc, ih (n / 10) (by omega), dig_ofNat _ (by omega)]; omega
theorem dec_dig (n : Nat) : ∀ c ∈ decDigits n, isDig c := by
  induction n using Nat.strongRecOn with
  | _ n ih =>
    by_cases h : n < 10
    · rw [dec_small h]; intro c hc; obtain rfl := List.mem_singleton.1 hc; unfold isDig; rw [dig_ofNat _ h]; omega
    · rw [dec_big (by omega)]; intro c hc
      rcases List.mem_append.1 hc with hc | hc
      · exact ih (n / 10) (by omega) c hc
      · obtain rfl := List.mem_singleton.1 hc; unfold isDig; rw [dig_ofNat _ (by omega)]; omega
theorem dec_ne (n : Nat) : decDigits n ≠ [] := by
  by_cases h : n < 10
  · rw [dec_small h]; simp
  · rw [dec_big (by omega)]; simp
theorem head_append (a b : List UInt8) (h : a ≠ []) : (a ++ b).head? = a.head? := by cases a <;> simp_all
theorem dec_head (n : Nat) (h0 : 0 < n) : (decDigits n).head? ≠ some 48 := by
  induction n using Nat.strongRecOn with
  | _ n ih =>
    by_cases h : n < 10
    · rw [dec_small h]; intro e
      have := congrArg UInt8.toNat (Option.some.inj e)
      rw [dig_ofNat _ h] at this
      have h48 : (48 : UInt8).toNat = 48 := rfl
      omega
    · rw [dec_big (by omega), head_append _ _ (dec_ne _)]
      exact ih (n / 10) (by omega) (by omega)
theorem dec_canon (n : Nat) : Canon (decDigits n) := by
  refine ⟨dec_ne n, dec_dig n, fun hl => ?_⟩
  by_cases h : n < 10
  · rw [dec_small h] at hl; simp at hl
  · exact dec_head n (by omega)
theorem ofNat_dig (c : UInt8) (h : isDig c) : UInt8.ofNat (48 + (c.toNat - 48)) = c := by
  unfold isDig at h
  rw [show 48 + (c.toNat - 48) = c.toNat by omega]; simp
theorem dec_pval_aux (k : Nat) : ∀ l : List UInt8, l.length = k → Canon l → decDigits (pval l) = l ∧ (0 < pval l ∨ l = [48]) := by
  induction k with
  | zero => intro l hl h; exact absurd (List.length_eq_zero_iff.1 hl) h.1
  | succ k ih =>
    intro l hl h
    obtain ⟨a, c, rfl⟩ : ∃ a c, l = a ++ [c] := ⟨l.dropLast, l.getLast h.1, (List.dropLast_concat_getLast h.1).symm⟩
    have hc : isDig c := h.2.1 c (by simp)
    simp at hl
    rcases a with _ | ⟨x, a⟩
    · have : pval ([] ++ [c]) = c.toNat - 48 := by simp [pval, pstep]
      rw [this]
      have hlt : c.toNat - 48 < 10 := by unfold isDig at hc; omega
      rw [dec_small hlt, ofNat_dig c hc]
      refine ⟨rfl, ?_⟩
      by_cases hz : c.toNat = 48
      · right; have : c = 48 := by apply UInt8.toNat_inj.1; rw [hz]; rfl
        rw [this]; rfl
      · left; unfold isDig at hc; omega
    · have hh := h.2.2 (by simp)
      have hx : x ≠ 48 := by intro e; subst e; simp at hh
      have hcan : Canon (x :: a) := ⟨by simp, fun d hd => h.2.1 d (by simp at hd ⊢; rcases hd with hd | hd <;> simp [hd]), fun _ => by simp [hx]⟩
      obtain ⟨e, hp⟩ := ih (x :: a) hl hcan
      have hpos : 0 < pval (x :: a) := by
        rcases hp with hp | hp
        · exact hp
        · simp at hp; exact absurd hp.1 hx
      rw [pval_snoc, dec_snoc _ _ hpos (by unfold isDig at hc; omega), e, ofNat_dig c hc]
      exact ⟨rfl, .inl (by omega)⟩
theorem dec_pval {l : List UInt8} (h : Canon l) : decDigits (pval l) = l := (dec_pval_aux l.length l rfl h).1
theorem canon_iff (l : List UInt8) : Canon l ↔ ∃ n, l = decDigits n := ⟨fun h => ⟨_, (dec_pval h).symm⟩, fun ⟨n, h⟩ => h ▸ dec_canon n⟩
theorem dec_inj {a b : Nat} (h : decDigits a = decDigits b) : a = b := by rw [← pval_dec a, h, pval_dec]
theorem dec_len_lt (n : Nat) : n < 10 ^ (decDigits n).length := by
  have := pval_lt _ (dec_dig n); rwa [pval_dec] at this
theorem dec_len_ge (n : Nat) (h : 0 < n) : 10 ^ ((decDigits n).length - 1) ≤ n := by
  induction n using Nat.strongRecOn with
  | _ n ih =>
    by_cases h : n < 10
    · rw [dec_small h]; simp; omega
    · rw [dec_big (by omega)]; simp
      have := ih (n / 10) (by omega) (by omega)
      have hl : 0 < (decDigits (n / 10)).length := List.length_pos_iff.2 (dec_ne _)
      obtain ⟨m, hm⟩ : ∃ m, (decDigits (n / 10)).length = m + 1 := ⟨(decDigits (n / 10)).length - 1, by omega⟩
      rw [hm] at this ⊢
      simp at this
      rw [Nat.pow_succ]; omega
/-- Length of the numeral: at most the bits. -/
theorem dec_len_le (n k : Nat) (h : n < 2 ^ k) : (decDigits n).length ≤ k + 1 := by
  by_cases hz : n = 0
  · subst hz; rw [dec_small (by omega)]; simp
  · have h1 := dec_len_ge n (by omega)
    rcases Nat.lt_or_ge (k + 1) (decDigits n).length with hlt | hge
    · exfalso
      have h2 : 10 ^ (k + 1) ≤ 10 ^ ((decDigits n).length - 1) := Nat.pow_le_pow_right (by omega) (by omega)
      have h3 : 2 ^ k ≤ 10 ^ k := Nat.pow_le_pow_left (by omega) k
      rw [Nat.pow_succ] at h2
      omega
    · exact hge
end Go.Proofs.YtbldlibijojbjaaGreatDoor.GB

namespace Go.Proofs.YtbldlibijojbjaaGreatDoor.GB
set_option linter.unusedVariables false
set_option linter.unusedSimpArgs false
open Go.Lib (decDigits)

/-- The base of the words. -/
def BB : Nat := 1000000000
theorem BB_eq : BB = 1000000000 := rfl
theorem BB_pos : 0 < BB := by decide
def val : List Nat → Nat
  | [] => 0
  | w :: ws => w + BB * val ws
def Ok (l : List Nat) : Prop := ∀ w ∈ l, w < BB
def wds (n : Nat) : List Nat := if _h : n = 0 then [] else n % BB :: wds (n / BB)
termination_by n
decreasing_by have : 1 < BB := by decide
              exact Nat.div_lt_self (by omega) this

theorem wds_zero : wds 0 = [] := by rw [wds, dif_pos rfl]
theorem wds_pos {n : Nat} (h : n ≠ 0) : wds n = n % BB :: wds (n / BB) := by rw [wds, dif_neg h]
theorem val_wds (n : Nat) : val (wds n) = n := by
  induction n using Nat.strongRecOn with
  | _ n ih =>
    by_cases h : n = 0
    · subst h; rw [wds_zero]; rfl
    · rw [wds_pos h, val, ih (n / BB) (Nat.div_lt_self (by omega) (by decide))]
      exact Nat.mod_add_div n BB
theorem ok_wds (n : Nat) : Ok (wds n) := by
  induction n using Nat.strongRecOn with
  | _ n ih =>
    by_cases h : n = 0
    · subst h; rw [wds_zero]; intro w hw; cases hw
    · rw [wds_pos h]; intro w hw
      rcases List.mem_cons.1 hw with rfl | hw
      · exact Nat.mod_lt _ BB_pos
      · exact ih (n / BB) (Nat.div_lt_self (by omega) (by decide)) w hw
theorem wds_small {n : Nat} (h0 : n ≠ 0) (h : n < BB) : wds n = [n] := by
  rw [wds_pos h0, Nat.mod_eq_of_lt h, Nat.div_eq_of_lt h, wds_zero]
theorem wds_nil_iff (n : Nat) : wds n = [] ↔ n = 0 := by
  constructor
  · intro h; by_cases h0 : n = 0
    · exact h0
    · rw [wds_pos h0] at h; cases h
  · rintro rfl; exact wds_zero
theorem wds_inj {a b : Nat} (h : wds a = wds b) : a = b := by rw [← val_wds a, h, val_wds]
theorem Ok.cons {w : Nat} {l : List Nat} : Ok (w :: l) ↔ w < BB ∧ Ok l := by simp [Ok]
theorem Ok.append {a b : List Nat} : Ok (a ++ b) ↔ Ok a ∧ Ok b := by
  unfold Ok; constructor
  · intro h; exact ⟨fun w hw => h w (List.mem_append_left _ hw), fun w hw => h w (List.mem_append_right _ hw)⟩
  · rintro ⟨h1, h2⟩ w hw
    rcases List.mem_append.1 hw with hw | hw
    · exact h1 w hw
    · exact h2 w hw
theorem val_append (a b : List Nat) : val (a ++ b) = val a + BB ^ a.length * val b := by
  induction a with
  | nil => simp [val]
  | cons w a ih => simp only [List.cons_append, val, ih, List.length_cons, Nat.pow_succ]; grind
theorem val_snoc (a : List Nat) (w : Nat) : val (a ++ [w]) = val a + BB ^ a.length * w := by rw [val_append]; simp [val]
theorem val_lt {l : List Nat} (h : Ok l) : val l < BB ^ l.length := by
  induction l with
  | nil => simp [val]
  | cons w l ih =>
    have ⟨h1, h2⟩ := Ok.cons.1 h
    have h3 := ih h2
    rw [val, List.length_cons, Nat.pow_succ]
    have h4 : BB * (val l + 1) ≤ BB * BB ^ l.length := Nat.mul_le_mul_left BB h3
    rw [Nat.mul_comm (BB ^ l.length)]
    rw [Nat.mul_add] at h4; omega
/-- Words without zeros at the end are the words of their value. -/
theorem wds_val {l : List Nat} (h : Ok l) (hl : l.getLast? ≠ some 0) : wds (val l) = l := by
  induction l with
  | nil => exact wds_zero
  | cons w l ih =>
    have ⟨h1, h2⟩ := Ok.cons.1 h
    have hv : val (w :: l) = w + BB * val l := rfl
    rcases l with _ | ⟨x, l⟩
    · have hw : w ≠ 0 := by intro e; subst e; simp at hl
      rw [hv]; simp only [val, Nat.mul_zero, Nat.add_zero]; exact wds_small hw h1
    · have hl' : (x :: l).getLast? ≠ some 0 := by rwa [List.getLast?_cons_cons] at hl
      have e := ih h2 hl'
      have hne : val (x :: l) ≠ 0 := by intro e0; rw [e0, wds_zero] at e; cases e
      have hp : 0 < BB * val (x :: l) := Nat.mul_pos BB_pos (by omega)
      rw [hv, wds_pos (by omega), Nat.add_mul_mod_self_left, Nat.mod_eq_of_lt h1, Nat.add_mul_div_left _ _ BB_pos, Nat.div_eq_of_lt h1, Nat.zero_add, e]
theorem wds_last (n : Nat) : (wds n).getLast? ≠ some 0 := by
  induction n using Nat.strongRecOn with
  | _ n ih =>
    by_cases h : n = 0
    · subst h; rw [wds_zero]; simp
    · by_cases hs : n < BB
      · rw [wds_small h hs]; simp; exact h
      · have hd : n / BB ≠ 0 := by
          have : 0 < n / BB := Nat.div_pos (by omega) BB_pos
          omega
        have hi := ih (n / BB) (Nat.div_lt_self (by omega) (by decide))
        rw [wds_pos h]
        cases hw : wds (n / BB) with
        | nil => exact absurd ((wds_nil_iff _).1 hw) hd
        | cons x l => rw [List.getLast?_cons_cons, ← hw]; exact hi
/-- A zero at the end is left out. -/
theorem val_snoc_zero (l : List Nat) : val (l ++ [0]) = val l := by rw [val_snoc]; simp
theorem wds_len_pos {n : Nat} (h : n ≠ 0) : 0 < (wds n).length := by rw [wds_pos h]; simp
theorem wds_len_lt (n : Nat) : n < BB ^ (wds n).length := by have := val_lt (ok_wds n); rwa [val_wds] at this
theorem wds_len_ge {n : Nat} (h : n ≠ 0) : BB ^ ((wds n).length - 1) ≤ n := by
  induction n using Nat.strongRecOn with
  | _ n ih =>
    rw [wds_pos h, List.length_cons, Nat.add_sub_cancel]
    by_cases hd : n / BB = 0
    · rw [hd, wds_zero]; simp; omega
    · have h1 := ih (n / BB) (Nat.div_lt_self (by omega) (by decide)) hd
      have h2 := wds_len_pos hd
      obtain ⟨m, hm⟩ : ∃ m, (wds (n / BB)).length = m + 1 := ⟨(wds (n / BB)).length - 1, by omega⟩
      rw [hm] at h1 ⊢
      rw [Nat.pow_succ]
      have := Nat.mul_le_mul_right BB h1
      have := Nat.div_mul_le_self n BB
      simp at *; omega
theorem wds_len_le {n k : Nat} (h : n < BB ^ k) : (wds n).length ≤ k := by
  by_cases h0 : n = 0
  · subst h0; rw [wds_zero]; simp
  · rcases Nat.lt_or_ge k (wds n).length with hlt | hge
    · have h1 := wds_len_ge h0
      have h2 : BB ^ k ≤ BB ^ ((wds n).length - 1) := Nat.pow_le_pow_right BB_pos (by omega)
      omega
    · exact hge
theorem wds_mono {a b : Nat} (h : a ≤ b) : (wds a).length ≤ (wds b).length := wds_len_le (Nat.lt_of_le_of_lt h (wds_len_lt b))
/-- Lists of words with one length: the greater first words decide. -/
theorem val_take_drop (l : List Nat) (i : Nat) (hi : i ≤ l.length) : val l = val (l.take i) + BB ^ i * val (l.drop i) := by
  have := val_append (l.take i) (l.drop i)
  rw [List.take_append_drop, List.length_take, Nat.min_eq_left hi] at this
  exact this
theorem take_succ (l : List Nat) (i : Nat) (h : i < l.length) : val (l.take (i + 1)) = val (l.take i) + BB ^ i * l.getD i 0 := by
  rw [List.take_succ_eq_append_getElem h, val_snoc, List.length_take, Nat.min_eq_left (by omega), List.getD_eq_getElem?_getD, List.getElem?_eq_getElem h]; rfl

/-! ### Words and digits -/
def pad9 (w : Nat) : List UInt8 := List.replicate (9 - (decDigits w).length) 48 ++ decDigits w
theorem pval_zeros (k : Nat) : pval (List.replicate k 48) = 0 := by
  induction k with
  | zero => rfl
  | succ k ih => rw [List.replicate_succ, pval_cons, ih]; simp
theorem dec_len9 {w : Nat} (h : w < BB) : (decDigits w).length ≤ 9 := by
  by_cases hz : w = 0
  · subst hz; rw [dec_small (by omega)]; simp
  · have := dec_len_ge w (by omega)
    rcases Nat.lt_or_ge 9 (decDigits w).length with hlt | hge
    · have : 10 ^ 9 ≤ 10 ^ ((decDigits w).length - 1) := Nat.pow_le_pow_right (by omega) (by omega)
      rw [BB_eq] at h; omega
    · exact hge
theorem pad9_len {w : Nat} (h : w < BB) : (pad9 w).length = 9 := by
  have := dec_len9 h
  simp [pad9]; omega
theorem pad9_dig (w : Nat) : ∀ c ∈ pad9 w, isDig c := by
  intro c hc
  rcases List.mem_append.1 hc with hc | hc
  · obtain rfl := (List.mem_replicate.1 hc).2
    unfold isDig; decide
  · exact dec_dig w c hc
theorem pval_pad9 (w : Nat) : pval (pad9 w) = w := by rw [pad9, pval_append, pval_zeros, pval_dec]; omega
theorem dec_words {n : Nat} (h : BB ≤ n) : decDigits n = decDigits (n / BB) ++ pad9 (n % BB) := by
  have hd : n / BB ≠ 0 := by
    have : 0 < n / BB := Nat.div_pos h BB_pos
    omega
  have hm := Nat.mod_lt n BB_pos
  have hc : Canon (decDigits (n / BB) ++ pad9 (n % BB)) := by
    refine ⟨by simp [dec_ne], fun c hc => ?_, fun _ => ?_⟩
    · rcases List.mem_append.1 hc with hc | hc
      · exact dec_dig _ c hc
      · exact pad9_dig _ c hc
    · rw [head_append _ _ (dec_ne _)]; exact dec_head _ (Nat.pos_of_ne_zero hd)
  have := dec_pval hc
  rw [pval_append, pval_dec, pval_pad9, pad9_len hm, show (10 : Nat) ^ 9 = BB from rfl] at this
  rw [← this, show n / BB * BB + n % BB = n by rw [Nat.mul_comm]; exact Nat.div_add_mod n BB]
end Go.Proofs.YtbldlibijojbjaaGreatDoor.GB

namespace Go.Proofs.YtbldlibijojbjaaGreatDoor.GB
set_option linter.unusedVariables false
set_option linter.unusedSimpArgs false
open Go.Lib (decDigits itoa cut index trimPrefix hasPrefix)

/-! ### Integers as texts -/
theorem itoa_nat (n : Nat) : itoa (n : Int) = decDigits n := by unfold itoa; rw [if_neg (by omega), Int.toNat_natCast]
theorem itoa_neg (n : Nat) (h : 0 < n) : itoa (-(n : Int)) = 45 :: decDigits n := by
  unfold itoa; rw [if_pos (by omega), Int.natAbs_neg, Int.natAbs_natCast]
theorem itoa_of_neg {z : Int} (h : z < 0) : itoa z = 45 :: decDigits z.natAbs := by unfold itoa; rw [if_pos h]
theorem itoa_of_nonneg {z : Int} (h : 0 ≤ z) : itoa z = decDigits z.natAbs := by
  unfold itoa; rw [if_neg (by omega)]; congr 1; omega
theorem dec_no (n : Nat) (c : UInt8) (h : c ∈ decDigits n) : c ≠ 45 ∧ c ≠ 47 := by
  have := dec_dig n c h
  unfold isDig at this
  constructor <;> (rintro rfl; simp at this)
theorem itoa_no47 (z : Int) : 47 ∉ itoa z := by
  unfold itoa; split
  · intro h; rcases List.mem_cons.1 h with h | h
    · exact absurd h (by decide)
    · exact (dec_no _ _ h).2 rfl
  · intro h; exact (dec_no _ _ h).2 rfl
theorem dec_head45 (n : Nat) : hasPrefix (decDigits n) [45] = false := by
  unfold hasPrefix
  cases h : decDigits n with
  | nil => exact absurd h (dec_ne n)
  | cons c l =>
    have := (dec_no n c (by rw [h]; simp)).1
    simp [List.isPrefixOf]; exact fun e => this e.symm
theorem itoa_prefix (z : Int) : hasPrefix (itoa z) [45] = decide (z < 0) ∧ trimPrefix (itoa z) [45] = decDigits z.natAbs := by
  by_cases h : z < 0
  · rw [itoa_of_neg h]
    have : hasPrefix (45 :: decDigits z.natAbs) [45] = true := by simp [hasPrefix, List.isPrefixOf]
    exact ⟨by rw [this]; simp [h], by rw [trimPrefix, if_pos this]; rfl⟩
  · rw [itoa_of_nonneg (by omega)]
    exact ⟨by rw [dec_head45]; simp; omega, by rw [trimPrefix, dec_head45]; rfl⟩
theorem itoa_inj {a b : Int} (h : itoa a = itoa b) : a = b := by
  have h1 := (itoa_prefix a); have h2 := itoa_prefix b
  rw [h] at h1
  have e1 := h1.1.symm.trans h2.1
  have e2 := dec_inj (h1.2.symm.trans h2.2)
  simp at e1; omega
theorem prefix_cases (l : List UInt8) : (∃ t, l = 45 :: t ∧ hasPrefix l [45] = true ∧ trimPrefix l [45] = t) ∨ (hasPrefix l [45] = false ∧ trimPrefix l [45] = l) := by
  cases hl : hasPrefix l [45] with
  | true =>
    left
    cases l with
    | nil => simp [hasPrefix, List.isPrefixOf] at hl
    | cons c t =>
      have hc : c = 45 := by simp [hasPrefix, List.isPrefixOf] at hl; exact hl.symm
      subst hc
      exact ⟨t, rfl, rfl, by rw [trimPrefix, if_pos hl]; rfl⟩
  | false => right; exact ⟨rfl, by rw [trimPrefix, hl]; rfl⟩
/-- An integer's text: what is behind the sign is a natural number's, and it is not '-0'. -/
theorem int_valid (l : List UInt8) : (∃ z, l = itoa z) ↔ Canon (trimPrefix l [45]) ∧ ¬ (hasPrefix l [45] = true ∧ trimPrefix l [45] = [48]) := by
  constructor
  · rintro ⟨z, rfl⟩
    obtain ⟨h1, h2⟩ := itoa_prefix z
    rw [h1, h2]
    refine ⟨dec_canon _, fun ⟨h3, h4⟩ => ?_⟩
    have h5 : decDigits z.natAbs = decDigits 0 := by rw [h4, dec_small (by omega)]; rfl
    have := dec_inj h5
    simp at h3; omega
  · rintro ⟨h1, h2⟩
    rcases prefix_cases l with ⟨t, rfl, h3, h4⟩ | ⟨h3, h4⟩
    · rw [h4] at h1 h2
      have hp : 0 < pval t := by
        rcases (dec_pval_aux t.length t rfl h1).2 with h | h
        · exact h
        · exact absurd ⟨h3, h⟩ h2
      exact ⟨-(pval t : Int), by rw [itoa_neg _ hp, dec_pval h1]⟩
    · rw [h4] at h1
      exact ⟨(pval l : Int), by rw [itoa_nat, dec_pval h1]⟩

/-! ### Rational numbers as texts -/
def rtext (q : Rat) : List UInt8 := itoa q.num ++ (if q.den = 1 then [] else 47 :: decDigits q.den)
theorem index47_miss (l : List UInt8) (h : 47 ∉ l) : index l [47] = -1 := by
  induction l with
  | nil => rfl
  | cons c l ih =>
    have h1 : c ≠ 47 := fun e => h (by rw [e]; simp)
    have h2 := ih (fun hm => h (List.mem_cons_of_mem _ hm))
    rw [index, h2, if_neg (by simp [List.isPrefixOf]; exact fun e => h1 e.symm)]
    rfl
theorem index47_hit (p d : List UInt8) (h : 47 ∉ p) : index (p ++ 47 :: d) [47] = p.length := by
  induction p with
  | nil => simp [index, List.isPrefixOf]
  | cons c p ih =>
    have h1 : c ≠ 47 := fun e => h (by rw [e]; simp)
    have h2 := ih (fun hm => h (List.mem_cons_of_mem _ hm))
    rw [List.cons_append, index, h2, if_neg (by simp [List.isPrefixOf]; exact fun e => h1 e.symm), if_neg (by simp)]
    simp
theorem cut_miss (l : List UInt8) (h : 47 ∉ l) : cut l [47] = (l, [], false) := by
  unfold cut; rw [index47_miss l h, if_neg (by omega)]
theorem cut_hit (p d : List UInt8) (h : 47 ∉ p) : cut (p ++ 47 :: d) [47] = (p, d, true) := by
  unfold cut
  rw [index47_hit p d h, if_pos (by omega)]
  have h1 : ((p.length : Int)).toNat = p.length := by omega
  rw [h1]
  simp
theorem cut_cases (l : List UInt8) : 47 ∉ l ∨ ∃ p d, 47 ∉ p ∧ l = p ++ 47 :: d := by
  induction l with
  | nil => left; simp
  | cons c l ih =>
    by_cases hc : c = 47
    · right; exact ⟨[], l, by simp, by rw [hc]; rfl⟩
    · rcases ih with h | ⟨p, d, h1, h2⟩
      · left; intro hm; rcases List.mem_cons.1 hm with h3 | h3
        · exact hc h3.symm
        · exact h h3
      · right; refine ⟨c :: p, d, ?_, by rw [h2]; rfl⟩
        intro hm; rcases List.mem_cons.1 hm with h3 | h3
        · exact hc h3.symm
        · exact h1 h3
theorem rtext_int {q : Rat} (h : q.den = 1) : rtext q = itoa q.num := by rw [rtext, if_pos h, List.append_nil]
theorem rtext_frac {q : Rat} (h : q.den ≠ 1) : rtext q = itoa q.num ++ 47 :: decDigits q.den := by rw [rtext, if_neg h]
theorem rtext_of_int (z : Int) : rtext (z : Rat) = itoa z := by rw [rtext_int (by simp)]; simp
theorem rtext_inj {a b : Rat} (h : rtext a = rtext b) : a = b := by
  have hcut : ∀ q : Rat, cut (rtext q) [47] = (itoa q.num, (if q.den = 1 then [] else decDigits q.den), decide (q.den ≠ 1)) := by
    intro q
    by_cases hq : q.den = 1
    · rw [rtext_int hq, cut_miss _ (itoa_no47 _), if_pos hq]; simp [hq]
    · rw [rtext_frac hq, cut_hit _ _ (itoa_no47 _), if_neg hq]; simp [hq]
  have h1 := hcut a
  rw [h, hcut b] at h1
  simp only [Prod.mk.injEq] at h1
  obtain ⟨h1, h2, h3⟩ := h1
  have hn := itoa_inj h1
  have hd : a.den = b.den := by
    by_cases ha : a.den = 1
    · by_cases hb : b.den = 1
      · rw [ha, hb]
      · simp [ha, hb] at h3
    · by_cases hb : b.den = 1
      · simp [ha, hb] at h3
      · rw [if_neg ha, if_neg hb] at h2; exact (dec_inj h2).symm
  exact Rat.ext hn.symm hd
/-- A text without a slash is a rational number's just if it is an integer's. -/
theorem rat_valid_int {l : List UInt8} (h : 47 ∉ l) : (∃ q, l = rtext q) ↔ ∃ z, l = itoa z := by
  constructor
  · rintro ⟨q, rfl⟩
    by_cases hq : q.den = 1
    · exact ⟨q.num, rtext_int hq⟩
    · rw [rtext_frac hq] at h; simp at h
  · rintro ⟨z, rfl⟩; exact ⟨(z : Rat), (rtext_of_int z).symm⟩
/-- One with a slash: a numerator that is not 0, a denominator that is greater than 1, in lowest terms. -/
theorem rat_valid_frac {p d : List UInt8} (h : 47 ∉ p) : (∃ q, p ++ 47 :: d = rtext q) ↔ ∃ (z : Int) (n : Nat), p = itoa z ∧ d = decDigits n ∧ z ≠ 0 ∧ n ≠ 0 ∧ n ≠ 1 ∧ Nat.gcd z.natAbs n = 1 := by
  constructor
  · rintro ⟨q, hq⟩
    have hd : q.den ≠ 1 := by
      intro hd; rw [rtext_int hd] at hq
      have := itoa_no47 q.num; rw [← hq] at this; simp at this
    rw [rtext_frac hd] at hq
    have h1 := cut_hit p d h
    rw [hq, cut_hit _ _ (itoa_no47 _)] at h1
    simp only [Prod.mk.injEq] at h1
    refine ⟨q.num, q.den, h1.1.symm, h1.2.1.symm, ?_, q.den_nz, hd, q.reduced⟩
    intro h0
    have := q.reduced
    rw [h0] at this
    simp [Nat.Coprime] at this
    exact hd this
  · rintro ⟨z, n, rfl, rfl, _, h2, h3, h4⟩
    refine ⟨⟨z, n, h2, h4⟩, ?_⟩
    rw [rtext_frac (by exact h3)]
theorem rat_of_frac {z : Int} {n : Nat} (h2 : n ≠ 0) (h3 : n ≠ 1) (h4 : Nat.gcd z.natAbs n = 1) : itoa z ++ 47 :: decDigits n = rtext ⟨z, n, h2, h4⟩ := by
  rw [rtext_frac (by exact h3)]
/-- Lowest terms: the quotients by the greatest common divisor. -/
theorem rat_lowest (z : Int) (n : Nat) (h : n ≠ 0) : ((mkRat z n).num = z / (Nat.gcd z.natAbs n : Nat)) ∧ (mkRat z n).den = n / Nat.gcd z.natAbs n := by
  rw [← Rat.normalize_eq_mkRat h, Rat.normalize_eq]
  exact ⟨rfl, rfl⟩
end Go.Proofs.YtbldlibijojbjaaGreatDoor.GB
