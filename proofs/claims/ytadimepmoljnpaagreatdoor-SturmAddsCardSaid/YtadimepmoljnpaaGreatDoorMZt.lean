import Derived.Test.YtadimepmoljnpaaGreatDoorMNum
import Derived.LoopTactic
import Derived.Deep.QuietTactic
import Derived.BigQuiet
namespace Go.Proofs.YtadimepmoljnpaaGreatDoor.GB
set_option linter.unusedVariables false
set_option linter.unusedSimpArgs false
open Go.RowKit
end Go.Proofs.YtadimepmoljnpaaGreatDoor.GB

namespace Go.Proofs.YtadimepmoljnpaaGreatDoor.GB
set_option linter.unusedVariables false
set_option linter.unusedSimpArgs false
open Go.RowKit
end Go.Proofs.YtadimepmoljnpaaGreatDoor.GB

namespace Go.Proofs.YtadimepmoljnpaaGreatDoor.GB
set_option linter.unusedVariables false
set_option linter.unusedSimpArgs false

/-- The window's words: W = a + P·T, the divisor's: V = b + P·D. -/
structure KW (W V P T top u2 v1 v2 a b : Nat) : Prop where
  hW : W = a + P * T
  hV : V = b + P * (v1 * BB + v2)
  ha : a < P
  hb : b < P
  hT : T = top * BB + u2
  hu : u2 < BB
  hv : v2 < BB
  h1 : 0 < v1
  hlt : W < BB * V

theorem KW.vpos {W V P T top u2 v1 v2 a b : Nat} (h : KW W V P T top u2 v1 v2 a b) : 0 < V ∧ P * BB ≤ V := by
  have hP : 0 < P := by have := h.ha; omega
  have h1 : 1 * BB ≤ v1 * BB := Nat.mul_le_mul_right BB h.h1
  have h2 : P * (1 * BB) ≤ P * (v1 * BB + v2) := Nat.mul_le_mul_left P (by omega)
  rw [h.hV, Nat.one_mul] at *
  have : 0 < P * BB := Nat.mul_pos hP BB_pos
  omega
theorem KW.q_lt {W V P T top u2 v1 v2 a b : Nat} (h : KW W V P T top u2 v1 v2 a b) : W / V < BB :=
  (Nat.div_lt_iff_lt_mul h.vpos.1).2 h.hlt
/-- If g times the divisor's first words is more than the window's, g is greater than the quotient. -/
theorem KW.less {W V P T top u2 v1 v2 a b g : Nat} (h : KW W V P T top u2 v1 v2 a b) (hg : T < g * (v1 * BB + v2)) : W / V < g := by
  refine (Nat.div_lt_iff_lt_mul h.vpos.1).2 ?_
  rw [h.hW, h.hV, Nat.mul_add]
  have h1 : P * (T + 1) ≤ P * (g * (v1 * BB + v2)) := Nat.mul_le_mul_left P hg
  have h2 : g * (P * (v1 * BB + v2)) = P * (g * (v1 * BB + v2)) := by grind
  rw [h2]
  rw [Nat.mul_add] at h1
  have := h.ha
  omega
theorem KW.start {W V P T top u2 v1 v2 a b : Nat} (h : KW W V P T top u2 v1 v2 a b) : W / V ≤ top / v1 := by
  rcases Nat.lt_or_ge (top / v1) (W / V) with hlt | hge
  · exfalso
    have hg := h.less (g := top / v1 + 1) ?_
    · omega
    · rw [h.hT]
      have h1 : top < (top / v1 + 1) * v1 := by
        have := Nat.div_add_mod top v1
        have := Nat.mod_lt top h.h1
        rw [Nat.add_mul, Nat.mul_comm (top / v1)]; omega
      have h2 : (top + 1) * BB ≤ (top / v1 + 1) * v1 * BB := Nat.mul_le_mul_right BB h1
      have h3 : (top / v1 + 1) * (v1 * BB + v2) = (top / v1 + 1) * v1 * BB + (top / v1 + 1) * v2 := by grind
      have := h.hu
      rw [h3]; rw [Nat.add_mul] at h2
      omega
  · exact hge
/-- The guess is lowered. -/
theorem KW.step {W V P T top u2 v1 v2 a b g r : Nat} (h : KW W V P T top u2 v1 v2 a b) (hq : W / V ≤ g) (hr : g * v1 + r = top) (hc : BB ≤ g ∨ r * BB + u2 < g * v2) :
    1 ≤ g ∧ W / V ≤ g - 1 ∧ (g - 1) * v1 + (r + v1) = top := by
  have hlt : W / V < g := by
    rcases hc with hc | hc
    · exact Nat.lt_of_lt_of_le h.q_lt hc
    · refine h.less ?_
      rw [h.hT, ← hr]
      have h3 : g * (v1 * BB + v2) = g * v1 * BB + g * v2 := by grind
      rw [h3, Nat.add_mul]; omega
  have h0 : 0 ≤ W / V := Nat.zero_le _
  refine ⟨by omega, by omega, ?_⟩
  obtain ⟨m, rfl⟩ : ∃ m, g = m + 1 := ⟨g - 1, by omega⟩
  rw [Nat.add_mul] at hr
  simp only [Nat.add_sub_cancel]; omega
/-- The guess is right, or one too great. -/
theorem KW.last {W V P T top u2 v1 v2 a b g r : Nat} (h : KW W V P T top u2 v1 v2 a b) (htop : top ≤ v1 * BB + (BB - 1)) (hr : g * v1 + r = top)
    (hc : BB ≤ r ∨ (g < BB ∧ g * v2 ≤ r * BB + u2)) : g < BB ∧ g ≤ W / V + 1 := by
  have hg : g < BB := by
    rcases hc with hc | hc
    · rcases Nat.lt_or_ge g BB with h1 | h1
      · exact h1
      · have := Nat.mul_le_mul_right v1 h1
        have hB : BB = 1000000000 := rfl
        rw [Nat.mul_comm BB v1] at this
        omega
    · exact hc.1
  refine ⟨hg, ?_⟩
  have hle : g * (v1 * BB + v2) ≤ T := by
    have h3 : g * (v1 * BB + v2) = g * v1 * BB + g * v2 := by grind
    rw [h3, h.hT, ← hr, Nat.add_mul]
    rcases hc with hc | hc
    · have h4 : g * v2 ≤ BB * BB := Nat.mul_le_mul (Nat.le_of_lt hg) (Nat.le_of_lt h.hv)
      have h5 : BB * BB ≤ r * BB := Nat.mul_le_mul_right BB hc
      omega
    · have := hc.2; omega
  have hV := h.vpos
  have h6 : g * V < W + V := by
    rw [h.hW]
    have e : g * V = g * b + P * (g * (v1 * BB + v2)) := by rw [h.hV]; grind
    rw [e]
    have h7 : P * (g * (v1 * BB + v2)) ≤ P * T := Nat.mul_le_mul_left P hle
    have h8 : g * b ≤ BB * P := Nat.mul_le_mul (Nat.le_of_lt hg) (Nat.le_of_lt h.hb)
    have h9 : g * b < V ∨ g * b < BB * P := by
      by_cases hg0 : g = 0
      · left; subst hg0; simp; exact hV.1
      · right
        have h10 : g * b < g * P := Nat.mul_lt_mul_of_pos_left h.hb (Nat.pos_of_ne_zero hg0)
        have h11 : g * P ≤ BB * P := Nat.mul_le_mul_right P (Nat.le_of_lt hg)
        omega
    rw [Nat.mul_comm BB P] at h9
    omega
  have h12 : g < W / V + 2 := by
    have h13 : g * V < (W / V + 2) * V := by
      have := Nat.div_add_mod W V
      have := Nat.mod_lt W hV.1
      have e : (W / V + 2) * V = V * (W / V) + V + V := by grind
      rw [e]; omega
    exact Nat.lt_of_mul_lt_mul_right h13
  omega
end Go.Proofs.YtadimepmoljnpaaGreatDoor.GB

namespace Go.Proofs.YtadimepmoljnpaaGreatDoor.GB
set_option linter.unusedVariables false
set_option linter.unusedSimpArgs false

def wd (l : List Nat) (i : Nat) : Nat := l.getD i 0
theorem wd_lt {l : List Nat} {i : Nat} (h : i < l.length) : wd l i = l[i] := by unfold wd; simp [h]
theorem wd_ge {l : List Nat} {i : Nat} (h : l.length ≤ i) : wd l i = 0 := by unfold wd; simp [h]
theorem wd_ok {l : List Nat} (h : Ok l) (i : Nat) : wd l i < BB := by
  by_cases hi : i < l.length
  · rw [wd_lt hi]; exact h _ (List.getElem_mem _)
  · rw [wd_ge (by omega)]; decide
theorem val_take_succ (l : List Nat) (i : Nat) : val (l.take (i + 1)) = val (l.take i) + BB ^ i * wd l i := by
  by_cases h : i < l.length
  · exact take_succ l i h
  · rw [wd_ge (by omega), List.take_of_length_le (by omega), List.take_of_length_le (by omega)]; omega
theorem wd_drop (l : List Nat) (j i : Nat) : wd (l.drop j) i = wd l (j + i) := by unfold wd; simp
theorem val_split (l : List Nat) (i : Nat) : val l = val (l.take i) + BB ^ i * val (l.drop i) := by
  by_cases h : i ≤ l.length
  · exact val_take_drop l i h
  · rw [List.take_of_length_le (by omega), List.drop_eq_nil_of_le (by omega)]; simp [val]
theorem val_drop_cons (l : List Nat) (j : Nat) : val (l.drop j) = wd l j + BB * val (l.drop (j + 1)) := by
  by_cases h : j < l.length
  · rw [List.drop_eq_getElem_cons h, val, wd_lt h]
  · rw [List.drop_eq_nil_of_le (by omega), List.drop_eq_nil_of_le (by omega), wd_ge (by omega)]; simp [val]
theorem Ok.take {l : List Nat} (h : Ok l) (i : Nat) : Ok (l.take i) := fun w hw => h w (List.mem_of_mem_take hw)
theorem Ok.drop {l : List Nat} (h : Ok l) (i : Nat) : Ok (l.drop i) := fun w hw => h w (List.mem_of_mem_drop hw)
theorem val_take_lt {l : List Nat} (h : Ok l) (i : Nat) : val (l.take i) < BB ^ i := by
  refine Nat.lt_of_lt_of_le (val_lt (h.take i)) (Nat.pow_le_pow_right BB_pos ?_)
  rw [List.length_take]; omega

structure KInv (v : List Nat) (N k t : Nat) (U Q : List Nat) : Prop where
  okU : Ok U
  okQ : Ok Q
  lenU : U.length = Q.length + k
  ht : t ≤ Q.length
  tot : val U + val v * (BB ^ t * val (Q.drop t)) = N
  lt : val (U.drop t) < val v

section
variable {v : List Nat} {N k j : Nat} {U Q : List Nat}
theorem KInv.high (h : KInv v N k (j + 1) U Q) (hv : Ok v) (hk : v.length = k) : val (U.drop (j + 1 + k)) = 0 ∧ val (U.drop j) = val ((U.drop j).take k) + BB ^ k * wd U (j + k) := by
  have h1 := h.lt
  have h2 := val_lt hv
  rw [hk] at h2
  have h3 := val_split (U.drop (j + 1)) k
  rw [List.drop_drop] at h3
  have hz : val (U.drop (j + 1 + k)) = 0 := by
    rcases Nat.eq_zero_or_pos (val (U.drop (j + 1 + k))) with h4 | h4
    · exact h4
    · have := Nat.mul_le_mul_left (BB ^ k) h4; omega
  refine ⟨hz, ?_⟩
  have h5 := val_split (U.drop j) k
  rw [List.drop_drop] at h5
  have h6 := val_drop_cons U (j + k)
  rw [show j + k + 1 = j + 1 + k by omega, hz] at h6
  rw [h5, h6]; simp
theorem KInv.wlt (h : KInv v N k (j + 1) U Q) : val (U.drop j) < BB * val v := by
  have h1 := h.lt
  have h2 := val_drop_cons U j
  have h3 := wd_ok h.okU j
  have h4 : BB * (val (U.drop (j + 1)) + 1) ≤ BB * val v := Nat.mul_le_mul_left BB h1
  rw [Nat.mul_add] at h4; omega
theorem KInv.window (h : KInv v N (k + 2) (j + 1) U Q) (hv : Ok v) (hk : v.length = k + 2) (h1 : 0 < wd v (k + 1)) :
    KW (val (U.drop j)) (val v) (BB ^ k) ((wd U (j + k + 2) * BB + wd U (j + k + 1)) * BB + wd U (j + k)) (wd U (j + k + 2) * BB + wd U (j + k + 1)) (wd U (j + k)) (wd v (k + 1)) (wd v k)
      (val ((U.drop j).take k)) (val (v.take k)) := by
  have hh := (h.high hv hk).2
  have e1 := val_take_succ (U.drop j) k
  have e2 := val_take_succ (U.drop j) (k + 1)
  rw [wd_drop] at e1 e2
  have f1 := val_take_succ v k
  have f2 := val_take_succ v (k + 1)
  have f3 : val v = val (v.take (k + 2)) := by rw [List.take_of_length_le (by omega)]
  refine ⟨?_, ?_, val_take_lt (h.okU.drop j) k, val_take_lt hv k, rfl, wd_ok h.okU _, wd_ok hv _, h1, h.wlt⟩
  · rw [hh, show k + 2 = k + 1 + 1 from rfl, e2, e1, Nat.pow_succ, Nat.pow_succ, show j + (k + 1 + 1) = j + k + 2 by omega, show j + (k + 1) = j + k + 1 by omega]
    grind
  · rw [f3, show k + 2 = k + 1 + 1 from rfl, f2, f1, Nat.pow_succ]; grind
theorem KInv.top_le (h : KInv v N (k + 2) (j + 1) U Q) (hv : Ok v) (hk : v.length = k + 2) :
    wd U (j + k + 2) * BB + wd U (j + k + 1) ≤ wd v (k + 1) * BB + (BB - 1) := by
  have h0 := wd_ok h.okU (j + k + 1)
  have h1 : wd U (j + k + 2) ≤ wd v (k + 1) := by
    have h2 := h.lt
    have e2 := val_take_succ (U.drop (j + 1)) (k + 1)
    rw [wd_drop] at e2
    have e3 := val_split (U.drop (j + 1)) (k + 1 + 1)
    have f2 := val_take_succ v (k + 1)
    have f3 : val v = val (v.take (k + 1 + 1)) := by rw [List.take_of_length_le (by omega)]
    have f4 := val_take_lt hv (k + 1)
    rw [show j + 1 + (k + 1) = j + k + 2 by omega] at e2
    rcases Nat.lt_or_ge (wd v (k + 1)) (wd U (j + k + 2)) with h3 | h3
    · have h5 := Nat.mul_le_mul_left (BB ^ (k + 1)) h3
      rw [Nat.mul_succ] at h5
      have := Nat.zero_le (BB ^ (k + 1 + 1) * val ((U.drop (j + 1)).drop (k + 1 + 1)))
      omega
    · exact h3
  have := Nat.mul_le_mul_right BB h1
  omega
/-- The window behind the step: the remainder's words, and a zero. -/
theorem KInv.next (h : KInv v N k (j + 1) U Q) (hv : Ok v) (hk : v.length = k) (D : List Nat) (g : Nat) (hD : D.length = k) (oD : Ok D) (hg : g < BB) (he : val (U.drop j) = val D + g * val v) (hlt : val D < val v) :
    KInv v N k j (U.take j ++ (D ++ 0 :: U.drop (j + k + 1))) (Q.set j g) := by
  have hj : j + 1 ≤ Q.length := h.ht
  have hl := h.lenU
  have hz := (h.high hv hk).1
  have hz' : val (U.drop (j + k + 1)) = 0 := by rw [show j + k + 1 = j + 1 + k by omega]; exact hz
  have eD : val (D ++ 0 :: U.drop (j + k + 1)) = val D := by rw [val_append, val, hz']; simp
  have edr : (U.take j ++ (D ++ 0 :: U.drop (j + k + 1))).drop j = D ++ 0 :: U.drop (j + k + 1) := by
    rw [List.drop_left' (by rw [List.length_take]; omega)]
  have eQ : (Q.set j g).drop j = g :: Q.drop (j + 1) := by
    rw [List.drop_eq_getElem_cons (by rw [List.length_set]; omega), List.getElem_set_self, List.drop_set_of_lt (by omega)]
  refine ⟨?_, ?_, ?_, by rw [List.length_set]; omega, ?_, by rw [edr, eD]; exact hlt⟩
  · refine Ok.append.2 ⟨h.okU.take j, Ok.append.2 ⟨oD, Ok.cons.2 ⟨BB_pos, h.okU.drop _⟩⟩⟩
  · intro w hw
    rcases List.mem_or_eq_of_mem_set hw with h1 | h1
    · exact h.okQ w h1
    · rw [h1]; exact hg
  · simp only [List.length_append, List.length_take, List.length_cons, List.length_drop, List.length_set, hD]; omega
  · rw [eQ, val_append, eD, List.length_take, Nat.min_eq_left (by omega), val]
    have h1 := val_split U j
    have h2 := h.tot
    rw [h1, he, Nat.pow_succ] at h2
    rw [← h2]; grind
/-- The subtraction of g times the divisor, word by word. -/
def SInv (U v : List Nat) (j g i : Nat) (D : List Nat) (c bw : Nat) : Prop :=
  D.length = i ∧ Ok D ∧ c < BB ∧ bw ≤ 1 ∧ (val D : Int) = val ((U.drop j).take i) - g * val (v.take i) + (BB : Int) ^ i * (c + bw)
theorem SInv.start (U v : List Nat) (j g : Nat) : SInv U v j g 0 [] 0 0 := ⟨rfl, (fun w hw => by cases hw), by decide, by omega, by simp [val]⟩
theorem SInv.step {D : List Nat} {g i c bw p c' d' : Nat} {bw' : Nat} {d : Int} (h : SInv U v j g i D c bw) (oU : Ok U) (hv : Ok v) (hg : g < BB) (hp : p = g * wd v i + c)
    (hc : c' = p / 1000000000) (hd : d = (wd U (j + i) : Int) - (p % 1000000000 : Nat) - bw)
    (hd' : (d < 0 ∧ (d' : Int) = d + 1000000000 ∧ bw' = 1) ∨ (0 ≤ d ∧ (d' : Int) = d ∧ bw' = 0)) : SInv U v j g (i + 1) (D ++ [d']) c' bw' := by
  obtain ⟨h1, h2, h3, h4, h5⟩ := h
  have hu := wd_ok oU (j + i)
  have hw := wd_ok hv i
  have hB : BB = 1000000000 := rfl
  refine ⟨by simp [h1], Ok.append.2 ⟨h2, fun w hw' => ?_⟩, ?_, by omega, ?_⟩
  · obtain rfl := List.mem_singleton.1 hw'
    omega
  · rw [hc, ← hB]
    refine (Nat.div_lt_iff_lt_mul BB_pos).2 ?_
    rw [hp]
    have h6 : g * wd v i ≤ (BB - 1) * (BB - 1) := Nat.mul_le_mul (by omega) (by omega)
    have h7 : (BB - 1) * (BB - 1) + BB ≤ BB * BB := by decide
    omega
  · rw [val_take_succ, val_take_succ, wd_drop, val_snoc, h1]
    have e0 : (p : Int) = (p % 1000000000 : Nat) + 1000000000 * (p / 1000000000 : Nat) := by omega
    have e1 : (d' : Int) = wd U (j + i) - (g * wd v i + c) - bw + 1000000000 * (c' + bw') := by
      have e2 : (p : Int) = g * wd v i + c := by rw [hp]; push_cast; rfl
      rcases hd' with ⟨_, h7, h8⟩ | ⟨_, h7, h8⟩ <;> (subst h8; rw [hc]; omega)
    rw [← show (BB : Int) = 1000000000 from rfl] at e1
    push_cast
    rw [e1, h5, Int.pow_succ]
    grind
/-- The end of the subtraction: no carry, or one that is to be given back. -/
theorem SInv.done {D : List Nat} {g c bw : Nat} {last : Int} (h : SInv U v j g k D c bw) (hi : KInv v N k (j + 1) U Q) (hv : Ok v) (hk : v.length = k) (hg : g ≤ val (U.drop j) / val v + 1) (hq : val (U.drop j) / val v ≤ g)
    (hl : last = (wd U (j + k) : Int) - c - bw) :
    (0 ≤ last → last = 0 ∧ val (U.drop j) = val D + g * val v ∧ val D < val v) ∧
    (last < 0 → last = -1 ∧ 1 ≤ g ∧ (val D : Int) + val v = (val (U.drop j) - (g - 1) * val v : Int) + (BB : Int) ^ k ∧ (val (U.drop j) : Int) - (g - 1) * val v < val v ∧ 0 ≤ (val (U.drop j) : Int) - (g - 1) * val v) := by
  obtain ⟨h1, h2, h3, h4, h5⟩ := h
  have hW := (hi.high hv hk).2
  have hV := val_lt hv
  rw [hk] at hV
  have hD := val_lt h2
  rw [h1] at hD
  rw [List.take_of_length_le (by omega : v.length ≤ k)] at h5
  generalize hWe : val (U.drop j) = W at *
  generalize hVe : val v = V at *
  have hVp : 0 < V := by have := hi.lt; omega
  have hP : ((BB ^ k : Nat) : Int) = (BB : Int) ^ k := by push_cast; rfl
  generalize hPe : BB ^ k = P at *
  rw [← hP] at h5 ⊢
  have e1 : (val D : Int) + P * last = W - g * V := by
    rw [h5, hl, hW]; push_cast; grind
  have hdm := Nat.div_add_mod W V
  have hml := Nat.mod_lt W hVp
  constructor
  · intro h0
    have hgq : g = W / V ∨ g = W / V + 1 := by omega
    have hl0 : (0 : Int) ≤ P * last := Int.mul_nonneg (by omega) h0
    rcases hgq with e | e
    · have e2 : (W : Int) - g * V = (W % V : Nat) := by
        rw [e]; have : (W : Int) = V * (W / V : Nat) + (W % V : Nat) := by exact_mod_cast hdm.symm
        grind
      rw [e2] at e1
      have hlz : last = 0 := by
        rcases Int.lt_or_le 0 last with h6 | h6
        · have : (P : Int) * 1 ≤ P * last := Int.mul_le_mul_of_nonneg_left (by omega) (by omega)
          omega
        · omega
      refine ⟨hlz, ?_, ?_⟩
      · rw [hlz] at e1
        have e3 : val D = W % V := by simp at e1; omega
        rw [e3, e]; rw [Nat.mul_comm]; omega
      · rw [hlz] at e1; simp at e1; omega
    · exfalso
      have e2 : (W : Int) - g * V = (W % V : Nat) - V := by
        rw [e]; have : (W : Int) = V * (W / V : Nat) + (W % V : Nat) := by exact_mod_cast hdm.symm
        push_cast; grind
      rw [e2] at e1
      omega
  · intro h0
    have hgq : g = W / V ∨ g = W / V + 1 := by omega
    rcases hgq with e | e
    · exfalso
      have e2 : (W : Int) - g * V = (W % V : Nat) := by
        rw [e]; have : (W : Int) = V * (W / V : Nat) + (W % V : Nat) := by exact_mod_cast hdm.symm
        grind
      rw [e2] at e1
      have : (P : Int) * last ≤ P * (-1) := Int.mul_le_mul_of_nonneg_left (by omega) (by omega)
      omega
    · have e2 : (W : Int) - g * V = (W % V : Nat) - V := by
        rw [e]; have : (W : Int) = V * (W / V : Nat) + (W % V : Nat) := by exact_mod_cast hdm.symm
        push_cast; grind
      have e4 : (W : Int) - (g - 1) * V = (W % V : Nat) := by
        have : ((g : Int) - 1) * V = g * V - V := by grind
        rw [this]; omega
      rw [e2] at e1
      have hlz : last = -1 := by
        rcases Int.lt_or_le last (-1) with h6 | h6
        · have : (P : Int) * last ≤ P * (-2) := Int.mul_le_mul_of_nonneg_left (by omega) (by omega)
          omega
        · omega
      rw [e4]
      subst hlz
      refine ⟨rfl, by rw [e]; exact Nat.le_add_left _ _, by omega, by omega, by omega⟩
/-- The divisor is given back, word by word. -/
def AInv (D v : List Nat) (i : Nat) (E : List Nat) (up : Nat) : Prop :=
  E.length = i ∧ Ok E ∧ up ≤ 1 ∧ val E + BB ^ i * up = val (D.take i) + val (v.take i)
theorem AInv.start (D v : List Nat) : AInv D v 0 [] 0 := ⟨rfl, (fun w hw => by cases hw), by omega, by simp [val]⟩
theorem AInv.step {D E : List Nat} {i up s : Nat} (h : AInv D v i E up) (oD : Ok D) (hv : Ok v) (hs : s = up + (wd D i + wd v i)) : AInv D v (i + 1) (E ++ [s % 1000000000]) (s / 1000000000) := by
  obtain ⟨h1, h2, h3, h4⟩ := h
  have h5 := wd_ok oD i
  have h6 := wd_ok hv i
  have hB : BB = 1000000000 := rfl
  refine ⟨by simp [h1], Ok.append.2 ⟨h2, fun w hw' => ?_⟩, by omega, ?_⟩
  · obtain rfl := List.mem_singleton.1 hw'
    omega
  · rw [val_take_succ, val_take_succ, val_snoc, h1]
    have e : s = s % 1000000000 + BB * (s / 1000000000) := by rw [hB]; omega
    generalize s % 1000000000 = x at *
    generalize s / 1000000000 = y at *
    have e2 : x + BB * y = up + (wd D i + wd v i) := by rw [← e]; exact hs
    have e3 : BB ^ i * (x + BB * y) = BB ^ i * (up + (wd D i + wd v i)) := by rw [e2]
    rw [Nat.pow_succ]; grind
theorem AInv.done {D E : List Nat} {up g : Nat} (h : AInv D v k E up) (hv : Ok v) (hk : v.length = k) (hD : D.length = k) (h1 : 1 ≤ g)
    (he : (val D : Int) + val v = (val (U.drop j) - (g - 1) * val v : Int) + (BB : Int) ^ k) (hlt : (val (U.drop j) : Int) - (g - 1) * val v < val v) (h0 : 0 ≤ (val (U.drop j) : Int) - (g - 1) * val v) :
    up = 1 ∧ val (U.drop j) = val E + (g - 1) * val v ∧ val E < val v := by
  obtain ⟨a1, a2, a3, a4⟩ := h
  rw [List.take_of_length_le (by omega : v.length ≤ k), List.take_of_length_le (by omega : D.length ≤ k)] at a4
  have hE := val_lt a2
  rw [a1] at hE
  have hV := val_lt hv
  rw [hk] at hV
  have hP : ((BB ^ k : Nat) : Int) = (BB : Int) ^ k := by push_cast; rfl
  rw [← hP] at he
  obtain ⟨m, rfl⟩ : ∃ m, g = m + 1 := ⟨g - 1, by omega⟩
  simp only [Nat.add_sub_cancel]
  have e1 : ((m + 1 : Nat) : Int) - 1 = m := by omega
  rw [e1] at he hlt h0
  generalize hX : (m : Int) * val v = X at *
  have hX' : ((m * val v : Nat) : Int) = X := by rw [← hX]; push_cast; rfl
  have hup : up = 1 := by
    rcases Nat.eq_zero_or_pos up with h2 | h2
    · exfalso; subst h2; rw [Nat.mul_zero] at a4; omega
    · omega
  subst hup
  rw [Nat.mul_one] at a4
  refine ⟨rfl, by omega, by omega⟩
end
end Go.Proofs.YtadimepmoljnpaaGreatDoor.GB

namespace Go.Proofs.YtadimepmoljnpaaGreatDoor.GB
set_option linter.unusedVariables false
set_option linter.unusedSimpArgs false
open Go.RowKit

/-- Behind i words: the sum's (difference's) words and a carry. -/
def MInv (a b : List Nat) (sg : Int) (i : Nat) (r : List Nat) (c : Int) : Prop :=
  r.length = i ∧ Ok r ∧ -1 ≤ c ∧ c ≤ 1 ∧ (val r : Int) + (BB : Int) ^ i * c = val (a.take i) + sg * val (b.take i)
theorem MInv.start (a b : List Nat) (sg : Int) : MInv a b sg 0 [] 0 := ⟨rfl, (fun w hw => by cases hw), by omega, by omega, by simp [val]⟩
theorem MInv.step {a b : List Nat} {sg : Int} {i : Nat} {r : List Nat} {c x : Int} {w : Nat} {c' : Int} (h : MInv a b sg i r c) (ha : Ok a) (hb : Ok b) (hs : sg = 1 ∨ sg = -1)
    (hx : x = c + wd a i + sg * wd b i) (hw : (w : Int) = x % 1000000000) (hc : c' = x / 1000000000) : MInv a b sg (i + 1) (r ++ [w]) c' := by
  obtain ⟨h1, h2, h3, h4, h5⟩ := h
  have ha' := wd_ok ha i
  have hb' := wd_ok hb i
  have hBn : BB = 1000000000 := rfl
  refine ⟨by simp [h1], Ok.append.2 ⟨h2, fun v hv => ?_⟩, ?_, ?_, ?_⟩
  · obtain rfl := List.mem_singleton.1 hv
    omega
  · rcases hs with rfl | rfl <;> omega
  · rcases hs with rfl | rfl <;> omega
  · rw [val_take_succ, val_take_succ, val_snoc, h1]
    have e : x = w + 1000000000 * c' := by rw [hw, hc]; omega
    have e2 : (w : Int) + (BB : Int) * c' = c + wd a i + sg * wd b i := by rw [← hx, e, hBn]; rfl
    clear hw hc e hx hBn
    push_cast at *
    have e3 : (BB : Int) ^ i * ((w : Int) + BB * c') = (BB : Int) ^ i * (c + wd a i + sg * wd b i) := by rw [e2]
    rw [Int.pow_succ]
    grind
theorem tdiv_pos {x : Int} (h : ¬ x.tmod 1000000000 < 0) : x.tmod 1000000000 = x % 1000000000 ∧ x.tdiv 1000000000 = x / 1000000000 := by
  have h1 := Int.mul_tdiv_add_tmod x 1000000000
  have h2 := Int.tmod_lt_of_pos x (b := 1000000000) (by omega)
  omega
theorem tdiv_bd (x : Int) : x - 1000000000 < 1000000000 * x.tdiv 1000000000 ∧ 1000000000 * x.tdiv 1000000000 < x + 1000000000 := by
  have h1 := Int.mul_tdiv_add_tmod x 1000000000
  have h2 := Int.tmod_lt_of_pos x (b := 1000000000) (by omega)
  have h3 := Int.lt_tmod_of_pos x (b := 1000000000) (by omega)
  omega
theorem tdiv_neg {x : Int} (h : x.tmod 1000000000 < 0) : x.tmod 1000000000 + 1000000000 = x % 1000000000 ∧ x.tdiv 1000000000 - 1 = x / 1000000000 := by
  have h1 := Int.mul_tdiv_add_tmod x 1000000000
  have h2 := Int.lt_tmod_of_pos x (b := 1000000000) (by omega)
  omega
theorem w_neg {X : Int} (h : X.tmod 1000000000 < 0) : wrap64 (X.tmod 1000000000 + 1000000000) % 4294967296 = ((X % 1000000000).toNat : Int) ∧ X.tdiv 1000000000 - 1 = X / 1000000000 := by
  have h1 := tdiv_neg h
  refine ⟨?_, h1.2⟩
  rw [h1.1]; unfold wrap64; omega
theorem w_pos {X : Int} (h : 0 ≤ X.tmod 1000000000) : X.tmod 1000000000 % 4294967296 = ((X % 1000000000).toNat : Int) ∧ X.tdiv 1000000000 = X / 1000000000 := by
  have h1 := tdiv_pos (x := X) (by omega)
  refine ⟨?_, h1.2⟩
  rw [h1.1]; omega
theorem own_base {w : World} {base : Nat} {v : Value} {l : List Nat} (h : OwnN w base v l) : ∀ k, v.ownBlock = some k → base ≤ k := by
  intro k hk
  rcases h.2 with ⟨rfl, _⟩ | ⟨g, cap, cur, rfl, hb, _⟩
  · simp [Value.ownBlock] at hk
  · have : g = k := by simpa [Value.ownBlock] using hk
    omega
theorem own_push {w wr w2 : World} {v v' : Value} {r : List Nat} {o : Obj} {z : Int} {n : Nat} (HO : OwnN wr w.heap.size v r) (HE : Ext w wr)
    (hown : w2.ownsRow w.heap.size 181 1 v' (r.length + 1) (u32s r ++ [.int .u32 z])) (hgrow : (wr.alloc o).grownBy w2 v.ownBlock) (hz : z = (n : Int)) : OwnN w2 w.heap.size v' (r ++ [n]) ∧ Ext w w2 := by
  subst hz
  refine ⟨?_, (HE.al o).gr hgrow (own_base HO)⟩
  unfold OwnN
  rw [u32s_append, List.length_append]
  exact hown
theorem ret_i64 {a b : Int} (h : a = b) : Value.int .i64 a = .int .i64 b := by rw [h]
/-- The end: the sum, or the difference from a number that is not less. -/
def MPost (a b : List Nat) (sg : Int) (r : List Nat) : Prop := Ok r ∧ (val r : Int) = val a + sg * val b ∧ (r.length = max a.length b.length ∨ (r.length = max a.length b.length + 1 ∧ r.getLast? ≠ some 0))
theorem MInv.zero {a b : List Nat} {sg : Int} {r : List Nat} {c : Int} (h : MInv a b sg (max a.length b.length) r c) (hc : ¬ 0 < c) (hle : (val b : Int) ≤ val a ∨ sg = 1) (hs : sg = 1 ∨ sg = -1) : MPost a b sg r := by
  obtain ⟨h1, h2, h3, h4, h5⟩ := h
  rw [List.take_of_length_le (by omega), List.take_of_length_le (by omega)] at h5
  have hv := val_lt h2
  rw [h1] at hv
  have hc0 : c = 0 := by
    rcases Int.lt_or_le c 0 with hlt | hge
    · have : c = -1 := by omega
      subst this
      have h6 : (0 : Int) ≤ val a + sg * val b := by rcases hs with rfl | rfl <;> omega
      have h7 : ((val r : Nat) : Int) < (BB : Int) ^ (max a.length b.length) := by exact_mod_cast hv
      omega
    · omega
  subst hc0
  exact ⟨h2, by omega, .inl h1⟩
theorem MInv.one {a b : List Nat} {sg : Int} {r : List Nat} {c : Int} {w : Nat} (h : MInv a b sg (max a.length b.length) r c) (hc : 0 < c) (hw : (w : Int) = c) : MPost a b sg (r ++ [w]) := by
  obtain ⟨h1, h2, h3, h4, h5⟩ := h
  rw [List.take_of_length_le (by omega), List.take_of_length_le (by omega)] at h5
  refine ⟨Ok.append.2 ⟨h2, fun v hv => ?_⟩, ?_, .inr ⟨by simp [h1], by simp; omega⟩⟩
  · obtain rfl := List.mem_singleton.1 hv
    have hBn : BB = 1000000000 := rfl
    omega
  · rw [val_snoc, h1]; push_cast; rw [hw]; omega

/-- The call hands back words of its own. -/
def RetN (w : World) (P : List Nat → Prop) (e : Ending) (w' : World) : Prop := ∃ v r, e = .returned v ∧ OwnN w' w.heap.size v r ∧ P r ∧ Ext w w'

set_option maxHeartbeats 1000000 in
set_option maxRecDepth 100000 in
theorem merge_any (A B : Option Addr) (ca cb : Nat) (a b : List Nat) (sg : Int) (w : World) (hs : sg = 1 ∨ sg = -1) (hla : a.length ≤ 1099511627776) (hlb : b.length ≤ 1099511627776)
    (ha : RdN w A a) (hb : RdN w B b) (oa : Ok a) (ob : Ok b) (hle : (val b : Int) ≤ val a ∨ sg = 1) :
    Calls Tryz.prog 248 #[.slice A a.length ca, .slice B b.length cb, .int .i64 sg] w (RetN w (MPost a b sg)) := by
  obtain ⟨i0, hi, hz0, hz1, hz2⟩ := info_parts Tryz.infoU32
  have hs1 : -1 ≤ sg := by omega
  have hs2 : sg ≤ 1 := by omega
  have HS := Lib.hid hs
  clear hs
  go_enter Tryz.func248, Tryz.ntmps248
  go_wp2_with (refine wpList_make_own _ rfl _ _ _ rfl w.heap.size 181 i0 (.int .u32 0) 1 Tryz.underlying214 hi hz0 hz1 _ _ _ (a.length + 1) rfl rfl (by simp) (by rw [hz2]; omega) (by unfold maxLen; omega) (Nat.le_refl _) ?_; intro w1 hown1 hgrow1)
  all_goals
    have hE1 : Ext w w1 := (Ext.rfl' w).gr0 hgrow1
    have hO1 : OwnN w1 w.heap.size (.slice (some ⟨w.heap.size, 0, none⟩) 0 (a.length + 1)) [] := hown1
    clear hown1 hgrow1
    go_loopw [7, 8, 20] (fun v c i wr => ∃ (k : Nat) (r : List Nat) (C : Int), k ≤ max a.length b.length ∧ i = .int .i64 k ∧ c = .int .i64 C ∧ -1 ≤ C ∧ C ≤ 1 ∧ Hid (OwnN wr w.heap.size v r) ∧ Hid (MInv a b sg k r C) ∧ Hid (Ext w wr)) (fun _ _ i _ => max a.length b.length - (intOf i).toNat)
    case atStart => exact ⟨0, [], 0, Nat.zero_le _, rfl, rfl, by omega, by omega, hO1, MInv.start a b sg, hE1⟩
    case round =>
      obtain ⟨k, r, C, hk, rfl, rfl, hC1, hC2, HO, HM, HE⟩ := hrel
      by_cases hkm : k < max a.length b.length
      · have hr1 := HM.out.1
        have hrl : r.length ≤ 1099511627776 := by omega
        clear hr1
        have hbig : (r.length + 1) * 4 ≤ 140737488355328 := by omega
        have hmax : r.length + 1 ≤ maxLen := by unfold maxLen; omega
        have hbase : w.heap.size ≤ wr.heap.size := HE.out.size
        by_cases hka : k < a.length
        · obtain ⟨ba, fa, rfl, hba, hca⟩ := ha.ext HE.out k hka
          have hx0 : a[k] < 1000000000 := oa _ (List.getElem_mem hka)
          have hx1 : Hid (wd a k = a[k]) := wd_lt hka
          generalize a[k] = x at hca hx0 hx1
          by_cases hkb : k < b.length
          · obtain ⟨bb, fb, rfl, hbb, hcb⟩ := hb.ext HE.out k hkb
            have hy0 : b[k] < 1000000000 := ob _ (List.getElem_mem hkb)
            have hy1 : Hid (wd b k = b[k]) := wd_lt hkb
            generalize b[k] = y at hcb hy0 hy1
            have hp1 : -1000000000 ≤ sg * (y : Int) := by rcases HS.out with rfl | rfl <;> omega
            have hp2 : sg * (y : Int) ≤ 1000000000 := by rcases HS.out with rfl | rfl <;> omega
            have hq1 : -3 ≤ (C + (x : Int) + sg * (y : Int)).tdiv 1000000000 := by have := tdiv_bd (C + (x : Int) + sg * (y : Int)); omega
            have hq2 : (C + (x : Int) + sg * (y : Int)).tdiv 1000000000 ≤ 3 := by have := tdiv_bd (C + (x : Int) + sg * (y : Int)); omega
            go_wp2_with (at_builtin; (refine wpList_append_own _ rfl _ _ 214 rfl w.heap.size 181 i0 (.int .u32 0) 1 4 Tryz.underlying214 hi hz0 hz1 hz2 rfl (by decide) _ r.length (u32s r) rfl (World.ownsRow.alloc HO.out _) ⟨wr.heap.size, 0, none⟩ 1 1 _ rfl rfl (cell_one_new _ _ _) (by simp [Value.oneCell']) hmax hbig (by simp; omega) ?_); intro v' w2 hown2 hgrow2 _)
            all_goals first
            | (have hs : (C + (x : Int) + sg * (y : Int)).tmod 1000000000 < 0 := ‹_›
               obtain ⟨e1, e2⟩ := w_neg hs
               obtain ⟨p1, p2⟩ := own_push HO.out HE.out hown2 hgrow2 e1
               have HX : C + (x : Int) + sg * (y : Int) = C + wd a k + sg * wd b k := by rw [hx1.out, hy1.out]
               have HM' := HM.out.step oa ob HS.out HX (w := ((C + (x : Int) + sg * (y : Int)) % 1000000000).toNat) (by omega) rfl
               go_roundw
               case rel => exact ⟨k + 1, r ++ [((C + (x : Int) + sg * (y : Int)) % 1000000000).toNat], (C + (x : Int) + sg * (y : Int)) / 1000000000, by omega, by go_num, ret_i64 e2, HM'.2.2.1, HM'.2.2.2.1, p1, HM', p2⟩
               case measure => simp [intOf]; omega)
            | (have hs : 0 ≤ (C + (x : Int) + sg * (y : Int)).tmod 1000000000 := ‹_›
               obtain ⟨e1, e2⟩ := w_pos hs
               obtain ⟨p1, p2⟩ := own_push HO.out HE.out hown2 hgrow2 e1
               have HX : C + (x : Int) + sg * (y : Int) = C + wd a k + sg * wd b k := by rw [hx1.out, hy1.out]
               have HM' := HM.out.step oa ob HS.out HX (w := ((C + (x : Int) + sg * (y : Int)) % 1000000000).toNat) (by omega) rfl
               go_roundw
               case rel => exact ⟨k + 1, r ++ [((C + (x : Int) + sg * (y : Int)) % 1000000000).toNat], (C + (x : Int) + sg * (y : Int)) / 1000000000, by omega, by go_num, ret_i64 e2, HM'.2.2.1, HM'.2.2.2.1, p1, HM', p2⟩
               case measure => simp [intOf]; omega)
          · have hy1 : Hid (wd b k = 0) := wd_ge (by omega)
            have hq1 : -3 ≤ (C + (x : Int)).tdiv 1000000000 := by have := tdiv_bd (C + (x : Int)); omega
            have hq2 : (C + (x : Int)).tdiv 1000000000 ≤ 3 := by have := tdiv_bd (C + (x : Int)); omega
            go_wp2_with (at_builtin; (refine wpList_append_own _ rfl _ _ 214 rfl w.heap.size 181 i0 (.int .u32 0) 1 4 Tryz.underlying214 hi hz0 hz1 hz2 rfl (by decide) _ r.length (u32s r) rfl (World.ownsRow.alloc HO.out _) ⟨wr.heap.size, 0, none⟩ 1 1 _ rfl rfl (cell_one_new _ _ _) (by simp [Value.oneCell']) hmax hbig (by simp; omega) ?_); intro v' w2 hown2 hgrow2 _)
            all_goals first
            | (have hs : (C + (x : Int)).tmod 1000000000 < 0 := ‹_›
               obtain ⟨e1, e2⟩ := w_neg hs
               obtain ⟨p1, p2⟩ := own_push HO.out HE.out hown2 hgrow2 e1
               have HX : C + (x : Int) = C + wd a k + sg * wd b k := by rw [hx1.out, hy1.out]; omega
               have HM' := HM.out.step oa ob HS.out HX (w := ((C + (x : Int)) % 1000000000).toNat) (by omega) rfl
               go_roundw
               case rel => exact ⟨k + 1, r ++ [((C + (x : Int)) % 1000000000).toNat], (C + (x : Int)) / 1000000000, by omega, by go_num, ret_i64 e2, HM'.2.2.1, HM'.2.2.2.1, p1, HM', p2⟩
               case measure => simp [intOf]; omega)
            | (have hs : 0 ≤ (C + (x : Int)).tmod 1000000000 := ‹_›
               obtain ⟨e1, e2⟩ := w_pos hs
               obtain ⟨p1, p2⟩ := own_push HO.out HE.out hown2 hgrow2 e1
               have HX : C + (x : Int) = C + wd a k + sg * wd b k := by rw [hx1.out, hy1.out]; omega
               have HM' := HM.out.step oa ob HS.out HX (w := ((C + (x : Int)) % 1000000000).toNat) (by omega) rfl
               go_roundw
               case rel => exact ⟨k + 1, r ++ [((C + (x : Int)) % 1000000000).toNat], (C + (x : Int)) / 1000000000, by omega, by go_num, ret_i64 e2, HM'.2.2.1, HM'.2.2.2.1, p1, HM', p2⟩
               case measure => simp [intOf]; omega)
        · have hx1 : Hid (wd a k = 0) := wd_ge (by omega)
          have hkb : k < b.length := by omega
          obtain ⟨bb, fb, rfl, hbb, hcb⟩ := hb.ext HE.out k hkb
          have hy0 : b[k] < 1000000000 := ob _ (List.getElem_mem hkb)
          have hy1 : Hid (wd b k = b[k]) := wd_lt hkb
          generalize b[k] = y at hcb hy0 hy1
          have hp1 : -1000000000 ≤ sg * (y : Int) := by rcases HS.out with rfl | rfl <;> omega
          have hp2 : sg * (y : Int) ≤ 1000000000 := by rcases HS.out with rfl | rfl <;> omega
          have hq1 : -3 ≤ (C + sg * (y : Int)).tdiv 1000000000 := by have := tdiv_bd (C + sg * (y : Int)); omega
          have hq2 : (C + sg * (y : Int)).tdiv 1000000000 ≤ 3 := by have := tdiv_bd (C + sg * (y : Int)); omega
          go_wp2_with (at_builtin; (refine wpList_append_own _ rfl _ _ 214 rfl w.heap.size 181 i0 (.int .u32 0) 1 4 Tryz.underlying214 hi hz0 hz1 hz2 rfl (by decide) _ r.length (u32s r) rfl (World.ownsRow.alloc HO.out _) ⟨wr.heap.size, 0, none⟩ 1 1 _ rfl rfl (cell_one_new _ _ _) (by simp [Value.oneCell']) hmax hbig (by simp; omega) ?_); intro v' w2 hown2 hgrow2 _)
          all_goals first
          | (have hs : (C + sg * (y : Int)).tmod 1000000000 < 0 := ‹_›
             obtain ⟨e1, e2⟩ := w_neg hs
             obtain ⟨p1, p2⟩ := own_push HO.out HE.out hown2 hgrow2 e1
             have HX : C + sg * (y : Int) = C + wd a k + sg * wd b k := by rw [hx1.out, hy1.out]; omega
             have HM' := HM.out.step oa ob HS.out HX (w := ((C + sg * (y : Int)) % 1000000000).toNat) (by omega) rfl
             go_roundw
             case rel => exact ⟨k + 1, r ++ [((C + sg * (y : Int)) % 1000000000).toNat], (C + sg * (y : Int)) / 1000000000, by omega, by go_num, ret_i64 e2, HM'.2.2.1, HM'.2.2.2.1, p1, HM', p2⟩
             case measure => simp [intOf]; omega)
          | (have hs : 0 ≤ (C + sg * (y : Int)).tmod 1000000000 := ‹_›
             obtain ⟨e1, e2⟩ := w_pos hs
             obtain ⟨p1, p2⟩ := own_push HO.out HE.out hown2 hgrow2 e1
             have HX : C + sg * (y : Int) = C + wd a k + sg * wd b k := by rw [hx1.out, hy1.out]; omega
             have HM' := HM.out.step oa ob HS.out HX (w := ((C + sg * (y : Int)) % 1000000000).toNat) (by omega) rfl
             go_roundw
             case rel => exact ⟨k + 1, r ++ [((C + sg * (y : Int)) % 1000000000).toNat], (C + sg * (y : Int)) / 1000000000, by omega, by go_num, ret_i64 e2, HM'.2.2.1, HM'.2.2.2.1, p1, HM', p2⟩
             case measure => simp [intOf]; omega)
      · have hke : k = max a.length b.length := by omega
        have HM' : MInv a b sg (max a.length b.length) r C := by rw [← hke]; exact HM.out
        have hrl : r.length ≤ 1099511627776 := by have := HM'.1; omega
        have hbig : (r.length + 1) * 4 ≤ 140737488355328 := by omega
        have hmax : r.length + 1 ≤ maxLen := by unfold maxLen; omega
        have hbase : w.heap.size ≤ wr.heap.size := HE.out.size
        have HM2 := Lib.hid HM'
        clear HM' hke
        by_cases hC : 0 < C
        · go_wp2_with (at_builtin; (refine wpList_append_own _ rfl _ _ 214 rfl w.heap.size 181 i0 (.int .u32 0) 1 4 Tryz.underlying214 hi hz0 hz1 hz2 rfl (by decide) _ r.length (u32s r) rfl (World.ownsRow.alloc HO.out _) ⟨wr.heap.size, 0, none⟩ 1 1 _ rfl rfl (cell_one_new _ _ _) (by simp [Value.oneCell']) hmax hbig (by simp; omega) ?_); intro v' w2 hown2 hgrow2 _)
          go_ret
          obtain ⟨p1, p2⟩ := own_push HO.out HE.out hown2 hgrow2 (n := C.toNat) (by omega)
          exact ⟨_, _, rfl, p1, HM2.out.one hC (by omega), p2⟩
        · go_wp2
          go_ret
          exact ⟨_, _, rfl, HO.out, HM2.out.zero (by omega) hle HS.out, HE.out⟩
end Go.Proofs.YtadimepmoljnpaaGreatDoor.GB

namespace Go.Proofs.YtadimepmoljnpaaGreatDoor.GB
set_option linter.unusedVariables false
set_option linter.unusedSimpArgs false

theorem wd_set (l : List Nat) (j w x : Nat) (h : j < l.length) : wd (l.set j w) x = if x = j then w else wd l x := by
  unfold wd
  rw [List.getD_eq_getElem?_getD, List.getElem?_set, List.getD_eq_getElem?_getD]
  split
  · rename_i e; subst e; simp [h]
  · rename_i e; rw [if_neg (fun e' => e e'.symm)]
theorem val_set (l : List Nat) (j w : Nat) (h : j < l.length) : val (l.set j w) + BB ^ j * wd l j = val l + BB ^ j * w := by
  induction l generalizing j with
  | nil => simp at h
  | cons x l ih =>
    cases j with
    | zero => simp [val, wd]; omega
    | succ j =>
      have := ih j (by simpa using h)
      have e : wd (x :: l) (j + 1) = wd l j := by simp [wd]
      rw [e, List.set_cons_succ, val, val, Nat.pow_succ]
      grind
theorem Ok.set {l : List Nat} (h : Ok l) {j w : Nat} (hw : w < BB) : Ok (l.set j w) := fun v hv => by
  rcases List.mem_or_eq_of_mem_set hv with h1 | h1
  · exact h v h1
  · rw [h1]; exact hw
theorem wd_zeros (n x : Nat) : wd (List.replicate n 0) x = 0 := by unfold wd; by_cases h : x < n <;> simp [h]
theorem val_zeros (n : Nat) : val (List.replicate n 0) = 0 := by
  induction n with
  | zero => rfl
  | succ n ih => rw [List.replicate_succ, val, ih]; simp
theorem ok_zeros (n : Nat) : Ok (List.replicate n 0) := fun w hw => by rw [(List.mem_replicate.1 hw).2]; exact BB_pos

/-- One row of a product. -/
def TIn (O0 b : List Nat) (a i k : Nat) (O : List Nat) (c : Nat) : Prop :=
  O.length = O0.length ∧ Ok O ∧ c < BB ∧ val O + BB ^ (i + k) * c = val O0 + BB ^ i * (a * val (b.take k)) ∧ ∀ x, i + k ≤ x → wd O x = wd O0 x
theorem TIn.start {O0 b : List Nat} {a i : Nat} (h : Ok O0) : TIn O0 b a i 0 O0 0 := ⟨rfl, h, BB_pos, by simp [val], fun _ _ => rfl⟩
theorem TIn.step {O0 b O : List Nat} {a i k c s : Nat} (h : TIn O0 b a i k O c) (ob : Ok b) (ha : a < BB) (hs : s = c + (a * wd b k + wd O (i + k))) (hl : i + k < O.length) :
    TIn O0 b a i (k + 1) (O.set (i + k) (s % 1000000000)) (s / 1000000000) := by
  obtain ⟨h1, h2, h3, h4, h5⟩ := h
  have hB : BB = 1000000000 := rfl
  have w1 := wd_ok ob k
  have w2 := wd_ok h2 (i + k)
  have hm : a * wd b k ≤ (BB - 1) * (BB - 1) := Nat.mul_le_mul (by omega) (by omega)
  have hmm : (BB - 1) * (BB - 1) + BB + BB ≤ BB * BB + 1 := by decide
  refine ⟨by rw [List.length_set]; exact h1, h2.set (by rw [hB]; omega), ?_, ?_, fun x hx => ?_⟩
  · rw [← hB]; refine (Nat.div_lt_iff_lt_mul BB_pos).2 ?_; omega
  · have e := val_set O (i + k) (s % 1000000000) hl
    have e2 := val_take_succ b k
    rw [e2]
    have e3 : s = s % 1000000000 + BB * (s / 1000000000) := by rw [hB]; omega
    generalize s % 1000000000 = r at *
    generalize s / 1000000000 = q at *
    have e4 : r + BB * q = c + (a * wd b k + wd O (i + k)) := by rw [← e3]; exact hs
    have e5 : BB ^ (i + k) * (r + BB * q) = BB ^ (i + k) * (c + (a * wd b k + wd O (i + k))) := by rw [e4]
    rw [show i + (k + 1) = i + k + 1 by omega, Nat.pow_succ]
    have e6 : BB ^ (i + k) = BB ^ i * BB ^ k := Nat.pow_add ..
    grind
  · rw [wd_set _ _ _ _ hl, if_neg (by omega)]; exact h5 x (by omega)
/-- The rows so far. -/
def TOut (a b : List Nat) (i : Nat) (O : List Nat) : Prop :=
  O.length = a.length + b.length ∧ Ok O ∧ val O = val (a.take i) * val b ∧ ∀ x, i + b.length ≤ x → wd O x = 0
theorem TOut.start (a b : List Nat) : TOut a b 0 (List.replicate (a.length + b.length) 0) :=
  ⟨by simp, ok_zeros _, by rw [val_zeros]; simp [val], fun x _ => wd_zeros _ _⟩
theorem TOut.row {a b O0 O : List Nat} {i c : Nat} (h : TOut a b i O0) (k : TIn O0 b (wd a i) i b.length O c) (hi : i < a.length) : TOut a b (i + 1) (O.set (i + b.length) c) := by
  obtain ⟨h1, h2, h3, h4⟩ := h
  obtain ⟨k1, k2, k3, k4, k5⟩ := k
  have hl : i + b.length < O.length := by omega
  refine ⟨by rw [List.length_set]; omega, k2.set k3, ?_, fun x hx => ?_⟩
  · have e := val_set O (i + b.length) c hl
    rw [k5 _ (Nat.le_refl _), h4 _ (Nat.le_refl _)] at e
    rw [List.take_of_length_le (Nat.le_refl _)] at k4
    rw [val_take_succ]
    grind
  · rw [wd_set _ _ _ _ hl, if_neg (by omega), k5 x (by omega), h4 x (by omega)]
theorem TOut.done {a b O : List Nat} (h : TOut a b a.length O) : Ok O ∧ val O = val a * val b := by
  obtain ⟨h1, h2, h3, h4⟩ := h
  rw [List.take_of_length_le (Nat.le_refl _)] at h3
  exact ⟨h2, h3⟩
/-- Division by one word, from the first word on. -/
def BInv (a : List Nat) (w : Nat) (i : Nat) (O : List Nat) (r : Nat) : Prop :=
  O.length = a.length ∧ Ok O ∧ r < w ∧ val (a.drop i) = w * val (O.drop i) + r
theorem BInv.start (a : List Nat) (w : Nat) (hw : 0 < w) : BInv a w a.length (List.replicate a.length 0) 0 :=
  ⟨by simp, ok_zeros _, hw, by rw [List.drop_length, List.drop_eq_nil_of_le (by simp)]; simp [val]⟩
theorem BInv.step {a O : List Nat} {w i r s : Nat} (h : BInv a w (i + 1) O r) (oa : Ok a) (hs : s = r * 1000000000 + wd a i) (hi : i < a.length) : BInv a w i (O.set i (s / w)) (s % w) := by
  obtain ⟨h1, h2, h3, h4⟩ := h
  have hw : 0 < w := by omega
  have hB : BB = 1000000000 := rfl
  have w1 := wd_ok oa i
  have hlt : s / w < BB := by
    refine (Nat.div_lt_iff_lt_mul hw).2 ?_
    have : (r + 1) * BB ≤ w * BB := Nat.mul_le_mul_right BB h3
    rw [Nat.add_mul, Nat.mul_comm w] at this
    rw [hs, ← hB]; omega
  refine ⟨by rw [List.length_set]; exact h1, h2.set hlt, Nat.mod_lt _ hw, ?_⟩
  have e1 := val_drop_cons a i
  have e2 := val_drop_cons (O.set i (s / w)) i
  rw [wd_set _ _ _ _ (by omega), if_pos rfl] at e2
  have e3 : (O.set i (s / w)).drop (i + 1) = O.drop (i + 1) := List.drop_set_of_lt (by omega)
  rw [e1, e2, e3, h4]
  have e4 := Nat.div_add_mod s w
  have hs' : s = r * BB + wd a i := by rw [hs, hB]
  clear hs e1 e2 e3 h4 hB hlt
  generalize s / w = q at *
  generalize s % w = t at *
  generalize val (O.drop (i + 1)) = V at *
  generalize BB = Bs at *
  grind
theorem BInv.done {a O : List Nat} {w r : Nat} (h : BInv a w 0 O r) : Ok O ∧ val O = val a / w ∧ r = val a % w := by
  obtain ⟨h1, h2, h3, h4⟩ := h
  rw [List.drop_zero, List.drop_zero] at h4
  refine ⟨h2, ?_, ?_⟩
  · rw [h4, Nat.mul_add_div (by omega), Nat.div_eq_of_lt h3]; omega
  · rw [h4, Nat.mul_add_mod, Nat.mod_eq_of_lt h3]
end Go.Proofs.YtadimepmoljnpaaGreatDoor.GB

namespace Go.Proofs.YtadimepmoljnpaaGreatDoor.GB
set_option linter.unusedVariables false
set_option linter.unusedSimpArgs false
open Go.RowKit

theorem made_zeros (n : Nat) : (madeCells (Value.int .u32 0).cells (n * 1)).toList = u32s (List.replicate n 0) := by
  apply List.ext_getElem
  · simp [madeCells, u32s]
  · intro i h1 h2
    simp [madeCells, u32s, Value.cells, Nat.mod_one]
theorem ret_int' {k : IntKind} {a b : Int} (h : a = b) : Value.int k a = .int k b := by rw [h]
theorem OwnN.cellAt {w : World} {base g c : Nat} {l : List Nat} (h : OwnN w base (.slice (some ⟨g, 0, none⟩) l.length c) l) (j : Nat) (hj : j < l.length) : w.cell? ⟨g, j, none⟩ = some (.int .u32 (wd l j : Nat)) := by
  have := World.ownsRow.cellAt h j (by omega)
  rw [this, wd_lt hj]; simp [u32s, hj]
theorem OwnN.store {w : World} {base g c : Nat} {l : List Nat} (h : OwnN w base (.slice (some ⟨g, 0, none⟩) l.length c) l) (j x : Nat) {z : Int} (hz : z = (x : Int)) :
    OwnN (w.setCell ⟨g, j, none⟩ (.int .u32 z)) base (.slice (some ⟨g, 0, none⟩) (l.set j x).length c) (l.set j x) := by
  subst hz
  have := (World.ownsRow.stored h j (.int .u32 (x : Int))).1
  unfold OwnN
  rw [List.length_set]
  have e : u32s (l.set j x) = (u32s l).set j (.int .u32 (x : Int)) := by simp [u32s, List.map_set]
  rw [e]; exact this

theorem cast_div {X : Int} {s : Nat} (h : X = (s : Int)) : X / 1000000000 = ((s / 1000000000 : Nat) : Int) := by subst h; omega
theorem cast_mod {X : Int} {s : Nat} (h : X = (s : Int)) : X % 1000000000 = ((s % 1000000000 : Nat) : Int) := by subst h; omega
theorem cast_mac (C x y p : Nat) : (C : Int) + ((x : Int) * (y : Int) + (p : Int)) = ((C + (x * y + p) : Nat) : Int) := by push_cast; rfl
theorem trim_n (A : Option Addr) (c n : Nat) (l : List Nat) (w : World) (hn : l.length = n) (hl : n ≤ c) (hm : c ≤ 9223372036854775807) (hr : RdN w A l) :
    Calls Tryz.prog 223 #[.slice A n c] w fun e w' => e = .returned (.slice A (tz l).length c) ∧ w = w' := by subst hn; exact trim_any A c l w hl hm hr
/-- What is behind trimming: words of the value. -/
theorem own_trim {w wr : World} {A : Option Addr} {c V : Nat} {O : List Nat} (h : OwnN wr w.heap.size (.slice A O.length c) O) (ho : Ok O) (hv : val O = V) (hE : Ext w wr) :
    RetN w (fun r => r = wds V) (.returned (.slice A (tz O).length c)) wr := by
  obtain ⟨m, hm, hme⟩ := tz_prefix O
  have hO2 := h.take m hm
  rw [← hme] at hO2
  have hml : (tz O).length = m := by rw [hme]; simp; omega
  refine ⟨_, tz O, rfl, ?_, ?_, hE⟩
  · rw [hml]; exact hO2
  · rw [tz_wds ho, hv]

set_option maxHeartbeats 1000000 in
set_option maxRecDepth 100000 in
theorem times_any (A B : Option Addr) (ca cb : Nat) (a b : List Nat) (w : World) (hla : a.length ≤ 1099511627776) (hlb : b.length ≤ 1099511627776)
    (ha : RdN w A a) (hb : RdN w B b) (oa : Ok a) (ob : Ok b) :
    Calls Tryz.prog 196 #[.slice A a.length ca, .slice B b.length cb] w (RetN w (fun r => r = wds (val a * val b))) := by
  obtain ⟨i0, hi, hz0, hz1, hz2⟩ := info_parts Tryz.infoU32
  go_enter Tryz.func196, Tryz.ntmps196
  go_wp2_with (refine wpList_make_full _ rfl _ _ _ rfl w.heap.size 181 i0 (.int .u32 0) 1 Tryz.underlying214 hi hz0 hz1 _ _ _ _ (a.length + b.length) rfl rfl (by simp) (by simp) (by rw [hz2]; omega) (by unfold maxLen; omega) (Nat.le_refl _) ?_; intro w1 hown1 hgrow1)
  have hE1 : Hid (Ext w w1) := (Ext.rfl' w).gr0 hgrow1
  have hO1 : Hid (OwnN w1 w.heap.size (.slice (some ⟨w.heap.size, 0, none⟩) (List.replicate (a.length + b.length) 0).length (a.length + b.length)) (List.replicate (a.length + b.length) 0)) := by
    rw [made_zeros] at hown1
    simpa [OwnN, Hid] using hown1
  clear hown1 hgrow1
  go_loopw [19] (fun i wr => ∃ (k : Nat) (O : List Nat), k ≤ a.length ∧ i = .int .i64 k ∧ Hid (TOut a b k O) ∧ Hid (OwnN wr w.heap.size (.slice (some ⟨w.heap.size, 0, none⟩) O.length (a.length + b.length)) O) ∧ Hid (Ext w wr)) (fun i _ => a.length - (intOf i).toNat)
  case atStart => exact ⟨0, _, Nat.zero_le _, rfl, TOut.start a b, hO1, hE1⟩
  case round =>
    obtain ⟨i, O, hi1, rfl, HT, HO, HE⟩ := hrel
    clear hO1 hE1
    by_cases hlt : i < a.length
    · obtain ⟨ba, fa, rfl, hba, hca⟩ := ha.ext HE.out i hlt
      have hx0 : a[i] < 1000000000 := oa _ (List.getElem_mem hlt)
      have hx1 : Hid (wd a i = a[i]) := wd_lt hlt
      generalize a[i] = x at hca hx0 hx1
      obtain ⟨wo, rfl⟩ : ∃ wo : World, wo = wr := ⟨_, rfl⟩
      go_wp2
      go_loopw [8, 26] (fun c i' wr => ∃ (k C : Nat) (P : List Nat), k ≤ b.length ∧ i' = .int .i64 k ∧ c = .int .u64 C ∧ C < 1000000000 ∧ Hid (TIn O b x i k P C) ∧ Hid (OwnN wr w.heap.size (.slice (some ⟨w.heap.size, 0, none⟩) P.length (a.length + b.length)) P) ∧ Hid (Ext w wr)) (fun _ i' _ => b.length - (intOf i').toNat)
      case atStart => exact ⟨0, 0, O, Nat.zero_le _, rfl, rfl, by omega, TIn.start HT.out.2.1, HO, HE⟩
      case round =>
        obtain ⟨k, C, P, hk1, rfl, rfl, hC, HI, HP, HF⟩ := hrel
        have hPl : P.length = a.length + b.length := HI.out.1.trans HT.out.1
        have HPl := Lib.hid hPl
        by_cases hkb : k < b.length
        · obtain ⟨bb, fb, rfl, hbb, hcb⟩ := hb.ext HF.out k hkb
          have hy0 : b[k] < 1000000000 := ob _ (List.getElem_mem hkb)
          have hy1 : Hid (wd b k = b[k]) := wd_lt hkb
          generalize b[k] = y at hcb hy0 hy1
          have hcp := HP.out.cellAt (i + k) (by omega)
          have hfp : wr.frozen? ⟨w.heap.size, i + k, none⟩ = false := World.ownsRow.frozenAt HP.out (i + k)
          have hp0 : wd P (i + k) < 1000000000 := wd_ok HI.out.2.1 _
          have hp1 : Hid (wd P (i + k) = wd P (i + k)) := rfl
          generalize hpe : wd P (i + k) = p at hcp hp0
          have HPE := Lib.hid hpe
          clear hpe hPl
          have hm : (x : Int) * (y : Int) ≤ 999999998000000001 := by
            have : x * y ≤ 999999999 * 999999999 := Nat.mul_le_mul (by omega) (by omega)
            have e : ((x * y : Nat) : Int) = (x : Int) * (y : Int) := by push_cast; rfl
            omega
          have hm0 : 0 ≤ (x : Int) * (y : Int) := Int.mul_nonneg (by omega) (by omega)
          go_wp2
          have hs0 : C + (x * y + p) = C + (x * wd b k + wd P (i + k)) := by rw [hy1.out, HPE.out]
          have HI' := HI.out.step ob hx0 hs0 (by have := HPl.out; omega)
          have HP' := HP.out.store (i + k) ((C + (x * y + p)) % 1000000000) (z := ((C : Int) + ((x : Int) * (y : Int) + (p : Int))) % 1000000000) (cast_mod (cast_mac C x y p))
          have hq : (C + (x * y + p)) / 1000000000 < 1000000000 := HI'.2.2.1
          go_roundw
          case rel => exact ⟨k + 1, _, _, by omega, by go_num, ret_int' (cast_div (cast_mac C x y p)), hq, HI', HP', HF.out.setCell (Nat.le_refl _) _⟩
          case measure => simp [intOf]; omega
        · have hke : k = b.length := by omega
          have HI2 : Hid (TIn O b x i b.length P C) := by rw [← hke]; exact HI
          have hcp := HP.out.cellAt (i + b.length) (by omega)
          have hfp : wr.frozen? ⟨w.heap.size, i + b.length, none⟩ = false := World.ownsRow.frozenAt HP.out (i + b.length)
          generalize wd P (i + b.length) = p at hcp
          have HK := Lib.hid hke
          clear hke hPl
          go_wp2
          have HT' := TOut.row HT.out (by rw [hx1.out]; exact HI2.out) hlt
          have HP' := HP.out.store (i + b.length) C (z := (C : Int)) rfl
          go_roundw
          case rel => exact ⟨i + 1, _, by omega, by go_num, HT', HP', HF.out.setCell (Nat.le_refl _) _⟩
          case measure => simp [intOf]; omega
    · have hke : i = a.length := by omega
      have HT2 : Hid (Ok O ∧ val O = val a * val b) := by
        have h := HT.out; rw [hke] at h; exact h.done
      have hlen : O.length ≤ a.length + b.length := by have := HT.out.1; omega
      have HK := Lib.hid hke
      clear hke
      have hlen2 : Hid (O.length = a.length + b.length) := HT.out.1
      obtain ⟨A', c', hv, h1, h2, h3, h4⟩ := HO.out.parts
      injection hv with hv1 hv2 hv3
      subst hv1
      have hmx : a.length + b.length ≤ 9223372036854775807 := by omega
      have H3 := Lib.hid h3
      clear hv2 hv3 h1 h2 h3 h4 hlen
      go_wp2_with (go_at_call 223; refine (trim_n _ _ _ O _ hlen2.out (Nat.le_refl _) hmx H3.out).mono ?_; rintro e w' ⟨rfl, rfl⟩)
      go_ret
      have hO3 := HO.out
      exact own_trim hO3 HT2.out.1 HT2.out.2 HE.out
end Go.Proofs.YtadimepmoljnpaaGreatDoor.GB

namespace Go.Proofs.YtadimepmoljnpaaGreatDoor.GB
set_option linter.unusedVariables false
set_option linter.unusedSimpArgs false
open Go.RowKit

theorem own_lit2 (w : World) (x y : Nat) {a b : Int} (ha : a = (x : Int)) (hb : b = (y : Int)) : OwnN (w.alloc (.cells #[.int .u32 a, .int .u32 b] 181)) w.heap.size (.slice (some ⟨w.heap.size, 0, none⟩) [x, y].length 2) [x, y] := by
  subst ha hb
  refine ⟨rfl, .inr ⟨w.heap.size, 2, #[.int .u32 x, .int .u32 y], rfl, Nat.le_refl _, heap_alloc_new w _, by simp, by simp [maxLen], by simp, by simp [u32s]⟩⟩
theorem val_two (x y : Nat) : val [x, y] = x + BB * y := by simp [val]

set_option maxHeartbeats 400000 in
set_option maxRecDepth 100000 in
theorem of_any (x : Nat) (w : World) (hx : x < 1000000000000000000) :
    Calls Tryz.prog 216 #[.int .u64 (x : Int)] w (RetN w (fun r => r = wds x)) := by
  have hO := own_lit2 w (x % 1000000000) (x / 1000000000) (a := (x : Int) % 1000000000) (b := (x : Int) / 1000000000) (by omega) (by omega)
  have hok : Hid (Ok [x % 1000000000, x / 1000000000]) := by
    intro v hv
    rw [BB_eq]
    rcases List.mem_cons.1 hv with rfl | hv
    · omega
    · obtain rfl := List.mem_singleton.1 hv; omega
  have hv : Hid (val [x % 1000000000, x / 1000000000] = x) := by
    show val _ = _
    rw [val_two, BB_eq]; omega
  obtain ⟨A', c', hvv, h1, h2, h3, h4⟩ := hO.parts
  injection hvv with hv1 hv2 hv3
  subst hv1
  have HO := Lib.hid hO
  have H3 := Lib.hid h3
  clear hO hv2 hv3 h1 h2 h3 h4
  go_enter Tryz.func216, Tryz.ntmps216
  go_wp2_with (go_at_call 223; refine (trim_n _ _ 2 [x % 1000000000, x / 1000000000] _ rfl (by omega) (by omega) H3.out).mono ?_; rintro e w' ⟨rfl, rfl⟩)
  go_ret
  exact own_trim HO.out hok.out hv.out ((Ext.rfl' w).al _)

/-- The number of at most two words. -/
def SmallPost (w : World) (n : Nat) (e : Ending) (w' : World) : Prop :=
  (n < 1000000000000000000 → e = .returned (.tuple #[.int .u64 (n : Int), .bool true])) ∧ (1000000000000000000 ≤ n → e = .returned (.tuple #[.int .u64 0, .bool false])) ∧ Ext w w'
theorem wds_len2 (n : Nat) : (wds n).length ≤ 2 ↔ n < 1000000000000000000 := by
  constructor
  · intro h
    have := wds_len_lt n
    have h2 : BB ^ (wds n).length ≤ BB ^ 2 := Nat.pow_le_pow_right BB_pos h
    have : BB ^ 2 = 1000000000000000000 := by decide
    omega
  · intro h; exact wds_len_le (by rw [show BB ^ 2 = 1000000000000000000 from by decide]; exact h)

set_option maxHeartbeats 400000 in
set_option maxRecDepth 100000 in
theorem small_any (A : Option Addr) (c k : Nat) (n : Nat) (w : World) (hn : (wds n).length = k) (hk : k ≤ 1099511627776) (hr : RdN w A (wds n)) :
    Calls Tryz.prog 215 #[.slice A k c] w (SmallPost w n) := by
  have h2 := wds_len2 n
  rw [hn] at h2
  match k, hn, hk, h2 with
  | 0, hn, _, _ =>
    have h0 : n = 0 := (wds_nil_iff n).1 (List.length_eq_zero_iff.1 hn)
    subst h0
    go_enter Tryz.func215, Tryz.ntmps215
    go_wp2
    go_ret2
    exact ⟨fun _ => rfl, fun h => by omega, Ext.rfl' w⟩
  | 1, hn, _, _ =>
    have hn0 : n ≠ 0 := by intro e; rw [e, wds_zero] at hn; simp at hn
    have hlt : n < BB := by have := wds_len_lt n; rw [hn] at this; simpa using this
    rw [wds_small hn0 hlt] at hr
    obtain ⟨b, off, rfl, hb, hc⟩ := hr 0 (by simp)
    simp only [List.getElem_cons_zero, Nat.add_zero] at hc
    have HN := Lib.hid hn
    have hx : n < 1000000000 := hlt
    clear hn hlt hn0
    go_enter Tryz.func215, Tryz.ntmps215
    go_wp2
    go_ret2
    exact ⟨fun _ => rfl, fun h => by omega, Ext.rfl' w⟩
  | 2, hn, _, h2 =>
    have hv := val_wds n
    obtain ⟨x, y, hxy⟩ : ∃ x y, wds n = [x, y] := by
      match hw : wds n, hn with
      | [x, y], _ => exact ⟨x, y, rfl⟩
    have ho := ok_wds n
    rw [hxy] at hr hv ho
    have hx : x < 1000000000 := ho x (by simp)
    have hy : y < 1000000000 := ho y (by simp)
    obtain ⟨b, off, rfl, hb, hc⟩ := hr 0 (by simp)
    obtain ⟨b', off', e, hb', hc'⟩ := hr 1 (by simp)
    simp only [Option.some.injEq, Addr.mk.injEq, and_true] at e
    obtain ⟨rfl, rfl⟩ := e
    simp only [List.getElem_cons_zero, List.getElem_cons_succ, Nat.add_zero] at hc hc'
    rw [val_two, BB_eq] at hv
    have HV := Lib.hid hv
    have HN := Lib.hid hn
    clear hn hv hxy h2 hr ho
    go_enter Tryz.func215, Tryz.ntmps215
    go_wp2
    go_quiet (fail)
    all_goals go_wp2
    go_ret2
    have hh : (x : Int) + 1000000000 * (y : Int) = (n : Int) := by have := HV.out; omega
    exact ⟨fun _ => by rw [hh]; rfl, fun h => by have := HV.out; omega, (Ext.rfl' w).drN _⟩
  | k + 3, hn, hk, h2 =>
    have h3 : ¬ n < 1000000000000000000 := fun h => by have := h2.2 h; omega
    have H3 := Lib.hid h3
    clear hn h2 h3
    obtain ⟨m, hm⟩ : ∃ m, m = k + 3 := ⟨_, rfl⟩
    rw [← hm] at hk ⊢
    have h0 : (((m : Nat) : Int) == 0) = false := by rw [beq_eq_false_iff_ne]; omega
    have h1 : (((m : Nat) : Int) == 1) = false := by rw [beq_eq_false_iff_ne]; omega
    have h2 : (((m : Nat) : Int) == 2) = false := by rw [beq_eq_false_iff_ne]; omega
    clear hm hr
    go_enter Tryz.func215, Tryz.ntmps215
    go_wp2
    go_ret2
    exact ⟨fun h => absurd h H3.out, fun _ => rfl, Ext.rfl' w⟩
end Go.Proofs.YtadimepmoljnpaaGreatDoor.GB
