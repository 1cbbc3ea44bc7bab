import Derived.Test.YtbldlibijojbjaaGreatDoorMNum
namespace Go.Proofs.YtbldlibijojbjaaGreatDoor.GB
set_option linter.unusedVariables false
set_option linter.unusedSimpArgs false

/-- The window's words: W = a + P·T, the divisor's: V = b + P·D. -/
structure KW (W V P T top u2 v1 v2 a b : Nat) : Prop where
  hW : W = a + P * T
  hV : V = b + P * (v1 * BB + v2)
  ha : a < P
  hb : b < P
  hT : T = top * BB + u2
  hu : u2 < BB
  hv : v2 < BB
  h1 : 0 < v1
  hlt : W < BB * V

theorem KW.vpos {W V P T top u2 v1 v2 a b : Nat} (h : KW W V P T top u2 v1 v2 a b) : 0 < V ∧ P * BB ≤ V := by
  have hP : 0 < P := by have := h.ha; omega
  have h1 : 1 * BB ≤ v1 * BB := Nat.mul_le_mul_right BB h.h1
  have h2 : P * (1 * BB) ≤ P * (v1 * BB + v2) := Nat.mul_le_mul_left P (by omega)
  rw [h.hV, Nat.one_mul] at *
  have : 0 < P * BB := Nat.mul_pos hP BB_pos
  omega
theorem KW.q_lt {W V P T top u2 v1 v2 a b : Nat} (h : KW W V P T top u2 v1 v2 a b) : W / V < BB :=
  (Nat.div_lt_iff_lt_mul h.vpos.1).2 h.hlt
/-- If g times the divisor's first words is more than the window's, g is greater than the quotient. -/
theorem KW.less {W V P T top u2 v1 v2 a b g : Nat} (h : KW W V P T top u2 v1 v2 a b) (hg : T < g * (v1 * BB + v2)) : W / V < g := by
  refine (Nat.div_lt_iff_lt_mul h.vpos.1).2 ?_
  rw [h.hW, h.hV, Nat.mul_add]
  have h1 : P * (T + 1) ≤ P * (g * (v1 * BB + v2)) := Nat.mul_le_mul_left P hg
  have h2 : g * (P * (v1 * BB + v2)) = P * (g * (v1 * BB + v2)) := by grind
  rw [h2]
  rw [Nat.mul_add] at h1
  have := h.ha
  omega
theorem KW.start {W V P T top u2 v1 v2 a b : Nat} (h : KW W V P T top u2 v1 v2 a b) : W / V ≤ top / v1 := by
  rcases Nat.lt_or_ge (top / v1) (W / V) with hlt | hge
  · exfalso
    have hg := h.less (g := top / v1 + 1) ?_
    · omega
    · rw [h.hT]
      have h1 : top < (top / v1 + 1) * v1 := by
        have := Nat.div_add_mod top v1
        have := Nat.mod_lt top h.h1
        rw [Nat.add_mul, Nat.mul_comm (top / v1)]; omega
      have h2 : (top + 1) * BB ≤ (top / v1 + 1) * v1 * BB := Nat.mul_le_mul_right BB h1
      have h3 : (top / v1 + 1) * (v1 * BB + v2) = (top / v1 + 1) * v1 * BB + (top / v1 + 1) * v2 := by grind
      have := h.hu
      rw [h3]; rw [Nat.add_mul] at h2
      omega
  · exact hge
/-- The guess is lowered. -/
theorem KW.step {W V P T top u2 v1 v2 a b g r : Nat} (h : KW W V P T top u2 v1 v2 a b) (hq : W / V ≤ g) (hr : g * v1 + r = top) (hc : BB ≤ g ∨ r * BB + u2 < g * v2) :
    1 ≤ g ∧ W / V ≤ g - 1 ∧ (g - 1) * v1 + (r + v1) = top := by
  have hlt : W / V < g := by
    rcases hc with hc | hc
    · exact Nat.lt_of_lt_of_le h.q_lt hc
    · refine h.less ?_
      rw [h.hT, ← hr]
      have h3 : g * (v1 * BB + v2) = g * v1 * BB + g * v2 := by grind
      rw [h3, Nat.add_mul]; omega
  have h0 : 0 ≤ W / V := Nat.zero_le _
  refine ⟨by omega, by omega, ?_⟩
  obtain ⟨m, rfl⟩ : ∃ m, g = m + 1 := ⟨g - 1, by omega⟩
  rw [Nat.add_mul] at hr
  simp only [Nat.add_sub_cancel]; omega
/-- The guess is right, or one too great. -/
theorem KW.last {W V P T top u2 v1 v2 a b g r : Nat} (h : KW W V P T top u2 v1 v2 a b) (htop : top ≤ v1 * BB + (BB - 1)) (hr : g * v1 + r = top)
    (hc : BB ≤ r ∨ (g < BB ∧ g * v2 ≤ r * BB + u2)) : g < BB ∧ g ≤ W / V + 1 := by
  have hg : g < BB := by
    rcases hc with hc | hc
    · rcases Nat.lt_or_ge g BB with h1 | h1
      · exact h1
      · have := Nat.mul_le_mul_right v1 h1
        have hB : BB = 1000000000 := rfl
        rw [Nat.mul_comm BB v1] at this
        omega
    · exact hc.1
  refine ⟨hg, ?_⟩
  have hle : g * (v1 * BB + v2) ≤ T := by
    have h3 : g * (v1 * BB + v2) = g * v1 * BB + g * v2 := by grind
    rw [h3, h.hT, ← hr, Nat.add_mul]
    rcases hc with hc | hc
    · have h4 : g * v2 ≤ BB * BB := Nat.mul_le_mul (Nat.le_of_lt hg) (Nat.le_of_lt h.hv)
      have h5 : BB * BB ≤ r * BB := Nat.mul_le_mul_right BB hc
      omega
    · have := hc.2; omega
  have hV := h.vpos
  have h6 : g * V < W + V := by
    rw [h.hW]
    have e : g * V = g * b + P * (g * (v1 * BB + v2)) := by rw [h.hV]; grind
    rw [e]
    have h7 : P * (g * (v1 * BB + v2)) ≤ P * T := Nat.mul_le_mul_left P hle
    have h8 : g * b ≤ BB * P := Nat.mul_le_mul (Nat.le_of_lt hg) (Nat.le_of_lt h.hb)
    have h9 : g * b < V ∨ g * b < BB * P := by
      by_cases hg0 : g = 0
      · left; subst hg0; simp; exact hV.1
      · right
        have h10 : g * b < g * P := Nat.mul_lt_mul_of_pos_left h.hb (Nat.pos_of_ne_zero hg0)
        have h11 : g * P ≤ BB * P := Nat.mul_le_mul_right P (Nat.le_of_lt hg)
        omega
    rw [Nat.mul_comm BB P] at h9
    omega
  have h12 : g < W / V + 2 := by
    have h13 : g * V < (W / V + 2) * V := by
      have := Nat.div_add_mod W V
      have := Nat.mod_lt W hV.1
      have e : (W / V + 2) * V = V * (W / V) + V + V := by grind
      rw [e]; omega
    exact Nat.lt_of_mul_lt_mul_right h13
  omega
end Go.Proofs.YtbldlibijojbjaaGreatDoor.GB

namespace Go.Proofs.YtbldlibijojbjaaGreatDoor.GB
set_option linter.unusedVariables false
set_option linter.unusedSimpArgs false

def wd (l : List Nat) (i : Nat) : Nat := l.getD i 0
theorem wd_lt {l : List Nat} {i : Nat} (h : i < l.length) : wd l i = l[i] := by unfold wd; simp [h]
theorem wd_ge {l : List Nat} {i : Nat} (h : l.length ≤ i) : wd l i = 0 := by unfold wd; simp [h]
theorem wd_ok {l : List Nat} (h : Ok l) (i : Nat) : wd l i < BB := by
  by_cases hi : i < l.length
  · rw [wd_lt hi]; exact h _ (List.getElem_mem _)
  · rw [wd_ge (by omega)]; decide
theorem val_take_succ (l : List Nat) (i : Nat) : val (l.take (i + 1)) = val (l.take i) + BB ^ i * wd l i := by
  by_cases h : i < l.length
  · exact take_succ l i h
  · rw [wd_ge (by omega), List.take_of_length_le (by omega), List.take_of_length_le (by omega)]; omega
theorem wd_drop (l : List Nat) (j i : Nat) : wd (l.drop j) i = wd l (j + i) := by unfold wd; simp
theorem val_split (l : List Nat) (i : Nat) : val l = val (l.take i) + BB ^ i * val (l.drop i) := by
  by_cases h : i ≤ l.length
  · exact val_take_drop l i h
  · rw [List.take_of_length_le (by omega), List.drop_eq_nil_of_le (by omega)]; simp [val]
theorem val_drop_cons (l : List Nat) (j : Nat) : val (l.drop j) = wd l j + BB * val (l.drop (j + 1)) := by
  by_cases h : j < l.length
  · rw [List.drop_eq_getElem_cons h, val, wd_lt h]
  · rw [List.drop_eq_nil_of_le (by omega), List.drop_eq_nil_of_le (by omega), wd_ge (by omega)]; simp [val]
theorem Ok.take {l : List Nat} (h : Ok l) (i : Nat) : Ok (l.take i) := fun w hw => h w (List.mem_of_mem_take hw)
theorem Ok.drop {l : List Nat} (h : Ok l) (i : Nat) : Ok (l.drop i) := fun w hw => h w (List.mem_of_mem_drop hw)
theorem val_take_lt {l : List Nat} (h : Ok l) (i : Nat) : val (l.take i) < BB ^ i := by
  refine Nat.lt_of_lt_of_le (val_lt (h.take i)) (Nat.pow_le_pow_right BB_pos ?_)
  rw [List.length_take]; omega

structure KInv (v : List Nat) (N k t : Nat) (U Q : List Nat) : Prop where
  okU : Ok U
  okQ : Ok Q
  lenU : U.length = Q.length + k
  ht : t ≤ Q.length
  tot : val U + val v * (BB ^ t * val (Q.drop t)) = N
  lt : val (U.drop t) < val v

section
variable {v : List Nat} {N k j : Nat} {U Q : List Nat}
theorem KInv.high (h : KInv v N k (j + 1) U Q) (hv : Ok v) (hk : v.length = k) : val (U.drop (j + 1 + k)) = 0 ∧ val (U.drop j) = val ((U.drop j).take k) + BB ^ k * wd U (j + k) := by
  have h1 := h.lt
  have h2 := val_lt hv
  rw [hk] at h2
  have h3 := val_split (U.drop (j + 1)) k
  rw [List.drop_drop] at h3
  have hz : val (U.drop (j + 1 + k)) = 0 := by
    rcases Nat.eq_zero_or_pos (val (U.drop (j + 1 + k))) with h4 | h4
    · exact h4
    · have := Nat.mul_le_mul_left (BB ^ k) h4; omega
  refine ⟨hz, ?_⟩
  have h5 := val_split (U.drop j) k
  rw [List.drop_drop] at h5
  have h6 := val_drop_cons U (j + k)
  rw [show j + k + 1 = j + 1 + k by omega, hz] at h6
  rw [h5, h6]; simp
theorem KInv.wlt (h : KInv v N k (j + 1) U Q) : val (U.drop j) < BB * val v := by
  have h1 := h.lt
  have h2 := val_drop_cons U j
  have h3 := wd_ok h.okU j
  have h4 : BB * (val (U.drop (j + 1)) + 1) ≤ BB * val v := Nat.mul_le_mul_left BB h1
  rw [Nat.mul_add] at h4; omega
theorem KInv.window (h : KInv v N (k + 2) (j + 1) U Q) (hv : Ok v) (hk : v.length = k + 2) (h1 : 0 < wd v (k + 1)) :
    KW (val (U.drop j)) (val v) (BB ^ k) ((wd U (j + k + 2) * BB + wd U (j + k + 1)) * BB + wd U (j + k)) (wd U (j + k + 2) * BB + wd U (j + k + 1)) (wd U (j + k)) (wd v (k + 1)) (wd v k)
      (val ((U.drop j).take k)) (val (v.take k)) := by
  have hh := (h.high hv hk).2
  have e1 := val_take_succ (U.drop j) k
  have e2 := val_take_succ (U.drop j) (k + 1)
  rw [wd_drop] at e1 e2
  have f1 := val_take_succ v k
  have f2 := val_take_succ v (k + 1)
  have f3 : val v = val (v.take (k + 2)) := by rw [List.take_of_length_le (by omega)]
  refine ⟨?_, ?_, val_take_lt (h.okU.drop j) k, val_take_lt hv k, rfl, wd_ok h.okU _, wd_ok hv _, h1, h.wlt⟩
  · rw [hh, show k + 2 = k + 1 + 1 from rfl, e2, e1, Nat.pow_succ, Nat.pow_succ, show j + (k + 1 + 1) = j + k + 2 by omega, show j + (k + 1) = j + k + 1 by omega]
    grind
  · rw [f3, show k + 2 = k + 1 + 1 from rfl, f2, f1, Nat.pow_succ]; grind
theorem KInv.top_le (h : KInv v N (k + 2) (j + 1) U Q) (hv : Ok v) (hk : v.length = k + 2) :
    wd U (j + k + 2) * BB + wd U (j + k + 1) ≤ wd v (k + 1) * BB + (BB - 1) := by
  have h0 := wd_ok h.okU (j + k + 1)
  have h1 : wd U (j + k + 2) ≤ wd v (k + 1) := by
    have h2 := h.lt
    have e2 := val_take_succ (U.drop (j + 1)) (k + 1)
    rw [wd_drop] at e2
    have e3 := val_split (U.drop (j + 1)) (k + 1 + 1)
    have f2 := val_take_succ v (k + 1)
    have f3 : val v = val (v.take (k + 1 + 1)) := by rw [List.take_of_length_le (by omega)]
    have f4 := val_take_lt hv (k + 1)
    rw [show j + 1 + (k + 1) = j + k + 2 by omega] at e2
    rcases Nat.lt_or_ge (wd v (k + 1)) (wd U (j + k + 2)) with h3 | h3
    · have h5 := Nat.mul_le_mul_left (BB ^ (k + 1)) h3
      rw [Nat.mul_succ] at h5
      have := Nat.zero_le (BB ^ (k + 1 + 1) * val ((U.drop (j + 1)).drop (k + 1 + 1)))
      omega
    · exact h3
  have := Nat.mul_le_mul_right BB h1
  omega
/-- The window behind the step: the remainder's words, and a zero. -/
theorem KInv.next (h : KInv v N k (j + 1) U Q) (hv : Ok v) (hk : v.length = k) (D : List Nat) (g : Nat) (hD : D.length = k) (oD : Ok D) (hg : g < BB) (he : val (U.drop j) = val D + g * val v) (hlt : val D < val v) :
    KInv v N k j (U.take j ++ (D ++ 0 :: U.drop (j + k + 1))) (Q.set j g) := by
  have hj : j + 1 ≤ Q.length := h.ht
  have hl := h.lenU
  have hz := (h.high hv hk).1
  have hz' : val (U.drop (j + k + 1)) = 0 := by rw [show j + k + 1 = j + 1 + k by omega]; exact hz
  have eD : val (D ++ 0 :: U.drop (j + k + 1)) = val D := by rw [val_append, val, hz']; simp
  have edr : (U.take j ++ (D ++ 0 :: U.drop (j + k + 1))).drop j = D ++ 0 :: U.drop (j + k + 1) := by
    rw [List.drop_left' (by rw [List.length_take]; omega)]
  have eQ : (Q.set j g).drop j = g :: Q.drop (j + 1) := by
    rw [List.drop_eq_getElem_cons (by rw [List.length_set]; omega), List.getElem_set_self, List.drop_set_of_lt (by omega)]
  refine ⟨?_, ?_, ?_, by rw [List.length_set]; omega, ?_, by rw [edr, eD]; exact hlt⟩
  · refine Ok.append.2 ⟨h.okU.take j, Ok.append.2 ⟨oD, Ok.cons.2 ⟨BB_pos, h.okU.drop _⟩⟩⟩
  · intro w hw
    rcases List.mem_or_eq_of_mem_set hw with h1 | h1
    · exact h.okQ w h1
    · rw [h1]; exact hg
  · simp only [List.length_append, List.length_take, List.length_cons, List.length_drop, List.length_set, hD]; omega
  · rw [eQ, val_append, eD, List.length_take, Nat.min_eq_left (by omega), val]
    have h1 := val_split U j
    have h2 := h.tot
    rw [h1, he, Nat.pow_succ] at h2
    rw [← h2]; grind
/-- The subtraction of g times the divisor, word by word. -/
def SInv (U v : List Nat) (j g i : Nat) (D : List Nat) (c bw : Nat) : Prop :=
  D.length = i ∧ Ok D ∧ c < BB ∧ bw ≤ 1 ∧ (val D : Int) = val ((U.drop j).take i) - g * val (v.take i) + (BB : Int) ^ i * (c + bw)
theorem SInv.start (U v : List Nat) (j g : Nat) : SInv U v j g 0 [] 0 0 := ⟨rfl, (fun w hw => by cases hw), by decide, by omega, by simp [val]⟩
theorem SInv.step {D : List Nat} {g i c bw p c' d' : Nat} {bw' : Nat} {d : Int} (h : SInv U v j g i D c bw) (oU : Ok U) (hv : Ok v) (hg : g < BB) (hp : p = g * wd v i + c)
    (hc : c' = p / 1000000000) (hd : d = (wd U (j + i) : Int) - (p % 1000000000 : Nat) - bw)
    (hd' : (d < 0 ∧ (d' : Int) = d + 1000000000 ∧ bw' = 1) ∨ (0 ≤ d ∧ (d' : Int) = d ∧ bw' = 0)) : SInv U v j g (i + 1) (D ++ [d']) c' bw' := by
  obtain ⟨h1, h2, h3, h4, h5⟩ := h
  have hu := wd_ok oU (j + i)
  have hw := wd_ok hv i
  have hB : BB = 1000000000 := rfl
  refine ⟨by simp [h1], Ok.append.2 ⟨h2, fun w hw' => ?_⟩, ?_, by omega, ?_⟩
  · obtain rfl := List.mem_singleton.1 hw'
    omega
  · rw [hc, ← hB]
    refine (Nat.div_lt_iff_lt_mul BB_pos).2 ?_
    rw [hp]
    have h6 : g * wd v i ≤ (BB - 1) * (BB - 1) := Nat.mul_le_mul (by omega) (by omega)
    have h7 : (BB - 1) * (BB - 1) + BB ≤ BB * BB := by decide
    omega
  · rw [val_take_succ, val_take_succ, wd_drop, val_snoc, h1]
    have e0 : (p : Int) = (p % 1000000000 : Nat) + 1000000000 * (p / 1000000000 : Nat) := by omega
    have e1 : (d' : Int) = wd U (j + i) - (g * wd v i + c) - bw + 1000000000 * (c' + bw') := by
      have e2 : (p : Int) = g * wd v i + c := by rw [hp]; push_cast; rfl
      rcases hd' with ⟨_, h7, h8⟩ | ⟨_, h7, h8⟩ <;> (subst h8; rw [hc]; omega)
    rw [← show (BB : Int) = 1000000000 from rfl] at e1
    push_cast
    rw [e1, h5, Int.pow_succ]
    grind
/-- The end of the subtraction: no carry, or one that is to be given back. -/
theorem SInv.done {D : List Nat} {g c bw : Nat} {last : Int} (h : SInv U v j g k D c bw) (hi : KInv v N k (j + 1) U Q) (hv : Ok v) (hk : v.length = k) (hg : g ≤ val (U.drop j) / val v + 1) (hq : val (U.drop j) / val v ≤ g)
    (hl : last = (wd U (j + k) : Int) - c - bw) :
    (0 ≤ last → last = 0 ∧ val (U.drop j) = val D + g * val v ∧ val D < val v) ∧
    (last < 0 → last = -1 ∧ 1 ≤ g ∧ (val D : Int) + val v = (val (U.drop j) - (g - 1) * val v : Int) + (BB : Int) ^ k ∧ (val (U.drop j) : Int) - (g - 1) * val v < val v ∧ 0 ≤ (val (U.drop j) : Int) - (g - 1) * val v) := by
  obtain ⟨h1, h2, h3, h4, h5⟩ := h
  have hW := (hi.high hv hk).2
  have hV := val_lt hv
  rw [hk] at hV
  have hD := val_lt h2
  rw [h1] at hD
  rw [List.take_of_length_le (by omega : v.length ≤ k)] at h5
  generalize hWe : val (U.drop j) = W at *
  generalize hVe : val v = V at *
  have hVp : 0 < V := by have := hi.lt; omega
  have hP : ((BB ^ k : Nat) : Int) = (BB : Int) ^ k := by push_cast; rfl
  generalize hPe : BB ^ k = P at *
  rw [← hP] at h5 ⊢
  have e1 : (val D : Int) + P * last = W - g * V := by
    rw [h5, hl, hW]; push_cast; grind
  have hdm := Nat.div_add_mod W V
  have hml := Nat.mod_lt W hVp
  constructor
  · intro h0
    have hgq : g = W / V ∨ g = W / V + 1 := by omega
    have hl0 : (0 : Int) ≤ P * last := Int.mul_nonneg (by omega) h0
    rcases hgq with e | e
    · have e2 : (W : Int) - g * V = (W % V : Nat) := by
        rw [e]; have : (W : Int) = V * (W / V : Nat) + (W % V : Nat) := by exact_mod_cast hdm.symm
        grind
      rw [e2] at e1
      have hlz : last = 0 := by
        rcases Int.lt_or_le 0 last with h6 | h6
        · have : (P : Int) * 1 ≤ P * last := Int.mul_le_mul_of_nonneg_left (by omega) (by omega)
          omega
        · omega
      refine ⟨hlz, ?_, ?_⟩
      · rw [hlz] at e1
        have e3 : val D = W % V := by simp at e1; omega
        rw [e3, e]; rw [Nat.mul_comm]; omega
      · rw [hlz] at e1; simp at e1; omega
    · exfalso
      have e2 : (W : Int) - g * V = (W % V : Nat) - V := by
        rw [e]; have : (W : Int) = V * (W / V : Nat) + (W % V : Nat) := by exact_mod_cast hdm.symm
        push_cast; grind
      rw [e2] at e1
      omega
  · intro h0
    have hgq : g = W / V ∨ g = W / V + 1 := by omega
    rcases hgq with e | e
    · exfalso
      have e2 : (W : Int) - g * V = (W % V : Nat) := by
        rw [e]; have : (W : Int) = V * (W / V : Nat) + (W % V : Nat) := by exact_mod_cast hdm.symm
        grind
      rw [e2] at e1
      have : (P : Int) * last ≤ P * (-1) := Int.mul_le_mul_of_nonneg_left (by omega) (by omega)
      omega
    · have e2 : (W : Int) - g * V = (W % V : Nat) - V := by
        rw [e]; have : (W : Int) = V * (W / V : Nat) + (W % V : Nat) := by exact_mod_cast hdm.symm
        push_cast; grind
      have e4 : (W : Int) - (g - 1) * V = (W % V : Nat) := by
        have : ((g : Int) - 1) * V = g * V - V := by grind
        rw [this]; omega
      rw [e2] at e1
      have hlz : last = -1 := by
        rcases Int.lt_or_le last (-1) with h6 | h6
        · have : (P : Int) * last ≤ P * (-2) := Int.mul_le_mul_of_nonneg_left (by omega) (by omega)
          omega
        · omega
      rw [e4]
      subst hlz
      refine ⟨rfl, by rw [e]; exact Nat.le_add_left _ _, by omega, by omega, by omega⟩
/-- The divisor is given back, word by word. -/
def AInv (D v : List Nat) (i : Nat) (E : List Nat) (up : Nat) : Prop :=
  E.length = i ∧ Ok E ∧ up ≤ 1 ∧ val E + BB ^ i * up = val (D.take i) + val (v.take i)
theorem AInv.start (D v : List Nat) : AInv D v 0 [] 0 := ⟨rfl, (fun w hw => by cases hw), by omega, by simp [val]⟩
theorem AInv.step {D E : List Nat} {i up s : Nat} (h : AInv D v i E up) (oD : Ok D) (hv : Ok v) (hs : s = up + (wd D i + wd v i)) : AInv D v (i + 1) (E ++ [s % 1000000000]) (s / 1000000000) := by
  obtain ⟨h1, h2, h3, h4⟩ := h
  have h5 := wd_ok oD i
  have h6 := wd_ok hv i
  have hB : BB = 1000000000 := rfl
  refine ⟨by simp [h1], Ok.append.2 ⟨h2, fun w hw' => ?_⟩, by omega, ?_⟩
  · obtain rfl := List.mem_singleton.1 hw'
    omega
  · rw [val_take_succ, val_take_succ, val_snoc, h1]
    have e : s = s % 1000000000 + BB * (s / 1000000000) := by rw [hB]; omega
    generalize s % 1000000000 = x at *
    generalize s / 1000000000 = y at *
    have e2 : x + BB * y = up + (wd D i + wd v i) := by rw [← e]; exact hs
    have e3 : BB ^ i * (x + BB * y) = BB ^ i * (up + (wd D i + wd v i)) := by rw [e2]
    rw [Nat.pow_succ]; grind
theorem AInv.done {D E : List Nat} {up g : Nat} (h : AInv D v k E up) (hv : Ok v) (hk : v.length = k) (hD : D.length = k) (h1 : 1 ≤ g)
    (he : (val D : Int) + val v = (val (U.drop j) - (g - 1) * val v : Int) + (BB : Int) ^ k) (hlt : (val (U.drop j) : Int) - (g - 1) * val v < val v) (h0 : 0 ≤ (val (U.drop j) : Int) - (g - 1) * val v) :
    up = 1 ∧ val (U.drop j) = val E + (g - 1) * val v ∧ val E < val v := by
  obtain ⟨a1, a2, a3, a4⟩ := h
  rw [List.take_of_length_le (by omega : v.length ≤ k), List.take_of_length_le (by omega : D.length ≤ k)] at a4
  have hE := val_lt a2
  rw [a1] at hE
  have hV := val_lt hv
  rw [hk] at hV
  have hP : ((BB ^ k : Nat) : Int) = (BB : Int) ^ k := by push_cast; rfl
  rw [← hP] at he
  obtain ⟨m, rfl⟩ : ∃ m, g = m + 1 := ⟨g - 1, by omega⟩
  simp only [Nat.add_sub_cancel]
  have e1 : ((m + 1 : Nat) : Int) - 1 = m := by omega
  rw [e1] at he hlt h0
  generalize hX : (m : Int) * val v = X at *
  have hX' : ((m * val v : Nat) : Int) = X := by rw [← hX]; push_cast; rfl
  have hup : up = 1 := by
    rcases Nat.eq_zero_or_pos up with h2 | h2
    · exfalso; subst h2; rw [Nat.mul_zero] at a4; omega
    · omega
  subst hup
  rw [Nat.mul_one] at a4
  refine ⟨rfl, by omega, by omega⟩
end
end Go.Proofs.YtbldlibijojbjaaGreatDoor.GB
