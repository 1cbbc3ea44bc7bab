import Derived.Test.YtadimepmoljnpaaGreatDoorMUh
import Derived.Test.YtadimepmoljnpaaGreatDoorMStd
namespace Go.Proofs.YtadimepmoljnpaaGreatDoor.GB
set_option linter.unusedVariables false
set_option linter.unusedSimpArgs false
open Go.RowKit Go.Shelf
attribute [local go_sem ↓] Go.wp_at_zero Go.wp_at_succ
theorem Tryz.infoIv : (Tryz.prog.info? 26).map (fun i => (i.zero, i.size, i.bytes)) = some (some (.agg #[.string ⟨#[]⟩, .string ⟨#[]⟩]), 2, 32) := by kernel_rfl
abbrev V2 := Value × Value
def icells (l : List V2) : List Value := l.flatMap fun t => [t.1, t.2]
theorem icells_len (l : List V2) : (icells l).length = l.length * 2 := by
  induction l with
  | nil => rfl
  | cons t l ih => unfold icells at *; rw [List.flatMap_cons, List.length_append, ih, List.length_cons]; simp; omega
theorem icells_append (a b : List V2) : icells (a ++ b) = icells a ++ icells b := by unfold icells; rw [List.flatMap_append]
theorem icells_get (l : List V2) : ∀ j (h : j < l.length), (icells l)[2 * j]? = some l[j].1 ∧ (icells l)[2 * j + 1]? = some l[j].2 := by
  induction l with
  | nil => intro j h; simp at h
  | cons t l ih =>
    intro j h
    have e : icells (t :: l) = t.1 :: t.2 :: icells l := rfl
    cases j with
    | zero => rw [e]; exact ⟨rfl, rfl⟩
    | succ j =>
      have h' : j < l.length := by simpa using h
      obtain ⟨a, b⟩ := ih j h'
      rw [e, show 2 * (j + 1) = 2 * j + 1 + 1 by omega]
      exact ⟨a, b⟩
/-- Ranges as they lie in memory. -/
def ivs (l : List (Rat × Rat)) : List V2 := l.map fun I => (rtx I.1, rtx I.2)
theorem ivs_len (l : List (Rat × Rat)) : (ivs l).length = l.length := by simp [ivs]
theorem ivs_append (a b : List (Rat × Rat)) : ivs (a ++ b) = ivs a ++ ivs b := by simp [ivs]
def One2 (l : List V2) : Prop := ∀ u ∈ icells l, u.oneCell' = true
theorem ones_ivs (l : List (Rat × Rat)) : One2 (ivs l) := by
  intro u hu
  unfold icells GB.ivs at hu
  simp only [List.mem_flatMap, List.mem_map] at hu
  obtain ⟨t, ⟨I, -, rfl⟩, hu⟩ := hu
  simp at hu
  rcases hu with rfl | rfl <;> rfl
/-- A slice of the call's own, of ranges. -/
def OwnI (w : World) (base : Nat) (v : Value) (l : List V2) : Prop := w.ownsRow base 26 2 v l.length (icells l)
theorem OwnI.ext {w w' : World} {base : Nat} {v : Value} {l : List V2} (h : OwnI w base v l) (hb : Ext w w') : OwnI w' base v l :=
  World.ownsRow.kept h (row := none) ⟨hb.os, hb.tape, hb.output, hb.size, fun i hi _ => hb.block i hi⟩ (by cases v.ownBlock <;> simp)
theorem OwnI.hext {w w' : World} {base : Nat} {v : Value} {l : List V2} (h : Hid (OwnI w base v l)) (hb : Ext w w') : Hid (OwnI w' base v l) := h.out.ext hb
theorem OwnI.nil (w : World) (b : Nat) : OwnI w b (.slice none 0 0) [] := ⟨rfl, .inl ⟨rfl, rfl⟩⟩
theorem OwnI.base {w : World} {b b' : Nat} {v : Value} {l : List V2} (h : OwnI w b v l) (hb : b' ≤ b) : OwnI w b' v l := by
  refine ⟨h.1, ?_⟩
  rcases h.2 with h | ⟨g, cap, cur, hv, hg, r⟩
  · exact .inl h
  · exact .inr ⟨g, cap, cur, hv, Nat.le_trans hb hg, r⟩
theorem OwnI.one {w0 : World} {base : Nat} {x y : Value} (hb : base ≤ w0.heap.size) : OwnI (w0.alloc (.cells #[x, y] 26)) base (.slice (some ⟨w0.heap.size, 0, none⟩) 1 1) [(x, y)] :=
  ⟨rfl, .inr ⟨w0.heap.size, 1, #[x, y], rfl, hb, World.alloc_heap_new w0 _, Nat.le_refl _, by simp [maxLen], rfl, rfl⟩⟩
/-- A list of ranges that can be read. -/
def LI (w : World) (v : Value) (l : List V2) : Prop := ∃ A c, v = .slice A l.length c ∧ l.length ≤ c ∧ c ≤ 9223372036854775807 ∧ ∀ j, (h : j < l.length) → ∃ b off, A = some ⟨b, off, none⟩ ∧ b < w.heap.size ∧ w.cell? ⟨b, off + 2 * j, none⟩ = some l[j].1 ∧ w.cell? ⟨b, off + (2 * j + 1), none⟩ = some l[j].2
theorem LI.ext {w w' : World} {v : Value} {l : List V2} (h : LI w v l) (hE : Ext w w') : LI w' v l := by
  obtain ⟨A, c, e, h1, h2, h3⟩ := h
  refine ⟨A, c, e, h1, h2, fun j hj => ?_⟩
  obtain ⟨b, off, e2, hb, c1, c2⟩ := h3 j hj
  exact ⟨b, off, e2, Nat.lt_of_lt_of_le hb hE.size, hE.cell c1, hE.cell c2⟩
theorem LI.hext {w w' : World} {v : Value} {l : List V2} (h : Hid (LI w v l)) (hE : Ext w w') : Hid (LI w' v l) := h.out.ext hE
theorem LI.slc {w : World} {v : Value} {l : List V2} (h : LI w v l) : ∃ A c, v = .slice A l.length c := by obtain ⟨A, c, e, -⟩ := h; exact ⟨A, c, e⟩
theorem OwnI.li {w : World} {base : Nat} {v : Value} {l : List V2} (h : OwnI w base v l) : LI w v l := by
  rcases h.2 with ⟨hv, hn⟩ | ⟨g, cap, cur, hv, hg, hh, h1, h2, h3, h4⟩
  · exact ⟨none, 0, by rw [hv, hn], by omega, by decide, fun j hj => by omega⟩
  · refine ⟨_, cap, hv, h1, by unfold maxLen at h2; omega, fun j hj => ?_⟩
    subst hv
    obtain ⟨a, b⟩ := icells_get l j hj
    refine ⟨g, 0, rfl, (Array.getElem?_eq_some_iff.1 hh).1, ?_, ?_⟩
    · rw [Nat.zero_add, World.ownsRow.cellAt h _ (by omega)]; exact a
    · rw [Nat.zero_add, World.ownsRow.cellAt h _ (by omega)]; exact b
theorem OwnI.cases {w : World} {base : Nat} {v : Value} {l : List V2} (h : OwnI w base v l) : (v = .slice none 0 0 ∧ l = []) ∨ ∃ g cap, v = .slice (some ⟨g, 0, none⟩) l.length cap ∧ base ≤ g ∧ l.length ≤ cap ∧ cap ≤ 9223372036854775807 := by
  rcases h.2 with ⟨hv, hn⟩ | ⟨g, cap, cur, hv, hg, hh, h1, h2, h3, h4⟩
  · exact .inl ⟨hv, List.length_eq_zero_iff.1 hn⟩
  · exact .inr ⟨g, cap, hv, hg, h1, by unfold maxLen at h2; omega⟩
theorem add_off (b off j : Nat) : (⟨b, off, none⟩ : Addr).add j = ⟨b, off + j, none⟩ := by unfold Addr.add; split <;> simp_all
/-- What the cells of a list are, one by one. -/
theorem LI.news {w : World} {b off n c : Nat} {l : List V2} (h : LI w (.slice (some ⟨b, off, none⟩) n c) l) : ∀ j u, (icells l)[j]? = some u → w.cell? ((⟨b, off, none⟩ : Addr).add j) = some u := by
  obtain ⟨A, c', e, -, -, h3⟩ := h
  injection e with e1 e2 e3
  subst e1
  intro j u hu
  have hj : j < (icells l).length := (List.getElem?_eq_some_iff.1 hu).1
  rw [icells_len] at hj
  obtain ⟨q, hq, hql⟩ : ∃ q, (j = 2 * q ∨ j = 2 * q + 1) ∧ q < l.length := ⟨j / 2, by omega, by omega⟩
  obtain ⟨b', off', e4, -, c1, c2⟩ := h3 q hql
  injection e4 with e4
  injection e4 with e5 e6
  subst e5 e6
  obtain ⟨a1, a2⟩ := icells_get l q hql
  rcases hq with rfl | rfl
  · rw [a1] at hu; injection hu with hu; subst hu; rw [add_off]; exact c1
  · rw [a2] at hu; injection hu with hu; subst hu; rw [add_off]; exact c2
theorem owni_push {w wr w2 : World} {v v' : Value} {l m : List V2} (HO : OwnI wr w.heap.size v l) (HE : Ext w wr) (k : Nat) (hk : k = m.length)
    (hown : w2.ownsRow w.heap.size 26 2 v' (l.length + k) (icells l ++ icells m)) (hgrow : wr.grownBy w2 v.ownBlock) : OwnI w2 w.heap.size v' (l ++ m) ∧ Ext w w2 := by
  subst hk
  refine ⟨?_, HE.gr hgrow ?_⟩
  · unfold OwnI; rw [icells_append, List.length_append]; exact hown
  · intro k hk
    rcases HO.2 with ⟨rfl, _⟩ | ⟨g, cap, cur, rfl, hb, _⟩
    · simp [Value.ownBlock] at hk
    · have : g = k := by simpa [Value.ownBlock] using hk
      omega
/-- Two numbers over one denominator. -/
theorem cb_two {x y : Rat} {n D : Nat} {a b : Int} (h0 : 0 < D) (h1 : D ≤ 2 ^ n) (ha : x * (D : Rat) = (a : Rat)) (hb : y * (D : Rat) = (b : Rat)) (la : a.natAbs < 2 ^ n) (lb : b.natAbs < 2 ^ n) : CB [x, y] n := by
  refine ⟨D, h0, h1, fun i => ?_⟩
  rcases i with _ | _ | i
  · exact ⟨a, ha, la⟩
  · exact ⟨b, hb, lb⟩
  · refine ⟨0, ?_, Nat.two_pow_pos n⟩
    have e : cf [x, y] (i + 1 + 1) = 0 := cf_ge (by simp)
    rw [e]; simp
theorem cb_get {x y : Rat} {n : Nat} (h : CB [x, y] n) : Bd x n ∧ Bd y n := ⟨h.bd 0, h.bd 1⟩
theorem cb_mid {x y : Rat} {n : Nat} (h : CB [x, y] n) : CB [x, (x + y) * (1 / 2)] (n + 1) ∧ CB [(x + y) * (1 / 2), y] (n + 1) := by
  obtain ⟨D, h0, h1, h2⟩ := h
  obtain ⟨a, ha, la⟩ := h2 0
  obtain ⟨b, hb, lb⟩ := h2 1
  have e0 : cf [x, y] 0 = x := rfl
  have e1 : cf [x, y] 1 = y := rfl
  rw [e0] at ha
  rw [e1] at hb
  have hp : 2 ^ (n + 1) = 2 * 2 ^ n := by rw [Nat.pow_succ, Nat.mul_comm]
  have hD : ((2 * D : Nat) : Rat) = 2 * (D : Rat) := by push_cast; rfl
  have m1 : x * ((2 * D : Nat) : Rat) = ((2 * a : Int) : Rat) := by rw [hD]; push_cast; grind
  have m2 : y * ((2 * D : Nat) : Rat) = ((2 * b : Int) : Rat) := by rw [hD]; push_cast; grind
  have m3 : (x + y) * (1 / 2) * ((2 * D : Nat) : Rat) = ((a + b : Int) : Rat) := by rw [hD]; push_cast; grind
  exact ⟨cb_two (by omega) (by omega) m1 m3 (by omega) (by omega), cb_two (by omega) (by omega) m3 m2 (by omega) (by omega)⟩
def RetIso (s : Pl) (k : Nat) (lo hi : Rat) (w : World) (e : Ending) (w' : World) : Prop := ∃ v, e = .returned (.tuple #[v, .bool (isoL s k lo hi).2]) ∧ OwnI w' w.heap.size v (ivs (isoL s k lo hi).1) ∧ Ext w w'
/-- What count needs. -/
structure CT (s : Pl) : Prop where
  ne : s ≠ []
  len : s.length ≤ 6
  si : SI s (pder s) 5000000 5000000 6 1000000000
  mono : MonV (vch s)
theorem SQ.ct {p s : Pl} (h : SQ p s) (tp : Tr p) (hp : p ≠ []) (hl : p.length ≤ 6) : CT s := by
  have h2 := h
  obtain ⟨q, -, hS, -⟩ := h2
  exact ⟨h.ne, by have := h.len; omega, h.si hl, (simp_all tp hp hS).1.monV⟩
theorem chain_ne {s : Pl} (h : s ≠ []) : 1 ≤ (chainP s).length := by
  unfold chainP sch
  rw [if_neg h]; simp
theorem sch_len' (f : Nat) : ∀ a b : Pl, (sch f a b).length ≤ f := by
  induction f with
  | zero => intro a b; exact Nat.le_refl _
  | succ f ih =>
    intro a b
    unfold sch
    split
    · simp
    · split
      · simp
      · simp; exact ih _ _
theorem CT.cnt {s : Pl} (h : CT s) (lo hi : Rat) : cntP s lo hi ≤ 7 := by
  have a := chgs_le (chainP s) lo
  have b := chgs_le (chainP s) hi
  have c := sch_len' (s.length + 1) s (pder s)
  have d := h.len
  unfold cntP
  have e : (chainP s).length ≤ s.length + 1 := c
  omega
set_option maxHeartbeats 8000000 in
set_option maxRecDepth 200000 in
theorem iso_a (u : Value) (a b : ByteArray) (k c : Int) (w : World) (HC : Hid (∀ W, Ext w W → Calls Tryz.prog 49 #[u, .string a, .string b] W fun e w' => e = .returned (.int .i64 c) ∧ Ext W w')) (hc : c = 0) : Calls Tryz.prog 56 #[u, .agg #[.string a, .string b], .int .i64 k] w fun e w' => ∃ v, e = .returned (.tuple #[v, .bool true]) ∧ OwnI w' w.heap.size v [] ∧ Ext w w' := by
  subst hc
  have b1 := Bx.new w #[.string a, .string b] 26
  have E0 := (Ext.rfl' w).al (.cells #[.string a, .string b] 26)
  go_enter Tryz.func56, Tryz.ntmps56
  go_wp2_with fail
  generalize w.alloc (.cells #[.string a, .string b] 26) = W0 at *
  refine (HC.out _ E0).mono ?_
  rintro e w1 ⟨rfl, hE⟩
  replace b1 := b1.ext hE
  replace E0 := E0.tr hE
  obtain ⟨c0, c1, -, -⟩ := b1.e2
  clear hE HC
  go_wp2_with fail
  go_ret2
  exact ⟨_, rfl, OwnI.nil _ _, E0⟩
set_option maxHeartbeats 8000000 in
set_option maxRecDepth 200000 in
theorem iso_b (u : Value) (a b : ByteArray) (k c : Int) (w : World) (HC : Hid (∀ W, Ext w W → Calls Tryz.prog 49 #[u, .string a, .string b] W fun e w' => e = .returned (.int .i64 c) ∧ Ext W w')) (hc : c = 1) : Calls Tryz.prog 56 #[u, .agg #[.string a, .string b], .int .i64 k] w fun e w' => ∃ v, e = .returned (.tuple #[v, .bool true]) ∧ OwnI w' w.heap.size v [(.string a, .string b)] ∧ Ext w w' := by
  subst hc
  have b1 := Bx.new w #[.string a, .string b] 26
  have E0 := (Ext.rfl' w).al (.cells #[.string a, .string b] 26)
  go_enter Tryz.func56, Tryz.ntmps56
  go_wp2_with fail
  generalize w.alloc (.cells #[.string a, .string b] 26) = W0 at *
  refine (HC.out _ E0).mono ?_
  rintro e w1 ⟨rfl, hE⟩
  replace b1 := b1.ext hE
  replace E0 := E0.tr hE
  obtain ⟨c0, c1, -, -⟩ := b1.e2
  clear hE HC
  go_wp2_with fail
  go_ret2
  have hs : w.heap.size ≤ w1.heap.size := E0.size
  exact ⟨_, rfl, OwnI.one hs, E0.al _⟩
set_option maxHeartbeats 8000000 in
set_option maxRecDepth 200000 in
theorem iso_c (u : Value) (a b : ByteArray) (k c : Int) (w : World) (HC : Hid (∀ W, Ext w W → Calls Tryz.prog 49 #[u, .string a, .string b] W fun e w' => e = .returned (.int .i64 c) ∧ Ext W w')) (h0 : (c == 0) = false) (h1 : (c == 1) = false) (hk : k = 0) : Calls Tryz.prog 56 #[u, .agg #[.string a, .string b], .int .i64 k] w fun e w' => ∃ v, e = .returned (.tuple #[v, .bool false]) ∧ OwnI w' w.heap.size v [] ∧ Ext w w' := by
  subst hk
  have b1 := Bx.new w #[.string a, .string b] 26
  have E0 := (Ext.rfl' w).al (.cells #[.string a, .string b] 26)
  go_enter Tryz.func56, Tryz.ntmps56
  go_wp2_with fail
  generalize w.alloc (.cells #[.string a, .string b] 26) = W0 at *
  refine (HC.out _ E0).mono ?_
  rintro e w1 ⟨rfl, hE⟩
  replace b1 := b1.ext hE
  replace E0 := E0.tr hE
  obtain ⟨c0, c1, -, -⟩ := b1.e2
  clear hE HC
  go_wp2_with fail
  go_ret2
  exact ⟨_, rfl, OwnI.nil _ _, E0⟩
set_option maxHeartbeats 8000000 in
set_option maxRecDepth 200000 in
theorem iso_d (u : Value) (a b m : ByteArray) (k c : Int) (ba bb : Bool) (la lb : List V2) (w : World) (HC : Hid (∀ W, Ext w W → Calls Tryz.prog 49 #[u, .string a, .string b] W fun e w' => e = .returned (.int .i64 c) ∧ Ext W w')) (h0 : (c == 0) = false) (h1 : (c == 1) = false) (hk : 0 ≤ k ∧ k ≤ 1000000) (HM : Hid (∀ W, Ext w W → Calls Tryz.prog 101 #[.string a, .string b] W fun e w' => e = .returned (.string m) ∧ Ext W w'))
    (H1 : Hid (∀ W, Ext w W → Calls Tryz.prog 56 #[u, .agg #[.string a, .string m], .int .i64 k] W fun e w' => ∃ v, e = .returned (.tuple #[v, .bool ba]) ∧ OwnI w' W.heap.size v la ∧ Ext W w')) (H2 : Hid (∀ W, Ext w W → Calls Tryz.prog 56 #[u, .agg #[.string m, .string b], .int .i64 k] W fun e w' => ∃ v, e = .returned (.tuple #[v, .bool bb]) ∧ OwnI w' W.heap.size v lb ∧ Ext W w')) (l1 : la.length ≤ 7) (l2 : lb.length ≤ 7) (o2 : One2 lb) :
    Calls Tryz.prog 56 #[u, .agg #[.string a, .string b], .int .i64 (k + 1)] w fun e w' => ∃ v, e = .returned (.tuple #[v, .bool (ba && bb)]) ∧ OwnI w' w.heap.size v (la ++ lb) ∧ Ext w w' := by
  obtain ⟨i0, hi, hz0, hz1, hz2⟩ := info_parts Tryz.infoIv
  have zk : (k + 1 == 0) = false := beq_eq_false_iff_ne.2 (by omega)
  have zw : IntKind.i64.wrap (k + 1 - 1) = k := by rw [IntKind.wrap_i64]; omega
  have b1 := Bx.new w #[.string a, .string b] 26
  have E0 := (Ext.rfl' w).al (.cells #[.string a, .string b] 26)
  go_enter Tryz.func56, Tryz.ntmps56
  go_wp2_with fail
  generalize w.alloc (.cells #[.string a, .string b] 26) = W0 at *
  refine (HC.out _ E0).mono ?_
  rintro e w1 ⟨rfl, hE⟩
  replace b1 := b1.ext hE
  replace E0 := E0.tr hE
  obtain ⟨c0, c1, -, -⟩ := b1.e2
  clear hE HC
  go_wp2_with fail
  refine (HM.out _ E0).mono ?_
  rintro e w2 ⟨rfl, hE⟩
  replace b1 := b1.ext hE
  replace E0 := E0.tr hE
  obtain ⟨c0, c1, -, -⟩ := b1.e2
  clear hE HM
  go_wp2_with fail
  refine (H1.out _ E0).mono ?_
  rintro e w3 ⟨va, rfl, hv, hE⟩
  have HA := Lib.hid (OwnI.base hv E0.size)
  replace b1 := b1.ext hE
  replace E0 := E0.tr hE
  obtain ⟨c0, c1, -, -⟩ := b1.e2
  clear hE H1 hv
  go_wp2_with fail
  refine (H2.out _ E0).mono ?_
  rintro e w4 ⟨vb, rfl, hv, hE⟩
  replace HA := OwnI.hext HA hE
  have HB := Lib.hid hv
  have hs4 : w.heap.size ≤ w4.heap.size := (E0.tr hE).size
  have HE := Lib.hid (E0.tr hE)
  clear hE H2 hv b1 c0 c1 E0
  rcases HB.out.cases with ⟨rfl, hlb⟩ | ⟨gb, cb, rfl, -, hcb, hcb2⟩
  · subst hlb
    rcases HA.out.cases with ⟨rfl, hla⟩ | ⟨ga, ca, rfl, -, hca, hca2⟩
    · subst hla
      cases ba <;> cases bb
      all_goals
        go_wp2_with fail
        go_ret2
        exact ⟨_, rfl, OwnI.nil _ _, HE.out⟩
    · generalize hn : la.length = n at *
      cases ba <;> cases bb
      all_goals
        go_wp2_with fail
        go_ret2
        exact ⟨_, rfl, by rw [List.append_nil]; exact HA.out, HE.out⟩
  · have hmax : la.length + lb.length ≤ maxLen := by unfold maxLen; omega
    have hbig : (la.length + lb.length) * 32 ≤ 140737488355328 := by omega
    cases ba <;> cases bb
    all_goals
      go_wp2_with (at_builtin; (refine wpList_append_own _ rfl _ _ 39 rfl w.heap.size 26 i0 (.agg #[.string ⟨#[]⟩, .string ⟨#[]⟩]) 2 32 Tryz.underlying39 hi hz0 hz1 hz2 rfl (by decide) _ la.length (icells la) rfl HA.out ⟨gb, 0, none⟩ lb.length cb (icells lb) rfl (icells_len lb) (LI.news HB.out.li) o2 hmax hbig hs4 ?_); intro v' wz hown hgrow _)
      go_ret2
      obtain ⟨q1, q2⟩ := owni_push HA.out HE.out lb.length rfl hown hgrow
      exact ⟨_, rfl, q1, q2⟩
theorem siso_v (s : Pl) (hs : CT s) : ∀ (k : Nat) (u : Value) (lo hi : Rat) (n : Nat) (w : World), Wd w → PS w u s → lo < hi → CB [lo, hi] n → n + k ≤ 1000000 →
    Calls Tryz.prog 56 #[u, .agg #[rtx lo, rtx hi], .int .i64 (k : Int)] w (RetIso s k lo hi w) := by
  intro k
  induction k with
  | zero =>
    intro u lo hi n w hW hu hlt hcb hn
    have hb := cb_get hcb
    have HC : Hid (∀ W, Ext w W → Calls Tryz.prog 49 #[u, rtx lo, rtx hi] W fun e w' => e = .returned (.int .i64 (cntP s lo hi)) ∧ Ext W w') := fun W hE =>
      scount_v u s lo hi n W (hW.ext hE) (hu.ext hE) hs.ne hs.len hs.si hb.1 hb.2 (by omega)
    unfold RetIso
    by_cases h0 : cntP s lo hi = 0
    · rw [isoL_zero h0]; exact iso_a u _ _ _ _ w HC h0
    · by_cases h1 : cntP s lo hi = 1
      · rw [isoL_one h1]; exact iso_b u _ _ _ _ w HC h1
      · rw [isoL_end h0 h1]; exact iso_c u _ _ _ _ w HC (beq_eq_false_iff_ne.2 h0) (beq_eq_false_iff_ne.2 h1) rfl
  | succ k ih =>
    intro u lo hi n w hW hu hlt hcb hn
    have hb := cb_get hcb
    have HC : Hid (∀ W, Ext w W → Calls Tryz.prog 49 #[u, rtx lo, rtx hi] W fun e w' => e = .returned (.int .i64 (cntP s lo hi)) ∧ Ext W w') := fun W hE =>
      scount_v u s lo hi n W (hW.ext hE) (hu.ext hE) hs.ne hs.len hs.si hb.1 hb.2 (by omega)
    have HM : Hid (∀ W, Ext w W → Calls Tryz.prog 101 #[rtx lo, rtx hi] W fun e w' => e = .returned (rtx ((lo + hi) * (1 / 2))) ∧ Ext W w') := fun W hE =>
      smid_v lo hi n W (hW.ext hE) hb.1 hb.2 (by have := kk40; omega)
    have hm := mid_lt hlt
    have hc := cb_mid hcb
    have H1 : Hid (∀ W, Ext w W → Calls Tryz.prog 56 #[u, .agg #[rtx lo, rtx ((lo + hi) * (1 / 2))], .int .i64 (k : Int)] W (RetIso s k lo ((lo + hi) * (1 / 2)) W)) := fun W hE => ih u lo _ (n + 1) W (hW.ext hE) (hu.ext hE) hm.1 hc.1 (by omega)
    have H2 : Hid (∀ W, Ext w W → Calls Tryz.prog 56 #[u, .agg #[rtx ((lo + hi) * (1 / 2)), rtx hi], .int .i64 (k : Int)] W (RetIso s k ((lo + hi) * (1 / 2)) hi W)) := fun W hE => ih u _ hi (n + 1) W (hW.ext hE) (hu.ext hE) hm.2 hc.2 (by omega)
    have L1 := isoL_len hs.mono k lo _ hm.1
    have L2 := isoL_len hs.mono k _ hi hm.2
    have L3 := hs.cnt lo ((lo + hi) * (1 / 2))
    have L4 := hs.cnt ((lo + hi) * (1 / 2)) hi
    have hk : ((k + 1 : Nat) : Int) = (k : Int) + 1 := by omega
    unfold RetIso
    rw [hk]
    by_cases h0 : cntP s lo hi = 0
    · rw [isoL_zero h0]; exact iso_a u _ _ _ _ w HC h0
    · by_cases h1 : cntP s lo hi = 1
      · rw [isoL_one h1]; exact iso_b u _ _ _ _ w HC h1
      · rw [isoL_step h0 h1]
        dsimp only
        rw [ivs_append]
        exact iso_d u _ _ _ (k : Int) _ _ _ _ _ w HC (beq_eq_false_iff_ne.2 h0) (beq_eq_false_iff_ne.2 h1) (by omega) HM H1 H2 (by rw [ivs_len]; omega) (by rw [ivs_len]; omega) (ones_ivs _)
end Go.Proofs.YtadimepmoljnpaaGreatDoor.GB
