import Derived.Test.YtbldlibijojbjaaGreatDoorMPw
namespace Go.Proofs.YtbldlibijojbjaaGreatDoor.GB
set_option linter.unusedVariables false
set_option linter.unusedSimpArgs false
open Go.RowKit Go.Shelf
attribute [local go_sem ↓] Go.wp_at_zero Go.wp_at_succ

/-- No text is long. -/
def SB (l : List ByteArray) : Prop := ∀ s ∈ l, s.size ≤ 1000000
/-- Valid hands back a bool. -/
def VA (v : Value) (b : Bool) (w : World) : Prop := ∀ W, Ext w W → Calls Tryz.prog 16 #[v] W fun e w' => e = .returned (.bool b) ∧ Ext W w'
theorem VA.ext {v : Value} {b : Bool} {w w' : World} (h : VA v b w) (hE : Ext w w') : VA v b w' := fun W hW => h W (hE.tr hW)
theorem pValid_any (v : Value) (l : List ByteArray) (w : World) (hW : Wd w) (h : SlS w v l) (hs : SB l) : VA v (polB l) w := by
  intro W hE
  obtain ⟨A, c, rfl, h1, h2, h3⟩ := h.ext hE
  unfold polB
  exact pvalid_g A c l (fun s => !ratB s.data.toList) W h1 h2 h3 (fun _ j hj W' hE' => vclos _ _ W' (rValid_any _ W' ((hW.ext hE).ext hE') (hs _ (List.getElem_mem hj))))
theorem last_rb {p : Pl} (tp : Tr p) : lastZ (p.map rb) = false := by
  unfold lastZ
  rw [List.getLast?_map]
  cases h : p.getLast? with
  | none => rfl
  | some x =>
    simp only [Option.map_some]
    rw [isZ_rb]
    apply decide_eq_false
    intro e
    rw [e] at h
    exact tp h
theorem pValid_p (v : Value) (p : Pl) (n : Nat) (w : World) (hW : Wd w) (h : PS w v p) (hp : PB p n) (tp : Tr p) (hl : p.length ≤ 17) (hn : n + 1 ≤ KK) : VA v true w := by
  intro W hE
  obtain ⟨A, c, rfl, h1, h2, h3⟩ := h.ext hE
  have hh := pvalid_g A c (p.map rb) (fun _ => false) W h1 h2 h3 (fun _ j hj W' hE' => by
    have hj' : j < p.length := by simpa using hj
    have e : (p.map rb)[j] = rb p[j] := by simp
    rw [e]
    exact vclos _ true W' (rValid_q p[j] n W' ((hW.ext hE).ext hE') (hp _ (List.getElem_mem hj')) hn))
  rw [last_rb tp] at hh
  have e1 : decide ((p.map rb).length ≤ 17) = true := decide_eq_true (by simpa using hl)
  have e2 : (p.map rb).any (fun _ => false) = false := by simp
  rw [e1, e2] at hh
  exact hh
/-- A list of texts is a polynomial's, just if it passes. -/
theorem polB_iff (l : List ByteArray) : polB l = true ↔ ∃ p : Pl, l = p.map rb ∧ Tr p ∧ p.length ≤ 17 := by
  constructor
  · intro h
    unfold polB at h
    simp only [Bool.and_eq_true, decide_eq_true_eq, Bool.not_eq_true'] at h
    obtain ⟨⟨h1, h2⟩, h3⟩ := h
    have hq : ∀ s ∈ l, ∃ q, s = rb q := by
      intro s hs
      rw [List.any_eq_false] at h3
      have := h3 s hs
      obtain ⟨q, hq⟩ := ratB_t (l := s.data.toList) (by simpa using this)
      exact ⟨q, list_of hq⟩
    have hp : ∃ p : Pl, l = p.map rb := by
      clear h1 h2 h3
      induction l with
      | nil => exact ⟨[], rfl⟩
      | cons s l ih =>
        obtain ⟨q, rfl⟩ := hq s (by simp)
        obtain ⟨p, rfl⟩ := ih (fun s hs => hq s (by simp [hs]))
        exact ⟨q :: p, rfl⟩
    obtain ⟨p, rfl⟩ := hp
    refine ⟨p, rfl, ?_, by simpa using h1⟩
    intro e
    unfold lastZ at h2
    rw [List.getLast?_map, e] at h2
    simp only [Option.map_some] at h2
    rw [isZ_rb] at h2
    simp at h2
  · rintro ⟨p, rfl, tp, hl⟩
    unfold polB
    rw [last_rb tp]
    have e1 : decide ((p.map rb).length ≤ 17) = true := decide_eq_true (by simpa using hl)
    have e2 : ((p.map rb).any fun s => !ratB s.data.toList) = false := by
      rw [List.any_eq_false]
      intro s hs
      obtain ⟨q, _, rfl⟩ := List.mem_map.1 hs
      have : ratB (rb q).data.toList = true := ratB_of ⟨q, rfl⟩
      rw [this]; simp
    rw [e1, e2]
    rfl
/-- A value that has what Q says. -/
def RetQ (Q : World → Value → Prop) (w : World) (e : Ending) (w' : World) : Prop := ∃ v, e = .returned v ∧ Q w' v ∧ Ext w w'
def RetQ0 (Q : World → Value → Prop) (w : World) (e : Ending) (w' : World) : Prop := ∃ v, e = .returned (.tuple #[v, .int .i64 0]) ∧ Q w' v ∧ Ext w w'
def RetE (k : Int) (w : World) (e : Ending) (w' : World) : Prop := e = .returned (.tuple #[.slice none 0 0, .int .i64 k]) ∧ Ext w w'
set_option maxHeartbeats 1000000 in
set_option maxRecDepth 100000 in
theorem papply_plus (v1 v2 : Value) (Q : World → Value → Prop) (w : World) (h1 : VA v1 true w) (h2 : VA v2 true w)
    (h3 : ∀ W, Ext w W → Calls Tryz.prog 57 #[v1, v2] W (RetQ Q W)) :
    Calls Tryz.prog 56 #[.func (.func 57) #[] #[], v1, v2] w (RetQ0 Q w) := by
  go_enter Tryz.func56, Tryz.ntmps56
  go_wp2_with fail
  refine (h1 _ (Ext.rfl' _)).mono ?_
  rintro e w1 ⟨rfl, E1⟩
  have HE1 := Lib.hid E1
  clear E1
  go_wp2_with fail
  refine (h2 _ HE1.out).mono ?_
  rintro e w2 ⟨rfl, E2⟩
  have HE2 := Lib.hid (HE1.out.tr E2)
  clear E2
  go_wp2_with fail
  refine (h3 _ HE2.out).mono ?_
  rintro e w3 ⟨v, rfl, hv, E3⟩
  have HV := Lib.hid hv
  have HE3 := Lib.hid (HE2.out.tr E3)
  clear E3 hv h1 h2 h3
  go_wp2_with fail
  go_ret2
  exact ⟨_, rfl, HV.out, HE3.out⟩
set_option maxHeartbeats 1000000 in
set_option maxRecDepth 100000 in
theorem papply_minus (v1 v2 : Value) (Q : World → Value → Prop) (w : World) (h1 : VA v1 true w) (h2 : VA v2 true w)
    (h3 : ∀ W, Ext w W → Calls Tryz.prog 60 #[v1, v2] W (RetQ Q W)) :
    Calls Tryz.prog 56 #[.func (.func 60) #[] #[], v1, v2] w (RetQ0 Q w) := by
  go_enter Tryz.func56, Tryz.ntmps56
  go_wp2_with fail
  refine (h1 _ (Ext.rfl' _)).mono ?_
  rintro e w1 ⟨rfl, E1⟩
  have HE1 := Lib.hid E1
  clear E1
  go_wp2_with fail
  refine (h2 _ HE1.out).mono ?_
  rintro e w2 ⟨rfl, E2⟩
  have HE2 := Lib.hid (HE1.out.tr E2)
  clear E2
  go_wp2_with fail
  refine (h3 _ HE2.out).mono ?_
  rintro e w3 ⟨v, rfl, hv, E3⟩
  have HV := Lib.hid hv
  have HE3 := Lib.hid (HE2.out.tr E3)
  clear E3 hv h1 h2 h3
  go_wp2_with fail
  go_ret2
  exact ⟨_, rfl, HV.out, HE3.out⟩
set_option maxHeartbeats 1000000 in
set_option maxRecDepth 100000 in
theorem papply_times (v1 v2 : Value) (Q : World → Value → Prop) (w : World) (h1 : VA v1 true w) (h2 : VA v2 true w)
    (h3 : ∀ W, Ext w W → Calls Tryz.prog 62 #[v1, v2] W (RetQ Q W)) :
    Calls Tryz.prog 56 #[.func (.func 62) #[] #[], v1, v2] w (RetQ0 Q w) := by
  go_enter Tryz.func56, Tryz.ntmps56
  go_wp2_with fail
  refine (h1 _ (Ext.rfl' _)).mono ?_
  rintro e w1 ⟨rfl, E1⟩
  have HE1 := Lib.hid E1
  clear E1
  go_wp2_with fail
  refine (h2 _ HE1.out).mono ?_
  rintro e w2 ⟨rfl, E2⟩
  have HE2 := Lib.hid (HE1.out.tr E2)
  clear E2
  go_wp2_with fail
  refine (h3 _ HE2.out).mono ?_
  rintro e w3 ⟨v, rfl, hv, E3⟩
  have HV := Lib.hid hv
  have HE3 := Lib.hid (HE2.out.tr E3)
  clear E3 hv h1 h2 h3
  go_wp2_with fail
  go_ret2
  exact ⟨_, rfl, HV.out, HE3.out⟩
set_option maxHeartbeats 1000000 in
set_option maxRecDepth 100000 in
theorem papply_common (v1 v2 : Value) (Q : World → Value → Prop) (w : World) (h1 : VA v1 true w) (h2 : VA v2 true w)
    (h3 : ∀ W, Ext w W → Calls Tryz.prog 66 #[v1, v2] W (RetQ Q W)) :
    Calls Tryz.prog 56 #[.func (.func 66) #[] #[], v1, v2] w (RetQ0 Q w) := by
  go_enter Tryz.func56, Tryz.ntmps56
  go_wp2_with fail
  refine (h1 _ (Ext.rfl' _)).mono ?_
  rintro e w1 ⟨rfl, E1⟩
  have HE1 := Lib.hid E1
  clear E1
  go_wp2_with fail
  refine (h2 _ HE1.out).mono ?_
  rintro e w2 ⟨rfl, E2⟩
  have HE2 := Lib.hid (HE1.out.tr E2)
  clear E2
  go_wp2_with fail
  refine (h3 _ HE2.out).mono ?_
  rintro e w3 ⟨v, rfl, hv, E3⟩
  have HV := Lib.hid hv
  have HE3 := Lib.hid (HE2.out.tr E3)
  clear E3 hv h1 h2 h3
  go_wp2_with fail
  go_ret2
  exact ⟨_, rfl, HV.out, HE3.out⟩
set_option maxHeartbeats 1000000 in
set_option maxRecDepth 100000 in
theorem papply_no1 (f v1 v2 : Value) (w : World) (h1 : VA v1 false w) :
    Calls Tryz.prog 56 #[f, v1, v2] w (RetE 1 w) := by
  go_enter Tryz.func56, Tryz.ntmps56
  go_wp2_with fail
  refine (h1 _ (Ext.rfl' _)).mono ?_
  rintro e w1 ⟨rfl, E1⟩
  have HE1 := Lib.hid E1
  clear E1
  go_wp2_with fail
  go_ret2
  exact ⟨rfl, HE1.out⟩
set_option maxHeartbeats 1000000 in
set_option maxRecDepth 100000 in
theorem papply_no2 (f v1 v2 : Value) (w : World) (h1 : VA v1 true w) (h2 : VA v2 false w) :
    Calls Tryz.prog 56 #[f, v1, v2] w (RetE 1 w) := by
  go_enter Tryz.func56, Tryz.ntmps56
  go_wp2_with fail
  refine (h1 _ (Ext.rfl' _)).mono ?_
  rintro e w1 ⟨rfl, E1⟩
  have HE1 := Lib.hid E1
  clear E1
  go_wp2_with fail
  refine (h2 _ HE1.out).mono ?_
  rintro e w2 ⟨rfl, E2⟩
  have HE2 := Lib.hid (HE1.out.tr E2)
  clear E2
  go_wp2_with fail
  go_ret2
  exact ⟨rfl, HE2.out⟩
theorem papply_no (f v1 v2 : Value) (a b : Bool) (w : World) (h1 : VA v1 a w) (h2 : VA v2 b w) (h : (a && b) = false) : Calls Tryz.prog 56 #[f, v1, v2] w (RetE 1 w) := by
  cases a
  · exact papply_no1 f v1 v2 w h1
  · cases b
    · exact papply_no2 f v1 v2 w h1 h2
    · cases h
set_option maxHeartbeats 1000000 in
set_option maxRecDepth 100000 in
theorem PAdd_ok (v1 v2 : Value) (Q : World → Value → Prop) (w : World) (h1 : ∀ W, Ext w W → Calls Tryz.prog 56 #[.func (.func 57) #[] #[], v1, v2] W (RetQ0 Q W)) : Calls Tryz.prog 20 #[v1, v2] w (RetQ0 Q w) := by
  go_enter Tryz.func20, Tryz.ntmps20
  go_wp2_with fail
  refine (h1 _ (Ext.rfl' _)).mono ?_
  rintro e w1 ⟨v, rfl, hv, hE⟩
  have HV := Lib.hid hv
  clear hv h1
  go_wp2_with fail
  go_ret2
  exact ⟨_, rfl, HV.out, hE⟩
set_option maxHeartbeats 1000000 in
set_option maxRecDepth 100000 in
theorem PAdd_no (v1 v2 : Value) (k : Int) (w : World) (h1 : ∀ W, Ext w W → Calls Tryz.prog 56 #[.func (.func 57) #[] #[], v1, v2] W (RetE k W)) : Calls Tryz.prog 20 #[v1, v2] w (RetE k w) := by
  go_enter Tryz.func20, Tryz.ntmps20
  go_wp2_with fail
  refine (h1 _ (Ext.rfl' _)).mono ?_
  rintro e w1 ⟨rfl, hE⟩
  clear h1
  go_wp2_with fail
  go_ret2
  exact ⟨rfl, hE⟩
set_option maxHeartbeats 1000000 in
set_option maxRecDepth 100000 in
theorem PSub_ok (v1 v2 : Value) (Q : World → Value → Prop) (w : World) (h1 : ∀ W, Ext w W → Calls Tryz.prog 56 #[.func (.func 60) #[] #[], v1, v2] W (RetQ0 Q W)) : Calls Tryz.prog 23 #[v1, v2] w (RetQ0 Q w) := by
  go_enter Tryz.func23, Tryz.ntmps23
  go_wp2_with fail
  refine (h1 _ (Ext.rfl' _)).mono ?_
  rintro e w1 ⟨v, rfl, hv, hE⟩
  have HV := Lib.hid hv
  clear hv h1
  go_wp2_with fail
  go_ret2
  exact ⟨_, rfl, HV.out, hE⟩
set_option maxHeartbeats 1000000 in
set_option maxRecDepth 100000 in
theorem PSub_no (v1 v2 : Value) (k : Int) (w : World) (h1 : ∀ W, Ext w W → Calls Tryz.prog 56 #[.func (.func 60) #[] #[], v1, v2] W (RetE k W)) : Calls Tryz.prog 23 #[v1, v2] w (RetE k w) := by
  go_enter Tryz.func23, Tryz.ntmps23
  go_wp2_with fail
  refine (h1 _ (Ext.rfl' _)).mono ?_
  rintro e w1 ⟨rfl, hE⟩
  clear h1
  go_wp2_with fail
  go_ret2
  exact ⟨rfl, hE⟩
set_option maxHeartbeats 1000000 in
set_option maxRecDepth 100000 in
theorem PGCD_ok (v1 v2 : Value) (Q : World → Value → Prop) (w : World) (h1 : ∀ W, Ext w W → Calls Tryz.prog 56 #[.func (.func 66) #[] #[], v1, v2] W (RetQ0 Q W)) : Calls Tryz.prog 29 #[v1, v2] w (RetQ0 Q w) := by
  go_enter Tryz.func29, Tryz.ntmps29
  go_wp2_with fail
  refine (h1 _ (Ext.rfl' _)).mono ?_
  rintro e w1 ⟨v, rfl, hv, hE⟩
  have HV := Lib.hid hv
  clear hv h1
  go_wp2_with fail
  go_ret2
  exact ⟨_, rfl, HV.out, hE⟩
set_option maxHeartbeats 1000000 in
set_option maxRecDepth 100000 in
theorem PGCD_no (v1 v2 : Value) (k : Int) (w : World) (h1 : ∀ W, Ext w W → Calls Tryz.prog 56 #[.func (.func 66) #[] #[], v1, v2] W (RetE k W)) : Calls Tryz.prog 29 #[v1, v2] w (RetE k w) := by
  go_enter Tryz.func29, Tryz.ntmps29
  go_wp2_with fail
  refine (h1 _ (Ext.rfl' _)).mono ?_
  rintro e w1 ⟨rfl, hE⟩
  clear h1
  go_wp2_with fail
  go_ret2
  exact ⟨rfl, hE⟩
end Go.Proofs.YtbldlibijojbjaaGreatDoor.GB

namespace Go.Proofs.YtbldlibijojbjaaGreatDoor.GB
set_option linter.unusedVariables false
set_option linter.unusedSimpArgs false
open Go.RowKit Go.Shelf
attribute [local go_sem ↓] Go.wp_at_zero Go.wp_at_succ

set_option maxHeartbeats 1000000 in
set_option maxRecDepth 100000 in
theorem PMul_lim (A B : Option Addr) (ca cb pn rn : Nat) (w : World) (h1 : VA (.slice A pn ca) true w) (h2 : VA (.slice B rn cb) true w) (l1 : pn ≤ 100000) (l2 : rn ≤ 100000) (p0 : 0 < pn) (r0 : 0 < rn) (hl : 18 < pn + rn) :
    Calls Tryz.prog 25 #[.slice A pn ca, .slice B rn cb] w (RetE 15 w) := by
  have a1 : (16 : Int) < (pn : Int) + (rn : Int) - 2 := by omega
  go_enter Tryz.func25, Tryz.ntmps25
  go_wp2_with fail
  refine (h1 _ (Ext.rfl' _)).mono ?_
  rintro e w1 ⟨rfl, E1⟩
  have HE1 := Lib.hid E1
  clear E1
  go_wp2_with fail
  refine (h2 _ HE1.out).mono ?_
  rintro e w2 ⟨rfl, E2⟩
  have HE2 := Lib.hid (HE1.out.tr E2)
  clear E2
  go_wp2_with fail
  go_ret2
  exact ⟨rfl, HE2.out⟩
set_option maxHeartbeats 1000000 in
set_option maxRecDepth 100000 in
theorem PMul_a (A B : Option Addr) (ca cb pn rn : Nat) (Q : World → Value → Prop) (w : World) (h1 : VA (.slice A pn ca) true w) (h2 : VA (.slice B rn cb) true w) (l1 : pn ≤ 100000) (l2 : rn ≤ 100000) (p0 : pn = 0)
    (h3 : ∀ W, Ext w W → Calls Tryz.prog 56 #[.func (.func 62) #[] #[], .slice A pn ca, .slice B rn cb] W (RetQ0 Q W)) :
    Calls Tryz.prog 25 #[.slice A pn ca, .slice B rn cb] w (RetQ0 Q w) := by
  subst p0
  go_enter Tryz.func25, Tryz.ntmps25
  go_wp2_with fail
  refine (h1 _ (Ext.rfl' _)).mono ?_
  rintro e w1 ⟨rfl, E1⟩
  have HE1 := Lib.hid E1
  clear E1
  go_wp2_with fail
  refine (h2 _ HE1.out).mono ?_
  rintro e w2 ⟨rfl, E2⟩
  have HE2 := Lib.hid (HE1.out.tr E2)
  clear E2
  go_wp2_with fail
  refine (h3 _ HE2.out).mono ?_
  rintro e w3 ⟨v, rfl, hv, E3⟩
  have HV := Lib.hid hv
  have HE3 := Lib.hid (HE2.out.tr E3)
  clear E3 hv h1 h2 h3
  go_wp2_with fail
  go_ret2
  exact ⟨_, rfl, HV.out, HE3.out⟩
set_option maxHeartbeats 1000000 in
set_option maxRecDepth 100000 in
theorem PMul_b (A B : Option Addr) (ca cb pn rn : Nat) (Q : World → Value → Prop) (w : World) (h1 : VA (.slice A pn ca) true w) (h2 : VA (.slice B rn cb) true w) (l1 : pn ≤ 100000) (l2 : rn ≤ 100000) (p0 : 0 < pn) (r0 : rn = 0)
    (h3 : ∀ W, Ext w W → Calls Tryz.prog 56 #[.func (.func 62) #[] #[], .slice A pn ca, .slice B rn cb] W (RetQ0 Q W)) :
    Calls Tryz.prog 25 #[.slice A pn ca, .slice B rn cb] w (RetQ0 Q w) := by
  subst r0
  go_enter Tryz.func25, Tryz.ntmps25
  go_wp2_with fail
  refine (h1 _ (Ext.rfl' _)).mono ?_
  rintro e w1 ⟨rfl, E1⟩
  have HE1 := Lib.hid E1
  clear E1
  go_wp2_with fail
  refine (h2 _ HE1.out).mono ?_
  rintro e w2 ⟨rfl, E2⟩
  have HE2 := Lib.hid (HE1.out.tr E2)
  clear E2
  go_wp2_with fail
  refine (h3 _ HE2.out).mono ?_
  rintro e w3 ⟨v, rfl, hv, E3⟩
  have HV := Lib.hid hv
  have HE3 := Lib.hid (HE2.out.tr E3)
  clear E3 hv h1 h2 h3
  go_wp2_with fail
  go_ret2
  exact ⟨_, rfl, HV.out, HE3.out⟩
set_option maxHeartbeats 1000000 in
set_option maxRecDepth 100000 in
theorem PMul_c (A B : Option Addr) (ca cb pn rn : Nat) (Q : World → Value → Prop) (w : World) (h1 : VA (.slice A pn ca) true w) (h2 : VA (.slice B rn cb) true w) (l1 : pn ≤ 100000) (l2 : rn ≤ 100000) (p0 : 0 < pn) (r0 : 0 < rn) (hl : pn + rn ≤ 18)
    (h3 : ∀ W, Ext w W → Calls Tryz.prog 56 #[.func (.func 62) #[] #[], .slice A pn ca, .slice B rn cb] W (RetQ0 Q W)) :
    Calls Tryz.prog 25 #[.slice A pn ca, .slice B rn cb] w (RetQ0 Q w) := by
  have a1 : ¬ ((16 : Int) < (pn : Int) + (rn : Int) - 2) := by omega
  go_enter Tryz.func25, Tryz.ntmps25
  go_wp2_with fail
  refine (h1 _ (Ext.rfl' _)).mono ?_
  rintro e w1 ⟨rfl, E1⟩
  have HE1 := Lib.hid E1
  clear E1
  go_wp2_with fail
  refine (h2 _ HE1.out).mono ?_
  rintro e w2 ⟨rfl, E2⟩
  have HE2 := Lib.hid (HE1.out.tr E2)
  clear E2
  go_wp2_with fail
  refine (h3 _ HE2.out).mono ?_
  rintro e w3 ⟨v, rfl, hv, E3⟩
  have HV := Lib.hid hv
  have HE3 := Lib.hid (HE2.out.tr E3)
  clear E3 hv h1 h2 h3
  go_wp2_with fail
  go_ret2
  exact ⟨_, rfl, HV.out, HE3.out⟩
set_option maxHeartbeats 1000000 in
set_option maxRecDepth 100000 in
theorem PMul_n1 (v1 v2 : Value) (k : Int) (w : World) (h1 : VA v1 false w) (h3 : ∀ W, Ext w W → Calls Tryz.prog 56 #[.func (.func 62) #[] #[], v1, v2] W (RetE k W)) :
    Calls Tryz.prog 25 #[v1, v2] w (RetE k w) := by
  go_enter Tryz.func25, Tryz.ntmps25
  go_wp2_with fail
  refine (h1 _ (Ext.rfl' _)).mono ?_
  rintro e w1 ⟨rfl, E1⟩
  have HE1 := Lib.hid E1
  clear E1
  go_wp2_with fail
  refine (h3 _ HE1.out).mono ?_
  rintro e w3 ⟨rfl, E3⟩
  have HE3 := Lib.hid (HE1.out.tr E3)
  clear E3 h3
  go_wp2_with fail
  go_ret2
  exact ⟨rfl, HE3.out⟩
set_option maxHeartbeats 1000000 in
set_option maxRecDepth 100000 in
theorem PMul_n2 (v1 v2 : Value) (k : Int) (w : World) (h1 : VA v1 true w) (h2 : VA v2 false w) (h3 : ∀ W, Ext w W → Calls Tryz.prog 56 #[.func (.func 62) #[] #[], v1, v2] W (RetE k W)) :
    Calls Tryz.prog 25 #[v1, v2] w (RetE k w) := by
  go_enter Tryz.func25, Tryz.ntmps25
  go_wp2_with fail
  refine (h1 _ (Ext.rfl' _)).mono ?_
  rintro e w1 ⟨rfl, E1⟩
  have HE1 := Lib.hid E1
  clear E1
  go_wp2_with fail
  refine (h2 _ HE1.out).mono ?_
  rintro e w2 ⟨rfl, E2⟩
  have HE2 := Lib.hid (HE1.out.tr E2)
  clear E2
  go_wp2_with fail
  refine (h3 _ HE2.out).mono ?_
  rintro e w3 ⟨rfl, E3⟩
  have HE3 := Lib.hid (HE2.out.tr E3)
  clear E3 h3
  go_wp2_with fail
  go_ret2
  exact ⟨rfl, HE3.out⟩
def RetE2 (k : Int) (w : World) (e : Ending) (w' : World) : Prop := e = .returned (.tuple #[.slice none 0 0, .slice none 0 0, .int .i64 k]) ∧ Ext w w'
def DivP0 (p r : Pl) (B : Nat) (w : World) (e : Ending) (w' : World) : Prop := ∃ v1 v2 q t, e = .returned (.tuple #[v1, v2, .int .i64 0]) ∧ DivRel p r q t ∧ (CB t B ∧ PB q B) ∧ PS w' v1 q ∧ PS w' v2 t ∧ Ext w w'
set_option maxHeartbeats 1000000 in
set_option maxRecDepth 100000 in
theorem PDiv_n1 (v1 v2 : Value) (w : World) (h1 : VA v1 false w) :
    Calls Tryz.prog 27 #[v1, v2] w (RetE2 1 w) := by
  go_enter Tryz.func27, Tryz.ntmps27
  go_wp2_with fail
  refine (h1 _ (Ext.rfl' _)).mono ?_
  rintro e w1 ⟨rfl, E1⟩
  have HE1 := Lib.hid E1
  clear E1
  go_wp2_with fail
  go_ret3
  exact ⟨rfl, HE1.out⟩
set_option maxHeartbeats 1000000 in
set_option maxRecDepth 100000 in
theorem PDiv_n2 (v1 v2 : Value) (w : World) (h1 : VA v1 true w) (h2 : VA v2 false w) :
    Calls Tryz.prog 27 #[v1, v2] w (RetE2 1 w) := by
  go_enter Tryz.func27, Tryz.ntmps27
  go_wp2_with fail
  refine (h1 _ (Ext.rfl' _)).mono ?_
  rintro e w1 ⟨rfl, E1⟩
  have HE1 := Lib.hid E1
  clear E1
  go_wp2_with fail
  refine (h2 _ HE1.out).mono ?_
  rintro e w2 ⟨rfl, E2⟩
  have HE2 := Lib.hid (HE1.out.tr E2)
  clear E2
  go_wp2_with fail
  go_ret3
  exact ⟨rfl, HE2.out⟩
set_option maxHeartbeats 1000000 in
set_option maxRecDepth 100000 in
theorem PDiv_zero (v1 : Value) (B : Option Addr) (cb : Nat) (w : World) (h1 : VA v1 true w) (h2 : VA (.slice B 0 cb) true w) :
    Calls Tryz.prog 27 #[v1, .slice B 0 cb] w (RetE2 16 w) := by
  go_enter Tryz.func27, Tryz.ntmps27
  go_wp2_with fail
  refine (h1 _ (Ext.rfl' _)).mono ?_
  rintro e w1 ⟨rfl, E1⟩
  have HE1 := Lib.hid E1
  clear E1
  go_wp2_with fail
  refine (h2 _ HE1.out).mono ?_
  rintro e w2 ⟨rfl, E2⟩
  have HE2 := Lib.hid (HE1.out.tr E2)
  clear E2
  go_wp2_with fail
  go_ret3
  exact ⟨rfl, HE2.out⟩
set_option maxHeartbeats 1000000 in
set_option maxRecDepth 100000 in
theorem PDiv_ok (v1 : Value) (B : Option Addr) (cb rn : Nat) (p r : Pl) (K : Nat) (w : World) (r0 : 0 < rn) (l2 : rn ≤ 100000) (h1 : VA v1 true w) (h2 : VA (.slice B rn cb) true w)
    (h3 : ∀ W, Ext w W → Calls Tryz.prog 64 #[v1, .slice B rn cb] W (DivP p r K W)) :
    Calls Tryz.prog 27 #[v1, .slice B rn cb] w (DivP0 p r K w) := by
  have r0' : ((rn : Int) == 0) = false := by rw [beq_eq_false_iff_ne]; omega
  go_enter Tryz.func27, Tryz.ntmps27
  go_wp2_with fail
  refine (h1 _ (Ext.rfl' _)).mono ?_
  rintro e w1 ⟨rfl, E1⟩
  have HE1 := Lib.hid E1
  clear E1
  go_wp2_with fail
  refine (h2 _ HE1.out).mono ?_
  rintro e w2 ⟨rfl, E2⟩
  have HE2 := Lib.hid (HE1.out.tr E2)
  clear E2
  go_wp2_with fail
  refine (h3 _ HE2.out).mono ?_
  rintro e w3 ⟨v3, v4, q, t, rfl, hd, hb, hq, ht, E3⟩
  have HD := Lib.hid hd
  have HB := Lib.hid hb
  have HQ := Lib.hid hq
  have HT := Lib.hid ht
  have HE3 := Lib.hid (HE2.out.tr E3)
  clear E3 hd hb hq ht h1 h2 h3
  go_wp2_with fail
  go_ret3
  exact ⟨_, _, q, t, rfl, HD.out, HB.out, HQ.out, HT.out, HE3.out⟩
set_option maxHeartbeats 1000000 in
set_option maxRecDepth 100000 in
theorem PMake_big (A : Option Addr) (c n : Nat) (l : List ByteArray) (w : World) (hn : n ≤ 1000000) (hl : 17 < n) (hcl : ∀ W, Ext w W → Calls Tryz.prog 14 #[.slice A n c] W fun e w' => ∃ v, e = .returned v ∧ SlS w' v l ∧ Ext W w')  :
    Calls Tryz.prog 13 #[.slice A n c] w (RetE 8 w) := by
  go_enter Tryz.func13, Tryz.ntmps13
  go_wp2_with fail
  refine (hcl _ (Ext.rfl' _)).mono ?_
  rintro e w1 ⟨v1, rfl, hv1, E1⟩
  have HE1 := Lib.hid E1
  have HV1 := Lib.hid hv1
  clear E1 hv1 hcl
  go_wp2_with fail
  refine (ptrimS_v v1 l _ HV1.out).mono ?_
  rintro e w2 ⟨v2, rfl, hv2, rfl⟩
  have HV2 := Lib.hid hv2
  clear hv2
  go_wp2_with fail
  go_ret2
  exact ⟨rfl, HE1.out⟩
set_option maxHeartbeats 1000000 in
set_option maxRecDepth 100000 in
theorem PMake_no (A : Option Addr) (c n : Nat) (l : List ByteArray) (w : World) (hn : n ≤ 1000000) (hl : n ≤ 17) (hcl : ∀ W, Ext w W → Calls Tryz.prog 14 #[.slice A n c] W fun e w' => ∃ v, e = .returned v ∧ SlS w' v l ∧ Ext W w') (hval : ∀ W v, Ext w W → SlS W v (tzS l) → VA v false W) :
    Calls Tryz.prog 13 #[.slice A n c] w (RetE 1 w) := by
  go_enter Tryz.func13, Tryz.ntmps13
  go_wp2_with fail
  refine (hcl _ (Ext.rfl' _)).mono ?_
  rintro e w1 ⟨v1, rfl, hv1, E1⟩
  have HE1 := Lib.hid E1
  have HV1 := Lib.hid hv1
  clear E1 hv1 hcl
  go_wp2_with fail
  refine (ptrimS_v v1 l _ HV1.out).mono ?_
  rintro e w2 ⟨v2, rfl, hv2, rfl⟩
  have HV2 := Lib.hid hv2
  clear hv2
  go_wp2_with fail
  refine (hval _ _ HE1.out HV2.out _ (Ext.rfl' _)).mono ?_
  rintro e w3 ⟨rfl, E3⟩
  have HE3 := Lib.hid (HE1.out.tr E3)
  have HV3 := Lib.hid (HV2.out.ext E3)
  clear E3 hval
  go_wp2_with fail
  go_ret2
  exact ⟨rfl, HE3.out⟩
set_option maxHeartbeats 1000000 in
set_option maxRecDepth 100000 in
theorem PMake_ok (A : Option Addr) (c n : Nat) (l : List ByteArray) (w : World) (hn : n ≤ 1000000) (hl : n ≤ 17) (hcl : ∀ W, Ext w W → Calls Tryz.prog 14 #[.slice A n c] W fun e w' => ∃ v, e = .returned v ∧ SlS w' v l ∧ Ext W w') (hval : ∀ W v, Ext w W → SlS W v (tzS l) → VA v true W) :
    Calls Tryz.prog 13 #[.slice A n c] w (RetQ0 (fun W v => SlS W v (tzS l)) w) := by
  go_enter Tryz.func13, Tryz.ntmps13
  go_wp2_with fail
  refine (hcl _ (Ext.rfl' _)).mono ?_
  rintro e w1 ⟨v1, rfl, hv1, E1⟩
  have HE1 := Lib.hid E1
  have HV1 := Lib.hid hv1
  clear E1 hv1 hcl
  go_wp2_with fail
  refine (ptrimS_v v1 l _ HV1.out).mono ?_
  rintro e w2 ⟨v2, rfl, hv2, rfl⟩
  have HV2 := Lib.hid hv2
  clear hv2
  go_wp2_with fail
  refine (hval _ _ HE1.out HV2.out _ (Ext.rfl' _)).mono ?_
  rintro e w3 ⟨rfl, E3⟩
  have HE3 := Lib.hid (HE1.out.tr E3)
  have HV3 := Lib.hid (HV2.out.ext E3)
  clear E3 hval
  go_wp2_with fail
  go_ret2
  exact ⟨_, rfl, HV3.out, HE3.out⟩
end Go.Proofs.YtbldlibijojbjaaGreatDoor.GB
