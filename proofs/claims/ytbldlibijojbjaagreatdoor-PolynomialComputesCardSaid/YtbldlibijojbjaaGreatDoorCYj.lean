import Derived.Test.YtbldlibijojbjaaGreatDoorMYg
namespace Go.Proofs.YtbldlibijojbjaaGreatDoor.GB
set_option linter.unusedVariables false
set_option linter.unusedSimpArgs false
open Go.RowKit Go.Shelf
attribute [local go_sem ↓] Go.wp_at_zero Go.wp_at_succ
theorem PB.ptrim {p : Pl} {n : Nat} (h : PB p n) : PB (GB.ptrim p) n := PB.trim fun j => h.cf j
/-- What From answers. -/
def FromR (l : List ByteArray) (w : World) (e : Ending) (w' : World) : Prop := ∃ v, e = .returned (.tuple #[v, .bool (polB l)]) ∧ (polB l = true → ∃ p, l = p.map rb ∧ Tr p ∧ p.length ≤ 17 ∧ PQ w' v p) ∧ Ext w w'
theorem rb_inj {p q : Pl} (h : p.map rb = q.map rb) : p = q := by
  induction p generalizing q with
  | nil => cases q with
    | nil => rfl
    | cons a q => simp at h
  | cons a p ih => cases q with
    | nil => simp at h
    | cons b q =>
      simp only [List.map_cons, List.cons.injEq] at h
      have h1 : rtext a = rtext b := by
        have := congrArg (fun s : ByteArray => s.data.toList) h.1
        simpa [rb] using this
      rw [rtext_inj h1, ih h.2]
theorem ptrim_lt {p : Pl} (h : ¬ Tr p) : (ptrim p).length < p.length := by
  have hne : p ≠ [] := by intro e; subst e; exact h tr_nil
  have hpos := List.length_pos_iff.2 hne
  have h0 : cf p (p.length - 1) = 0 := by
    unfold Tr at h
    have h1 : p.getLast? = some 0 := by simpa using h
    rw [List.getLast?_eq_getElem?] at h1
    simp only [cf, List.getD_eq_getElem?_getD, h1]; rfl
  have h2 := ptrim_take (p := p) (k := p.length - 1) (by omega) h0
  rw [show p.length - 1 + 1 = p.length by omega, List.take_length] at h2
  rw [h2]
  have := ptrim_len (p.take (p.length - 1))
  rw [List.length_take] at this
  omega
theorem pol_rat {l : List ByteArray} (h : ∃ s ∈ l, ratB s.data.toList = false) : polB l = false := by
  cases hb : polB l
  · rfl
  · obtain ⟨p, rfl, -, -⟩ := (polB_iff l).1 hb
    obtain ⟨s, hs, h2⟩ := h
    obtain ⟨q, -, rfl⟩ := List.mem_map.1 hs
    rw [ratB_of ⟨q, by simp [rb]⟩] at h2
    cases h2
set_option maxHeartbeats 2000000 in
set_option maxRecDepth 100000 in
theorem q8From_any (A : Option Addr) (c ln : Nat) (l : List ByteArray) (w : World) (M L : Nat) (HLN : Hid (l.length = ln)) (hl : ln ≤ 1000) (hr : RdS w A l) (hs : ∀ s ∈ l, s.size ≤ L) (hL : L ≤ 1000000) (hOv : OverC M w) (hM : (wds M).length ≤ 1099511627776) (hMs : 10 ^ L ≤ M) :
    Calls Tryz.prog 53 #[.slice A ln c] w (FromR l w) := by
  have hnum := numbers_any A c ln l w M L HLN hl hr hs hL hOv hM hMs
  have HNum := Lib.hid hnum
  clear hr hs hOv hM hMs hnum
  go_enter Tryz.func53, Tryz.ntmps53
  go_wp2_with fail
  refine HNum.out.mono ?_
  rintro e w1 (⟨v, p, rfl, hv, hp, hE⟩ | ⟨rfl, hbad, hE⟩)
  · have HE := Lib.hid hE
    have HP := Lib.hid hp
    have hlp : p.length = ln := by have h1 : l.length = ln := HLN.out; rw [hp, List.length_map] at h1; exact h1
    have HLP := Lib.hid hlp
    by_cases h17 : ln ≤ 17
    · have z : (ln : Int) ≤ 17 := by omega
      have ht := q8trim_any v p w1 hv (by omega)
      have HT := Lib.hid ht
      have HV := Lib.hid hv
      clear hE hp hv hlp ht
      go_wp2_with fail
      refine HT.out.mono ?_
      rintro e w2 ⟨v2, rfl, hv2, hE⟩
      have HE2 := Lib.hid (HE.out.tr hE)
      have HV2 := Lib.hid (HV.out.ext hE)
      obtain ⟨A2, c2, rfl⟩ := hv2.slc
      obtain ⟨tl, htl⟩ : ∃ tl, (ptrim p).length = tl := ⟨_, rfl⟩
      have HTL := Lib.hid htl
      rw [htl]
      clear hE hv2 htl
      by_cases ht : Tr p
      · have hpb : polB l = true := (polB_iff l).2 ⟨p, HP.out, ht, by have h : p.length = ln := HLP.out; omega⟩
        have z2 : ((tl : Int) == (ln : Int)) = true := by
          have h1 : (ptrim p).length = tl := HTL.out
          rw [ptrim_tr ht] at h1
          have h2 : p.length = ln := HLP.out
          rw [beq_iff_eq]; omega
        have HPB := Lib.hid hpb
        have HTr := Lib.hid ht
        clear hpb ht
        go_wp2_with fail
        go_ret2
        exact ⟨v, by rw [HPB.out]; rfl, fun _ => ⟨p, HP.out, HTr.out, by have h : p.length = ln := HLP.out; omega, HV2.out⟩, HE2.out⟩
      · have hpb : polB l = false := by
          cases hb : polB l
          · rfl
          · obtain ⟨p', e, t, -⟩ := (polB_iff l).1 hb
            rw [HP.out] at e
            rw [rb_inj e] at ht
            exact absurd t ht
        have z2 : ((tl : Int) == (ln : Int)) = false := by
          have h1 : (ptrim p).length = tl := HTL.out
          have h3 := ptrim_lt ht
          have h2 : p.length = ln := HLP.out
          rw [beq_eq_false_iff_ne]; omega
        have HPB := Lib.hid hpb
        clear hpb ht
        go_wp2_with fail
        go_ret2
        exact ⟨v, by rw [HPB.out]; rfl, (fun h => by rw [HPB.out] at h; cases h), HE2.out⟩
    · have z : ¬ (ln : Int) ≤ 17 := by omega
      have hpb : polB l = false := by
        cases hb : polB l
        · rfl
        · obtain ⟨p', e, -, h⟩ := (polB_iff l).1 hb
          have h1 : l.length = ln := HLN.out
          rw [e, List.length_map] at h1
          omega
      have HPB := Lib.hid hpb
      clear hpb hE hp hv hlp
      go_wp2_with fail
      go_ret2
      exact ⟨v, by rw [HPB.out]; rfl, (fun h => by rw [HPB.out] at h; cases h), HE.out⟩
  · have HE := Lib.hid hE
    have HPB := Lib.hid (pol_rat hbad)
    clear hE hbad
    go_wp2_with fail
    go_ret2
    exact ⟨_, by rw [HPB.out]; rfl, (fun h => by rw [HPB.out] at h; cases h), HE.out⟩
end Go.Proofs.YtbldlibijojbjaaGreatDoor.GB
