import Derived.Test.YtadimepmoljnpaaGreatDoorRows
import Derived.Test.YtadimepmoljnpaaGreatDoorCFt
import Derived.Test.YtadimepmoljnpaaGreatDoorMTe
namespace Go.Proofs.YtadimepmoljnpaaGreatDoor.sturmAdds
set_option linter.unusedVariables false
set_option linter.unusedSimpArgs false
open Go.ChangeShapes Go.WideShapes Go.ChangeAt Go.RowKit Go.Proofs.YtadimepmoljnpaaGreatDoor.GB
open Go.ChangeMaps (open_string shut_string)
abbrev args0 : Array Value := #[.slice none 0 0, .agg #[.string ⟨#[]⟩, .string ⟨#[]⟩], .string ⟨#[]⟩]
theorem w_ok (os : Os) : Input.okWideB Tryz.checked.prog ((World.doorLaid Tryz.prog doorSteps os).forCall (fun _ _ => 0) ⟨#[], args0, []⟩) 6 ⟨#[], args0, []⟩ = true := by kernel_rfl
theorem w_pre (os : Os) {H : Type} (enc : TypeId × Value → H) : Rows.sturmAddsSpec.preB enc Tryz.checked.prog Tryz.f6 [] false ((World.doorLaid Tryz.prog doorSteps os).forCall (fun _ _ => 0) ⟨#[], args0, []⟩).memory args0 8 = true := by kernel_rfl
theorem w_size (os : Os) {H : Type} (enc : TypeId × Value → H) : Rows.sturmAddsSpec.sizedB enc Tryz.checked.prog Tryz.f6 false ((World.doorLaid Tryz.prog doorSteps os).forCall (fun _ _ => 0) ⟨#[], args0, []⟩).memory args0 8 = true := by kernel_rfl
set_option maxRecDepth 100000 in
theorem lifted (os : Os) (started : os.Started) (H : Type) (enc : TypeId × Value → H) :
    ReturnsInHanded {} Tryz.checked os 6 .any (fun w args => (Rows.sturmAddsSpec.pre enc Tryz.prog Tryz.f6 [] false w args ∧ laidMetH Tryz.prog Rows.sturmAddsRow.laid w) ∧ sizedMet enc Tryz.prog Tryz.f6 (OpenSpec.ofChange Rows.sturmAddsSpec) false w args)
      (Rows.sturmAddsSpec.post enc Tryz.prog Tryz.f6 false true false false) := by
  refine returnsInHanded_of_change_and (C := Tryz.checked) (X := fun w _ => laidMetH Tryz.prog Rows.sturmAddsRow.laid w) (fun _ _ _ hh h => h.of_heap hh) own started (by kernel_rfl) Tryz.func6
    (ChangeSpec.witness_shaped (enc := enc) (C := Tryz.checked) (os := os) (X := fun w _ => laidMetH Tryz.prog Rows.sturmAddsRow.laid w) false (World.doorLaid Tryz.prog doorSteps os) args0 8 (door_os os) (door_shaped os _) (w_ok os) (w_pre os enc) (w_size os enc) (door_met os _)) ?_
  intro W base args ds gs before hval0 hW _ hsz0 hL _
  have hval : ∀ (j : Nat) t v, Tryz.f6.params[j]? = some t → args[j]? = some v → Value.okWide Tryz.prog W .any base t v := hval0
  have hsz : (DataW.weightsEach Tryz.prog (Tryz.f6.params.toList ++ Rows.sturmAddsSpec.plain.varTypes Tryz.prog) (ds ++ gs)).all (· ≤ reachBytes) = true := hsz0
  have hW' := hW
  obtain ⟨p, q, hA0, hV, rfl, hfz, hnd⟩ := hW
  have hA : DataW.TrodAll enc Tryz.prog W 0 (fun _ => true) true Tryz.f6.params.toList args.toList ds p := hA0
  rw [Tryz.params6] at hA hval hsz
  obtain ⟨v0, vs0, d0, ds0, p0, q0, hargs, rfl, rfl, h0, r0⟩ := trodAll_cons hA
  obtain ⟨v1, vs1, d1, ds1, p1, q1, rfl, rfl, rfl, h1, r1⟩ := trodAll_cons r0
  obtain ⟨v2, vs2, d2, ds2, p2, q2, rfl, rfl, rfl, h2, r2⟩ := trodAll_cons r1
  obtain ⟨rfl, rfl, rfl⟩ := trodAll_nil r2
  obtain rfl : args = #[v0, v1, v2] := by cases args; simp_all
  obtain ⟨rfl, rfl⟩ := trodVars_none hV
  obtain ⟨a0, len0, cap0, rfl⟩ := okWide_slice Tryz.underlying23 (hval 0 23 v0 rfl rfl)
  have k0 := h0
  have lt0 : ∀ x ∈ p0, x.block < W.heap.size := by obtain ⟨m, hm⟩ := k0; exact DataW.trod_lt m _ _ _ hm
  obtain ⟨l0, w0⟩ := open_textsp h0
  obtain ⟨cs1, rfl, -⟩ := okWide_struct Tryz.underlying26 (hval 1 26 v1 rfl rfl)
  have k1 := h1
  have lt1 : ∀ x ∈ p1, x.block < W.heap.size := by obtain ⟨m, hm⟩ := k1; exact DataW.trod_lt m _ _ _ hm
  obtain ⟨s1, t1, rfl, rfl⟩ := open_iv h1
  obtain ⟨x1, y1⟩ := sized_iv hsz (j := 1) rfl rfl
  obtain ⟨a2, rfl, rfl, rfl, y2⟩ := open_string Tryz.underlying24 (hval 2 24 v2 rfl rfl) h2
  clear hA0 hval0 hsz0 hsz
  refine (adds_v _ l0 s1 t1 a2  W (wd_of_laid hL) w0 x1 y1).mono fun e W' ⟨he, bel⟩ => ?_
  subst he
  exact ⟨_, rfl, _, _, _, [], _, [], hW', trodAll_mk1 (shut_bool Tryz.underlying4 _), (trodAll_cons_mk (Below.trod laidOut (by kernel_rfl) (of_decide_eq_true (by kernel_rfl)) k0 bel lt0) (trodAll_cons_mk (Below.trod laidOut (by kernel_rfl) (of_decide_eq_true (by kernel_rfl)) k1 bel lt1) (trodAll_cons_mk (shut_string Tryz.underlying24 y2) trodAll_mk0))), rfl, bel.frame _, fun h => by cases h⟩
theorem over : Rows.sturmAddsRow.holds Tryz.pinned (OpenSpec.ofChange Rows.sturmAddsSpec) :=
  OpenClaim.holds_of_wide 6 Tryz.f6 rfl rfl rfl rfl rfl rfl rfl ⟨rfl, rfl, rfl, rfl, rfl⟩ rfl rfl rfl rfl rfl (by kernel_rfl) Tryz.func6 (by kernel_rfl)
    (of_decide_eq_true (by kernel_rfl)) (by unfold Func.isWrapper; first | (rw [if_pos (by decide +kernel)]; kernel_rfl) | (rw [if_neg (by decide +kernel)]; exact ⟨rfl, rfl⟩))
    (fun os started H enc _ => lifted os started H enc)
end Go.Proofs.YtadimepmoljnpaaGreatDoor.sturmAdds
