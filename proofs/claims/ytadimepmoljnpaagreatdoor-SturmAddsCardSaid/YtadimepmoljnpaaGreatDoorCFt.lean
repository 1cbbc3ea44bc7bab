import Derived.Test.YtadimepmoljnpaaGreatDoorCFs
import Derived.ChangeSame
namespace Go.Proofs.YtadimepmoljnpaaGreatDoor.GB
set_option linter.unusedVariables false
set_option linter.unusedSimpArgs false
open Go.ChangeShapes Go.WideShapes Go.ChangeAt Go.RowKit Go.Deep
set_option maxRecDepth 100000 in
theorem open_iv {H : Type} {enc : TypeId × Value → H} {W : World} {cs : Array Value} {d : DataW H} {p : List MemPlace} {spare : Nat → Bool} {held : Bool} (h : ∃ fuel, DataW.trod enc Tryz.prog W 0 spare held fuel 26 (Value.agg cs).cells.toList = some (d, p)) : ∃ s t : ByteArray, cs = #[.string s, .string t] ∧ d = .agg [.lit (.string s.data.toList), .lit (.string t.data.toList)] := by
  obtain ⟨fuel, h⟩ := h
  obtain ⟨y0, y1, n, hx, hl, h0, h1⟩ := trod_struct2 Tryz.underlying26 h
  have c44 : Tryz.prog.cellsOf 26 = 2 := by kernel_rfl
  have c30 : Tryz.prog.cellsOf 24 = 1 := by kernel_rfl
  have hcs : (Value.agg cs).cells.toList = cs.toList := rfl
  rw [hcs] at hl h0 h1
  rw [c44] at hl
  obtain ⟨L⟩ := cs
  obtain ⟨a, b, rfl⟩ : ∃ a b, L = [a, b] := by
    have hl' : L.length = 2 := hl
    clear h h0 h1 hl
    rcases L with _ | ⟨a, _ | ⟨b, _ | ⟨c, L⟩⟩⟩
    · cases hl'
    · cases hl'
    · exact ⟨a, b, rfl⟩
    · simp at hl'
  · clear hl h
    have h0' : DataW.trod enc Tryz.prog W 0 spare held n 24 [a] = some y0 := by
      have h2 := h0
      rw [show Tryz.prog.cellsOf _ = 1 from c30] at h2
      exact h2
    have h1' : DataW.trod enc Tryz.prog W 0 spare held n 24 [b] = some y1 := by
      have h2 := h1
      rw [show Tryz.prog.cellsOf _ = 1 from c30] at h2
      exact h2
    obtain ⟨s, e1, e2, -⟩ := DataW.trod_string Tryz.underlying24 h0'
    obtain ⟨t, e3, e4, -⟩ := DataW.trod_string Tryz.underlying24 h1'
    simp only [List.cons.injEq, and_true] at e1 e3
    subst e1 e3 e2 e4
    simp only [Prod.mk.injEq] at hx
    exact ⟨s, t, rfl, hx.1⟩
theorem sized_iv {H : Type} {ts : List TypeId} {ds : List (DataW H)} {j : Nat} {a b : ByteArray} (h : (DataW.weightsEach Tryz.prog ts ds).all (· ≤ reachBytes) = true) (ht : ts[j]? = some 26) (hd : ds[j]? = some (.agg [.lit (.string a.data.toList), .lit (.string b.data.toList)])) : a.size ≤ 140737488351232 ∧ b.size ≤ 140737488351232 := by
  have hm := DataW.weights_mem_each (P := Tryz.prog) ht hd
  have hw : DataW.weights Tryz.prog 26 (.agg [.lit (.string a.data.toList), .lit (.string b.data.toList)] : DataW H) = [a.data.toList.length, b.data.toList.length] := by
    simp [DataW.weights, Tryz.underlying26, DataW.weightsEach]
  rw [hw] at hm
  have h1 := List.all_eq_true.1 h _ (hm a.data.toList.length (by simp))
  have h2 := List.all_eq_true.1 h _ (hm b.data.toList.length (by simp))
  have r : reachBytes = 140737488351232 := by decide
  have e1 : a.data.toList.length = a.size := Array.length_toList
  have e2 : b.data.toList.length = b.size := Array.length_toList
  simp only [decide_eq_true_eq] at h1 h2
  omega
theorem wants_i : Tryz.prog.wantsStandIn 26 = false := by kernel_rfl
end Go.Proofs.YtadimepmoljnpaaGreatDoor.GB
