import Derived.Test.YtbldlibijojbjaaGreatDoorCEn
import Derived.Test.YtbldlibijojbjaaGreatDoorMPy
namespace Go.Proofs.YtbldlibijojbjaaGreatDoor.GB
set_option linter.unusedVariables false
set_option linter.unusedSimpArgs false
open Go.RowKit Go.Shelf
attribute [local go_sem] Oper.semAt_some
/-- rational.Valid hands back a bool. -/
def RVA (v : Value) (b : Bool) (w : World) : Prop := ∀ W, Ext w W → Calls Tryz.prog 41 #[v] W fun e w' => e = .returned (.bool b) ∧ Ext W w'
/-- interval.Valid hands back a bool. -/
def IVA (v : Value) (b : Bool) (w : World) : Prop := ∀ W, Ext w W → Calls Tryz.prog 79 #[v] W fun e w' => e = .returned (.bool b) ∧ Ext W w'
theorem RVA.ext {v : Value} {b : Bool} {w w' : World} (h : RVA v b w) (hE : Ext w w') : RVA v b w' := fun W hW => h W (hE.tr hW)
theorem IVA.ext {v : Value} {b : Bool} {w w' : World} (h : IVA v b w) (hE : Ext w w') : IVA v b w' := fun W hW => h W (hE.tr hW)
/-- The empty text and an error. -/
def RetT (k : Int) (w : World) (e : Ending) (w' : World) : Prop := e = .returned (.tuple #[.string ⟨#[]⟩, .int .i64 k]) ∧ Ext w w'
def RetIv (k : Int) (w : World) (e : Ending) (w' : World) : Prop := e = .returned (.tuple #[.agg #[.string ⟨#[]⟩, .string ⟨#[]⟩], .int .i64 k]) ∧ Ext w w'
set_option maxHeartbeats 1000000 in
set_option maxRecDepth 100000 in
theorem eval_n1 (v : Value) (x : ByteArray) (w : World) (hv : VA v false w) :
    Calls Tryz.prog 31 #[v, .string x] w (RetT 1 w) := by
  refine (callsIn_wide (n := 5)).1 ?_
  refine callsIn_of_wp_marks Tryz.func31 rfl trivial ?_ rfl
  simp only [Tryz.ntmps31, List.size_toArray, List.length_cons, List.length_nil, Nat.reduceAdd, Nat.reduceSub, Array.replicate_succ, Array.replicate_zero, List.push_toArray, List.append_toArray, List.nil_append, List.cons_append]
  have E0 := (Ext.rfl' w).al (.cells #[.string x] 30)
  have b3 := Boxed.new w 30 (.string x)
  gi_wp2
  generalize w.alloc (.cells #[.string x] 30) = W0 at *
  refine ⟨trivial, ?_⟩
  refine (callsIn_wide.2 (hv _ E0)).mono ?_
  rintro e w1 ⟨rfl, hE1⟩
  replace b3 := b3.kept (ext_grown hE1) (by simp)
  have E1 := E0.tr hE1
  have hc3 := b3.cell
  clear hE1 E0
  gi_wp2
  refine ⟨trivial, ?_⟩
  gi_wp2
  exact ⟨_, results_tmp2 rfl _ _ _, rfl, E1⟩
set_option maxHeartbeats 1000000 in
set_option maxRecDepth 100000 in
theorem eval_n2 (v : Value) (x : ByteArray) (w : World) (hv : VA v true w) (hx : RVA (.string x) false w) :
    Calls Tryz.prog 31 #[v, .string x] w (RetT 1 w) := by
  refine (callsIn_wide (n := 5)).1 ?_
  refine callsIn_of_wp_marks Tryz.func31 rfl trivial ?_ rfl
  simp only [Tryz.ntmps31, List.size_toArray, List.length_cons, List.length_nil, Nat.reduceAdd, Nat.reduceSub, Array.replicate_succ, Array.replicate_zero, List.push_toArray, List.append_toArray, List.nil_append, List.cons_append]
  have E0 := (Ext.rfl' w).al (.cells #[.string x] 30)
  have b3 := Boxed.new w 30 (.string x)
  gi_wp2
  generalize w.alloc (.cells #[.string x] 30) = W0 at *
  refine ⟨trivial, ?_⟩
  refine (callsIn_wide.2 (hv _ E0)).mono ?_
  rintro e w1 ⟨rfl, hE1⟩
  replace b3 := b3.kept (ext_grown hE1) (by simp)
  have E1 := E0.tr hE1
  have hc3 := b3.cell
  clear hE1 E0
  gi_wp2
  refine ⟨trivial, ?_⟩
  refine (callsIn_wide.2 (hx _ E1)).mono ?_
  rintro e w2 ⟨rfl, hE2⟩
  replace b3 := b3.kept (ext_grown hE2) (by simp)
  have E2 := E1.tr hE2
  clear hE2 E1 hc3
  gi_wp2
  exact ⟨_, results_tmp2 rfl _ _ _, rfl, E2⟩
set_option maxHeartbeats 1000000 in
set_option maxRecDepth 100000 in
theorem shift_n1 (v : Value) (x : ByteArray) (w : World) (hv : VA v false w) :
    Calls Tryz.prog 37 #[v, .string x] w (RetE 1 w) := by
  refine (callsIn_wide (n := 5)).1 ?_
  refine callsIn_of_wp_marks Tryz.func37 rfl trivial ?_ rfl
  simp only [Tryz.ntmps37, List.size_toArray, List.length_cons, List.length_nil, Nat.reduceAdd, Nat.reduceSub, Array.replicate_succ, Array.replicate_zero, List.push_toArray, List.append_toArray, List.nil_append, List.cons_append]
  have E0 := (Ext.rfl' w).al (.cells #[.string x] 30)
  have b3 := Boxed.new w 30 (.string x)
  gi_wp2
  generalize w.alloc (.cells #[.string x] 30) = W0 at *
  refine ⟨trivial, ?_⟩
  refine (callsIn_wide.2 (hv _ E0)).mono ?_
  rintro e w1 ⟨rfl, hE1⟩
  replace b3 := b3.kept (ext_grown hE1) (by simp)
  have E1 := E0.tr hE1
  have hc3 := b3.cell
  clear hE1 E0
  gi_wp2
  refine ⟨trivial, ?_⟩
  gi_wp2
  exact ⟨_, results_tmp2 rfl _ _ _, rfl, E1⟩
set_option maxHeartbeats 1000000 in
set_option maxRecDepth 100000 in
theorem shift_n2 (v : Value) (x : ByteArray) (w : World) (hv : VA v true w) (hx : RVA (.string x) false w) :
    Calls Tryz.prog 37 #[v, .string x] w (RetE 1 w) := by
  refine (callsIn_wide (n := 5)).1 ?_
  refine callsIn_of_wp_marks Tryz.func37 rfl trivial ?_ rfl
  simp only [Tryz.ntmps37, List.size_toArray, List.length_cons, List.length_nil, Nat.reduceAdd, Nat.reduceSub, Array.replicate_succ, Array.replicate_zero, List.push_toArray, List.append_toArray, List.nil_append, List.cons_append]
  have E0 := (Ext.rfl' w).al (.cells #[.string x] 30)
  have b3 := Boxed.new w 30 (.string x)
  gi_wp2
  generalize w.alloc (.cells #[.string x] 30) = W0 at *
  refine ⟨trivial, ?_⟩
  refine (callsIn_wide.2 (hv _ E0)).mono ?_
  rintro e w1 ⟨rfl, hE1⟩
  replace b3 := b3.kept (ext_grown hE1) (by simp)
  have E1 := E0.tr hE1
  have hc3 := b3.cell
  clear hE1 E0
  gi_wp2
  refine ⟨trivial, ?_⟩
  refine (callsIn_wide.2 (hx _ E1)).mono ?_
  rintro e w2 ⟨rfl, hE2⟩
  replace b3 := b3.kept (ext_grown hE2) (by simp)
  have E2 := E1.tr hE2
  clear hE2 E1 hc3
  gi_wp2
  exact ⟨_, results_tmp2 rfl _ _ _, rfl, E2⟩
set_option maxHeartbeats 1000000 in
set_option maxRecDepth 100000 in
theorem enclose_n1 (v : Value) (x y : ByteArray) (w : World) (hv : VA v false w) :
    Calls Tryz.prog 39 #[v, .agg #[.string x, .string y]] w (RetIv 1 w) := by
  refine (callsIn_wide (n := 5)).1 ?_
  refine callsIn_of_wp_marks Tryz.func39 rfl trivial ?_ rfl
  simp only [Tryz.ntmps39, List.size_toArray, List.length_cons, List.length_nil, Nat.reduceAdd, Nat.reduceSub, Array.replicate_succ, Array.replicate_zero, List.push_toArray, List.append_toArray, List.nil_append, List.cons_append]
  obtain ⟨b3, b4, E0⟩ := boxes2 w #[.string x, .string y] #[.string ⟨#[]⟩, .string ⟨#[]⟩] 44
  gi_wp2
  generalize (w.alloc (.cells #[.string x, .string y] 44)).alloc (.cells #[.string ⟨#[]⟩, .string ⟨#[]⟩] 44) = W0 at *
  refine ⟨trivial, ?_⟩
  refine (callsIn_wide.2 (hv _ E0)).mono ?_
  rintro e w1 ⟨rfl, hE1⟩
  replace b3 := b3.ext hE1
  replace b4 := b4.ext hE1
  have E1 := E0.tr hE1
  obtain ⟨c30, c31, -, -⟩ := b3.e2
  clear hE1 E0
  obtain ⟨c40, c41, f40, f41⟩ := b4.e2
  gi_wp2
  refine ⟨trivial, ?_⟩
  gi_wp2
  obtain ⟨m0, m1, -, -⟩ := ((b4.put0 (.string ⟨#[]⟩)).put1 (.string ⟨#[]⟩)).e2
  refine ⟨.tuple #[.agg #[.string ⟨#[]⟩, .string ⟨#[]⟩], .int .i64 1], ?_, rfl, ?_⟩
  · simp [results, Tryz.f39, go_sem, m0, m1]
  · exact (E1.setCell (p := ⟨w.heap.size + 1, 0, none⟩) (by show w.heap.size ≤ w.heap.size + 1; omega) _).setCell (p := ⟨w.heap.size + 1, 1, none⟩) (by show w.heap.size ≤ w.heap.size + 1; omega) _
set_option maxHeartbeats 1000000 in
set_option maxRecDepth 100000 in
theorem enclose_n2 (v : Value) (x y : ByteArray) (w : World) (hv : VA v true w) (hx : IVA (.agg #[.string x, .string y]) false w) :
    Calls Tryz.prog 39 #[v, .agg #[.string x, .string y]] w (RetIv 1 w) := by
  refine (callsIn_wide (n := 5)).1 ?_
  refine callsIn_of_wp_marks Tryz.func39 rfl trivial ?_ rfl
  simp only [Tryz.ntmps39, List.size_toArray, List.length_cons, List.length_nil, Nat.reduceAdd, Nat.reduceSub, Array.replicate_succ, Array.replicate_zero, List.push_toArray, List.append_toArray, List.nil_append, List.cons_append]
  obtain ⟨b3, b4, E0⟩ := boxes2 w #[.string x, .string y] #[.string ⟨#[]⟩, .string ⟨#[]⟩] 44
  gi_wp2
  generalize (w.alloc (.cells #[.string x, .string y] 44)).alloc (.cells #[.string ⟨#[]⟩, .string ⟨#[]⟩] 44) = W0 at *
  refine ⟨trivial, ?_⟩
  refine (callsIn_wide.2 (hv _ E0)).mono ?_
  rintro e w1 ⟨rfl, hE1⟩
  replace b3 := b3.ext hE1
  replace b4 := b4.ext hE1
  have E1 := E0.tr hE1
  obtain ⟨c30, c31, -, -⟩ := b3.e2
  clear hE1 E0
  gi_wp2
  refine ⟨trivial, ?_⟩
  refine (callsIn_wide.2 (hx _ E1)).mono ?_
  rintro e w2 ⟨rfl, hE2⟩
  replace b3 := b3.ext hE2
  replace b4 := b4.ext hE2
  have E2 := E1.tr hE2
  obtain ⟨c40, c41, f40, f41⟩ := b4.e2
  clear hE2 E1 c30 c31
  gi_wp2
  obtain ⟨m0, m1, -, -⟩ := ((b4.put0 (.string ⟨#[]⟩)).put1 (.string ⟨#[]⟩)).e2
  refine ⟨.tuple #[.agg #[.string ⟨#[]⟩, .string ⟨#[]⟩], .int .i64 1], ?_, rfl, ?_⟩
  · simp [results, Tryz.f39, go_sem, m0, m1]
  · exact (E2.setCell (p := ⟨w.heap.size + 1, 0, none⟩) (by show w.heap.size ≤ w.heap.size + 1; omega) _).setCell (p := ⟨w.heap.size + 1, 1, none⟩) (by show w.heap.size ≤ w.heap.size + 1; omega) _
end Go.Proofs.YtbldlibijojbjaaGreatDoor.GB
