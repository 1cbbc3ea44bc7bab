import Derived.Test.YtbldlibijojbjaaGreatDoorCBb
import Derived.Test.YtbldlibijojbjaaGreatDoorMIg
import Derived.Deep.RegionHeld3
namespace Go.Proofs.YtbldlibijojbjaaGreatDoor.GB
set_option linter.unusedVariables false
set_option linter.unusedSimpArgs false
open Go.RowKit Go.Shelf
attribute [local go_sem ↓] Go.wp_at_zero Go.wp_at_succ
attribute [local go_sem] Oper.semAt_some
theorem field_hi (x y : ByteArray) (w : World) : Sem.run Tryz.prog (Instr.field 44 (Value.agg #[.string x, .string y]) 1) w = .ok (.string y) w := by kernel_rfl
theorem field_lo (x y : ByteArray) (w : World) : Sem.run Tryz.prog (Instr.field 44 (Value.agg #[.string x, .string y]) 0) w = .ok (.string x) w := by kernel_rfl
attribute [local go_sem] field_hi field_lo
/-- less hands back a bool. -/
def LSS (x y : Value) (b : Bool) (w : World) : Prop := ∀ W, Ext w W → Calls Tryz.prog 87 #[x, y] W fun e w' => e = .returned (.bool b) ∧ Ext W w'
theorem LSS.ext {x y : Value} {b : Bool} {w w' : World} (h : LSS x y b w) (hE : Ext w w') : LSS x y b w' := fun W hW => h W (hE.tr hW)
set_option maxHeartbeats 4000000 in
set_option maxRecDepth 100000 in
theorem has_x (s t x : ByteArray) (w : World) (hv : IVA (.agg #[.string s, .string t]) true w) (hx : RVA (.string x) false w) : Calls Tryz.prog 45 #[.agg #[.string s, .string t], .string x] w fun e w' => e = .returned (.bool false) ∧ Ext w w' := by
  have b3 := Bx.new w #[.string s, .string t] 44
  have E0 := (Ext.rfl' w).al (.cells #[.string s, .string t] 44)
  obtain ⟨c0, c1, -, -⟩ := b3.e2
  go_enter Tryz.func45, Tryz.ntmps45
  go_wp2_with fail
  generalize w.alloc (.cells #[.string s, .string t] 44) = W0 at *
  refine (hv _ E0).mono ?_
  rintro e w1 ⟨rfl, hE⟩
  replace b3 := b3.ext hE
  have E1 := E0.tr hE
  clear hE c0 c1
  obtain ⟨c0, c1, -, -⟩ := b3.e2
  go_wp2_with fail
  refine (hx _ E1).mono ?_
  rintro e w2 ⟨rfl, hE⟩
  replace b3 := b3.ext hE
  have E2 := E1.tr hE
  clear hE c0 c1
  obtain ⟨c0, c1, -, -⟩ := b3.e2
  go_wp2_with fail
  go_ret
  exact ⟨rfl, E2⟩
set_option maxHeartbeats 4000000 in
set_option maxRecDepth 100000 in
theorem has_lo (s t x : ByteArray) (w : World) (hv : IVA (.agg #[.string s, .string t]) true w) (hx : RVA (.string x) true w) (h1 : LSS (.string x) (.string s) true w) : Calls Tryz.prog 45 #[.agg #[.string s, .string t], .string x] w fun e w' => e = .returned (.bool false) ∧ Ext w w' := by
  have b3 := Bx.new w #[.string s, .string t] 44
  have E0 := (Ext.rfl' w).al (.cells #[.string s, .string t] 44)
  obtain ⟨c0, c1, -, -⟩ := b3.e2
  go_enter Tryz.func45, Tryz.ntmps45
  go_wp2_with fail
  generalize w.alloc (.cells #[.string s, .string t] 44) = W0 at *
  refine (hv _ E0).mono ?_
  rintro e w1 ⟨rfl, hE⟩
  replace b3 := b3.ext hE
  have E1 := E0.tr hE
  clear hE c0 c1
  obtain ⟨c0, c1, -, -⟩ := b3.e2
  go_wp2_with fail
  refine (hx _ E1).mono ?_
  rintro e w2 ⟨rfl, hE⟩
  replace b3 := b3.ext hE
  have E2 := E1.tr hE
  clear hE c0 c1
  obtain ⟨c0, c1, -, -⟩ := b3.e2
  go_wp2_with fail
  refine (h1 _ E2).mono ?_
  rintro e w3 ⟨rfl, hE⟩
  replace b3 := b3.ext hE
  have E3 := E2.tr hE
  clear hE c0 c1
  obtain ⟨c0, c1, -, -⟩ := b3.e2
  go_wp2_with fail
  go_ret
  exact ⟨rfl, E3⟩
set_option maxHeartbeats 4000000 in
set_option maxRecDepth 100000 in
theorem has_hi (s t x : ByteArray) (w : World) (hv : IVA (.agg #[.string s, .string t]) true w) (hx : RVA (.string x) true w) (h1 : LSS (.string x) (.string s) false w) (h2 : LSS (.string t) (.string x) true w) : Calls Tryz.prog 45 #[.agg #[.string s, .string t], .string x] w fun e w' => e = .returned (.bool false) ∧ Ext w w' := by
  have b3 := Bx.new w #[.string s, .string t] 44
  have E0 := (Ext.rfl' w).al (.cells #[.string s, .string t] 44)
  obtain ⟨c0, c1, -, -⟩ := b3.e2
  go_enter Tryz.func45, Tryz.ntmps45
  go_wp2_with fail
  generalize w.alloc (.cells #[.string s, .string t] 44) = W0 at *
  refine (hv _ E0).mono ?_
  rintro e w1 ⟨rfl, hE⟩
  replace b3 := b3.ext hE
  have E1 := E0.tr hE
  clear hE c0 c1
  obtain ⟨c0, c1, -, -⟩ := b3.e2
  go_wp2_with fail
  refine (hx _ E1).mono ?_
  rintro e w2 ⟨rfl, hE⟩
  replace b3 := b3.ext hE
  have E2 := E1.tr hE
  clear hE c0 c1
  obtain ⟨c0, c1, -, -⟩ := b3.e2
  go_wp2_with fail
  refine (h1 _ E2).mono ?_
  rintro e w3 ⟨rfl, hE⟩
  replace b3 := b3.ext hE
  have E3 := E2.tr hE
  clear hE c0 c1
  obtain ⟨c0, c1, -, -⟩ := b3.e2
  go_wp2_with fail
  refine (h2 _ E3).mono ?_
  rintro e w4 ⟨rfl, hE⟩
  replace b3 := b3.ext hE
  have E4 := E3.tr hE
  clear hE c0 c1
  obtain ⟨c0, c1, -, -⟩ := b3.e2
  go_wp2_with fail
  go_ret
  exact ⟨rfl, E4⟩
set_option maxHeartbeats 4000000 in
set_option maxRecDepth 100000 in
theorem has_in (s t x : ByteArray) (w : World) (hv : IVA (.agg #[.string s, .string t]) true w) (hx : RVA (.string x) true w) (h1 : LSS (.string x) (.string s) false w) (h2 : LSS (.string t) (.string x) false w) : Calls Tryz.prog 45 #[.agg #[.string s, .string t], .string x] w fun e w' => e = .returned (.bool true) ∧ Ext w w' := by
  have b3 := Bx.new w #[.string s, .string t] 44
  have E0 := (Ext.rfl' w).al (.cells #[.string s, .string t] 44)
  obtain ⟨c0, c1, -, -⟩ := b3.e2
  go_enter Tryz.func45, Tryz.ntmps45
  go_wp2_with fail
  generalize w.alloc (.cells #[.string s, .string t] 44) = W0 at *
  refine (hv _ E0).mono ?_
  rintro e w1 ⟨rfl, hE⟩
  replace b3 := b3.ext hE
  have E1 := E0.tr hE
  clear hE c0 c1
  obtain ⟨c0, c1, -, -⟩ := b3.e2
  go_wp2_with fail
  refine (hx _ E1).mono ?_
  rintro e w2 ⟨rfl, hE⟩
  replace b3 := b3.ext hE
  have E2 := E1.tr hE
  clear hE c0 c1
  obtain ⟨c0, c1, -, -⟩ := b3.e2
  go_wp2_with fail
  refine (h1 _ E2).mono ?_
  rintro e w3 ⟨rfl, hE⟩
  replace b3 := b3.ext hE
  have E3 := E2.tr hE
  clear hE c0 c1
  obtain ⟨c0, c1, -, -⟩ := b3.e2
  go_wp2_with fail
  refine (h2 _ E3).mono ?_
  rintro e w4 ⟨rfl, hE⟩
  replace b3 := b3.ext hE
  have E4 := E3.tr hE
  clear hE c0 c1
  obtain ⟨c0, c1, -, -⟩ := b3.e2
  go_wp2_with fail
  go_ret
  exact ⟨rfl, E4⟩
set_option maxHeartbeats 4000000 in
set_option maxRecDepth 100000 in
theorem meet_no2 (s t u v : ByteArray) (w : World) (h1 : IVA (.agg #[.string s, .string t]) true w) (h2 : IVA (.agg #[.string u, .string v]) false w) : Calls Tryz.prog 46 #[.agg #[.string s, .string t], .agg #[.string u, .string v]] w fun e w' => e = .returned (.tuple #[.agg #[.string ⟨#[]⟩, .string ⟨#[]⟩], .bool false]) ∧ Ext w w' := by
  obtain ⟨b2, b3, b4, E0⟩ := boxes3 w #[.string s, .string t] #[.string u, .string v] #[.string ⟨#[]⟩, .string ⟨#[]⟩] 44
  obtain ⟨c0, c1, -, -⟩ := b2.e2
  obtain ⟨d0, d1, -, -⟩ := b3.e2
  obtain ⟨e0, e1, f0, f1⟩ := b4.e2
  go_enter Tryz.func46, Tryz.ntmps46
  go_wp2_with fail
  generalize ((w.alloc (.cells #[.string s, .string t] 44)).alloc (.cells #[.string u, .string v] 44)).alloc (.cells #[.string ⟨#[]⟩, .string ⟨#[]⟩] 44) = W0 at *
  refine (h1 _ E0).mono ?_
  rintro e w1 ⟨rfl, hE⟩
  replace b2 := b2.ext hE
  replace b3 := b3.ext hE
  replace b4 := b4.ext hE
  have E1 := E0.tr hE
  clear hE c0 c1 d0 d1 e0 e1 f0 f1
  obtain ⟨c0, c1, -, -⟩ := b2.e2
  obtain ⟨d0, d1, -, -⟩ := b3.e2
  obtain ⟨e0, e1, f0, f1⟩ := b4.e2
  go_wp2_with fail
  refine (h2 _ E1).mono ?_
  rintro e w2 ⟨rfl, hE⟩
  replace b2 := b2.ext hE
  replace b3 := b3.ext hE
  replace b4 := b4.ext hE
  have E2 := E1.tr hE
  clear hE c0 c1 d0 d1 e0 e1 f0 f1
  obtain ⟨c0, c1, -, -⟩ := b2.e2
  obtain ⟨d0, d1, -, -⟩ := b3.e2
  obtain ⟨e0, e1, f0, f1⟩ := b4.e2
  go_wp2_with fail
  obtain ⟨m0, m1, -, -⟩ := ((b4.put0 (.string ⟨#[]⟩)).put1 (.string ⟨#[]⟩)).e2
  refine bodyPost_ret (v := .tuple #[.agg #[.string ⟨#[]⟩, .string ⟨#[]⟩], .bool false]) (by simp [results, Tryz.f46, go_sem, m0, m1]) rfl ⟨rfl, ?_⟩
  exact (E2.setCell (p := ⟨w.heap.size + 1 + 1, 0, none⟩) (by show w.heap.size ≤ w.heap.size + 1 + 1; omega) _).setCell (p := ⟨w.heap.size + 1 + 1, 1, none⟩) (by show w.heap.size ≤ w.heap.size + 1 + 1; omega) _
set_option maxHeartbeats 4000000 in
set_option maxRecDepth 100000 in
theorem meet_no3 (s t u v : ByteArray) (w : World) (h1 : IVA (.agg #[.string s, .string t]) true w) (h2 : IVA (.agg #[.string u, .string v]) true w) (h3 : LSS (.string t) (.string u) true w) : Calls Tryz.prog 46 #[.agg #[.string s, .string t], .agg #[.string u, .string v]] w fun e w' => e = .returned (.tuple #[.agg #[.string ⟨#[]⟩, .string ⟨#[]⟩], .bool false]) ∧ Ext w w' := by
  obtain ⟨b2, b3, b4, E0⟩ := boxes3 w #[.string s, .string t] #[.string u, .string v] #[.string ⟨#[]⟩, .string ⟨#[]⟩] 44
  obtain ⟨c0, c1, -, -⟩ := b2.e2
  obtain ⟨d0, d1, -, -⟩ := b3.e2
  obtain ⟨e0, e1, f0, f1⟩ := b4.e2
  go_enter Tryz.func46, Tryz.ntmps46
  go_wp2_with fail
  generalize ((w.alloc (.cells #[.string s, .string t] 44)).alloc (.cells #[.string u, .string v] 44)).alloc (.cells #[.string ⟨#[]⟩, .string ⟨#[]⟩] 44) = W0 at *
  refine (h1 _ E0).mono ?_
  rintro e w1 ⟨rfl, hE⟩
  replace b2 := b2.ext hE
  replace b3 := b3.ext hE
  replace b4 := b4.ext hE
  have E1 := E0.tr hE
  clear hE c0 c1 d0 d1 e0 e1 f0 f1
  obtain ⟨c0, c1, -, -⟩ := b2.e2
  obtain ⟨d0, d1, -, -⟩ := b3.e2
  obtain ⟨e0, e1, f0, f1⟩ := b4.e2
  go_wp2_with fail
  refine (h2 _ E1).mono ?_
  rintro e w2 ⟨rfl, hE⟩
  replace b2 := b2.ext hE
  replace b3 := b3.ext hE
  replace b4 := b4.ext hE
  have E2 := E1.tr hE
  clear hE c0 c1 d0 d1 e0 e1 f0 f1
  obtain ⟨c0, c1, -, -⟩ := b2.e2
  obtain ⟨d0, d1, -, -⟩ := b3.e2
  obtain ⟨e0, e1, f0, f1⟩ := b4.e2
  go_wp2_with fail
  refine (h3 _ E2).mono ?_
  rintro e w3 ⟨rfl, hE⟩
  replace b2 := b2.ext hE
  replace b3 := b3.ext hE
  replace b4 := b4.ext hE
  have E3 := E2.tr hE
  clear hE c0 c1 d0 d1 e0 e1 f0 f1
  obtain ⟨c0, c1, -, -⟩ := b2.e2
  obtain ⟨d0, d1, -, -⟩ := b3.e2
  obtain ⟨e0, e1, f0, f1⟩ := b4.e2
  go_wp2_with fail
  obtain ⟨m0, m1, -, -⟩ := ((b4.put0 (.string ⟨#[]⟩)).put1 (.string ⟨#[]⟩)).e2
  refine bodyPost_ret (v := .tuple #[.agg #[.string ⟨#[]⟩, .string ⟨#[]⟩], .bool false]) (by simp [results, Tryz.f46, go_sem, m0, m1]) rfl ⟨rfl, ?_⟩
  exact (E3.setCell (p := ⟨w.heap.size + 1 + 1, 0, none⟩) (by show w.heap.size ≤ w.heap.size + 1 + 1; omega) _).setCell (p := ⟨w.heap.size + 1 + 1, 1, none⟩) (by show w.heap.size ≤ w.heap.size + 1 + 1; omega) _
set_option maxHeartbeats 4000000 in
set_option maxRecDepth 100000 in
theorem meet_no4 (s t u v : ByteArray) (w : World) (h1 : IVA (.agg #[.string s, .string t]) true w) (h2 : IVA (.agg #[.string u, .string v]) true w) (h3 : LSS (.string t) (.string u) false w) (h4 : LSS (.string v) (.string s) true w) : Calls Tryz.prog 46 #[.agg #[.string s, .string t], .agg #[.string u, .string v]] w fun e w' => e = .returned (.tuple #[.agg #[.string ⟨#[]⟩, .string ⟨#[]⟩], .bool false]) ∧ Ext w w' := by
  obtain ⟨b2, b3, b4, E0⟩ := boxes3 w #[.string s, .string t] #[.string u, .string v] #[.string ⟨#[]⟩, .string ⟨#[]⟩] 44
  obtain ⟨c0, c1, -, -⟩ := b2.e2
  obtain ⟨d0, d1, -, -⟩ := b3.e2
  obtain ⟨e0, e1, f0, f1⟩ := b4.e2
  go_enter Tryz.func46, Tryz.ntmps46
  go_wp2_with fail
  generalize ((w.alloc (.cells #[.string s, .string t] 44)).alloc (.cells #[.string u, .string v] 44)).alloc (.cells #[.string ⟨#[]⟩, .string ⟨#[]⟩] 44) = W0 at *
  refine (h1 _ E0).mono ?_
  rintro e w1 ⟨rfl, hE⟩
  replace b2 := b2.ext hE
  replace b3 := b3.ext hE
  replace b4 := b4.ext hE
  have E1 := E0.tr hE
  clear hE c0 c1 d0 d1 e0 e1 f0 f1
  obtain ⟨c0, c1, -, -⟩ := b2.e2
  obtain ⟨d0, d1, -, -⟩ := b3.e2
  obtain ⟨e0, e1, f0, f1⟩ := b4.e2
  go_wp2_with fail
  refine (h2 _ E1).mono ?_
  rintro e w2 ⟨rfl, hE⟩
  replace b2 := b2.ext hE
  replace b3 := b3.ext hE
  replace b4 := b4.ext hE
  have E2 := E1.tr hE
  clear hE c0 c1 d0 d1 e0 e1 f0 f1
  obtain ⟨c0, c1, -, -⟩ := b2.e2
  obtain ⟨d0, d1, -, -⟩ := b3.e2
  obtain ⟨e0, e1, f0, f1⟩ := b4.e2
  go_wp2_with fail
  refine (h3 _ E2).mono ?_
  rintro e w3 ⟨rfl, hE⟩
  replace b2 := b2.ext hE
  replace b3 := b3.ext hE
  replace b4 := b4.ext hE
  have E3 := E2.tr hE
  clear hE c0 c1 d0 d1 e0 e1 f0 f1
  obtain ⟨c0, c1, -, -⟩ := b2.e2
  obtain ⟨d0, d1, -, -⟩ := b3.e2
  obtain ⟨e0, e1, f0, f1⟩ := b4.e2
  go_wp2_with fail
  refine (h4 _ E3).mono ?_
  rintro e w4 ⟨rfl, hE⟩
  replace b2 := b2.ext hE
  replace b3 := b3.ext hE
  replace b4 := b4.ext hE
  have E4 := E3.tr hE
  clear hE c0 c1 d0 d1 e0 e1 f0 f1
  obtain ⟨c0, c1, -, -⟩ := b2.e2
  obtain ⟨d0, d1, -, -⟩ := b3.e2
  obtain ⟨e0, e1, f0, f1⟩ := b4.e2
  go_wp2_with fail
  obtain ⟨m0, m1, -, -⟩ := ((b4.put0 (.string ⟨#[]⟩)).put1 (.string ⟨#[]⟩)).e2
  refine bodyPost_ret (v := .tuple #[.agg #[.string ⟨#[]⟩, .string ⟨#[]⟩], .bool false]) (by simp [results, Tryz.f46, go_sem, m0, m1]) rfl ⟨rfl, ?_⟩
  exact (E4.setCell (p := ⟨w.heap.size + 1 + 1, 0, none⟩) (by show w.heap.size ≤ w.heap.size + 1 + 1; omega) _).setCell (p := ⟨w.heap.size + 1 + 1, 1, none⟩) (by show w.heap.size ≤ w.heap.size + 1 + 1; omega) _
set_option maxHeartbeats 4000000 in
set_option maxRecDepth 100000 in
theorem meet_yes (s t u v : ByteArray) (w : World) (h1 : IVA (.agg #[.string s, .string t]) true w) (h2 : IVA (.agg #[.string u, .string v]) true w) (h3 : LSS (.string t) (.string u) false w) (h4 : LSS (.string v) (.string s) false w) (m k a0 b1 : ByteArray) (hA : ∀ W b, Ext w W → Bx W b #[.string s, .string u] 30 → Calls Tryz.prog 88 #[.slice (some ⟨b, 0, none⟩) 2 2] W fun e w' => e = .returned (.agg #[.string a0, .string m]) ∧ Ext W w') (hB : ∀ W b, Ext w W → Bx W b #[.string t, .string v] 30 → Calls Tryz.prog 88 #[.slice (some ⟨b, 0, none⟩) 2 2] W fun e w' => e = .returned (.agg #[.string k, .string b1]) ∧ Ext W w') : Calls Tryz.prog 46 #[.agg #[.string s, .string t], .agg #[.string u, .string v]] w fun e w' => e = .returned (.tuple #[.agg #[.string m, .string k], .bool true]) ∧ Ext w w' := by
  obtain ⟨b2, b3, b4, E0⟩ := boxes3 w #[.string s, .string t] #[.string u, .string v] #[.string ⟨#[]⟩, .string ⟨#[]⟩] 44
  obtain ⟨c0, c1, -, -⟩ := b2.e2
  obtain ⟨d0, d1, -, -⟩ := b3.e2
  obtain ⟨e0, e1, f0, f1⟩ := b4.e2
  go_enter Tryz.func46, Tryz.ntmps46
  go_wp2_with fail
  generalize ((w.alloc (.cells #[.string s, .string t] 44)).alloc (.cells #[.string u, .string v] 44)).alloc (.cells #[.string ⟨#[]⟩, .string ⟨#[]⟩] 44) = W0 at *
  refine (h1 _ E0).mono ?_
  rintro e w1 ⟨rfl, hE⟩
  replace b2 := b2.ext hE
  replace b3 := b3.ext hE
  replace b4 := b4.ext hE
  have E1 := E0.tr hE
  clear hE c0 c1 d0 d1 e0 e1 f0 f1
  obtain ⟨c0, c1, -, -⟩ := b2.e2
  obtain ⟨d0, d1, -, -⟩ := b3.e2
  obtain ⟨e0, e1, f0, f1⟩ := b4.e2
  go_wp2_with fail
  refine (h2 _ E1).mono ?_
  rintro e w2 ⟨rfl, hE⟩
  replace b2 := b2.ext hE
  replace b3 := b3.ext hE
  replace b4 := b4.ext hE
  have E2 := E1.tr hE
  clear hE c0 c1 d0 d1 e0 e1 f0 f1
  obtain ⟨c0, c1, -, -⟩ := b2.e2
  obtain ⟨d0, d1, -, -⟩ := b3.e2
  obtain ⟨e0, e1, f0, f1⟩ := b4.e2
  go_wp2_with fail
  refine (h3 _ E2).mono ?_
  rintro e w3 ⟨rfl, hE⟩
  replace b2 := b2.ext hE
  replace b3 := b3.ext hE
  replace b4 := b4.ext hE
  have E3 := E2.tr hE
  clear hE c0 c1 d0 d1 e0 e1 f0 f1
  obtain ⟨c0, c1, -, -⟩ := b2.e2
  obtain ⟨d0, d1, -, -⟩ := b3.e2
  obtain ⟨e0, e1, f0, f1⟩ := b4.e2
  go_wp2_with fail
  refine (h4 _ E3).mono ?_
  rintro e w4 ⟨rfl, hE⟩
  replace b2 := b2.ext hE
  replace b3 := b3.ext hE
  replace b4 := b4.ext hE
  have E4 := E3.tr hE
  clear hE c0 c1 d0 d1 e0 e1 f0 f1
  obtain ⟨c0, c1, -, -⟩ := b2.e2
  obtain ⟨d0, d1, -, -⟩ := b3.e2
  obtain ⟨e0, e1, f0, f1⟩ := b4.e2
  go_wp2_with fail
  clear h1 h2 h3 h4
  have HE := Lib.hid E4
  clear E0 E1 E2 E3 E4
  have n1 := Bx.new w4 #[.string s, .string u] 30
  have m1 := Bx.new w4 #[.string t, .string v] 30
  have n2 := Bx.new (w4.alloc (.cells #[.string s, .string u] 30)) #[.string t, .string v] 30
  have n3 := Bx.new (w4.alloc (.cells #[.string t, .string v] 30)) #[.string s, .string u] 30
  rw [World.size_alloc] at n2 n3
  have HA1 := Lib.hid (hA (w4.alloc (.cells #[.string s, .string u] 30)).drew w4.heap.size ((HE.out.al _).dr) n1)
  have HA2 := Lib.hid (hA ((w4.alloc (.cells #[.string s, .string u] 30)).alloc (.cells #[.string t, .string v] 30)).drew w4.heap.size (((HE.out.al _).al _).dr) (n1.al (.cells #[.string t, .string v] 30)))
  have HA3 := Lib.hid (hA ((w4.alloc (.cells #[.string t, .string v] 30)).alloc (.cells #[.string s, .string u] 30)).drew (w4.heap.size + 1) (((HE.out.al _).al _).dr) n3)
  have NB2 := Lib.hid n2
  have NB3 := Lib.hid (m1.al (.cells #[.string s, .string u] 30))
  clear n1 m1 n2 n3 hA
  go_region_held3 (fun w' => w'.cell? ⟨w.heap.size, 0, none⟩ = some (.string s) ∧ w'.cell? ⟨w.heap.size, 1, none⟩ = some (.string t) ∧ w'.cell? ⟨w.heap.size + 1, 0, none⟩ = some (.string u) ∧ w'.cell? ⟨w.heap.size + 1, 1, none⟩ = some (.string v)) (((try dsimp only); (repeat' apply And.intro) <;> (first | assumption | ((go_keep); done) | (rw [World.cell?_setCell_other _ _ _ _ (by simp), World.cell?_setCell_other _ _ _ _ (by simp)]; assumption) | (rw [World.cell?_setCell_other _ _ _ _ (by intro e; cases e; omega), World.cell?_setCell_other _ _ _ _ (by intro e; cases e; omega)]; assumption))))
    (first
      | (go_at_call 88; (with_reducible refine HA1.out.mono ?_); rintro e w5 ⟨rfl, hE5⟩; have k2 := Bx.ext (show Bx (w4.alloc (.cells #[.string s, .string u] 30)).drew _ _ _ from b2.al _) hE5; have k3 := Bx.ext (show Bx (w4.alloc (.cells #[.string s, .string u] 30)).drew _ _ _ from b3.al _) hE5; have k4 := Bx.ext (show Bx (w4.alloc (.cells #[.string s, .string u] 30)).drew _ _ _ from b4.al _) hE5; have HE5 := Lib.hid ((show Ext w (w4.alloc (.cells #[.string s, .string u] 30)).drew from (HE.out.al _).dr).tr hE5); obtain ⟨q0, q1, -, -⟩ := k2.e2; obtain ⟨r0, r1, -, -⟩ := k3.e2; clear hE5)
      | (go_at_call 88; (with_reducible refine HA2.out.mono ?_); rintro e w5 ⟨rfl, hE5⟩; have k2 := Bx.ext (show Bx ((w4.alloc (.cells #[.string s, .string u] 30)).alloc (.cells #[.string t, .string v] 30)).drew _ _ _ from (b2.al _).al _) hE5; have k3 := Bx.ext (show Bx ((w4.alloc (.cells #[.string s, .string u] 30)).alloc (.cells #[.string t, .string v] 30)).drew _ _ _ from (b3.al _).al _) hE5; have k4 := Bx.ext (show Bx ((w4.alloc (.cells #[.string s, .string u] 30)).alloc (.cells #[.string t, .string v] 30)).drew _ _ _ from (b4.al _).al _) hE5; have HE5 := Lib.hid ((show Ext w ((w4.alloc (.cells #[.string s, .string u] 30)).alloc (.cells #[.string t, .string v] 30)).drew from ((HE.out.al _).al _).dr).tr hE5); obtain ⟨q0, q1, -, -⟩ := k2.e2; obtain ⟨r0, r1, -, -⟩ := k3.e2; have kB := Bx.ext (show Bx ((w4.alloc (.cells #[.string s, .string u] 30)).alloc (.cells #[.string t, .string v] 30)).drew (w4.heap.size + 1) #[.string t, .string v] 30 from NB2.out) hE5; clear hE5)
      | (go_at_call 88; (with_reducible refine HA3.out.mono ?_); rintro e w5 ⟨rfl, hE5⟩; have k2 := Bx.ext (show Bx ((w4.alloc (.cells #[.string t, .string v] 30)).alloc (.cells #[.string s, .string u] 30)).drew _ _ _ from (b2.al _).al _) hE5; have k3 := Bx.ext (show Bx ((w4.alloc (.cells #[.string t, .string v] 30)).alloc (.cells #[.string s, .string u] 30)).drew _ _ _ from (b3.al _).al _) hE5; have k4 := Bx.ext (show Bx ((w4.alloc (.cells #[.string t, .string v] 30)).alloc (.cells #[.string s, .string u] 30)).drew _ _ _ from (b4.al _).al _) hE5; have HE5 := Lib.hid ((show Ext w ((w4.alloc (.cells #[.string t, .string v] 30)).alloc (.cells #[.string s, .string u] 30)).drew from ((HE.out.al _).al _).dr).tr hE5); obtain ⟨q0, q1, -, -⟩ := k2.e2; obtain ⟨r0, r1, -, -⟩ := k3.e2; have kB := Bx.ext (show Bx ((w4.alloc (.cells #[.string t, .string v] 30)).alloc (.cells #[.string s, .string u] 30)).drew w4.heap.size #[.string t, .string v] 30 from NB3.out) hE5; clear hE5)
      | (go_at_call 88; (with_reducible refine (hB (w5.alloc (.cells #[.string t, .string v] 30)) w5.heap.size (HE5.out.al _) (Bx.new w5 #[.string t, .string v] 30)).mono ?_); rintro e w6 ⟨rfl, hE6⟩; have l2 := Bx.ext (k2.al (.cells #[.string t, .string v] 30)) hE6; have l3 := Bx.ext (k3.al (.cells #[.string t, .string v] 30)) hE6; have l4 := Bx.ext (k4.al (.cells #[.string t, .string v] 30)) hE6; obtain ⟨y0, y1, -, -⟩ := l2.e2; obtain ⟨x0, x1, -, -⟩ := l3.e2; have HE6 := Lib.hid ((HE5.out.al (.cells #[.string t, .string v] 30)).tr hE6); obtain ⟨z0, z1, g0, g1⟩ := l4.e2; clear hE6)
      | (go_at_call 88; (with_reducible refine (hB w5 (w4.heap.size + 1) HE5.out kB).mono ?_); rintro e w6 ⟨rfl, hE6⟩; have l2 := Bx.ext k2 hE6; have l3 := Bx.ext k3 hE6; have l4 := Bx.ext k4 hE6; obtain ⟨y0, y1, -, -⟩ := l2.e2; obtain ⟨x0, x1, -, -⟩ := l3.e2; have HE6 := Lib.hid (HE5.out.tr hE6); obtain ⟨z0, z1, g0, g1⟩ := l4.e2; clear hE6)
      | (go_at_call 88; (with_reducible refine (hB w5 w4.heap.size HE5.out kB).mono ?_); rintro e w6 ⟨rfl, hE6⟩; have l2 := Bx.ext k2 hE6; have l3 := Bx.ext k3 hE6; have l4 := Bx.ext k4 hE6; obtain ⟨y0, y1, -, -⟩ := l2.e2; obtain ⟨x0, x1, -, -⟩ := l3.e2; have HE6 := Lib.hid (HE5.out.tr hE6); obtain ⟨z0, z1, g0, g1⟩ := l4.e2; clear hE6)
      | (go_at_call 88; trace_state; fail))
  all_goals
    clear HA1 HA2 HA3 NB2 NB3
    go_wp2
    obtain ⟨m0, m1, -, -⟩ := ((l4.put0 (.string m)).put1 (.string k)).e2
    refine bodyPost_ret (v := .tuple #[.agg #[.string m, .string k], .bool true]) (by simp [results, Tryz.f46, go_sem, m0, m1]) rfl ⟨rfl, ?_⟩
    exact (HE6.out.setCell (p := ⟨w.heap.size + 1 + 1, 0, none⟩) (by show w.heap.size ≤ w.heap.size + 1 + 1; omega) _).setCell (p := ⟨w.heap.size + 1 + 1, 1, none⟩) (by show w.heap.size ≤ w.heap.size + 1 + 1; omega) _
end Go.Proofs.YtbldlibijojbjaaGreatDoor.GB
