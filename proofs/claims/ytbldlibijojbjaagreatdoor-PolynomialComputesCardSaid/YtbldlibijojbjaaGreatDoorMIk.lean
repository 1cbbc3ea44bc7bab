import Derived.Test.YtbldlibijojbjaaGreatDoorMPa
namespace Go.Proofs.YtbldlibijojbjaaGreatDoor.GB
set_option linter.unusedVariables false
set_option linter.unusedSimpArgs false
open Go.RowKit Go.Shelf
attribute [local go_sem ↓] Go.wp_at_zero Go.wp_at_succ

theorem ps_of4 {w : World} {b : Nat} {T : TypeId} {x y z t : Rat} (h : Bx w b #[rtx x, rtx y, rtx z, rtx t] T) : PS w (.slice (some ⟨b, 0, none⟩) (3 + 1) 4) [x, y, z, t] := by
  refine ⟨some ⟨b, 0, none⟩, 4, rfl, by simp, by decide, fun j hj => ⟨b, 0, rfl, h.lt, ?_⟩⟩
  rw [Nat.zero_add, h.c j]
  have hj' : j < 4 := by simpa using hj
  rcases (by omega : j = 0 ∨ j = 1 ∨ j = 2 ∨ j = 3) with rfl | rfl | rfl | rfl <;> rfl
theorem idx0 (s t : ByteArray) (w : World) : (Instr.index 162 (.agg #[.string s, .string t]) (.int .i64 0)).run Tryz.prog w = .ok (.string s) w := by
  simp [Instr.index, Tryz.underlying162, Tryz.sizeOf30, Tryz.isAgg30, go_sem]
theorem idx1 (s t : ByteArray) (w : World) : (Instr.index 162 (.agg #[.string s, .string t]) (.int .i64 1)).run Tryz.prog w = .ok (.string t) w := by
  simp [Instr.index, Tryz.underlying162, Tryz.sizeOf30, Tryz.isAgg30, go_sem]
/-- Four results so far. -/
def C4 (w : World) (g : Nat) (r0 r1 r2 r3 : Rat) (k : Nat) : Prop := Bx w g (match k with
  | 0 => #[.string ⟨#[]⟩, .string ⟨#[]⟩, .string ⟨#[]⟩, .string ⟨#[]⟩]
  | 1 => #[rtx r0, .string ⟨#[]⟩, .string ⟨#[]⟩, .string ⟨#[]⟩]
  | 2 => #[rtx r0, rtx r1, .string ⟨#[]⟩, .string ⟨#[]⟩]
  | 3 => #[rtx r0, rtx r1, rtx r2, .string ⟨#[]⟩]
  | _ => #[rtx r0, rtx r1, rtx r2, rtx r3]) 161
set_option maxHeartbeats 8000000 in
set_option maxRecDepth 100000 in
theorem corn_add (a1 a2 b1 b2 r0 r1 r2 r3 s1 s2 : Rat) (w : World)
    (h1 : ∀ W, Ext w W → Calls Tryz.prog 79 #[.agg #[rtx a1, rtx a2]] W fun e w' => e = .returned (.bool true) ∧ Ext W w')
    (h2 : ∀ W, Ext w W → Calls Tryz.prog 79 #[.agg #[rtx b1, rtx b2]] W fun e w' => e = .returned (.bool true) ∧ Ext W w')
    (o0 : ∀ W, Ext w W → Calls Tryz.prog 42 #[rtx a1, rtx b1] W fun e w' => e = .returned (.tuple #[rtx r0, .int .i64 0]) ∧ Ext W w') (o1 : ∀ W, Ext w W → Calls Tryz.prog 42 #[rtx a1, rtx b2] W fun e w' => e = .returned (.tuple #[rtx r1, .int .i64 0]) ∧ Ext W w') (o2 : ∀ W, Ext w W → Calls Tryz.prog 42 #[rtx a2, rtx b1] W fun e w' => e = .returned (.tuple #[rtx r2, .int .i64 0]) ∧ Ext W w') (o3 : ∀ W, Ext w W → Calls Tryz.prog 42 #[rtx a2, rtx b2] W fun e w' => e = .returned (.tuple #[rtx r3, .int .i64 0]) ∧ Ext W w')
    (h3 : ∀ W b, Ext w W → PS W (.slice (some ⟨b, 0, none⟩) (3 + 1) 4) [r0, r1, r2, r3] → Calls Tryz.prog 88 #[.slice (some ⟨b, 0, none⟩) 4 4] W fun e w' => e = .returned (.agg #[rtx s1, rtx s2]) ∧ Ext W w') :
    Calls Tryz.prog 120 #[.func (.func 42) #[] #[], .agg #[rtx a1, rtx a2], .agg #[rtx b1, rtx b2]] w fun e w' => e = .returned (.tuple #[.agg #[rtx s1, rtx s2], .int .i64 0]) ∧ Ext w w' := by
  have ix0 := idx0
  have ix1 := idx1
  obtain ⟨X1, X2, X3, E⟩ := boxes3 w #[rtx a1, rtx a2] #[rtx b1, rtx b2] #[.string ⟨#[]⟩, .string ⟨#[]⟩] 44
  go_enter Tryz.func120, Tryz.ntmps120
  go_wp2_with fail
  generalize ((w.alloc (.cells #[rtx a1, rtx a2] 44)).alloc (.cells #[rtx b1, rtx b2] 44)).alloc (.cells #[.string ⟨#[]⟩, .string ⟨#[]⟩] 44) = W0 at *
  refine (h1 _ E).mono ?_
  rintro e w1 ⟨rfl, hE⟩
  replace X1 := X1.ext hE
  replace X2 := X2.ext hE
  replace X3 := X3.ext hE
  replace E := E.tr hE
  clear hE h1
  obtain ⟨c20, c21, -, -⟩ := X2.e2
  go_wp2_with fail
  refine (h2 _ E).mono ?_
  rintro e w2 ⟨rfl, hE⟩
  replace X1 := X1.ext hE
  replace X2 := X2.ext hE
  replace X3 := X3.ext hE
  replace E := E.tr hE
  clear hE h2 c20 c21
  have XA := Bx.new w2 #[.string ⟨#[]⟩, .string ⟨#[]⟩, .string ⟨#[]⟩, .string ⟨#[]⟩] 161
  have hgw0 := X3.lt
  replace X1 := X1.al (.cells #[.string ⟨#[]⟩, .string ⟨#[]⟩, .string ⟨#[]⟩, .string ⟨#[]⟩] 161)
  replace X2 := X2.al (.cells #[.string ⟨#[]⟩, .string ⟨#[]⟩, .string ⟨#[]⟩, .string ⟨#[]⟩] 161)
  replace X3 := X3.al (.cells #[.string ⟨#[]⟩, .string ⟨#[]⟩, .string ⟨#[]⟩, .string ⟨#[]⟩] 161)
  replace E := E.al (.cells #[.string ⟨#[]⟩, .string ⟨#[]⟩, .string ⟨#[]⟩, .string ⟨#[]⟩] 161)
  have c10 := X1.c0
  have c11 := X1.c1
  go_wp2_with fail
  generalize w2.alloc (.cells #[.string ⟨#[]⟩, .string ⟨#[]⟩, .string ⟨#[]⟩, .string ⟨#[]⟩] 161) = W1 at *
  generalize w2.heap.size = g at *
  have hgw : w.heap.size ≤ g := by omega
  have HX1 := Lib.hid X1
  have HX2 := Lib.hid X2
  have HX3 := Lib.hid X3
  have HE := Lib.hid E
  have HA : Hid (C4 W1 g r0 r1 r2 r3 0) := XA
  clear X1 X2 X3 E XA c10 c11
  go_loopw [27] (fun v wr => ∃ z : Int, v = .int .i64 z ∧ Hid ((z = 0 ∧ C4 wr g r0 r1 r2 r3 0) ∨ (z = 1 ∧ C4 wr g r0 r1 r2 r3 2) ∨ (z = 2 ∧ C4 wr g r0 r1 r2 r3 4)) ∧ Hid (Bx wr w.heap.size #[rtx a1, rtx a2] 44) ∧ Hid (Bx wr (w.heap.size + 1) #[rtx b1, rtx b2] 44) ∧ Hid (Bx wr (w.heap.size + 1 + 1) #[.string ⟨#[]⟩, .string ⟨#[]⟩] 44) ∧ Hid (Ext w wr)) (fun v _ => (2 - intOf v).toNat)
  case atStart => exact ⟨0, rfl, .inl ⟨rfl, HA.out⟩, HX1, HX2, HX3, HE⟩
  case round =>
    clear HA HX1 HX2 HX3 HE
    obtain ⟨z, rfl, HS, HX1, HX2, HX3, HE⟩ := hrel
    rcases HS.out with ⟨rfl, hA⟩ | ⟨rfl, hA⟩ | ⟨rfl, hA⟩
    · have HA := Lib.hid hA
      clear hA HS
      obtain ⟨wz, hwz⟩ : ∃ wz : World, wz = wr := ⟨_, rfl⟩
      subst hwz
      all_goals
        have c20 := HX2.out.c0
        have c21 := HX2.out.c1
        go_wp2_with fail
        go_loopw [36] (fun v wr => ∃ z : Int, v = .int .i64 z ∧ Hid ((z = 0 ∧ C4 wr g r0 r1 r2 r3 0) ∨ (z = 1 ∧ C4 wr g r0 r1 r2 r3 1) ∨ (z = 2 ∧ C4 wr g r0 r1 r2 r3 2)) ∧ Hid (Bx wr w.heap.size #[rtx a1, rtx a2] 44) ∧ Hid (Bx wr (w.heap.size + 1) #[rtx b1, rtx b2] 44) ∧ Hid (Bx wr (w.heap.size + 1 + 1) #[.string ⟨#[]⟩, .string ⟨#[]⟩] 44) ∧ Hid (Ext w wr)) (fun v _ => (2 - intOf v).toNat)
        case atStart => exact ⟨0, rfl, .inl ⟨rfl, HA.out⟩, HX1, HX2, HX3, HE⟩
        case round =>
          clear HA HX1 HX2 HX3 HE c20 c21
          obtain ⟨z, rfl, HS, HX1, HX2, HX3, HE⟩ := hrel
          rcases HS.out with ⟨rfl, hA⟩ | ⟨rfl, hA⟩ | ⟨rfl, hA⟩
          · have HA := Lib.hid hA
            clear hA HS
            have k40 : wr.cell? ⟨g, 0, none⟩ = some (.string ⟨#[]⟩) := (show Bx wr g _ 161 from HA.out).c 0
            have k4f := (show Bx wr g _ 161 from HA.out).f 0
            have hi1 : ((0 : Nat) : Int) = 0 := rfl
            go_wp2_with fail
            refine (o0 _ HE.out).mono ?_
            rintro e w3 ⟨rfl, hE⟩
            have HE3 := Lib.hid (HE.out.tr hE)
            have HA3 := Lib.hid (Bx.ext (show Bx wr g _ 161 from HA.out) hE)
            have HX13 := Lib.hid (HX1.out.ext hE)
            have HX23 := Lib.hid (HX2.out.ext hE)
            have HX33 := Lib.hid (HX3.out.ext hE)
            have k50 : w3.cell? ⟨g, 0, none⟩ = some (.string ⟨#[]⟩) := HA3.out.c 0
            have k5f := HA3.out.f 0
            clear hE k40 k4f
            go_wp2_with fail
            have HA4 : Hid (C4 (w3.setCell ⟨g, 0, none⟩ (rtx r0)) g r0 r1 r2 r3 1) := HA3.out.put 0 (rtx r0)
            have HE4 : Hid (Ext w (w3.setCell ⟨g, 0, none⟩ (rtx r0))) := HE3.out.setCell (p := ⟨g, 0, none⟩) hgw (rtx r0)
            have HX14 := Lib.hid (HX13.out.set (p := ⟨g, 0, none⟩) (by show w.heap.size ≠ g; omega) (rtx r0))
            have HX24 := Lib.hid (HX23.out.set (p := ⟨g, 0, none⟩) (by show w.heap.size + 1 ≠ g; omega) (rtx r0))
            have HX34 := Lib.hid (HX33.out.set (p := ⟨g, 0, none⟩) (by show w.heap.size + 1 + 1 ≠ g; omega) (rtx r0))
            go_roundw
            case rel => exact ⟨1, by rfl, .inr (.inl ⟨rfl, HA4.out⟩), HX14, HX24, HX34, HE4⟩
            case measure => simp [intOf]
          · have HA := Lib.hid hA
            clear hA HS
            have k40 : wr.cell? ⟨g, 1, none⟩ = some (.string ⟨#[]⟩) := (show Bx wr g _ 161 from HA.out).c 1
            have k4f := (show Bx wr g _ 161 from HA.out).f 1
            have hi1 : ((0 : Nat) : Int) = 0 := rfl
            go_wp2_with fail
            refine (o1 _ HE.out).mono ?_
            rintro e w3 ⟨rfl, hE⟩
            have HE3 := Lib.hid (HE.out.tr hE)
            have HA3 := Lib.hid (Bx.ext (show Bx wr g _ 161 from HA.out) hE)
            have HX13 := Lib.hid (HX1.out.ext hE)
            have HX23 := Lib.hid (HX2.out.ext hE)
            have HX33 := Lib.hid (HX3.out.ext hE)
            have k50 : w3.cell? ⟨g, 1, none⟩ = some (.string ⟨#[]⟩) := HA3.out.c 1
            have k5f := HA3.out.f 1
            clear hE k40 k4f
            go_wp2_with fail
            have HA4 : Hid (C4 (w3.setCell ⟨g, 1, none⟩ (rtx r1)) g r0 r1 r2 r3 2) := HA3.out.put 1 (rtx r1)
            have HE4 : Hid (Ext w (w3.setCell ⟨g, 1, none⟩ (rtx r1))) := HE3.out.setCell (p := ⟨g, 1, none⟩) hgw (rtx r1)
            have HX14 := Lib.hid (HX13.out.set (p := ⟨g, 1, none⟩) (by show w.heap.size ≠ g; omega) (rtx r1))
            have HX24 := Lib.hid (HX23.out.set (p := ⟨g, 1, none⟩) (by show w.heap.size + 1 ≠ g; omega) (rtx r1))
            have HX34 := Lib.hid (HX33.out.set (p := ⟨g, 1, none⟩) (by show w.heap.size + 1 + 1 ≠ g; omega) (rtx r1))
            go_roundw
            case rel => exact ⟨2, by rfl, .inr (.inr ⟨rfl, HA4.out⟩), HX14, HX24, HX34, HE4⟩
            case measure => simp [intOf]
          · have HA := Lib.hid hA
            clear hA HS
            go_wp2_with fail
            go_roundw
            case rel => exact ⟨1, by rfl, .inr (.inl ⟨rfl, HA.out⟩), HX1, HX2, HX3, HE⟩
            case measure => simp [intOf]
    · have HA := Lib.hid hA
      clear hA HS
      obtain ⟨wz, hwz⟩ : ∃ wz : World, wz = wr := ⟨_, rfl⟩
      subst hwz
      all_goals
        have c20 := HX2.out.c0
        have c21 := HX2.out.c1
        go_wp2_with fail
        go_loopw [36] (fun v wr => ∃ z : Int, v = .int .i64 z ∧ Hid ((z = 0 ∧ C4 wr g r0 r1 r2 r3 2) ∨ (z = 1 ∧ C4 wr g r0 r1 r2 r3 3) ∨ (z = 2 ∧ C4 wr g r0 r1 r2 r3 4)) ∧ Hid (Bx wr w.heap.size #[rtx a1, rtx a2] 44) ∧ Hid (Bx wr (w.heap.size + 1) #[rtx b1, rtx b2] 44) ∧ Hid (Bx wr (w.heap.size + 1 + 1) #[.string ⟨#[]⟩, .string ⟨#[]⟩] 44) ∧ Hid (Ext w wr)) (fun v _ => (2 - intOf v).toNat)
        case atStart => exact ⟨0, rfl, .inl ⟨rfl, HA.out⟩, HX1, HX2, HX3, HE⟩
        case round =>
          clear HA HX1 HX2 HX3 HE c20 c21
          obtain ⟨z, rfl, HS, HX1, HX2, HX3, HE⟩ := hrel
          rcases HS.out with ⟨rfl, hA⟩ | ⟨rfl, hA⟩ | ⟨rfl, hA⟩
          · have HA := Lib.hid hA
            clear hA HS
            have k40 : wr.cell? ⟨g, 2, none⟩ = some (.string ⟨#[]⟩) := (show Bx wr g _ 161 from HA.out).c 2
            have k4f := (show Bx wr g _ 161 from HA.out).f 2
            have hi1 : ((0 : Nat) : Int) = 0 := rfl
            go_wp2_with fail
            refine (o2 _ HE.out).mono ?_
            rintro e w3 ⟨rfl, hE⟩
            have HE3 := Lib.hid (HE.out.tr hE)
            have HA3 := Lib.hid (Bx.ext (show Bx wr g _ 161 from HA.out) hE)
            have HX13 := Lib.hid (HX1.out.ext hE)
            have HX23 := Lib.hid (HX2.out.ext hE)
            have HX33 := Lib.hid (HX3.out.ext hE)
            have k50 : w3.cell? ⟨g, 2, none⟩ = some (.string ⟨#[]⟩) := HA3.out.c 2
            have k5f := HA3.out.f 2
            clear hE k40 k4f
            go_wp2_with fail
            have HA4 : Hid (C4 (w3.setCell ⟨g, 2, none⟩ (rtx r2)) g r0 r1 r2 r3 3) := HA3.out.put 2 (rtx r2)
            have HE4 : Hid (Ext w (w3.setCell ⟨g, 2, none⟩ (rtx r2))) := HE3.out.setCell (p := ⟨g, 2, none⟩) hgw (rtx r2)
            have HX14 := Lib.hid (HX13.out.set (p := ⟨g, 2, none⟩) (by show w.heap.size ≠ g; omega) (rtx r2))
            have HX24 := Lib.hid (HX23.out.set (p := ⟨g, 2, none⟩) (by show w.heap.size + 1 ≠ g; omega) (rtx r2))
            have HX34 := Lib.hid (HX33.out.set (p := ⟨g, 2, none⟩) (by show w.heap.size + 1 + 1 ≠ g; omega) (rtx r2))
            go_roundw
            case rel => exact ⟨1, by rfl, .inr (.inl ⟨rfl, HA4.out⟩), HX14, HX24, HX34, HE4⟩
            case measure => simp [intOf]
          · have HA := Lib.hid hA
            clear hA HS
            have k40 : wr.cell? ⟨g, 3, none⟩ = some (.string ⟨#[]⟩) := (show Bx wr g _ 161 from HA.out).c 3
            have k4f := (show Bx wr g _ 161 from HA.out).f 3
            have hi1 : ((0 : Nat) : Int) = 0 := rfl
            go_wp2_with fail
            refine (o3 _ HE.out).mono ?_
            rintro e w3 ⟨rfl, hE⟩
            have HE3 := Lib.hid (HE.out.tr hE)
            have HA3 := Lib.hid (Bx.ext (show Bx wr g _ 161 from HA.out) hE)
            have HX13 := Lib.hid (HX1.out.ext hE)
            have HX23 := Lib.hid (HX2.out.ext hE)
            have HX33 := Lib.hid (HX3.out.ext hE)
            have k50 : w3.cell? ⟨g, 3, none⟩ = some (.string ⟨#[]⟩) := HA3.out.c 3
            have k5f := HA3.out.f 3
            clear hE k40 k4f
            go_wp2_with fail
            have HA4 : Hid (C4 (w3.setCell ⟨g, 3, none⟩ (rtx r3)) g r0 r1 r2 r3 4) := HA3.out.put 3 (rtx r3)
            have HE4 : Hid (Ext w (w3.setCell ⟨g, 3, none⟩ (rtx r3))) := HE3.out.setCell (p := ⟨g, 3, none⟩) hgw (rtx r3)
            have HX14 := Lib.hid (HX13.out.set (p := ⟨g, 3, none⟩) (by show w.heap.size ≠ g; omega) (rtx r3))
            have HX24 := Lib.hid (HX23.out.set (p := ⟨g, 3, none⟩) (by show w.heap.size + 1 ≠ g; omega) (rtx r3))
            have HX34 := Lib.hid (HX33.out.set (p := ⟨g, 3, none⟩) (by show w.heap.size + 1 + 1 ≠ g; omega) (rtx r3))
            go_roundw
            case rel => exact ⟨2, by rfl, .inr (.inr ⟨rfl, HA4.out⟩), HX14, HX24, HX34, HE4⟩
            case measure => simp [intOf]
          · have HA := Lib.hid hA
            clear hA HS
            go_wp2_with fail
            go_roundw
            case rel => exact ⟨2, by rfl, .inr (.inr ⟨rfl, HA.out⟩), HX1, HX2, HX3, HE⟩
            case measure => simp [intOf]
    · have HA := Lib.hid hA
      clear hA HS
      have h4 := fun W (hE : Ext w W) => h3 W g hE
      go_wp2_with fail
      refine (h4 _ HE.out (ps_of4 (show Bx wr g #[rtx r0, rtx r1, rtx r2, rtx r3] 161 from HA.out))).mono ?_
      rintro e w3 ⟨rfl, hE⟩
      have HE3 := Lib.hid (HE.out.tr hE)
      have HX33 := Lib.hid (HX3.out.ext hE)
      obtain ⟨d0, d1, e0, e1⟩ := HX33.out.e2
      clear hE
      go_wp2_with fail
      obtain ⟨m0, m1⟩ := set2 HX33.out (rtx s1) (rtx s2)
      refine bodyPost_ret (v := .tuple #[.agg #[rtx s1, rtx s2], .int .i64 0]) ?_ rfl ⟨rfl, ext_set2 (b := w.heap.size + 1 + 1) HE3.out (by omega) _ _⟩
      simp [results, Tryz.f120, go_sem, m0, m1]
set_option maxHeartbeats 8000000 in
set_option maxRecDepth 100000 in
theorem corn_mul (a1 a2 b1 b2 r0 r1 r2 r3 s1 s2 : Rat) (w : World)
    (h1 : ∀ W, Ext w W → Calls Tryz.prog 79 #[.agg #[rtx a1, rtx a2]] W fun e w' => e = .returned (.bool true) ∧ Ext W w')
    (h2 : ∀ W, Ext w W → Calls Tryz.prog 79 #[.agg #[rtx b1, rtx b2]] W fun e w' => e = .returned (.bool true) ∧ Ext W w')
    (o0 : ∀ W, Ext w W → Calls Tryz.prog 44 #[rtx a1, rtx b1] W fun e w' => e = .returned (.tuple #[rtx r0, .int .i64 0]) ∧ Ext W w') (o1 : ∀ W, Ext w W → Calls Tryz.prog 44 #[rtx a1, rtx b2] W fun e w' => e = .returned (.tuple #[rtx r1, .int .i64 0]) ∧ Ext W w') (o2 : ∀ W, Ext w W → Calls Tryz.prog 44 #[rtx a2, rtx b1] W fun e w' => e = .returned (.tuple #[rtx r2, .int .i64 0]) ∧ Ext W w') (o3 : ∀ W, Ext w W → Calls Tryz.prog 44 #[rtx a2, rtx b2] W fun e w' => e = .returned (.tuple #[rtx r3, .int .i64 0]) ∧ Ext W w')
    (h3 : ∀ W b, Ext w W → PS W (.slice (some ⟨b, 0, none⟩) (3 + 1) 4) [r0, r1, r2, r3] → Calls Tryz.prog 88 #[.slice (some ⟨b, 0, none⟩) 4 4] W fun e w' => e = .returned (.agg #[rtx s1, rtx s2]) ∧ Ext W w') :
    Calls Tryz.prog 120 #[.func (.func 44) #[] #[], .agg #[rtx a1, rtx a2], .agg #[rtx b1, rtx b2]] w fun e w' => e = .returned (.tuple #[.agg #[rtx s1, rtx s2], .int .i64 0]) ∧ Ext w w' := by
  have ix0 := idx0
  have ix1 := idx1
  obtain ⟨X1, X2, X3, E⟩ := boxes3 w #[rtx a1, rtx a2] #[rtx b1, rtx b2] #[.string ⟨#[]⟩, .string ⟨#[]⟩] 44
  go_enter Tryz.func120, Tryz.ntmps120
  go_wp2_with fail
  generalize ((w.alloc (.cells #[rtx a1, rtx a2] 44)).alloc (.cells #[rtx b1, rtx b2] 44)).alloc (.cells #[.string ⟨#[]⟩, .string ⟨#[]⟩] 44) = W0 at *
  refine (h1 _ E).mono ?_
  rintro e w1 ⟨rfl, hE⟩
  replace X1 := X1.ext hE
  replace X2 := X2.ext hE
  replace X3 := X3.ext hE
  replace E := E.tr hE
  clear hE h1
  obtain ⟨c20, c21, -, -⟩ := X2.e2
  go_wp2_with fail
  refine (h2 _ E).mono ?_
  rintro e w2 ⟨rfl, hE⟩
  replace X1 := X1.ext hE
  replace X2 := X2.ext hE
  replace X3 := X3.ext hE
  replace E := E.tr hE
  clear hE h2 c20 c21
  have XA := Bx.new w2 #[.string ⟨#[]⟩, .string ⟨#[]⟩, .string ⟨#[]⟩, .string ⟨#[]⟩] 161
  have hgw0 := X3.lt
  replace X1 := X1.al (.cells #[.string ⟨#[]⟩, .string ⟨#[]⟩, .string ⟨#[]⟩, .string ⟨#[]⟩] 161)
  replace X2 := X2.al (.cells #[.string ⟨#[]⟩, .string ⟨#[]⟩, .string ⟨#[]⟩, .string ⟨#[]⟩] 161)
  replace X3 := X3.al (.cells #[.string ⟨#[]⟩, .string ⟨#[]⟩, .string ⟨#[]⟩, .string ⟨#[]⟩] 161)
  replace E := E.al (.cells #[.string ⟨#[]⟩, .string ⟨#[]⟩, .string ⟨#[]⟩, .string ⟨#[]⟩] 161)
  have c10 := X1.c0
  have c11 := X1.c1
  go_wp2_with fail
  generalize w2.alloc (.cells #[.string ⟨#[]⟩, .string ⟨#[]⟩, .string ⟨#[]⟩, .string ⟨#[]⟩] 161) = W1 at *
  generalize w2.heap.size = g at *
  have hgw : w.heap.size ≤ g := by omega
  have HX1 := Lib.hid X1
  have HX2 := Lib.hid X2
  have HX3 := Lib.hid X3
  have HE := Lib.hid E
  have HA : Hid (C4 W1 g r0 r1 r2 r3 0) := XA
  clear X1 X2 X3 E XA c10 c11
  go_loopw [27] (fun v wr => ∃ z : Int, v = .int .i64 z ∧ Hid ((z = 0 ∧ C4 wr g r0 r1 r2 r3 0) ∨ (z = 1 ∧ C4 wr g r0 r1 r2 r3 2) ∨ (z = 2 ∧ C4 wr g r0 r1 r2 r3 4)) ∧ Hid (Bx wr w.heap.size #[rtx a1, rtx a2] 44) ∧ Hid (Bx wr (w.heap.size + 1) #[rtx b1, rtx b2] 44) ∧ Hid (Bx wr (w.heap.size + 1 + 1) #[.string ⟨#[]⟩, .string ⟨#[]⟩] 44) ∧ Hid (Ext w wr)) (fun v _ => (2 - intOf v).toNat)
  case atStart => exact ⟨0, rfl, .inl ⟨rfl, HA.out⟩, HX1, HX2, HX3, HE⟩
  case round =>
    clear HA HX1 HX2 HX3 HE
    obtain ⟨z, rfl, HS, HX1, HX2, HX3, HE⟩ := hrel
    rcases HS.out with ⟨rfl, hA⟩ | ⟨rfl, hA⟩ | ⟨rfl, hA⟩
    · have HA := Lib.hid hA
      clear hA HS
      obtain ⟨wz, hwz⟩ : ∃ wz : World, wz = wr := ⟨_, rfl⟩
      subst hwz
      all_goals
        have c20 := HX2.out.c0
        have c21 := HX2.out.c1
        go_wp2_with fail
        go_loopw [36] (fun v wr => ∃ z : Int, v = .int .i64 z ∧ Hid ((z = 0 ∧ C4 wr g r0 r1 r2 r3 0) ∨ (z = 1 ∧ C4 wr g r0 r1 r2 r3 1) ∨ (z = 2 ∧ C4 wr g r0 r1 r2 r3 2)) ∧ Hid (Bx wr w.heap.size #[rtx a1, rtx a2] 44) ∧ Hid (Bx wr (w.heap.size + 1) #[rtx b1, rtx b2] 44) ∧ Hid (Bx wr (w.heap.size + 1 + 1) #[.string ⟨#[]⟩, .string ⟨#[]⟩] 44) ∧ Hid (Ext w wr)) (fun v _ => (2 - intOf v).toNat)
        case atStart => exact ⟨0, rfl, .inl ⟨rfl, HA.out⟩, HX1, HX2, HX3, HE⟩
        case round =>
          clear HA HX1 HX2 HX3 HE c20 c21
          obtain ⟨z, rfl, HS, HX1, HX2, HX3, HE⟩ := hrel
          rcases HS.out with ⟨rfl, hA⟩ | ⟨rfl, hA⟩ | ⟨rfl, hA⟩
          · have HA := Lib.hid hA
            clear hA HS
            have k40 : wr.cell? ⟨g, 0, none⟩ = some (.string ⟨#[]⟩) := (show Bx wr g _ 161 from HA.out).c 0
            have k4f := (show Bx wr g _ 161 from HA.out).f 0
            have hi1 : ((0 : Nat) : Int) = 0 := rfl
            go_wp2_with fail
            refine (o0 _ HE.out).mono ?_
            rintro e w3 ⟨rfl, hE⟩
            have HE3 := Lib.hid (HE.out.tr hE)
            have HA3 := Lib.hid (Bx.ext (show Bx wr g _ 161 from HA.out) hE)
            have HX13 := Lib.hid (HX1.out.ext hE)
            have HX23 := Lib.hid (HX2.out.ext hE)
            have HX33 := Lib.hid (HX3.out.ext hE)
            have k50 : w3.cell? ⟨g, 0, none⟩ = some (.string ⟨#[]⟩) := HA3.out.c 0
            have k5f := HA3.out.f 0
            clear hE k40 k4f
            go_wp2_with fail
            have HA4 : Hid (C4 (w3.setCell ⟨g, 0, none⟩ (rtx r0)) g r0 r1 r2 r3 1) := HA3.out.put 0 (rtx r0)
            have HE4 : Hid (Ext w (w3.setCell ⟨g, 0, none⟩ (rtx r0))) := HE3.out.setCell (p := ⟨g, 0, none⟩) hgw (rtx r0)
            have HX14 := Lib.hid (HX13.out.set (p := ⟨g, 0, none⟩) (by show w.heap.size ≠ g; omega) (rtx r0))
            have HX24 := Lib.hid (HX23.out.set (p := ⟨g, 0, none⟩) (by show w.heap.size + 1 ≠ g; omega) (rtx r0))
            have HX34 := Lib.hid (HX33.out.set (p := ⟨g, 0, none⟩) (by show w.heap.size + 1 + 1 ≠ g; omega) (rtx r0))
            go_roundw
            case rel => exact ⟨1, by rfl, .inr (.inl ⟨rfl, HA4.out⟩), HX14, HX24, HX34, HE4⟩
            case measure => simp [intOf]
          · have HA := Lib.hid hA
            clear hA HS
            have k40 : wr.cell? ⟨g, 1, none⟩ = some (.string ⟨#[]⟩) := (show Bx wr g _ 161 from HA.out).c 1
            have k4f := (show Bx wr g _ 161 from HA.out).f 1
            have hi1 : ((0 : Nat) : Int) = 0 := rfl
            go_wp2_with fail
            refine (o1 _ HE.out).mono ?_
            rintro e w3 ⟨rfl, hE⟩
            have HE3 := Lib.hid (HE.out.tr hE)
            have HA3 := Lib.hid (Bx.ext (show Bx wr g _ 161 from HA.out) hE)
            have HX13 := Lib.hid (HX1.out.ext hE)
            have HX23 := Lib.hid (HX2.out.ext hE)
            have HX33 := Lib.hid (HX3.out.ext hE)
            have k50 : w3.cell? ⟨g, 1, none⟩ = some (.string ⟨#[]⟩) := HA3.out.c 1
            have k5f := HA3.out.f 1
            clear hE k40 k4f
            go_wp2_with fail
            have HA4 : Hid (C4 (w3.setCell ⟨g, 1, none⟩ (rtx r1)) g r0 r1 r2 r3 2) := HA3.out.put 1 (rtx r1)
            have HE4 : Hid (Ext w (w3.setCell ⟨g, 1, none⟩ (rtx r1))) := HE3.out.setCell (p := ⟨g, 1, none⟩) hgw (rtx r1)
            have HX14 := Lib.hid (HX13.out.set (p := ⟨g, 1, none⟩) (by show w.heap.size ≠ g; omega) (rtx r1))
            have HX24 := Lib.hid (HX23.out.set (p := ⟨g, 1, none⟩) (by show w.heap.size + 1 ≠ g; omega) (rtx r1))
            have HX34 := Lib.hid (HX33.out.set (p := ⟨g, 1, none⟩) (by show w.heap.size + 1 + 1 ≠ g; omega) (rtx r1))
            go_roundw
            case rel => exact ⟨2, by rfl, .inr (.inr ⟨rfl, HA4.out⟩), HX14, HX24, HX34, HE4⟩
            case measure => simp [intOf]
          · have HA := Lib.hid hA
            clear hA HS
            go_wp2_with fail
            go_roundw
            case rel => exact ⟨1, by rfl, .inr (.inl ⟨rfl, HA.out⟩), HX1, HX2, HX3, HE⟩
            case measure => simp [intOf]
    · have HA := Lib.hid hA
      clear hA HS
      obtain ⟨wz, hwz⟩ : ∃ wz : World, wz = wr := ⟨_, rfl⟩
      subst hwz
      all_goals
        have c20 := HX2.out.c0
        have c21 := HX2.out.c1
        go_wp2_with fail
        go_loopw [36] (fun v wr => ∃ z : Int, v = .int .i64 z ∧ Hid ((z = 0 ∧ C4 wr g r0 r1 r2 r3 2) ∨ (z = 1 ∧ C4 wr g r0 r1 r2 r3 3) ∨ (z = 2 ∧ C4 wr g r0 r1 r2 r3 4)) ∧ Hid (Bx wr w.heap.size #[rtx a1, rtx a2] 44) ∧ Hid (Bx wr (w.heap.size + 1) #[rtx b1, rtx b2] 44) ∧ Hid (Bx wr (w.heap.size + 1 + 1) #[.string ⟨#[]⟩, .string ⟨#[]⟩] 44) ∧ Hid (Ext w wr)) (fun v _ => (2 - intOf v).toNat)
        case atStart => exact ⟨0, rfl, .inl ⟨rfl, HA.out⟩, HX1, HX2, HX3, HE⟩
        case round =>
          clear HA HX1 HX2 HX3 HE c20 c21
          obtain ⟨z, rfl, HS, HX1, HX2, HX3, HE⟩ := hrel
          rcases HS.out with ⟨rfl, hA⟩ | ⟨rfl, hA⟩ | ⟨rfl, hA⟩
          · have HA := Lib.hid hA
            clear hA HS
            have k40 : wr.cell? ⟨g, 2, none⟩ = some (.string ⟨#[]⟩) := (show Bx wr g _ 161 from HA.out).c 2
            have k4f := (show Bx wr g _ 161 from HA.out).f 2
            have hi1 : ((0 : Nat) : Int) = 0 := rfl
            go_wp2_with fail
            refine (o2 _ HE.out).mono ?_
            rintro e w3 ⟨rfl, hE⟩
            have HE3 := Lib.hid (HE.out.tr hE)
            have HA3 := Lib.hid (Bx.ext (show Bx wr g _ 161 from HA.out) hE)
            have HX13 := Lib.hid (HX1.out.ext hE)
            have HX23 := Lib.hid (HX2.out.ext hE)
            have HX33 := Lib.hid (HX3.out.ext hE)
            have k50 : w3.cell? ⟨g, 2, none⟩ = some (.string ⟨#[]⟩) := HA3.out.c 2
            have k5f := HA3.out.f 2
            clear hE k40 k4f
            go_wp2_with fail
            have HA4 : Hid (C4 (w3.setCell ⟨g, 2, none⟩ (rtx r2)) g r0 r1 r2 r3 3) := HA3.out.put 2 (rtx r2)
            have HE4 : Hid (Ext w (w3.setCell ⟨g, 2, none⟩ (rtx r2))) := HE3.out.setCell (p := ⟨g, 2, none⟩) hgw (rtx r2)
            have HX14 := Lib.hid (HX13.out.set (p := ⟨g, 2, none⟩) (by show w.heap.size ≠ g; omega) (rtx r2))
            have HX24 := Lib.hid (HX23.out.set (p := ⟨g, 2, none⟩) (by show w.heap.size + 1 ≠ g; omega) (rtx r2))
            have HX34 := Lib.hid (HX33.out.set (p := ⟨g, 2, none⟩) (by show w.heap.size + 1 + 1 ≠ g; omega) (rtx r2))
            go_roundw
            case rel => exact ⟨1, by rfl, .inr (.inl ⟨rfl, HA4.out⟩), HX14, HX24, HX34, HE4⟩
            case measure => simp [intOf]
          · have HA := Lib.hid hA
            clear hA HS
            have k40 : wr.cell? ⟨g, 3, none⟩ = some (.string ⟨#[]⟩) := (show Bx wr g _ 161 from HA.out).c 3
            have k4f := (show Bx wr g _ 161 from HA.out).f 3
            have hi1 : ((0 : Nat) : Int) = 0 := rfl
            go_wp2_with fail
            refine (o3 _ HE.out).mono ?_
            rintro e w3 ⟨rfl, hE⟩
            have HE3 := Lib.hid (HE.out.tr hE)
            have HA3 := Lib.hid (Bx.ext (show Bx wr g _ 161 from HA.out) hE)
            have HX13 := Lib.hid (HX1.out.ext hE)
            have HX23 := Lib.hid (HX2.out.ext hE)
            have HX33 := Lib.hid (HX3.out.ext hE)
            have k50 : w3.cell? ⟨g, 3, none⟩ = some (.string ⟨#[]⟩) := HA3.out.c 3
            have k5f := HA3.out.f 3
            clear hE k40 k4f
            go_wp2_with fail
            have HA4 : Hid (C4 (w3.setCell ⟨g, 3, none⟩ (rtx r3)) g r0 r1 r2 r3 4) := HA3.out.put 3 (rtx r3)
            have HE4 : Hid (Ext w (w3.setCell ⟨g, 3, none⟩ (rtx r3))) := HE3.out.setCell (p := ⟨g, 3, none⟩) hgw (rtx r3)
            have HX14 := Lib.hid (HX13.out.set (p := ⟨g, 3, none⟩) (by show w.heap.size ≠ g; omega) (rtx r3))
            have HX24 := Lib.hid (HX23.out.set (p := ⟨g, 3, none⟩) (by show w.heap.size + 1 ≠ g; omega) (rtx r3))
            have HX34 := Lib.hid (HX33.out.set (p := ⟨g, 3, none⟩) (by show w.heap.size + 1 + 1 ≠ g; omega) (rtx r3))
            go_roundw
            case rel => exact ⟨2, by rfl, .inr (.inr ⟨rfl, HA4.out⟩), HX14, HX24, HX34, HE4⟩
            case measure => simp [intOf]
          · have HA := Lib.hid hA
            clear hA HS
            go_wp2_with fail
            go_roundw
            case rel => exact ⟨2, by rfl, .inr (.inr ⟨rfl, HA.out⟩), HX1, HX2, HX3, HE⟩
            case measure => simp [intOf]
    · have HA := Lib.hid hA
      clear hA HS
      have h4 := fun W (hE : Ext w W) => h3 W g hE
      go_wp2_with fail
      refine (h4 _ HE.out (ps_of4 (show Bx wr g #[rtx r0, rtx r1, rtx r2, rtx r3] 161 from HA.out))).mono ?_
      rintro e w3 ⟨rfl, hE⟩
      have HE3 := Lib.hid (HE.out.tr hE)
      have HX33 := Lib.hid (HX3.out.ext hE)
      obtain ⟨d0, d1, e0, e1⟩ := HX33.out.e2
      clear hE
      go_wp2_with fail
      obtain ⟨m0, m1⟩ := set2 HX33.out (rtx s1) (rtx s2)
      refine bodyPost_ret (v := .tuple #[.agg #[rtx s1, rtx s2], .int .i64 0]) ?_ rfl ⟨rfl, ext_set2 (b := w.heap.size + 1 + 1) HE3.out (by omega) _ _⟩
      simp [results, Tryz.f120, go_sem, m0, m1]
end Go.Proofs.YtbldlibijojbjaaGreatDoor.GB

namespace Go.Proofs.YtbldlibijojbjaaGreatDoor.GB
set_option linter.unusedVariables false
set_option linter.unusedSimpArgs false
open Go.RowKit Go.Shelf
attribute [local go_sem ↓] Go.wp_at_zero Go.wp_at_succ

theorem endR_le {s : Rat × Rat} {a : Rat} (h : s.1 ≤ s.2) : (endR s a).1 ≤ (endR s a).2 := by
  unfold endR
  show (if _ then _ else _) ≤ (if _ then _ else _)
  split <;> split <;> grind
theorem foldl_endR_le (l : Pl) (s : Rat × Rat) (h : s.1 ≤ s.2) : (l.foldl endR s).1 ≤ (l.foldl endR s).2 := by
  induction l generalizing s with
  | nil => exact h
  | cons a l ih => exact ih _ (endR_le h)
theorem endsR_le (x : Rat) (l : Pl) : (endsR (x :: l)).1 ≤ (endsR (x :: l)).2 := foldl_endR_le l (x, x) Rat.le_refl
theorem foldl_endR_bd {n : Nat} (l : Pl) (s : Rat × Rat) (h : Bd s.1 n ∧ Bd s.2 n) (hl : PB l n) : Bd (l.foldl endR s).1 n ∧ Bd (l.foldl endR s).2 n := by
  induction l generalizing s with
  | nil => exact h
  | cons a l ih => exact ih _ (endR_bd h.1 h.2 (hl a (by simp))) (fun q hq => hl q (by simp [hq]))
theorem endsR_bd {n : Nat} (x : Rat) (l : Pl) (h : PB (x :: l) n) : Bd (endsR (x :: l)).1 n ∧ Bd (endsR (x :: l)).2 n :=
  foldl_endR_bd l (x, x) ⟨h x (by simp), h x (by simp)⟩ (fun q hq => h q (by simp [hq]))
/-- The products, the sums of two intervals. -/
def imulR (a b : Rat × Rat) : Rat × Rat := endsR [a.1 * b.1, a.1 * b.2, a.2 * b.1, a.2 * b.2]
def iaddR (a b : Rat × Rat) : Rat × Rat := endsR [a.1 + b.1, a.1 + b.2, a.2 + b.1, a.2 + b.2]
abbrev IQ (a : Rat × Rat) : Value := .agg #[rtx a.1, rtx a.2]
theorem pb4 {x y z t : Rat} {n : Nat} (h0 : Bd x n) (h1 : Bd y n) (h2 : Bd z n) (h3 : Bd t n) : PB [x, y, z, t] n := by
  intro q hq
  simp at hq
  rcases hq with rfl | rfl | rfl | rfl <;> assumption
theorem imulR_bd {a b : Rat × Rat} {m n : Nat} (ha : Bd a.1 m ∧ Bd a.2 m) (hb : Bd b.1 n ∧ Bd b.2 n) : Bd (imulR a b).1 (m + n) ∧ Bd (imulR a b).2 (m + n) :=
  endsR_bd _ _ (pb4 (ha.1.mul hb.1) (ha.1.mul hb.2) (ha.2.mul hb.1) (ha.2.mul hb.2))
theorem iaddR_bd {a b : Rat × Rat} {m n : Nat} (ha : Bd a.1 m ∧ Bd a.2 m) (hb : Bd b.1 n ∧ Bd b.2 n) : Bd (iaddR a b).1 (m + n + 1) ∧ Bd (iaddR a b).2 (m + n + 1) :=
  endsR_bd _ _ (pb4 (ha.1.add hb.1) (ha.1.add hb.2) (ha.2.add hb.1) (ha.2.add hb.2))
set_option maxHeartbeats 2000000 in
set_option maxRecDepth 100000 in
theorem iMul_g (a1 a2 b1 b2 s1 s2 : Rat) (w : World) (h : ∀ W, Ext w W → Calls Tryz.prog 120 #[.func (.func 44) #[] #[], .agg #[rtx a1, rtx a2], .agg #[rtx b1, rtx b2]] W fun e w' => e = .returned (.tuple #[.agg #[rtx s1, rtx s2], .int .i64 0]) ∧ Ext W w') :
    Calls Tryz.prog 80 #[.agg #[rtx a1, rtx a2], .agg #[rtx b1, rtx b2]] w fun e w' => e = .returned (.tuple #[.agg #[rtx s1, rtx s2], .int .i64 0]) ∧ Ext w w' := by
  obtain ⟨X1, X2, X3, E⟩ := boxes3 w #[rtx a1, rtx a2] #[rtx b1, rtx b2] #[.string ⟨#[]⟩, .string ⟨#[]⟩] 44
  go_enter Tryz.func80, Tryz.ntmps80
  go_wp2_with fail
  generalize ((w.alloc (.cells #[rtx a1, rtx a2] 44)).alloc (.cells #[rtx b1, rtx b2] 44)).alloc (.cells #[.string ⟨#[]⟩, .string ⟨#[]⟩] 44) = W0 at *
  refine (h _ E).mono ?_
  rintro e w1 ⟨rfl, hE⟩
  replace X3 := X3.ext hE
  replace E := E.tr hE
  clear hE h X1 X2
  obtain ⟨c0, c1, f0, f1⟩ := X3.e2
  go_wp2_with fail
  obtain ⟨m0, m1⟩ := set2 X3 (rtx s1) (rtx s2)
  refine bodyPost_ret (v := .tuple #[.agg #[rtx s1, rtx s2], .int .i64 0]) ?_ rfl ⟨rfl, ext_set2 (b := w.heap.size + 1 + 1) E (by omega) _ _⟩
  simp [results, Tryz.f80, go_sem, m0, m1]
theorem iMul_q (a b : Rat × Rat) (m n : Nat) (w : World) (hW : Wd w) (ha : Bd a.1 m ∧ Bd a.2 m) (hb : Bd b.1 n ∧ Bd b.2 n) (la : a.1 ≤ a.2) (lb : b.1 ≤ b.2) (hk : 2 * (m + n) + 10 ≤ KK) :
    Calls Tryz.prog 80 #[IQ a, IQ b] w fun e w' => e = .returned (.tuple #[IQ (imulR a b), .int .i64 0]) ∧ Ext w w' :=
  iMul_g _ _ _ _ _ _ w fun W hE => corn_mul a.1 a.2 b.1 b.2 (a.1 * b.1) (a.1 * b.2) (a.2 * b.1) (a.2 * b.2) _ _ W
    (fun W' hE' => by have h := iValid_q a.1 a.2 m m W' ((hW.ext hE).ext hE') ha.1 ha.2 (by omega); rwa [decide_eq_true la] at h)
    (fun W' hE' => by have h := iValid_q b.1 b.2 n n W' ((hW.ext hE).ext hE') hb.1 hb.2 (by omega); rwa [decide_eq_true lb] at h)
    (fun W' hE' => rMul_q _ _ m n W' ((hW.ext hE).ext hE') ha.1 hb.1 (by omega))
    (fun W' hE' => rMul_q _ _ m n W' ((hW.ext hE).ext hE') ha.1 hb.2 (by omega))
    (fun W' hE' => rMul_q _ _ m n W' ((hW.ext hE).ext hE') ha.2 hb.1 (by omega))
    (fun W' hE' => rMul_q _ _ m n W' ((hW.ext hE).ext hE') ha.2 hb.2 (by omega))
    (fun W' g hE' hps => ends_q g 4 (a.1 * b.1) [a.1 * b.2, a.2 * b.1, a.2 * b.2] 3 (m + n) W' rfl (by omega) (by omega) (by omega) (by omega) ((hW.ext hE).ext hE') hps (pb4 (ha.1.mul hb.1) (ha.1.mul hb.2) (ha.2.mul hb.1) (ha.2.mul hb.2)) (by omega))
set_option maxHeartbeats 2000000 in
set_option maxRecDepth 100000 in
theorem iAdd_g (a1 a2 b1 b2 s1 s2 : Rat) (w : World) (h : ∀ W, Ext w W → Calls Tryz.prog 120 #[.func (.func 42) #[] #[], .agg #[rtx a1, rtx a2], .agg #[rtx b1, rtx b2]] W fun e w' => e = .returned (.tuple #[.agg #[rtx s1, rtx s2], .int .i64 0]) ∧ Ext W w') :
    Calls Tryz.prog 81 #[.agg #[rtx a1, rtx a2], .agg #[rtx b1, rtx b2]] w fun e w' => e = .returned (.tuple #[.agg #[rtx s1, rtx s2], .int .i64 0]) ∧ Ext w w' := by
  obtain ⟨X1, X2, X3, E⟩ := boxes3 w #[rtx a1, rtx a2] #[rtx b1, rtx b2] #[.string ⟨#[]⟩, .string ⟨#[]⟩] 44
  go_enter Tryz.func81, Tryz.ntmps81
  go_wp2_with fail
  generalize ((w.alloc (.cells #[rtx a1, rtx a2] 44)).alloc (.cells #[rtx b1, rtx b2] 44)).alloc (.cells #[.string ⟨#[]⟩, .string ⟨#[]⟩] 44) = W0 at *
  refine (h _ E).mono ?_
  rintro e w1 ⟨rfl, hE⟩
  replace X3 := X3.ext hE
  replace E := E.tr hE
  clear hE h X1 X2
  obtain ⟨c0, c1, f0, f1⟩ := X3.e2
  go_wp2_with fail
  obtain ⟨m0, m1⟩ := set2 X3 (rtx s1) (rtx s2)
  refine bodyPost_ret (v := .tuple #[.agg #[rtx s1, rtx s2], .int .i64 0]) ?_ rfl ⟨rfl, ext_set2 (b := w.heap.size + 1 + 1) E (by omega) _ _⟩
  simp [results, Tryz.f81, go_sem, m0, m1]
theorem iAdd_q (a b : Rat × Rat) (m n : Nat) (w : World) (hW : Wd w) (ha : Bd a.1 m ∧ Bd a.2 m) (hb : Bd b.1 n ∧ Bd b.2 n) (la : a.1 ≤ a.2) (lb : b.1 ≤ b.2) (hk : 2 * (m + n) + 10 ≤ KK) :
    Calls Tryz.prog 81 #[IQ a, IQ b] w fun e w' => e = .returned (.tuple #[IQ (iaddR a b), .int .i64 0]) ∧ Ext w w' :=
  iAdd_g _ _ _ _ _ _ w fun W hE => corn_add a.1 a.2 b.1 b.2 (a.1 + b.1) (a.1 + b.2) (a.2 + b.1) (a.2 + b.2) _ _ W
    (fun W' hE' => by have h := iValid_q a.1 a.2 m m W' ((hW.ext hE).ext hE') ha.1 ha.2 (by omega); rwa [decide_eq_true la] at h)
    (fun W' hE' => by have h := iValid_q b.1 b.2 n n W' ((hW.ext hE).ext hE') hb.1 hb.2 (by omega); rwa [decide_eq_true lb] at h)
    (fun W' hE' => rAdd_q _ _ m n W' ((hW.ext hE).ext hE') ha.1 hb.1 (by omega))
    (fun W' hE' => rAdd_q _ _ m n W' ((hW.ext hE).ext hE') ha.1 hb.2 (by omega))
    (fun W' hE' => rAdd_q _ _ m n W' ((hW.ext hE).ext hE') ha.2 hb.1 (by omega))
    (fun W' hE' => rAdd_q _ _ m n W' ((hW.ext hE).ext hE') ha.2 hb.2 (by omega))
    (fun W' g hE' hps => ends_q g 4 (a.1 + b.1) [a.1 + b.2, a.2 + b.1, a.2 + b.2] 3 (m + n + 1) W' rfl (by omega) (by omega) (by omega) (by omega) ((hW.ext hE).ext hE') hps (pb4 (ha.1.add hb.1) (ha.1.add hb.2) (ha.2.add hb.1) (ha.2.add hb.2)) (by omega))
end Go.Proofs.YtbldlibijojbjaaGreatDoor.GB

namespace Go.Proofs.YtbldlibijojbjaaGreatDoor.GB
set_option linter.unusedVariables false
set_option linter.unusedSimpArgs false
open Go.RowKit Go.Shelf
attribute [local go_sem] Oper.semAt_some

/-- Horner's rule with intervals. -/
def enc {b : Nat} (I : Rat × Rat) (pre : List (NQ b)) : Rat × Rat := pre.foldl (fun a x => iaddR (imulR a I) (x.1.2, x.1.2)) (0, 0)
theorem enc_snoc {b : Nat} (I : Rat × Rat) (pre : List (NQ b)) (x : NQ b) : enc I (pre ++ [x]) = iaddR (imulR (enc I pre) I) (x.1.2, x.1.2) := by simp [enc]
theorem enc_le {b : Nat} (I : Rat × Rat) (pre : List (NQ b)) : (enc I pre).1 ≤ (enc I pre).2 := by
  rcases List.eq_nil_or_concat pre with rfl | ⟨q, x, rfl⟩
  · exact Rat.le_refl
  · rw [List.concat_eq_append, enc_snoc]; exact endsR_le _ _
theorem Bx.kept {W W' : World} {row : Option Nat} {b : Nat} {cs : Array Value} {T : TypeId} (h : Bx W b cs T) (hg : W.grownBy W' row) (hr : ∀ r, row = some r → ∃ o : Obj, W.heap[r]? = some o ∧ o.isCells = false) : Bx W' b cs T := (grownBy_keeps_cells hg hr h rfl).trans h
set_option maxHeartbeats 8000000 in
set_option maxRecDepth 100000 in
theorem enclose_some (A : Option Addr) (c : Nat) (p : Pl) (I1 I2 : Rat) (zl : Nat) (n m : Nat) (w : World) (HZ : Hid (zl = p.length)) (hl : zl ≤ 1000) (hW : Wd w) (hA : PS w (.slice A zl c) p) (hp : PB p n) (hI1 : Bd I1 m) (hI2 : Bd I2 m) (hle : I1 ≤ I2)
    (hk : 2 * (zl * (m + n + 1) + m + n) + 20 ≤ KK)
    (hv1 : VA (.slice A zl c) true w) (hv2 : ∀ W, Ext w W → Calls Tryz.prog 79 #[.agg #[rtx I1, rtx I2]] W fun e w' => e = .returned (.bool true) ∧ Ext W w') :
    Calls Tryz.prog 39 #[.slice A zl c, .agg #[rtx I1, rtx I2]] w fun e w' => e = .returned (.tuple #[IQ (enc (I1, I2) (pdn n p zl)), .int .i64 0]) ∧ Ext w w' := by
  refine (callsIn_wide (n := 5)).1 ?_
  have HA := Lib.hid hA
  clear hA
  refine callsIn_of_wp_marks Tryz.func39 rfl trivial ?_ rfl
  simp only [Tryz.ntmps39, List.size_toArray, List.length_cons, List.length_nil, Nat.reduceAdd, Nat.reduceSub, Array.replicate_succ, Array.replicate_zero, List.push_toArray, List.append_toArray, List.nil_append, List.cons_append]
  obtain ⟨b3, b4, E0⟩ := boxes2 w #[rtx I1, rtx I2] #[.string ⟨#[]⟩, .string ⟨#[]⟩] 44
  gi_wp2
  generalize (w.alloc (.cells #[rtx I1, rtx I2] 44)).alloc (.cells #[.string ⟨#[]⟩, .string ⟨#[]⟩] 44) = W0 at *
  refine ⟨trivial, ?_⟩
  refine (callsIn_wide.2 (hv1 _ E0)).mono ?_
  rintro e w1 ⟨rfl, hE1⟩
  replace b3 := b3.ext hE1
  replace b4 := b4.ext hE1
  have E1 := E0.tr hE1
  obtain ⟨c30, c31, -, -⟩ := b3.e2
  clear hE1 E0
  gi_wp2
  refine ⟨trivial, ?_⟩
  refine (callsIn_wide.2 (hv2 _ E1)).mono ?_
  rintro e w2 ⟨rfl, hE2⟩
  replace b3 := b3.ext hE2
  replace b4 := b4.ext hE2
  have E2 := E1.tr hE2
  clear hE2 E1 c30 c31 hv1 hv2
  gi_wp2
  have b6 : Bx (w2.alloc (.cells #[.string ⟨#[48]⟩, .string ⟨#[48]⟩] 44)) w2.heap.size #[rtx 0, rtx 0] 44 := by
    have h := Bx.new w2 #[.string ⟨#[48]⟩, .string ⟨#[48]⟩] 44
    rw [← rb_v, rb0]; exact h
  have hz2 : w.heap.size + 1 < w2.heap.size := b4.lt
  replace b3 := b3.al (.cells #[.string ⟨#[48]⟩, .string ⟨#[48]⟩] 44)
  replace b4 := b4.al (.cells #[.string ⟨#[48]⟩, .string ⟨#[48]⟩] 44)
  have E3 := E2.al (.cells #[.string ⟨#[48]⟩, .string ⟨#[48]⟩] 44)
  have hz3 : (w2.alloc (.cells #[.string ⟨#[48]⟩, .string ⟨#[48]⟩] 44)).heap.size = w2.heap.size + 1 := World.size_alloc _ _
  generalize w2.alloc (.cells #[.string ⟨#[48]⟩, .string ⟨#[48]⟩] 44) = w3 at *
  refine ⟨trivial, ?_⟩
  refine (pbackward_in Fence.wide (5 - 1) trivial rfl A zl c w3).mono ?_
  rintro e w4 ⟨rfl, rfl⟩
  have bx := Boxed.new w3 25 (.slice A zl c)
  replace b3 := b3.al (.cells #[.slice A zl c] 25)
  replace b4 := b4.al (.cells #[.slice A zl c] 25)
  replace b6 := b6.al (.cells #[.slice A zl c] 25)
  have E4 := E3.al (.cells #[.slice A zl c] 25)
  have hz4 : (w3.alloc (.cells #[.slice A zl c] 25)).heap.size = w2.heap.size + 1 + 1 := by rw [World.size_alloc, hz3]
  generalize w3.alloc (.cells #[.slice A zl c] 25) = w4 at *
  rw [hz3] at *
  clear E3 E2
  generalize w2.heap.size = g at *
  clear hz3
  gi_wp2
  have hst := pback_stops Fence.wide (5 - 1) trivial rfl (by omega) (g + 1) w.heap.size A c p zl HZ (by omega) n hp w w4 rfl E4 (by omega) HA.out bx.cell
  refine wpIn_rangeFunc_ownF (F := Fence.wide) rfl (by omega) (gf := 103) (lb := #[.pointer (some ⟨g + 1, 0, none⟩)]) rfl trivial (enters_of Tryz.func103 (by kernel_rfl) rfl)
    hst Kps.t (Kps.b (by omega)) (Below.refl _ _) (fun _ => rfl)
    (fun pre W => (Bx W g #[rtx (enc (I1, I2) pre).1, rtx (enc (I1, I2) pre).2] 44 ∧ Bx W w.heap.size #[rtx I1, rtx I2] 44 ∧ Boxed W (g + 1) 25 (.slice A zl c) ∧ (Bd (enc (I1, I2) pre).1 (pre.length * (m + n + 1)) ∧ Bd (enc (I1, I2) pre).2 (pre.length * (m + n + 1))) ∧ Bx W (w.heap.size + 1) #[.string ⟨#[]⟩, .string ⟨#[]⟩] 44) ∧ Below w.heap.size w W)
    (fun _ _ _ => False)
    (OwnFrom.and (Own.from (fun s X Y row hs hg hr => ⟨hs.1.kept hg hr, hs.2.1.kept hg hr, (grownBy_keeps_cells hg hr hs.2.2.1 rfl).trans hs.2.2.1, hs.2.2.2.1, hs.2.2.2.2.kept hg hr⟩) _) (ownFrom_below (Nat.le_refl _) (by omega)))
    (fun _ _ _ _ _ hs _ _ => hs)
    ⟨⟨b6, b3, bx, ⟨(Bd.of_int 0 0 (by decide)).mono (Nat.zero_le _), (Bd.of_int 0 0 (by decide)).mono (Nat.zero_le _)⟩, b4⟩, E4⟩
    (fun x => { tmps := #[.slice A zl c, .agg #[rtx I1, rtx I2], undef, .pointer (some ⟨w.heap.size, 0, none⟩), .pointer (some ⟨w.heap.size + 1, 0, none⟩), .int .i64 0, .pointer (some ⟨g, 0, none⟩), undef, rtx x.1.2, .slice A zl c, .bool true, .bool false, .bool false, .agg #[rtx I1, rtx I2], .bool true, .bool false, .bool false, undef, .agg #[.string ⟨#[48]⟩, .string ⟨#[48]⟩], .slice A zl c, .func (.func 103) #[] #[.pointer (some ⟨g + 1, 0, none⟩)], .int .i64 (x.1.1 : Int), rtx x.1.2, undef, undef, undef, undef, undef, undef, undef, undef, undef, undef, undef, undef, undef, undef, undef], defers := [] }) ?assign ?body ?done ?stop
  case assign =>
    intro l x W K hK
    gi_wp2
    exact hK
  case body =>
    rintro l pre ⟨⟨i, C⟩, hi1, hbC⟩ W ⟨⟨h6, h3, hx, hbd, h4⟩, hb⟩ hpl
    dsimp only at hi1 hbC ⊢
    have hWw := Lib.hid (Wd.ext hW hb)
    obtain ⟨c60, c61, -, -⟩ := h6.e2
    obtain ⟨c30, c31, -, -⟩ := h3.e2
    have hB : pre.length * (m + n + 1) ≤ zl * (m + n + 1) := Nat.mul_le_mul_right _ (by omega)
    have hs := enc_snoc (I1, I2) pre ⟨(i, C), hi1, hbC⟩
    have hle2 := enc_le (I1, I2) pre
    dsimp only at hs
    generalize hA0 : enc (I1, I2) pre = a at *
    have hM := fun W (hw : Wd W) => iMul_q a (I1, I2) _ m W hw hbd ⟨hI1, hI2⟩ hle2 hle (by omega)
    have hmb := imulR_bd hbd (b := (I1, I2)) ⟨hI1, hI2⟩
    have hml : (imulR a (I1, I2)).1 ≤ (imulR a (I1, I2)).2 := endsR_le _ _
    generalize imulR a (I1, I2) = q at *
    have hAd := fun W (hw : Wd W) => iAdd_q q (C, C) _ n W hw hmb ⟨hbC, hbC⟩ hml Rat.le_refl (by omega)
    have hab := iaddR_bd hmb (b := (C, C)) ⟨hbC, hbC⟩
    generalize iaddR q (C, C) = t at *
    have hbs : Bd t.1 ((pre.length + 1) * (m + n + 1)) ∧ Bd t.2 ((pre.length + 1) * (m + n + 1)) := by
      have e : (pre.length + 1) * (m + n + 1) = pre.length * (m + n + 1) + (m + n + 1) := Nat.succ_mul _ _
      exact ⟨hab.1.mono (by omega), hab.2.mono (by omega)⟩
    have HM := Lib.hid hM
    have HAd := Lib.hid hAd
    have HS := Lib.hid hs
    clear hM hAd hs hB hab hmb hml hle2 hA0
    gi_wp2
    refine ⟨trivial, ?_⟩
    refine (CallsIn.inRound l (callsIn_wide.2 (HM.out W hWw.out))).mono ?_
    rintro e W1 ⟨rfl, hE1⟩
    have HE1 := Lib.hid hE1
    have k6 := h6.ext hE1
    obtain ⟨d60, d61, e60, e61⟩ := k6.e2
    clear hE1
    gi_wp2
    have kk := k6.put0 (rtx q.1)
    have kk2 := kk.put1 (rtx q.2)
    obtain ⟨p60, p61, r60, r61⟩ := kk2.e2
    have hbW1 : Below w.heap.size W W1 := HE1.out.mono hb.size
    have hbW2 : Below w.heap.size W ((W1.setCell ⟨g, 0, none⟩ (rtx q.1)).setCell ⟨g, 1, none⟩ (rtx q.2)) := (hbW1.setCell (p := ⟨g, 0, none⟩) (by show w.heap.size ≤ g; omega) _).setCell (p := ⟨g, 1, none⟩) (by show w.heap.size ≤ g; omega) _
    have hWW2 : Hid (Wd ((W1.setCell ⟨g, 0, none⟩ (rtx q.1)).setCell ⟨g, 1, none⟩ (rtx q.2))) := Wd.ext hW (hb.trans hbW2)
    have k4 := ((h4.ext HE1.out).set (p := ⟨g, 0, none⟩) (by show w.heap.size + 1 ≠ g; omega) (rtx q.1)).set (p := ⟨g, 1, none⟩) (by show w.heap.size + 1 ≠ g; omega) (rtx q.2)
    have k3 := ((h3.ext HE1.out).set (p := ⟨g, 0, none⟩) (by show w.heap.size ≠ g; omega) (rtx q.1)).set (p := ⟨g, 1, none⟩) (by show w.heap.size ≠ g; omega) (rtx q.2)
    have kx : Boxed ((W1.setCell ⟨g, 0, none⟩ (rtx q.1)).setCell ⟨g, 1, none⟩ (rtx q.2)) (g + 1) 25 (.slice A zl c) := ((Bx.ext (cs := #[.slice A zl c]) hx HE1.out).set (p := ⟨g, 0, none⟩) (by show g + 1 ≠ g; omega) (rtx q.1)).set (p := ⟨g, 1, none⟩) (by show g + 1 ≠ g; omega) (rtx q.2)
    have hkeep : Hid (KeepsOthers W ((W1.setCell ⟨g, 0, none⟩ (rtx q.1)).setCell ⟨g, 1, none⟩ (rtx q.2))) := ((ext_keeps HE1.out).trans (KeepsOthers.setCell _ _ _)).trans (KeepsOthers.setCell _ _ _)
    generalize (W1.setCell ⟨g, 0, none⟩ (rtx q.1)).setCell ⟨g, 1, none⟩ (rtx q.2) = W2 at *
    clear kk k6 d60 d61 e60 e61
    refine ⟨trivial, ?_⟩
    refine (CallsIn.inRound l (callsIn_wide.2 (HAd.out W2 hWW2.out))).mono ?_
    rintro e W3 ⟨rfl, hE3⟩
    have HE3 := Lib.hid hE3
    have k7 := kk2.ext hE3
    obtain ⟨d60, d61, e60, e61⟩ := k7.e2
    clear hE3
    gi_wp2
    have hbW3 : Below w.heap.size W W3 := hbW2.trans (HE3.out.mono (by have := hb.size; have := hbW2.size; omega))
    have hbW4 : Below w.heap.size W ((W3.setCell ⟨g, 0, none⟩ (rtx t.1)).setCell ⟨g, 1, none⟩ (rtx t.2)) := (hbW3.setCell (p := ⟨g, 0, none⟩) (by show w.heap.size ≤ g; omega) _).setCell (p := ⟨g, 1, none⟩) (by show w.heap.size ≤ g; omega) _
    have j4 := ((k4.ext HE3.out).set (p := ⟨g, 0, none⟩) (by show w.heap.size + 1 ≠ g; omega) (rtx t.1)).set (p := ⟨g, 1, none⟩) (by show w.heap.size + 1 ≠ g; omega) (rtx t.2)
    have j3 := ((k3.ext HE3.out).set (p := ⟨g, 0, none⟩) (by show w.heap.size ≠ g; omega) (rtx t.1)).set (p := ⟨g, 1, none⟩) (by show w.heap.size ≠ g; omega) (rtx t.2)
    have jx : Boxed ((W3.setCell ⟨g, 0, none⟩ (rtx t.1)).setCell ⟨g, 1, none⟩ (rtx t.2)) (g + 1) 25 (.slice A zl c) := ((Bx.ext (cs := #[.slice A zl c]) kx HE3.out).set (p := ⟨g, 0, none⟩) (by show g + 1 ≠ g; omega) (rtx t.1)).set (p := ⟨g, 1, none⟩) (by show g + 1 ≠ g; omega) (rtx t.2)
    have j6 := (k7.put0 (rtx t.1)).put1 (rtx t.2)
    have hkk : Kps w.heap.size (g + 1) W ((W3.setCell ⟨g, 0, none⟩ (rtx t.1)).setCell ⟨g, 1, none⟩ (rtx t.2)) := by
      refine ⟨hbW4, fun v e => ?_⟩
      rw [hx.cell] at e
      rw [jx.cell]; exact e
    refine ⟨((hkeep.out.trans (ext_keeps HE3.out)).trans (KeepsOthers.setCell _ _ _)).trans (KeepsOthers.setCell _ _ _), hkk, ⟨?_, j3, jx, ?_, j4⟩, hb.trans hkk.1⟩
    · rw [HS.out]; exact j6
    · rw [HS.out, List.length_append, List.length_singleton]; exact hbs
  case done =>
    rintro D ys W hD rfl ⟨⟨h6, h3, hx, hbd, h4⟩, hb⟩ hK
    obtain ⟨c60, c61, -, -⟩ := h6.e2
    obtain ⟨c40, c41, f40, f41⟩ := h4.e2
    gi_wp2
    generalize enc (I1, I2) (pdn n p zl) = s at *
    have kk := (h4.put0 (rtx s.1)).put1 (rtx s.2)
    have hD' : D ≠ w.heap.size + 1 := by omega
    have hK' : ((W.setCell ⟨w.heap.size + 1, 0, none⟩ (rtx s.1)).setCell ⟨w.heap.size + 1, 1, none⟩ (rtx s.2)).heap[D]? = some (.deferred (some [])) := by
      rw [Below.heap_setCell _ _ _ _ hD', Below.heap_setCell _ _ _ _ hD']; exact hK
    refine ⟨by simp, .inl ⟨_, _, rfl, run_takeDeferred hK', ?_⟩⟩
    have hk2 := Bx.kept kk (grownBy_putObj' _ D (.deferred none)) (fun r e => by cases e; exact ⟨_, hK', rfl⟩)
    obtain ⟨m0, m1, -, -⟩ := hk2.e2
    refine ⟨.tuple #[IQ s, .int .i64 0], ?_, rfl, ?_⟩
    · simp [results, Tryz.f39, go_sem, m0, m1, IQ]
    · exact ((hb.setCell (p := ⟨w.heap.size + 1, 0, none⟩) (by show w.heap.size ≤ w.heap.size + 1; omega) _).setCell (p := ⟨w.heap.size + 1, 1, none⟩) (by show w.heap.size ≤ w.heap.size + 1; omega) _).trans (belowK_b (w := w) (Nat.le_refl _) _ D _ _ (by omega) hK' rfl rfl)
  case stop =>
    rintro D c pre W _ _ h _
    exact h.elim
end Go.Proofs.YtbldlibijojbjaaGreatDoor.GB

namespace Go.Proofs.YtbldlibijojbjaaGreatDoor.GB
set_option linter.unusedVariables false
set_option linter.unusedSimpArgs false
open Go.RowKit Go.Shelf
attribute [local go_sem] Oper.semAt_some
/-- rational.Valid hands back a bool. -/
def RVA (v : Value) (b : Bool) (w : World) : Prop := ∀ W, Ext w W → Calls Tryz.prog 41 #[v] W fun e w' => e = .returned (.bool b) ∧ Ext W w'
/-- interval.Valid hands back a bool. -/
def IVA (v : Value) (b : Bool) (w : World) : Prop := ∀ W, Ext w W → Calls Tryz.prog 79 #[v] W fun e w' => e = .returned (.bool b) ∧ Ext W w'
/-- The empty text and an error. -/
def RetT (k : Int) (w : World) (e : Ending) (w' : World) : Prop := e = .returned (.tuple #[.string ⟨#[]⟩, .int .i64 k]) ∧ Ext w w'
def RetIv (k : Int) (w : World) (e : Ending) (w' : World) : Prop := e = .returned (.tuple #[.agg #[.string ⟨#[]⟩, .string ⟨#[]⟩], .int .i64 k]) ∧ Ext w w'
set_option maxHeartbeats 1000000 in
set_option maxRecDepth 100000 in
theorem eval_n1 (v : Value) (x : ByteArray) (w : World) (hv : VA v false w) :
    Calls Tryz.prog 31 #[v, .string x] w (RetT 1 w) := by
  refine (callsIn_wide (n := 5)).1 ?_
  refine callsIn_of_wp_marks Tryz.func31 rfl trivial ?_ rfl
  simp only [Tryz.ntmps31, List.size_toArray, List.length_cons, List.length_nil, Nat.reduceAdd, Nat.reduceSub, Array.replicate_succ, Array.replicate_zero, List.push_toArray, List.append_toArray, List.nil_append, List.cons_append]
  have E0 := (Ext.rfl' w).al (.cells #[.string x] 30)
  have b3 := Boxed.new w 30 (.string x)
  gi_wp2
  generalize w.alloc (.cells #[.string x] 30) = W0 at *
  refine ⟨trivial, ?_⟩
  refine (callsIn_wide.2 (hv _ E0)).mono ?_
  rintro e w1 ⟨rfl, hE1⟩
  replace b3 := b3.kept (ext_grown hE1) (by simp)
  have E1 := E0.tr hE1
  have hc3 := b3.cell
  clear hE1 E0
  gi_wp2
  refine ⟨trivial, ?_⟩
  gi_wp2
  exact ⟨_, results_tmp2 rfl _ _ _, rfl, E1⟩
set_option maxHeartbeats 1000000 in
set_option maxRecDepth 100000 in
theorem eval_n2 (v : Value) (x : ByteArray) (w : World) (hv : VA v true w) (hx : RVA (.string x) false w) :
    Calls Tryz.prog 31 #[v, .string x] w (RetT 1 w) := by
  refine (callsIn_wide (n := 5)).1 ?_
  refine callsIn_of_wp_marks Tryz.func31 rfl trivial ?_ rfl
  simp only [Tryz.ntmps31, List.size_toArray, List.length_cons, List.length_nil, Nat.reduceAdd, Nat.reduceSub, Array.replicate_succ, Array.replicate_zero, List.push_toArray, List.append_toArray, List.nil_append, List.cons_append]
  have E0 := (Ext.rfl' w).al (.cells #[.string x] 30)
  have b3 := Boxed.new w 30 (.string x)
  gi_wp2
  generalize w.alloc (.cells #[.string x] 30) = W0 at *
  refine ⟨trivial, ?_⟩
  refine (callsIn_wide.2 (hv _ E0)).mono ?_
  rintro e w1 ⟨rfl, hE1⟩
  replace b3 := b3.kept (ext_grown hE1) (by simp)
  have E1 := E0.tr hE1
  have hc3 := b3.cell
  clear hE1 E0
  gi_wp2
  refine ⟨trivial, ?_⟩
  refine (callsIn_wide.2 (hx _ E1)).mono ?_
  rintro e w2 ⟨rfl, hE2⟩
  replace b3 := b3.kept (ext_grown hE2) (by simp)
  have E2 := E1.tr hE2
  clear hE2 E1 hc3
  gi_wp2
  exact ⟨_, results_tmp2 rfl _ _ _, rfl, E2⟩
set_option maxHeartbeats 1000000 in
set_option maxRecDepth 100000 in
theorem shift_n1 (v : Value) (x : ByteArray) (w : World) (hv : VA v false w) :
    Calls Tryz.prog 37 #[v, .string x] w (RetE 1 w) := by
  refine (callsIn_wide (n := 5)).1 ?_
  refine callsIn_of_wp_marks Tryz.func37 rfl trivial ?_ rfl
  simp only [Tryz.ntmps37, List.size_toArray, List.length_cons, List.length_nil, Nat.reduceAdd, Nat.reduceSub, Array.replicate_succ, Array.replicate_zero, List.push_toArray, List.append_toArray, List.nil_append, List.cons_append]
  have E0 := (Ext.rfl' w).al (.cells #[.string x] 30)
  have b3 := Boxed.new w 30 (.string x)
  gi_wp2
  generalize w.alloc (.cells #[.string x] 30) = W0 at *
  refine ⟨trivial, ?_⟩
  refine (callsIn_wide.2 (hv _ E0)).mono ?_
  rintro e w1 ⟨rfl, hE1⟩
  replace b3 := b3.kept (ext_grown hE1) (by simp)
  have E1 := E0.tr hE1
  have hc3 := b3.cell
  clear hE1 E0
  gi_wp2
  refine ⟨trivial, ?_⟩
  gi_wp2
  exact ⟨_, results_tmp2 rfl _ _ _, rfl, E1⟩
set_option maxHeartbeats 1000000 in
set_option maxRecDepth 100000 in
theorem shift_n2 (v : Value) (x : ByteArray) (w : World) (hv : VA v true w) (hx : RVA (.string x) false w) :
    Calls Tryz.prog 37 #[v, .string x] w (RetE 1 w) := by
  refine (callsIn_wide (n := 5)).1 ?_
  refine callsIn_of_wp_marks Tryz.func37 rfl trivial ?_ rfl
  simp only [Tryz.ntmps37, List.size_toArray, List.length_cons, List.length_nil, Nat.reduceAdd, Nat.reduceSub, Array.replicate_succ, Array.replicate_zero, List.push_toArray, List.append_toArray, List.nil_append, List.cons_append]
  have E0 := (Ext.rfl' w).al (.cells #[.string x] 30)
  have b3 := Boxed.new w 30 (.string x)
  gi_wp2
  generalize w.alloc (.cells #[.string x] 30) = W0 at *
  refine ⟨trivial, ?_⟩
  refine (callsIn_wide.2 (hv _ E0)).mono ?_
  rintro e w1 ⟨rfl, hE1⟩
  replace b3 := b3.kept (ext_grown hE1) (by simp)
  have E1 := E0.tr hE1
  have hc3 := b3.cell
  clear hE1 E0
  gi_wp2
  refine ⟨trivial, ?_⟩
  refine (callsIn_wide.2 (hx _ E1)).mono ?_
  rintro e w2 ⟨rfl, hE2⟩
  replace b3 := b3.kept (ext_grown hE2) (by simp)
  have E2 := E1.tr hE2
  clear hE2 E1 hc3
  gi_wp2
  exact ⟨_, results_tmp2 rfl _ _ _, rfl, E2⟩
set_option maxHeartbeats 1000000 in
set_option maxRecDepth 100000 in
theorem enclose_n1 (v : Value) (x y : ByteArray) (w : World) (hv : VA v false w) :
    Calls Tryz.prog 39 #[v, .agg #[.string x, .string y]] w (RetIv 1 w) := by
  refine (callsIn_wide (n := 5)).1 ?_
  refine callsIn_of_wp_marks Tryz.func39 rfl trivial ?_ rfl
  simp only [Tryz.ntmps39, List.size_toArray, List.length_cons, List.length_nil, Nat.reduceAdd, Nat.reduceSub, Array.replicate_succ, Array.replicate_zero, List.push_toArray, List.append_toArray, List.nil_append, List.cons_append]
  obtain ⟨b3, b4, E0⟩ := boxes2 w #[.string x, .string y] #[.string ⟨#[]⟩, .string ⟨#[]⟩] 44
  gi_wp2
  generalize (w.alloc (.cells #[.string x, .string y] 44)).alloc (.cells #[.string ⟨#[]⟩, .string ⟨#[]⟩] 44) = W0 at *
  refine ⟨trivial, ?_⟩
  refine (callsIn_wide.2 (hv _ E0)).mono ?_
  rintro e w1 ⟨rfl, hE1⟩
  replace b3 := b3.ext hE1
  replace b4 := b4.ext hE1
  have E1 := E0.tr hE1
  obtain ⟨c30, c31, -, -⟩ := b3.e2
  clear hE1 E0
  obtain ⟨c40, c41, f40, f41⟩ := b4.e2
  gi_wp2
  refine ⟨trivial, ?_⟩
  gi_wp2
  obtain ⟨m0, m1, -, -⟩ := ((b4.put0 (.string ⟨#[]⟩)).put1 (.string ⟨#[]⟩)).e2
  refine ⟨.tuple #[.agg #[.string ⟨#[]⟩, .string ⟨#[]⟩], .int .i64 1], ?_, rfl, ?_⟩
  · simp [results, Tryz.f39, go_sem, m0, m1]
  · exact (E1.setCell (p := ⟨w.heap.size + 1, 0, none⟩) (by show w.heap.size ≤ w.heap.size + 1; omega) _).setCell (p := ⟨w.heap.size + 1, 1, none⟩) (by show w.heap.size ≤ w.heap.size + 1; omega) _
set_option maxHeartbeats 1000000 in
set_option maxRecDepth 100000 in
theorem enclose_n2 (v : Value) (x y : ByteArray) (w : World) (hv : VA v true w) (hx : IVA (.agg #[.string x, .string y]) false w) :
    Calls Tryz.prog 39 #[v, .agg #[.string x, .string y]] w (RetIv 1 w) := by
  refine (callsIn_wide (n := 5)).1 ?_
  refine callsIn_of_wp_marks Tryz.func39 rfl trivial ?_ rfl
  simp only [Tryz.ntmps39, List.size_toArray, List.length_cons, List.length_nil, Nat.reduceAdd, Nat.reduceSub, Array.replicate_succ, Array.replicate_zero, List.push_toArray, List.append_toArray, List.nil_append, List.cons_append]
  obtain ⟨b3, b4, E0⟩ := boxes2 w #[.string x, .string y] #[.string ⟨#[]⟩, .string ⟨#[]⟩] 44
  gi_wp2
  generalize (w.alloc (.cells #[.string x, .string y] 44)).alloc (.cells #[.string ⟨#[]⟩, .string ⟨#[]⟩] 44) = W0 at *
  refine ⟨trivial, ?_⟩
  refine (callsIn_wide.2 (hv _ E0)).mono ?_
  rintro e w1 ⟨rfl, hE1⟩
  replace b3 := b3.ext hE1
  replace b4 := b4.ext hE1
  have E1 := E0.tr hE1
  obtain ⟨c30, c31, -, -⟩ := b3.e2
  clear hE1 E0
  gi_wp2
  refine ⟨trivial, ?_⟩
  refine (callsIn_wide.2 (hx _ E1)).mono ?_
  rintro e w2 ⟨rfl, hE2⟩
  replace b3 := b3.ext hE2
  replace b4 := b4.ext hE2
  have E2 := E1.tr hE2
  obtain ⟨c40, c41, f40, f41⟩ := b4.e2
  clear hE2 E1 c30 c31
  gi_wp2
  obtain ⟨m0, m1, -, -⟩ := ((b4.put0 (.string ⟨#[]⟩)).put1 (.string ⟨#[]⟩)).e2
  refine ⟨.tuple #[.agg #[.string ⟨#[]⟩, .string ⟨#[]⟩], .int .i64 1], ?_, rfl, ?_⟩
  · simp [results, Tryz.f39, go_sem, m0, m1]
  · exact (E2.setCell (p := ⟨w.heap.size + 1, 0, none⟩) (by show w.heap.size ≤ w.heap.size + 1; omega) _).setCell (p := ⟨w.heap.size + 1, 1, none⟩) (by show w.heap.size ≤ w.heap.size + 1; omega) _
end Go.Proofs.YtbldlibijojbjaaGreatDoor.GB
