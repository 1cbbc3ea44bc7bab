import Derived.Test.YtbldlibijojbjaaGreatDoorCIl
namespace Go.Proofs.YtbldlibijojbjaaGreatDoor.GB
set_option linter.unusedVariables false
set_option linter.unusedSimpArgs false
open Go.RowKit Go.Shelf
attribute [local go_sem ↓] Go.wp_at_zero Go.wp_at_succ

theorem ps_of4 {w : World} {b : Nat} {T : TypeId} {x y z t : Rat} (h : Bx w b #[rtx x, rtx y, rtx z, rtx t] T) : PS w (.slice (some ⟨b, 0, none⟩) (3 + 1) 4) [x, y, z, t] := by
  refine ⟨some ⟨b, 0, none⟩, 4, rfl, by simp, by decide, fun j hj => ⟨b, 0, rfl, h.lt, ?_⟩⟩
  rw [Nat.zero_add, h.c j]
  have hj' : j < 4 := by simpa using hj
  rcases (by omega : j = 0 ∨ j = 1 ∨ j = 2 ∨ j = 3) with rfl | rfl | rfl | rfl <;> rfl
theorem idx0 (s t : ByteArray) (w : World) : (Instr.index 162 (.agg #[.string s, .string t]) (.int .i64 0)).run Tryz.prog w = .ok (.string s) w := by
  simp [Instr.index, Tryz.underlying162, Tryz.sizeOf30, Tryz.isAgg30, go_sem]
theorem idx1 (s t : ByteArray) (w : World) : (Instr.index 162 (.agg #[.string s, .string t]) (.int .i64 1)).run Tryz.prog w = .ok (.string t) w := by
  simp [Instr.index, Tryz.underlying162, Tryz.sizeOf30, Tryz.isAgg30, go_sem]
/-- Four results so far. -/
def C4 (w : World) (g : Nat) (r0 r1 r2 r3 : Rat) (k : Nat) : Prop := Bx w g (match k with
  | 0 => #[.string ⟨#[]⟩, .string ⟨#[]⟩, .string ⟨#[]⟩, .string ⟨#[]⟩]
  | 1 => #[rtx r0, .string ⟨#[]⟩, .string ⟨#[]⟩, .string ⟨#[]⟩]
  | 2 => #[rtx r0, rtx r1, .string ⟨#[]⟩, .string ⟨#[]⟩]
  | 3 => #[rtx r0, rtx r1, rtx r2, .string ⟨#[]⟩]
  | _ => #[rtx r0, rtx r1, rtx r2, rtx r3]) 161
set_option maxHeartbeats 8000000 in
set_option maxRecDepth 100000 in
theorem corn_add (a1 a2 b1 b2 r0 r1 r2 r3 s1 s2 : Rat) (w : World)
    (h1 : ∀ W, Ext w W → Calls Tryz.prog 79 #[.agg #[rtx a1, rtx a2]] W fun e w' => e = .returned (.bool true) ∧ Ext W w')
    (h2 : ∀ W, Ext w W → Calls Tryz.prog 79 #[.agg #[rtx b1, rtx b2]] W fun e w' => e = .returned (.bool true) ∧ Ext W w')
    (o0 : ∀ W, Ext w W → Calls Tryz.prog 42 #[rtx a1, rtx b1] W fun e w' => e = .returned (.tuple #[rtx r0, .int .i64 0]) ∧ Ext W w') (o1 : ∀ W, Ext w W → Calls Tryz.prog 42 #[rtx a1, rtx b2] W fun e w' => e = .returned (.tuple #[rtx r1, .int .i64 0]) ∧ Ext W w') (o2 : ∀ W, Ext w W → Calls Tryz.prog 42 #[rtx a2, rtx b1] W fun e w' => e = .returned (.tuple #[rtx r2, .int .i64 0]) ∧ Ext W w') (o3 : ∀ W, Ext w W → Calls Tryz.prog 42 #[rtx a2, rtx b2] W fun e w' => e = .returned (.tuple #[rtx r3, .int .i64 0]) ∧ Ext W w')
    (h3 : ∀ W b, Ext w W → PS W (.slice (some ⟨b, 0, none⟩) (3 + 1) 4) [r0, r1, r2, r3] → Calls Tryz.prog 88 #[.slice (some ⟨b, 0, none⟩) 4 4] W fun e w' => e = .returned (.agg #[rtx s1, rtx s2]) ∧ Ext W w') :
    Calls Tryz.prog 120 #[.func (.func 42) #[] #[], .agg #[rtx a1, rtx a2], .agg #[rtx b1, rtx b2]] w fun e w' => e = .returned (.tuple #[.agg #[rtx s1, rtx s2], .int .i64 0]) ∧ Ext w w' := by
  have ix0 := idx0
  have ix1 := idx1
  obtain ⟨X1, X2, X3, E⟩ := boxes3 w #[rtx a1, rtx a2] #[rtx b1, rtx b2] #[.string ⟨#[]⟩, .string ⟨#[]⟩] 44
  go_enter Tryz.func120, Tryz.ntmps120
  go_wp2_with fail
  generalize ((w.alloc (.cells #[rtx a1, rtx a2] 44)).alloc (.cells #[rtx b1, rtx b2] 44)).alloc (.cells #[.string ⟨#[]⟩, .string ⟨#[]⟩] 44) = W0 at *
  refine (h1 _ E).mono ?_
  rintro e w1 ⟨rfl, hE⟩
  replace X1 := X1.ext hE
  replace X2 := X2.ext hE
  replace X3 := X3.ext hE
  replace E := E.tr hE
  clear hE h1
  obtain ⟨c20, c21, -, -⟩ := X2.e2
  go_wp2_with fail
  refine (h2 _ E).mono ?_
  rintro e w2 ⟨rfl, hE⟩
  replace X1 := X1.ext hE
  replace X2 := X2.ext hE
  replace X3 := X3.ext hE
  replace E := E.tr hE
  clear hE h2 c20 c21
  have XA := Bx.new w2 #[.string ⟨#[]⟩, .string ⟨#[]⟩, .string ⟨#[]⟩, .string ⟨#[]⟩] 161
  have hgw0 := X3.lt
  replace X1 := X1.al (.cells #[.string ⟨#[]⟩, .string ⟨#[]⟩, .string ⟨#[]⟩, .string ⟨#[]⟩] 161)
  replace X2 := X2.al (.cells #[.string ⟨#[]⟩, .string ⟨#[]⟩, .string ⟨#[]⟩, .string ⟨#[]⟩] 161)
  replace X3 := X3.al (.cells #[.string ⟨#[]⟩, .string ⟨#[]⟩, .string ⟨#[]⟩, .string ⟨#[]⟩] 161)
  replace E := E.al (.cells #[.string ⟨#[]⟩, .string ⟨#[]⟩, .string ⟨#[]⟩, .string ⟨#[]⟩] 161)
  have c10 := X1.c0
  have c11 := X1.c1
  go_wp2_with fail
  generalize w2.alloc (.cells #[.string ⟨#[]⟩, .string ⟨#[]⟩, .string ⟨#[]⟩, .string ⟨#[]⟩] 161) = W1 at *
  generalize w2.heap.size = g at *
  have hgw : w.heap.size ≤ g := by omega
  have HX1 := Lib.hid X1
  have HX2 := Lib.hid X2
  have HX3 := Lib.hid X3
  have HE := Lib.hid E
  have HA : Hid (C4 W1 g r0 r1 r2 r3 0) := XA
  clear X1 X2 X3 E XA c10 c11
  go_loopw [27] (fun v wr => ∃ z : Int, v = .int .i64 z ∧ Hid ((z = 0 ∧ C4 wr g r0 r1 r2 r3 0) ∨ (z = 1 ∧ C4 wr g r0 r1 r2 r3 2) ∨ (z = 2 ∧ C4 wr g r0 r1 r2 r3 4)) ∧ Hid (Bx wr w.heap.size #[rtx a1, rtx a2] 44) ∧ Hid (Bx wr (w.heap.size + 1) #[rtx b1, rtx b2] 44) ∧ Hid (Bx wr (w.heap.size + 1 + 1) #[.string ⟨#[]⟩, .string ⟨#[]⟩] 44) ∧ Hid (Ext w wr)) (fun v _ => (2 - intOf v).toNat)
  case atStart => exact ⟨0, rfl, .inl ⟨rfl, HA.out⟩, HX1, HX2, HX3, HE⟩
  case round =>
    clear HA HX1 HX2 HX3 HE
    obtain ⟨z, rfl, HS, HX1, HX2, HX3, HE⟩ := hrel
    rcases HS.out with ⟨rfl, hA⟩ | ⟨rfl, hA⟩ | ⟨rfl, hA⟩
    · have HA := Lib.hid hA
      clear hA HS
      obtain ⟨wz, hwz⟩ : ∃ wz : World, wz = wr := ⟨_, rfl⟩
      subst hwz
      all_goals
        have c20 := HX2.out.c0
        have c21 := HX2.out.c1
        go_wp2_with fail
        go_loopw [36] (fun v wr => ∃ z : Int, v = .int .i64 z ∧ Hid ((z = 0 ∧ C4 wr g r0 r1 r2 r3 0) ∨ (z = 1 ∧ C4 wr g r0 r1 r2 r3 1) ∨ (z = 2 ∧ C4 wr g r0 r1 r2 r3 2)) ∧ Hid (Bx wr w.heap.size #[rtx a1, rtx a2] 44) ∧ Hid (Bx wr (w.heap.size + 1) #[rtx b1, rtx b2] 44) ∧ Hid (Bx wr (w.heap.size + 1 + 1) #[.string ⟨#[]⟩, .string ⟨#[]⟩] 44) ∧ Hid (Ext w wr)) (fun v _ => (2 - intOf v).toNat)
        case atStart => exact ⟨0, rfl, .inl ⟨rfl, HA.out⟩, HX1, HX2, HX3, HE⟩
        case round =>
          clear HA HX1 HX2 HX3 HE c20 c21
          obtain ⟨z, rfl, HS, HX1, HX2, HX3, HE⟩ := hrel
          rcases HS.out with ⟨rfl, hA⟩ | ⟨rfl, hA⟩ | ⟨rfl, hA⟩
          · have HA := Lib.hid hA
            clear hA HS
            have k40 : wr.cell? ⟨g, 0, none⟩ = some (.string ⟨#[]⟩) := (show Bx wr g _ 161 from HA.out).c 0
            have k4f := (show Bx wr g _ 161 from HA.out).f 0
            have hi1 : ((0 : Nat) : Int) = 0 := rfl
            go_wp2_with fail
            refine (o0 _ HE.out).mono ?_
            rintro e w3 ⟨rfl, hE⟩
            have HE3 := Lib.hid (HE.out.tr hE)
            have HA3 := Lib.hid (Bx.ext (show Bx wr g _ 161 from HA.out) hE)
            have HX13 := Lib.hid (HX1.out.ext hE)
            have HX23 := Lib.hid (HX2.out.ext hE)
            have HX33 := Lib.hid (HX3.out.ext hE)
            have k50 : w3.cell? ⟨g, 0, none⟩ = some (.string ⟨#[]⟩) := HA3.out.c 0
            have k5f := HA3.out.f 0
            clear hE k40 k4f
            go_wp2_with fail
            have HA4 : Hid (C4 (w3.setCell ⟨g, 0, none⟩ (rtx r0)) g r0 r1 r2 r3 1) := HA3.out.put 0 (rtx r0)
            have HE4 : Hid (Ext w (w3.setCell ⟨g, 0, none⟩ (rtx r0))) := HE3.out.setCell (p := ⟨g, 0, none⟩) hgw (rtx r0)
            have HX14 := Lib.hid (HX13.out.set (p := ⟨g, 0, none⟩) (by show w.heap.size ≠ g; omega) (rtx r0))
            have HX24 := Lib.hid (HX23.out.set (p := ⟨g, 0, none⟩) (by show w.heap.size + 1 ≠ g; omega) (rtx r0))
            have HX34 := Lib.hid (HX33.out.set (p := ⟨g, 0, none⟩) (by show w.heap.size + 1 + 1 ≠ g; omega) (rtx r0))
            go_roundw
            case rel => exact ⟨1, by rfl, .inr (.inl ⟨rfl, HA4.out⟩), HX14, HX24, HX34, HE4⟩
            case measure => simp [intOf]
          · have HA := Lib.hid hA
            clear hA HS
            have k40 : wr.cell? ⟨g, 1, none⟩ = some (.string ⟨#[]⟩) := (show Bx wr g _ 161 from HA.out).c 1
            have k4f := (show Bx wr g _ 161 from HA.out).f 1
            have hi1 : ((0 : Nat) : Int) = 0 := rfl
            go_wp2_with fail
            refine (o1 _ HE.out).mono ?_
            rintro e w3 ⟨rfl, hE⟩
            have HE3 := Lib.hid (HE.out.tr hE)
            have HA3 := Lib.hid (Bx.ext (show Bx wr g _ 161 from HA.out) hE)
            have HX13 := Lib.hid (HX1.out.ext hE)
            have HX23 := Lib.hid (HX2.out.ext hE)
            have HX33 := Lib.hid (HX3.out.ext hE)
            have k50 : w3.cell? ⟨g, 1, none⟩ = some (.string ⟨#[]⟩) := HA3.out.c 1
            have k5f := HA3.out.f 1
            clear hE k40 k4f
            go_wp2_with fail
            have HA4 : Hid (C4 (w3.setCell ⟨g, 1, none⟩ (rtx r1)) g r0 r1 r2 r3 2) := HA3.out.put 1 (rtx r1)
            have HE4 : Hid (Ext w (w3.setCell ⟨g, 1, none⟩ (rtx r1))) := HE3.out.setCell (p := ⟨g, 1, none⟩) hgw (rtx r1)
            have HX14 := Lib.hid (HX13.out.set (p := ⟨g, 1, none⟩) (by show w.heap.size ≠ g; omega) (rtx r1))
            have HX24 := Lib.hid (HX23.out.set (p := ⟨g, 1, none⟩) (by show w.heap.size + 1 ≠ g; omega) (rtx r1))
            have HX34 := Lib.hid (HX33.out.set (p := ⟨g, 1, none⟩) (by show w.heap.size + 1 + 1 ≠ g; omega) (rtx r1))
            go_roundw
            case rel => exact ⟨2, by rfl, .inr (.inr ⟨rfl, HA4.out⟩), HX14, HX24, HX34, HE4⟩
            case measure => simp [intOf]
          · have HA := Lib.hid hA
            clear hA HS
            go_wp2_with fail
            go_roundw
            case rel => exact ⟨1, by rfl, .inr (.inl ⟨rfl, HA.out⟩), HX1, HX2, HX3, HE⟩
            case measure => simp [intOf]
    · have HA := Lib.hid hA
      clear hA HS
      obtain ⟨wz, hwz⟩ : ∃ wz : World, wz = wr := ⟨_, rfl⟩
      subst hwz
      all_goals
        have c20 := HX2.out.c0
        have c21 := HX2.out.c1
        go_wp2_with fail
        go_loopw [36] (fun v wr => ∃ z : Int, v = .int .i64 z ∧ Hid ((z = 0 ∧ C4 wr g r0 r1 r2 r3 2) ∨ (z = 1 ∧ C4 wr g r0 r1 r2 r3 3) ∨ (z = 2 ∧ C4 wr g r0 r1 r2 r3 4)) ∧ Hid (Bx wr w.heap.size #[rtx a1, rtx a2] 44) ∧ Hid (Bx wr (w.heap.size + 1) #[rtx b1, rtx b2] 44) ∧ Hid (Bx wr (w.heap.size + 1 + 1) #[.string ⟨#[]⟩, .string ⟨#[]⟩] 44) ∧ Hid (Ext w wr)) (fun v _ => (2 - intOf v).toNat)
        case atStart => exact ⟨0, rfl, .inl ⟨rfl, HA.out⟩, HX1, HX2, HX3, HE⟩
        case round =>
          clear HA HX1 HX2 HX3 HE c20 c21
          obtain ⟨z, rfl, HS, HX1, HX2, HX3, HE⟩ := hrel
          rcases HS.out with ⟨rfl, hA⟩ | ⟨rfl, hA⟩ | ⟨rfl, hA⟩
          · have HA := Lib.hid hA
            clear hA HS
            have k40 : wr.cell? ⟨g, 2, none⟩ = some (.string ⟨#[]⟩) := (show Bx wr g _ 161 from HA.out).c 2
            have k4f := (show Bx wr g _ 161 from HA.out).f 2
            have hi1 : ((0 : Nat) : Int) = 0 := rfl
            go_wp2_with fail
            refine (o2 _ HE.out).mono ?_
            rintro e w3 ⟨rfl, hE⟩
            have HE3 := Lib.hid (HE.out.tr hE)
            have HA3 := Lib.hid (Bx.ext (show Bx wr g _ 161 from HA.out) hE)
            have HX13 := Lib.hid (HX1.out.ext hE)
            have HX23 := Lib.hid (HX2.out.ext hE)
            have HX33 := Lib.hid (HX3.out.ext hE)
            have k50 : w3.cell? ⟨g, 2, none⟩ = some (.string ⟨#[]⟩) := HA3.out.c 2
            have k5f := HA3.out.f 2
            clear hE k40 k4f
            go_wp2_with fail
            have HA4 : Hid (C4 (w3.setCell ⟨g, 2, none⟩ (rtx r2)) g r0 r1 r2 r3 3) := HA3.out.put 2 (rtx r2)
            have HE4 : Hid (Ext w (w3.setCell ⟨g, 2, none⟩ (rtx r2))) := HE3.out.setCell (p := ⟨g, 2, none⟩) hgw (rtx r2)
            have HX14 := Lib.hid (HX13.out.set (p := ⟨g, 2, none⟩) (by show w.heap.size ≠ g; omega) (rtx r2))
            have HX24 := Lib.hid (HX23.out.set (p := ⟨g, 2, none⟩) (by show w.heap.size + 1 ≠ g; omega) (rtx r2))
            have HX34 := Lib.hid (HX33.out.set (p := ⟨g, 2, none⟩) (by show w.heap.size + 1 + 1 ≠ g; omega) (rtx r2))
            go_roundw
            case rel => exact ⟨1, by rfl, .inr (.inl ⟨rfl, HA4.out⟩), HX14, HX24, HX34, HE4⟩
            case measure => simp [intOf]
          · have HA := Lib.hid hA
            clear hA HS
            have k40 : wr.cell? ⟨g, 3, none⟩ = some (.string ⟨#[]⟩) := (show Bx wr g _ 161 from HA.out).c 3
            have k4f := (show Bx wr g _ 161 from HA.out).f 3
            have hi1 : ((0 : Nat) : Int) = 0 := rfl
            go_wp2_with fail
            refine (o3 _ HE.out).mono ?_
            rintro e w3 ⟨rfl, hE⟩
            have HE3 := Lib.hid (HE.out.tr hE)
            have HA3 := Lib.hid (Bx.ext (show Bx wr g _ 161 from HA.out) hE)
            have HX13 := Lib.hid (HX1.out.ext hE)
            have HX23 := Lib.hid (HX2.out.ext hE)
            have HX33 := Lib.hid (HX3.out.ext hE)
            have k50 : w3.cell? ⟨g, 3, none⟩ = some (.string ⟨#[]⟩) := HA3.out.c 3
            have k5f := HA3.out.f 3
            clear hE k40 k4f
            go_wp2_with fail
            have HA4 : Hid (C4 (w3.setCell ⟨g, 3, none⟩ (rtx r3)) g r0 r1 r2 r3 4) := HA3.out.put 3 (rtx r3)
            have HE4 : Hid (Ext w (w3.setCell ⟨g, 3, none⟩ (rtx r3))) := HE3.out.setCell (p := ⟨g, 3, none⟩) hgw (rtx r3)
            have HX14 := Lib.hid (HX13.out.set (p := ⟨g, 3, none⟩) (by show w.heap.size ≠ g; omega) (rtx r3))
            have HX24 := Lib.hid (HX23.out.set (p := ⟨g, 3, none⟩) (by show w.heap.size + 1 ≠ g; omega) (rtx r3))
            have HX34 := Lib.hid (HX33.out.set (p := ⟨g, 3, none⟩) (by show w.heap.size + 1 + 1 ≠ g; omega) (rtx r3))
            go_roundw
            case rel => exact ⟨2, by rfl, .inr (.inr ⟨rfl, HA4.out⟩), HX14, HX24, HX34, HE4⟩
            case measure => simp [intOf]
          · have HA := Lib.hid hA
            clear hA HS
            go_wp2_with fail
            go_roundw
            case rel => exact ⟨2, by rfl, .inr (.inr ⟨rfl, HA.out⟩), HX1, HX2, HX3, HE⟩
            case measure => simp [intOf]
    · have HA := Lib.hid hA
      clear hA HS
      have h4 := fun W (hE : Ext w W) => h3 W g hE
      go_wp2_with fail
      refine (h4 _ HE.out (ps_of4 (show Bx wr g #[rtx r0, rtx r1, rtx r2, rtx r3] 161 from HA.out))).mono ?_
      rintro e w3 ⟨rfl, hE⟩
      have HE3 := Lib.hid (HE.out.tr hE)
      have HX33 := Lib.hid (HX3.out.ext hE)
      obtain ⟨d0, d1, e0, e1⟩ := HX33.out.e2
      clear hE
      go_wp2_with fail
      obtain ⟨m0, m1⟩ := set2 HX33.out (rtx s1) (rtx s2)
      refine bodyPost_ret (v := .tuple #[.agg #[rtx s1, rtx s2], .int .i64 0]) ?_ rfl ⟨rfl, ext_set2 (b := w.heap.size + 1 + 1) HE3.out (by omega) _ _⟩
      simp [results, Tryz.f120, go_sem, m0, m1]
set_option maxHeartbeats 8000000 in
set_option maxRecDepth 100000 in
theorem corn_mul (a1 a2 b1 b2 r0 r1 r2 r3 s1 s2 : Rat) (w : World)
    (h1 : ∀ W, Ext w W → Calls Tryz.prog 79 #[.agg #[rtx a1, rtx a2]] W fun e w' => e = .returned (.bool true) ∧ Ext W w')
    (h2 : ∀ W, Ext w W → Calls Tryz.prog 79 #[.agg #[rtx b1, rtx b2]] W fun e w' => e = .returned (.bool true) ∧ Ext W w')
    (o0 : ∀ W, Ext w W → Calls Tryz.prog 44 #[rtx a1, rtx b1] W fun e w' => e = .returned (.tuple #[rtx r0, .int .i64 0]) ∧ Ext W w') (o1 : ∀ W, Ext w W → Calls Tryz.prog 44 #[rtx a1, rtx b2] W fun e w' => e = .returned (.tuple #[rtx r1, .int .i64 0]) ∧ Ext W w') (o2 : ∀ W, Ext w W → Calls Tryz.prog 44 #[rtx a2, rtx b1] W fun e w' => e = .returned (.tuple #[rtx r2, .int .i64 0]) ∧ Ext W w') (o3 : ∀ W, Ext w W → Calls Tryz.prog 44 #[rtx a2, rtx b2] W fun e w' => e = .returned (.tuple #[rtx r3, .int .i64 0]) ∧ Ext W w')
    (h3 : ∀ W b, Ext w W → PS W (.slice (some ⟨b, 0, none⟩) (3 + 1) 4) [r0, r1, r2, r3] → Calls Tryz.prog 88 #[.slice (some ⟨b, 0, none⟩) 4 4] W fun e w' => e = .returned (.agg #[rtx s1, rtx s2]) ∧ Ext W w') :
    Calls Tryz.prog 120 #[.func (.func 44) #[] #[], .agg #[rtx a1, rtx a2], .agg #[rtx b1, rtx b2]] w fun e w' => e = .returned (.tuple #[.agg #[rtx s1, rtx s2], .int .i64 0]) ∧ Ext w w' := by
  have ix0 := idx0
  have ix1 := idx1
  obtain ⟨X1, X2, X3, E⟩ := boxes3 w #[rtx a1, rtx a2] #[rtx b1, rtx b2] #[.string ⟨#[]⟩, .string ⟨#[]⟩] 44
  go_enter Tryz.func120, Tryz.ntmps120
  go_wp2_with fail
  generalize ((w.alloc (.cells #[rtx a1, rtx a2] 44)).alloc (.cells #[rtx b1, rtx b2] 44)).alloc (.cells #[.string ⟨#[]⟩, .string ⟨#[]⟩] 44) = W0 at *
  refine (h1 _ E).mono ?_
  rintro e w1 ⟨rfl, hE⟩
  replace X1 := X1.ext hE
  replace X2 := X2.ext hE
  replace X3 := X3.ext hE
  replace E := E.tr hE
  clear hE h1
  obtain ⟨c20, c21, -, -⟩ := X2.e2
  go_wp2_with fail
  refine (h2 _ E).mono ?_
  rintro e w2 ⟨rfl, hE⟩
  replace X1 := X1.ext hE
  replace X2 := X2.ext hE
  replace X3 := X3.ext hE
  replace E := E.tr hE
  clear hE h2 c20 c21
  have XA := Bx.new w2 #[.string ⟨#[]⟩, .string ⟨#[]⟩, .string ⟨#[]⟩, .string ⟨#[]⟩] 161
  have hgw0 := X3.lt
  replace X1 := X1.al (.cells #[.string ⟨#[]⟩, .string ⟨#[]⟩, .string ⟨#[]⟩, .string ⟨#[]⟩] 161)
  replace X2 := X2.al (.cells #[.string ⟨#[]⟩, .string ⟨#[]⟩, .string ⟨#[]⟩, .string ⟨#[]⟩] 161)
  replace X3 := X3.al (.cells #[.string ⟨#[]⟩, .string ⟨#[]⟩, .string ⟨#[]⟩, .string ⟨#[]⟩] 161)
  replace E := E.al (.cells #[.string ⟨#[]⟩, .string ⟨#[]⟩, .string ⟨#[]⟩, .string ⟨#[]⟩] 161)
  have c10 := X1.c0
  have c11 := X1.c1
  go_wp2_with fail
  generalize w2.alloc (.cells #[.string ⟨#[]⟩, .string ⟨#[]⟩, .string ⟨#[]⟩, .string ⟨#[]⟩] 161) = W1 at *
  generalize w2.heap.size = g at *
  have hgw : w.heap.size ≤ g := by omega
  have HX1 := Lib.hid X1
  have HX2 := Lib.hid X2
  have HX3 := Lib.hid X3
  have HE := Lib.hid E
  have HA : Hid (C4 W1 g r0 r1 r2 r3 0) := XA
  clear X1 X2 X3 E XA c10 c11
  go_loopw [27] (fun v wr => ∃ z : Int, v = .int .i64 z ∧ Hid ((z = 0 ∧ C4 wr g r0 r1 r2 r3 0) ∨ (z = 1 ∧ C4 wr g r0 r1 r2 r3 2) ∨ (z = 2 ∧ C4 wr g r0 r1 r2 r3 4)) ∧ Hid (Bx wr w.heap.size #[rtx a1, rtx a2] 44) ∧ Hid (Bx wr (w.heap.size + 1) #[rtx b1, rtx b2] 44) ∧ Hid (Bx wr (w.heap.size + 1 + 1) #[.string ⟨#[]⟩, .string ⟨#[]⟩] 44) ∧ Hid (Ext w wr)) (fun v _ => (2 - intOf v).toNat)
  case atStart => exact ⟨0, rfl, .inl ⟨rfl, HA.out⟩, HX1, HX2, HX3, HE⟩
  case round =>
    clear HA HX1 HX2 HX3 HE
    obtain ⟨z, rfl, HS, HX1, HX2, HX3, HE⟩ := hrel
    rcases HS.out with ⟨rfl, hA⟩ | ⟨rfl, hA⟩ | ⟨rfl, hA⟩
    · have HA := Lib.hid hA
      clear hA HS
      obtain ⟨wz, hwz⟩ : ∃ wz : World, wz = wr := ⟨_, rfl⟩
      subst hwz
      all_goals
        have c20 := HX2.out.c0
        have c21 := HX2.out.c1
        go_wp2_with fail
        go_loopw [36] (fun v wr => ∃ z : Int, v = .int .i64 z ∧ Hid ((z = 0 ∧ C4 wr g r0 r1 r2 r3 0) ∨ (z = 1 ∧ C4 wr g r0 r1 r2 r3 1) ∨ (z = 2 ∧ C4 wr g r0 r1 r2 r3 2)) ∧ Hid (Bx wr w.heap.size #[rtx a1, rtx a2] 44) ∧ Hid (Bx wr (w.heap.size + 1) #[rtx b1, rtx b2] 44) ∧ Hid (Bx wr (w.heap.size + 1 + 1) #[.string ⟨#[]⟩, .string ⟨#[]⟩] 44) ∧ Hid (Ext w wr)) (fun v _ => (2 - intOf v).toNat)
        case atStart => exact ⟨0, rfl, .inl ⟨rfl, HA.out⟩, HX1, HX2, HX3, HE⟩
        case round =>
          clear HA HX1 HX2 HX3 HE c20 c21
          obtain ⟨z, rfl, HS, HX1, HX2, HX3, HE⟩ := hrel
          rcases HS.out with ⟨rfl, hA⟩ | ⟨rfl, hA⟩ | ⟨rfl, hA⟩
          · have HA := Lib.hid hA
            clear hA HS
            have k40 : wr.cell? ⟨g, 0, none⟩ = some (.string ⟨#[]⟩) := (show Bx wr g _ 161 from HA.out).c 0
            have k4f := (show Bx wr g _ 161 from HA.out).f 0
            have hi1 : ((0 : Nat) : Int) = 0 := rfl
            go_wp2_with fail
            refine (o0 _ HE.out).mono ?_
            rintro e w3 ⟨rfl, hE⟩
            have HE3 := Lib.hid (HE.out.tr hE)
            have HA3 := Lib.hid (Bx.ext (show Bx wr g _ 161 from HA.out) hE)
            have HX13 := Lib.hid (HX1.out.ext hE)
            have HX23 := Lib.hid (HX2.out.ext hE)
            have HX33 := Lib.hid (HX3.out.ext hE)
            have k50 : w3.cell? ⟨g, 0, none⟩ = some (.string ⟨#[]⟩) := HA3.out.c 0
            have k5f := HA3.out.f 0
            clear hE k40 k4f
            go_wp2_with fail
            have HA4 : Hid (C4 (w3.setCell ⟨g, 0, none⟩ (rtx r0)) g r0 r1 r2 r3 1) := HA3.out.put 0 (rtx r0)
            have HE4 : Hid (Ext w (w3.setCell ⟨g, 0, none⟩ (rtx r0))) := HE3.out.setCell (p := ⟨g, 0, none⟩) hgw (rtx r0)
            have HX14 := Lib.hid (HX13.out.set (p := ⟨g, 0, none⟩) (by show w.heap.size ≠ g; omega) (rtx r0))
            have HX24 := Lib.hid (HX23.out.set (p := ⟨g, 0, none⟩) (by show w.heap.size + 1 ≠ g; omega) (rtx r0))
            have HX34 := Lib.hid (HX33.out.set (p := ⟨g, 0, none⟩) (by show w.heap.size + 1 + 1 ≠ g; omega) (rtx r0))
            go_roundw
            case rel => exact ⟨1, by rfl, .inr (.inl ⟨rfl, HA4.out⟩), HX14, HX24, HX34, HE4⟩
            case measure => simp [intOf]
          · have HA := Lib.hid hA
            clear hA HS
            have k40 : wr.cell? ⟨g, 1, none⟩ = some (.string ⟨#[]⟩) := (show Bx wr g _ 161 from HA.out).c 1
            have k4f := (show Bx wr g _ 161 from HA.out).f 1
            have hi1 : ((0 : Nat) : Int) = 0 := rfl
            go_wp2_with fail
            refine (o1 _ HE.out).mono ?_
            rintro e w3 ⟨rfl, hE⟩
            have HE3 := Lib.hid (HE.out.tr hE)
            have HA3 := Lib.hid (Bx.ext (show Bx wr g _ 161 from HA.out) hE)
            have HX13 := Lib.hid (HX1.out.ext hE)
            have HX23 := Lib.hid (HX2.out.ext hE)
            have HX33 := Lib.hid (HX3.out.ext hE)
            have k50 : w3.cell? ⟨g, 1, none⟩ = some (.string ⟨#[]⟩) := HA3.out.c 1
            have k5f := HA3.out.f 1
            clear hE k40 k4f
            go_wp2_with fail
            have HA4 : Hid (C4 (w3.setCell ⟨g, 1, none⟩ (rtx r1)) g r0 r1 r2 r3 2) := HA3.out.put 1 (rtx r1)
            have HE4 : Hid (Ext w (w3.setCell ⟨g, 1, none⟩ (rtx r1))) := HE3.out.setCell (p := ⟨g, 1, none⟩) hgw (rtx r1)
            have HX14 := Lib.hid (HX13.out.set (p := ⟨g, 1, none⟩) (by show w.heap.size ≠ g; omega) (rtx r1))
            have HX24 := Lib.hid (HX23.out.set (p := ⟨g, 1, none⟩) (by show w.heap.size + 1 ≠ g; omega) (rtx r1))
            have HX34 := Lib.hid (HX33.out.set (p := ⟨g, 1, none⟩) (by show w.heap.size + 1 + 1 ≠ g; omega) (rtx r1))
            go_roundw
            case rel => exact ⟨2, by rfl, .inr (.inr ⟨rfl, HA4.out⟩), HX14, HX24, HX34, HE4⟩
            case measure => simp [intOf]
          · have HA := Lib.hid hA
            clear hA HS
            go_wp2_with fail
            go_roundw
            case rel => exact ⟨1, by rfl, .inr (.inl ⟨rfl, HA.out⟩), HX1, HX2, HX3, HE⟩
            case measure => simp [intOf]
    · have HA := Lib.hid hA
      clear hA HS
      obtain ⟨wz, hwz⟩ : ∃ wz : World, wz = wr := ⟨_, rfl⟩
      subst hwz
      all_goals
        have c20 := HX2.out.c0
        have c21 := HX2.out.c1
        go_wp2_with fail
        go_loopw [36] (fun v wr => ∃ z : Int, v = .int .i64 z ∧ Hid ((z = 0 ∧ C4 wr g r0 r1 r2 r3 2) ∨ (z = 1 ∧ C4 wr g r0 r1 r2 r3 3) ∨ (z = 2 ∧ C4 wr g r0 r1 r2 r3 4)) ∧ Hid (Bx wr w.heap.size #[rtx a1, rtx a2] 44) ∧ Hid (Bx wr (w.heap.size + 1) #[rtx b1, rtx b2] 44) ∧ Hid (Bx wr (w.heap.size + 1 + 1) #[.string ⟨#[]⟩, .string ⟨#[]⟩] 44) ∧ Hid (Ext w wr)) (fun v _ => (2 - intOf v).toNat)
        case atStart => exact ⟨0, rfl, .inl ⟨rfl, HA.out⟩, HX1, HX2, HX3, HE⟩
        case round =>
          clear HA HX1 HX2 HX3 HE c20 c21
          obtain ⟨z, rfl, HS, HX1, HX2, HX3, HE⟩ := hrel
          rcases HS.out with ⟨rfl, hA⟩ | ⟨rfl, hA⟩ | ⟨rfl, hA⟩
          · have HA := Lib.hid hA
            clear hA HS
            have k40 : wr.cell? ⟨g, 2, none⟩ = some (.string ⟨#[]⟩) := (show Bx wr g _ 161 from HA.out).c 2
            have k4f := (show Bx wr g _ 161 from HA.out).f 2
            have hi1 : ((0 : Nat) : Int) = 0 := rfl
            go_wp2_with fail
            refine (o2 _ HE.out).mono ?_
            rintro e w3 ⟨rfl, hE⟩
            have HE3 := Lib.hid (HE.out.tr hE)
            have HA3 := Lib.hid (Bx.ext (show Bx wr g _ 161 from HA.out) hE)
            have HX13 := Lib.hid (HX1.out.ext hE)
            have HX23 := Lib.hid (HX2.out.ext hE)
            have HX33 := Lib.hid (HX3.out.ext hE)
            have k50 : w3.cell? ⟨g, 2, none⟩ = some (.string ⟨#[]⟩) := HA3.out.c 2
            have k5f := HA3.out.f 2
            clear hE k40 k4f
            go_wp2_with fail
            have HA4 : Hid (C4 (w3.setCell ⟨g, 2, none⟩ (rtx r2)) g r0 r1 r2 r3 3) := HA3.out.put 2 (rtx r2)
            have HE4 : Hid (Ext w (w3.setCell ⟨g, 2, none⟩ (rtx r2))) := HE3.out.setCell (p := ⟨g, 2, none⟩) hgw (rtx r2)
            have HX14 := Lib.hid (HX13.out.set (p := ⟨g, 2, none⟩) (by show w.heap.size ≠ g; omega) (rtx r2))
            have HX24 := Lib.hid (HX23.out.set (p := ⟨g, 2, none⟩) (by show w.heap.size + 1 ≠ g; omega) (rtx r2))
            have HX34 := Lib.hid (HX33.out.set (p := ⟨g, 2, none⟩) (by show w.heap.size + 1 + 1 ≠ g; omega) (rtx r2))
            go_roundw
            case rel => exact ⟨1, by rfl, .inr (.inl ⟨rfl, HA4.out⟩), HX14, HX24, HX34, HE4⟩
            case measure => simp [intOf]
          · have HA := Lib.hid hA
            clear hA HS
            have k40 : wr.cell? ⟨g, 3, none⟩ = some (.string ⟨#[]⟩) := (show Bx wr g _ 161 from HA.out).c 3
            have k4f := (show Bx wr g _ 161 from HA.out).f 3
            have hi1 : ((0 : Nat) : Int) = 0 := rfl
            go_wp2_with fail
            refine (o3 _ HE.out).mono ?_
            rintro e w3 ⟨rfl, hE⟩
            have HE3 := Lib.hid (HE.out.tr hE)
            have HA3 := Lib.hid (Bx.ext (show Bx wr g _ 161 from HA.out) hE)
            have HX13 := Lib.hid (HX1.out.ext hE)
            have HX23 := Lib.hid (HX2.out.ext hE)
            have HX33 := Lib.hid (HX3.out.ext hE)
            have k50 : w3.cell? ⟨g, 3, none⟩ = some (.string ⟨#[]⟩) := HA3.out.c 3
            have k5f := HA3.out.f 3
            clear hE k40 k4f
            go_wp2_with fail
            have HA4 : Hid (C4 (w3.setCell ⟨g, 3, none⟩ (rtx r3)) g r0 r1 r2 r3 4) := HA3.out.put 3 (rtx r3)
            have HE4 : Hid (Ext w (w3.setCell ⟨g, 3, none⟩ (rtx r3))) := HE3.out.setCell (p := ⟨g, 3, none⟩) hgw (rtx r3)
            have HX14 := Lib.hid (HX13.out.set (p := ⟨g, 3, none⟩) (by show w.heap.size ≠ g; omega) (rtx r3))
            have HX24 := Lib.hid (HX23.out.set (p := ⟨g, 3, none⟩) (by show w.heap.size + 1 ≠ g; omega) (rtx r3))
            have HX34 := Lib.hid (HX33.out.set (p := ⟨g, 3, none⟩) (by show w.heap.size + 1 + 1 ≠ g; omega) (rtx r3))
            go_roundw
            case rel => exact ⟨2, by rfl, .inr (.inr ⟨rfl, HA4.out⟩), HX14, HX24, HX34, HE4⟩
            case measure => simp [intOf]
          · have HA := Lib.hid hA
            clear hA HS
            go_wp2_with fail
            go_roundw
            case rel => exact ⟨2, by rfl, .inr (.inr ⟨rfl, HA.out⟩), HX1, HX2, HX3, HE⟩
            case measure => simp [intOf]
    · have HA := Lib.hid hA
      clear hA HS
      have h4 := fun W (hE : Ext w W) => h3 W g hE
      go_wp2_with fail
      refine (h4 _ HE.out (ps_of4 (show Bx wr g #[rtx r0, rtx r1, rtx r2, rtx r3] 161 from HA.out))).mono ?_
      rintro e w3 ⟨rfl, hE⟩
      have HE3 := Lib.hid (HE.out.tr hE)
      have HX33 := Lib.hid (HX3.out.ext hE)
      obtain ⟨d0, d1, e0, e1⟩ := HX33.out.e2
      clear hE
      go_wp2_with fail
      obtain ⟨m0, m1⟩ := set2 HX33.out (rtx s1) (rtx s2)
      refine bodyPost_ret (v := .tuple #[.agg #[rtx s1, rtx s2], .int .i64 0]) ?_ rfl ⟨rfl, ext_set2 (b := w.heap.size + 1 + 1) HE3.out (by omega) _ _⟩
      simp [results, Tryz.f120, go_sem, m0, m1]
end Go.Proofs.YtbldlibijojbjaaGreatDoor.GB
