import Derived.Test.YtbldlibijojbjaaGreatDoorCJw
import Derived.Test.YtbldlibijojbjaaGreatDoorMHm
import Derived.Test.YtbldlibijojbjaaGreatDoorCFo
import Derived.Deep.RegionHeld3
namespace Go.Proofs.YtbldlibijojbjaaGreatDoor.GB
set_option linter.unusedVariables false
set_option linter.unusedSimpArgs false
open Go.RowKit Go.Shelf
attribute [local go_sem ↓] Go.wp_at_zero Go.wp_at_succ
set_option maxHeartbeats 16000000 in
set_option maxRecDepth 400000 in
theorem enc_few (v : Value) (l : List ByteArray) (s t : ByteArray) (w : World) (hW : Wd w) (h1 : SlS w v l) (z1 : s.size ≤ 140737488351232) (z2 : t.size ≤ 140737488351232) (hfew : (decide (s.size ≤ 20) && fewB l) = false) : Calls Tryz.prog 6 #[v, .agg #[.string s, .string t]] w fun e w' => e = .returned (.bool true) ∧ Ext w w' := by
  obtain ⟨A1, c1, rfl⟩ := h1.slc
  have HW := Lib.hid hW
  have HE := Lib.hid (Ext.rfl' w)
  have H1 := Lib.hid h1
  clear hW h1
  have B5 := Bx.new w #[.string s, .string t] 44
  have hE := (Ext.rfl' w).al (.cells #[.string s, .string t] 44)
  go_enter Tryz.func6, Tryz.ntmps6
  go_wp2_with fail
  generalize w.alloc (.cells #[.string s, .string t] 44) = W0 at *
  replace H1 := SlS.hext H1 hE
  replace HW := Wd.hext HW hE
  replace HE := Lib.hid (HE.out.tr hE)
  clear hE
  refine (awake_v _ HW.out).mono ?_
  rintro e W1 ⟨rfl, hE⟩
  replace B5 := B5.ext hE
  replace H1 := SlS.hext H1 hE
  replace HW := Wd.hext HW hE
  replace HE := Lib.hid (HE.out.tr hE)
  clear hE
  have k0 : W1.cell? ⟨w.heap.size, 0, none⟩ = some (.string s) := B5.c 0
  have k1 : W1.cell? ⟨w.heap.size, 1, none⟩ = some (.string t) := B5.c 1
  go_wp2_with fail
  clear k0 k1
  have hF := few1 s W1 (.slice A1 l.length c1) l 25 H1.out
  rw [hfew] at hF
  have hE := (Ext.rfl' W1).al (.cells #[(.slice A1 l.length c1)] 25)
  generalize hWn : W1.alloc (.cells #[(.slice A1 l.length c1)] 25) = W2 at *
  clear hWn
  replace B5 := B5.ext hE
  replace H1 := SlS.hext H1 hE
  replace HW := Wd.hext HW hE
  replace HE := Lib.hid (HE.out.tr hE)
  clear hE
  refine (hF).mono ?_
  rintro e W3 ⟨rfl, hE⟩
  replace B5 := B5.ext hE
  replace H1 := SlS.hext H1 hE
  replace HW := Wd.hext HW hE
  replace HE := Lib.hid (HE.out.tr hE)
  clear hE
  clear hF
  have k0 : W3.cell? ⟨w.heap.size, 0, none⟩ = some (.string s) := B5.c 0
  have k1 : W3.cell? ⟨w.heap.size, 1, none⟩ = some (.string t) := B5.c 1
  go_wp2_with fail
  clear k0 k1
  refine (awake_v _ HW.out).mono ?_
  rintro e W4 ⟨rfl, hE⟩
  replace B5 := B5.ext hE
  replace H1 := SlS.hext H1 hE
  replace HW := Wd.hext HW hE
  replace HE := Lib.hid (HE.out.tr hE)
  clear hE
  go_wp2_with fail
  go_ret
  exact ⟨rfl, HE.out⟩
set_option maxHeartbeats 16000000 in
set_option maxRecDepth 400000 in
theorem enc_long (v : Value) (l : List ByteArray) (s t : ByteArray) (w : World) (hW : Wd w) (h1 : SlS w v l) (z1 : s.size ≤ 140737488351232) (z2 : t.size ≤ 140737488351232) (hfew : (decide (s.size ≤ 20) && fewB l) = true) (hz : 20 < t.size) : Calls Tryz.prog 6 #[v, .agg #[.string s, .string t]] w fun e w' => e = .returned (.bool true) ∧ Ext w w' := by
  have hz2 : (20 : Int) < (t.size : Int) := by omega
  obtain ⟨A1, c1, rfl⟩ := h1.slc
  have HW := Lib.hid hW
  have HE := Lib.hid (Ext.rfl' w)
  have H1 := Lib.hid h1
  clear hW h1
  have B5 := Bx.new w #[.string s, .string t] 44
  have hE := (Ext.rfl' w).al (.cells #[.string s, .string t] 44)
  go_enter Tryz.func6, Tryz.ntmps6
  go_wp2_with fail
  generalize w.alloc (.cells #[.string s, .string t] 44) = W0 at *
  replace H1 := SlS.hext H1 hE
  replace HW := Wd.hext HW hE
  replace HE := Lib.hid (HE.out.tr hE)
  clear hE
  refine (awake_v _ HW.out).mono ?_
  rintro e W1 ⟨rfl, hE⟩
  replace B5 := B5.ext hE
  replace H1 := SlS.hext H1 hE
  replace HW := Wd.hext HW hE
  replace HE := Lib.hid (HE.out.tr hE)
  clear hE
  have k0 : W1.cell? ⟨w.heap.size, 0, none⟩ = some (.string s) := B5.c 0
  have k1 : W1.cell? ⟨w.heap.size, 1, none⟩ = some (.string t) := B5.c 1
  go_wp2_with fail
  clear k0 k1
  have hF := few1 s W1 (.slice A1 l.length c1) l 25 H1.out
  rw [hfew] at hF
  have hE := (Ext.rfl' W1).al (.cells #[(.slice A1 l.length c1)] 25)
  generalize hWn : W1.alloc (.cells #[(.slice A1 l.length c1)] 25) = W2 at *
  clear hWn
  replace B5 := B5.ext hE
  replace H1 := SlS.hext H1 hE
  replace HW := Wd.hext HW hE
  replace HE := Lib.hid (HE.out.tr hE)
  clear hE
  refine (hF).mono ?_
  rintro e W3 ⟨rfl, hE⟩
  replace B5 := B5.ext hE
  replace H1 := SlS.hext H1 hE
  replace HW := Wd.hext HW hE
  replace HE := Lib.hid (HE.out.tr hE)
  clear hE
  clear hF
  have k0 : W3.cell? ⟨w.heap.size, 0, none⟩ = some (.string s) := B5.c 0
  have k1 : W3.cell? ⟨w.heap.size, 1, none⟩ = some (.string t) := B5.c 1
  go_wp2_with fail
  clear k0 k1
  refine (awake_v _ HW.out).mono ?_
  rintro e W4 ⟨rfl, hE⟩
  replace B5 := B5.ext hE
  replace H1 := SlS.hext H1 hE
  replace HW := Wd.hext HW hE
  replace HE := Lib.hid (HE.out.tr hE)
  clear hE
  go_wp2_with fail
  go_ret
  exact ⟨rfl, HE.out⟩
set_option maxHeartbeats 16000000 in
set_option maxRecDepth 400000 in
theorem enc_yes (v : Value) (l : List ByteArray) (s t : ByteArray) (w : World) (hW : Wd w) (h1 : SlS w v l) (z1 : s.size ≤ 140737488351232) (z2 : t.size ≤ 140737488351232) (hfew : (decide (s.size ≤ 20) && fewB l) = true) (hz : ¬ 20 < t.size) (hl : l.length ≤ 1000) (a1 a2 : ByteArray) (k : Int)
    (hP : ∀ W u, Ext w W → SlS W u l → Calls Tryz.prog 39 #[u, .agg #[.string s, .string t]] W fun e w' => e = .returned (.tuple #[.agg #[.string a1, .string a2], .int .i64 k]) ∧ Ext W w')
    (hR : ∀ W, Ext w W → Calls Tryz.prog 40 #[v, .agg #[.string s, .string t]] W fun e w' => e = .returned (.tuple #[.agg #[.string a1, .string a2], .int .i64 k]) ∧ Ext W w') : Calls Tryz.prog 6 #[v, .agg #[.string s, .string t]] w fun e w' => e = .returned (.bool true) ∧ Ext w w' := by
  have hz2 : ¬ (20 : Int) < (t.size : Int) := by omega
  have HP := Lib.hid hP
  have HR := Lib.hid hR
  have HLn := Lib.hid hl
  clear hP hR hl
  have hkk : (k == k) = true := by simp
  obtain ⟨A1, c1, rfl⟩ := h1.slc
  have HW := Lib.hid hW
  have HE := Lib.hid (Ext.rfl' w)
  have H1 := Lib.hid h1
  clear hW h1
  have B5 := Bx.new w #[.string s, .string t] 44
  have hE := (Ext.rfl' w).al (.cells #[.string s, .string t] 44)
  go_enter Tryz.func6, Tryz.ntmps6
  go_wp2_with fail
  generalize w.alloc (.cells #[.string s, .string t] 44) = W0 at *
  replace H1 := SlS.hext H1 hE
  replace HW := Wd.hext HW hE
  replace HE := Lib.hid (HE.out.tr hE)
  clear hE
  refine (awake_v _ HW.out).mono ?_
  rintro e W1 ⟨rfl, hE⟩
  replace B5 := B5.ext hE
  replace H1 := SlS.hext H1 hE
  replace HW := Wd.hext HW hE
  replace HE := Lib.hid (HE.out.tr hE)
  clear hE
  have k0 : W1.cell? ⟨w.heap.size, 0, none⟩ = some (.string s) := B5.c 0
  have k1 : W1.cell? ⟨w.heap.size, 1, none⟩ = some (.string t) := B5.c 1
  go_wp2_with fail
  clear k0 k1
  have hF := few1 s W1 (.slice A1 l.length c1) l 25 H1.out
  rw [hfew] at hF
  have hE := (Ext.rfl' W1).al (.cells #[(.slice A1 l.length c1)] 25)
  generalize hWn : W1.alloc (.cells #[(.slice A1 l.length c1)] 25) = W2 at *
  clear hWn
  replace B5 := B5.ext hE
  replace H1 := SlS.hext H1 hE
  replace HW := Wd.hext HW hE
  replace HE := Lib.hid (HE.out.tr hE)
  clear hE
  refine (hF).mono ?_
  rintro e W3 ⟨rfl, hE⟩
  replace B5 := B5.ext hE
  replace H1 := SlS.hext H1 hE
  replace HW := Wd.hext HW hE
  replace HE := Lib.hid (HE.out.tr hE)
  clear hE
  clear hF
  have k0 : W3.cell? ⟨w.heap.size, 0, none⟩ = some (.string s) := B5.c 0
  have k1 : W3.cell? ⟨w.heap.size, 1, none⟩ = some (.string t) := B5.c 1
  go_wp2_with fail
  clear k0 k1
  have k0d : W3.drew.cell? ⟨w.heap.size, 0, none⟩ = some (.string s) := B5.c 0
  have k1d : W3.drew.cell? ⟨w.heap.size, 1, none⟩ = some (.string t) := B5.c 1
  refine wp_region_held_drew (S := (fun w' => w'.cell? ⟨w.heap.size, 0, none⟩ = some (.string s) ∧ w'.cell? ⟨w.heap.size, 1, none⟩ = some (.string t))) (by kernel_rfl) (by exact ⟨k0d, k1d⟩) (fun hHeld => ?_)
  refine wpAnyH_take (i := 0) (oi := { dst := some 27, op := Go.Op.move (Go.Operand.tmp 0), type := 25, pos := "law.go:89", after := #[], guard := none }) (v := ?_) rfl (by kernel_rfl) (by kernel_rfl) (by kernel_rfl) (fun _ _ _ h => h) (Or.inl ⟨by rfl, ?_⟩) hHeld ?_
  rotate_left
  · intro w' hSw; (try dsimp only at hSw); go_simp; (try with_reducible rfl)
  try simp only [Act.put, List.setIfInBounds_toArray, List.set_cons_zero, List.set_cons_succ]
  refine wpAnyH_take (i := 2) (oi := { dst := some 29, op := Go.Op.load 44 (Go.Operand.tmp 3), type := 44, pos := "law.go:89", after := #[], guard := none }) (v := ?_) rfl (by kernel_rfl) (by kernel_rfl) (by kernel_rfl) (fun _ _ _ h => h) (Or.inl ⟨by rfl, ?_⟩) hHeld ?_
  rotate_left
  · intro w' hSw; (try dsimp only at hSw); go_simp; (try with_reducible rfl)
  try simp only [Act.put, List.setIfInBounds_toArray, List.set_cons_zero, List.set_cons_succ]
  refine wpAnyH_ready (rs := [1, 7]) (by kernel_rfl) (by simp) ?_
  refine (AllReadyH.cons (o := { dst := some 28, op := Go.Op.call { callee := Go.Callee.value (Go.Operand.func 21), args := #[Go.Operand.tmp 27], argTypes := #[25] }, type := 25, pos := "law.go:89", after := #[{ on := 0, ground := Go.Ground.data }], guard := none }) rfl (fun K hK => ?_) (AllReadyH.cons (o := { dst := some 5, op := Go.Op.alloc 44, type := 0, pos := "law.go:89", after := #[], guard := none }) rfl (fun K hK => ?_) AllReadyH.nil))
  · skip
    go_simp
    (go_at_call 21; (with_reducible refine (cloneP_v _ l _ (SlS.ext H1.out ((Ext.rfl' W3).dr)) (by have h : l.length ≤ 1000 := HLn.out; omega)).mono ?_); rintro e Wc ⟨vc, rfl, hc, hE⟩;  replace hE := (((Ext.rfl' W3).dr)).tr hE; obtain ⟨Ac, cc, rfl⟩ := hc.sl.slc; have HC := Lib.hid hc.sl; replace B5 := B5.ext hE; replace H1 := SlS.hext H1 hE; replace HW := Wd.hext HW hE; replace HE := Lib.hid (HE.out.tr hE); clear hE hc)
    refine hK.out _ _ (by exact ⟨B5.c 0, B5.c 1⟩) (fun hHeld2 => ?_)
    clear hK K hHeld
    have hHeld := hHeld2
    clear hHeld2
    try simp only [Act.put, List.setIfInBounds_toArray, List.set_cons_zero, List.set_cons_succ]
    refine wpAnyH_ready (rs := [3, 7]) (by kernel_rfl) (by simp) ?_
    refine (AllReadyH.cons (o := { dst := some 30, op := Go.Op.call { callee := Go.Callee.value (Go.Operand.func 39), args := #[Go.Operand.tmp 28, Go.Operand.tmp 29], argTypes := #[25, 44] }, type := 45, pos := "law.go:89", after := #[{ on := 1, ground := Go.Ground.data }, { on := 2, ground := Go.Ground.data }, { on := 1, ground := Go.Ground.chain }], guard := none }) rfl (fun K hK => ?_) (AllReadyH.cons (o := { dst := some 5, op := Go.Op.alloc 44, type := 0, pos := "law.go:89", after := #[], guard := none }) rfl (fun K hK => ?_) AllReadyH.nil))
    · skip
      go_simp
      (go_at_call 39; (with_reducible refine (HP.out _ _ (HE.out.tr (Ext.rfl' _)) (SlS.ext HC.out (Ext.rfl' _))).mono ?_); rintro e We ⟨rfl, hE⟩;  replace hE := ((Ext.rfl' _)).tr hE; replace B5 := B5.ext hE; replace H1 := SlS.hext H1 hE; replace HW := Wd.hext HW hE; replace HE := Lib.hid (HE.out.tr hE); clear hE)
      refine hK.out _ _ (by exact ⟨B5.c 0, B5.c 1⟩) (fun hHeld2 => ?_)
      clear hK K hHeld
      have hHeld := hHeld2
      clear hHeld2
      try simp only [Act.put, List.setIfInBounds_toArray, List.set_cons_zero, List.set_cons_succ]
      refine wpAnyH_take (i := 4) (oi := { dst := some 26, op := Go.Op.move (Go.Operand.tmp 30), type := 45, pos := "law.go:89", after := #[{ on := 3, ground := Go.Ground.data }], guard := none }) (v := ?_) rfl (by kernel_rfl) (by kernel_rfl) (by kernel_rfl) (fun _ _ _ h => h) (Or.inl ⟨by rfl, ?_⟩) hHeld ?_
      rotate_left
      · intro w' hSw; (try dsimp only at hSw); go_simp; (try with_reducible rfl)
      try simp only [Act.put, List.setIfInBounds_toArray, List.set_cons_zero, List.set_cons_succ]
      refine wpAnyH_take (i := 5) (oi := { dst := some 31, op := Go.Op.extract (Go.Operand.tmp 26) 0, type := 44, pos := "law.go:89", after := #[{ on := 4, ground := Go.Ground.data }], guard := none }) (v := ?_) rfl (by kernel_rfl) (by kernel_rfl) (by kernel_rfl) (fun _ _ _ h => h) (Or.inl ⟨by rfl, ?_⟩) hHeld ?_
      rotate_left
      · intro w' hSw; (try dsimp only at hSw); go_simp; (try with_reducible rfl)
      try simp only [Act.put, List.setIfInBounds_toArray, List.set_cons_zero, List.set_cons_succ]
      refine wpAnyH_take (i := 6) (oi := { dst := some 32, op := Go.Op.extract (Go.Operand.tmp 26) 1, type := 26, pos := "law.go:89", after := #[{ on := 4, ground := Go.Ground.data }, { on := 8, ground := Go.Ground.gcOnly Go.Departure.lateStores }], guard := none }) (v := ?_) rfl (by kernel_rfl) (by kernel_rfl) (by kernel_rfl) (fun _ _ _ h => h) (Or.inl ⟨by rfl, ?_⟩) hHeld ?_
      rotate_left
      · intro w' hSw; (try dsimp only at hSw); go_simp; (try with_reducible rfl)
      try simp only [Act.put, List.setIfInBounds_toArray, List.set_cons_zero, List.set_cons_succ]
      refine wpAnyH_ready (rs := [7]) (by kernel_rfl) (by simp) ?_
      refine (AllReadyH.cons (o := { dst := some 5, op := Go.Op.alloc 44, type := 0, pos := "law.go:89", after := #[], guard := none }) rfl (fun K hK => ?_) AllReadyH.nil)
      go_simp
      refine hK.out _ _ (by exact ⟨(B5.ext ((Ext.rfl' _).al _)).c 0, (B5.ext ((Ext.rfl' _).al _)).c 1⟩) (fun hHeld2 => ?_)
      clear hK K hHeld
      have hHeld := hHeld2
      clear hHeld2
      try simp only [Act.put, List.setIfInBounds_toArray, List.set_cons_zero, List.set_cons_succ]
      have hgl : w.heap.size < We.heap.size := B5.lt
      have Bg := Bx.new We #[.string ⟨#[]⟩, .string ⟨#[]⟩] 44
      refine wpAnyH_ready (rs := [8]) (by kernel_rfl) (by simp) ?_
      refine AllReadyH.cons (o := { dst := none, op := Go.Op.store 44 (Go.Operand.tmp 5) (Go.Operand.tmp 31), type := 0, pos := "law.go:89", after := #[{ on := 7, ground := Go.Ground.data }, { on := 5, ground := Go.Ground.data }, { on := 3, ground := Go.Ground.chain }, { on := 0, ground := Go.Ground.phase }, { on := 1, ground := Go.Ground.phase }, { on := 2, ground := Go.Ground.phase }, { on := 3, ground := Go.Ground.phase }, { on := 4, ground := Go.Ground.phase }, { on := 5, ground := Go.Ground.phase }, { on := 6, ground := Go.Ground.textOnly Go.Departure.lateStores }, { on := 7, ground := Go.Ground.phase }], guard := none }) rfl (fun K hK => ?_) AllReadyH.nil
      go_simp
      have QE : Ext w (We.alloc (.cells #[.string a1, .string a2] 44)) := HE.out.al _
      have Q5 : Bx (We.alloc (.cells #[.string a1, .string a2] 44)) w.heap.size #[.string s, .string t] 44 := B5.al _
      have Qg : Bx (We.alloc (.cells #[.string a1, .string a2] 44)) We.heap.size #[.string a1, .string a2] 44 := Bx.new We #[.string a1, .string a2] 44
      refine hK.out _ _ (by exact ⟨Q5.c 0, Q5.c 1⟩) (fun hHeld2 => ?_)
      clear hK K hHeld
      have hHeld := hHeld2
      clear hHeld2
      try simp only [Act.put, List.setIfInBounds_toArray, List.set_cons_zero, List.set_cons_succ]
      refine wpAnyH_take (i := 9) (oi := { dst := some 6, op := Go.Op.assign (Go.Operand.tmp 32), type := 26, pos := "law.go:89", after := #[{ on := 6, ground := Go.Ground.data }, { on := 8, ground := Go.Ground.chain }, { on := 0, ground := Go.Ground.phase }, { on := 1, ground := Go.Ground.phase }, { on := 2, ground := Go.Ground.phase }, { on := 3, ground := Go.Ground.phase }, { on := 4, ground := Go.Ground.phase }, { on := 5, ground := Go.Ground.phase }, { on := 6, ground := Go.Ground.phase }, { on := 7, ground := Go.Ground.phase }, { on := 8, ground := Go.Ground.phase }], guard := none }) (v := ?_) rfl (by kernel_rfl) (by kernel_rfl) (by kernel_rfl) (fun _ _ _ h => h) (Or.inl ⟨by rfl, ?_⟩) hHeld ?_
      rotate_left
      · intro w' hSw; (try dsimp only at hSw); go_simp; (try with_reducible rfl)
      try simp only [Act.put, List.setIfInBounds_toArray, List.set_cons_zero, List.set_cons_succ]
      refine wpAnyH_done (by kernel_rfl) ?_ _
      have HEn := Lib.hid QE
      clear QE hHeld B5 H1 HW HE HP
      generalize (We.alloc (.cells #[.string a1, .string a2] 44)) = Wn at *
      generalize We.heap.size = gg at *
      have k0 : Wn.cell? ⟨w.heap.size, 0, none⟩ = some (.string s) := Q5.c 0
      have k1 : Wn.cell? ⟨w.heap.size, 1, none⟩ = some (.string t) := Q5.c 1
      go_wp2_with fail
      refine (HR.out _ HEn.out).mono ?_
      rintro e Wr ⟨rfl, hE⟩
      replace HEn := Lib.hid (HEn.out.tr hE)
      replace Qg := Qg.ext hE
      have m0 : (Wr.alloc (.cells #[.string a1, .string a2] 44)).cell? ⟨gg, 0, none⟩ = some (.string a1) := (Qg.al _).c 0
      have m1 : (Wr.alloc (.cells #[.string a1, .string a2] 44)).cell? ⟨gg, 1, none⟩ = some (.string a2) := (Qg.al _).c 1
      clear hE k0 k1 Q5
      go_wp2_with fail
      go_ret
      exact ⟨rfl, HEn.out.al _⟩
    · skip
      go_simp
      refine hK.out _ _ (by exact ⟨(B5.ext ((Ext.rfl' _).al _)).c 0, (B5.ext ((Ext.rfl' _).al _)).c 1⟩) (fun hHeld2 => ?_)
      clear hK K hHeld
      have hHeld := hHeld2
      clear hHeld2
      try simp only [Act.put, List.setIfInBounds_toArray, List.set_cons_zero, List.set_cons_succ]
      have hgl : w.heap.size < Wc.heap.size := B5.lt
      have Bg := Bx.new Wc #[.string ⟨#[]⟩, .string ⟨#[]⟩] 44
      refine wpAnyH_ready (rs := [3]) (by kernel_rfl) (by simp) ?_
      refine (AllReadyH.cons (o := { dst := some 30, op := Go.Op.call { callee := Go.Callee.value (Go.Operand.func 39), args := #[Go.Operand.tmp 28, Go.Operand.tmp 29], argTypes := #[25, 44] }, type := 45, pos := "law.go:89", after := #[{ on := 1, ground := Go.Ground.data }, { on := 2, ground := Go.Ground.data }, { on := 1, ground := Go.Ground.chain }], guard := none }) rfl (fun K hK => ?_) AllReadyH.nil)
      go_simp
      (go_at_call 39; (with_reducible refine (HP.out _ _ (HE.out.tr ((Ext.rfl' _).al _)) (SlS.ext HC.out ((Ext.rfl' _).al _))).mono ?_); rintro e We ⟨rfl, hE⟩; replace Bg := Bg.ext hE;  replace hE := (((Ext.rfl' _).al _)).tr hE; replace B5 := B5.ext hE; replace H1 := SlS.hext H1 hE; replace HW := Wd.hext HW hE; replace HE := Lib.hid (HE.out.tr hE); clear hE)
      refine hK.out _ _ (by exact ⟨B5.c 0, B5.c 1⟩) (fun hHeld2 => ?_)
      clear hK K hHeld
      have hHeld := hHeld2
      clear hHeld2
      try simp only [Act.put, List.setIfInBounds_toArray, List.set_cons_zero, List.set_cons_succ]
      refine wpAnyH_take (i := 4) (oi := { dst := some 26, op := Go.Op.move (Go.Operand.tmp 30), type := 45, pos := "law.go:89", after := #[{ on := 3, ground := Go.Ground.data }], guard := none }) (v := ?_) rfl (by kernel_rfl) (by kernel_rfl) (by kernel_rfl) (fun _ _ _ h => h) (Or.inl ⟨by rfl, ?_⟩) hHeld ?_
      rotate_left
      · intro w' hSw; (try dsimp only at hSw); go_simp; (try with_reducible rfl)
      try simp only [Act.put, List.setIfInBounds_toArray, List.set_cons_zero, List.set_cons_succ]
      refine wpAnyH_take (i := 5) (oi := { dst := some 31, op := Go.Op.extract (Go.Operand.tmp 26) 0, type := 44, pos := "law.go:89", after := #[{ on := 4, ground := Go.Ground.data }], guard := none }) (v := ?_) rfl (by kernel_rfl) (by kernel_rfl) (by kernel_rfl) (fun _ _ _ h => h) (Or.inl ⟨by rfl, ?_⟩) hHeld ?_
      rotate_left
      · intro w' hSw; (try dsimp only at hSw); go_simp; (try with_reducible rfl)
      try simp only [Act.put, List.setIfInBounds_toArray, List.set_cons_zero, List.set_cons_succ]
      refine wpAnyH_take (i := 6) (oi := { dst := some 32, op := Go.Op.extract (Go.Operand.tmp 26) 1, type := 26, pos := "law.go:89", after := #[{ on := 4, ground := Go.Ground.data }, { on := 8, ground := Go.Ground.gcOnly Go.Departure.lateStores }], guard := none }) (v := ?_) rfl (by kernel_rfl) (by kernel_rfl) (by kernel_rfl) (fun _ _ _ h => h) (Or.inl ⟨by rfl, ?_⟩) hHeld ?_
      rotate_left
      · intro w' hSw; (try dsimp only at hSw); go_simp; (try with_reducible rfl)
      try simp only [Act.put, List.setIfInBounds_toArray, List.set_cons_zero, List.set_cons_succ]
      have y0 := Bg.c 0
      have y1 := Bg.c 1
      have f0 := Bg.f 0
      have f1 := Bg.f 1
      refine wpAnyH_ready (rs := [8]) (by kernel_rfl) (by simp) ?_
      refine AllReadyH.cons (o := { dst := none, op := Go.Op.store 44 (Go.Operand.tmp 5) (Go.Operand.tmp 31), type := 0, pos := "law.go:89", after := #[{ on := 7, ground := Go.Ground.data }, { on := 5, ground := Go.Ground.data }, { on := 3, ground := Go.Ground.chain }, { on := 0, ground := Go.Ground.phase }, { on := 1, ground := Go.Ground.phase }, { on := 2, ground := Go.Ground.phase }, { on := 3, ground := Go.Ground.phase }, { on := 4, ground := Go.Ground.phase }, { on := 5, ground := Go.Ground.phase }, { on := 6, ground := Go.Ground.textOnly Go.Departure.lateStores }, { on := 7, ground := Go.Ground.phase }], guard := none }) rfl (fun K hK => ?_) AllReadyH.nil
      go_simp
      have hne : w.heap.size ≠ Wc.heap.size := Nat.ne_of_lt hgl
      have QE : Ext w ((We.setCell ⟨Wc.heap.size, 0, none⟩ (.string a1)).setCell ⟨Wc.heap.size, 1, none⟩ (.string a2)) := ext_set2 (b := Wc.heap.size) HE.out (Nat.le_of_lt hgl) _ _
      have Q5 : Bx ((We.setCell ⟨Wc.heap.size, 0, none⟩ (.string a1)).setCell ⟨Wc.heap.size, 1, none⟩ (.string a2)) w.heap.size #[.string s, .string t] 44 := (B5.set (p := ⟨Wc.heap.size, 0, none⟩) hne _).set (p := ⟨Wc.heap.size, 1, none⟩) hne _
      have Qg : Bx ((We.setCell ⟨Wc.heap.size, 0, none⟩ (.string a1)).setCell ⟨Wc.heap.size, 1, none⟩ (.string a2)) Wc.heap.size #[.string a1, .string a2] 44 := (Bg.put 0 (.string a1)).put 1 (.string a2)
      refine hK.out _ _ (by exact ⟨Q5.c 0, Q5.c 1⟩) (fun hHeld2 => ?_)
      clear hK K hHeld
      have hHeld := hHeld2
      clear hHeld2
      try simp only [Act.put, List.setIfInBounds_toArray, List.set_cons_zero, List.set_cons_succ]
      refine wpAnyH_take (i := 9) (oi := { dst := some 6, op := Go.Op.assign (Go.Operand.tmp 32), type := 26, pos := "law.go:89", after := #[{ on := 6, ground := Go.Ground.data }, { on := 8, ground := Go.Ground.chain }, { on := 0, ground := Go.Ground.phase }, { on := 1, ground := Go.Ground.phase }, { on := 2, ground := Go.Ground.phase }, { on := 3, ground := Go.Ground.phase }, { on := 4, ground := Go.Ground.phase }, { on := 5, ground := Go.Ground.phase }, { on := 6, ground := Go.Ground.phase }, { on := 7, ground := Go.Ground.phase }, { on := 8, ground := Go.Ground.phase }], guard := none }) (v := ?_) rfl (by kernel_rfl) (by kernel_rfl) (by kernel_rfl) (fun _ _ _ h => h) (Or.inl ⟨by rfl, ?_⟩) hHeld ?_
      rotate_left
      · intro w' hSw; (try dsimp only at hSw); go_simp; (try with_reducible rfl)
      try simp only [Act.put, List.setIfInBounds_toArray, List.set_cons_zero, List.set_cons_succ]
      refine wpAnyH_done (by kernel_rfl) ?_ _
      have HEn := Lib.hid QE
      clear QE hHeld B5 H1 HW HE HP
      clear y0 y1 f0 f1
      generalize ((We.setCell ⟨Wc.heap.size, 0, none⟩ (.string a1)).setCell ⟨Wc.heap.size, 1, none⟩ (.string a2)) = Wn at *
      generalize Wc.heap.size = gg at *
      have k0 : Wn.cell? ⟨w.heap.size, 0, none⟩ = some (.string s) := Q5.c 0
      have k1 : Wn.cell? ⟨w.heap.size, 1, none⟩ = some (.string t) := Q5.c 1
      go_wp2_with fail
      refine (HR.out _ HEn.out).mono ?_
      rintro e Wr ⟨rfl, hE⟩
      replace HEn := Lib.hid (HEn.out.tr hE)
      replace Qg := Qg.ext hE
      have m0 : (Wr.alloc (.cells #[.string a1, .string a2] 44)).cell? ⟨gg, 0, none⟩ = some (.string a1) := (Qg.al _).c 0
      have m1 : (Wr.alloc (.cells #[.string a1, .string a2] 44)).cell? ⟨gg, 1, none⟩ = some (.string a2) := (Qg.al _).c 1
      clear hE k0 k1 Q5
      go_wp2_with fail
      go_ret
      exact ⟨rfl, HEn.out.al _⟩
  · skip
    go_simp
    refine hK.out _ _ (by exact ⟨(B5.ext (((Ext.rfl' W3).al _).dr)).c 0, (B5.ext (((Ext.rfl' W3).al _).dr)).c 1⟩) (fun hHeld2 => ?_)
    clear hK K hHeld
    have hHeld := hHeld2
    clear hHeld2
    try simp only [Act.put, List.setIfInBounds_toArray, List.set_cons_zero, List.set_cons_succ]
    have hgl : w.heap.size < W3.heap.size := B5.lt
    have Bg : Bx (World.drew (W3.alloc (.cells #[.string ⟨#[]⟩, .string ⟨#[]⟩] 44))) W3.heap.size #[.string ⟨#[]⟩, .string ⟨#[]⟩] 44 := Bx.new W3 #[.string ⟨#[]⟩, .string ⟨#[]⟩] 44
    refine wpAnyH_ready (rs := [1]) (by kernel_rfl) (by simp) ?_
    refine (AllReadyH.cons (o := { dst := some 28, op := Go.Op.call { callee := Go.Callee.value (Go.Operand.func 21), args := #[Go.Operand.tmp 27], argTypes := #[25] }, type := 25, pos := "law.go:89", after := #[{ on := 0, ground := Go.Ground.data }], guard := none }) rfl (fun K hK => ?_) AllReadyH.nil)
    go_simp
    (go_at_call 21; (with_reducible refine (cloneP_v _ l _ (SlS.ext H1.out (((Ext.rfl' W3).al _).dr)) (by have h : l.length ≤ 1000 := HLn.out; omega)).mono ?_); rintro e Wc ⟨vc, rfl, hc, hE⟩; replace Bg := Bg.ext hE;  replace hE := ((((Ext.rfl' W3).al _).dr)).tr hE; obtain ⟨Ac, cc, rfl⟩ := hc.sl.slc; have HC := Lib.hid hc.sl; replace B5 := B5.ext hE; replace H1 := SlS.hext H1 hE; replace HW := Wd.hext HW hE; replace HE := Lib.hid (HE.out.tr hE); clear hE hc)
    refine hK.out _ _ (by exact ⟨B5.c 0, B5.c 1⟩) (fun hHeld2 => ?_)
    clear hK K hHeld
    have hHeld := hHeld2
    clear hHeld2
    try simp only [Act.put, List.setIfInBounds_toArray, List.set_cons_zero, List.set_cons_succ]
    refine wpAnyH_ready (rs := [3]) (by kernel_rfl) (by simp) ?_
    refine (AllReadyH.cons (o := { dst := some 30, op := Go.Op.call { callee := Go.Callee.value (Go.Operand.func 39), args := #[Go.Operand.tmp 28, Go.Operand.tmp 29], argTypes := #[25, 44] }, type := 45, pos := "law.go:89", after := #[{ on := 1, ground := Go.Ground.data }, { on := 2, ground := Go.Ground.data }, { on := 1, ground := Go.Ground.chain }], guard := none }) rfl (fun K hK => ?_) AllReadyH.nil)
    go_simp
    (go_at_call 39; (with_reducible refine (HP.out _ _ (HE.out.tr (Ext.rfl' _)) (SlS.ext HC.out (Ext.rfl' _))).mono ?_); rintro e We ⟨rfl, hE⟩; replace Bg := Bg.ext hE;  replace hE := ((Ext.rfl' _)).tr hE; replace B5 := B5.ext hE; replace H1 := SlS.hext H1 hE; replace HW := Wd.hext HW hE; replace HE := Lib.hid (HE.out.tr hE); clear hE)
    refine hK.out _ _ (by exact ⟨B5.c 0, B5.c 1⟩) (fun hHeld2 => ?_)
    clear hK K hHeld
    have hHeld := hHeld2
    clear hHeld2
    try simp only [Act.put, List.setIfInBounds_toArray, List.set_cons_zero, List.set_cons_succ]
    refine wpAnyH_take (i := 4) (oi := { dst := some 26, op := Go.Op.move (Go.Operand.tmp 30), type := 45, pos := "law.go:89", after := #[{ on := 3, ground := Go.Ground.data }], guard := none }) (v := ?_) rfl (by kernel_rfl) (by kernel_rfl) (by kernel_rfl) (fun _ _ _ h => h) (Or.inl ⟨by rfl, ?_⟩) hHeld ?_
    rotate_left
    · intro w' hSw; (try dsimp only at hSw); go_simp; (try with_reducible rfl)
    try simp only [Act.put, List.setIfInBounds_toArray, List.set_cons_zero, List.set_cons_succ]
    refine wpAnyH_take (i := 5) (oi := { dst := some 31, op := Go.Op.extract (Go.Operand.tmp 26) 0, type := 44, pos := "law.go:89", after := #[{ on := 4, ground := Go.Ground.data }], guard := none }) (v := ?_) rfl (by kernel_rfl) (by kernel_rfl) (by kernel_rfl) (fun _ _ _ h => h) (Or.inl ⟨by rfl, ?_⟩) hHeld ?_
    rotate_left
    · intro w' hSw; (try dsimp only at hSw); go_simp; (try with_reducible rfl)
    try simp only [Act.put, List.setIfInBounds_toArray, List.set_cons_zero, List.set_cons_succ]
    refine wpAnyH_take (i := 6) (oi := { dst := some 32, op := Go.Op.extract (Go.Operand.tmp 26) 1, type := 26, pos := "law.go:89", after := #[{ on := 4, ground := Go.Ground.data }, { on := 8, ground := Go.Ground.gcOnly Go.Departure.lateStores }], guard := none }) (v := ?_) rfl (by kernel_rfl) (by kernel_rfl) (by kernel_rfl) (fun _ _ _ h => h) (Or.inl ⟨by rfl, ?_⟩) hHeld ?_
    rotate_left
    · intro w' hSw; (try dsimp only at hSw); go_simp; (try with_reducible rfl)
    try simp only [Act.put, List.setIfInBounds_toArray, List.set_cons_zero, List.set_cons_succ]
    have y0 := Bg.c 0
    have y1 := Bg.c 1
    have f0 := Bg.f 0
    have f1 := Bg.f 1
    refine wpAnyH_ready (rs := [8]) (by kernel_rfl) (by simp) ?_
    refine AllReadyH.cons (o := { dst := none, op := Go.Op.store 44 (Go.Operand.tmp 5) (Go.Operand.tmp 31), type := 0, pos := "law.go:89", after := #[{ on := 7, ground := Go.Ground.data }, { on := 5, ground := Go.Ground.data }, { on := 3, ground := Go.Ground.chain }, { on := 0, ground := Go.Ground.phase }, { on := 1, ground := Go.Ground.phase }, { on := 2, ground := Go.Ground.phase }, { on := 3, ground := Go.Ground.phase }, { on := 4, ground := Go.Ground.phase }, { on := 5, ground := Go.Ground.phase }, { on := 6, ground := Go.Ground.textOnly Go.Departure.lateStores }, { on := 7, ground := Go.Ground.phase }], guard := none }) rfl (fun K hK => ?_) AllReadyH.nil
    go_simp
    have hne : w.heap.size ≠ W3.heap.size := Nat.ne_of_lt hgl
    have QE : Ext w ((We.setCell ⟨W3.heap.size, 0, none⟩ (.string a1)).setCell ⟨W3.heap.size, 1, none⟩ (.string a2)) := ext_set2 (b := W3.heap.size) HE.out (Nat.le_of_lt hgl) _ _
    have Q5 : Bx ((We.setCell ⟨W3.heap.size, 0, none⟩ (.string a1)).setCell ⟨W3.heap.size, 1, none⟩ (.string a2)) w.heap.size #[.string s, .string t] 44 := (B5.set (p := ⟨W3.heap.size, 0, none⟩) hne _).set (p := ⟨W3.heap.size, 1, none⟩) hne _
    have Qg : Bx ((We.setCell ⟨W3.heap.size, 0, none⟩ (.string a1)).setCell ⟨W3.heap.size, 1, none⟩ (.string a2)) W3.heap.size #[.string a1, .string a2] 44 := (Bg.put 0 (.string a1)).put 1 (.string a2)
    refine hK.out _ _ (by exact ⟨Q5.c 0, Q5.c 1⟩) (fun hHeld2 => ?_)
    clear hK K hHeld
    have hHeld := hHeld2
    clear hHeld2
    try simp only [Act.put, List.setIfInBounds_toArray, List.set_cons_zero, List.set_cons_succ]
    refine wpAnyH_take (i := 9) (oi := { dst := some 6, op := Go.Op.assign (Go.Operand.tmp 32), type := 26, pos := "law.go:89", after := #[{ on := 6, ground := Go.Ground.data }, { on := 8, ground := Go.Ground.chain }, { on := 0, ground := Go.Ground.phase }, { on := 1, ground := Go.Ground.phase }, { on := 2, ground := Go.Ground.phase }, { on := 3, ground := Go.Ground.phase }, { on := 4, ground := Go.Ground.phase }, { on := 5, ground := Go.Ground.phase }, { on := 6, ground := Go.Ground.phase }, { on := 7, ground := Go.Ground.phase }, { on := 8, ground := Go.Ground.phase }], guard := none }) (v := ?_) rfl (by kernel_rfl) (by kernel_rfl) (by kernel_rfl) (fun _ _ _ h => h) (Or.inl ⟨by rfl, ?_⟩) hHeld ?_
    rotate_left
    · intro w' hSw; (try dsimp only at hSw); go_simp; (try with_reducible rfl)
    try simp only [Act.put, List.setIfInBounds_toArray, List.set_cons_zero, List.set_cons_succ]
    refine wpAnyH_done (by kernel_rfl) ?_ _
    have HEn := Lib.hid QE
    clear QE hHeld B5 H1 HW HE HP
    clear y0 y1 f0 f1
    generalize ((We.setCell ⟨W3.heap.size, 0, none⟩ (.string a1)).setCell ⟨W3.heap.size, 1, none⟩ (.string a2)) = Wn at *
    generalize W3.heap.size = gg at *
    have k0 : Wn.cell? ⟨w.heap.size, 0, none⟩ = some (.string s) := Q5.c 0
    have k1 : Wn.cell? ⟨w.heap.size, 1, none⟩ = some (.string t) := Q5.c 1
    go_wp2_with fail
    refine (HR.out _ HEn.out).mono ?_
    rintro e Wr ⟨rfl, hE⟩
    replace HEn := Lib.hid (HEn.out.tr hE)
    replace Qg := Qg.ext hE
    have m0 : (Wr.alloc (.cells #[.string a1, .string a2] 44)).cell? ⟨gg, 0, none⟩ = some (.string a1) := (Qg.al _).c 0
    have m1 : (Wr.alloc (.cells #[.string a1, .string a2] 44)).cell? ⟨gg, 1, none⟩ = some (.string a2) := (Qg.al _).c 1
    clear hE k0 k1 Q5
    go_wp2_with fail
    go_ret
    exact ⟨rfl, HEn.out.al _⟩
theorem enc_v (v : Value) (l : List ByteArray) (s t : ByteArray) (w : World) (hW : Wd w) (h1 : SlS w v l) (z1 : s.size ≤ 140737488351232) (z2 : t.size ≤ 140737488351232) : Calls Tryz.prog 6 #[v, .agg #[.string s, .string t]] w fun e w' => e = .returned (.bool true) ∧ Ext w w' := by
  cases hf : (decide (s.size ≤ 20) && fewB l)
  · exact enc_few v l s t w hW h1 z1 z2 hf
  · by_cases hz : 20 < t.size
    · exact enc_long v l s t w hW h1 z1 z2 hf hz
    · have hf2 := hf
      rw [Bool.and_eq_true, decide_eq_true_eq] at hf2
      obtain ⟨hx, hfl⟩ := hf2
      have hln : l.length ≤ 1000 := Nat.le_trans (fewB_len hfl) (by omega)
      have h12 := fewB_txt hfl
      have h40 : ∀ s ∈ l, s.size ≤ 40 := fun s hs => Nat.le_trans (h12 s hs) (by omega)
      cases hb : (polB l && ivB s t)
      · exact enc_yes v l s t w hW h1 z1 z2 hf hz hln ⟨#[]⟩ ⟨#[]⟩ 1
          (fun W u hE hu => Enclose_no u l s t W (hW.ext hE) hu (sb_few hfl) (by omega) (by omega) hb)
          (fun W hE => q8Enc_no v l s t W (h1.ext hE) hln h40 (by omega) (by omega) hb)
      · rw [Bool.and_eq_true] at hb
        obtain ⟨p, rfl, tp, lp⟩ := (polB_iff l).1 hb.1
        obtain ⟨I1, I2, rfl, rfl, hle⟩ := ivB_yes hb.2
        have b1 : Bd I1 240 := bd_size I1 60 (by omega)
        have b2 : Bd I2 240 := bd_size I2 60 (by omega)
        exact enc_yes v _ _ _ w hW h1 z1 z2 hf hz hln _ _ 0
          (fun W u hE hu => Enclose_yes u p I1 I2 W (hW.ext hE) (po_of hu tp lp h12) b1 b2 hle)
          (fun W hE => q8Enc_yes v p I1 I2 W (h1.ext hE) tp lp h40 (by omega) (by omega) hle)
end Go.Proofs.YtbldlibijojbjaaGreatDoor.GB
