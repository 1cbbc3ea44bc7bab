import Derived.Test.YtadimepmoljnpaaGreatDoorCIp
import Derived.Test.YtadimepmoljnpaaGreatDoorMFu
namespace Go.Proofs.YtadimepmoljnpaaGreatDoor.GB
set_option linter.unusedVariables false
set_option linter.unusedSimpArgs false
open Go.RowKit Go.Shelf
attribute [local go_sem ↓] Go.wp_at_zero Go.wp_at_succ

def sgnZ (z : Int) : Int := if z = 0 then 0 else if z < 0 then -1 else 1
set_option maxHeartbeats 2000000 in
set_option maxRecDepth 100000 in
theorem sign_zero (w : World) : Calls Tryz.prog 123 #[.agg #[.bool false, .string ⟨#[48]⟩]] w fun e w' => e = .returned (.int .i64 (0)) ∧ Ext w w' := by
  have HE0 := Lib.hid ((Ext.rfl' w).al (.cells #[.bool false, .string ⟨#[48]⟩] 162))
  have X1 := Bx.new w #[.bool false, .string ⟨#[48]⟩] 162
  go_enter Tryz.func123, Tryz.ntmps123
  go_wp2_with fail
  have a0 := X1.c0
  have a1 := X1.c1
  clear X1
  generalize w.alloc (.cells #[.bool false, .string ⟨#[48]⟩] 162) = W0 at *
  go_region_held3 (fun w' => w'.cell? ⟨w.heap.size, 0, none⟩ = some (.bool false) ∧ w'.cell? ⟨w.heap.size, 1, none⟩ = some (.string ⟨#[48]⟩)) (((try dsimp only); (repeat' apply And.intro) <;> (first | assumption | ((go_keep); done))))
    (first
      | (go_at_call 157; (with_reducible refine (zero_any _).mono ?_); rintro e w' ⟨rfl, hE⟩; have q0 := Ext.cellD hE a0; have q1 := Ext.cellD hE a1))
  clear a0 a1
  go_wp2_with fail
  go_ret
  exact ⟨rfl, (Ext.dr' HE0).tr hE⟩
set_option maxHeartbeats 2000000 in
set_option maxRecDepth 100000 in
theorem sign_neg (s : ByteArray) (w : World) : Calls Tryz.prog 123 #[.agg #[.bool true, .string s]] w fun e w' => e = .returned (.int .i64 (-1)) ∧ Ext w w' := by
  have HE0 := Lib.hid ((Ext.rfl' w).al (.cells #[.bool true, .string s] 162))
  have X1 := Bx.new w #[.bool true, .string s] 162
  go_enter Tryz.func123, Tryz.ntmps123
  go_wp2_with fail
  have a0 := X1.c0
  have a1 := X1.c1
  clear X1
  generalize w.alloc (.cells #[.bool true, .string s] 162) = W0 at *
  go_region_held3 (fun w' => w'.cell? ⟨w.heap.size, 0, none⟩ = some (.bool true) ∧ w'.cell? ⟨w.heap.size, 1, none⟩ = some (.string s)) (((try dsimp only); (repeat' apply And.intro) <;> (first | assumption | ((go_keep); done))))
    (first
      | (go_at_call 157; (with_reducible refine (zero_any _).mono ?_); rintro e w' ⟨rfl, hE⟩; have q0 := Ext.cellD hE a0; have q1 := Ext.cellD hE a1))
  clear a0 a1
  go_wp2_with fail
  go_ret
  exact ⟨rfl, (Ext.dr' HE0).tr hE⟩
set_option maxHeartbeats 2000000 in
set_option maxRecDepth 100000 in
theorem sign_pos (s : ByteArray) (w : World) (hs : (s.toList == [48]) = false) : Calls Tryz.prog 123 #[.agg #[.bool false, .string s]] w fun e w' => e = .returned (.int .i64 (1)) ∧ Ext w w' := by
  have HE0 := Lib.hid ((Ext.rfl' w).al (.cells #[.bool false, .string s] 162))
  have X1 := Bx.new w #[.bool false, .string s] 162
  go_enter Tryz.func123, Tryz.ntmps123
  go_wp2_with fail
  have a0 := X1.c0
  have a1 := X1.c1
  clear X1
  generalize w.alloc (.cells #[.bool false, .string s] 162) = W0 at *
  go_region_held3 (fun w' => w'.cell? ⟨w.heap.size, 0, none⟩ = some (.bool false) ∧ w'.cell? ⟨w.heap.size, 1, none⟩ = some (.string s)) (((try dsimp only); (repeat' apply And.intro) <;> (first | assumption | ((go_keep); done))))
    (first
      | (go_at_call 157; (with_reducible refine (zero_any _).mono ?_); rintro e w' ⟨rfl, hE⟩; have q0 := Ext.cellD hE a0; have q1 := Ext.cellD hE a1))
  clear a0 a1
  go_wp2_with fail
  go_ret
  exact ⟨rfl, (Ext.dr' HE0).tr hE⟩
theorem sign_i (z : Int) (w : World) : Calls Tryz.prog 123 #[IV z] w fun e w' => e = .returned (.int .i64 (sgnZ z)) ∧ Ext w w' := by
  unfold sgnZ IV
  by_cases h0 : z = 0
  · subst h0
    rw [if_pos rfl]
    have e : dtx (Int.natAbs 0) = .string ⟨#[48]⟩ := dtx0
    rw [e]
    exact sign_zero w
  · rw [if_neg h0]
    by_cases h : z < 0
    · rw [if_pos h, decide_eq_true h]
      exact sign_neg _ w
    · rw [if_neg h, decide_eq_false h]
      exact sign_pos _ w (by rw [dtx_zero, decide_eq_false (by omega)])
end Go.Proofs.YtadimepmoljnpaaGreatDoor.GB

namespace Go.Proofs.YtadimepmoljnpaaGreatDoor.GB
set_option linter.unusedVariables false
set_option linter.unusedSimpArgs false
open Go.RowKit Go.Shelf
attribute [local go_sem ↓] Go.wp_at_zero Go.wp_at_succ

set_option maxHeartbeats 2000000 in
set_option maxRecDepth 100000 in
theorem iread_no (s t : ByteArray) (x : Bool) (w : World) (hcut : ∀ w, Calls Tryz.prog 186 #[.string s, .string ⟨#[45]⟩] w fun e w' => e = .returned (.tuple #[.string t, .bool x]) ∧ w' = w)
    (hval : ∀ w, Calls Tryz.prog 113 #[.string t] w fun e w' => e = .returned (.bool false) ∧ w = w') :
    Calls Tryz.prog 152 #[.string s] w fun e w' => e = .returned (.tuple #[.agg #[.bool x, .string t], .bool false]) ∧ Ext w w' := by
  have hcut' : Calls Tryz.prog 186 #[.string s, .string ⟨#[45]⟩] (w.alloc (.cells #[.bool false, .string ⟨#[]⟩] 162)) fun e w' => e = .returned (.tuple #[.string t, .bool x]) ∧ w' = (w.alloc (.cells #[.bool false, .string ⟨#[]⟩] 162)) := hcut _
  go_enter Tryz.func152, Tryz.ntmps152
  go_wp2_with fail
  refine hcut'.mono ?_
  rintro e w9 ⟨rfl, rfl⟩
  clear hcut'
  go_wp2_with fail
  obtain ⟨X1, X2, E0⟩ := boxes2 w #[.bool false, .string ⟨#[]⟩] #[.bool x, .string t] 162
  generalize ((w.alloc (.cells #[.bool false, .string ⟨#[]⟩] 162)).alloc (.cells #[.bool x, .string t] 162)) = W0 at *
  have a0 := X1.c0
  have a1 := X1.c1
  have f0 := X1.f 0
  have f1 := X1.f 1
  have b0 := X2.c0
  have b1 := X2.c1
  have HX := Lib.hid X1
  have HE := Lib.hid E0
  clear X1 X2 E0
  first | (go_region_with (first | (go_at_call 113; (with_reducible refine (hval _).mono ?_); rintro e w' ⟨rfl, rfl⟩))) | fail
  all_goals
    clear a0 a1 f0 f1 b0 b1
    go_wp2_with fail
    refine bodyPost_ret (v := .tuple #[.agg #[.bool x, .string t], .bool false]) ?_ rfl ⟨rfl, ?_⟩
    · obtain ⟨d0, d1⟩ := set2 HX.out (.bool x) (.string t)
      simp [results, Tryz.f152, go_sem, d0, d1]
    · exact (ext_set2 (b := w.heap.size) HE.out (Nat.le_refl _) _ _).dr
set_option maxHeartbeats 2000000 in
set_option maxRecDepth 100000 in
theorem iread_pos (s t : ByteArray) (x : Bool) (w : World) (hcut : ∀ w, Calls Tryz.prog 186 #[.string s, .string ⟨#[45]⟩] w fun e w' => e = .returned (.tuple #[.string t, .bool false]) ∧ w' = w)
    (hval : ∀ w, Calls Tryz.prog 113 #[.string t] w fun e w' => e = .returned (.bool true) ∧ w = w') :
    Calls Tryz.prog 152 #[.string s] w fun e w' => e = .returned (.tuple #[.agg #[.bool false, .string t], .bool true]) ∧ Ext w w' := by
  have hcut' : Calls Tryz.prog 186 #[.string s, .string ⟨#[45]⟩] (w.alloc (.cells #[.bool false, .string ⟨#[]⟩] 162)) fun e w' => e = .returned (.tuple #[.string t, .bool false]) ∧ w' = (w.alloc (.cells #[.bool false, .string ⟨#[]⟩] 162)) := hcut _
  go_enter Tryz.func152, Tryz.ntmps152
  go_wp2_with fail
  refine hcut'.mono ?_
  rintro e w9 ⟨rfl, rfl⟩
  clear hcut'
  go_wp2_with fail
  obtain ⟨X1, X2, E0⟩ := boxes2 w #[.bool false, .string ⟨#[]⟩] #[.bool false, .string t] 162
  generalize ((w.alloc (.cells #[.bool false, .string ⟨#[]⟩] 162)).alloc (.cells #[.bool false, .string t] 162)) = W0 at *
  have a0 := X1.c0
  have a1 := X1.c1
  have f0 := X1.f 0
  have f1 := X1.f 1
  have b0 := X2.c0
  have b1 := X2.c1
  have HX := Lib.hid X1
  have HE := Lib.hid E0
  clear X1 X2 E0
  go_region_held3 (fun w' => w'.cell? ⟨w.heap.size + 1, 0, none⟩ = some (.bool false) ∧ w'.cell? ⟨w.heap.size + 1, 1, none⟩ = some (.string t)) (((try dsimp only); (repeat' apply And.intro) <;> (first | assumption | ((go_keep); done) | (rw [World.cell?_setCell_other _ _ _ _ (by simp), World.cell?_setCell_other _ _ _ _ (by simp)]; assumption))))
    (first
      | (go_at_call 113; (with_reducible refine (hval _).mono ?_); rintro e w' ⟨rfl, rfl⟩))
  all_goals
    clear a0 a1 f0 f1 b0 b1
    go_wp2_with fail
    refine bodyPost_ret (v := .tuple #[.agg #[.bool false, .string t], .bool true]) ?_ rfl ⟨rfl, ?_⟩
    · obtain ⟨d0, d1⟩ := set2 HX.out (.bool false) (.string t)
      simp [results, Tryz.f152, go_sem, d0, d1]
    · exact (ext_set2 (b := w.heap.size) HE.out (Nat.le_refl _) _ _).dr
set_option maxHeartbeats 2000000 in
set_option maxRecDepth 100000 in
theorem iread_neg (s t : ByteArray) (x : Bool) (w : World) (hcut : ∀ w, Calls Tryz.prog 186 #[.string s, .string ⟨#[45]⟩] w fun e w' => e = .returned (.tuple #[.string t, .bool true]) ∧ w' = w)
    (hval : ∀ w, Calls Tryz.prog 113 #[.string t] w fun e w' => e = .returned (.bool true) ∧ w = w') (hq : (t.toList == [48]) = false) :
    Calls Tryz.prog 152 #[.string s] w fun e w' => e = .returned (.tuple #[.agg #[.bool true, .string t], .bool true]) ∧ Ext w w' := by
  have hcut' : Calls Tryz.prog 186 #[.string s, .string ⟨#[45]⟩] (w.alloc (.cells #[.bool false, .string ⟨#[]⟩] 162)) fun e w' => e = .returned (.tuple #[.string t, .bool true]) ∧ w' = (w.alloc (.cells #[.bool false, .string ⟨#[]⟩] 162)) := hcut _
  go_enter Tryz.func152, Tryz.ntmps152
  go_wp2_with fail
  refine hcut'.mono ?_
  rintro e w9 ⟨rfl, rfl⟩
  clear hcut'
  go_wp2_with fail
  obtain ⟨X1, X2, E0⟩ := boxes2 w #[.bool false, .string ⟨#[]⟩] #[.bool true, .string t] 162
  generalize ((w.alloc (.cells #[.bool false, .string ⟨#[]⟩] 162)).alloc (.cells #[.bool true, .string t] 162)) = W0 at *
  have a0 := X1.c0
  have a1 := X1.c1
  have f0 := X1.f 0
  have f1 := X1.f 1
  have b0 := X2.c0
  have b1 := X2.c1
  have HX := Lib.hid X1
  have HE := Lib.hid E0
  clear X1 X2 E0
  go_region_held3 (fun w' => w'.cell? ⟨w.heap.size + 1, 0, none⟩ = some (.bool true) ∧ w'.cell? ⟨w.heap.size + 1, 1, none⟩ = some (.string t)) (((try dsimp only); (repeat' apply And.intro) <;> (first | assumption | ((go_keep); done) | (rw [World.cell?_setCell_other _ _ _ _ (by simp), World.cell?_setCell_other _ _ _ _ (by simp)]; assumption))))
    (first
      | (go_at_call 113; (with_reducible refine (hval _).mono ?_); rintro e w' ⟨rfl, rfl⟩))
  all_goals
    clear a0 a1 f0 f1 b0 b1
    go_wp2_with fail
    refine bodyPost_ret (v := .tuple #[.agg #[.bool true, .string t], .bool true]) ?_ rfl ⟨rfl, ?_⟩
    · obtain ⟨d0, d1⟩ := set2 HX.out (.bool true) (.string t)
      simp [results, Tryz.f152, go_sem, d0, d1]
    · exact (ext_set2 (b := w.heap.size) HE.out (Nat.le_refl _) _ _).dr
set_option maxHeartbeats 2000000 in
set_option maxRecDepth 100000 in
theorem iread_mz (s t : ByteArray) (x : Bool) (w : World) (hcut : ∀ w, Calls Tryz.prog 186 #[.string s, .string ⟨#[45]⟩] w fun e w' => e = .returned (.tuple #[.string t, .bool true]) ∧ w' = w)
    (hval : ∀ w, Calls Tryz.prog 113 #[.string t] w fun e w' => e = .returned (.bool true) ∧ w = w') (hq : (t.toList == [48]) = true) :
    Calls Tryz.prog 152 #[.string s] w fun e w' => e = .returned (.tuple #[.agg #[.bool true, .string t], .bool false]) ∧ Ext w w' := by
  have hcut' : Calls Tryz.prog 186 #[.string s, .string ⟨#[45]⟩] (w.alloc (.cells #[.bool false, .string ⟨#[]⟩] 162)) fun e w' => e = .returned (.tuple #[.string t, .bool true]) ∧ w' = (w.alloc (.cells #[.bool false, .string ⟨#[]⟩] 162)) := hcut _
  go_enter Tryz.func152, Tryz.ntmps152
  go_wp2_with fail
  refine hcut'.mono ?_
  rintro e w9 ⟨rfl, rfl⟩
  clear hcut'
  go_wp2_with fail
  obtain ⟨X1, X2, E0⟩ := boxes2 w #[.bool false, .string ⟨#[]⟩] #[.bool true, .string t] 162
  generalize ((w.alloc (.cells #[.bool false, .string ⟨#[]⟩] 162)).alloc (.cells #[.bool true, .string t] 162)) = W0 at *
  have a0 := X1.c0
  have a1 := X1.c1
  have f0 := X1.f 0
  have f1 := X1.f 1
  have b0 := X2.c0
  have b1 := X2.c1
  have HX := Lib.hid X1
  have HE := Lib.hid E0
  clear X1 X2 E0
  go_region_held3 (fun w' => w'.cell? ⟨w.heap.size + 1, 0, none⟩ = some (.bool true) ∧ w'.cell? ⟨w.heap.size + 1, 1, none⟩ = some (.string t)) (((try dsimp only); (repeat' apply And.intro) <;> (first | assumption | ((go_keep); done) | (rw [World.cell?_setCell_other _ _ _ _ (by simp), World.cell?_setCell_other _ _ _ _ (by simp)]; assumption))))
    (first
      | (go_at_call 113; (with_reducible refine (hval _).mono ?_); rintro e w' ⟨rfl, rfl⟩))
  all_goals
    clear a0 a1 f0 f1 b0 b1
    go_wp2_with fail
    refine bodyPost_ret (v := .tuple #[.agg #[.bool true, .string t], .bool false]) ?_ rfl ⟨rfl, ?_⟩
    · obtain ⟨d0, d1⟩ := set2 HX.out (.bool true) (.string t)
      simp [results, Tryz.f152, go_sem, d0, d1]
    · exact (ext_set2 (b := w.heap.size) HE.out (Nat.le_refl _) _ _).dr
end Go.Proofs.YtadimepmoljnpaaGreatDoor.GB

namespace Go.Proofs.YtadimepmoljnpaaGreatDoor.GB
set_option linter.unusedVariables false
set_option linter.unusedSimpArgs false
open Go.RowKit Go.Shelf
attribute [local go_sem ↓] Go.wp_at_zero Go.wp_at_succ

/-- Is it an integer's text? -/
def intB (l : List UInt8) : Bool := canB (Lib.trimPrefix l [45]) && !(Lib.hasPrefix l [45] && (Lib.trimPrefix l [45] == [48]))
theorem intB_iff (l : List UInt8) : intB l = true ↔ ∃ z, l = Lib.itoa z := by
  rw [int_valid]
  unfold intB
  rw [Bool.and_eq_true, canB_iff]
  cases Lib.hasPrefix l [45] <;> simp
theorem trim_len (l : List UInt8) : (Lib.trimPrefix l [45]).length ≤ l.length := by
  rcases prefix_cases l with ⟨t, rfl, h3, h4⟩ | ⟨h3, h4⟩
  · rw [h4]; simp
  · rw [h4]; exact Nat.le_refl _
theorem iread_any (s : ByteArray) (w : World) (hs : s.size ≤ 1099511627776) :
    Calls Tryz.prog 152 #[.string s] w fun e w' => e = .returned (.tuple #[.agg #[.bool (Lib.hasPrefix s.data.toList [45]), .string ⟨(Lib.trimPrefix s.data.toList [45]).toArray⟩], .bool (intB s.data.toList)]) ∧ Ext w w' := by
  have hcut := fun w => Tryz.strings_CutPrefix s ⟨#[45]⟩ w
  have e45 : (⟨#[45]⟩ : ByteArray).data.toList = [45] := rfl
  rw [e45] at hcut
  have hl := trim_len s.data.toList
  rw [bytes_len] at hl
  have hval := fun w => valid_any ⟨(Lib.trimPrefix s.data.toList [45]).toArray⟩ w (by rw [size_mk]; omega)
  have et : (⟨(Lib.trimPrefix s.data.toList [45]).toArray⟩ : ByteArray).data.toList = Lib.trimPrefix s.data.toList [45] := rfl
  have e48 : ((⟨(Lib.trimPrefix s.data.toList [45]).toArray⟩ : ByteArray).toList == [48]) = (Lib.trimPrefix s.data.toList [45] == [48]) := by rw [ByteArray.toList_eq]
  rw [et] at hval
  unfold intB
  generalize canB (Lib.trimPrefix s.data.toList [45]) = c at hval ⊢
  generalize hx : Lib.hasPrefix s.data.toList [45] = x at hcut ⊢
  generalize hq : (Lib.trimPrefix s.data.toList [45] == [48]) = q at e48 ⊢
  cases c
  · exact iread_no s _ x w hcut hval
  · cases x
    · exact iread_pos s _ false w hcut hval
    · cases q
      · exact iread_neg s _ true w hcut hval e48
      · exact iread_mz s _ true w hcut hval e48
theorem iread_z (z : Int) (w : World) (hz : Fit z.natAbs) : Calls Tryz.prog 152 #[itx z] w fun e w' => e = .returned (.tuple #[IV z, .bool true]) ∧ Ext w w' := by
  have hl : (Lib.itoa z).length ≤ 1099511627776 := by
    have h2 := hz.dec0
    rcases (by omega : z < 0 ∨ 0 ≤ z) with h3 | h3
    · rw [itoa_of_neg h3, List.length_cons]; omega
    · rw [itoa_of_nonneg h3]; omega
  refine (iread_any ⟨(Lib.itoa z).toArray⟩ w (by rw [size_mk]; exact hl)).mono ?_
  rintro e w' ⟨rfl, hE⟩
  have et : (⟨(Lib.itoa z).toArray⟩ : ByteArray).data.toList = Lib.itoa z := rfl
  rw [et, (intB_iff _).2 ⟨z, rfl⟩, (itoa_prefix z).1, (itoa_prefix z).2]
  exact ⟨rfl, hE⟩

set_option maxHeartbeats 2000000 in
set_option maxRecDepth 100000 in
theorem iValid_any (s : ByteArray) (w : World) (hs : s.size ≤ 1099511627776) :
    Calls Tryz.prog 112 #[.string s] w fun e w' => e = .returned (.bool (intB s.data.toList)) ∧ Ext w w' := by
  have h := iread_any s w hs
  generalize (Lib.trimPrefix s.data.toList [45]).toArray = tp at h
  generalize (Lib.hasPrefix s.data.toList [45]) = x at h
  generalize intB s.data.toList = r at h ⊢
  go_enter Tryz.func112, Tryz.ntmps112
  go_wp2_with fail
  refine h.mono ?_
  rintro e w1 ⟨rfl, hE⟩
  go_wp2_with fail
  go_ret
  exact ⟨rfl, hE.al _⟩

set_option maxHeartbeats 2000000 in
set_option maxRecDepth 100000 in
theorem iboth_z (a b : Int) (w : World) (ha : Fit a.natAbs) (hb : Fit b.natAbs) :
    Calls Tryz.prog 118 #[itx a, itx b] w fun e w' => e = .returned (.tuple #[IV a, IV b, .int .i64 0]) ∧ Ext w w' := by
  obtain ⟨X1, X2, E0⟩ := boxes2 w #[.bool false, .string ⟨#[]⟩] #[.bool false, .string ⟨#[]⟩] 162
  go_enter Tryz.func118, Tryz.ntmps118
  go_wp2_with fail
  generalize ((w.alloc (.cells #[.bool false, .string ⟨#[]⟩] 162)).alloc (.cells #[.bool false, .string ⟨#[]⟩] 162)) = W0 at *
  refine (iread_z a _ ha).mono ?_
  rintro e w1 ⟨rfl, hE1⟩
  go_wp2_with fail
  have Y3 := Bx.new w1 #[.bool (decide (a < 0)), dtx a.natAbs] 162
  refine (iread_z b _ hb).mono ?_
  rintro e w2 ⟨rfl, hE2⟩
  have hg1 := (X1.ext hE1).lt
  have hg2 := (X2.ext hE1).lt
  have hg3 := (Y3.ext hE2).lt
  have Z1 := (((X1.ext hE1).al (.cells #[.bool (decide (a < 0)), dtx a.natAbs] 162)).ext hE2).al (.cells #[.bool (decide (b < 0)), dtx b.natAbs] 162)
  have Z2 := (((X2.ext hE1).al (.cells #[.bool (decide (a < 0)), dtx a.natAbs] 162)).ext hE2).al (.cells #[.bool (decide (b < 0)), dtx b.natAbs] 162)
  have Z3 := (Y3.ext hE2).al (.cells #[.bool (decide (b < 0)), dtx b.natAbs] 162)
  have Z4 := Bx.new w2 #[.bool (decide (b < 0)), dtx b.natAbs] 162
  have E4 := ((E0.tr hE1).al (.cells #[.bool (decide (a < 0)), dtx a.natAbs] 162)).tr hE2 |>.al (.cells #[.bool (decide (b < 0)), dtx b.natAbs] 162)
  clear X1 X2 E0 hE1 hE2 Y3
  go_wp2_with fail
  generalize w2.alloc (.cells #[.bool (decide (b < 0)), dtx b.natAbs] 162) = W9 at *
  generalize w1.heap.size = g1 at *
  generalize w2.heap.size = g2 at *
  generalize hs0 : w.heap.size = s0 at *
  have n1 : s0 ≠ g1 := by omega
  have n2 : s0 ≠ g2 := by omega
  have n3 : s0 + 1 ≠ g1 := by omega
  have n4 : s0 + 1 ≠ g2 := by omega
  have n5 := n1.symm
  have n6 := n2.symm
  have n7 := n3.symm
  have n8 := n4.symm
  have a0 := Z3.c0
  have a1 := Z3.c1
  have b0 := Z4.c0
  have b1 := Z4.c1
  have r0 := Z1.c0
  have r1 := Z1.c1
  have r2 := Z2.c0
  have r3 := Z2.c1
  have f0 := Z1.f 0
  have f1 := Z1.f 1
  have f2 := Z2.f 0
  have f3 := Z2.f 1
  have HZ1 := Lib.hid Z1
  have HZ2 := Lib.hid Z2
  have HE := Lib.hid E4
  clear Z1 Z2 Z3 Z4 E4 hg1 hg2 hg3
  clear ha hb
  go_region_with (fail)
  all_goals
    go_wp2_with fail
    obtain ⟨d0, d1⟩ := set2 HZ1.out (.bool (decide (a < 0))) (dtx a.natAbs)
    have HZ3 := (HZ2.out.set (p := ⟨s0, 0, none⟩) (by simp) (.bool (decide (a < 0)))).set (p := ⟨s0, 1, none⟩) (by simp) (dtx a.natAbs)
    obtain ⟨d2, d3⟩ := set2 HZ3 (.bool (decide (b < 0))) (dtx b.natAbs)
    have d4 : ((((W9.setCell ⟨s0, 0, none⟩ (.bool (decide (a < 0)))).setCell ⟨s0, 1, none⟩ (dtx a.natAbs)).setCell ⟨s0 + 1, 0, none⟩ (.bool (decide (b < 0)))).setCell ⟨s0 + 1, 1, none⟩ (dtx b.natAbs)).cell? ⟨s0, 0, none⟩ = some (.bool (decide (a < 0))) := by
      rw [World.cell?_setCell_other _ _ _ _ (by simp), World.cell?_setCell_other _ _ _ _ (by simp)]; exact d0
    have d5 : ((((W9.setCell ⟨s0, 0, none⟩ (.bool (decide (a < 0)))).setCell ⟨s0, 1, none⟩ (dtx a.natAbs)).setCell ⟨s0 + 1, 0, none⟩ (.bool (decide (b < 0)))).setCell ⟨s0 + 1, 1, none⟩ (dtx b.natAbs)).cell? ⟨s0, 1, none⟩ = some (dtx a.natAbs) := by
      rw [World.cell?_setCell_other _ _ _ _ (by simp), World.cell?_setCell_other _ _ _ _ (by simp)]; exact d1
    have E9 : Ext w ((((W9.setCell ⟨s0, 0, none⟩ (.bool (decide (a < 0)))).setCell ⟨s0, 1, none⟩ (dtx a.natAbs)).setCell ⟨s0 + 1, 0, none⟩ (.bool (decide (b < 0)))).setCell ⟨s0 + 1, 1, none⟩ (dtx b.natAbs)) :=
      ext_set2 (b := s0 + 1) (ext_set2 (b := s0) HE.out (by omega) _ _) (by omega) _ _
    refine bodyPost_ret (v := .tuple #[IV a, IV b, .int .i64 0]) ?_ rfl ⟨rfl, E9.dr⟩
    simp [results, Tryz.f118, go_sem, d2, d3, d4, d5]
end Go.Proofs.YtadimepmoljnpaaGreatDoor.GB

namespace Go.Proofs.YtadimepmoljnpaaGreatDoor.GB
set_option linter.unusedVariables false
set_option linter.unusedSimpArgs false
open Go.RowKit Go.Shelf
attribute [local go_sem ↓] Go.wp_at_zero Go.wp_at_succ

/-- The call hands back the text of an integer, and no error. -/
def RetI (w : World) (r : Int) (e : Ending) (w' : World) : Prop := e = .returned (.tuple #[itx r, .int .i64 0]) ∧ Ext w w'

set_option maxHeartbeats 2000000 in
set_option maxRecDepth 100000 in
theorem Mul_z (a b : Int) (w : World) (hW : Wd w) (ha : Fit a.natAbs) (hb : Fit b.natAbs) (hr : Fit (a.natAbs * b.natAbs)) :
    Calls Tryz.prog 76 #[itx a, itx b] w (RetI w (a * b)) := by
  go_enter Tryz.func76, Tryz.ntmps76
  go_wp2_with fail
  refine (iboth_z a b _ ha hb).mono ?_
  rintro e w1 ⟨rfl, E1⟩
  have hW1 := hW.ext E1
  go_wp2_with fail
  obtain ⟨X1, X2, E2⟩ := boxes2 w1 #[.bool (decide (a < 0)), dtx a.natAbs] #[.bool (decide (b < 0)), dtx b.natAbs] 162
  have E3 := E1.tr E2
  refine (times_i a b _ (hW.ext E3) ha hb hr).mono ?_
  rintro e w2 ⟨rfl, hE2⟩
  have E4 := E3.tr hE2
  go_wp2_with fail
  refine (itext_any (a * b) _ (by rw [Int.natAbs_mul]; exact hr)).mono ?_
  rintro e w3 ⟨rfl, hE3⟩
  go_wp2_with fail
  go_ret2
  exact ⟨rfl, E4.tr hE3⟩
set_option maxHeartbeats 2000000 in
set_option maxRecDepth 100000 in
theorem Add_z (a b : Int) (w : World) (hW : Wd w) (ha : Fit a.natAbs) (hb : Fit b.natAbs) (hr : Fit (a.natAbs + b.natAbs)) :
    Calls Tryz.prog 220 #[itx a, itx b] w (RetI w (a + b)) := by
  go_enter Tryz.func220, Tryz.ntmps220
  go_wp2_with fail
  refine (iboth_z a b _ ha hb).mono ?_
  rintro e w1 ⟨rfl, E1⟩
  have hW1 := hW.ext E1
  go_wp2_with fail
  obtain ⟨X1, X2, E2⟩ := boxes2 w1 #[.bool (decide (a < 0)), dtx a.natAbs] #[.bool (decide (b < 0)), dtx b.natAbs] 162
  have E3 := E1.tr E2
  refine (plus_i a b _ (hW.ext E3) ha hb hr).mono ?_
  rintro e w2 ⟨rfl, hE2⟩
  have E4 := E3.tr hE2
  go_wp2_with fail
  refine (itext_any (a + b) _ (hr.le (Int.natAbs_add_le a b))).mono ?_
  rintro e w3 ⟨rfl, hE3⟩
  go_wp2_with fail
  go_ret2
  exact ⟨rfl, E4.tr hE3⟩
end Go.Proofs.YtadimepmoljnpaaGreatDoor.GB

namespace Go.Proofs.YtadimepmoljnpaaGreatDoor.GB
set_option linter.unusedVariables false
set_option linter.unusedSimpArgs false
open Go.RowKit Go.Shelf
attribute [local go_sem ↓] Go.wp_at_zero Go.wp_at_succ

theorem Ext.cellH {w w' : World} (hE : Ext w w') {p : Addr} {v : Value} (h : w.cell? p = some v) : w'.cell? p = some v := hE.cell h
set_option maxHeartbeats 2000000 in
set_option maxRecDepth 100000 in
theorem Compare_z (a b : Int) (w : World) (hW : Wd w) (ha : Fit a.natAbs) (hb : Fit b.natAbs) (hr : Fit (a.natAbs + b.natAbs)) :
    Calls Tryz.prog 77 #[itx a, itx b] w fun e w' => e = .returned (.tuple #[.int .i64 (sgnZ (a + -b)), .int .i64 0]) ∧ Ext w w' := by
  have hb2 : Fit (-b).natAbs := by rw [Int.natAbs_neg]; exact hb
  have hr2 : Fit (a.natAbs + (-b).natAbs) := by rw [Int.natAbs_neg]; exact hr
  go_enter Tryz.func77, Tryz.ntmps77
  go_wp2_with fail
  refine (iboth_z a b _ ha hb).mono ?_
  rintro e w1 ⟨rfl, E1⟩
  go_wp2_with fail
  obtain ⟨X1, X2, E2⟩ := boxes2 w1 #[.bool (decide (a < 0)), dtx a.natAbs] #[.bool (decide (b < 0)), dtx b.natAbs] 162
  have E3 := Lib.hid (E1.tr E2)
  generalize ((w1.alloc (.cells #[.bool (decide (a < 0)), dtx a.natAbs] 162)).alloc (.cells #[.bool (decide (b < 0)), dtx b.natAbs] 162)) = W0 at *
  generalize w1.heap.size = g at *
  have a0 := X1.c0
  have a1 := X1.c1
  have b0 := X2.c0
  have b1 := X2.c1
  clear X1 X2 E1 E2
  have hW0 : Hid (Wd W0) := hW.ext E3.out
  go_region_held3 (fun w' => w'.cell? ⟨g, 0, none⟩ = some (.bool (decide (a < 0))) ∧ w'.cell? ⟨g, 1, none⟩ = some (dtx a.natAbs) ∧ w'.cell? ⟨g + 1, 0, none⟩ = some (.bool (decide (b < 0))) ∧ w'.cell? ⟨g + 1, 1, none⟩ = some (dtx b.natAbs)) (((try dsimp only); (repeat' apply And.intro) <;> assumption))
    (first
      | (go_at_call 122; (with_reducible refine (opposite_any b _).mono ?_); rintro e w2 ⟨rfl, hE2⟩; have q0 := Ext.cellD hE2 a0; have q1 := Ext.cellD hE2 a1; have q2 := Ext.cellD hE2 b0; have q3 := Ext.cellD hE2 b1)
      | (go_at_call 121; (with_reducible refine (plus_i a (-b) _ (Wd.ext (Wd.ext hW0.out (Ext.rfl' _).dr) hE2) ha hb2 hr2).mono ?_); rintro e w3 ⟨rfl, hE3⟩; have t0 := Ext.cellH hE3 q0; have t1 := Ext.cellH hE3 q1; have t2 := Ext.cellH hE3 q2; have t3 := Ext.cellH hE3 q3)
      | (go_at_call 123; (with_reducible refine (sign_i (a + -b) _).mono ?_); rintro e w4 ⟨rfl, hE4⟩; have u0 := Ext.cellH hE4 t0; have u1 := Ext.cellH hE4 t1; have u2 := Ext.cellH hE4 t2; have u3 := Ext.cellH hE4 t3))
  go_wp2_with fail
  go_ret2
  exact ⟨rfl, ((Ext.tr E3.out (Ext.rfl' _).dr).tr hE2).tr hE3 |>.tr hE4⟩
end Go.Proofs.YtadimepmoljnpaaGreatDoor.GB

namespace Go.Proofs.YtadimepmoljnpaaGreatDoor.GB
set_option linter.unusedVariables false
set_option linter.unusedSimpArgs false
open Go.RowKit Go.Shelf
attribute [local go_sem ↓] Go.wp_at_zero Go.wp_at_succ

theorem itx0 : itx 0 = .string ⟨#[48]⟩ := by
  have : Lib.itoa 0 = [48] := by
    have h := itoa_nat 0
    rw [Lib.decDigits] at h
    exact h
  show Value.string _ = _
  rw [this]
theorem fit0 : Fit (Int.natAbs 0) := ⟨1, by omega, by decide⟩
theorem iboth_0 (a : Int) (w : World) (ha : Fit a.natAbs) :
    Calls Tryz.prog 118 #[itx a, .string ⟨#[48]⟩] w fun e w' => e = .returned (.tuple #[IV a, IV 0, .int .i64 0]) ∧ Ext w w' := by
  have h := iboth_z a 0 w ha fit0
  rwa [itx0] at h
set_option maxHeartbeats 2000000 in
set_option maxRecDepth 100000 in
theorem one_z (a : Int) (w : World) (ha : Fit a.natAbs) :
    Calls Tryz.prog 156 #[itx a] w fun e w' => e = .returned (.tuple #[IV a, .int .i64 0]) ∧ Ext w w' := by
  have X0 := Bx.new w #[.bool false, .string ⟨#[]⟩] 162
  have E0 := (Ext.rfl' w).al (.cells #[.bool false, .string ⟨#[]⟩] 162)
  go_enter Tryz.func156, Tryz.ntmps156
  go_wp2_with fail
  generalize w.alloc (.cells #[.bool false, .string ⟨#[]⟩] 162) = W0 at *
  refine (iboth_0 a _ ha).mono ?_
  rintro e w1 ⟨rfl, hE1⟩
  have X1 := X0.ext hE1
  have E1 := E0.tr hE1
  have hlt := X1.lt
  have X2 := (X1.al (.cells #[.bool (decide (a < 0)), dtx a.natAbs] 162)).al (.cells #[.bool (decide ((0:Int) < 0)), dtx (Int.natAbs 0)] 162)
  have c0 := X1.c0
  have c1 := X1.c1
  have f0 := X1.f 0
  have f1 := X1.f 1
  clear X0 E0 hE1
  go_wp2_with fail
  obtain ⟨d0, d1⟩ := set2 X1 (.bool (decide (a < 0))) (dtx a.natAbs)
  have E2 := ((ext_set2 (b := w.heap.size) E1 (Nat.le_refl _) (.bool (decide (a < 0))) (dtx a.natAbs)).al (.cells #[.bool (decide (a < 0)), dtx a.natAbs] 162)).al (.cells #[.bool false, .string ⟨(Lib.decDigits 0).toArray⟩] 162)
  have d2 := ((Ext.rfl' ((w1.setCell ⟨w.heap.size, 0, none⟩ (.bool (decide (a < 0)))).setCell ⟨w.heap.size, 1, none⟩ (dtx a.natAbs))).al (.cells #[.bool (decide (a < 0)), dtx a.natAbs] 162)).al (.cells #[.bool false, .string ⟨(Lib.decDigits 0).toArray⟩] 162)
  have d3 := d2.cell d0
  have d4 := d2.cell d1
  refine bodyPost_ret (v := .tuple #[IV a, .int .i64 0]) ?_ rfl ⟨rfl, E2⟩
  simp [results, Tryz.f156, go_sem, d3, d4]
set_option maxHeartbeats 2000000 in
set_option maxRecDepth 100000 in
theorem Sign_z (a : Int) (w : World) (ha : Fit a.natAbs) :
    Calls Tryz.prog 117 #[itx a] w fun e w' => e = .returned (.tuple #[.int .i64 (sgnZ a), .int .i64 0]) ∧ Ext w w' := by
  go_enter Tryz.func117, Tryz.ntmps117
  go_wp2_with fail
  refine (one_z a _ ha).mono ?_
  rintro e w1 ⟨rfl, E1⟩
  go_wp2_with fail
  refine (sign_i a _).mono ?_
  rintro e w2 ⟨rfl, E2⟩
  go_wp2_with fail
  go_ret2
  exact ⟨rfl, (E1.al _).tr E2⟩
set_option maxHeartbeats 2000000 in
set_option maxRecDepth 100000 in
theorem Abs_z (a : Int) (w : World) (ha : Fit a.natAbs) :
    Calls Tryz.prog 153 #[itx a] w fun e w' => e = .returned (.tuple #[dtx a.natAbs, .int .i64 0]) ∧ Ext w w' := by
  go_enter Tryz.func153, Tryz.ntmps153
  go_wp2_with fail
  refine (one_z a _ ha).mono ?_
  rintro e w1 ⟨rfl, E1⟩
  go_wp2_with fail
  go_ret2
  exact ⟨rfl, E1.al _⟩
set_option maxHeartbeats 2000000 in
set_option maxRecDepth 100000 in
theorem Neg_z (a : Int) (w : World) (ha : Fit a.natAbs) :
    Calls Tryz.prog 222 #[itx a] w (RetI w (-a)) := by
  go_enter Tryz.func222, Tryz.ntmps222
  go_wp2_with fail
  refine (one_z a _ ha).mono ?_
  rintro e w1 ⟨rfl, E1⟩
  go_wp2_with fail
  refine (opposite_any a _).mono ?_
  rintro e w2 ⟨rfl, E2⟩
  go_wp2_with fail
  refine (itext_any (-a) _ (by rw [Int.natAbs_neg]; exact ha)).mono ?_
  rintro e w3 ⟨rfl, E3⟩
  go_wp2_with fail
  go_ret2
  exact ⟨rfl, ((E1.al _).tr E2).tr E3⟩
end Go.Proofs.YtadimepmoljnpaaGreatDoor.GB

namespace Go.Proofs.YtadimepmoljnpaaGreatDoor.GB
set_option linter.unusedVariables false
set_option linter.unusedSimpArgs false
open Go.RowKit Go.Shelf
attribute [local go_sem ↓] Go.wp_at_zero Go.wp_at_succ

set_option maxHeartbeats 2000000 in
set_option maxRecDepth 100000 in
theorem index47 (s : ByteArray) (w : World) : Calls Tryz.prog 185 #[.string s, .string ⟨#[47]⟩] w fun e w' => e = .returned (.int .i64 (Lib.indexByte s.data.toList 47)) ∧ w' = w := by
  have hi := fun w => Tryz.stringslite_IndexByte s 47 w
  have e47 : (47 : Int).toNat.toUInt8 = (47 : UInt8) := rfl
  rw [e47] at hi
  generalize hq : (s.toList == [47]) = q
  have hq2 : ([47] == s.toList) = q := by rw [← hq]; exact BEq.comm
  cases q
  · go_enter Tryz.func185, Tryz.ntmps185
    go_wp2_with fail
    have e0 : (((⟨#[47]⟩ : ByteArray)[0]'(by decide)).toNat : Int) = 47 := rfl
    rw [e0]
    refine (hi _).mono ?_
    rintro e w' ⟨rfl, rfl⟩
    go_wp2_with fail
    go_ret
    exact ⟨rfl, rfl⟩
  · have hl : s.data.toList = [47] := by
      rw [← ByteArray.toList_eq]; exact eq_of_beq hq
    have e1 : Lib.indexByte s.data.toList 47 = 0 := by rw [hl]; rfl
    rw [e1]
    go_enter Tryz.func185, Tryz.ntmps185
    go_wp2_with fail
    go_ret
    exact ⟨rfl, rfl⟩
theorem ib_miss (l : List UInt8) (h : 47 ∉ l) : Lib.indexByte l 47 = -1 := by
  induction l with
  | nil => rfl
  | cons b l ih =>
    have hb : (b == 47) = false := by rw [beq_eq_false_iff_ne]; intro e; exact h (by simp [e])
    have := ih (fun k => h (by simp [k]))
    simp [Lib.indexByte, hb, this]
theorem ib_hit (p d : List UInt8) (h : 47 ∉ p) : Lib.indexByte (p ++ 47 :: d) 47 = p.length := by
  induction p with
  | nil => rfl
  | cons b p ih =>
    have hb : (b == 47) = false := by rw [beq_eq_false_iff_ne]; intro e; exact h (by simp [e])
    have h2 := ih (fun k => h (by simp [k]))
    have h3 : ((p.length : Int) == -1) = false := by rw [beq_eq_false_iff_ne]; omega
    rw [List.cons_append, Lib.indexByte, hb, h2, h3]
    simp
set_option maxHeartbeats 2000000 in
set_option maxRecDepth 100000 in
theorem scut_miss (s : ByteArray) (w : World) (h : 47 ∉ s.data.toList) : Calls Tryz.prog 151 #[.string s, .string ⟨#[47]⟩] w fun e w' => e = .returned (.tuple #[.string s, .string ⟨#[]⟩, .bool false]) ∧ w' = w := by
  have hi := index47 s w
  rw [ib_miss _ h] at hi
  go_enter Tryz.func151, Tryz.ntmps151
  go_wp2_with fail
  refine hi.mono ?_
  rintro e w' ⟨rfl, rfl⟩
  clear hi
  go_wp2_with fail
  go_ret3
  exact ⟨rfl, rfl⟩
set_option maxHeartbeats 2000000 in
set_option maxRecDepth 100000 in
theorem scut_hit (s : ByteArray) (p d : List UInt8) (w : World) (hs : s.data.toList = p ++ 47 :: d) (h : 47 ∉ p) (hl : s.size ≤ 1099511627776) : Calls Tryz.prog 151 #[.string s, .string ⟨#[47]⟩] w fun e w' => e = .returned (.tuple #[.string ⟨p.toArray⟩, .string ⟨d.toArray⟩, .bool true]) ∧ Ext w w' := by
  have hi := index47 s w
  rw [hs, ib_hit _ _ h] at hi
  have hlen : s.size = p.length + 1 + d.length := by rw [← bytes_len, hs]; simp; omega
  have x1 : s.extract 0 p.length = ⟨p.toArray⟩ := by
    apply ByteArray.ext; apply Array.toList_inj.1; rw [extract_list, hs]; simp
  have x2 : s.extract (p.length + 1) s.size = ⟨d.toArray⟩ := by
    apply ByteArray.ext; apply Array.toList_inj.1
    rw [extract_list, List.take_of_length_le (by rw [bytes_len]; exact Nat.le_refl _), hs]
    rw [List.drop_append]; simp
  obtain ⟨k, hk⟩ : ∃ k, k = p.length := ⟨_, rfl⟩
  rw [← hk] at hi x1 x2
  have hk2 : k + 1 ≤ s.size := by omega
  have hz : ((k : Int) + 1).toNat = k + 1 := by omega
  clear hlen hs hk h
  go_enter Tryz.func151, Tryz.ntmps151
  go_wp2_with fail
  refine hi.mono ?_
  rintro e w' ⟨rfl, rfl⟩
  clear hi
  go_wp2_with fail
  go_quiet (fail)
  go_wp2_with fail
  go_ret3
  exact ⟨rfl, (Ext.rfl' _).drN _⟩
set_option maxHeartbeats 2000000 in
set_option maxRecDepth 100000 in
theorem cut_miss47 (s : ByteArray) (w : World) (h : 47 ∉ s.data.toList) : Calls Tryz.prog 111 #[.string s, .string ⟨#[47]⟩] w fun e w' => e = .returned (.tuple #[.string s, .string ⟨#[]⟩, .bool false]) ∧ Ext w w' := by
  have hi := scut_miss s w h
  clear h
  go_enter Tryz.func111, Tryz.ntmps111
  go_wp2_with fail
  refine hi.mono ?_
  rintro e w' ⟨rfl, rfl⟩
  clear hi
  go_wp2_with fail
  go_ret3
  exact ⟨rfl, Ext.rfl' _⟩
set_option maxHeartbeats 2000000 in
set_option maxRecDepth 100000 in
theorem cut_hit47 (s : ByteArray) (p d : List UInt8) (w : World) (hs : s.data.toList = p ++ 47 :: d) (h : 47 ∉ p) (hl : s.size ≤ 1099511627776) : Calls Tryz.prog 111 #[.string s, .string ⟨#[47]⟩] w fun e w' => e = .returned (.tuple #[.string ⟨p.toArray⟩, .string ⟨d.toArray⟩, .bool true]) ∧ Ext w w' := by
  have hi := scut_hit s p d w hs h hl
  clear h hs
  go_enter Tryz.func111, Tryz.ntmps111
  go_wp2_with fail
  refine hi.mono ?_
  rintro e w' ⟨rfl, hE⟩
  clear hi
  go_wp2_with fail
  go_ret3
  exact ⟨rfl, hE⟩
end Go.Proofs.YtadimepmoljnpaaGreatDoor.GB

namespace Go.Proofs.YtadimepmoljnpaaGreatDoor.GB
set_option linter.unusedVariables false
set_option linter.unusedSimpArgs false
open Go.RowKit Go.Shelf
attribute [local go_sem ↓] Go.wp_at_zero Go.wp_at_succ

theorem Fit.gcd {a b : Nat} (ha : Fit a) (hb : Fit b) : Fit (Nat.gcd a b) := by
  rcases Nat.eq_zero_or_pos a with h | h
  · subst h; rw [Nat.gcd_zero_left]; exact hb
  · exact ha.le (Nat.gcd_le_left b h)
set_option maxHeartbeats 2000000 in
set_option maxRecDepth 100000 in
theorem divisor_z (a : Int) (n : Nat) (w : World) (hW : Wd w) (ha : Fit a.natAbs) (hn : Fit n) :
    Calls Tryz.prog 114 #[itx a, dtx n] w fun e w' => e = .returned (dtx (Nat.gcd a.natAbs n)) ∧ Ext w w' := by
  go_enter Tryz.func114, Tryz.ntmps114
  go_wp2_with fail
  refine (Abs_z a _ ha).mono ?_
  rintro e w1 ⟨rfl, E1⟩
  go_wp2_with fail
  refine (GCD_n _ _ _ (hW.ext E1) ha hn (ha.gcd hn)).mono ?_
  rintro e w2 ⟨rfl, E2⟩
  go_wp2_with fail
  go_ret
  exact ⟨rfl, E1.tr E2⟩
theorem dtx_one (n : Nat) : ((⟨(Lib.decDigits n).toArray⟩ : ByteArray).toList == [49]) = decide (n = 1) := by
  rw [ByteArray.toList_eq]
  show (Lib.decDigits n == [49]) = _
  have h0 : Lib.decDigits 1 = [49] := by rw [Lib.decDigits]; rfl
  by_cases h : n = 1
  · subst h; rw [h0]; rfl
  · rw [decide_eq_false h, beq_eq_false_iff_ne]
    intro e; rw [← h0] at e; exact h (dec_inj e)
/-- A fraction, as the package keeps it. -/
abbrev FV (q : Rat) : Value := .agg #[itx q.num, dtx q.den]
abbrev rtx (q : Rat) : Value := .string ⟨(rtext q).toArray⟩
set_option maxHeartbeats 2000000 in
set_option maxRecDepth 100000 in
theorem ftext_one (s : ByteArray) (w : World) : Calls Tryz.prog 116 #[.agg #[.string s, .string ⟨#[49]⟩]] w fun e w' => e = .returned (.string s) ∧ Ext w w' := by
  go_enter Tryz.func116, Tryz.ntmps116
  go_wp2_with fail
  go_ret
  exact ⟨rfl, (Ext.rfl' _).al _⟩
set_option maxHeartbeats 2000000 in
set_option maxRecDepth 100000 in
theorem ftext_other (s t : ByteArray) (w : World) (ht : (t.toList == [49]) = false) (h1 : ¬ 9223372036854775807 < s.size + 1) (h2 : ¬ 9223372036854775807 < s.size + 1 + t.size) (h3 : ¬ 9223372036854775807 < (s ++ ⟨#[47]⟩).size + t.size) : Calls Tryz.prog 116 #[.agg #[.string s, .string t]] w fun e w' => e = .returned (.string (s ++ ⟨#[47]⟩ ++ t)) ∧ Ext w w' := by
  go_enter Tryz.func116, Tryz.ntmps116
  go_wp2_with fail
  go_ret
  exact ⟨rfl, (Ext.rfl' _).al _⟩
theorem itoa_len {z : Int} (hz : Fit z.natAbs) : (Lib.itoa z).length ≤ 1099511627776 := by
  have h2 := hz.dec0
  rcases (by omega : z < 0 ∨ 0 ≤ z) with h3 | h3
  · rw [itoa_of_neg h3, List.length_cons]; omega
  · rw [itoa_of_nonneg h3]; omega
theorem ftext_q (q : Rat) (w : World) (h1 : Fit q.num.natAbs) (h2 : Fit q.den) : Calls Tryz.prog 116 #[FV q] w fun e w' => e = .returned (rtx q) ∧ Ext w w' := by
  have l1 := itoa_len h1
  have l2 := h2.dec
  by_cases h : q.den = 1
  · unfold FV rtx
    rw [rtext_int h, h, dtx1]
    exact ftext_one _ w
  · unfold FV rtx
    have e1 := size_mk (Lib.itoa q.num)
    have e2 := dtx_size q.den
    have hc : ((⟨(Lib.itoa q.num).toArray⟩ : ByteArray) ++ ⟨#[47]⟩ ++ ⟨(Lib.decDigits q.den).toArray⟩) = ⟨(rtext q).toArray⟩ := by
      rw [rtext_frac h]; apply ByteArray.ext; simp
    have h5 := ftext_other ⟨(Lib.itoa q.num).toArray⟩ ⟨(Lib.decDigits q.den).toArray⟩ w (by rw [dtx_one]; exact decide_eq_false h) (by omega) (by omega) (by rw [ByteArray.size_append, e1, e2]; show ¬ _ < _ + 1 + _; omega)
    rw [hc] at h5
    exact h5
end Go.Proofs.YtadimepmoljnpaaGreatDoor.GB

namespace Go.Proofs.YtadimepmoljnpaaGreatDoor.GB
set_option linter.unusedVariables false
set_option linter.unusedSimpArgs false
open Go.RowKit Go.Shelf
attribute [local go_sem ↓] Go.wp_at_zero Go.wp_at_succ

set_option maxHeartbeats 2000000 in
set_option maxRecDepth 100000 in
theorem rread_1 (s p d : ByteArray) (w : World) (hcut : ∀ W, Ext w W → Calls Tryz.prog 111 #[.string s, .string ⟨#[47]⟩] W fun e w' => e = .returned (.tuple #[.string p, .string d, .bool true]) ∧ Ext W w') (h1 : ∀ W, Ext w W → Calls Tryz.prog 112 #[.string p] W fun e w' => e = .returned (.bool false) ∧ Ext W w') :
    Calls Tryz.prog 70 #[.string s] w fun e w' => e = .returned (.tuple #[.agg #[.string p, .string d], .bool false]) ∧ Ext w w' := by
  have X := Bx.new w #[.string ⟨#[]⟩, .string ⟨#[]⟩] 108
  have E := (Ext.rfl' w).al (.cells #[.string ⟨#[]⟩, .string ⟨#[]⟩] 108)
  go_enter Tryz.func70, Tryz.ntmps70
  go_wp2_with fail
  generalize w.alloc (.cells #[.string ⟨#[]⟩, .string ⟨#[]⟩] 108) = W0 at *
  refine (hcut _ E).mono ?_
  rintro e w1 ⟨rfl, hE⟩
  replace X := X.ext hE
  replace E := E.tr hE
  clear hE
  go_wp2_with fail
  refine (h1 _ E).mono ?_
  rintro e w2 ⟨rfl, hE⟩
  replace X := X.ext hE
  replace E := E.tr hE
  clear hE
  have c0 := X.c0
  have c1 := X.c1
  have f0 := X.f 0
  have f1 := X.f 1
  go_wp2_with fail
  obtain ⟨d0, d1⟩ := set2 X (.string p) (.string d)
  have E2 := ext_set2 (b := w.heap.size) E (Nat.le_refl _) (.string p) (.string d)
  refine bodyPost_ret (v := .tuple #[.agg #[.string p, .string d], .bool false]) ?_ rfl ⟨rfl, E2⟩
  simp [results, Tryz.f70, go_sem, d0, d1]
set_option maxHeartbeats 2000000 in
set_option maxRecDepth 100000 in
theorem rread_2 (s p d : ByteArray) (w : World) (hcut : ∀ W, Ext w W → Calls Tryz.prog 111 #[.string s, .string ⟨#[47]⟩] W fun e w' => e = .returned (.tuple #[.string p, .string d, .bool true]) ∧ Ext W w') (h1 : ∀ W, Ext w W → Calls Tryz.prog 112 #[.string p] W fun e w' => e = .returned (.bool true) ∧ Ext W w') (hp0 : (p.toList == [48]) = true) :
    Calls Tryz.prog 70 #[.string s] w fun e w' => e = .returned (.tuple #[.agg #[.string p, .string d], .bool false]) ∧ Ext w w' := by
  have X := Bx.new w #[.string ⟨#[]⟩, .string ⟨#[]⟩] 108
  have E := (Ext.rfl' w).al (.cells #[.string ⟨#[]⟩, .string ⟨#[]⟩] 108)
  go_enter Tryz.func70, Tryz.ntmps70
  go_wp2_with fail
  generalize w.alloc (.cells #[.string ⟨#[]⟩, .string ⟨#[]⟩] 108) = W0 at *
  refine (hcut _ E).mono ?_
  rintro e w1 ⟨rfl, hE⟩
  replace X := X.ext hE
  replace E := E.tr hE
  clear hE
  go_wp2_with fail
  refine (h1 _ E).mono ?_
  rintro e w2 ⟨rfl, hE⟩
  replace X := X.ext hE
  replace E := E.tr hE
  clear hE
  have c0 := X.c0
  have c1 := X.c1
  have f0 := X.f 0
  have f1 := X.f 1
  go_wp2_with fail
  obtain ⟨d0, d1⟩ := set2 X (.string p) (.string d)
  have E2 := ext_set2 (b := w.heap.size) E (Nat.le_refl _) (.string p) (.string d)
  refine bodyPost_ret (v := .tuple #[.agg #[.string p, .string d], .bool false]) ?_ rfl ⟨rfl, E2⟩
  simp [results, Tryz.f70, go_sem, d0, d1]
set_option maxHeartbeats 2000000 in
set_option maxRecDepth 100000 in
theorem rread_3 (s p d : ByteArray) (w : World) (hcut : ∀ W, Ext w W → Calls Tryz.prog 111 #[.string s, .string ⟨#[47]⟩] W fun e w' => e = .returned (.tuple #[.string p, .string d, .bool true]) ∧ Ext W w') (h1 : ∀ W, Ext w W → Calls Tryz.prog 112 #[.string p] W fun e w' => e = .returned (.bool true) ∧ Ext W w') (hp0 : (p.toList == [48]) = false) (h2 : ∀ W, Ext w W → Calls Tryz.prog 113 #[.string d] W fun e w' => e = .returned (.bool false) ∧ Ext W w') :
    Calls Tryz.prog 70 #[.string s] w fun e w' => e = .returned (.tuple #[.agg #[.string p, .string d], .bool false]) ∧ Ext w w' := by
  have X := Bx.new w #[.string ⟨#[]⟩, .string ⟨#[]⟩] 108
  have E := (Ext.rfl' w).al (.cells #[.string ⟨#[]⟩, .string ⟨#[]⟩] 108)
  go_enter Tryz.func70, Tryz.ntmps70
  go_wp2_with fail
  generalize w.alloc (.cells #[.string ⟨#[]⟩, .string ⟨#[]⟩] 108) = W0 at *
  refine (hcut _ E).mono ?_
  rintro e w1 ⟨rfl, hE⟩
  replace X := X.ext hE
  replace E := E.tr hE
  clear hE
  go_wp2_with fail
  refine (h1 _ E).mono ?_
  rintro e w2 ⟨rfl, hE⟩
  replace X := X.ext hE
  replace E := E.tr hE
  clear hE
  go_wp2_with fail
  refine (h2 _ E).mono ?_
  rintro e w3 ⟨rfl, hE⟩
  replace X := X.ext hE
  replace E := E.tr hE
  clear hE
  have c0 := X.c0
  have c1 := X.c1
  have f0 := X.f 0
  have f1 := X.f 1
  go_wp2_with fail
  obtain ⟨d0, d1⟩ := set2 X (.string p) (.string d)
  have E2 := ext_set2 (b := w.heap.size) E (Nat.le_refl _) (.string p) (.string d)
  refine bodyPost_ret (v := .tuple #[.agg #[.string p, .string d], .bool false]) ?_ rfl ⟨rfl, E2⟩
  simp [results, Tryz.f70, go_sem, d0, d1]
set_option maxHeartbeats 2000000 in
set_option maxRecDepth 100000 in
theorem rread_4 (s p d : ByteArray) (w : World) (hcut : ∀ W, Ext w W → Calls Tryz.prog 111 #[.string s, .string ⟨#[47]⟩] W fun e w' => e = .returned (.tuple #[.string p, .string d, .bool true]) ∧ Ext W w') (h1 : ∀ W, Ext w W → Calls Tryz.prog 112 #[.string p] W fun e w' => e = .returned (.bool true) ∧ Ext W w') (hp0 : (p.toList == [48]) = false) (h2 : ∀ W, Ext w W → Calls Tryz.prog 113 #[.string d] W fun e w' => e = .returned (.bool true) ∧ Ext W w') (hd0 : (d.toList == [48]) = true) :
    Calls Tryz.prog 70 #[.string s] w fun e w' => e = .returned (.tuple #[.agg #[.string p, .string d], .bool false]) ∧ Ext w w' := by
  have X := Bx.new w #[.string ⟨#[]⟩, .string ⟨#[]⟩] 108
  have E := (Ext.rfl' w).al (.cells #[.string ⟨#[]⟩, .string ⟨#[]⟩] 108)
  go_enter Tryz.func70, Tryz.ntmps70
  go_wp2_with fail
  generalize w.alloc (.cells #[.string ⟨#[]⟩, .string ⟨#[]⟩] 108) = W0 at *
  refine (hcut _ E).mono ?_
  rintro e w1 ⟨rfl, hE⟩
  replace X := X.ext hE
  replace E := E.tr hE
  clear hE
  go_wp2_with fail
  refine (h1 _ E).mono ?_
  rintro e w2 ⟨rfl, hE⟩
  replace X := X.ext hE
  replace E := E.tr hE
  clear hE
  go_wp2_with fail
  refine (h2 _ E).mono ?_
  rintro e w3 ⟨rfl, hE⟩
  replace X := X.ext hE
  replace E := E.tr hE
  clear hE
  have c0 := X.c0
  have c1 := X.c1
  have f0 := X.f 0
  have f1 := X.f 1
  go_wp2_with fail
  obtain ⟨d0, d1⟩ := set2 X (.string p) (.string d)
  have E2 := ext_set2 (b := w.heap.size) E (Nat.le_refl _) (.string p) (.string d)
  refine bodyPost_ret (v := .tuple #[.agg #[.string p, .string d], .bool false]) ?_ rfl ⟨rfl, E2⟩
  simp [results, Tryz.f70, go_sem, d0, d1]
set_option maxHeartbeats 2000000 in
set_option maxRecDepth 100000 in
theorem rread_5 (s p d : ByteArray) (w : World) (hcut : ∀ W, Ext w W → Calls Tryz.prog 111 #[.string s, .string ⟨#[47]⟩] W fun e w' => e = .returned (.tuple #[.string p, .string d, .bool true]) ∧ Ext W w') (h1 : ∀ W, Ext w W → Calls Tryz.prog 112 #[.string p] W fun e w' => e = .returned (.bool true) ∧ Ext W w') (hp0 : (p.toList == [48]) = false) (h2 : ∀ W, Ext w W → Calls Tryz.prog 113 #[.string d] W fun e w' => e = .returned (.bool true) ∧ Ext W w') (hd0 : (d.toList == [48]) = false) (hd1 : (d.toList == [49]) = true) :
    Calls Tryz.prog 70 #[.string s] w fun e w' => e = .returned (.tuple #[.agg #[.string p, .string d], .bool false]) ∧ Ext w w' := by
  have X := Bx.new w #[.string ⟨#[]⟩, .string ⟨#[]⟩] 108
  have E := (Ext.rfl' w).al (.cells #[.string ⟨#[]⟩, .string ⟨#[]⟩] 108)
  go_enter Tryz.func70, Tryz.ntmps70
  go_wp2_with fail
  generalize w.alloc (.cells #[.string ⟨#[]⟩, .string ⟨#[]⟩] 108) = W0 at *
  refine (hcut _ E).mono ?_
  rintro e w1 ⟨rfl, hE⟩
  replace X := X.ext hE
  replace E := E.tr hE
  clear hE
  go_wp2_with fail
  refine (h1 _ E).mono ?_
  rintro e w2 ⟨rfl, hE⟩
  replace X := X.ext hE
  replace E := E.tr hE
  clear hE
  go_wp2_with fail
  refine (h2 _ E).mono ?_
  rintro e w3 ⟨rfl, hE⟩
  replace X := X.ext hE
  replace E := E.tr hE
  clear hE
  have c0 := X.c0
  have c1 := X.c1
  have f0 := X.f 0
  have f1 := X.f 1
  go_wp2_with fail
  obtain ⟨d0, d1⟩ := set2 X (.string p) (.string d)
  have E2 := ext_set2 (b := w.heap.size) E (Nat.le_refl _) (.string p) (.string d)
  refine bodyPost_ret (v := .tuple #[.agg #[.string p, .string d], .bool false]) ?_ rfl ⟨rfl, E2⟩
  simp [results, Tryz.f70, go_sem, d0, d1]
set_option maxHeartbeats 2000000 in
set_option maxRecDepth 100000 in
theorem rread_6 (s p d : ByteArray) (w : World) (hcut : ∀ W, Ext w W → Calls Tryz.prog 111 #[.string s, .string ⟨#[47]⟩] W fun e w' => e = .returned (.tuple #[.string p, .string d, .bool true]) ∧ Ext W w') (h1 : ∀ W, Ext w W → Calls Tryz.prog 112 #[.string p] W fun e w' => e = .returned (.bool true) ∧ Ext W w') (hp0 : (p.toList == [48]) = false) (h2 : ∀ W, Ext w W → Calls Tryz.prog 113 #[.string d] W fun e w' => e = .returned (.bool true) ∧ Ext W w') (hd0 : (d.toList == [48]) = false) (hd1 : (d.toList == [49]) = false) (g : ByteArray) (hg : (g.toList == [49]) = false) (h3 : ∀ W, Ext w W → Calls Tryz.prog 114 #[.string p, .string d] W fun e w' => e = .returned (.string g) ∧ Ext W w') :
    Calls Tryz.prog 70 #[.string s] w fun e w' => e = .returned (.tuple #[.agg #[.string p, .string d], .bool false]) ∧ Ext w w' := by
  have X := Bx.new w #[.string ⟨#[]⟩, .string ⟨#[]⟩] 108
  have E := (Ext.rfl' w).al (.cells #[.string ⟨#[]⟩, .string ⟨#[]⟩] 108)
  go_enter Tryz.func70, Tryz.ntmps70
  go_wp2_with fail
  generalize w.alloc (.cells #[.string ⟨#[]⟩, .string ⟨#[]⟩] 108) = W0 at *
  refine (hcut _ E).mono ?_
  rintro e w1 ⟨rfl, hE⟩
  replace X := X.ext hE
  replace E := E.tr hE
  clear hE
  go_wp2_with fail
  refine (h1 _ E).mono ?_
  rintro e w2 ⟨rfl, hE⟩
  replace X := X.ext hE
  replace E := E.tr hE
  clear hE
  go_wp2_with fail
  refine (h2 _ E).mono ?_
  rintro e w3 ⟨rfl, hE⟩
  replace X := X.ext hE
  replace E := E.tr hE
  clear hE
  go_wp2_with fail
  refine (h3 _ E).mono ?_
  rintro e w4 ⟨rfl, hE⟩
  replace X := X.ext hE
  replace E := E.tr hE
  clear hE
  have c0 := X.c0
  have c1 := X.c1
  have f0 := X.f 0
  have f1 := X.f 1
  go_wp2_with fail
  obtain ⟨d0, d1⟩ := set2 X (.string p) (.string d)
  have E2 := ext_set2 (b := w.heap.size) E (Nat.le_refl _) (.string p) (.string d)
  refine bodyPost_ret (v := .tuple #[.agg #[.string p, .string d], .bool false]) ?_ rfl ⟨rfl, E2⟩
  simp [results, Tryz.f70, go_sem, d0, d1]
set_option maxHeartbeats 2000000 in
set_option maxRecDepth 100000 in
theorem rread_7 (s p d : ByteArray) (w : World) (hcut : ∀ W, Ext w W → Calls Tryz.prog 111 #[.string s, .string ⟨#[47]⟩] W fun e w' => e = .returned (.tuple #[.string p, .string d, .bool true]) ∧ Ext W w') (h1 : ∀ W, Ext w W → Calls Tryz.prog 112 #[.string p] W fun e w' => e = .returned (.bool true) ∧ Ext W w') (hp0 : (p.toList == [48]) = false) (h2 : ∀ W, Ext w W → Calls Tryz.prog 113 #[.string d] W fun e w' => e = .returned (.bool true) ∧ Ext W w') (hd0 : (d.toList == [48]) = false) (hd1 : (d.toList == [49]) = false) (g : ByteArray) (hg : (g.toList == [49]) = true) (h3 : ∀ W, Ext w W → Calls Tryz.prog 114 #[.string p, .string d] W fun e w' => e = .returned (.string g) ∧ Ext W w') :
    Calls Tryz.prog 70 #[.string s] w fun e w' => e = .returned (.tuple #[.agg #[.string p, .string d], .bool true]) ∧ Ext w w' := by
  have X := Bx.new w #[.string ⟨#[]⟩, .string ⟨#[]⟩] 108
  have E := (Ext.rfl' w).al (.cells #[.string ⟨#[]⟩, .string ⟨#[]⟩] 108)
  go_enter Tryz.func70, Tryz.ntmps70
  go_wp2_with fail
  generalize w.alloc (.cells #[.string ⟨#[]⟩, .string ⟨#[]⟩] 108) = W0 at *
  refine (hcut _ E).mono ?_
  rintro e w1 ⟨rfl, hE⟩
  replace X := X.ext hE
  replace E := E.tr hE
  clear hE
  go_wp2_with fail
  refine (h1 _ E).mono ?_
  rintro e w2 ⟨rfl, hE⟩
  replace X := X.ext hE
  replace E := E.tr hE
  clear hE
  go_wp2_with fail
  refine (h2 _ E).mono ?_
  rintro e w3 ⟨rfl, hE⟩
  replace X := X.ext hE
  replace E := E.tr hE
  clear hE
  go_wp2_with fail
  refine (h3 _ E).mono ?_
  rintro e w4 ⟨rfl, hE⟩
  replace X := X.ext hE
  replace E := E.tr hE
  clear hE
  have c0 := X.c0
  have c1 := X.c1
  have f0 := X.f 0
  have f1 := X.f 1
  go_wp2_with fail
  obtain ⟨d0, d1⟩ := set2 X (.string p) (.string d)
  have E2 := ext_set2 (b := w.heap.size) E (Nat.le_refl _) (.string p) (.string d)
  refine bodyPost_ret (v := .tuple #[.agg #[.string p, .string d], .bool true]) ?_ rfl ⟨rfl, E2⟩
  simp [results, Tryz.f70, go_sem, d0, d1]
set_option maxHeartbeats 2000000 in
set_option maxRecDepth 100000 in
theorem rread_0 (s : ByteArray) (b : Bool) (w : World) (hcut : ∀ W, Ext w W → Calls Tryz.prog 111 #[.string s, .string ⟨#[47]⟩] W fun e w' => e = .returned (.tuple #[.string s, .string ⟨#[]⟩, .bool false]) ∧ Ext W w') (h1 : ∀ W, Ext w W → Calls Tryz.prog 112 #[.string s] W fun e w' => e = .returned (.bool b) ∧ Ext W w') :
    Calls Tryz.prog 70 #[.string s] w fun e w' => e = .returned (.tuple #[.agg #[.string s, .string ⟨#[49]⟩], .bool b]) ∧ Ext w w' := by
  have X := Bx.new w #[.string ⟨#[]⟩, .string ⟨#[]⟩] 108
  have E := (Ext.rfl' w).al (.cells #[.string ⟨#[]⟩, .string ⟨#[]⟩] 108)
  go_enter Tryz.func70, Tryz.ntmps70
  go_wp2_with fail
  generalize w.alloc (.cells #[.string ⟨#[]⟩, .string ⟨#[]⟩] 108) = W0 at *
  refine (hcut _ E).mono ?_
  rintro e w1 ⟨rfl, hE⟩
  replace X := X.ext hE
  replace E := E.tr hE
  clear hE
  go_wp2_with fail
  refine (h1 _ E).mono ?_
  rintro e w2 ⟨rfl, hE⟩
  replace X := X.ext hE
  replace E := E.tr hE
  clear hE
  have c0 := X.c0
  have c1 := X.c1
  have f0 := X.f 0
  have f1 := X.f 1
  go_wp2_with fail
  obtain ⟨d0, d1⟩ := set2 X (.string s) (.string ⟨#[49]⟩)
  have E2 := ext_set2 (b := w.heap.size) E (Nat.le_refl _) (.string s) (.string ⟨#[49]⟩)
  refine bodyPost_ret (v := .tuple #[.agg #[.string s, .string ⟨#[49]⟩], .bool b]) ?_ rfl ⟨rfl, E2⟩
  simp [results, Tryz.f70, go_sem, d0, d1]
end Go.Proofs.YtadimepmoljnpaaGreatDoor.GB

namespace Go.Proofs.YtadimepmoljnpaaGreatDoor.GB
set_option linter.unusedVariables false
set_option linter.unusedSimpArgs false
open Go.RowKit Go.Shelf
attribute [local go_sem ↓] Go.wp_at_zero Go.wp_at_succ

theorem ten9_lt {n : Nat} (h : (Lib.decDigits n).length ≤ 9) : n < 1000000000 := by
  have h1 := dec_len_lt n
  have h2 : 10 ^ (Lib.decDigits n).length ≤ 10 ^ 9 := Nat.pow_le_pow_right (by omega) h
  have h3 : (10 : Nat) ^ 9 = 1000000000 := by decide
  omega
theorem parseU_dec (n : Nat) (h : n < 1000000000) : Lib.parseUintB 64 (Lib.decDigits n) = .ok n := by
  have h2 : pval (Lib.decDigits n) = n := pval_dec n
  unfold Lib.parseUintB
  rw [if_neg (dec_ne n), parse_digits _ (by decide) _ _ (dec_dig n)]
  · show Lib.NumEnd.ok (pval (Lib.decDigits n)) = _
    rw [h2]
  · show pval (Lib.decDigits n) ≤ _
    rw [h2]
    have : (2 : Nat) ^ 64 - 1 = 18446744073709551615 := by decide
    omega
theorem parse_i (z : Int) (h : z.natAbs < 1000000000) : Lib.parseIntB 64 (Lib.itoa z) = .ok z := by
  have hu := parseU_dec z.natAbs h
  have e63 : (2 : Nat) ^ (64 - 1) = 9223372036854775808 := by decide
  rcases (by omega : z < 0 ∨ 0 ≤ z) with hz | hz
  · rw [itoa_of_neg hz]
    unfold Lib.parseIntB
    have h45 : (45 : UInt8).toNat = 45 := rfl
    simp only [h45, or_true, if_true, hu, not_true, false_and, if_false, true_and]
    rw [e63, if_neg (by omega)]
    congr 1
    omega
  · rw [itoa_of_nonneg hz]
    obtain ⟨c, r, hcr⟩ : ∃ c r, Lib.decDigits z.natAbs = c :: r := List.exists_cons_of_ne_nil (dec_ne _)
    have hc : isDig c := dec_dig z.natAbs c (by rw [hcr]; simp)
    unfold isDig at hc
    rw [hcr] at hu ⊢
    unfold Lib.parseIntB
    have h1 : ¬ (c.toNat = 43) := by omega
    have h2 : ¬ (c.toNat = 45) := by omega
    simp only [h1, h2, or_self, if_false, hu, not_false_eq_true, true_and, false_and]
    rw [e63, if_neg (by omega)]
    congr 1
    omega
theorem itoa_len9 {z : Int} (h : (Lib.itoa z).length ≤ 9) : z.natAbs < 1000000000 := by
  apply ten9_lt
  rcases (by omega : z < 0 ∨ 0 ≤ z) with hz | hz
  · rw [itoa_of_neg hz] at h; simp at h; omega
  · rw [itoa_of_nonneg hz] at h; exact h
theorem parseInt_i (z : Int) (h : z.natAbs < 1000000000) (hl : (Lib.itoa z).length ≤ 9) (w : World) :
    Calls Tryz.prog 244 #[itx z, .int .i64 10, .int .i64 64] w fun e w' => e = .returned (.tuple #[.int .i64 z, .nilIface]) ∧ Ext w w' := by
  show Calls Tryz.prog 244 #[.string ⟨(Lib.itoa z).toArray⟩, .int .i64 10, .int .i64 64] w _
  refine (Tryz.strconv_ParseInt_10_at64_ok ⟨(Lib.itoa z).toArray⟩ (by rw [size_mk]; omega) z (parse_i z h) w).mono ?_
  rintro e w' ⟨rfl, h | ⟨t, h⟩⟩
  · exact ⟨rfl, h ▸ Ext.rfl' _⟩
  · exact ⟨rfl, h ▸ Lib.bytesWorld_below _ _ _⟩
theorem parseInt_n (n : Nat) (hl : (Lib.decDigits n).length ≤ 9) (w : World) :
    Calls Tryz.prog 244 #[dtx n, .int .i64 10, .int .i64 64] w fun e w' => e = .returned (.tuple #[.int .i64 n, .nilIface]) ∧ Ext w w' := by
  have h := parseInt_i (n : Int) (by have := ten9_lt hl; omega) (by rw [itoa_nat]; exact hl) w
  have e := itoa_nat n
  unfold itx at h
  rwa [e] at h

set_option maxHeartbeats 2000000 in
set_option maxRecDepth 100000 in
theorem little_yes (s t : ByteArray) (p q : Int) (w : World) (hs : s.size ≤ 9) (ht : t.size ≤ 9)
    (h1 : ∀ W, Calls Tryz.prog 244 #[.string s, .int .i64 10, .int .i64 64] W fun e w' => e = .returned (.tuple #[.int .i64 p, .nilIface]) ∧ Ext W w')
    (h2 : ∀ W, Calls Tryz.prog 244 #[.string t, .int .i64 10, .int .i64 64] W fun e w' => e = .returned (.tuple #[.int .i64 q, .nilIface]) ∧ Ext W w') :
    Calls Tryz.prog 218 #[.agg #[.string s, .string t]] w fun e w' => e = .returned (.tuple #[.int .i64 p, .int .i64 q, .bool true]) ∧ Ext w w' := by
  have X := Bx.new w #[.string s, .string t] 108
  have E := (Ext.rfl' w).al (.cells #[.string s, .string t] 108)
  go_enter Tryz.func218, Tryz.ntmps218
  go_wp2_with fail
  generalize w.alloc (.cells #[.string s, .string t] 108) = W0 at *
  refine (h1 _).mono ?_
  rintro e w1 ⟨rfl, hE⟩
  replace X := X.ext hE
  replace E := E.tr hE
  clear hE
  have c0 := X.c0
  have c1 := X.c1
  go_wp2_with fail
  refine (h2 _).mono ?_
  rintro e w2 ⟨rfl, hE⟩
  replace E := E.tr hE
  clear hE X c0 c1
  go_wp2_with fail
  go_ret3
  exact ⟨rfl, E⟩
set_option maxHeartbeats 2000000 in
set_option maxRecDepth 100000 in
theorem little_no (s t : ByteArray) (w : World) (hs : 9 < s.size ∨ 9 < t.size) :
    Calls Tryz.prog 218 #[.agg #[.string s, .string t]] w fun e w' => e = .returned (.tuple #[.int .i64 0, .int .i64 0, .bool false]) ∧ Ext w w' := by
  by_cases h9 : 9 < s.size
  · clear hs
    go_enter Tryz.func218, Tryz.ntmps218
    go_wp2_with fail
    go_ret3
    exact ⟨rfl, (Ext.rfl' _).al _⟩
  · have h10 : 9 < t.size := by omega
    have h11 : s.size ≤ 9 := by omega
    clear hs h9
    go_enter Tryz.func218, Tryz.ntmps218
    go_wp2_with fail
    go_ret3
    exact ⟨rfl, (Ext.rfl' _).al _⟩
theorem little_q (z : Int) (n : Nat) (w : World) (h1 : (Lib.itoa z).length ≤ 9) (h2 : (Lib.decDigits n).length ≤ 9) :
    Calls Tryz.prog 218 #[.agg #[itx z, dtx n]] w fun e w' => e = .returned (.tuple #[.int .i64 z, .int .i64 n, .bool true]) ∧ Ext w w' :=
  little_yes _ _ z n w (by rw [size_mk]; exact h1) (by rw [size_mk]; exact h2) (fun W => parseInt_i z (itoa_len9 h1) h1 W) (fun W => parseInt_n n h2 W)
theorem little_big (z : Int) (n : Nat) (w : World) (h : 9 < (Lib.itoa z).length ∨ 9 < (Lib.decDigits n).length) :
    Calls Tryz.prog 218 #[.agg #[itx z, dtx n]] w fun e w' => e = .returned (.tuple #[.int .i64 0, .int .i64 0, .bool false]) ∧ Ext w w' :=
  little_no _ _ w (by rw [size_mk, size_mk]; exact h)
end Go.Proofs.YtadimepmoljnpaaGreatDoor.GB
