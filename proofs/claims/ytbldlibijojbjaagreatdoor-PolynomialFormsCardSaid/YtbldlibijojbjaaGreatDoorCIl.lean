import Derived.Test.YtbldlibijojbjaaGreatDoorMBk
namespace Go.Proofs.YtbldlibijojbjaaGreatDoor.GB
set_option linter.unusedVariables false
set_option linter.unusedSimpArgs false
open Go.RowKit Go.Shelf
attribute [local go_sem ↓] Go.wp_at_zero Go.wp_at_succ

theorem cmpR_lt (x y : Rat) : decide (cmpR x y < 0) = decide (x < y) := by
  unfold cmpR
  by_cases h : x < y
  · rw [if_pos h, decide_eq_true h]; rfl
  · rw [if_neg h, decide_eq_false h]
    split <;> rfl
theorem cmpR_le (x y : Rat) : decide (cmpR x y ≤ 0) = decide (x ≤ y) := by
  unfold cmpR
  by_cases h : x < y
  · rw [if_pos h, decide_eq_true (Rat.le_of_lt h)]; rfl
  · rw [if_neg h]
    by_cases h2 : y < x
    · rw [if_pos h2, decide_eq_false (Rat.not_le.2 h2)]; rfl
    · rw [if_neg h2, decide_eq_true (Rat.not_lt.1 h2)]; rfl
set_option maxHeartbeats 1000000 in
set_option maxRecDepth 100000 in
theorem iless_q (x y : Rat) (m n : Nat) (w : World) (hW : Wd w) (hx : Bd x m) (hy : Bd y n) (hk : m + n + 1 ≤ KK) :
    Calls Tryz.prog 87 #[rtx x, rtx y] w fun e w' => e = .returned (.bool (decide (x < y))) ∧ Ext w w' := by
  have h := rCompare_q x y m n w hW hx hy hk
  rw [← cmpR_lt]
  generalize cmpR x y = z at h ⊢
  go_enter Tryz.func87, Tryz.ntmps87
  go_wp2_with fail
  refine h.mono ?_
  rintro e w1 ⟨rfl, hE⟩
  clear h
  go_wp2_with fail
  go_ret
  exact ⟨rfl, hE⟩
set_option maxHeartbeats 1000000 in
set_option maxRecDepth 100000 in
theorem iValid_q (x y : Rat) (m n : Nat) (w : World) (hW : Wd w) (hx : Bd x m) (hy : Bd y n) (hk : m + n + 1 ≤ KK) :
    Calls Tryz.prog 79 #[.agg #[rtx x, rtx y]] w fun e w' => e = .returned (.bool (decide (x ≤ y))) ∧ Ext w w' := by
  have h := fun W (hE : Ext w W) => rCompare_q x y m n W (hW.ext hE) hx hy hk
  rw [← cmpR_le]
  generalize cmpR x y = z at h ⊢
  have E := (Ext.rfl' w).al (.cells #[rtx x, rtx y] 44)
  go_enter Tryz.func79, Tryz.ntmps79
  go_wp2_with fail
  generalize w.alloc (.cells #[rtx x, rtx y] 44) = W0 at *
  refine (h _ E).mono ?_
  rintro e w1 ⟨rfl, hE⟩
  clear h
  go_wp2_with fail
  go_ret
  exact ⟨rfl, E.tr hE⟩
set_option maxHeartbeats 1000000 in
set_option maxRecDepth 100000 in
theorem iValid_no (s t : ByteArray) (w : World) (hW : Wd w) (hs : s.size ≤ 1000000) (ht : t.size ≤ 1000000) (hb : (ratB s.data.toList && ratB t.data.toList) = false) :
    Calls Tryz.prog 79 #[.agg #[.string s, .string t]] w fun e w' => e = .returned (.bool false) ∧ Ext w w' := by
  have h := fun W (hE : Ext w W) => rCompare_bad s t W (hW.ext hE) hs ht hb
  clear hb
  have E := (Ext.rfl' w).al (.cells #[.string s, .string t] 44)
  go_enter Tryz.func79, Tryz.ntmps79
  go_wp2_with fail
  generalize w.alloc (.cells #[.string s, .string t] 44) = W0 at *
  refine (h _ E).mono ?_
  rintro e w1 ⟨rfl, hE⟩
  clear h
  go_wp2_with fail
  go_ret
  exact ⟨rfl, E.tr hE⟩
theorem Bx.put {w : World} {b : Nat} {cs : Array Value} {T : TypeId} (h : Bx w b cs T) (j : Nat) (u : Value) : Bx (w.setCell ⟨b, j, none⟩ u) b (cs.setIfInBounds j u) T := by
  unfold Bx at h ⊢
  obtain ⟨hlt, hk⟩ := Array.getElem?_eq_some_iff.1 h
  show (w.heap.modify b _)[b]? = _
  rw [Array.getElem?_eq_getElem (by rw [Array.size_modify]; exact hlt), Array.getElem_modify_self, hk]
  rfl
theorem Bx.put0 {w : World} {b : Nat} {x y : Value} {T : TypeId} (h : Bx w b #[x, y] T) (u : Value) : Bx (w.setCell ⟨b, 0, none⟩ u) b #[u, y] T := h.put 0 u
theorem Bx.put1 {w : World} {b : Nat} {x y : Value} {T : TypeId} (h : Bx w b #[x, y] T) (u : Value) : Bx (w.setCell ⟨b, 1, none⟩ u) b #[x, u] T := h.put 1 u
/-- From the least to the greatest of some numbers, begun with one. -/
def endR (s : Rat × Rat) (a : Rat) : Rat × Rat := (if a < s.1 then a else s.1, if s.2 < a then a else s.2)
def endsR : Pl → Rat × Rat
  | [] => (0, 0)
  | x :: l => l.foldl endR (x, x)
theorem endR_bd {s : Rat × Rat} {a : Rat} {n : Nat} (h1 : Bd s.1 n) (h2 : Bd s.2 n) (ha : Bd a n) : Bd (endR s a).1 n ∧ Bd (endR s a).2 n := by
  unfold endR
  constructor
  · show Bd (if _ then _ else _) n; split <;> assumption
  · show Bd (if _ then _ else _) n; split <;> assumption
theorem take_fold (l : Pl) (s : Rat × Rat) (k : Nat) (hk : k < l.length) : (l.take (k + 1)).foldl endR s = endR ((l.take k).foldl endR s) (cf l k) := by
  rw [List.take_succ_eq_append_getElem hk, List.foldl_append, cf_lt hk]; rfl
set_option maxHeartbeats 4000000 in
set_option maxRecDepth 100000 in
theorem ends_q (b : Nat) (c : Nat) (x : Rat) (l : Pl) (ln n : Nat) (w : World) (HL : Hid (l.length = ln)) (hl0 : 0 < ln) (hl : ln ≤ 100000) (hc : ln + 1 ≤ c) (hc2 : c ≤ 1000000) (hW : Wd w) (hS : PS w (.slice (some ⟨b, 0, none⟩) (ln + 1) c) (x :: l)) (hp : PB (x :: l) n) (hk : 2 * n + 1 ≤ KK) :
    Calls Tryz.prog 88 #[.slice (some ⟨b, 0, none⟩) (ln + 1) c] w fun e w' => e = .returned (.agg #[rtx (endsR (x :: l)).1, rtx (endsR (x :: l)).2]) ∧ Ext w w' := by
  have HS := Lib.hid hS
  have HP := Lib.hid hp
  have HW := Lib.hid hW
  have hx0 : w.cell? ⟨b, 0, none⟩ = some (rtx x) := by
    obtain ⟨-, -, -, hcl⟩ := hS.cell
    obtain ⟨b', f', hb, _, h⟩ := hcl 0 (by simp)
    cases hb
    simpa using h
  have X1 := Bx.new w #[.string ⟨#[]⟩, .string ⟨#[]⟩] 44
  have E1 := (Ext.rfl' w).al (.cells #[.string ⟨#[]⟩, .string ⟨#[]⟩] 44)
  have hx1 := E1.cell hx0
  clear hS hp hW hx0
  go_enter Tryz.func88, Tryz.ntmps88
  go_wp2_with fail
  generalize w.alloc (.cells #[.string ⟨#[]⟩, .string ⟨#[]⟩] 44) = W0 at *
  have c1 : ¬ (c = 1) := by omega
  have c2 : (1 : Int) ≤ (c : Int) := by omega
  have c3 : (1 : Int) ≤ (ln : Int) + 1 := by omega
  have c4 : (0 : Int) < (ln : Int) + 1 := by omega
  have c5 : (0 : Int) ≤ (ln : Int) + 1 := by omega
  have c6 : 0 < ln + 1 := by omega
  have c7 : (0 : Int) < ((ln + 1 : Nat) : Int) := by omega
  go_region_held3 (fun w' => w'.cell? ⟨b, 0, none⟩ = some (rtx x)) (((try dsimp only); (repeat' apply And.intro) <;> (first | assumption | ((go_keep); done)))) (fail)
  all_goals
    have X2 := (X1.al (.cells #[rtx x, rtx x] 44))
    have X3 := Bx.new W0 #[rtx x, rtx x] 44
    have hz := X1.lt
    have E2 := E1.al (.cells #[rtx x, rtx x] 44)
    generalize W0.alloc (.cells #[rtx x, rtx x] 44) = W1 at *
    generalize hg : W0.heap.size = g at *
    go_wp2_with fail
    have HX2 := Lib.hid (show Bx W1.drew w.heap.size #[.string ⟨#[]⟩, .string ⟨#[]⟩] 44 from X2)
    have HX3 := Lib.hid (show Bx W1.drew g #[rtx x, rtx x] 44 from X3)
    have HE2 := Lib.hid (show Ext w W1.drew from E2.dr)
    clear X1 X2 X3 E1 E2 hx1 hg c1 c2 c3 c4 c5 c6 c7
    generalize W1.drew = W2 at *
    go_loopw [16] (fun v wr => ∃ k : Nat, k ≤ ln ∧ v = .int .i64 k ∧ Hid (Bx wr w.heap.size #[.string ⟨#[]⟩, .string ⟨#[]⟩] 44) ∧ Hid (Bx wr g #[rtx ((l.take k).foldl endR (x, x)).1, rtx ((l.take k).foldl endR (x, x)).2] 44) ∧ Hid (Ext w wr) ∧ Hid (Bd ((l.take k).foldl endR (x, x)).1 n ∧ Bd ((l.take k).foldl endR (x, x)).2 n)) (fun v _ => ln - (intOf v).toNat)
    case atStart => exact ⟨0, Nat.zero_le _, rfl, HX2, HX3, HE2, HP.out x (by simp), HP.out x (by simp)⟩
    case round =>
      clear HX2 HX3 HE2
      obtain ⟨k, hk1, rfl, HY, HX, HE, HB⟩ := hrel
      by_cases hlt : k < ln
      · obtain ⟨-, -, -, hcl⟩ := HS.out.cell
        obtain ⟨b', f', hb', _, hca⟩ := hcl (k + 1) (by have := HL.out; simp; omega)
        obtain ⟨rfl, rfl⟩ : b = b' ∧ 0 = f' := by simp at hb'; exact hb'
        have hca : w.cell? ⟨b, 1 + k, none⟩ = some (rtx (cf l k)) := by
          have e : cf (x :: l) (k + 1) = cf l k := rfl
          rw [Nat.zero_add, Nat.add_comm k 1] at hca
          rw [hca, Nat.add_comm 1 k, e]
        replace hca := HE.out.cell hca
        clear hcl hb'
        have HST := Lib.hid (take_fold l (x, x) k (by rw [HL.out]; exact hlt))
        have hba : Bd (cf l k) n := HP.out.cf (k + 1)
        have HBn := Lib.hid (endR_bd HB.out.1 HB.out.2 hba)
        have hblo := HB.out.1
        have hbhi := HB.out.2
        rw [← HST.out] at HBn
        clear HB
        generalize cf l k = a at *
        generalize (l.take k).foldl endR (x, x) = s at *
        obtain ⟨lo, hi⟩ := s
        dsimp only at *
        have c0 := HX.out.c0
        have c1 := HX.out.c1
        by_cases ha : a < lo
        · by_cases hh : hi < a
          · have hl1 := fun W (hw : Wd W) => iless_q a lo n n W hw hba hblo (by omega)
            have hl2 := fun W (hw : Wd W) => iless_q hi a n n W hw hbhi hba (by omega)
            rw [decide_eq_true ha] at hl1
            rw [decide_eq_true hh] at hl2
            have H1 := Lib.hid hl1
            have H2 := Lib.hid hl2
            clear hl1 hl2
            go_wp2_with fail
            refine (H1.out _ (HW.out.ext HE.out)).mono ?_
            rintro e w3 ⟨rfl, hE3⟩
            have HE3 := Lib.hid (HE.out.tr hE3)
            have HY3 := Lib.hid (HY.out.ext hE3)
            have HX3 := Lib.hid (HX.out.ext hE3)
            clear hE3
            have d0 := HX3.out.c0
            have d1 := HX3.out.c1
            have e0 := HX3.out.f 0
            have e1 := HX3.out.f 1
            have HX4 := Lib.hid (HX3.out.put0 (rtx a))
            have HY4 := Lib.hid (HY3.out.set (p := ⟨g, 0, none⟩) (by show w.heap.size ≠ g; omega) (rtx a))
            have HE4 := Lib.hid (show Ext w (w3.setCell ⟨g, 0, none⟩ (rtx a)) from HE3.out.setCell (p := ⟨g, 0, none⟩) (by show w.heap.size ≤ g; omega) (rtx a))
            have k0 := HX4.out.c0
            have k1 := HX4.out.c1
            go_wp2_with fail
            refine (H2.out _ (HW.out.ext HE4.out)).mono ?_
            rintro e w5 ⟨rfl, hE5⟩
            have HE5 := Lib.hid (HE4.out.tr hE5)
            have HY5 := Lib.hid (HY4.out.ext hE5)
            have HX5 := Lib.hid (HX4.out.ext hE5)
            clear hE5
            have m0 := HX5.out.c0
            have m1 := HX5.out.c1
            have q0 := HX5.out.f 0
            have q1 := HX5.out.f 1
            go_wp2_with fail
            go_roundw
            case rel => exact ⟨k + 1, by omega, by go_num, HY5.out.set (p := ⟨g, 1, none⟩) (by show w.heap.size ≠ g; omega) (rtx a), by rw [HST.out]; rw [show endR (lo, hi) a = (a, a) from by unfold endR; simp [ha, hh]]; exact HX5.out.put1 (rtx a), HE5.out.setCell (p := ⟨g, 1, none⟩) (by show w.heap.size ≤ g; omega) (rtx a), HBn⟩
            case measure => simp [intOf]; omega
          · have hskip : True := trivial
            have hl1 := fun W (hw : Wd W) => iless_q a lo n n W hw hba hblo (by omega)
            have hl2 := fun W (hw : Wd W) => iless_q hi a n n W hw hbhi hba (by omega)
            rw [decide_eq_true ha] at hl1
            rw [decide_eq_false hh] at hl2
            have H1 := Lib.hid hl1
            have H2 := Lib.hid hl2
            clear hl1 hl2
            go_wp2_with fail
            refine (H1.out _ (HW.out.ext HE.out)).mono ?_
            rintro e w3 ⟨rfl, hE3⟩
            have HE3 := Lib.hid (HE.out.tr hE3)
            have HY3 := Lib.hid (HY.out.ext hE3)
            have HX3 := Lib.hid (HX.out.ext hE3)
            clear hE3
            have d0 := HX3.out.c0
            have d1 := HX3.out.c1
            have e0 := HX3.out.f 0
            have e1 := HX3.out.f 1
            have HX4 := Lib.hid (HX3.out.put0 (rtx a))
            have HY4 := Lib.hid (HY3.out.set (p := ⟨g, 0, none⟩) (by show w.heap.size ≠ g; omega) (rtx a))
            have HE4 := Lib.hid (show Ext w (w3.setCell ⟨g, 0, none⟩ (rtx a)) from HE3.out.setCell (p := ⟨g, 0, none⟩) (by show w.heap.size ≤ g; omega) (rtx a))
            have k0 := HX4.out.c0
            have k1 := HX4.out.c1
            go_wp2_with fail
            refine (H2.out _ (HW.out.ext HE4.out)).mono ?_
            rintro e w5 ⟨rfl, hE5⟩
            have HE5 := Lib.hid (HE4.out.tr hE5)
            have HY5 := Lib.hid (HY4.out.ext hE5)
            have HX5 := Lib.hid (HX4.out.ext hE5)
            clear hE5
            have m0 := HX5.out.c0
            have m1 := HX5.out.c1
            have q0 := HX5.out.f 0
            have q1 := HX5.out.f 1
            go_wp2_with fail
            go_roundw
            case rel => exact ⟨k + 1, by omega, by go_num, HY5, by rw [HST.out]; rw [show endR (lo, hi) a = (a, hi) from by unfold endR; simp [ha, hh]]; exact HX5.out, HE5, HBn⟩
            case measure => simp [intOf]; omega
        · by_cases hh : hi < a
          · have hl1 := fun W (hw : Wd W) => iless_q a lo n n W hw hba hblo (by omega)
            have hl2 := fun W (hw : Wd W) => iless_q hi a n n W hw hbhi hba (by omega)
            rw [decide_eq_false ha] at hl1
            rw [decide_eq_true hh] at hl2
            have H1 := Lib.hid hl1
            have H2 := Lib.hid hl2
            clear hl1 hl2
            go_wp2_with fail
            refine (H1.out _ (HW.out.ext HE.out)).mono ?_
            rintro e w3 ⟨rfl, hE3⟩
            have HE3 := Lib.hid (HE.out.tr hE3)
            have HY3 := Lib.hid (HY.out.ext hE3)
            have HX3 := Lib.hid (HX.out.ext hE3)
            clear hE3
            have d0 := HX3.out.c0
            have d1 := HX3.out.c1
            have e0 := HX3.out.f 0
            have e1 := HX3.out.f 1
            have HX4 := Lib.hid HX3.out
            have HY4 := Lib.hid HY3.out
            have HE4 := Lib.hid HE3.out
            go_wp2_with fail
            refine (H2.out _ (HW.out.ext HE4.out)).mono ?_
            rintro e w5 ⟨rfl, hE5⟩
            have HE5 := Lib.hid (HE4.out.tr hE5)
            have HY5 := Lib.hid (HY4.out.ext hE5)
            have HX5 := Lib.hid (HX4.out.ext hE5)
            clear hE5
            have m0 := HX5.out.c0
            have m1 := HX5.out.c1
            have q0 := HX5.out.f 0
            have q1 := HX5.out.f 1
            go_wp2_with fail
            go_roundw
            case rel => exact ⟨k + 1, by omega, by go_num, HY5.out.set (p := ⟨g, 1, none⟩) (by show w.heap.size ≠ g; omega) (rtx a), by rw [HST.out]; rw [show endR (lo, hi) a = (lo, a) from by unfold endR; simp [ha, hh]]; exact HX5.out.put1 (rtx a), HE5.out.setCell (p := ⟨g, 1, none⟩) (by show w.heap.size ≤ g; omega) (rtx a), HBn⟩
            case measure => simp [intOf]; omega
          · have hskip : True := trivial
            have hl1 := fun W (hw : Wd W) => iless_q a lo n n W hw hba hblo (by omega)
            have hl2 := fun W (hw : Wd W) => iless_q hi a n n W hw hbhi hba (by omega)
            rw [decide_eq_false ha] at hl1
            rw [decide_eq_false hh] at hl2
            have H1 := Lib.hid hl1
            have H2 := Lib.hid hl2
            clear hl1 hl2
            go_wp2_with fail
            refine (H1.out _ (HW.out.ext HE.out)).mono ?_
            rintro e w3 ⟨rfl, hE3⟩
            have HE3 := Lib.hid (HE.out.tr hE3)
            have HY3 := Lib.hid (HY.out.ext hE3)
            have HX3 := Lib.hid (HX.out.ext hE3)
            clear hE3
            have d0 := HX3.out.c0
            have d1 := HX3.out.c1
            have e0 := HX3.out.f 0
            have e1 := HX3.out.f 1
            have HX4 := Lib.hid HX3.out
            have HY4 := Lib.hid HY3.out
            have HE4 := Lib.hid HE3.out
            go_wp2_with fail
            refine (H2.out _ (HW.out.ext HE4.out)).mono ?_
            rintro e w5 ⟨rfl, hE5⟩
            have HE5 := Lib.hid (HE4.out.tr hE5)
            have HY5 := Lib.hid (HY4.out.ext hE5)
            have HX5 := Lib.hid (HX4.out.ext hE5)
            clear hE5
            have m0 := HX5.out.c0
            have m1 := HX5.out.c1
            have q0 := HX5.out.f 0
            have q1 := HX5.out.f 1
            go_wp2_with fail
            go_roundw
            case rel => exact ⟨k + 1, by omega, by go_num, HY5, by rw [HST.out]; rw [show endR (lo, hi) a = (lo, hi) from by unfold endR; simp [ha, hh]]; exact HX5.out, HE5, HBn⟩
            case measure => simp [intOf]; omega
      · have hke : k = ln := by omega
        have hx2 : Hid ((l.take k).foldl endR (x, x) = endsR (x :: l)) := by
          unfold Hid endsR
          rw [hke, ← HL.out, List.take_length]
        rw [hx2.out] at HX
        clear hke hx2 HB
        generalize hsd : endsR (x :: l) = s at *
        have HSS := Lib.hid hsd
        clear hsd
        have c0 := HX.out.c0
        have c1 := HX.out.c1
        have d0 := HY.out.c0
        have d1 := HY.out.c1
        have e0 := HY.out.f 0
        have e1 := HY.out.f 1
        go_wp2_with fail
        obtain ⟨m0, m1⟩ := set2 HY.out (rtx s.1) (rtx s.2)
        refine bodyPost_ret (v := .agg #[rtx s.1, rtx s.2]) ?_ rfl ⟨by rw [HSS.out], ext_set2 (b := w.heap.size) HE.out (Nat.le_refl _) _ _⟩
        simp [results, Tryz.f88, go_sem, m0, m1]
end Go.Proofs.YtbldlibijojbjaaGreatDoor.GB
