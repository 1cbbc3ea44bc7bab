import Derived.Test.YtadimepmoljnpaaGreatDoorMPr
import Derived.Deep.AppendLies
namespace Go.Proofs.YtadimepmoljnpaaGreatDoor.GB
set_option linter.unusedVariables false
set_option linter.unusedSimpArgs false
open Go.RowKit Go.Shelf
attribute [local go_sem ↓] Go.wp_at_zero Go.wp_at_succ

set_option maxHeartbeats 1000000 in
set_option maxRecDepth 100000 in
theorem whole_k (k : Nat) (hk : k ≤ 1000000) (w : World) (hW : Wd w) : Calls Tryz.prog 103 #[.int .i64 k] w fun e w' => e = .returned (rtx ((k : Int) : Rat)) ∧ Ext w w' := by
  have e1 : rtx ((k : Int) : Rat) = itx (k : Int) := by show Value.string _ = Value.string _; rw [rtext_of_int]
  rw [e1]
  have h := Tryz.strconv_Itoa (k : Int) (by omega) (by omega) w hW.tab
  go_enter Tryz.func103, Tryz.ntmps103
  go_wp2_with fail
  refine h.mono ?_
  rintro e w1 ⟨rfl, a, os, rfl⟩
  have hE := Ext.grow w a os
  clear h
  go_wp2_with fail
  go_ret
  exact ⟨rfl, hE⟩
/-- The derivative. -/
def pder (p : Pl) : Pl := (List.range (p.length - 1)).map fun j => cf p (j + 1) * (((j + 1 : Nat) : Int) : Rat)
theorem bd_small (k : Nat) (hk : k < 1048576) : Bd ((k : Int) : Rat) 20 := Bd.of_int _ 20 (by
  have : (2 : Nat) ^ 20 = 1048576 := by decide
  omega)
set_option maxHeartbeats 4000000 in
set_option maxRecDepth 100000 in
theorem derive_ok (A : Option Addr) (c pn n : Nat) (p : Pl) (w : World) (HPL : Hid (p.length = pn)) (hl : pn ≤ 100000) (hW : Wd w) (hA : PS w (.slice A pn c) p) (hv : VA (.slice A pn c) true w) (hp : PB p n) (hk : n + 23 ≤ KK) :
    Calls Tryz.prog 62 #[.slice A pn c] w (RetQ0 (fun W v => PS W v (pder p)) w) := by
  obtain ⟨i0, hi, hz0, hz1, hz2⟩ := info_parts Tryz.infoRat
  have HA := Lib.hid hA
  have HP := Lib.hid hp
  have HW := Lib.hid hW
  clear hA hp hW
  go_enter Tryz.func62, Tryz.ntmps62
  go_wp2_with fail
  refine (hv _ (Ext.rfl' _)).mono ?_
  rintro e w0 ⟨rfl, hE0⟩
  have HE0 := Lib.hid hE0
  clear hE0 hv
  go_wp2_with fail
  go_loopw [4, 5] (fun vo vi wr => ∃ k : Nat, (k < pn ∨ k + 1 = pn ∨ k = 0) ∧ vi = .int .i64 ((k : Int) + 1) ∧ Hid (OwnS wr w.heap.size vo (((List.range k).map fun j => cf p (j + 1) * (((j + 1 : Nat) : Int) : Rat)).map rb)) ∧ Hid (Ext w wr)) (fun _ vi _ => pn - (intOf vi).toNat)
  case atStart => exact ⟨0, by omega, rfl, ⟨rfl, .inl ⟨rfl, rfl⟩⟩, HE0⟩
  case round =>
    obtain ⟨k, hk0, rfl, HO, HE⟩ := hrel
    by_cases hlt : k + 1 < pn
    · obtain ⟨-, -, -, hcl⟩ := HA.out.cell
      obtain ⟨bb, fb, rfl, hbb, hcC⟩ := hcl (k + 1) (by rw [HPL.out]; exact hlt)
      have HC0 := Lib.hid hcC
      replace hcC := HE.out.cell hcC
      have hbC := HP.out.cf (k + 1)
      have hM := fun W (hw : Wd W) => pmul_q (cf p (k + 1)) (((k + 1 : Nat) : Int) : Rat) n 20 W hw hbC (bd_small (k + 1) (by omega)) (by omega)
      have hWh := fun W (hw : Wd W) => whole_k (k + 1) (by omega) W hw
      have hS : ((List.range (k + 1)).map fun j => cf p (j + 1) * (((j + 1 : Nat) : Int) : Rat)).map rb = ((List.range k).map fun j => cf p (j + 1) * (((j + 1 : Nat) : Int) : Rat)).map rb ++ [rb (cf p (k + 1) * (((k + 1 : Nat) : Int) : Rat))] := by
        rw [List.range_succ]; simp
      have HS := Lib.hid hS
      have e2 : ((k + 1 : Nat) : Int) = (k : Int) + 1 := by push_cast; rfl
      have hv1 : Value.int .i64 ((k + 1 : Nat) : Int) = .int .i64 ((k : Int) + 1) := by rw [e2]
      rw [hv1] at hWh
      clear e2 hv1 hS hcl
      generalize hF : cf p (k + 1) * (((k + 1 : Nat) : Int) : Rat) = F at hM HS
      clear hF
      generalize (((k + 1 : Nat) : Int) : Rat) = Q at hM hWh
      generalize cf p (k + 1) = C at *
      have HM := Lib.hid hM
      have HWh := Lib.hid hWh
      have hN : (((List.range k).map fun j => cf p (j + 1) * (((j + 1 : Nat) : Int) : Rat)).map rb).length + 1 ≤ maxLen := by simp [maxLen]; omega
      have hbig : ((((List.range k).map fun j => cf p (j + 1) * (((j + 1 : Nat) : Int) : Rat)).map rb).length + 1) * 16 ≤ 140737488355328 := by simp; omega
      generalize ((List.range k).map fun j => cf p (j + 1) * (((j + 1 : Nat) : Int) : Rat)).map rb = r at *
      have HW1 : Hid (Wd wr.drew) := HW.out.ext (Ext.dr' HE)
      have a1 : (0 : Int) ≤ (k : Int) + 1 := by omega
      have a2 : ((k : Int) + 1).toNat = k + 1 := by omega
      have a3 : (k : Int) + 1 < (pn : Int) := by omega
      have a4 : (k : Int) + 1 ≤ (pn : Int) := by omega
      clear hM hWh hbC
      go_wp2_with fail
      go_region_held3 (fun w' => w'.cell? ⟨bb, fb + (k + 1), none⟩ = some (rtx C)) (((try dsimp only); (repeat' apply And.intro) <;> (first | assumption | ((go_keep); done))))
        (first
          | (go_at_call 103; (with_reducible refine (HWh.out _ HW1.out).mono ?_); rintro e w2 ⟨rfl, hE2⟩; have q0 := Ext.cellD hE2 hcC; have HE2 := Lib.hid ((Ext.dr' HE).tr hE2); have HO2 := Lib.hid (OwnS.ext (show OwnS wr.drew w.heap.size _ r from HO.out) hE2); have HW2 := Lib.hid (Wd.ext HW1.out hE2); clear hE2)
          | (go_at_call 68; (with_reducible refine (HM.out _ HW2.out).mono ?_); rintro e w3 ⟨rfl, hE3⟩; have t0 := Ext.cellH hE3 q0; have HE3 := Lib.hid (HE2.out.tr hE3); have HO3 := Lib.hid (OwnS.ext HO2.out hE3); have hb3 : w.heap.size ≤ w3.heap.size := HE3.out.size; clear hE3)
          | ((refine step_append_lies _ (by rfl) _ _ 23 (by rfl) w.heap.size 24 i0 (.string ⟨#[]⟩) 1 16 Tryz.underlying23 hi hz0 hz1 hz2 rfl (by omega) _ r.length (strs r) (by rfl) (World.ownsRow.alloc HO3.out _) ⟨w3.heap.size, 0, none⟩ 1 1 [rtx F] (by rfl) (by rfl) (World.news_of_block (cs := #[rtx F]) (t := 24) (fr := (0, 0)) (heap_alloc_new w3 _)) (by simp [Value.oneCell']) (by omega) hN hbig (by simp; omega) (w3.heap.size + 1) (by simp) ?_); intro gg cap w4 hown4 hgrow4 hat4 hlt4; have hh4 := own_grow (news := [rb F]) HO3.out HE3.out hown4 hgrow4; have s0 := Ext.cellH hh4.2 HC0.out))
      all_goals
        have HO4 := Lib.hid hh4.1
        have HE4 := Lib.hid hh4.2
        clear hh4 s0 q0 t0 hown4 hgrow4 a1 a2 a3 a4
        go_wp2
        go_roundw
        case rel => exact ⟨k + 1, by omega, by go_num, by rw [HS.out]; exact HO4, HE4⟩
        case measure => simp [intOf]; omega
    · have hke : pn - 1 = k := by omega
      have h := HO.out.sl
      rw [← hke, ← HPL.out] at h
      have HV := Lib.hid h
      clear hke h
      go_wp2
      go_ret2
      exact ⟨_, rfl, HV.out, HE.out⟩
end Go.Proofs.YtadimepmoljnpaaGreatDoor.GB

namespace Go.Proofs.YtadimepmoljnpaaGreatDoor.GB
set_option linter.unusedVariables false
set_option linter.unusedSimpArgs false
open Go.RowKit Go.Shelf
attribute [local go_sem ↓] Go.wp_at_zero Go.wp_at_succ

theorem cmpR_lt (x y : Rat) : decide (cmpR x y < 0) = decide (x < y) := by
  unfold cmpR
  by_cases h : x < y
  · rw [if_pos h, decide_eq_true h]; rfl
  · rw [if_neg h, decide_eq_false h]
    split <;> rfl
theorem cmpR_le (x y : Rat) : decide (cmpR x y ≤ 0) = decide (x ≤ y) := by
  unfold cmpR
  by_cases h : x < y
  · rw [if_pos h, decide_eq_true (Rat.le_of_lt h)]; rfl
  · rw [if_neg h]
    by_cases h2 : y < x
    · rw [if_pos h2, decide_eq_false (Rat.not_le.2 h2)]; rfl
    · rw [if_neg h2, decide_eq_true (Rat.not_lt.1 h2)]; rfl
set_option maxHeartbeats 1000000 in
set_option maxRecDepth 100000 in
theorem iless_q (x y : Rat) (m n : Nat) (w : World) (hW : Wd w) (hx : Bd x m) (hy : Bd y n) (hk : m + n + 1 ≤ KK) :
    Calls Tryz.prog 65 #[rtx x, rtx y] w fun e w' => e = .returned (.bool (decide (x < y))) ∧ Ext w w' := by
  have h := rCompare_q x y m n w hW hx hy hk
  rw [← cmpR_lt]
  generalize cmpR x y = z at h ⊢
  go_enter Tryz.func65, Tryz.ntmps65
  go_wp2_with fail
  refine h.mono ?_
  rintro e w1 ⟨rfl, hE⟩
  clear h
  go_wp2_with fail
  go_ret
  exact ⟨rfl, hE⟩
set_option maxHeartbeats 1000000 in
set_option maxRecDepth 100000 in
theorem iValid_q (x y : Rat) (m n : Nat) (w : World) (hW : Wd w) (hx : Bd x m) (hy : Bd y n) (hk : m + n + 1 ≤ KK) :
    Calls Tryz.prog 34 #[.agg #[rtx x, rtx y]] w fun e w' => e = .returned (.bool (decide (x ≤ y))) ∧ Ext w w' := by
  have h := fun W (hE : Ext w W) => rCompare_q x y m n W (hW.ext hE) hx hy hk
  rw [← cmpR_le]
  generalize cmpR x y = z at h ⊢
  have E := (Ext.rfl' w).al (.cells #[rtx x, rtx y] 26)
  go_enter Tryz.func34, Tryz.ntmps34
  go_wp2_with fail
  generalize w.alloc (.cells #[rtx x, rtx y] 26) = W0 at *
  refine (h _ E).mono ?_
  rintro e w1 ⟨rfl, hE⟩
  clear h
  go_wp2_with fail
  go_ret
  exact ⟨rfl, E.tr hE⟩
set_option maxHeartbeats 1000000 in
set_option maxRecDepth 100000 in
theorem iValid_no (s t : ByteArray) (w : World) (hW : Wd w) (hs : s.size ≤ 1000000) (ht : t.size ≤ 1000000) (hb : (ratB s.data.toList && ratB t.data.toList) = false) :
    Calls Tryz.prog 34 #[.agg #[.string s, .string t]] w fun e w' => e = .returned (.bool false) ∧ Ext w w' := by
  have h := fun W (hE : Ext w W) => rCompare_bad s t W (hW.ext hE) hs ht hb
  clear hb
  have E := (Ext.rfl' w).al (.cells #[.string s, .string t] 26)
  go_enter Tryz.func34, Tryz.ntmps34
  go_wp2_with fail
  generalize w.alloc (.cells #[.string s, .string t] 26) = W0 at *
  refine (h _ E).mono ?_
  rintro e w1 ⟨rfl, hE⟩
  clear h
  go_wp2_with fail
  go_ret
  exact ⟨rfl, E.tr hE⟩
theorem Bx.put {w : World} {b : Nat} {cs : Array Value} {T : TypeId} (h : Bx w b cs T) (j : Nat) (u : Value) : Bx (w.setCell ⟨b, j, none⟩ u) b (cs.setIfInBounds j u) T := by
  unfold Bx at h ⊢
  obtain ⟨hlt, hk⟩ := Array.getElem?_eq_some_iff.1 h
  show (w.heap.modify b _)[b]? = _
  rw [Array.getElem?_eq_getElem (by rw [Array.size_modify]; exact hlt), Array.getElem_modify_self, hk]
  rfl
theorem Bx.put0 {w : World} {b : Nat} {x y : Value} {T : TypeId} (h : Bx w b #[x, y] T) (u : Value) : Bx (w.setCell ⟨b, 0, none⟩ u) b #[u, y] T := h.put 0 u
theorem Bx.put1 {w : World} {b : Nat} {x y : Value} {T : TypeId} (h : Bx w b #[x, y] T) (u : Value) : Bx (w.setCell ⟨b, 1, none⟩ u) b #[x, u] T := h.put 1 u
/-- From the least to the greatest of some numbers, begun with one. -/
def endR (s : Rat × Rat) (a : Rat) : Rat × Rat := (if a < s.1 then a else s.1, if s.2 < a then a else s.2)
def endsR : Pl → Rat × Rat
  | [] => (0, 0)
  | x :: l => l.foldl endR (x, x)
theorem endR_bd {s : Rat × Rat} {a : Rat} {n : Nat} (h1 : Bd s.1 n) (h2 : Bd s.2 n) (ha : Bd a n) : Bd (endR s a).1 n ∧ Bd (endR s a).2 n := by
  unfold endR
  constructor
  · show Bd (if _ then _ else _) n; split <;> assumption
  · show Bd (if _ then _ else _) n; split <;> assumption
theorem take_fold (l : Pl) (s : Rat × Rat) (k : Nat) (hk : k < l.length) : (l.take (k + 1)).foldl endR s = endR ((l.take k).foldl endR s) (cf l k) := by
  rw [List.take_succ_eq_append_getElem hk, List.foldl_append, cf_lt hk]; rfl
set_option maxHeartbeats 4000000 in
set_option maxRecDepth 100000 in
theorem ends_q (b : Nat) (c : Nat) (x : Rat) (l : Pl) (ln n : Nat) (w : World) (HL : Hid (l.length = ln)) (hl0 : 0 < ln) (hl : ln ≤ 100000) (hc : ln + 1 ≤ c) (hc2 : c ≤ 1000000) (hW : Wd w) (hS : PS w (.slice (some ⟨b, 0, none⟩) (ln + 1) c) (x :: l)) (hp : PB (x :: l) n) (hk : 2 * n + 1 ≤ KK) :
    Calls Tryz.prog 78 #[.slice (some ⟨b, 0, none⟩) (ln + 1) c] w fun e w' => e = .returned (.agg #[rtx (endsR (x :: l)).1, rtx (endsR (x :: l)).2]) ∧ Ext w w' := by
  have HS := Lib.hid hS
  have HP := Lib.hid hp
  have HW := Lib.hid hW
  have hx0 : w.cell? ⟨b, 0, none⟩ = some (rtx x) := by
    obtain ⟨-, -, -, hcl⟩ := hS.cell
    obtain ⟨b', f', hb, _, h⟩ := hcl 0 (by simp)
    cases hb
    simpa using h
  have X1 := Bx.new w #[.string ⟨#[]⟩, .string ⟨#[]⟩] 26
  have E1 := (Ext.rfl' w).al (.cells #[.string ⟨#[]⟩, .string ⟨#[]⟩] 26)
  have hx1 := E1.cell hx0
  clear hS hp hW hx0
  go_enter Tryz.func78, Tryz.ntmps78
  go_wp2_with fail
  generalize w.alloc (.cells #[.string ⟨#[]⟩, .string ⟨#[]⟩] 26) = W0 at *
  have c1 : ¬ (c = 1) := by omega
  have c2 : (1 : Int) ≤ (c : Int) := by omega
  have c3 : (1 : Int) ≤ (ln : Int) + 1 := by omega
  have c4 : (0 : Int) < (ln : Int) + 1 := by omega
  have c5 : (0 : Int) ≤ (ln : Int) + 1 := by omega
  have c6 : 0 < ln + 1 := by omega
  have c7 : (0 : Int) < ((ln + 1 : Nat) : Int) := by omega
  go_region_held3 (fun w' => w'.cell? ⟨b, 0, none⟩ = some (rtx x)) (((try dsimp only); (repeat' apply And.intro) <;> (first | assumption | ((go_keep); done)))) (fail)
  all_goals
    have X2 := (X1.al (.cells #[rtx x, rtx x] 26))
    have X3 := Bx.new W0 #[rtx x, rtx x] 26
    have hz := X1.lt
    have E2 := E1.al (.cells #[rtx x, rtx x] 26)
    generalize W0.alloc (.cells #[rtx x, rtx x] 26) = W1 at *
    generalize hg : W0.heap.size = g at *
    go_wp2_with fail
    have HX2 := Lib.hid (show Bx W1.drew w.heap.size #[.string ⟨#[]⟩, .string ⟨#[]⟩] 26 from X2)
    have HX3 := Lib.hid (show Bx W1.drew g #[rtx x, rtx x] 26 from X3)
    have HE2 := Lib.hid (show Ext w W1.drew from E2.dr)
    clear X1 X2 X3 E1 E2 hx1 hg c1 c2 c3 c4 c5 c6 c7
    generalize W1.drew = W2 at *
    go_loopw [16] (fun v wr => ∃ k : Nat, k ≤ ln ∧ v = .int .i64 k ∧ Hid (Bx wr w.heap.size #[.string ⟨#[]⟩, .string ⟨#[]⟩] 26) ∧ Hid (Bx wr g #[rtx ((l.take k).foldl endR (x, x)).1, rtx ((l.take k).foldl endR (x, x)).2] 26) ∧ Hid (Ext w wr) ∧ Hid (Bd ((l.take k).foldl endR (x, x)).1 n ∧ Bd ((l.take k).foldl endR (x, x)).2 n)) (fun v _ => ln - (intOf v).toNat)
    case atStart => exact ⟨0, Nat.zero_le _, rfl, HX2, HX3, HE2, HP.out x (by simp), HP.out x (by simp)⟩
    case round =>
      clear HX2 HX3 HE2
      obtain ⟨k, hk1, rfl, HY, HX, HE, HB⟩ := hrel
      by_cases hlt : k < ln
      · obtain ⟨-, -, -, hcl⟩ := HS.out.cell
        obtain ⟨b', f', hb', _, hca⟩ := hcl (k + 1) (by have := HL.out; simp; omega)
        obtain ⟨rfl, rfl⟩ : b = b' ∧ 0 = f' := by simp at hb'; exact hb'
        have hca : w.cell? ⟨b, 1 + k, none⟩ = some (rtx (cf l k)) := by
          have e : cf (x :: l) (k + 1) = cf l k := rfl
          rw [Nat.zero_add, Nat.add_comm k 1] at hca
          rw [hca, Nat.add_comm 1 k, e]
        replace hca := HE.out.cell hca
        clear hcl hb'
        have HST := Lib.hid (take_fold l (x, x) k (by rw [HL.out]; exact hlt))
        have hba : Bd (cf l k) n := HP.out.cf (k + 1)
        have HBn := Lib.hid (endR_bd HB.out.1 HB.out.2 hba)
        have hblo := HB.out.1
        have hbhi := HB.out.2
        rw [← HST.out] at HBn
        clear HB
        generalize cf l k = a at *
        generalize (l.take k).foldl endR (x, x) = s at *
        obtain ⟨lo, hi⟩ := s
        dsimp only at *
        have c0 := HX.out.c0
        have c1 := HX.out.c1
        by_cases ha : a < lo
        · by_cases hh : hi < a
          · have hl1 := fun W (hw : Wd W) => iless_q a lo n n W hw hba hblo (by omega)
            have hl2 := fun W (hw : Wd W) => iless_q hi a n n W hw hbhi hba (by omega)
            rw [decide_eq_true ha] at hl1
            rw [decide_eq_true hh] at hl2
            have H1 := Lib.hid hl1
            have H2 := Lib.hid hl2
            clear hl1 hl2
            go_wp2_with fail
            refine (H1.out _ (HW.out.ext HE.out)).mono ?_
            rintro e w3 ⟨rfl, hE3⟩
            have HE3 := Lib.hid (HE.out.tr hE3)
            have HY3 := Lib.hid (HY.out.ext hE3)
            have HX3 := Lib.hid (HX.out.ext hE3)
            clear hE3
            have d0 := HX3.out.c0
            have d1 := HX3.out.c1
            have e0 := HX3.out.f 0
            have e1 := HX3.out.f 1
            have HX4 := Lib.hid (HX3.out.put0 (rtx a))
            have HY4 := Lib.hid (HY3.out.set (p := ⟨g, 0, none⟩) (by show w.heap.size ≠ g; omega) (rtx a))
            have HE4 := Lib.hid (show Ext w (w3.setCell ⟨g, 0, none⟩ (rtx a)) from HE3.out.setCell (p := ⟨g, 0, none⟩) (by show w.heap.size ≤ g; omega) (rtx a))
            have k0 := HX4.out.c0
            have k1 := HX4.out.c1
            go_wp2_with fail
            refine (H2.out _ (HW.out.ext HE4.out)).mono ?_
            rintro e w5 ⟨rfl, hE5⟩
            have HE5 := Lib.hid (HE4.out.tr hE5)
            have HY5 := Lib.hid (HY4.out.ext hE5)
            have HX5 := Lib.hid (HX4.out.ext hE5)
            clear hE5
            have m0 := HX5.out.c0
            have m1 := HX5.out.c1
            have q0 := HX5.out.f 0
            have q1 := HX5.out.f 1
            go_wp2_with fail
            go_roundw
            case rel => exact ⟨k + 1, by omega, by go_num, HY5.out.set (p := ⟨g, 1, none⟩) (by show w.heap.size ≠ g; omega) (rtx a), by rw [HST.out]; rw [show endR (lo, hi) a = (a, a) from by unfold endR; simp [ha, hh]]; exact HX5.out.put1 (rtx a), HE5.out.setCell (p := ⟨g, 1, none⟩) (by show w.heap.size ≤ g; omega) (rtx a), HBn⟩
            case measure => simp [intOf]; omega
          · have hskip : True := trivial
            have hl1 := fun W (hw : Wd W) => iless_q a lo n n W hw hba hblo (by omega)
            have hl2 := fun W (hw : Wd W) => iless_q hi a n n W hw hbhi hba (by omega)
            rw [decide_eq_true ha] at hl1
            rw [decide_eq_false hh] at hl2
            have H1 := Lib.hid hl1
            have H2 := Lib.hid hl2
            clear hl1 hl2
            go_wp2_with fail
            refine (H1.out _ (HW.out.ext HE.out)).mono ?_
            rintro e w3 ⟨rfl, hE3⟩
            have HE3 := Lib.hid (HE.out.tr hE3)
            have HY3 := Lib.hid (HY.out.ext hE3)
            have HX3 := Lib.hid (HX.out.ext hE3)
            clear hE3
            have d0 := HX3.out.c0
            have d1 := HX3.out.c1
            have e0 := HX3.out.f 0
            have e1 := HX3.out.f 1
            have HX4 := Lib.hid (HX3.out.put0 (rtx a))
            have HY4 := Lib.hid (HY3.out.set (p := ⟨g, 0, none⟩) (by show w.heap.size ≠ g; omega) (rtx a))
            have HE4 := Lib.hid (show Ext w (w3.setCell ⟨g, 0, none⟩ (rtx a)) from HE3.out.setCell (p := ⟨g, 0, none⟩) (by show w.heap.size ≤ g; omega) (rtx a))
            have k0 := HX4.out.c0
            have k1 := HX4.out.c1
            go_wp2_with fail
            refine (H2.out _ (HW.out.ext HE4.out)).mono ?_
            rintro e w5 ⟨rfl, hE5⟩
            have HE5 := Lib.hid (HE4.out.tr hE5)
            have HY5 := Lib.hid (HY4.out.ext hE5)
            have HX5 := Lib.hid (HX4.out.ext hE5)
            clear hE5
            have m0 := HX5.out.c0
            have m1 := HX5.out.c1
            have q0 := HX5.out.f 0
            have q1 := HX5.out.f 1
            go_wp2_with fail
            go_roundw
            case rel => exact ⟨k + 1, by omega, by go_num, HY5, by rw [HST.out]; rw [show endR (lo, hi) a = (a, hi) from by unfold endR; simp [ha, hh]]; exact HX5.out, HE5, HBn⟩
            case measure => simp [intOf]; omega
        · by_cases hh : hi < a
          · have hl1 := fun W (hw : Wd W) => iless_q a lo n n W hw hba hblo (by omega)
            have hl2 := fun W (hw : Wd W) => iless_q hi a n n W hw hbhi hba (by omega)
            rw [decide_eq_false ha] at hl1
            rw [decide_eq_true hh] at hl2
            have H1 := Lib.hid hl1
            have H2 := Lib.hid hl2
            clear hl1 hl2
            go_wp2_with fail
            refine (H1.out _ (HW.out.ext HE.out)).mono ?_
            rintro e w3 ⟨rfl, hE3⟩
            have HE3 := Lib.hid (HE.out.tr hE3)
            have HY3 := Lib.hid (HY.out.ext hE3)
            have HX3 := Lib.hid (HX.out.ext hE3)
            clear hE3
            have d0 := HX3.out.c0
            have d1 := HX3.out.c1
            have e0 := HX3.out.f 0
            have e1 := HX3.out.f 1
            have HX4 := Lib.hid HX3.out
            have HY4 := Lib.hid HY3.out
            have HE4 := Lib.hid HE3.out
            go_wp2_with fail
            refine (H2.out _ (HW.out.ext HE4.out)).mono ?_
            rintro e w5 ⟨rfl, hE5⟩
            have HE5 := Lib.hid (HE4.out.tr hE5)
            have HY5 := Lib.hid (HY4.out.ext hE5)
            have HX5 := Lib.hid (HX4.out.ext hE5)
            clear hE5
            have m0 := HX5.out.c0
            have m1 := HX5.out.c1
            have q0 := HX5.out.f 0
            have q1 := HX5.out.f 1
            go_wp2_with fail
            go_roundw
            case rel => exact ⟨k + 1, by omega, by go_num, HY5.out.set (p := ⟨g, 1, none⟩) (by show w.heap.size ≠ g; omega) (rtx a), by rw [HST.out]; rw [show endR (lo, hi) a = (lo, a) from by unfold endR; simp [ha, hh]]; exact HX5.out.put1 (rtx a), HE5.out.setCell (p := ⟨g, 1, none⟩) (by show w.heap.size ≤ g; omega) (rtx a), HBn⟩
            case measure => simp [intOf]; omega
          · have hskip : True := trivial
            have hl1 := fun W (hw : Wd W) => iless_q a lo n n W hw hba hblo (by omega)
            have hl2 := fun W (hw : Wd W) => iless_q hi a n n W hw hbhi hba (by omega)
            rw [decide_eq_false ha] at hl1
            rw [decide_eq_false hh] at hl2
            have H1 := Lib.hid hl1
            have H2 := Lib.hid hl2
            clear hl1 hl2
            go_wp2_with fail
            refine (H1.out _ (HW.out.ext HE.out)).mono ?_
            rintro e w3 ⟨rfl, hE3⟩
            have HE3 := Lib.hid (HE.out.tr hE3)
            have HY3 := Lib.hid (HY.out.ext hE3)
            have HX3 := Lib.hid (HX.out.ext hE3)
            clear hE3
            have d0 := HX3.out.c0
            have d1 := HX3.out.c1
            have e0 := HX3.out.f 0
            have e1 := HX3.out.f 1
            have HX4 := Lib.hid HX3.out
            have HY4 := Lib.hid HY3.out
            have HE4 := Lib.hid HE3.out
            go_wp2_with fail
            refine (H2.out _ (HW.out.ext HE4.out)).mono ?_
            rintro e w5 ⟨rfl, hE5⟩
            have HE5 := Lib.hid (HE4.out.tr hE5)
            have HY5 := Lib.hid (HY4.out.ext hE5)
            have HX5 := Lib.hid (HX4.out.ext hE5)
            clear hE5
            have m0 := HX5.out.c0
            have m1 := HX5.out.c1
            have q0 := HX5.out.f 0
            have q1 := HX5.out.f 1
            go_wp2_with fail
            go_roundw
            case rel => exact ⟨k + 1, by omega, by go_num, HY5, by rw [HST.out]; rw [show endR (lo, hi) a = (lo, hi) from by unfold endR; simp [ha, hh]]; exact HX5.out, HE5, HBn⟩
            case measure => simp [intOf]; omega
      · have hke : k = ln := by omega
        have hx2 : Hid ((l.take k).foldl endR (x, x) = endsR (x :: l)) := by
          unfold Hid endsR
          rw [hke, ← HL.out, List.take_length]
        rw [hx2.out] at HX
        clear hke hx2 HB
        generalize hsd : endsR (x :: l) = s at *
        have HSS := Lib.hid hsd
        clear hsd
        have c0 := HX.out.c0
        have c1 := HX.out.c1
        have d0 := HY.out.c0
        have d1 := HY.out.c1
        have e0 := HY.out.f 0
        have e1 := HY.out.f 1
        go_wp2_with fail
        obtain ⟨m0, m1⟩ := set2 HY.out (rtx s.1) (rtx s.2)
        refine bodyPost_ret (v := .agg #[rtx s.1, rtx s.2]) ?_ rfl ⟨by rw [HSS.out], ext_set2 (b := w.heap.size) HE.out (Nat.le_refl _) _ _⟩
        simp [results, Tryz.f78, go_sem, m0, m1]
end Go.Proofs.YtadimepmoljnpaaGreatDoor.GB

namespace Go.Proofs.YtadimepmoljnpaaGreatDoor.GB
set_option linter.unusedVariables false
set_option linter.unusedSimpArgs false
open Go.RowKit Go.Shelf
attribute [local go_sem ↓] Go.wp_at_zero Go.wp_at_succ

theorem ps_of4 {w : World} {b : Nat} {T : TypeId} {x y z t : Rat} (h : Bx w b #[rtx x, rtx y, rtx z, rtx t] T) : PS w (.slice (some ⟨b, 0, none⟩) (3 + 1) 4) [x, y, z, t] := by
  refine ⟨some ⟨b, 0, none⟩, 4, rfl, by simp, by decide, fun j hj => ⟨b, 0, rfl, h.lt, ?_⟩⟩
  rw [Nat.zero_add, h.c j]
  have hj' : j < 4 := by simpa using hj
  rcases (by omega : j = 0 ∨ j = 1 ∨ j = 2 ∨ j = 3) with rfl | rfl | rfl | rfl <;> rfl
theorem idx0 (s t : ByteArray) (w : World) : (Instr.index 209 (.agg #[.string s, .string t]) (.int .i64 0)).run Tryz.prog w = .ok (.string s) w := by
  simp [Instr.index, Tryz.underlying209, Tryz.sizeOf24, Tryz.isAgg24, go_sem]
theorem idx1 (s t : ByteArray) (w : World) : (Instr.index 209 (.agg #[.string s, .string t]) (.int .i64 1)).run Tryz.prog w = .ok (.string t) w := by
  simp [Instr.index, Tryz.underlying209, Tryz.sizeOf24, Tryz.isAgg24, go_sem]
/-- Four results so far. -/
def C4 (w : World) (g : Nat) (r0 r1 r2 r3 : Rat) (k : Nat) : Prop := Bx w g (match k with
  | 0 => #[.string ⟨#[]⟩, .string ⟨#[]⟩, .string ⟨#[]⟩, .string ⟨#[]⟩]
  | 1 => #[rtx r0, .string ⟨#[]⟩, .string ⟨#[]⟩, .string ⟨#[]⟩]
  | 2 => #[rtx r0, rtx r1, .string ⟨#[]⟩, .string ⟨#[]⟩]
  | 3 => #[rtx r0, rtx r1, rtx r2, .string ⟨#[]⟩]
  | _ => #[rtx r0, rtx r1, rtx r2, rtx r3]) 208
set_option maxHeartbeats 8000000 in
set_option maxRecDepth 100000 in
theorem corn_add (a1 a2 b1 b2 r0 r1 r2 r3 s1 s2 : Rat) (w : World)
    (h1 : ∀ W, Ext w W → Calls Tryz.prog 34 #[.agg #[rtx a1, rtx a2]] W fun e w' => e = .returned (.bool true) ∧ Ext W w')
    (h2 : ∀ W, Ext w W → Calls Tryz.prog 34 #[.agg #[rtx b1, rtx b2]] W fun e w' => e = .returned (.bool true) ∧ Ext W w')
    (o0 : ∀ W, Ext w W → Calls Tryz.prog 38 #[rtx a1, rtx b1] W fun e w' => e = .returned (.tuple #[rtx r0, .int .i64 0]) ∧ Ext W w') (o1 : ∀ W, Ext w W → Calls Tryz.prog 38 #[rtx a1, rtx b2] W fun e w' => e = .returned (.tuple #[rtx r1, .int .i64 0]) ∧ Ext W w') (o2 : ∀ W, Ext w W → Calls Tryz.prog 38 #[rtx a2, rtx b1] W fun e w' => e = .returned (.tuple #[rtx r2, .int .i64 0]) ∧ Ext W w') (o3 : ∀ W, Ext w W → Calls Tryz.prog 38 #[rtx a2, rtx b2] W fun e w' => e = .returned (.tuple #[rtx r3, .int .i64 0]) ∧ Ext W w')
    (h3 : ∀ W b, Ext w W → PS W (.slice (some ⟨b, 0, none⟩) (3 + 1) 4) [r0, r1, r2, r3] → Calls Tryz.prog 78 #[.slice (some ⟨b, 0, none⟩) 4 4] W fun e w' => e = .returned (.agg #[rtx s1, rtx s2]) ∧ Ext W w') :
    Calls Tryz.prog 148 #[.func (.func 38) #[] #[], .agg #[rtx a1, rtx a2], .agg #[rtx b1, rtx b2]] w fun e w' => e = .returned (.tuple #[.agg #[rtx s1, rtx s2], .int .i64 0]) ∧ Ext w w' := by
  have ix0 := idx0
  have ix1 := idx1
  obtain ⟨X1, X2, X3, E⟩ := boxes3 w #[rtx a1, rtx a2] #[rtx b1, rtx b2] #[.string ⟨#[]⟩, .string ⟨#[]⟩] 26
  go_enter Tryz.func148, Tryz.ntmps148
  go_wp2_with fail
  generalize ((w.alloc (.cells #[rtx a1, rtx a2] 26)).alloc (.cells #[rtx b1, rtx b2] 26)).alloc (.cells #[.string ⟨#[]⟩, .string ⟨#[]⟩] 26) = W0 at *
  refine (h1 _ E).mono ?_
  rintro e w1 ⟨rfl, hE⟩
  replace X1 := X1.ext hE
  replace X2 := X2.ext hE
  replace X3 := X3.ext hE
  replace E := E.tr hE
  clear hE h1
  obtain ⟨c20, c21, -, -⟩ := X2.e2
  go_wp2_with fail
  refine (h2 _ E).mono ?_
  rintro e w2 ⟨rfl, hE⟩
  replace X1 := X1.ext hE
  replace X2 := X2.ext hE
  replace X3 := X3.ext hE
  replace E := E.tr hE
  clear hE h2 c20 c21
  have XA := Bx.new w2 #[.string ⟨#[]⟩, .string ⟨#[]⟩, .string ⟨#[]⟩, .string ⟨#[]⟩] 208
  have hgw0 := X3.lt
  replace X1 := X1.al (.cells #[.string ⟨#[]⟩, .string ⟨#[]⟩, .string ⟨#[]⟩, .string ⟨#[]⟩] 208)
  replace X2 := X2.al (.cells #[.string ⟨#[]⟩, .string ⟨#[]⟩, .string ⟨#[]⟩, .string ⟨#[]⟩] 208)
  replace X3 := X3.al (.cells #[.string ⟨#[]⟩, .string ⟨#[]⟩, .string ⟨#[]⟩, .string ⟨#[]⟩] 208)
  replace E := E.al (.cells #[.string ⟨#[]⟩, .string ⟨#[]⟩, .string ⟨#[]⟩, .string ⟨#[]⟩] 208)
  have c10 := X1.c0
  have c11 := X1.c1
  go_wp2_with fail
  generalize w2.alloc (.cells #[.string ⟨#[]⟩, .string ⟨#[]⟩, .string ⟨#[]⟩, .string ⟨#[]⟩] 208) = W1 at *
  generalize w2.heap.size = g at *
  have hgw : w.heap.size ≤ g := by omega
  have HX1 := Lib.hid X1
  have HX2 := Lib.hid X2
  have HX3 := Lib.hid X3
  have HE := Lib.hid E
  have HA : Hid (C4 W1 g r0 r1 r2 r3 0) := XA
  clear X1 X2 X3 E XA c10 c11
  go_loopw [27] (fun v wr => ∃ z : Int, v = .int .i64 z ∧ Hid ((z = 0 ∧ C4 wr g r0 r1 r2 r3 0) ∨ (z = 1 ∧ C4 wr g r0 r1 r2 r3 2) ∨ (z = 2 ∧ C4 wr g r0 r1 r2 r3 4)) ∧ Hid (Bx wr w.heap.size #[rtx a1, rtx a2] 26) ∧ Hid (Bx wr (w.heap.size + 1) #[rtx b1, rtx b2] 26) ∧ Hid (Bx wr (w.heap.size + 1 + 1) #[.string ⟨#[]⟩, .string ⟨#[]⟩] 26) ∧ Hid (Ext w wr)) (fun v _ => (2 - intOf v).toNat)
  case atStart => exact ⟨0, rfl, .inl ⟨rfl, HA.out⟩, HX1, HX2, HX3, HE⟩
  case round =>
    clear HA HX1 HX2 HX3 HE
    obtain ⟨z, rfl, HS, HX1, HX2, HX3, HE⟩ := hrel
    rcases HS.out with ⟨rfl, hA⟩ | ⟨rfl, hA⟩ | ⟨rfl, hA⟩
    · have HA := Lib.hid hA
      clear hA HS
      obtain ⟨wz, hwz⟩ : ∃ wz : World, wz = wr := ⟨_, rfl⟩
      subst hwz
      all_goals
        have c20 := HX2.out.c0
        have c21 := HX2.out.c1
        go_wp2_with fail
        go_loopw [36] (fun v wr => ∃ z : Int, v = .int .i64 z ∧ Hid ((z = 0 ∧ C4 wr g r0 r1 r2 r3 0) ∨ (z = 1 ∧ C4 wr g r0 r1 r2 r3 1) ∨ (z = 2 ∧ C4 wr g r0 r1 r2 r3 2)) ∧ Hid (Bx wr w.heap.size #[rtx a1, rtx a2] 26) ∧ Hid (Bx wr (w.heap.size + 1) #[rtx b1, rtx b2] 26) ∧ Hid (Bx wr (w.heap.size + 1 + 1) #[.string ⟨#[]⟩, .string ⟨#[]⟩] 26) ∧ Hid (Ext w wr)) (fun v _ => (2 - intOf v).toNat)
        case atStart => exact ⟨0, rfl, .inl ⟨rfl, HA.out⟩, HX1, HX2, HX3, HE⟩
        case round =>
          clear HA HX1 HX2 HX3 HE c20 c21
          obtain ⟨z, rfl, HS, HX1, HX2, HX3, HE⟩ := hrel
          rcases HS.out with ⟨rfl, hA⟩ | ⟨rfl, hA⟩ | ⟨rfl, hA⟩
          · have HA := Lib.hid hA
            clear hA HS
            have k40 : wr.cell? ⟨g, 0, none⟩ = some (.string ⟨#[]⟩) := (show Bx wr g _ 208 from HA.out).c 0
            have k4f := (show Bx wr g _ 208 from HA.out).f 0
            have hi1 : ((0 : Nat) : Int) = 0 := rfl
            go_wp2_with fail
            refine (o0 _ HE.out).mono ?_
            rintro e w3 ⟨rfl, hE⟩
            have HE3 := Lib.hid (HE.out.tr hE)
            have HA3 := Lib.hid (Bx.ext (show Bx wr g _ 208 from HA.out) hE)
            have HX13 := Lib.hid (HX1.out.ext hE)
            have HX23 := Lib.hid (HX2.out.ext hE)
            have HX33 := Lib.hid (HX3.out.ext hE)
            have k50 : w3.cell? ⟨g, 0, none⟩ = some (.string ⟨#[]⟩) := HA3.out.c 0
            have k5f := HA3.out.f 0
            clear hE k40 k4f
            go_wp2_with fail
            have HA4 : Hid (C4 (w3.setCell ⟨g, 0, none⟩ (rtx r0)) g r0 r1 r2 r3 1) := HA3.out.put 0 (rtx r0)
            have HE4 : Hid (Ext w (w3.setCell ⟨g, 0, none⟩ (rtx r0))) := HE3.out.setCell (p := ⟨g, 0, none⟩) hgw (rtx r0)
            have HX14 := Lib.hid (HX13.out.set (p := ⟨g, 0, none⟩) (by show w.heap.size ≠ g; omega) (rtx r0))
            have HX24 := Lib.hid (HX23.out.set (p := ⟨g, 0, none⟩) (by show w.heap.size + 1 ≠ g; omega) (rtx r0))
            have HX34 := Lib.hid (HX33.out.set (p := ⟨g, 0, none⟩) (by show w.heap.size + 1 + 1 ≠ g; omega) (rtx r0))
            go_roundw
            case rel => exact ⟨1, by rfl, .inr (.inl ⟨rfl, HA4.out⟩), HX14, HX24, HX34, HE4⟩
            case measure => simp [intOf]
          · have HA := Lib.hid hA
            clear hA HS
            have k40 : wr.cell? ⟨g, 1, none⟩ = some (.string ⟨#[]⟩) := (show Bx wr g _ 208 from HA.out).c 1
            have k4f := (show Bx wr g _ 208 from HA.out).f 1
            have hi1 : ((0 : Nat) : Int) = 0 := rfl
            go_wp2_with fail
            refine (o1 _ HE.out).mono ?_
            rintro e w3 ⟨rfl, hE⟩
            have HE3 := Lib.hid (HE.out.tr hE)
            have HA3 := Lib.hid (Bx.ext (show Bx wr g _ 208 from HA.out) hE)
            have HX13 := Lib.hid (HX1.out.ext hE)
            have HX23 := Lib.hid (HX2.out.ext hE)
            have HX33 := Lib.hid (HX3.out.ext hE)
            have k50 : w3.cell? ⟨g, 1, none⟩ = some (.string ⟨#[]⟩) := HA3.out.c 1
            have k5f := HA3.out.f 1
            clear hE k40 k4f
            go_wp2_with fail
            have HA4 : Hid (C4 (w3.setCell ⟨g, 1, none⟩ (rtx r1)) g r0 r1 r2 r3 2) := HA3.out.put 1 (rtx r1)
            have HE4 : Hid (Ext w (w3.setCell ⟨g, 1, none⟩ (rtx r1))) := HE3.out.setCell (p := ⟨g, 1, none⟩) hgw (rtx r1)
            have HX14 := Lib.hid (HX13.out.set (p := ⟨g, 1, none⟩) (by show w.heap.size ≠ g; omega) (rtx r1))
            have HX24 := Lib.hid (HX23.out.set (p := ⟨g, 1, none⟩) (by show w.heap.size + 1 ≠ g; omega) (rtx r1))
            have HX34 := Lib.hid (HX33.out.set (p := ⟨g, 1, none⟩) (by show w.heap.size + 1 + 1 ≠ g; omega) (rtx r1))
            go_roundw
            case rel => exact ⟨2, by rfl, .inr (.inr ⟨rfl, HA4.out⟩), HX14, HX24, HX34, HE4⟩
            case measure => simp [intOf]
          · have HA := Lib.hid hA
            clear hA HS
            go_wp2_with fail
            go_roundw
            case rel => exact ⟨1, by rfl, .inr (.inl ⟨rfl, HA.out⟩), HX1, HX2, HX3, HE⟩
            case measure => simp [intOf]
    · have HA := Lib.hid hA
      clear hA HS
      obtain ⟨wz, hwz⟩ : ∃ wz : World, wz = wr := ⟨_, rfl⟩
      subst hwz
      all_goals
        have c20 := HX2.out.c0
        have c21 := HX2.out.c1
        go_wp2_with fail
        go_loopw [36] (fun v wr => ∃ z : Int, v = .int .i64 z ∧ Hid ((z = 0 ∧ C4 wr g r0 r1 r2 r3 2) ∨ (z = 1 ∧ C4 wr g r0 r1 r2 r3 3) ∨ (z = 2 ∧ C4 wr g r0 r1 r2 r3 4)) ∧ Hid (Bx wr w.heap.size #[rtx a1, rtx a2] 26) ∧ Hid (Bx wr (w.heap.size + 1) #[rtx b1, rtx b2] 26) ∧ Hid (Bx wr (w.heap.size + 1 + 1) #[.string ⟨#[]⟩, .string ⟨#[]⟩] 26) ∧ Hid (Ext w wr)) (fun v _ => (2 - intOf v).toNat)
        case atStart => exact ⟨0, rfl, .inl ⟨rfl, HA.out⟩, HX1, HX2, HX3, HE⟩
        case round =>
          clear HA HX1 HX2 HX3 HE c20 c21
          obtain ⟨z, rfl, HS, HX1, HX2, HX3, HE⟩ := hrel
          rcases HS.out with ⟨rfl, hA⟩ | ⟨rfl, hA⟩ | ⟨rfl, hA⟩
          · have HA := Lib.hid hA
            clear hA HS
            have k40 : wr.cell? ⟨g, 2, none⟩ = some (.string ⟨#[]⟩) := (show Bx wr g _ 208 from HA.out).c 2
            have k4f := (show Bx wr g _ 208 from HA.out).f 2
            have hi1 : ((0 : Nat) : Int) = 0 := rfl
            go_wp2_with fail
            refine (o2 _ HE.out).mono ?_
            rintro e w3 ⟨rfl, hE⟩
            have HE3 := Lib.hid (HE.out.tr hE)
            have HA3 := Lib.hid (Bx.ext (show Bx wr g _ 208 from HA.out) hE)
            have HX13 := Lib.hid (HX1.out.ext hE)
            have HX23 := Lib.hid (HX2.out.ext hE)
            have HX33 := Lib.hid (HX3.out.ext hE)
            have k50 : w3.cell? ⟨g, 2, none⟩ = some (.string ⟨#[]⟩) := HA3.out.c 2
            have k5f := HA3.out.f 2
            clear hE k40 k4f
            go_wp2_with fail
            have HA4 : Hid (C4 (w3.setCell ⟨g, 2, none⟩ (rtx r2)) g r0 r1 r2 r3 3) := HA3.out.put 2 (rtx r2)
            have HE4 : Hid (Ext w (w3.setCell ⟨g, 2, none⟩ (rtx r2))) := HE3.out.setCell (p := ⟨g, 2, none⟩) hgw (rtx r2)
            have HX14 := Lib.hid (HX13.out.set (p := ⟨g, 2, none⟩) (by show w.heap.size ≠ g; omega) (rtx r2))
            have HX24 := Lib.hid (HX23.out.set (p := ⟨g, 2, none⟩) (by show w.heap.size + 1 ≠ g; omega) (rtx r2))
            have HX34 := Lib.hid (HX33.out.set (p := ⟨g, 2, none⟩) (by show w.heap.size + 1 + 1 ≠ g; omega) (rtx r2))
            go_roundw
            case rel => exact ⟨1, by rfl, .inr (.inl ⟨rfl, HA4.out⟩), HX14, HX24, HX34, HE4⟩
            case measure => simp [intOf]
          · have HA := Lib.hid hA
            clear hA HS
            have k40 : wr.cell? ⟨g, 3, none⟩ = some (.string ⟨#[]⟩) := (show Bx wr g _ 208 from HA.out).c 3
            have k4f := (show Bx wr g _ 208 from HA.out).f 3
            have hi1 : ((0 : Nat) : Int) = 0 := rfl
            go_wp2_with fail
            refine (o3 _ HE.out).mono ?_
            rintro e w3 ⟨rfl, hE⟩
            have HE3 := Lib.hid (HE.out.tr hE)
            have HA3 := Lib.hid (Bx.ext (show Bx wr g _ 208 from HA.out) hE)
            have HX13 := Lib.hid (HX1.out.ext hE)
            have HX23 := Lib.hid (HX2.out.ext hE)
            have HX33 := Lib.hid (HX3.out.ext hE)
            have k50 : w3.cell? ⟨g, 3, none⟩ = some (.string ⟨#[]⟩) := HA3.out.c 3
            have k5f := HA3.out.f 3
            clear hE k40 k4f
            go_wp2_with fail
            have HA4 : Hid (C4 (w3.setCell ⟨g, 3, none⟩ (rtx r3)) g r0 r1 r2 r3 4) := HA3.out.put 3 (rtx r3)
            have HE4 : Hid (Ext w (w3.setCell ⟨g, 3, none⟩ (rtx r3))) := HE3.out.setCell (p := ⟨g, 3, none⟩) hgw (rtx r3)
            have HX14 := Lib.hid (HX13.out.set (p := ⟨g, 3, none⟩) (by show w.heap.size ≠ g; omega) (rtx r3))
            have HX24 := Lib.hid (HX23.out.set (p := ⟨g, 3, none⟩) (by show w.heap.size + 1 ≠ g; omega) (rtx r3))
            have HX34 := Lib.hid (HX33.out.set (p := ⟨g, 3, none⟩) (by show w.heap.size + 1 + 1 ≠ g; omega) (rtx r3))
            go_roundw
            case rel => exact ⟨2, by rfl, .inr (.inr ⟨rfl, HA4.out⟩), HX14, HX24, HX34, HE4⟩
            case measure => simp [intOf]
          · have HA := Lib.hid hA
            clear hA HS
            go_wp2_with fail
            go_roundw
            case rel => exact ⟨2, by rfl, .inr (.inr ⟨rfl, HA.out⟩), HX1, HX2, HX3, HE⟩
            case measure => simp [intOf]
    · have HA := Lib.hid hA
      clear hA HS
      have h4 := fun W (hE : Ext w W) => h3 W g hE
      go_wp2_with fail
      refine (h4 _ HE.out (ps_of4 (show Bx wr g #[rtx r0, rtx r1, rtx r2, rtx r3] 208 from HA.out))).mono ?_
      rintro e w3 ⟨rfl, hE⟩
      have HE3 := Lib.hid (HE.out.tr hE)
      have HX33 := Lib.hid (HX3.out.ext hE)
      obtain ⟨d0, d1, e0, e1⟩ := HX33.out.e2
      clear hE
      go_wp2_with fail
      obtain ⟨m0, m1⟩ := set2 HX33.out (rtx s1) (rtx s2)
      refine bodyPost_ret (v := .tuple #[.agg #[rtx s1, rtx s2], .int .i64 0]) ?_ rfl ⟨rfl, ext_set2 (b := w.heap.size + 1 + 1) HE3.out (by omega) _ _⟩
      simp [results, Tryz.f148, go_sem, m0, m1]
set_option maxHeartbeats 8000000 in
set_option maxRecDepth 100000 in
theorem corn_mul (a1 a2 b1 b2 r0 r1 r2 r3 s1 s2 : Rat) (w : World)
    (h1 : ∀ W, Ext w W → Calls Tryz.prog 34 #[.agg #[rtx a1, rtx a2]] W fun e w' => e = .returned (.bool true) ∧ Ext W w')
    (h2 : ∀ W, Ext w W → Calls Tryz.prog 34 #[.agg #[rtx b1, rtx b2]] W fun e w' => e = .returned (.bool true) ∧ Ext W w')
    (o0 : ∀ W, Ext w W → Calls Tryz.prog 32 #[rtx a1, rtx b1] W fun e w' => e = .returned (.tuple #[rtx r0, .int .i64 0]) ∧ Ext W w') (o1 : ∀ W, Ext w W → Calls Tryz.prog 32 #[rtx a1, rtx b2] W fun e w' => e = .returned (.tuple #[rtx r1, .int .i64 0]) ∧ Ext W w') (o2 : ∀ W, Ext w W → Calls Tryz.prog 32 #[rtx a2, rtx b1] W fun e w' => e = .returned (.tuple #[rtx r2, .int .i64 0]) ∧ Ext W w') (o3 : ∀ W, Ext w W → Calls Tryz.prog 32 #[rtx a2, rtx b2] W fun e w' => e = .returned (.tuple #[rtx r3, .int .i64 0]) ∧ Ext W w')
    (h3 : ∀ W b, Ext w W → PS W (.slice (some ⟨b, 0, none⟩) (3 + 1) 4) [r0, r1, r2, r3] → Calls Tryz.prog 78 #[.slice (some ⟨b, 0, none⟩) 4 4] W fun e w' => e = .returned (.agg #[rtx s1, rtx s2]) ∧ Ext W w') :
    Calls Tryz.prog 148 #[.func (.func 32) #[] #[], .agg #[rtx a1, rtx a2], .agg #[rtx b1, rtx b2]] w fun e w' => e = .returned (.tuple #[.agg #[rtx s1, rtx s2], .int .i64 0]) ∧ Ext w w' := by
  have ix0 := idx0
  have ix1 := idx1
  obtain ⟨X1, X2, X3, E⟩ := boxes3 w #[rtx a1, rtx a2] #[rtx b1, rtx b2] #[.string ⟨#[]⟩, .string ⟨#[]⟩] 26
  go_enter Tryz.func148, Tryz.ntmps148
  go_wp2_with fail
  generalize ((w.alloc (.cells #[rtx a1, rtx a2] 26)).alloc (.cells #[rtx b1, rtx b2] 26)).alloc (.cells #[.string ⟨#[]⟩, .string ⟨#[]⟩] 26) = W0 at *
  refine (h1 _ E).mono ?_
  rintro e w1 ⟨rfl, hE⟩
  replace X1 := X1.ext hE
  replace X2 := X2.ext hE
  replace X3 := X3.ext hE
  replace E := E.tr hE
  clear hE h1
  obtain ⟨c20, c21, -, -⟩ := X2.e2
  go_wp2_with fail
  refine (h2 _ E).mono ?_
  rintro e w2 ⟨rfl, hE⟩
  replace X1 := X1.ext hE
  replace X2 := X2.ext hE
  replace X3 := X3.ext hE
  replace E := E.tr hE
  clear hE h2 c20 c21
  have XA := Bx.new w2 #[.string ⟨#[]⟩, .string ⟨#[]⟩, .string ⟨#[]⟩, .string ⟨#[]⟩] 208
  have hgw0 := X3.lt
  replace X1 := X1.al (.cells #[.string ⟨#[]⟩, .string ⟨#[]⟩, .string ⟨#[]⟩, .string ⟨#[]⟩] 208)
  replace X2 := X2.al (.cells #[.string ⟨#[]⟩, .string ⟨#[]⟩, .string ⟨#[]⟩, .string ⟨#[]⟩] 208)
  replace X3 := X3.al (.cells #[.string ⟨#[]⟩, .string ⟨#[]⟩, .string ⟨#[]⟩, .string ⟨#[]⟩] 208)
  replace E := E.al (.cells #[.string ⟨#[]⟩, .string ⟨#[]⟩, .string ⟨#[]⟩, .string ⟨#[]⟩] 208)
  have c10 := X1.c0
  have c11 := X1.c1
  go_wp2_with fail
  generalize w2.alloc (.cells #[.string ⟨#[]⟩, .string ⟨#[]⟩, .string ⟨#[]⟩, .string ⟨#[]⟩] 208) = W1 at *
  generalize w2.heap.size = g at *
  have hgw : w.heap.size ≤ g := by omega
  have HX1 := Lib.hid X1
  have HX2 := Lib.hid X2
  have HX3 := Lib.hid X3
  have HE := Lib.hid E
  have HA : Hid (C4 W1 g r0 r1 r2 r3 0) := XA
  clear X1 X2 X3 E XA c10 c11
  go_loopw [27] (fun v wr => ∃ z : Int, v = .int .i64 z ∧ Hid ((z = 0 ∧ C4 wr g r0 r1 r2 r3 0) ∨ (z = 1 ∧ C4 wr g r0 r1 r2 r3 2) ∨ (z = 2 ∧ C4 wr g r0 r1 r2 r3 4)) ∧ Hid (Bx wr w.heap.size #[rtx a1, rtx a2] 26) ∧ Hid (Bx wr (w.heap.size + 1) #[rtx b1, rtx b2] 26) ∧ Hid (Bx wr (w.heap.size + 1 + 1) #[.string ⟨#[]⟩, .string ⟨#[]⟩] 26) ∧ Hid (Ext w wr)) (fun v _ => (2 - intOf v).toNat)
  case atStart => exact ⟨0, rfl, .inl ⟨rfl, HA.out⟩, HX1, HX2, HX3, HE⟩
  case round =>
    clear HA HX1 HX2 HX3 HE
    obtain ⟨z, rfl, HS, HX1, HX2, HX3, HE⟩ := hrel
    rcases HS.out with ⟨rfl, hA⟩ | ⟨rfl, hA⟩ | ⟨rfl, hA⟩
    · have HA := Lib.hid hA
      clear hA HS
      obtain ⟨wz, hwz⟩ : ∃ wz : World, wz = wr := ⟨_, rfl⟩
      subst hwz
      all_goals
        have c20 := HX2.out.c0
        have c21 := HX2.out.c1
        go_wp2_with fail
        go_loopw [36] (fun v wr => ∃ z : Int, v = .int .i64 z ∧ Hid ((z = 0 ∧ C4 wr g r0 r1 r2 r3 0) ∨ (z = 1 ∧ C4 wr g r0 r1 r2 r3 1) ∨ (z = 2 ∧ C4 wr g r0 r1 r2 r3 2)) ∧ Hid (Bx wr w.heap.size #[rtx a1, rtx a2] 26) ∧ Hid (Bx wr (w.heap.size + 1) #[rtx b1, rtx b2] 26) ∧ Hid (Bx wr (w.heap.size + 1 + 1) #[.string ⟨#[]⟩, .string ⟨#[]⟩] 26) ∧ Hid (Ext w wr)) (fun v _ => (2 - intOf v).toNat)
        case atStart => exact ⟨0, rfl, .inl ⟨rfl, HA.out⟩, HX1, HX2, HX3, HE⟩
        case round =>
          clear HA HX1 HX2 HX3 HE c20 c21
          obtain ⟨z, rfl, HS, HX1, HX2, HX3, HE⟩ := hrel
          rcases HS.out with ⟨rfl, hA⟩ | ⟨rfl, hA⟩ | ⟨rfl, hA⟩
          · have HA := Lib.hid hA
            clear hA HS
            have k40 : wr.cell? ⟨g, 0, none⟩ = some (.string ⟨#[]⟩) := (show Bx wr g _ 208 from HA.out).c 0
            have k4f := (show Bx wr g _ 208 from HA.out).f 0
            have hi1 : ((0 : Nat) : Int) = 0 := rfl
            go_wp2_with fail
            refine (o0 _ HE.out).mono ?_
            rintro e w3 ⟨rfl, hE⟩
            have HE3 := Lib.hid (HE.out.tr hE)
            have HA3 := Lib.hid (Bx.ext (show Bx wr g _ 208 from HA.out) hE)
            have HX13 := Lib.hid (HX1.out.ext hE)
            have HX23 := Lib.hid (HX2.out.ext hE)
            have HX33 := Lib.hid (HX3.out.ext hE)
            have k50 : w3.cell? ⟨g, 0, none⟩ = some (.string ⟨#[]⟩) := HA3.out.c 0
            have k5f := HA3.out.f 0
            clear hE k40 k4f
            go_wp2_with fail
            have HA4 : Hid (C4 (w3.setCell ⟨g, 0, none⟩ (rtx r0)) g r0 r1 r2 r3 1) := HA3.out.put 0 (rtx r0)
            have HE4 : Hid (Ext w (w3.setCell ⟨g, 0, none⟩ (rtx r0))) := HE3.out.setCell (p := ⟨g, 0, none⟩) hgw (rtx r0)
            have HX14 := Lib.hid (HX13.out.set (p := ⟨g, 0, none⟩) (by show w.heap.size ≠ g; omega) (rtx r0))
            have HX24 := Lib.hid (HX23.out.set (p := ⟨g, 0, none⟩) (by show w.heap.size + 1 ≠ g; omega) (rtx r0))
            have HX34 := Lib.hid (HX33.out.set (p := ⟨g, 0, none⟩) (by show w.heap.size + 1 + 1 ≠ g; omega) (rtx r0))
            go_roundw
            case rel => exact ⟨1, by rfl, .inr (.inl ⟨rfl, HA4.out⟩), HX14, HX24, HX34, HE4⟩
            case measure => simp [intOf]
          · have HA := Lib.hid hA
            clear hA HS
            have k40 : wr.cell? ⟨g, 1, none⟩ = some (.string ⟨#[]⟩) := (show Bx wr g _ 208 from HA.out).c 1
            have k4f := (show Bx wr g _ 208 from HA.out).f 1
            have hi1 : ((0 : Nat) : Int) = 0 := rfl
            go_wp2_with fail
            refine (o1 _ HE.out).mono ?_
            rintro e w3 ⟨rfl, hE⟩
            have HE3 := Lib.hid (HE.out.tr hE)
            have HA3 := Lib.hid (Bx.ext (show Bx wr g _ 208 from HA.out) hE)
            have HX13 := Lib.hid (HX1.out.ext hE)
            have HX23 := Lib.hid (HX2.out.ext hE)
            have HX33 := Lib.hid (HX3.out.ext hE)
            have k50 : w3.cell? ⟨g, 1, none⟩ = some (.string ⟨#[]⟩) := HA3.out.c 1
            have k5f := HA3.out.f 1
            clear hE k40 k4f
            go_wp2_with fail
            have HA4 : Hid (C4 (w3.setCell ⟨g, 1, none⟩ (rtx r1)) g r0 r1 r2 r3 2) := HA3.out.put 1 (rtx r1)
            have HE4 : Hid (Ext w (w3.setCell ⟨g, 1, none⟩ (rtx r1))) := HE3.out.setCell (p := ⟨g, 1, none⟩) hgw (rtx r1)
            have HX14 := Lib.hid (HX13.out.set (p := ⟨g, 1, none⟩) (by show w.heap.size ≠ g; omega) (rtx r1))
            have HX24 := Lib.hid (HX23.out.set (p := ⟨g, 1, none⟩) (by show w.heap.size + 1 ≠ g; omega) (rtx r1))
            have HX34 := Lib.hid (HX33.out.set (p := ⟨g, 1, none⟩) (by show w.heap.size + 1 + 1 ≠ g; omega) (rtx r1))
            go_roundw
            case rel => exact ⟨2, by rfl, .inr (.inr ⟨rfl, HA4.out⟩), HX14, HX24, HX34, HE4⟩
            case measure => simp [intOf]
          · have HA := Lib.hid hA
            clear hA HS
            go_wp2_with fail
            go_roundw
            case rel => exact ⟨1, by rfl, .inr (.inl ⟨rfl, HA.out⟩), HX1, HX2, HX3, HE⟩
            case measure => simp [intOf]
    · have HA := Lib.hid hA
      clear hA HS
      obtain ⟨wz, hwz⟩ : ∃ wz : World, wz = wr := ⟨_, rfl⟩
      subst hwz
      all_goals
        have c20 := HX2.out.c0
        have c21 := HX2.out.c1
        go_wp2_with fail
        go_loopw [36] (fun v wr => ∃ z : Int, v = .int .i64 z ∧ Hid ((z = 0 ∧ C4 wr g r0 r1 r2 r3 2) ∨ (z = 1 ∧ C4 wr g r0 r1 r2 r3 3) ∨ (z = 2 ∧ C4 wr g r0 r1 r2 r3 4)) ∧ Hid (Bx wr w.heap.size #[rtx a1, rtx a2] 26) ∧ Hid (Bx wr (w.heap.size + 1) #[rtx b1, rtx b2] 26) ∧ Hid (Bx wr (w.heap.size + 1 + 1) #[.string ⟨#[]⟩, .string ⟨#[]⟩] 26) ∧ Hid (Ext w wr)) (fun v _ => (2 - intOf v).toNat)
        case atStart => exact ⟨0, rfl, .inl ⟨rfl, HA.out⟩, HX1, HX2, HX3, HE⟩
        case round =>
          clear HA HX1 HX2 HX3 HE c20 c21
          obtain ⟨z, rfl, HS, HX1, HX2, HX3, HE⟩ := hrel
          rcases HS.out with ⟨rfl, hA⟩ | ⟨rfl, hA⟩ | ⟨rfl, hA⟩
          · have HA := Lib.hid hA
            clear hA HS
            have k40 : wr.cell? ⟨g, 2, none⟩ = some (.string ⟨#[]⟩) := (show Bx wr g _ 208 from HA.out).c 2
            have k4f := (show Bx wr g _ 208 from HA.out).f 2
            have hi1 : ((0 : Nat) : Int) = 0 := rfl
            go_wp2_with fail
            refine (o2 _ HE.out).mono ?_
            rintro e w3 ⟨rfl, hE⟩
            have HE3 := Lib.hid (HE.out.tr hE)
            have HA3 := Lib.hid (Bx.ext (show Bx wr g _ 208 from HA.out) hE)
            have HX13 := Lib.hid (HX1.out.ext hE)
            have HX23 := Lib.hid (HX2.out.ext hE)
            have HX33 := Lib.hid (HX3.out.ext hE)
            have k50 : w3.cell? ⟨g, 2, none⟩ = some (.string ⟨#[]⟩) := HA3.out.c 2
            have k5f := HA3.out.f 2
            clear hE k40 k4f
            go_wp2_with fail
            have HA4 : Hid (C4 (w3.setCell ⟨g, 2, none⟩ (rtx r2)) g r0 r1 r2 r3 3) := HA3.out.put 2 (rtx r2)
            have HE4 : Hid (Ext w (w3.setCell ⟨g, 2, none⟩ (rtx r2))) := HE3.out.setCell (p := ⟨g, 2, none⟩) hgw (rtx r2)
            have HX14 := Lib.hid (HX13.out.set (p := ⟨g, 2, none⟩) (by show w.heap.size ≠ g; omega) (rtx r2))
            have HX24 := Lib.hid (HX23.out.set (p := ⟨g, 2, none⟩) (by show w.heap.size + 1 ≠ g; omega) (rtx r2))
            have HX34 := Lib.hid (HX33.out.set (p := ⟨g, 2, none⟩) (by show w.heap.size + 1 + 1 ≠ g; omega) (rtx r2))
            go_roundw
            case rel => exact ⟨1, by rfl, .inr (.inl ⟨rfl, HA4.out⟩), HX14, HX24, HX34, HE4⟩
            case measure => simp [intOf]
          · have HA := Lib.hid hA
            clear hA HS
            have k40 : wr.cell? ⟨g, 3, none⟩ = some (.string ⟨#[]⟩) := (show Bx wr g _ 208 from HA.out).c 3
            have k4f := (show Bx wr g _ 208 from HA.out).f 3
            have hi1 : ((0 : Nat) : Int) = 0 := rfl
            go_wp2_with fail
            refine (o3 _ HE.out).mono ?_
            rintro e w3 ⟨rfl, hE⟩
            have HE3 := Lib.hid (HE.out.tr hE)
            have HA3 := Lib.hid (Bx.ext (show Bx wr g _ 208 from HA.out) hE)
            have HX13 := Lib.hid (HX1.out.ext hE)
            have HX23 := Lib.hid (HX2.out.ext hE)
            have HX33 := Lib.hid (HX3.out.ext hE)
            have k50 : w3.cell? ⟨g, 3, none⟩ = some (.string ⟨#[]⟩) := HA3.out.c 3
            have k5f := HA3.out.f 3
            clear hE k40 k4f
            go_wp2_with fail
            have HA4 : Hid (C4 (w3.setCell ⟨g, 3, none⟩ (rtx r3)) g r0 r1 r2 r3 4) := HA3.out.put 3 (rtx r3)
            have HE4 : Hid (Ext w (w3.setCell ⟨g, 3, none⟩ (rtx r3))) := HE3.out.setCell (p := ⟨g, 3, none⟩) hgw (rtx r3)
            have HX14 := Lib.hid (HX13.out.set (p := ⟨g, 3, none⟩) (by show w.heap.size ≠ g; omega) (rtx r3))
            have HX24 := Lib.hid (HX23.out.set (p := ⟨g, 3, none⟩) (by show w.heap.size + 1 ≠ g; omega) (rtx r3))
            have HX34 := Lib.hid (HX33.out.set (p := ⟨g, 3, none⟩) (by show w.heap.size + 1 + 1 ≠ g; omega) (rtx r3))
            go_roundw
            case rel => exact ⟨2, by rfl, .inr (.inr ⟨rfl, HA4.out⟩), HX14, HX24, HX34, HE4⟩
            case measure => simp [intOf]
          · have HA := Lib.hid hA
            clear hA HS
            go_wp2_with fail
            go_roundw
            case rel => exact ⟨2, by rfl, .inr (.inr ⟨rfl, HA.out⟩), HX1, HX2, HX3, HE⟩
            case measure => simp [intOf]
    · have HA := Lib.hid hA
      clear hA HS
      have h4 := fun W (hE : Ext w W) => h3 W g hE
      go_wp2_with fail
      refine (h4 _ HE.out (ps_of4 (show Bx wr g #[rtx r0, rtx r1, rtx r2, rtx r3] 208 from HA.out))).mono ?_
      rintro e w3 ⟨rfl, hE⟩
      have HE3 := Lib.hid (HE.out.tr hE)
      have HX33 := Lib.hid (HX3.out.ext hE)
      obtain ⟨d0, d1, e0, e1⟩ := HX33.out.e2
      clear hE
      go_wp2_with fail
      obtain ⟨m0, m1⟩ := set2 HX33.out (rtx s1) (rtx s2)
      refine bodyPost_ret (v := .tuple #[.agg #[rtx s1, rtx s2], .int .i64 0]) ?_ rfl ⟨rfl, ext_set2 (b := w.heap.size + 1 + 1) HE3.out (by omega) _ _⟩
      simp [results, Tryz.f148, go_sem, m0, m1]
end Go.Proofs.YtadimepmoljnpaaGreatDoor.GB

namespace Go.Proofs.YtadimepmoljnpaaGreatDoor.GB
set_option linter.unusedVariables false
set_option linter.unusedSimpArgs false
open Go.RowKit Go.Shelf
attribute [local go_sem ↓] Go.wp_at_zero Go.wp_at_succ

theorem endR_le {s : Rat × Rat} {a : Rat} (h : s.1 ≤ s.2) : (endR s a).1 ≤ (endR s a).2 := by
  unfold endR
  show (if _ then _ else _) ≤ (if _ then _ else _)
  split <;> split <;> grind
theorem foldl_endR_le (l : Pl) (s : Rat × Rat) (h : s.1 ≤ s.2) : (l.foldl endR s).1 ≤ (l.foldl endR s).2 := by
  induction l generalizing s with
  | nil => exact h
  | cons a l ih => exact ih _ (endR_le h)
theorem endsR_le (x : Rat) (l : Pl) : (endsR (x :: l)).1 ≤ (endsR (x :: l)).2 := foldl_endR_le l (x, x) Rat.le_refl
theorem foldl_endR_bd {n : Nat} (l : Pl) (s : Rat × Rat) (h : Bd s.1 n ∧ Bd s.2 n) (hl : PB l n) : Bd (l.foldl endR s).1 n ∧ Bd (l.foldl endR s).2 n := by
  induction l generalizing s with
  | nil => exact h
  | cons a l ih => exact ih _ (endR_bd h.1 h.2 (hl a (by simp))) (fun q hq => hl q (by simp [hq]))
theorem endsR_bd {n : Nat} (x : Rat) (l : Pl) (h : PB (x :: l) n) : Bd (endsR (x :: l)).1 n ∧ Bd (endsR (x :: l)).2 n :=
  foldl_endR_bd l (x, x) ⟨h x (by simp), h x (by simp)⟩ (fun q hq => h q (by simp [hq]))
/-- The products, the sums of two intervals. -/
def imulR (a b : Rat × Rat) : Rat × Rat := endsR [a.1 * b.1, a.1 * b.2, a.2 * b.1, a.2 * b.2]
def iaddR (a b : Rat × Rat) : Rat × Rat := endsR [a.1 + b.1, a.1 + b.2, a.2 + b.1, a.2 + b.2]
abbrev IQ (a : Rat × Rat) : Value := .agg #[rtx a.1, rtx a.2]
theorem pb4 {x y z t : Rat} {n : Nat} (h0 : Bd x n) (h1 : Bd y n) (h2 : Bd z n) (h3 : Bd t n) : PB [x, y, z, t] n := by
  intro q hq
  simp at hq
  rcases hq with rfl | rfl | rfl | rfl <;> assumption
theorem imulR_bd {a b : Rat × Rat} {m n : Nat} (ha : Bd a.1 m ∧ Bd a.2 m) (hb : Bd b.1 n ∧ Bd b.2 n) : Bd (imulR a b).1 (m + n) ∧ Bd (imulR a b).2 (m + n) :=
  endsR_bd _ _ (pb4 (ha.1.mul hb.1) (ha.1.mul hb.2) (ha.2.mul hb.1) (ha.2.mul hb.2))
theorem iaddR_bd {a b : Rat × Rat} {m n : Nat} (ha : Bd a.1 m ∧ Bd a.2 m) (hb : Bd b.1 n ∧ Bd b.2 n) : Bd (iaddR a b).1 (m + n + 1) ∧ Bd (iaddR a b).2 (m + n + 1) :=
  endsR_bd _ _ (pb4 (ha.1.add hb.1) (ha.1.add hb.2) (ha.2.add hb.1) (ha.2.add hb.2))
set_option maxHeartbeats 2000000 in
set_option maxRecDepth 100000 in
theorem iMul_g (a1 a2 b1 b2 s1 s2 : Rat) (w : World) (h : ∀ W, Ext w W → Calls Tryz.prog 148 #[.func (.func 32) #[] #[], .agg #[rtx a1, rtx a2], .agg #[rtx b1, rtx b2]] W fun e w' => e = .returned (.tuple #[.agg #[rtx s1, rtx s2], .int .i64 0]) ∧ Ext W w') :
    Calls Tryz.prog 104 #[.agg #[rtx a1, rtx a2], .agg #[rtx b1, rtx b2]] w fun e w' => e = .returned (.tuple #[.agg #[rtx s1, rtx s2], .int .i64 0]) ∧ Ext w w' := by
  obtain ⟨X1, X2, X3, E⟩ := boxes3 w #[rtx a1, rtx a2] #[rtx b1, rtx b2] #[.string ⟨#[]⟩, .string ⟨#[]⟩] 26
  go_enter Tryz.func104, Tryz.ntmps104
  go_wp2_with fail
  generalize ((w.alloc (.cells #[rtx a1, rtx a2] 26)).alloc (.cells #[rtx b1, rtx b2] 26)).alloc (.cells #[.string ⟨#[]⟩, .string ⟨#[]⟩] 26) = W0 at *
  refine (h _ E).mono ?_
  rintro e w1 ⟨rfl, hE⟩
  replace X3 := X3.ext hE
  replace E := E.tr hE
  clear hE h X1 X2
  obtain ⟨c0, c1, f0, f1⟩ := X3.e2
  go_wp2_with fail
  obtain ⟨m0, m1⟩ := set2 X3 (rtx s1) (rtx s2)
  refine bodyPost_ret (v := .tuple #[.agg #[rtx s1, rtx s2], .int .i64 0]) ?_ rfl ⟨rfl, ext_set2 (b := w.heap.size + 1 + 1) E (by omega) _ _⟩
  simp [results, Tryz.f104, go_sem, m0, m1]
theorem iMul_q (a b : Rat × Rat) (m n : Nat) (w : World) (hW : Wd w) (ha : Bd a.1 m ∧ Bd a.2 m) (hb : Bd b.1 n ∧ Bd b.2 n) (la : a.1 ≤ a.2) (lb : b.1 ≤ b.2) (hk : 2 * (m + n) + 10 ≤ KK) :
    Calls Tryz.prog 104 #[IQ a, IQ b] w fun e w' => e = .returned (.tuple #[IQ (imulR a b), .int .i64 0]) ∧ Ext w w' :=
  iMul_g _ _ _ _ _ _ w fun W hE => corn_mul a.1 a.2 b.1 b.2 (a.1 * b.1) (a.1 * b.2) (a.2 * b.1) (a.2 * b.2) _ _ W
    (fun W' hE' => by have h := iValid_q a.1 a.2 m m W' ((hW.ext hE).ext hE') ha.1 ha.2 (by omega); rwa [decide_eq_true la] at h)
    (fun W' hE' => by have h := iValid_q b.1 b.2 n n W' ((hW.ext hE).ext hE') hb.1 hb.2 (by omega); rwa [decide_eq_true lb] at h)
    (fun W' hE' => rMul_q _ _ m n W' ((hW.ext hE).ext hE') ha.1 hb.1 (by omega))
    (fun W' hE' => rMul_q _ _ m n W' ((hW.ext hE).ext hE') ha.1 hb.2 (by omega))
    (fun W' hE' => rMul_q _ _ m n W' ((hW.ext hE).ext hE') ha.2 hb.1 (by omega))
    (fun W' hE' => rMul_q _ _ m n W' ((hW.ext hE).ext hE') ha.2 hb.2 (by omega))
    (fun W' g hE' hps => ends_q g 4 (a.1 * b.1) [a.1 * b.2, a.2 * b.1, a.2 * b.2] 3 (m + n) W' rfl (by omega) (by omega) (by omega) (by omega) ((hW.ext hE).ext hE') hps (pb4 (ha.1.mul hb.1) (ha.1.mul hb.2) (ha.2.mul hb.1) (ha.2.mul hb.2)) (by omega))
set_option maxHeartbeats 2000000 in
set_option maxRecDepth 100000 in
theorem iAdd_g (a1 a2 b1 b2 s1 s2 : Rat) (w : World) (h : ∀ W, Ext w W → Calls Tryz.prog 148 #[.func (.func 38) #[] #[], .agg #[rtx a1, rtx a2], .agg #[rtx b1, rtx b2]] W fun e w' => e = .returned (.tuple #[.agg #[rtx s1, rtx s2], .int .i64 0]) ∧ Ext W w') :
    Calls Tryz.prog 105 #[.agg #[rtx a1, rtx a2], .agg #[rtx b1, rtx b2]] w fun e w' => e = .returned (.tuple #[.agg #[rtx s1, rtx s2], .int .i64 0]) ∧ Ext w w' := by
  obtain ⟨X1, X2, X3, E⟩ := boxes3 w #[rtx a1, rtx a2] #[rtx b1, rtx b2] #[.string ⟨#[]⟩, .string ⟨#[]⟩] 26
  go_enter Tryz.func105, Tryz.ntmps105
  go_wp2_with fail
  generalize ((w.alloc (.cells #[rtx a1, rtx a2] 26)).alloc (.cells #[rtx b1, rtx b2] 26)).alloc (.cells #[.string ⟨#[]⟩, .string ⟨#[]⟩] 26) = W0 at *
  refine (h _ E).mono ?_
  rintro e w1 ⟨rfl, hE⟩
  replace X3 := X3.ext hE
  replace E := E.tr hE
  clear hE h X1 X2
  obtain ⟨c0, c1, f0, f1⟩ := X3.e2
  go_wp2_with fail
  obtain ⟨m0, m1⟩ := set2 X3 (rtx s1) (rtx s2)
  refine bodyPost_ret (v := .tuple #[.agg #[rtx s1, rtx s2], .int .i64 0]) ?_ rfl ⟨rfl, ext_set2 (b := w.heap.size + 1 + 1) E (by omega) _ _⟩
  simp [results, Tryz.f105, go_sem, m0, m1]
theorem iAdd_q (a b : Rat × Rat) (m n : Nat) (w : World) (hW : Wd w) (ha : Bd a.1 m ∧ Bd a.2 m) (hb : Bd b.1 n ∧ Bd b.2 n) (la : a.1 ≤ a.2) (lb : b.1 ≤ b.2) (hk : 2 * (m + n) + 10 ≤ KK) :
    Calls Tryz.prog 105 #[IQ a, IQ b] w fun e w' => e = .returned (.tuple #[IQ (iaddR a b), .int .i64 0]) ∧ Ext w w' :=
  iAdd_g _ _ _ _ _ _ w fun W hE => corn_add a.1 a.2 b.1 b.2 (a.1 + b.1) (a.1 + b.2) (a.2 + b.1) (a.2 + b.2) _ _ W
    (fun W' hE' => by have h := iValid_q a.1 a.2 m m W' ((hW.ext hE).ext hE') ha.1 ha.2 (by omega); rwa [decide_eq_true la] at h)
    (fun W' hE' => by have h := iValid_q b.1 b.2 n n W' ((hW.ext hE).ext hE') hb.1 hb.2 (by omega); rwa [decide_eq_true lb] at h)
    (fun W' hE' => rAdd_q _ _ m n W' ((hW.ext hE).ext hE') ha.1 hb.1 (by omega))
    (fun W' hE' => rAdd_q _ _ m n W' ((hW.ext hE).ext hE') ha.1 hb.2 (by omega))
    (fun W' hE' => rAdd_q _ _ m n W' ((hW.ext hE).ext hE') ha.2 hb.1 (by omega))
    (fun W' hE' => rAdd_q _ _ m n W' ((hW.ext hE).ext hE') ha.2 hb.2 (by omega))
    (fun W' g hE' hps => ends_q g 4 (a.1 + b.1) [a.1 + b.2, a.2 + b.1, a.2 + b.2] 3 (m + n + 1) W' rfl (by omega) (by omega) (by omega) (by omega) ((hW.ext hE).ext hE') hps (pb4 (ha.1.add hb.1) (ha.1.add hb.2) (ha.2.add hb.1) (ha.2.add hb.2)) (by omega))
end Go.Proofs.YtadimepmoljnpaaGreatDoor.GB
