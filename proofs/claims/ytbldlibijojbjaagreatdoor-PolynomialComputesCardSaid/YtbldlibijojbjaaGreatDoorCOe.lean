import Derived.Test.YtbldlibijojbjaaGreatDoorCOd
namespace Go.Proofs.YtbldlibijojbjaaGreatDoor.GB
set_option linter.unusedVariables false
set_option linter.unusedSimpArgs false
open Go.RowKit Go.Shelf
attribute [local go_sem ↓] Go.wp_at_zero Go.wp_at_succ
theorem gokAll : ∀ a, a < 18 → ∀ b, b < 18 → ((decide (6 < a) && decide (2 < b)) || gok 17 a (a * 48) b (b * 48) 400000) = true := by decide +kernel
theorem kk38 : 200000000000 ≤ KK := by unfold KK; omega
theorem cbl {p : Pl} (hp : PB p 48) : CB p (p.length * 48) := CB.of_pb hp
theorem cbm {p : Pl} (hp : PB p 48) (hl : p.length ≤ 17) : CB p 816 := (CB.of_pb hp).mono (by omega)
set_option maxHeartbeats 8000000 in
set_option maxRecDepth 200000 in
theorem q8both_n1 (v1 v2 : Value) (l m : List ByteArray) (w : World) (h1 : SlS w v1 l) (h2 : SlS w v2 m) (hl : l.length ≤ 1000) (hm : m.length ≤ 1000) (hs : ∀ s ∈ l, s.size ≤ 40) (hs2 : ∀ s ∈ m, s.size ≤ 40) (hb1 : polB l = false)  :
    Calls Tryz.prog 58 #[v1, v2] w (RetE2 1 w) := by
  obtain ⟨b, hb2⟩ : ∃ b, polB m = b := ⟨_, rfl⟩
  have HF1 : Hid (∀ W, Ext w W → Calls Tryz.prog 53 #[v1] W fun e w' => ∃ v, e = .returned (.tuple #[v, .bool false]) ∧ Ext W w') := fun W hE => q8From_no v1 l false W (h1.ext hE) hl hs hb1
  have HF2 : Hid (∀ W, Ext w W → Calls Tryz.prog 53 #[v2] W fun e w' => ∃ v, e = .returned (.tuple #[v, .bool b]) ∧ Ext W w') := fun W hE => q8From_no v2 m b W (h2.ext hE) hm hs2 hb2
  clear h1 h2 hl hm hs hs2 hb1 hb2
  go_enter Tryz.func58, Tryz.ntmps58
  go_wp2_with fail
  refine (HF1.out _ (Ext.rfl' _)).mono ?_
  rintro e w1 ⟨v3, rfl, hE⟩
  have HE := Lib.hid hE
  clear hE
  go_wp2_with fail
  refine (HF2.out _ HE.out).mono ?_
  rintro e w2 ⟨v4, rfl, hE⟩
  replace HE := Lib.hid (HE.out.tr hE)
  clear hE HF1 HF2
  go_wp2_with fail
  go_ret3
  exact ⟨rfl, HE.out⟩
set_option maxHeartbeats 8000000 in
set_option maxRecDepth 200000 in
theorem q8both_n2 (v1 v2 : Value) (l m : List ByteArray) (w : World) (h1 : SlS w v1 l) (h2 : SlS w v2 m) (hl : l.length ≤ 1000) (hm : m.length ≤ 1000) (hs : ∀ s ∈ l, s.size ≤ 40) (hs2 : ∀ s ∈ m, s.size ≤ 40) (hb1 : polB l = true) (hb2 : polB m = false) :
    Calls Tryz.prog 58 #[v1, v2] w (RetE2 1 w) := by
  have HF1 : Hid (∀ W, Ext w W → Calls Tryz.prog 53 #[v1] W fun e w' => ∃ v, e = .returned (.tuple #[v, .bool true]) ∧ Ext W w') := fun W hE => q8From_no v1 l true W (h1.ext hE) hl hs hb1
  have HF2 : Hid (∀ W, Ext w W → Calls Tryz.prog 53 #[v2] W fun e w' => ∃ v, e = .returned (.tuple #[v, .bool false]) ∧ Ext W w') := fun W hE => q8From_no v2 m false W (h2.ext hE) hm hs2 hb2
  clear h1 h2 hl hm hs hs2 hb1 hb2
  go_enter Tryz.func58, Tryz.ntmps58
  go_wp2_with fail
  refine (HF1.out _ (Ext.rfl' _)).mono ?_
  rintro e w1 ⟨v3, rfl, hE⟩
  have HE := Lib.hid hE
  clear hE
  go_wp2_with fail
  refine (HF2.out _ HE.out).mono ?_
  rintro e w2 ⟨v4, rfl, hE⟩
  replace HE := Lib.hid (HE.out.tr hE)
  clear hE HF1 HF2
  go_wp2_with fail
  go_ret3
  exact ⟨rfl, HE.out⟩
theorem q8both_no (v1 v2 : Value) (l m : List ByteArray) (w : World) (h1 : SlS w v1 l) (h2 : SlS w v2 m) (hl : l.length ≤ 1000) (hm : m.length ≤ 1000) (hs : ∀ s ∈ l, s.size ≤ 40) (hs2 : ∀ s ∈ m, s.size ≤ 40) (hb : (polB l && polB m) = false) : Calls Tryz.prog 58 #[v1, v2] w (RetE2 1 w) := by
  cases hp : polB l
  · exact q8both_n1 v1 v2 l m w h1 h2 hl hm hs hs2 hp
  · rw [hp] at hb
    exact q8both_n2 v1 v2 l m w h1 h2 hl hm hs hs2 hp (by simpa using hb)
set_option maxHeartbeats 8000000 in
set_option maxRecDepth 200000 in
theorem q8both_yes (v1 v2 : Value) (p r : Pl) (w : World) (h1 : SlS w v1 (p.map rb)) (h2 : SlS w v2 (r.map rb)) (tp : Tr p) (tr : Tr r) (lp : p.length ≤ 17) (lr : r.length ≤ 17) (hs : ∀ s ∈ p.map rb, s.size ≤ 12) (hs2 : ∀ s ∈ r.map rb, s.size ≤ 12) :
    Calls Tryz.prog 58 #[v1, v2] w fun e w' => ∃ u1 u2, e = .returned (.tuple #[u1, u2, .int .i64 0]) ∧ PQ w' u1 p ∧ PQ w' u2 r ∧ Ext w w' := by
  have HF1 : Hid (∀ W, Ext w W → Calls Tryz.prog 53 #[v1] W fun e w' => ∃ v, e = .returned (.tuple #[v, .bool true]) ∧ PQ w' v p ∧ Ext W w') := fun W hE => q8From_yes v1 p W (h1.ext hE) tp lp (fun s h => Nat.le_trans (hs s h) (by omega))
  have HF2 : Hid (∀ W, Ext w W → Calls Tryz.prog 53 #[v2] W fun e w' => ∃ v, e = .returned (.tuple #[v, .bool true]) ∧ PQ w' v r ∧ Ext W w') := fun W hE => q8From_yes v2 r W (h2.ext hE) tr lr (fun s h => Nat.le_trans (hs2 s h) (by omega))
  clear h1 h2 tp tr lp lr hs hs2
  go_enter Tryz.func58, Tryz.ntmps58
  go_wp2_with fail
  refine (HF1.out _ (Ext.rfl' _)).mono ?_
  rintro e w1 ⟨v3, rfl, hv, hE⟩
  have HE := Lib.hid hE
  have HV := Lib.hid hv
  clear hE hv
  go_wp2_with fail
  refine (HF2.out _ HE.out).mono ?_
  rintro e w2 ⟨v4, rfl, hv, hE⟩
  have HV2 := Lib.hid hv
  replace HV := PQ.hext HV hE
  replace HE := Lib.hid (HE.out.tr hE)
  clear hE hv HF1 HF2
  go_wp2_with fail
  go_ret3
  exact ⟨_, _, rfl, HV.out, HV2.out, HE.out⟩
set_option maxHeartbeats 8000000 in
set_option maxRecDepth 200000 in
theorem q8Add_no (v1 v2 : Value) (l m : List ByteArray) (w : World) (h1 : SlS w v1 l) (h2 : SlS w v2 m) (hl : l.length ≤ 1000) (hm : m.length ≤ 1000) (hs : ∀ s ∈ l, s.size ≤ 40) (hs2 : ∀ s ∈ m, s.size ≤ 40) (hb : (polB l && polB m) = false) : Calls Tryz.prog 22 #[v1, v2] w (RetE 1 w) := by
  have HB : Hid (Calls Tryz.prog 58 #[v1, v2] w (RetE2 1 w)) := q8both_no v1 v2 l m w h1 h2 hl hm hs hs2 hb
  clear h1 h2 hl hm hs hs2 hb
  go_enter Tryz.func22, Tryz.ntmps22
  go_wp2_with fail
  refine HB.out.mono ?_
  rintro e w1 ⟨rfl, hE⟩
  have HE := Lib.hid hE
  clear hE HB
  go_wp2_with fail
  go_ret2
  exact ⟨rfl, HE.out⟩
set_option maxHeartbeats 8000000 in
set_option maxRecDepth 200000 in
theorem q8Add_yes (v1 v2 : Value) (p r : Pl) (w : World) (h1 : SlS w v1 (p.map rb)) (h2 : SlS w v2 (r.map rb)) (tp : Tr p) (tr : Tr r) (lp : p.length ≤ 17) (lr : r.length ≤ 17) (hs : ∀ s ∈ p.map rb, s.size ≤ 12) (hs2 : ∀ s ∈ r.map rb, s.size ≤ 12) : Calls Tryz.prog 22 #[v1, v2] w (RetQ0 (fun W u => PS W u (ptrim (padd p r))) w) := by
  have hp := pb12 hs
  have hr := pb12 hs2
  have HB : Hid (Calls Tryz.prog 58 #[v1, v2] w fun e w' => ∃ u1 u2, e = .returned (.tuple #[u1, u2, .int .i64 0]) ∧ PQ w' u1 p ∧ PQ w' u2 r ∧ Ext w w') := q8both_yes v1 v2 p r w h1 h2 tp tr lp lr hs hs2
  have HC : Hid (∀ W a b, PQ W a p → PQ W b r → Calls Tryz.prog 59 #[a, b] W (RetPQ (ptrim (padd p r)) W)) := fun W a b ha hb => q8Plus_v a b p r 48 48 W ha hb hp hr (by omega) (by omega) (by have := kk38; omega)
  have HT : Hid (∀ W u, PQ W u (ptrim (padd p r)) → Calls Tryz.prog 49 #[u] W fun e w' => ∃ v', e = .returned v' ∧ SlS w' v' ((ptrim (padd p r)).map rb) ∧ Ext W w') := fun W u hu => q8To_any u _ 97 W hu (by have h1 := ptrim_len (padd p r); rw [padd_len] at h1; omega) (PB.ptrim (PB.addx hp hr)) (by have := kk38; omega)
  clear h1 h2 tp tr lp lr hs hs2 hp hr
  go_enter Tryz.func22, Tryz.ntmps22
  go_wp2_with fail
  refine HB.out.mono ?_
  rintro e w1 ⟨u1, u2, rfl, hp, hr, hE⟩
  have HE := Lib.hid hE
  have HP := Lib.hid hp
  have HR := Lib.hid hr
  clear hE hp hr HB
  go_wp2_with fail
  refine (HC.out _ _ _ HP.out HR.out).mono ?_
  rintro e w2 ⟨v5, rfl, hv, hE⟩
  have HV := Lib.hid hv
  replace HE := Lib.hid (HE.out.tr hE)
  clear hv hE HP HR
  go_wp2_with fail
  refine (HT.out _ _ HV.out).mono ?_
  rintro e w3 ⟨v6, rfl, hv, hE⟩
  have HV2 := Lib.hid hv
  replace HE := Lib.hid (HE.out.tr hE)
  clear hv hE HV
  go_wp2_with fail
  go_ret2
  exact ⟨_, rfl, HV2.out, HE.out⟩
set_option maxHeartbeats 8000000 in
set_option maxRecDepth 200000 in
theorem q8Sub_no (v1 v2 : Value) (l m : List ByteArray) (w : World) (h1 : SlS w v1 l) (h2 : SlS w v2 m) (hl : l.length ≤ 1000) (hm : m.length ≤ 1000) (hs : ∀ s ∈ l, s.size ≤ 40) (hs2 : ∀ s ∈ m, s.size ≤ 40) (hb : (polB l && polB m) = false) : Calls Tryz.prog 24 #[v1, v2] w (RetE 1 w) := by
  have HB : Hid (Calls Tryz.prog 58 #[v1, v2] w (RetE2 1 w)) := q8both_no v1 v2 l m w h1 h2 hl hm hs hs2 hb
  clear h1 h2 hl hm hs hs2 hb
  go_enter Tryz.func24, Tryz.ntmps24
  go_wp2_with fail
  refine HB.out.mono ?_
  rintro e w1 ⟨rfl, hE⟩
  have HE := Lib.hid hE
  clear hE HB
  go_wp2_with fail
  go_ret2
  exact ⟨rfl, HE.out⟩
set_option maxHeartbeats 8000000 in
set_option maxRecDepth 200000 in
theorem q8Sub_yes (v1 v2 : Value) (p r : Pl) (w : World) (h1 : SlS w v1 (p.map rb)) (h2 : SlS w v2 (r.map rb)) (tp : Tr p) (tr : Tr r) (lp : p.length ≤ 17) (lr : r.length ≤ 17) (hs : ∀ s ∈ p.map rb, s.size ≤ 12) (hs2 : ∀ s ∈ r.map rb, s.size ≤ 12) : Calls Tryz.prog 24 #[v1, v2] w (RetQ0 (fun W u => PS W u (ptrim (padd p (pneg r)))) w) := by
  have hp := pb12 hs
  have hr := pb12 hs2
  have HB : Hid (Calls Tryz.prog 58 #[v1, v2] w fun e w' => ∃ u1 u2, e = .returned (.tuple #[u1, u2, .int .i64 0]) ∧ PQ w' u1 p ∧ PQ w' u2 r ∧ Ext w w') := q8both_yes v1 v2 p r w h1 h2 tp tr lp lr hs hs2
  have HC : Hid (∀ W a b, PQ W a p → PQ W b r → Calls Tryz.prog 61 #[a, b] W (RetPQ (ptrim (padd p (pneg r))) W)) := fun W a b ha hb => q8Minus_v a b p r 48 48 W ha hb hp hr (by omega) (by omega) (by have := kk38; omega)
  have HT : Hid (∀ W u, PQ W u (ptrim (padd p (pneg r))) → Calls Tryz.prog 49 #[u] W fun e w' => ∃ v', e = .returned v' ∧ SlS w' v' ((ptrim (padd p (pneg r))).map rb) ∧ Ext W w') := fun W u hu => q8To_any u _ 98 W hu (by have h1 := ptrim_len (padd p (pneg r)); have e : (pneg r).length = r.length := List.length_map _; rw [padd_len, e] at h1; omega) (PB.ptrim (PB.addx hp (PB.scx hr (Bd.of_int (-1) 1 (by decide))))) (by have := kk38; omega)
  clear h1 h2 tp tr lp lr hs hs2 hp hr
  go_enter Tryz.func24, Tryz.ntmps24
  go_wp2_with fail
  refine HB.out.mono ?_
  rintro e w1 ⟨u1, u2, rfl, hp, hr, hE⟩
  have HE := Lib.hid hE
  have HP := Lib.hid hp
  have HR := Lib.hid hr
  clear hE hp hr HB
  go_wp2_with fail
  refine (HC.out _ _ _ HP.out HR.out).mono ?_
  rintro e w2 ⟨v5, rfl, hv, hE⟩
  have HV := Lib.hid hv
  replace HE := Lib.hid (HE.out.tr hE)
  clear hv hE HP HR
  go_wp2_with fail
  refine (HT.out _ _ HV.out).mono ?_
  rintro e w3 ⟨v6, rfl, hv, hE⟩
  have HV2 := Lib.hid hv
  replace HE := Lib.hid (HE.out.tr hE)
  clear hv hE HV
  go_wp2_with fail
  go_ret2
  exact ⟨_, rfl, HV2.out, HE.out⟩
set_option maxHeartbeats 8000000 in
set_option maxRecDepth 200000 in
theorem q8Mul_no (v1 v2 : Value) (l m : List ByteArray) (w : World) (h1 : SlS w v1 l) (h2 : SlS w v2 m) (hl : l.length ≤ 1000) (hm : m.length ≤ 1000) (hs : ∀ s ∈ l, s.size ≤ 40) (hs2 : ∀ s ∈ m, s.size ≤ 40) (hb : (polB l && polB m) = false) : Calls Tryz.prog 26 #[v1, v2] w (RetE 1 w) := by
  have HB : Hid (Calls Tryz.prog 58 #[v1, v2] w (RetE2 1 w)) := q8both_no v1 v2 l m w h1 h2 hl hm hs hs2 hb
  clear h1 h2 hl hm hs hs2 hb
  go_enter Tryz.func26, Tryz.ntmps26
  go_wp2_with fail
  refine HB.out.mono ?_
  rintro e w1 ⟨rfl, hE⟩
  have HE := Lib.hid hE
  clear hE HB
  go_wp2_with fail
  go_ret2
  exact ⟨rfl, HE.out⟩
set_option maxHeartbeats 8000000 in
set_option maxRecDepth 200000 in
theorem q8Mul_yes (v1 v2 : Value) (p r : Pl) (w : World) (h1 : SlS w v1 (p.map rb)) (h2 : SlS w v2 (r.map rb)) (tp : Tr p) (tr : Tr r) (lp : p.length ≤ 17) (lr : r.length ≤ 17) (hs : ∀ s ∈ p.map rb, s.size ≤ 12) (hs2 : ∀ s ∈ r.map rb, s.size ≤ 12) (hl : p = [] ∨ r = [] ∨ p.length + r.length ≤ 18) : Calls Tryz.prog 26 #[v1, v2] w (RetQ0 (fun W u => PS W u (ptrim (pmul p r))) w) := by
  have hp := pb12 hs
  have hr := pb12 hs2
  have HB : Hid (Calls Tryz.prog 58 #[v1, v2] w fun e w' => ∃ u1 u2, e = .returned (.tuple #[u1, u2, .int .i64 0]) ∧ PQ w' u1 p ∧ PQ w' u2 r ∧ Ext w w') := q8both_yes v1 v2 p r w h1 h2 tp tr lp lr hs hs2
  have HC : Hid (∀ W a b, PQ W a p → PQ W b r → Calls Tryz.prog 63 #[a, b] W (RetPQ (ptrim (pmul p r)) W)) := fun W a b ha hb => q8Times_v a b p r 48 48 W ha hb hp hr (by omega) (by omega) (by have := kk38; omega)
  have hml : (ptrim (pmul p r)).length ≤ 100 := by have h := tms_len p r p.length; rw [List.take_length] at h; omega
  have hmb : PB (ptrim (pmul p r)) 1700 := by
    have h := PB.tms hp hr p.length
    rw [List.take_length] at h
    exact h.mono (by omega)
  have HT : Hid (∀ W u, PQ W u (ptrim (pmul p r)) → Calls Tryz.prog 49 #[u] W fun e w' => ∃ v', e = .returned v' ∧ SlS w' v' ((ptrim (pmul p r)).map rb) ∧ Ext W w') := fun W u hu => q8To_any u _ 1700 W hu (by omega) (hmb) (by have := kk38; omega)
  obtain ⟨pl, hpl⟩ : ∃ k, p.length = k := ⟨_, rfl⟩
  obtain ⟨rl, hrl⟩ : ∃ k, r.length = k := ⟨_, rfl⟩
  have HPL := Lib.hid hpl
  have HRL := Lib.hid hrl
  rw [hpl] at lp
  rw [hrl] at lr
  have w1 : IntKind.i64.wrap ((pl : Int) + (rl : Int)) = (pl : Int) + (rl : Int) := by rw [IntKind.wrap_i64]; omega
  have w2 : IntKind.i64.wrap ((pl : Int) + (rl : Int) - 2) = (pl : Int) + (rl : Int) - 2 := by rw [IntKind.wrap_i64]; omega
  have hz : ¬ (0 : Int) < (pl : Int) ∨ ((0 : Int) < (pl : Int) ∧ ¬ (0 : Int) < (rl : Int)) ∨ ((0 : Int) < (pl : Int) ∧ (0 : Int) < (rl : Int) ∧ ¬ (16 : Int) < (pl : Int) + (rl : Int) - 2) := by
    rcases hl with h | h | h
    · left; rw [h] at hpl; simp at hpl; omega
    · rw [h] at hrl; simp at hrl; omega
    · omega
  clear h1 h2 tp tr lp lr hs hs2 hp hr hl hpl hrl hml hmb
  rcases hz with z1 | ⟨z1, z2⟩ | ⟨z1, z2, z3⟩
  all_goals
    go_enter Tryz.func26, Tryz.ntmps26
    go_wp2_with fail
    refine HB.out.mono ?_
    rintro e w1 ⟨u1, u2, rfl, hp, hr, hE⟩
    have HE := Lib.hid hE
    have HP := Lib.hid hp
    have HR := Lib.hid hr
    obtain ⟨A, cA, rfl⟩ := hp.slc
    obtain ⟨B, cB, rfl⟩ := hr.slc
    rw [show p.length = pl from HPL.out] at HP ⊢
    rw [show r.length = rl from HRL.out] at HR ⊢
    clear hE hp hr HB
    go_wp2_with fail
    refine (HC.out _ _ _ HP.out HR.out).mono ?_
    rintro e w2 ⟨v5, rfl, hv, hE⟩
    have HV := Lib.hid hv
    replace HE := Lib.hid (HE.out.tr hE)
    clear hv hE HP HR
    go_wp2_with fail
    refine (HT.out _ _ HV.out).mono ?_
    rintro e w3 ⟨v6, rfl, hv, hE⟩
    have HV2 := Lib.hid hv
    replace HE := Lib.hid (HE.out.tr hE)
    clear hv hE HV
    go_wp2_with fail
    go_ret2
    exact ⟨_, rfl, HV2.out, HE.out⟩
set_option maxHeartbeats 8000000 in
set_option maxRecDepth 200000 in
theorem q8Mul_lim (v1 v2 : Value) (p r : Pl) (w : World) (h1 : SlS w v1 (p.map rb)) (h2 : SlS w v2 (r.map rb)) (tp : Tr p) (tr : Tr r) (lp : p.length ≤ 17) (lr : r.length ≤ 17) (hs : ∀ s ∈ p.map rb, s.size ≤ 12) (hs2 : ∀ s ∈ r.map rb, s.size ≤ 12) (hc : p ≠ []) (hc2 : r ≠ []) (hc3 : 18 < p.length + r.length) : Calls Tryz.prog 26 #[v1, v2] w (RetE 15 w) := by
  have l1 := List.length_pos_iff.2 hc
  have l2 := List.length_pos_iff.2 hc2
  have HB : Hid (Calls Tryz.prog 58 #[v1, v2] w fun e w' => ∃ u1 u2, e = .returned (.tuple #[u1, u2, .int .i64 0]) ∧ PQ w' u1 p ∧ PQ w' u2 r ∧ Ext w w') := q8both_yes v1 v2 p r w h1 h2 tp tr lp lr hs hs2
  obtain ⟨pl, hpl⟩ : ∃ k, p.length = k := ⟨_, rfl⟩
  obtain ⟨rl, hrl⟩ : ∃ k, r.length = k := ⟨_, rfl⟩
  have HPL := Lib.hid hpl
  have HRL := Lib.hid hrl
  rw [hpl] at lp
  rw [hrl] at lr
  have w1 : IntKind.i64.wrap ((pl : Int) + (rl : Int)) = (pl : Int) + (rl : Int) := by rw [IntKind.wrap_i64]; omega
  have w2 : IntKind.i64.wrap ((pl : Int) + (rl : Int) - 2) = (pl : Int) + (rl : Int) - 2 := by rw [IntKind.wrap_i64]; omega
  have z1 : (0 : Int) < (pl : Int) := by omega
  have z2 : (0 : Int) < (rl : Int) := by omega
  have z3 : (16 : Int) < (pl : Int) + (rl : Int) - 2 := by omega
  clear h1 h2 tp tr lp lr hs hs2 hc hc2 hc3 l1 l2 hpl hrl
  go_enter Tryz.func26, Tryz.ntmps26
  go_wp2_with fail
  refine HB.out.mono ?_
  rintro e w1 ⟨u1, u2, rfl, hp, hr, hE⟩
  have HE := Lib.hid hE
  have HP := Lib.hid hp
  have HR := Lib.hid hr
  obtain ⟨A, cA, rfl⟩ := hp.slc
  obtain ⟨B, cB, rfl⟩ := hr.slc
  rw [show p.length = pl from HPL.out] at HP ⊢
  rw [show r.length = rl from HRL.out] at HR ⊢
  clear hE hp hr HB
  go_wp2_with fail
  go_ret2
  exact ⟨rfl, HE.out⟩
set_option maxHeartbeats 8000000 in
set_option maxRecDepth 200000 in
theorem q8Div_no (v1 v2 : Value) (l m : List ByteArray) (w : World) (h1 : SlS w v1 l) (h2 : SlS w v2 m) (hl : l.length ≤ 1000) (hm : m.length ≤ 1000) (hs : ∀ s ∈ l, s.size ≤ 40) (hs2 : ∀ s ∈ m, s.size ≤ 40) (hb : (polB l && polB m) = false) : Calls Tryz.prog 28 #[v1, v2] w (RetE2 1 w) := by
  have HB : Hid (Calls Tryz.prog 58 #[v1, v2] w (RetE2 1 w)) := q8both_no v1 v2 l m w h1 h2 hl hm hs hs2 hb
  clear h1 h2 hl hm hs hs2 hb
  go_enter Tryz.func28, Tryz.ntmps28
  go_wp2_with fail
  refine HB.out.mono ?_
  rintro e w1 ⟨rfl, hE⟩
  have HE := Lib.hid hE
  clear hE HB
  go_wp2_with fail
  go_ret3
  exact ⟨rfl, HE.out⟩
set_option maxHeartbeats 8000000 in
set_option maxRecDepth 200000 in
theorem q8Div_zero (v1 v2 : Value) (p : Pl) (w : World) (h1 : SlS w v1 (p.map rb)) (h2 : SlS w v2 (([] : Pl).map rb)) (tp : Tr p) (tr : Tr []) (lp : p.length ≤ 17) (lr : ([] : Pl).length ≤ 17) (hs : ∀ s ∈ p.map rb, s.size ≤ 12) (hs2 : ∀ s ∈ ([] : Pl).map rb, s.size ≤ 12) : Calls Tryz.prog 28 #[v1, v2] w (RetE2 16 w) := by
  have HB : Hid (Calls Tryz.prog 58 #[v1, v2] w fun e w' => ∃ u1 u2, e = .returned (.tuple #[u1, u2, .int .i64 0]) ∧ PQ w' u1 p ∧ PQ w' u2 [] ∧ Ext w w') := q8both_yes v1 v2 p [] w h1 h2 tp tr lp lr hs hs2
  clear h1 h2 tp tr lp lr hs hs2
  go_enter Tryz.func28, Tryz.ntmps28
  go_wp2_with fail
  refine HB.out.mono ?_
  rintro e w1 ⟨u1, u2, rfl, hp, hr, hE⟩
  have HE := Lib.hid hE
  have HP := Lib.hid hp
  have HR := Lib.hid hr
  obtain ⟨B, cB, rfl⟩ := hr.slc
  clear hE hp hr HB
  simp only [List.length_nil]
  go_wp2_with fail
  go_ret3
  exact ⟨rfl, HE.out⟩
/-- Quotient and remainder as texts. -/
def DivT (p r : Pl) (w : World) (e : Ending) (w' : World) : Prop := ∃ v1 v2 q t, e = .returned (.tuple #[v1, v2, .int .i64 0]) ∧ DivRel p r q t ∧ PS w' v1 q ∧ PS w' v2 t ∧ Ext w w'
set_option maxRecDepth 100000 in
theorem div_bits {p r : Pl} (lp : p.length ≤ 17) (lr : r.length ≤ 17) : 200 * (cdB 816 816 (p.length - r.length + 1) + 2 * 816 + 10) ≤ KK ∧ remB p.length 816 r.length 816 ≤ 20000 ∧ p.length * (ovX p.length 816 r.length 816 + 1) ≤ 400000 := by
  have h := cdB_mono (n := 816) (m := 816) (show p.length - r.length + 1 ≤ 18 by omega)
  have e : cdB 816 816 18 ≤ 16000 := by unfold cdB; omega
  have k := kk38
  generalize cdB 816 816 18 = c18 at *
  have h3 : cdB 816 816 (p.length - r.length + 1) ≤ 16000 := Nat.le_trans h e
  clear h e
  refine ⟨?_, ?_, ?_⟩
  · generalize cdB 816 816 (p.length - r.length + 1) = c at *
    omega
  · unfold remB; split
    · omega
    · exact Nat.le_trans h3 (by omega)
  · have h2 : ovX p.length 816 r.length 816 + 1 ≤ 17000 := by
      unfold ovX
      generalize cdB 816 816 (p.length - r.length + 1) = c at *
      omega
    have := Nat.mul_le_mul lp h2
    omega
set_option maxHeartbeats 8000000 in
set_option maxRecDepth 200000 in
theorem q8Div_yes (v1 v2 : Value) (p r : Pl) (w : World) (h1 : SlS w v1 (p.map rb)) (h2 : SlS w v2 (r.map rb)) (tp : Tr p) (tr : Tr r) (lp : p.length ≤ 17) (lr : r.length ≤ 17) (hs : ∀ s ∈ p.map rb, s.size ≤ 12) (hs2 : ∀ s ∈ r.map rb, s.size ≤ 12) (hr0 : r ≠ []) : Calls Tryz.prog 28 #[v1, v2] w (DivT p r w) := by
  have hp := pb12 hs
  have hr := pb12 hs2
  have hbt := div_bits lp lr
  have l2 := List.length_pos_iff.2 hr0
  have HB : Hid (Calls Tryz.prog 58 #[v1, v2] w fun e w' => ∃ u1 u2, e = .returned (.tuple #[u1, u2, .int .i64 0]) ∧ PQ w' u1 p ∧ PQ w' u2 r ∧ Ext w w') := q8both_yes v1 v2 p r w h1 h2 tp tr lp lr hs hs2
  have HC : Hid (∀ W a b, PQ W a p → PQ W b r → Calls Tryz.prog 65 #[a, b] W (DivP8 p r 816 816 W)) := fun W a b ha hb => q8Over_v a b p r 816 816 W ha hb (cbm hp lp) (cbm hr lr) tp tr hr0 lp lr hbt.1
  have HT : Hid (∀ W u q, PQ W u q → q.length ≤ 17 → PB q 400000 → Calls Tryz.prog 49 #[u] W fun e w' => ∃ v', e = .returned v' ∧ SlS w' v' (q.map rb) ∧ Ext W w') := fun W u q hu hl hq => q8To_any u q 400000 W hu (by omega) hq (by have := kk38; omega)
  have HLm := Lib.hid (show p.length ≤ 17 ∧ r.length ≤ 17 ∧ _ ∧ _ from ⟨lp, lr, hbt.2⟩)
  obtain ⟨rl, hrl⟩ : ∃ k, r.length = k := ⟨_, rfl⟩
  have HRL := Lib.hid hrl
  have z1 : ((rl : Int) == 0) = false := beq_eq_false_iff_ne.2 (by omega)
  clear h1 h2 tp tr lp lr hs hs2 hp hr hr0 hbt l2 hrl
  go_enter Tryz.func28, Tryz.ntmps28
  go_wp2_with fail
  refine HB.out.mono ?_
  rintro e w1 ⟨u1, u2, rfl, hp, hr, hE⟩
  have HE := Lib.hid hE
  have HP := Lib.hid hp
  have HR := Lib.hid hr
  obtain ⟨B, cB, rfl⟩ := hr.slc
  rw [show r.length = rl from HRL.out] at HR ⊢
  clear hE hp hr HB
  go_wp2_with fail
  refine (HC.out _ _ _ HP.out HR.out).mono ?_
  rintro e w2 ⟨v5, v6, q, t, rfl, hd, hcb, hpb, hql, hq, ht, hE⟩
  have HQ := Lib.hid hq
  have HTt := Lib.hid ht
  have HD := Lib.hid hd
  replace HE := Lib.hid (HE.out.tr hE)
  have HT1 : Hid (∀ W u, PQ W u q → Calls Tryz.prog 49 #[u] W fun e w' => ∃ v', e = .returned v' ∧ SlS w' v' (q.map rb) ∧ Ext W w') := fun W u hu => HT.out W u q hu (Nat.le_trans hql HLm.out.1) (hpb.mono HLm.out.2.2.2)
  have HT2 : Hid (∀ W u, PQ W u t → Calls Tryz.prog 49 #[u] W fun e w' => ∃ v', e = .returned v' ∧ SlS w' v' (t.map rb) ∧ Ext W w') := fun W u hu => HT.out W u t hu (by have := hd.lt; have := HLm.out.2.1; omega) (hcb.pb.mono (Nat.le_trans HLm.out.2.2.1 (by omega)))
  clear hd hcb hpb hql hq ht hE HP HR HT
  go_wp2_with fail
  refine (HT1.out _ _ HQ.out).mono ?_
  rintro e w3 ⟨v7, rfl, hv, hE⟩
  have HV7 := Lib.hid hv
  replace HTt := PQ.hext HTt hE
  replace HE := Lib.hid (HE.out.tr hE)
  clear hv hE HQ
  go_wp2_with fail
  refine (HT2.out _ _ HTt.out).mono ?_
  rintro e w4 ⟨v8, rfl, hv, hE⟩
  have HV8 := Lib.hid hv
  replace HV7 := SlS.hext HV7 hE
  replace HE := Lib.hid (HE.out.tr hE)
  clear hv hE HTt
  go_wp2_with fail
  go_ret3
  exact ⟨_, _, q, t, rfl, HD.out, HV7.out, HV8.out, HE.out⟩
set_option maxHeartbeats 8000000 in
set_option maxRecDepth 200000 in
theorem q8Gcd_no (v1 v2 : Value) (l m : List ByteArray) (w : World) (h1 : SlS w v1 l) (h2 : SlS w v2 m) (hl : l.length ≤ 1000) (hm : m.length ≤ 1000) (hs : ∀ s ∈ l, s.size ≤ 40) (hs2 : ∀ s ∈ m, s.size ≤ 40) (hb : (polB l && polB m) = false) : Calls Tryz.prog 30 #[v1, v2] w (RetE 1 w) := by
  have HB : Hid (Calls Tryz.prog 58 #[v1, v2] w (RetE2 1 w)) := q8both_no v1 v2 l m w h1 h2 hl hm hs hs2 hb
  clear h1 h2 hl hm hs hs2 hb
  go_enter Tryz.func30, Tryz.ntmps30
  go_wp2_with fail
  refine HB.out.mono ?_
  rintro e w1 ⟨rfl, hE⟩
  have HE := Lib.hid hE
  clear hE HB
  go_wp2_with fail
  go_ret2
  exact ⟨rfl, HE.out⟩
set_option maxHeartbeats 8000000 in
set_option maxRecDepth 200000 in
theorem q8Gcd_yes (v1 v2 : Value) (p r : Pl) (w : World) (h1 : SlS w v1 (p.map rb)) (h2 : SlS w v2 (r.map rb)) (tp : Tr p) (tr : Tr r) (lp : p.length ≤ 17) (lr : r.length ≤ 17) (hs : ∀ s ∈ p.map rb, s.size ≤ 12) (hs2 : ∀ s ∈ r.map rb, s.size ≤ 12) (hg : ¬ (6 < p.length ∧ 2 < r.length)) : Calls Tryz.prog 30 #[v1, v2] w (RetQ0 (fun W u => ∃ d, PS W u d ∧ GcdRel p r d) w) := by
  have hp := pb12 hs
  have hr := pb12 hs2
  have hgk : gok 17 p.length (p.length * 48) r.length (r.length * 48) 400000 = true := by
    have h := gokAll p.length (by omega) r.length (by omega)
    have e : (decide (6 < p.length) && decide (2 < r.length)) = false := by
      cases h6 : decide (6 < p.length)
      · rfl
      · cases h2 : decide (2 < r.length)
        · rfl
        · exact absurd ⟨of_decide_eq_true h6, of_decide_eq_true h2⟩ hg
    rw [e] at h; exact h
  have HB : Hid (Calls Tryz.prog 58 #[v1, v2] w fun e w' => ∃ u1 u2, e = .returned (.tuple #[u1, u2, .int .i64 0]) ∧ PQ w' u1 p ∧ PQ w' u2 r ∧ Ext w w') := q8both_yes v1 v2 p r w h1 h2 tp tr lp lr hs hs2
  have HC : Hid (∀ W a b, PQ W a p → PQ W b r → Calls Tryz.prog 67 #[a, b] W (GcdP8 p r 400000 W)) := fun W a b ha hb => q8Common_v a b p r (p.length * 48) (r.length * 48) 17 400000 W ha hb ⟨tp, tr, cbl hp, cbl hr, lp, lr, lr, hgk, fun d h => h⟩ (by have := kk38; omega)
  have HT : Hid (∀ W u q, PQ W u q → q.length ≤ 17 → PB q (2 * 400000 + 2) → Calls Tryz.prog 49 #[u] W fun e w' => ∃ v', e = .returned v' ∧ SlS w' v' (q.map rb) ∧ Ext W w') := fun W u q hu hl hq => q8To_any u q _ W hu (by omega) hq (by have := kk38; omega)
  clear h1 h2 tp tr lp lr hs hs2 hp hr hg hgk
  go_enter Tryz.func30, Tryz.ntmps30
  go_wp2_with fail
  refine HB.out.mono ?_
  rintro e w1 ⟨u1, u2, rfl, hp, hr, hE⟩
  have HE := Lib.hid hE
  have HP := Lib.hid hp
  have HR := Lib.hid hr
  clear hE hp hr HB
  go_wp2_with fail
  refine (HC.out _ _ _ HP.out HR.out).mono ?_
  rintro e w2 ⟨v5, d, rfl, hv, hd, hpb, hdl, hE⟩
  have HV := Lib.hid hv
  have HD := Lib.hid hd
  replace HE := Lib.hid (HE.out.tr hE)
  have HT1 : Hid (∀ W u, PQ W u d → Calls Tryz.prog 49 #[u] W fun e w' => ∃ v', e = .returned v' ∧ SlS w' v' (d.map rb) ∧ Ext W w') := fun W u hu => HT.out W u d hu hdl hpb
  clear hd hpb hdl hE hv HP HR HT
  go_wp2_with fail
  refine (HT1.out _ _ HV.out).mono ?_
  rintro e w3 ⟨v6, rfl, hv, hE⟩
  have HV6 := Lib.hid hv
  replace HE := Lib.hid (HE.out.tr hE)
  clear hv hE HV
  go_wp2_with fail
  go_ret2
  exact ⟨_, rfl, ⟨d, HV6.out, HD.out⟩, HE.out⟩
end Go.Proofs.YtbldlibijojbjaaGreatDoor.GB
