import Derived.Test.YtbldlibijojbjaaGreatDoorCJm
import Derived.Test.YtbldlibijojbjaaGreatDoorCJv
import Derived.Test.YtbldlibijojbjaaGreatDoorMHm
import Derived.Test.YtbldlibijojbjaaGreatDoorMSh
namespace Go.Proofs.YtbldlibijojbjaaGreatDoor.GB
set_option linter.unusedVariables false
set_option linter.unusedSimpArgs false
open Go.RowKit Go.Shelf
attribute [local go_sem ↓] Go.wp_at_zero Go.wp_at_succ
theorem pb48 {p : Pl} (hs : ∀ s ∈ p.map rb, s.size ≤ 12) : PB p 48 := fun q hq => bd_size q 12 (hs _ (List.mem_map.2 ⟨q, hq, rfl⟩))
theorem kk64 : 4294967296 ≤ KK := by unfold KK; omega
set_option maxHeartbeats 8000000 in
set_option maxRecDepth 200000 in
theorem q8Der_no (v : Value) (l : List ByteArray) (w : World) (h : SlS w v l) (hl : l.length ≤ 1000) (hs : ∀ s ∈ l, s.size ≤ 40) (hb : polB l = false) :
    Calls Tryz.prog 34 #[v] w (RetE 1 w) := by
  have HF : Hid (∀ W, Ext w W → Calls Tryz.prog 53 #[v] W fun e w' => ∃ v, e = .returned (.tuple #[v, .bool false]) ∧ Ext W w') := fun W hE => q8From_no v l false W (h.ext hE) hl hs hb
  clear h hl hs hb
  go_enter Tryz.func34, Tryz.ntmps34
  go_wp2_with fail
  refine (HF.out _ (Ext.rfl' _)).mono ?_
  rintro e w1 ⟨v1, rfl, hE⟩
  have HE := Lib.hid hE
  clear hE HF
  go_wp2_with fail
  go_ret2
  exact ⟨rfl, HE.out⟩
set_option maxHeartbeats 8000000 in
set_option maxRecDepth 200000 in
theorem q8Der_yes (v : Value) (p : Pl) (w : World) (h : SlS w v (p.map rb)) (tp : Tr p) (lp : p.length ≤ 17) (hs : ∀ s ∈ p.map rb, s.size ≤ 12) :
    Calls Tryz.prog 34 #[v] w (RetQ0 (fun W u => PS W u (pder p)) w) := by
  have hpb := pb48 hs
  have HF : Hid (∀ W, Ext w W → Calls Tryz.prog 53 #[v] W fun e w' => ∃ v, e = .returned (.tuple #[v, .bool true]) ∧ PQ w' v p ∧ Ext W w') := fun W hE => q8From_yes v p W (h.ext hE) tp lp (fun s h => Nat.le_trans (hs s h) (by omega))
  have HC : Hid (∀ W u, PQ W u p → Calls Tryz.prog 75 #[u] W (RetPQ (ptrim (pder p)) W)) := fun W u hu => q8Slope_v u p 48 W hu hpb (by omega) (by unfold KK; omega)
  have HT : Hid (∀ W u, PQ W u (ptrim (pder p)) → Calls Tryz.prog 49 #[u] W fun e w' => ∃ v', e = .returned v' ∧ SlS w' v' ((pder p).map rb) ∧ Ext W w') := fun W u hu => by
    rw [ptrim_tr (pder_tr tp)] at hu
    exact q8To_any u _ 100 W hu (by rw [pder_len]; omega) ((pder_pb hpb (by omega)).mono (by omega)) (by unfold KK; omega)
  clear h tp lp hs hpb
  generalize ptrim (pder p) = R1 at *
  go_enter Tryz.func34, Tryz.ntmps34
  go_wp2_with fail
  refine (HF.out _ (Ext.rfl' _)).mono ?_
  rintro e w1 ⟨v1, rfl, hv, hE⟩
  obtain ⟨A1, c1, rfl⟩ := hv.slc
  have HV1 := Lib.hid hv
  have HE := Lib.hid hE
  clear hE HF hv
  go_wp2_with fail
  refine (HC.out _ _ HV1.out).mono ?_
  rintro e w2 ⟨v2, rfl, hv, hE⟩
  obtain ⟨A2, c2, rfl⟩ := hv.slc
  have HV2 := Lib.hid hv
  replace HE := Lib.hid (HE.out.tr hE)
  clear hv hE
  go_wp2_with fail
  refine (HT.out _ _ HV2.out).mono ?_
  rintro e w3 ⟨v3, rfl, hv, hE⟩
  have HV3 := Lib.hid hv
  replace HE := Lib.hid (HE.out.tr hE)
  clear hv hE
  go_wp2_with fail
  go_ret2
  exact ⟨_, rfl, HV3.out, HE.out⟩
set_option maxHeartbeats 8000000 in
set_option maxRecDepth 200000 in
theorem q8Int_no (v : Value) (l : List ByteArray) (w : World) (h : SlS w v l) (hl : l.length ≤ 1000) (hs : ∀ s ∈ l, s.size ≤ 40) (hb : polB l = false) :
    Calls Tryz.prog 36 #[v] w (RetE 1 w) := by
  have HF : Hid (∀ W, Ext w W → Calls Tryz.prog 53 #[v] W fun e w' => ∃ v, e = .returned (.tuple #[v, .bool false]) ∧ Ext W w') := fun W hE => q8From_no v l false W (h.ext hE) hl hs hb
  clear h hl hs hb
  go_enter Tryz.func36, Tryz.ntmps36
  go_wp2_with fail
  refine (HF.out _ (Ext.rfl' _)).mono ?_
  rintro e w1 ⟨v1, rfl, hE⟩
  have HE := Lib.hid hE
  clear hE HF
  go_wp2_with fail
  go_ret2
  exact ⟨rfl, HE.out⟩
set_option maxHeartbeats 8000000 in
set_option maxRecDepth 200000 in
theorem q8Int_lim (v : Value) (p : Pl) (w : World) (h : SlS w v (p.map rb)) (tp : Tr p) (lp : p.length ≤ 17) (hs : ∀ s ∈ p.map rb, s.size ≤ 12) (h16 : 16 < p.length) :
    Calls Tryz.prog 36 #[v] w (RetE 15 w) := by
  have HF : Hid (∀ W, Ext w W → Calls Tryz.prog 53 #[v] W fun e w' => ∃ v, e = .returned (.tuple #[v, .bool true]) ∧ PQ w' v p ∧ Ext W w') := fun W hE => q8From_yes v p W (h.ext hE) tp lp (fun s h => Nat.le_trans (hs s h) (by omega))
  obtain ⟨n, hn⟩ : ∃ n, p.length = n := ⟨_, rfl⟩
  have HN := Lib.hid hn
  have hz : (16 : Int) < (n : Int) := by omega
  clear h tp lp hs h16 hn
  go_enter Tryz.func36, Tryz.ntmps36
  go_wp2_with fail
  refine (HF.out _ (Ext.rfl' _)).mono ?_
  rintro e w1 ⟨v1, rfl, hq, hE⟩
  obtain ⟨A1, c1, rfl⟩ := hq.slc
  have HE := Lib.hid hE
  rw [show p.length = n from HN.out]
  clear hE HF hq
  go_wp2_with fail
  go_ret2
  exact ⟨rfl, HE.out⟩
set_option maxHeartbeats 8000000 in
set_option maxRecDepth 200000 in
theorem q8Int_yes (v : Value) (p : Pl) (w : World) (h : SlS w v (p.map rb)) (tp : Tr p) (lp : p.length ≤ 17) (hs : ∀ s ∈ p.map rb, s.size ≤ 12) (h16 : p.length ≤ 16) :
    Calls Tryz.prog 36 #[v] w (RetQ0 (fun W u => PS W u (pint p)) w) := by
  have hpb := pb48 hs
  have HF : Hid (∀ W, Ext w W → Calls Tryz.prog 53 #[v] W fun e w' => ∃ v, e = .returned (.tuple #[v, .bool true]) ∧ PQ w' v p ∧ Ext W w') := fun W hE => q8From_yes v p W (h.ext hE) tp lp (fun s h => Nat.le_trans (hs s h) (by omega))
  have HC : Hid (∀ W u, PQ W u p → Calls Tryz.prog 77 #[u] W (RetPQ (ptrim (pint p)) W)) := fun W u hu => q8Area_v u p 48 W hu hpb (by omega) (by unfold KK; omega)
  have HT : Hid (∀ W u, PQ W u (ptrim (pint p)) → Calls Tryz.prog 49 #[u] W fun e w' => ∃ v', e = .returned v' ∧ SlS w' v' ((pint p).map rb) ∧ Ext W w') := fun W u hu => by
    rw [ptrim_tr (pint_tr tp)] at hu
    exact q8To_any u _ 100 W hu (by rw [pint_len]; split <;> omega) ((pint_pb hpb (by omega)).mono (by omega)) (by unfold KK; omega)
  obtain ⟨n, hn⟩ : ∃ n, p.length = n := ⟨_, rfl⟩
  have HN := Lib.hid hn
  have hz : ¬ (16 : Int) < (n : Int) := by omega
  clear h tp lp hs hpb h16 hn
  generalize ptrim (pint p) = R1 at *
  go_enter Tryz.func36, Tryz.ntmps36
  go_wp2_with fail
  refine (HF.out _ (Ext.rfl' _)).mono ?_
  rintro e w1 ⟨v1, rfl, hv, hE⟩
  obtain ⟨A1, c1, rfl⟩ := hv.slc
  have HV1 := Lib.hid hv
  have HE := Lib.hid hE
  rw [show p.length = n from HN.out] at HV1 ⊢
  clear hE HF hv
  go_wp2_with fail
  refine (HC.out _ _ HV1.out).mono ?_
  rintro e w2 ⟨v2, rfl, hv, hE⟩
  obtain ⟨A2, c2, rfl⟩ := hv.slc
  have HV2 := Lib.hid hv
  replace HE := Lib.hid (HE.out.tr hE)
  clear hv hE
  go_wp2_with fail
  refine (HT.out _ _ HV2.out).mono ?_
  rintro e w3 ⟨v3, rfl, hv, hE⟩
  have HV3 := Lib.hid hv
  replace HE := Lib.hid (HE.out.tr hE)
  clear hv hE
  go_wp2_with fail
  go_ret2
  exact ⟨_, rfl, HV3.out, HE.out⟩
set_option maxHeartbeats 8000000 in
set_option maxRecDepth 200000 in
theorem q8Ev_n1 (v : Value) (l : List ByteArray) (s : ByteArray) (w : World) (h : SlS w v l) (hl : l.length ≤ 1000) (hs : ∀ s ∈ l, s.size ≤ 40) (h1 : s.size ≤ 40) (hb : polB l = false)  :
    Calls Tryz.prog 32 #[v, .string s] w (RetT 1 w) := by
  have HF : Hid (∀ W, Ext w W → Calls Tryz.prog 53 #[v] W fun e w' => ∃ v, e = .returned (.tuple #[v, .bool false]) ∧ Ext W w') := fun W hE => q8From_no v l false W (h.ext hE) hl hs hb
  obtain ⟨b, hi⟩ : ∃ b, ratB s.data.toList = b := ⟨_, rfl⟩
  have HG : Hid (∀ W, Calls Tryz.prog 71 #[.string s] W fun e w' => ∃ v, e = .returned (.tuple #[v, .bool b]) ∧ (∃ a, QV w' v a) ∧ Ext W w') := fun W => (q3From_20 s W h1).mono fun e w' ⟨v, a, he, hj, _, hE⟩ => ⟨v, by rw [he, hi], ⟨a, hj⟩, hE⟩
  clear h hl hs h1 hb hi
  go_enter Tryz.func32, Tryz.ntmps32
  go_wp2_with fail
  refine (HF.out _ (Ext.rfl' _)).mono ?_
  rintro e w1 ⟨v1, rfl, hE⟩
  have HE := Lib.hid hE
  clear hE
  go_wp2_with fail
  refine (HG.out _).mono ?_
  rintro e w2 ⟨v2, rfl, ⟨aa, hj⟩, hE⟩
  obtain ⟨sj, Zj, lj, cj, Yj, mj, dj, rfl, -, -, -⟩ := hj.ex
  have e2 : Ext w2 (w2.alloc (.cells #[.bool sj, .slice Zj lj cj, .slice Yj mj dj] 86)) := (Ext.rfl' w2).al _
  replace HE := Lib.hid ((HE.out.tr hE).tr e2)
  clear hj hE e2
  go_wp2_with fail
  go_ret2
  exact ⟨rfl, HE.out⟩
set_option maxHeartbeats 8000000 in
set_option maxRecDepth 200000 in
theorem q8Ev_n2 (v : Value) (l : List ByteArray) (s : ByteArray) (w : World) (h : SlS w v l) (hl : l.length ≤ 1000) (hs : ∀ s ∈ l, s.size ≤ 40) (h1 : s.size ≤ 40) (hb : polB l = true) (hi : ratB s.data.toList = false) :
    Calls Tryz.prog 32 #[v, .string s] w (RetT 1 w) := by
  have HF : Hid (∀ W, Ext w W → Calls Tryz.prog 53 #[v] W fun e w' => ∃ v, e = .returned (.tuple #[v, .bool true]) ∧ Ext W w') := fun W hE => q8From_no v l true W (h.ext hE) hl hs hb
  have HG : Hid (∀ W, Calls Tryz.prog 71 #[.string s] W fun e w' => ∃ v, e = .returned (.tuple #[v, .bool false]) ∧ (∃ a, QV w' v a) ∧ Ext W w') := fun W => (q3From_20 s W h1).mono fun e w' ⟨v, a, he, hj, _, hE⟩ => ⟨v, by rw [he, hi], ⟨a, hj⟩, hE⟩
  clear h hl hs h1 hb hi
  go_enter Tryz.func32, Tryz.ntmps32
  go_wp2_with fail
  refine (HF.out _ (Ext.rfl' _)).mono ?_
  rintro e w1 ⟨v1, rfl, hE⟩
  have HE := Lib.hid hE
  clear hE
  go_wp2_with fail
  refine (HG.out _).mono ?_
  rintro e w2 ⟨v2, rfl, ⟨aa, hj⟩, hE⟩
  obtain ⟨sj, Zj, lj, cj, Yj, mj, dj, rfl, -, -, -⟩ := hj.ex
  have e2 : Ext w2 (w2.alloc (.cells #[.bool sj, .slice Zj lj cj, .slice Yj mj dj] 86)) := (Ext.rfl' w2).al _
  replace HE := Lib.hid ((HE.out.tr hE).tr e2)
  clear hj hE e2
  go_wp2_with fail
  go_ret2
  exact ⟨rfl, HE.out⟩
theorem q8Ev_no (v : Value) (l : List ByteArray) (s : ByteArray) (w : World) (h : SlS w v l) (hl : l.length ≤ 1000) (hs : ∀ s ∈ l, s.size ≤ 40) (h1 : s.size ≤ 40) (hb : (polB l && ratB s.data.toList) = false) :
    Calls Tryz.prog 32 #[v, .string s] w (RetT 1 w) := by
  cases hp : polB l
  · exact q8Ev_n1 v l s w h hl hs h1 hp
  · rw [hp] at hb
    exact q8Ev_n2 v l s w h hl hs h1 hp (by simpa using hb)
set_option maxHeartbeats 8000000 in
set_option maxRecDepth 200000 in
theorem q8Ev_yes (v : Value) (p : Pl) (X : Rat) (w : World) (h : SlS w v (p.map rb)) (tp : Tr p) (lp : p.length ≤ 17) (hs : ∀ s ∈ p.map rb, s.size ≤ 12) (h1 : (rb X).size ≤ 20) :
    Calls Tryz.prog 32 #[v, .string (rb X)] w (fun e w' => e = .returned (.tuple #[rtx (pev p X), .int .i64 0]) ∧ Ext w w') := by
  have hpb := pb48 hs
  have hX := bd_size X 20 h1
  have hr1 : ratB (rb X).data.toList = true := ratB_of ⟨X, rfl⟩
  have HF : Hid (∀ W, Ext w W → Calls Tryz.prog 53 #[v] W fun e w' => ∃ v, e = .returned (.tuple #[v, .bool true]) ∧ PQ w' v p ∧ Ext W w') := fun W hE => q8From_yes v p W (h.ext hE) tp lp (fun s h => Nat.le_trans (hs s h) (by omega))
  have HG : Hid (∀ W, Calls Tryz.prog 71 #[.string (rb X)] W fun e w' => ∃ v, e = .returned (.tuple #[v, .bool true]) ∧ QV w' v X ∧ Ext W w') := fun W => (q3From_20 _ W (by omega)).mono fun e w' ⟨v, a, he, hj, ha, hE⟩ => ⟨v, by rw [he, hr1], by rw [← ha X rfl]; exact hj, hE⟩
  have HC : Hid (∀ W u y, PQ W u p → QV W y X → Calls Tryz.prog 73 #[u, y] W (RetQ3 (pev p X) W)) := fun W u y hu hy => q8Value_v u y p X 48 80 W hu hy hpb hX (by omega) (by unfold KK; omega)
  have hbd := pev_bd hpb hX
  have hlz : p.length * (80 + 48 + 1) ≤ 17 * (80 + 48 + 1) := Nat.mul_le_mul_right _ lp
  have hft := bd_fit (hbd.mono (n := 3000) (by omega)) (by unfold KK; omega)
  have HT : Hid (∀ W u, QV W u (pev p X) → Calls Tryz.prog 72 #[u] W fun e w' => e = .returned (rtx (pev p X)) ∧ Ext W w') := fun W u hu => q3To_any u _ W hu hft.1 hft.2
  clear h tp lp hs h1 hpb hX hr1 hbd hlz hft
  generalize rb X = s at *
  generalize pev p X = R1 at *
  go_enter Tryz.func32, Tryz.ntmps32
  go_wp2_with fail
  refine (HF.out _ (Ext.rfl' _)).mono ?_
  rintro e w1 ⟨v1, rfl, hq, hE⟩
  obtain ⟨A1, c1, rfl⟩ := hq.slc
  have HQ := Lib.hid hq
  clear hq
  have HE := Lib.hid hE
  clear hE
  go_wp2_with fail
  refine (HG.out _).mono ?_
  rintro e w2 ⟨v2, rfl, hj, hE⟩
  obtain ⟨sj, Zj, lj, cj, Yj, mj, dj, rfl, -, -, -⟩ := hj.ex
  have e2 : Ext w2 (w2.alloc (.cells #[.bool sj, .slice Zj lj cj, .slice Yj mj dj] 86)) := (Ext.rfl' w2).al _
  replace HQ := PQ.hext (PQ.hext HQ hE) e2
  replace HE := Lib.hid ((HE.out.tr hE).tr e2)
  have HJ := Lib.hid (hj.ext e2)
  have HXj := Lib.hid (Bx.new w2 #[.bool sj, .slice Zj lj cj, .slice Yj mj dj] 86)
  clear hj hE e2
  go_wp2_with fail
  refine (HC.out _ _ _ HQ.out HJ.out).mono ?_
  rintro e w3 ⟨v3, rfl, hv, hE⟩
  obtain ⟨sk, Zk, lk, ck, Yk, mk, dk, rfl, -, -, -⟩ := hv.ex
  replace HE := Lib.hid (HE.out.tr hE)
  have HK := Lib.hid hv
  clear hv hE HQ HJ HXj
  go_wp2_with fail
  refine (HT.out _ _ HK.out).mono ?_
  rintro e w4 ⟨rfl, hE⟩
  replace HE := Lib.hid (HE.out.tr hE)
  clear hE HK
  go_wp2_with fail
  go_ret2
  exact ⟨rfl, HE.out⟩
set_option maxHeartbeats 8000000 in
set_option maxRecDepth 200000 in
theorem q8Sh_n1 (v : Value) (l : List ByteArray) (s : ByteArray) (w : World) (h : SlS w v l) (hl : l.length ≤ 1000) (hs : ∀ s ∈ l, s.size ≤ 40) (h1 : s.size ≤ 40) (hb : polB l = false)  :
    Calls Tryz.prog 38 #[v, .string s] w (RetE 1 w) := by
  have HF : Hid (∀ W, Ext w W → Calls Tryz.prog 53 #[v] W fun e w' => ∃ v, e = .returned (.tuple #[v, .bool false]) ∧ Ext W w') := fun W hE => q8From_no v l false W (h.ext hE) hl hs hb
  obtain ⟨b, hi⟩ : ∃ b, ratB s.data.toList = b := ⟨_, rfl⟩
  have HG : Hid (∀ W, Calls Tryz.prog 71 #[.string s] W fun e w' => ∃ v, e = .returned (.tuple #[v, .bool b]) ∧ (∃ a, QV w' v a) ∧ Ext W w') := fun W => (q3From_20 s W h1).mono fun e w' ⟨v, a, he, hj, _, hE⟩ => ⟨v, by rw [he, hi], ⟨a, hj⟩, hE⟩
  clear h hl hs h1 hb hi
  go_enter Tryz.func38, Tryz.ntmps38
  go_wp2_with fail
  refine (HF.out _ (Ext.rfl' _)).mono ?_
  rintro e w1 ⟨v1, rfl, hE⟩
  have HE := Lib.hid hE
  clear hE
  go_wp2_with fail
  refine (HG.out _).mono ?_
  rintro e w2 ⟨v2, rfl, ⟨aa, hj⟩, hE⟩
  obtain ⟨sj, Zj, lj, cj, Yj, mj, dj, rfl, -, -, -⟩ := hj.ex
  have e2 : Ext w2 (w2.alloc (.cells #[.bool sj, .slice Zj lj cj, .slice Yj mj dj] 86)) := (Ext.rfl' w2).al _
  replace HE := Lib.hid ((HE.out.tr hE).tr e2)
  clear hj hE e2
  go_wp2_with fail
  go_ret2
  exact ⟨rfl, HE.out⟩
set_option maxHeartbeats 8000000 in
set_option maxRecDepth 200000 in
theorem q8Sh_n2 (v : Value) (l : List ByteArray) (s : ByteArray) (w : World) (h : SlS w v l) (hl : l.length ≤ 1000) (hs : ∀ s ∈ l, s.size ≤ 40) (h1 : s.size ≤ 40) (hb : polB l = true) (hi : ratB s.data.toList = false) :
    Calls Tryz.prog 38 #[v, .string s] w (RetE 1 w) := by
  have HF : Hid (∀ W, Ext w W → Calls Tryz.prog 53 #[v] W fun e w' => ∃ v, e = .returned (.tuple #[v, .bool true]) ∧ Ext W w') := fun W hE => q8From_no v l true W (h.ext hE) hl hs hb
  have HG : Hid (∀ W, Calls Tryz.prog 71 #[.string s] W fun e w' => ∃ v, e = .returned (.tuple #[v, .bool false]) ∧ (∃ a, QV w' v a) ∧ Ext W w') := fun W => (q3From_20 s W h1).mono fun e w' ⟨v, a, he, hj, _, hE⟩ => ⟨v, by rw [he, hi], ⟨a, hj⟩, hE⟩
  clear h hl hs h1 hb hi
  go_enter Tryz.func38, Tryz.ntmps38
  go_wp2_with fail
  refine (HF.out _ (Ext.rfl' _)).mono ?_
  rintro e w1 ⟨v1, rfl, hE⟩
  have HE := Lib.hid hE
  clear hE
  go_wp2_with fail
  refine (HG.out _).mono ?_
  rintro e w2 ⟨v2, rfl, ⟨aa, hj⟩, hE⟩
  obtain ⟨sj, Zj, lj, cj, Yj, mj, dj, rfl, -, -, -⟩ := hj.ex
  have e2 : Ext w2 (w2.alloc (.cells #[.bool sj, .slice Zj lj cj, .slice Yj mj dj] 86)) := (Ext.rfl' w2).al _
  replace HE := Lib.hid ((HE.out.tr hE).tr e2)
  clear hj hE e2
  go_wp2_with fail
  go_ret2
  exact ⟨rfl, HE.out⟩
theorem q8Sh_no (v : Value) (l : List ByteArray) (s : ByteArray) (w : World) (h : SlS w v l) (hl : l.length ≤ 1000) (hs : ∀ s ∈ l, s.size ≤ 40) (h1 : s.size ≤ 40) (hb : (polB l && ratB s.data.toList) = false) :
    Calls Tryz.prog 38 #[v, .string s] w (RetE 1 w) := by
  cases hp : polB l
  · exact q8Sh_n1 v l s w h hl hs h1 hp
  · rw [hp] at hb
    exact q8Sh_n2 v l s w h hl hs h1 hp (by simpa using hb)
theorem sf48 : 40 * (sfB 48 80 17 + 80 + 48 + 2) ≤ 4294967296 := by decide +kernel
set_option maxHeartbeats 8000000 in
set_option maxRecDepth 200000 in
theorem q8Sh_yes (v : Value) (p : Pl) (X : Rat) (w : World) (h : SlS w v (p.map rb)) (tp : Tr p) (lp : p.length ≤ 17) (hs : ∀ s ∈ p.map rb, s.size ≤ 12) (h1 : (rb X).size ≤ 20) :
    Calls Tryz.prog 38 #[v, .string (rb X)] w (RetQ0 (fun W u => PS W u (pshf X p)) w) := by
  have hpb := pb48 hs
  have hX := bd_size X 20 h1
  have hr1 : ratB (rb X).data.toList = true := ratB_of ⟨X, rfl⟩
  have HF : Hid (∀ W, Ext w W → Calls Tryz.prog 53 #[v] W fun e w' => ∃ v, e = .returned (.tuple #[v, .bool true]) ∧ PQ w' v p ∧ Ext W w') := fun W hE => q8From_yes v p W (h.ext hE) tp lp (fun s h => Nat.le_trans (hs s h) (by omega))
  have HG : Hid (∀ W, Calls Tryz.prog 71 #[.string (rb X)] W fun e w' => ∃ v, e = .returned (.tuple #[v, .bool true]) ∧ QV w' v X ∧ Ext W w') := fun W => (q3From_20 _ W (by omega)).mono fun e w' ⟨v, a, he, hj, ha, hE⟩ => ⟨v, by rw [he, hr1], by rw [← ha X rfl]; exact hj, hE⟩
  have HC : Hid (∀ W u y, PQ W u p → QV W y X → Calls Tryz.prog 78 #[u, y] W (RetPQ (pshf X p) W)) := fun W u y hu hy => q8Moved_v u y p X 48 80 W hu hy hpb hX tp lp (Nat.le_trans sf48 kk64)
  have hbd : PB (pshf X p) (sfB 48 80 17) := (pshf_pb X hpb hX).mono (sfB_mono lp)
  have hln : (pshf X p).length ≤ 1000 := by rw [pshf_len X tp]; omega
  have hsk : sfB 48 80 17 + 1 ≤ KK := by have := sf48; have := kk64; omega
  have HT : Hid (∀ W u, PQ W u (pshf X p) → Calls Tryz.prog 49 #[u] W fun e w' => ∃ v', e = .returned v' ∧ SlS w' v' ((pshf X p).map rb) ∧ Ext W w') := fun W u hu => q8To_any u _ (sfB 48 80 17) W hu hln hbd hsk
  clear h tp lp hs h1 hpb hX hr1 hbd hln hsk
  generalize rb X = s at *
  go_enter Tryz.func38, Tryz.ntmps38
  go_wp2_with fail
  refine (HF.out _ (Ext.rfl' _)).mono ?_
  rintro e w1 ⟨v1, rfl, hq, hE⟩
  obtain ⟨A1, c1, rfl⟩ := hq.slc
  have HQ := Lib.hid hq
  clear hq
  have HE := Lib.hid hE
  clear hE
  go_wp2_with fail
  refine (HG.out _).mono ?_
  rintro e w2 ⟨v2, rfl, hj, hE⟩
  obtain ⟨sj, Zj, lj, cj, Yj, mj, dj, rfl, -, -, -⟩ := hj.ex
  have e2 : Ext w2 (w2.alloc (.cells #[.bool sj, .slice Zj lj cj, .slice Yj mj dj] 86)) := (Ext.rfl' w2).al _
  replace HQ := PQ.hext (PQ.hext HQ hE) e2
  replace HE := Lib.hid ((HE.out.tr hE).tr e2)
  have HJ := Lib.hid (hj.ext e2)
  have HXj := Lib.hid (Bx.new w2 #[.bool sj, .slice Zj lj cj, .slice Yj mj dj] 86)
  clear hj hE e2
  go_wp2_with fail
  refine (HC.out _ _ _ HQ.out HJ.out).mono ?_
  rintro e w3 ⟨v3, rfl, hv, hE⟩
  obtain ⟨A3, c3, rfl⟩ := hv.slc
  replace HE := Lib.hid (HE.out.tr hE)
  have HK := Lib.hid hv
  clear hv hE HQ HJ HXj
  go_wp2_with fail
  refine (HT.out _ _ HK.out).mono ?_
  rintro e w4 ⟨v4, rfl, hv, hE⟩
  replace HE := Lib.hid (HE.out.tr hE)
  have HL := Lib.hid hv
  clear hE hv HK
  go_wp2_with fail
  go_ret2
  exact ⟨_, rfl, HL.out, HE.out⟩
end Go.Proofs.YtbldlibijojbjaaGreatDoor.GB
