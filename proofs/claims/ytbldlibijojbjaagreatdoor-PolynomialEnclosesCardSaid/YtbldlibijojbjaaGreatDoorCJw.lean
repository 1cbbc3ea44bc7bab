import Derived.Test.YtbldlibijojbjaaGreatDoorCJe
import Derived.Test.YtbldlibijojbjaaGreatDoorCJr
import Derived.Test.YtbldlibijojbjaaGreatDoorCCn
namespace Go.Proofs.YtbldlibijojbjaaGreatDoor.GB
set_option linter.unusedVariables false
set_option linter.unusedSimpArgs false
open Go.RowKit Go.Shelf
attribute [local go_sem ↓] Go.wp_at_zero Go.wp_at_succ
set_option maxHeartbeats 8000000 in
set_option maxRecDepth 200000 in
theorem q8Enc_n1 (v : Value) (l : List ByteArray) (s t : ByteArray) (w : World) (h : SlS w v l) (hl : l.length ≤ 1000) (hs : ∀ s ∈ l, s.size ≤ 40) (h1 : s.size ≤ 40) (h2 : t.size ≤ 40) (hb : polB l = false)  :
    Calls Tryz.prog 40 #[v, .agg #[.string s, .string t]] w (RetIv 1 w) := by
  have HF : Hid (∀ W, Ext w W → Calls Tryz.prog 53 #[v] W fun e w' => ∃ v, e = .returned (.tuple #[v, .bool false]) ∧ Ext W w') := fun W hE => q8From_no v l false W (h.ext hE) hl hs hb
  obtain ⟨b, hi⟩ : ∃ b, ivB s t = b := ⟨_, rfl⟩
  have HG : Hid (∀ W, Calls Tryz.prog 82 #[.agg #[.string s, .string t]] W fun e w' => ∃ v, e = .returned (.tuple #[v, .bool b]) ∧ (∃ a b, JV w' v a b) ∧ Ext W w') := fun W => (jFrom_v s t W h1 h2).mono fun e w' ⟨v, a, b, he, hj, _, _, hE⟩ => ⟨v, by rw [he, hi], ⟨a, b, hj⟩, hE⟩
  clear h hl hs h1 h2 hb hi
  go_enter Tryz.func40, Tryz.ntmps40
  go_wp2_with fail
  obtain ⟨X1, X2, E0⟩ := boxes2 w #[.string s, .string t] #[.string ⟨#[]⟩, .string ⟨#[]⟩] 44
  refine (HF.out _ E0).mono ?_
  rintro e w1 ⟨v1, rfl, hE⟩
  have HX := Lib.hid (X2.ext hE)
  have HE := Lib.hid (E0.tr hE)
  have a0 : w1.cell? ⟨w.heap.size, 0, none⟩ = some (.string s) := (X1.ext hE).c 0
  have a1 : w1.cell? ⟨w.heap.size, 1, none⟩ = some (.string t) := (X1.ext hE).c 1
  clear X1 X2 E0 hE
  go_wp2_with fail
  refine (HG.out _).mono ?_
  rintro e w2 ⟨v2, rfl, ⟨aa, bb, hj⟩, hE⟩
  obtain ⟨sjx, Zjx, ljx, cjx, Yjx, mjx, djx, sjy, Zjy, ljy, cjy, Yjy, mjy, djy, rfl⟩ := hj.ex
  have e2 : Ext w2 (w2.alloc (.cells #[.bool sjx, .slice Zjx ljx cjx, .slice Yjx mjx djx, .bool sjy, .slice Zjy ljy cjy, .slice Yjy mjy djy] 96)) := (Ext.rfl' w2).al _
  replace HX := Bx.hext (Bx.hext HX hE) e2
  replace HE := Lib.hid ((HE.out.tr hE).tr e2)
  have y0 : (w2.alloc (.cells #[.bool sjx, .slice Zjx ljx cjx, .slice Yjx mjx djx, .bool sjy, .slice Zjy ljy cjy, .slice Yjy mjy djy] 96)).cell? ⟨w.heap.size + 1, 0, none⟩ = some (.string ⟨#[]⟩) := HX.out.c 0; have y1 : (w2.alloc (.cells #[.bool sjx, .slice Zjx ljx cjx, .slice Yjx mjx djx, .bool sjy, .slice Zjy ljy cjy, .slice Yjy mjy djy] 96)).cell? ⟨w.heap.size + 1, 1, none⟩ = some (.string ⟨#[]⟩) := HX.out.c 1; have f0 := HX.out.f 0; have f1 := HX.out.f 1
  clear hj hE e2 a0 a1
  go_wp2_with fail
  generalize (w2.alloc (.cells #[.bool sjx, .slice Zjx ljx cjx, .slice Yjx mjx djx, .bool sjy, .slice Zjy ljy cjy, .slice Yjy mjy djy] 96)) = W3 at *
  obtain ⟨d0', d1'⟩ := set2 HX.out (.string ⟨#[]⟩) (.string ⟨#[]⟩)
  refine bodyPost_ret (v := .tuple #[.agg #[.string ⟨#[]⟩, .string ⟨#[]⟩], .int .i64 1]) ?_ rfl ⟨rfl, ext_set2 (b := w.heap.size + 1) HE.out (by omega) _ _⟩
  simp [results, Tryz.f40, go_sem, d0', d1']
set_option maxHeartbeats 8000000 in
set_option maxRecDepth 200000 in
theorem q8Enc_n2 (v : Value) (l : List ByteArray) (s t : ByteArray) (w : World) (h : SlS w v l) (hl : l.length ≤ 1000) (hs : ∀ s ∈ l, s.size ≤ 40) (h1 : s.size ≤ 40) (h2 : t.size ≤ 40) (hb : polB l = true) (hi : ivB s t = false) :
    Calls Tryz.prog 40 #[v, .agg #[.string s, .string t]] w (RetIv 1 w) := by
  have HF : Hid (∀ W, Ext w W → Calls Tryz.prog 53 #[v] W fun e w' => ∃ v, e = .returned (.tuple #[v, .bool true]) ∧ Ext W w') := fun W hE => q8From_no v l true W (h.ext hE) hl hs hb
  have HG : Hid (∀ W, Calls Tryz.prog 82 #[.agg #[.string s, .string t]] W fun e w' => ∃ v, e = .returned (.tuple #[v, .bool false]) ∧ (∃ a b, JV w' v a b) ∧ Ext W w') := fun W => (jFrom_v s t W h1 h2).mono fun e w' ⟨v, a, b, he, hj, _, _, hE⟩ => ⟨v, by rw [he, hi], ⟨a, b, hj⟩, hE⟩
  clear h hl hs h1 h2 hb hi
  go_enter Tryz.func40, Tryz.ntmps40
  go_wp2_with fail
  obtain ⟨X1, X2, E0⟩ := boxes2 w #[.string s, .string t] #[.string ⟨#[]⟩, .string ⟨#[]⟩] 44
  refine (HF.out _ E0).mono ?_
  rintro e w1 ⟨v1, rfl, hE⟩
  have HX := Lib.hid (X2.ext hE)
  have HE := Lib.hid (E0.tr hE)
  have a0 : w1.cell? ⟨w.heap.size, 0, none⟩ = some (.string s) := (X1.ext hE).c 0
  have a1 : w1.cell? ⟨w.heap.size, 1, none⟩ = some (.string t) := (X1.ext hE).c 1
  clear X1 X2 E0 hE
  go_wp2_with fail
  refine (HG.out _).mono ?_
  rintro e w2 ⟨v2, rfl, ⟨aa, bb, hj⟩, hE⟩
  obtain ⟨sjx, Zjx, ljx, cjx, Yjx, mjx, djx, sjy, Zjy, ljy, cjy, Yjy, mjy, djy, rfl⟩ := hj.ex
  have e2 : Ext w2 (w2.alloc (.cells #[.bool sjx, .slice Zjx ljx cjx, .slice Yjx mjx djx, .bool sjy, .slice Zjy ljy cjy, .slice Yjy mjy djy] 96)) := (Ext.rfl' w2).al _
  replace HX := Bx.hext (Bx.hext HX hE) e2
  replace HE := Lib.hid ((HE.out.tr hE).tr e2)
  have y0 : (w2.alloc (.cells #[.bool sjx, .slice Zjx ljx cjx, .slice Yjx mjx djx, .bool sjy, .slice Zjy ljy cjy, .slice Yjy mjy djy] 96)).cell? ⟨w.heap.size + 1, 0, none⟩ = some (.string ⟨#[]⟩) := HX.out.c 0; have y1 : (w2.alloc (.cells #[.bool sjx, .slice Zjx ljx cjx, .slice Yjx mjx djx, .bool sjy, .slice Zjy ljy cjy, .slice Yjy mjy djy] 96)).cell? ⟨w.heap.size + 1, 1, none⟩ = some (.string ⟨#[]⟩) := HX.out.c 1; have f0 := HX.out.f 0; have f1 := HX.out.f 1
  clear hj hE e2 a0 a1
  go_wp2_with fail
  generalize (w2.alloc (.cells #[.bool sjx, .slice Zjx ljx cjx, .slice Yjx mjx djx, .bool sjy, .slice Zjy ljy cjy, .slice Yjy mjy djy] 96)) = W3 at *
  obtain ⟨d0', d1'⟩ := set2 HX.out (.string ⟨#[]⟩) (.string ⟨#[]⟩)
  refine bodyPost_ret (v := .tuple #[.agg #[.string ⟨#[]⟩, .string ⟨#[]⟩], .int .i64 1]) ?_ rfl ⟨rfl, ext_set2 (b := w.heap.size + 1) HE.out (by omega) _ _⟩
  simp [results, Tryz.f40, go_sem, d0', d1']
theorem q8Enc_no (v : Value) (l : List ByteArray) (s t : ByteArray) (w : World) (h : SlS w v l) (hl : l.length ≤ 1000) (hs : ∀ s ∈ l, s.size ≤ 40) (h1 : s.size ≤ 40) (h2 : t.size ≤ 40) (hb : (polB l && ivB s t) = false) :
    Calls Tryz.prog 40 #[v, .agg #[.string s, .string t]] w (RetIv 1 w) := by
  cases hp : polB l
  · exact q8Enc_n1 v l s t w h hl hs h1 h2 hp
  · rw [hp] at hb
    exact q8Enc_n2 v l s t w h hl hs h1 h2 hp (by simpa using hb)
set_option maxHeartbeats 8000000 in
set_option maxRecDepth 200000 in
theorem q8Enc_yes (v : Value) (p : Pl) (I1 I2 : Rat) (w : World) (h : SlS w v (p.map rb)) (tp : Tr p) (lp : p.length ≤ 17) (hs : ∀ s ∈ p.map rb, s.size ≤ 40) (h1 : (rb I1).size ≤ 40) (h2 : (rb I2).size ≤ 40) (hle : I1 ≤ I2) :
    Calls Tryz.prog 40 #[v, .agg #[.string (rb I1), .string (rb I2)]] w fun e w' => e = .returned (.tuple #[.agg #[.string (rb (penc (I1, I2) p).1), .string (rb (penc (I1, I2) p).2)], .int .i64 0]) ∧ Ext w w' := by
  have hpb : PB p 160 := fun q hq => bd_size q 40 (hs _ (List.mem_map.2 ⟨q, hq, rfl⟩))
  have b1 := bd_size I1 40 h1
  have b2 := bd_size I2 40 h2
  have hpe := penc_bd hpb (I := (I1, I2)) (m := 160) ⟨b1, b2⟩
  have hlz : p.length * (160 + 160 + 1) ≤ 17 * (160 + 160 + 1) := Nat.mul_le_mul_right _ lp
  have hpe1 := hpe.1.mono (n := 6000) (by omega)
  have hpe2 := hpe.2.mono (n := 6000) (by omega)
  have HF : Hid (∀ W, Ext w W → Calls Tryz.prog 53 #[v] W fun e w' => ∃ v, e = .returned (.tuple #[v, .bool true]) ∧ PQ w' v p ∧ Ext W w') := fun W hE => q8From_yes v p W (h.ext hE) tp lp hs
  have HG : Hid (∀ W, Calls Tryz.prog 82 #[.agg #[.string (rb I1), .string (rb I2)]] W fun e w' => ∃ v, e = .returned (.tuple #[v, .bool true]) ∧ JV w' v I1 I2 ∧ Ext W w') := fun W => (jFrom_v _ _ W h1 h2).mono fun e w' ⟨v, a, b, he, hj, ha, hb, hE⟩ => ⟨v, by rw [he, ivB_of, decide_eq_true hle], by
    rw [← ha I1 rfl, ← hb I2 rfl]; exact hj, hE⟩
  have HI : Hid (∀ W u v, PQ W u p → JV W v I1 I2 → Calls Tryz.prog 84 #[u, v] W (RetJ (penc (I1, I2) p).1 (penc (I1, I2) p).2 W)) := fun W u v hu hv => q8In_v u v p (I1, I2) 160 160 W hu hv hpb ⟨b1, b2⟩ (by omega) (by unfold KK; omega)
  have HT : Hid (∀ W v, JV W v (penc (I1, I2) p).1 (penc (I1, I2) p).2 → Calls Tryz.prog 83 #[v] W fun e w' => e = .returned (.agg #[.string (rb (penc (I1, I2) p).1), .string (rb (penc (I1, I2) p).2)]) ∧ Ext W w') := fun W v hv => jTo_v v _ _ 6000 W hv ⟨hpe1, hpe2⟩ (by unfold KK; omega)
  clear h tp lp hs h1 h2 hle hpb b1 b2 hpe hlz hpe1 hpe2
  generalize rb (penc (I1, I2) p).1 = R1 at *
  generalize rb (penc (I1, I2) p).2 = R2 at *
  generalize (penc (I1, I2) p).1 = r1 at *
  generalize (penc (I1, I2) p).2 = r2 at *
  generalize rb I1 = s at *
  generalize rb I2 = t at *
  go_enter Tryz.func40, Tryz.ntmps40
  go_wp2_with fail
  obtain ⟨X1, X2, E0⟩ := boxes2 w #[.string s, .string t] #[.string ⟨#[]⟩, .string ⟨#[]⟩] 44
  refine (HF.out _ E0).mono ?_
  rintro e w1 ⟨v1, rfl, hq, hE⟩
  have HX := Lib.hid (X2.ext hE)
  have HE := Lib.hid (E0.tr hE)
  have a0 : w1.cell? ⟨w.heap.size, 0, none⟩ = some (.string s) := (X1.ext hE).c 0
  have a1 : w1.cell? ⟨w.heap.size, 1, none⟩ = some (.string t) := (X1.ext hE).c 1
  obtain ⟨AQ, cQ, rfl⟩ := hq.slc
  have HQ := Lib.hid hq
  clear hq
  clear X1 X2 E0 hE
  go_wp2_with fail
  refine (HG.out _).mono ?_
  rintro e w2 ⟨v2, rfl, hj, hE⟩
  obtain ⟨sjx, Zjx, ljx, cjx, Yjx, mjx, djx, sjy, Zjy, ljy, cjy, Yjy, mjy, djy, rfl⟩ := hj.ex
  have e2 : Ext w2 (w2.alloc (.cells #[.bool sjx, .slice Zjx ljx cjx, .slice Yjx mjx djx, .bool sjy, .slice Zjy ljy cjy, .slice Yjy mjy djy] 96)) := (Ext.rfl' w2).al _
  replace HX := Bx.hext (Bx.hext HX hE) e2
  replace HQ := PQ.hext (PQ.hext HQ hE) e2
  replace HE := Lib.hid ((HE.out.tr hE).tr e2)
  have HJ := Lib.hid (hj.ext e2)
  have HXj := Lib.hid (Bx.new w2 #[.bool sjx, .slice Zjx ljx cjx, .slice Yjx mjx djx, .bool sjy, .slice Zjy ljy cjy, .slice Yjy mjy djy] 96)
  clear hj hE e2 a0 a1
  go_wp2_with fail
  refine (HI.out _ _ _ HQ.out HJ.out).mono ?_
  rintro e w3 ⟨v3, rfl, hv, hE⟩
  obtain ⟨skx, Zkx, lkx, ckx, Ykx, mkx, dkx, sky, Zky, lky, cky, Yky, mky, dky, rfl⟩ := hv.ex
  replace HX := Bx.hext HX hE
  replace HE := Lib.hid (HE.out.tr hE)
  have HK := Lib.hid hv
  clear hv hE HQ HJ HXj
  go_wp2_with fail
  refine (HT.out _ _ HK.out).mono ?_
  rintro e w4 ⟨rfl, hE⟩
  replace HX := Bx.hext HX hE
  replace HE := Lib.hid (HE.out.tr hE)
  have y0 : w4.cell? ⟨w.heap.size + 1, 0, none⟩ = some (.string ⟨#[]⟩) := HX.out.c 0; have y1 : w4.cell? ⟨w.heap.size + 1, 1, none⟩ = some (.string ⟨#[]⟩) := HX.out.c 1; have f0 := HX.out.f 0; have f1 := HX.out.f 1
  clear hE HK
  go_wp2_with fail
  obtain ⟨d0', d1'⟩ := set2 HX.out (.string R1) (.string R2)
  refine bodyPost_ret (v := .tuple #[.agg #[.string R1, .string R2], .int .i64 0]) ?_ rfl ⟨rfl, ext_set2 (b := w.heap.size + 1) HE.out (by omega) _ _⟩
  simp [results, Tryz.f40, go_sem, d0', d1']
end Go.Proofs.YtbldlibijojbjaaGreatDoor.GB
