import Derived.Test.YtbldlibijojbjaaGreatDoorMIr
namespace Go.Proofs.YtbldlibijojbjaaGreatDoor.GB
set_option linter.unusedVariables false
set_option linter.unusedSimpArgs false
open Go.RowKit Go.Shelf
attribute [local go_sem ↓] Go.wp_at_zero Go.wp_at_succ

set_option maxHeartbeats 2000000 in
set_option maxRecDepth 100000 in
theorem index47 (s : ByteArray) (w : World) : Calls Tryz.prog 170 #[.string s, .string ⟨#[47]⟩] w fun e w' => e = .returned (.int .i64 (Lib.indexByte s.data.toList 47)) ∧ w' = w := by
  have hi := fun w => Tryz.stringslite_IndexByte s 47 w
  have e47 : (47 : Int).toNat.toUInt8 = (47 : UInt8) := rfl
  rw [e47] at hi
  generalize hq : (s.toList == [47]) = q
  have hq2 : ([47] == s.toList) = q := by rw [← hq]; exact BEq.comm
  cases q
  · go_enter Tryz.func170, Tryz.ntmps170
    go_wp2_with fail
    have e0 : (((⟨#[47]⟩ : ByteArray)[0]'(by decide)).toNat : Int) = 47 := rfl
    rw [e0]
    refine (hi _).mono ?_
    rintro e w' ⟨rfl, rfl⟩
    go_wp2_with fail
    go_ret
    exact ⟨rfl, rfl⟩
  · have hl : s.data.toList = [47] := by
      rw [← ByteArray.toList_eq]; exact eq_of_beq hq
    have e1 : Lib.indexByte s.data.toList 47 = 0 := by rw [hl]; rfl
    rw [e1]
    go_enter Tryz.func170, Tryz.ntmps170
    go_wp2_with fail
    go_ret
    exact ⟨rfl, rfl⟩
theorem ib_miss (l : List UInt8) (h : 47 ∉ l) : Lib.indexByte l 47 = -1 := by
  induction l with
  | nil => rfl
  | cons b l ih =>
    have hb : (b == 47) = false := by rw [beq_eq_false_iff_ne]; intro e; exact h (by simp [e])
    have := ih (fun k => h (by simp [k]))
    simp [Lib.indexByte, hb, this]
theorem ib_hit (p d : List UInt8) (h : 47 ∉ p) : Lib.indexByte (p ++ 47 :: d) 47 = p.length := by
  induction p with
  | nil => rfl
  | cons b p ih =>
    have hb : (b == 47) = false := by rw [beq_eq_false_iff_ne]; intro e; exact h (by simp [e])
    have h2 := ih (fun k => h (by simp [k]))
    have h3 : ((p.length : Int) == -1) = false := by rw [beq_eq_false_iff_ne]; omega
    rw [List.cons_append, Lib.indexByte, hb, h2, h3]
    simp
set_option maxHeartbeats 2000000 in
set_option maxRecDepth 100000 in
theorem scut_miss (s : ByteArray) (w : World) (h : 47 ∉ s.data.toList) : Calls Tryz.prog 150 #[.string s, .string ⟨#[47]⟩] w fun e w' => e = .returned (.tuple #[.string s, .string ⟨#[]⟩, .bool false]) ∧ w' = w := by
  have hi := index47 s w
  rw [ib_miss _ h] at hi
  go_enter Tryz.func150, Tryz.ntmps150
  go_wp2_with fail
  refine hi.mono ?_
  rintro e w' ⟨rfl, rfl⟩
  clear hi
  go_wp2_with fail
  go_ret3
  exact ⟨rfl, rfl⟩
set_option maxHeartbeats 2000000 in
set_option maxRecDepth 100000 in
theorem scut_hit (s : ByteArray) (p d : List UInt8) (w : World) (hs : s.data.toList = p ++ 47 :: d) (h : 47 ∉ p) (hl : s.size ≤ 1099511627776) : Calls Tryz.prog 150 #[.string s, .string ⟨#[47]⟩] w fun e w' => e = .returned (.tuple #[.string ⟨p.toArray⟩, .string ⟨d.toArray⟩, .bool true]) ∧ Ext w w' := by
  have hi := index47 s w
  rw [hs, ib_hit _ _ h] at hi
  have hlen : s.size = p.length + 1 + d.length := by rw [← bytes_len, hs]; simp; omega
  have x1 : s.extract 0 p.length = ⟨p.toArray⟩ := by
    apply ByteArray.ext; apply Array.toList_inj.1; rw [extract_list, hs]; simp
  have x2 : s.extract (p.length + 1) s.size = ⟨d.toArray⟩ := by
    apply ByteArray.ext; apply Array.toList_inj.1
    rw [extract_list, List.take_of_length_le (by rw [bytes_len]; exact Nat.le_refl _), hs]
    rw [List.drop_append]; simp
  obtain ⟨k, hk⟩ : ∃ k, k = p.length := ⟨_, rfl⟩
  rw [← hk] at hi x1 x2
  have hk2 : k + 1 ≤ s.size := by omega
  have hz : ((k : Int) + 1).toNat = k + 1 := by omega
  clear hlen hs hk h
  go_enter Tryz.func150, Tryz.ntmps150
  go_wp2_with fail
  refine hi.mono ?_
  rintro e w' ⟨rfl, rfl⟩
  clear hi
  go_wp2_with fail
  go_quiet (fail)
  go_wp2_with fail
  go_ret3
  exact ⟨rfl, (Ext.rfl' _).drN _⟩
set_option maxHeartbeats 2000000 in
set_option maxRecDepth 100000 in
theorem cut_miss47 (s : ByteArray) (w : World) (h : 47 ∉ s.data.toList) : Calls Tryz.prog 125 #[.string s, .string ⟨#[47]⟩] w fun e w' => e = .returned (.tuple #[.string s, .string ⟨#[]⟩, .bool false]) ∧ Ext w w' := by
  have hi := scut_miss s w h
  clear h
  go_enter Tryz.func125, Tryz.ntmps125
  go_wp2_with fail
  refine hi.mono ?_
  rintro e w' ⟨rfl, rfl⟩
  clear hi
  go_wp2_with fail
  go_ret3
  exact ⟨rfl, Ext.rfl' _⟩
set_option maxHeartbeats 2000000 in
set_option maxRecDepth 100000 in
theorem cut_hit47 (s : ByteArray) (p d : List UInt8) (w : World) (hs : s.data.toList = p ++ 47 :: d) (h : 47 ∉ p) (hl : s.size ≤ 1099511627776) : Calls Tryz.prog 125 #[.string s, .string ⟨#[47]⟩] w fun e w' => e = .returned (.tuple #[.string ⟨p.toArray⟩, .string ⟨d.toArray⟩, .bool true]) ∧ Ext w w' := by
  have hi := scut_hit s p d w hs h hl
  clear h hs
  go_enter Tryz.func125, Tryz.ntmps125
  go_wp2_with fail
  refine hi.mono ?_
  rintro e w' ⟨rfl, hE⟩
  clear hi
  go_wp2_with fail
  go_ret3
  exact ⟨rfl, hE⟩
end Go.Proofs.YtbldlibijojbjaaGreatDoor.GB

namespace Go.Proofs.YtbldlibijojbjaaGreatDoor.GB
set_option linter.unusedVariables false
set_option linter.unusedSimpArgs false
open Go.RowKit Go.Shelf
attribute [local go_sem ↓] Go.wp_at_zero Go.wp_at_succ

theorem Fit.gcd {a b : Nat} (ha : Fit a) (hb : Fit b) : Fit (Nat.gcd a b) := by
  rcases Nat.eq_zero_or_pos a with h | h
  · subst h; rw [Nat.gcd_zero_left]; exact hb
  · exact ha.le (Nat.gcd_le_left b h)
set_option maxHeartbeats 2000000 in
set_option maxRecDepth 100000 in
theorem divisor_z (a : Int) (n : Nat) (w : World) (hW : Wd w) (ha : Fit a.natAbs) (hn : Fit n) :
    Calls Tryz.prog 128 #[itx a, dtx n] w fun e w' => e = .returned (dtx (Nat.gcd a.natAbs n)) ∧ Ext w w' := by
  go_enter Tryz.func128, Tryz.ntmps128
  go_wp2_with fail
  refine (Abs_z a _ ha).mono ?_
  rintro e w1 ⟨rfl, E1⟩
  go_wp2_with fail
  refine (GCD_n _ _ _ (hW.ext E1) ha hn (ha.gcd hn)).mono ?_
  rintro e w2 ⟨rfl, E2⟩
  go_wp2_with fail
  go_ret
  exact ⟨rfl, E1.tr E2⟩
theorem dtx_one (n : Nat) : ((⟨(Lib.decDigits n).toArray⟩ : ByteArray).toList == [49]) = decide (n = 1) := by
  rw [ByteArray.toList_eq]
  show (Lib.decDigits n == [49]) = _
  have h0 : Lib.decDigits 1 = [49] := by rw [Lib.decDigits]; rfl
  by_cases h : n = 1
  · subst h; rw [h0]; rfl
  · rw [decide_eq_false h, beq_eq_false_iff_ne]
    intro e; rw [← h0] at e; exact h (dec_inj e)
/-- A fraction, as the package keeps it. -/
abbrev FV (q : Rat) : Value := .agg #[itx q.num, dtx q.den]
abbrev rtx (q : Rat) : Value := .string ⟨(rtext q).toArray⟩
set_option maxHeartbeats 2000000 in
set_option maxRecDepth 100000 in
theorem ftext_one (s : ByteArray) (w : World) : Calls Tryz.prog 131 #[.agg #[.string s, .string ⟨#[49]⟩]] w fun e w' => e = .returned (.string s) ∧ Ext w w' := by
  go_enter Tryz.func131, Tryz.ntmps131
  go_wp2_with fail
  go_ret
  exact ⟨rfl, (Ext.rfl' _).al _⟩
set_option maxHeartbeats 2000000 in
set_option maxRecDepth 100000 in
theorem ftext_other (s t : ByteArray) (w : World) (ht : (t.toList == [49]) = false) (h1 : ¬ 9223372036854775807 < s.size + 1) (h2 : ¬ 9223372036854775807 < s.size + 1 + t.size) (h3 : ¬ 9223372036854775807 < (s ++ ⟨#[47]⟩).size + t.size) : Calls Tryz.prog 131 #[.agg #[.string s, .string t]] w fun e w' => e = .returned (.string (s ++ ⟨#[47]⟩ ++ t)) ∧ Ext w w' := by
  go_enter Tryz.func131, Tryz.ntmps131
  go_wp2_with fail
  go_ret
  exact ⟨rfl, (Ext.rfl' _).al _⟩
theorem itoa_len {z : Int} (hz : Fit z.natAbs) : (Lib.itoa z).length ≤ 1099511627776 := by
  obtain ⟨k, hk, h⟩ := hz
  have h2 := dec_len_le _ k h
  rcases (by omega : z < 0 ∨ 0 ≤ z) with h3 | h3
  · rw [itoa_of_neg h3, List.length_cons]; omega
  · rw [itoa_of_nonneg h3]; omega
theorem ftext_q (q : Rat) (w : World) (h1 : Fit q.num.natAbs) (h2 : Fit q.den) : Calls Tryz.prog 131 #[FV q] w fun e w' => e = .returned (rtx q) ∧ Ext w w' := by
  have l1 := itoa_len h1
  have l2 := h2.dec
  by_cases h : q.den = 1
  · unfold FV rtx
    rw [rtext_int h, h, dtx1]
    exact ftext_one _ w
  · unfold FV rtx
    have e1 := size_mk (Lib.itoa q.num)
    have e2 := dtx_size q.den
    have hc : ((⟨(Lib.itoa q.num).toArray⟩ : ByteArray) ++ ⟨#[47]⟩ ++ ⟨(Lib.decDigits q.den).toArray⟩) = ⟨(rtext q).toArray⟩ := by
      rw [rtext_frac h]; apply ByteArray.ext; simp
    have h5 := ftext_other ⟨(Lib.itoa q.num).toArray⟩ ⟨(Lib.decDigits q.den).toArray⟩ w (by rw [dtx_one]; exact decide_eq_false h) (by omega) (by omega) (by rw [ByteArray.size_append, e1, e2]; show ¬ _ < _ + 1 + _; omega)
    rw [hc] at h5
    exact h5
end Go.Proofs.YtbldlibijojbjaaGreatDoor.GB

namespace Go.Proofs.YtbldlibijojbjaaGreatDoor.GB
set_option linter.unusedVariables false
set_option linter.unusedSimpArgs false
open Go.RowKit Go.Shelf
attribute [local go_sem ↓] Go.wp_at_zero Go.wp_at_succ

set_option maxHeartbeats 2000000 in
set_option maxRecDepth 100000 in
theorem rread_1 (s p d : ByteArray) (w : World) (hcut : ∀ W, Ext w W → Calls Tryz.prog 125 #[.string s, .string ⟨#[47]⟩] W fun e w' => e = .returned (.tuple #[.string p, .string d, .bool true]) ∧ Ext W w') (h1 : ∀ W, Ext w W → Calls Tryz.prog 126 #[.string p] W fun e w' => e = .returned (.bool false) ∧ Ext W w') :
    Calls Tryz.prog 85 #[.string s] w fun e w' => e = .returned (.tuple #[.agg #[.string p, .string d], .bool false]) ∧ Ext w w' := by
  have X := Bx.new w #[.string ⟨#[]⟩, .string ⟨#[]⟩] 102
  have E := (Ext.rfl' w).al (.cells #[.string ⟨#[]⟩, .string ⟨#[]⟩] 102)
  go_enter Tryz.func85, Tryz.ntmps85
  go_wp2_with fail
  generalize w.alloc (.cells #[.string ⟨#[]⟩, .string ⟨#[]⟩] 102) = W0 at *
  refine (hcut _ E).mono ?_
  rintro e w1 ⟨rfl, hE⟩
  replace X := X.ext hE
  replace E := E.tr hE
  clear hE
  go_wp2_with fail
  refine (h1 _ E).mono ?_
  rintro e w2 ⟨rfl, hE⟩
  replace X := X.ext hE
  replace E := E.tr hE
  clear hE
  have c0 := X.c0
  have c1 := X.c1
  have f0 := X.f 0
  have f1 := X.f 1
  go_wp2_with fail
  obtain ⟨d0, d1⟩ := set2 X (.string p) (.string d)
  have E2 := ext_set2 (b := w.heap.size) E (Nat.le_refl _) (.string p) (.string d)
  refine bodyPost_ret (v := .tuple #[.agg #[.string p, .string d], .bool false]) ?_ rfl ⟨rfl, E2⟩
  simp [results, Tryz.f85, go_sem, d0, d1]
set_option maxHeartbeats 2000000 in
set_option maxRecDepth 100000 in
theorem rread_2 (s p d : ByteArray) (w : World) (hcut : ∀ W, Ext w W → Calls Tryz.prog 125 #[.string s, .string ⟨#[47]⟩] W fun e w' => e = .returned (.tuple #[.string p, .string d, .bool true]) ∧ Ext W w') (h1 : ∀ W, Ext w W → Calls Tryz.prog 126 #[.string p] W fun e w' => e = .returned (.bool true) ∧ Ext W w') (hp0 : (p.toList == [48]) = true) :
    Calls Tryz.prog 85 #[.string s] w fun e w' => e = .returned (.tuple #[.agg #[.string p, .string d], .bool false]) ∧ Ext w w' := by
  have X := Bx.new w #[.string ⟨#[]⟩, .string ⟨#[]⟩] 102
  have E := (Ext.rfl' w).al (.cells #[.string ⟨#[]⟩, .string ⟨#[]⟩] 102)
  go_enter Tryz.func85, Tryz.ntmps85
  go_wp2_with fail
  generalize w.alloc (.cells #[.string ⟨#[]⟩, .string ⟨#[]⟩] 102) = W0 at *
  refine (hcut _ E).mono ?_
  rintro e w1 ⟨rfl, hE⟩
  replace X := X.ext hE
  replace E := E.tr hE
  clear hE
  go_wp2_with fail
  refine (h1 _ E).mono ?_
  rintro e w2 ⟨rfl, hE⟩
  replace X := X.ext hE
  replace E := E.tr hE
  clear hE
  have c0 := X.c0
  have c1 := X.c1
  have f0 := X.f 0
  have f1 := X.f 1
  go_wp2_with fail
  obtain ⟨d0, d1⟩ := set2 X (.string p) (.string d)
  have E2 := ext_set2 (b := w.heap.size) E (Nat.le_refl _) (.string p) (.string d)
  refine bodyPost_ret (v := .tuple #[.agg #[.string p, .string d], .bool false]) ?_ rfl ⟨rfl, E2⟩
  simp [results, Tryz.f85, go_sem, d0, d1]
set_option maxHeartbeats 2000000 in
set_option maxRecDepth 100000 in
theorem rread_3 (s p d : ByteArray) (w : World) (hcut : ∀ W, Ext w W → Calls Tryz.prog 125 #[.string s, .string ⟨#[47]⟩] W fun e w' => e = .returned (.tuple #[.string p, .string d, .bool true]) ∧ Ext W w') (h1 : ∀ W, Ext w W → Calls Tryz.prog 126 #[.string p] W fun e w' => e = .returned (.bool true) ∧ Ext W w') (hp0 : (p.toList == [48]) = false) (h2 : ∀ W, Ext w W → Calls Tryz.prog 127 #[.string d] W fun e w' => e = .returned (.bool false) ∧ Ext W w') :
    Calls Tryz.prog 85 #[.string s] w fun e w' => e = .returned (.tuple #[.agg #[.string p, .string d], .bool false]) ∧ Ext w w' := by
  have X := Bx.new w #[.string ⟨#[]⟩, .string ⟨#[]⟩] 102
  have E := (Ext.rfl' w).al (.cells #[.string ⟨#[]⟩, .string ⟨#[]⟩] 102)
  go_enter Tryz.func85, Tryz.ntmps85
  go_wp2_with fail
  generalize w.alloc (.cells #[.string ⟨#[]⟩, .string ⟨#[]⟩] 102) = W0 at *
  refine (hcut _ E).mono ?_
  rintro e w1 ⟨rfl, hE⟩
  replace X := X.ext hE
  replace E := E.tr hE
  clear hE
  go_wp2_with fail
  refine (h1 _ E).mono ?_
  rintro e w2 ⟨rfl, hE⟩
  replace X := X.ext hE
  replace E := E.tr hE
  clear hE
  go_wp2_with fail
  refine (h2 _ E).mono ?_
  rintro e w3 ⟨rfl, hE⟩
  replace X := X.ext hE
  replace E := E.tr hE
  clear hE
  have c0 := X.c0
  have c1 := X.c1
  have f0 := X.f 0
  have f1 := X.f 1
  go_wp2_with fail
  obtain ⟨d0, d1⟩ := set2 X (.string p) (.string d)
  have E2 := ext_set2 (b := w.heap.size) E (Nat.le_refl _) (.string p) (.string d)
  refine bodyPost_ret (v := .tuple #[.agg #[.string p, .string d], .bool false]) ?_ rfl ⟨rfl, E2⟩
  simp [results, Tryz.f85, go_sem, d0, d1]
set_option maxHeartbeats 2000000 in
set_option maxRecDepth 100000 in
theorem rread_4 (s p d : ByteArray) (w : World) (hcut : ∀ W, Ext w W → Calls Tryz.prog 125 #[.string s, .string ⟨#[47]⟩] W fun e w' => e = .returned (.tuple #[.string p, .string d, .bool true]) ∧ Ext W w') (h1 : ∀ W, Ext w W → Calls Tryz.prog 126 #[.string p] W fun e w' => e = .returned (.bool true) ∧ Ext W w') (hp0 : (p.toList == [48]) = false) (h2 : ∀ W, Ext w W → Calls Tryz.prog 127 #[.string d] W fun e w' => e = .returned (.bool true) ∧ Ext W w') (hd0 : (d.toList == [48]) = true) :
    Calls Tryz.prog 85 #[.string s] w fun e w' => e = .returned (.tuple #[.agg #[.string p, .string d], .bool false]) ∧ Ext w w' := by
  have X := Bx.new w #[.string ⟨#[]⟩, .string ⟨#[]⟩] 102
  have E := (Ext.rfl' w).al (.cells #[.string ⟨#[]⟩, .string ⟨#[]⟩] 102)
  go_enter Tryz.func85, Tryz.ntmps85
  go_wp2_with fail
  generalize w.alloc (.cells #[.string ⟨#[]⟩, .string ⟨#[]⟩] 102) = W0 at *
  refine (hcut _ E).mono ?_
  rintro e w1 ⟨rfl, hE⟩
  replace X := X.ext hE
  replace E := E.tr hE
  clear hE
  go_wp2_with fail
  refine (h1 _ E).mono ?_
  rintro e w2 ⟨rfl, hE⟩
  replace X := X.ext hE
  replace E := E.tr hE
  clear hE
  go_wp2_with fail
  refine (h2 _ E).mono ?_
  rintro e w3 ⟨rfl, hE⟩
  replace X := X.ext hE
  replace E := E.tr hE
  clear hE
  have c0 := X.c0
  have c1 := X.c1
  have f0 := X.f 0
  have f1 := X.f 1
  go_wp2_with fail
  obtain ⟨d0, d1⟩ := set2 X (.string p) (.string d)
  have E2 := ext_set2 (b := w.heap.size) E (Nat.le_refl _) (.string p) (.string d)
  refine bodyPost_ret (v := .tuple #[.agg #[.string p, .string d], .bool false]) ?_ rfl ⟨rfl, E2⟩
  simp [results, Tryz.f85, go_sem, d0, d1]
set_option maxHeartbeats 2000000 in
set_option maxRecDepth 100000 in
theorem rread_5 (s p d : ByteArray) (w : World) (hcut : ∀ W, Ext w W → Calls Tryz.prog 125 #[.string s, .string ⟨#[47]⟩] W fun e w' => e = .returned (.tuple #[.string p, .string d, .bool true]) ∧ Ext W w') (h1 : ∀ W, Ext w W → Calls Tryz.prog 126 #[.string p] W fun e w' => e = .returned (.bool true) ∧ Ext W w') (hp0 : (p.toList == [48]) = false) (h2 : ∀ W, Ext w W → Calls Tryz.prog 127 #[.string d] W fun e w' => e = .returned (.bool true) ∧ Ext W w') (hd0 : (d.toList == [48]) = false) (hd1 : (d.toList == [49]) = true) :
    Calls Tryz.prog 85 #[.string s] w fun e w' => e = .returned (.tuple #[.agg #[.string p, .string d], .bool false]) ∧ Ext w w' := by
  have X := Bx.new w #[.string ⟨#[]⟩, .string ⟨#[]⟩] 102
  have E := (Ext.rfl' w).al (.cells #[.string ⟨#[]⟩, .string ⟨#[]⟩] 102)
  go_enter Tryz.func85, Tryz.ntmps85
  go_wp2_with fail
  generalize w.alloc (.cells #[.string ⟨#[]⟩, .string ⟨#[]⟩] 102) = W0 at *
  refine (hcut _ E).mono ?_
  rintro e w1 ⟨rfl, hE⟩
  replace X := X.ext hE
  replace E := E.tr hE
  clear hE
  go_wp2_with fail
  refine (h1 _ E).mono ?_
  rintro e w2 ⟨rfl, hE⟩
  replace X := X.ext hE
  replace E := E.tr hE
  clear hE
  go_wp2_with fail
  refine (h2 _ E).mono ?_
  rintro e w3 ⟨rfl, hE⟩
  replace X := X.ext hE
  replace E := E.tr hE
  clear hE
  have c0 := X.c0
  have c1 := X.c1
  have f0 := X.f 0
  have f1 := X.f 1
  go_wp2_with fail
  obtain ⟨d0, d1⟩ := set2 X (.string p) (.string d)
  have E2 := ext_set2 (b := w.heap.size) E (Nat.le_refl _) (.string p) (.string d)
  refine bodyPost_ret (v := .tuple #[.agg #[.string p, .string d], .bool false]) ?_ rfl ⟨rfl, E2⟩
  simp [results, Tryz.f85, go_sem, d0, d1]
set_option maxHeartbeats 2000000 in
set_option maxRecDepth 100000 in
theorem rread_6 (s p d : ByteArray) (w : World) (hcut : ∀ W, Ext w W → Calls Tryz.prog 125 #[.string s, .string ⟨#[47]⟩] W fun e w' => e = .returned (.tuple #[.string p, .string d, .bool true]) ∧ Ext W w') (h1 : ∀ W, Ext w W → Calls Tryz.prog 126 #[.string p] W fun e w' => e = .returned (.bool true) ∧ Ext W w') (hp0 : (p.toList == [48]) = false) (h2 : ∀ W, Ext w W → Calls Tryz.prog 127 #[.string d] W fun e w' => e = .returned (.bool true) ∧ Ext W w') (hd0 : (d.toList == [48]) = false) (hd1 : (d.toList == [49]) = false) (g : ByteArray) (hg : (g.toList == [49]) = false) (h3 : ∀ W, Ext w W → Calls Tryz.prog 128 #[.string p, .string d] W fun e w' => e = .returned (.string g) ∧ Ext W w') :
    Calls Tryz.prog 85 #[.string s] w fun e w' => e = .returned (.tuple #[.agg #[.string p, .string d], .bool false]) ∧ Ext w w' := by
  have X := Bx.new w #[.string ⟨#[]⟩, .string ⟨#[]⟩] 102
  have E := (Ext.rfl' w).al (.cells #[.string ⟨#[]⟩, .string ⟨#[]⟩] 102)
  go_enter Tryz.func85, Tryz.ntmps85
  go_wp2_with fail
  generalize w.alloc (.cells #[.string ⟨#[]⟩, .string ⟨#[]⟩] 102) = W0 at *
  refine (hcut _ E).mono ?_
  rintro e w1 ⟨rfl, hE⟩
  replace X := X.ext hE
  replace E := E.tr hE
  clear hE
  go_wp2_with fail
  refine (h1 _ E).mono ?_
  rintro e w2 ⟨rfl, hE⟩
  replace X := X.ext hE
  replace E := E.tr hE
  clear hE
  go_wp2_with fail
  refine (h2 _ E).mono ?_
  rintro e w3 ⟨rfl, hE⟩
  replace X := X.ext hE
  replace E := E.tr hE
  clear hE
  go_wp2_with fail
  refine (h3 _ E).mono ?_
  rintro e w4 ⟨rfl, hE⟩
  replace X := X.ext hE
  replace E := E.tr hE
  clear hE
  have c0 := X.c0
  have c1 := X.c1
  have f0 := X.f 0
  have f1 := X.f 1
  go_wp2_with fail
  obtain ⟨d0, d1⟩ := set2 X (.string p) (.string d)
  have E2 := ext_set2 (b := w.heap.size) E (Nat.le_refl _) (.string p) (.string d)
  refine bodyPost_ret (v := .tuple #[.agg #[.string p, .string d], .bool false]) ?_ rfl ⟨rfl, E2⟩
  simp [results, Tryz.f85, go_sem, d0, d1]
set_option maxHeartbeats 2000000 in
set_option maxRecDepth 100000 in
theorem rread_7 (s p d : ByteArray) (w : World) (hcut : ∀ W, Ext w W → Calls Tryz.prog 125 #[.string s, .string ⟨#[47]⟩] W fun e w' => e = .returned (.tuple #[.string p, .string d, .bool true]) ∧ Ext W w') (h1 : ∀ W, Ext w W → Calls Tryz.prog 126 #[.string p] W fun e w' => e = .returned (.bool true) ∧ Ext W w') (hp0 : (p.toList == [48]) = false) (h2 : ∀ W, Ext w W → Calls Tryz.prog 127 #[.string d] W fun e w' => e = .returned (.bool true) ∧ Ext W w') (hd0 : (d.toList == [48]) = false) (hd1 : (d.toList == [49]) = false) (g : ByteArray) (hg : (g.toList == [49]) = true) (h3 : ∀ W, Ext w W → Calls Tryz.prog 128 #[.string p, .string d] W fun e w' => e = .returned (.string g) ∧ Ext W w') :
    Calls Tryz.prog 85 #[.string s] w fun e w' => e = .returned (.tuple #[.agg #[.string p, .string d], .bool true]) ∧ Ext w w' := by
  have X := Bx.new w #[.string ⟨#[]⟩, .string ⟨#[]⟩] 102
  have E := (Ext.rfl' w).al (.cells #[.string ⟨#[]⟩, .string ⟨#[]⟩] 102)
  go_enter Tryz.func85, Tryz.ntmps85
  go_wp2_with fail
  generalize w.alloc (.cells #[.string ⟨#[]⟩, .string ⟨#[]⟩] 102) = W0 at *
  refine (hcut _ E).mono ?_
  rintro e w1 ⟨rfl, hE⟩
  replace X := X.ext hE
  replace E := E.tr hE
  clear hE
  go_wp2_with fail
  refine (h1 _ E).mono ?_
  rintro e w2 ⟨rfl, hE⟩
  replace X := X.ext hE
  replace E := E.tr hE
  clear hE
  go_wp2_with fail
  refine (h2 _ E).mono ?_
  rintro e w3 ⟨rfl, hE⟩
  replace X := X.ext hE
  replace E := E.tr hE
  clear hE
  go_wp2_with fail
  refine (h3 _ E).mono ?_
  rintro e w4 ⟨rfl, hE⟩
  replace X := X.ext hE
  replace E := E.tr hE
  clear hE
  have c0 := X.c0
  have c1 := X.c1
  have f0 := X.f 0
  have f1 := X.f 1
  go_wp2_with fail
  obtain ⟨d0, d1⟩ := set2 X (.string p) (.string d)
  have E2 := ext_set2 (b := w.heap.size) E (Nat.le_refl _) (.string p) (.string d)
  refine bodyPost_ret (v := .tuple #[.agg #[.string p, .string d], .bool true]) ?_ rfl ⟨rfl, E2⟩
  simp [results, Tryz.f85, go_sem, d0, d1]
set_option maxHeartbeats 2000000 in
set_option maxRecDepth 100000 in
theorem rread_0 (s : ByteArray) (b : Bool) (w : World) (hcut : ∀ W, Ext w W → Calls Tryz.prog 125 #[.string s, .string ⟨#[47]⟩] W fun e w' => e = .returned (.tuple #[.string s, .string ⟨#[]⟩, .bool false]) ∧ Ext W w') (h1 : ∀ W, Ext w W → Calls Tryz.prog 126 #[.string s] W fun e w' => e = .returned (.bool b) ∧ Ext W w') :
    Calls Tryz.prog 85 #[.string s] w fun e w' => e = .returned (.tuple #[.agg #[.string s, .string ⟨#[49]⟩], .bool b]) ∧ Ext w w' := by
  have X := Bx.new w #[.string ⟨#[]⟩, .string ⟨#[]⟩] 102
  have E := (Ext.rfl' w).al (.cells #[.string ⟨#[]⟩, .string ⟨#[]⟩] 102)
  go_enter Tryz.func85, Tryz.ntmps85
  go_wp2_with fail
  generalize w.alloc (.cells #[.string ⟨#[]⟩, .string ⟨#[]⟩] 102) = W0 at *
  refine (hcut _ E).mono ?_
  rintro e w1 ⟨rfl, hE⟩
  replace X := X.ext hE
  replace E := E.tr hE
  clear hE
  go_wp2_with fail
  refine (h1 _ E).mono ?_
  rintro e w2 ⟨rfl, hE⟩
  replace X := X.ext hE
  replace E := E.tr hE
  clear hE
  have c0 := X.c0
  have c1 := X.c1
  have f0 := X.f 0
  have f1 := X.f 1
  go_wp2_with fail
  obtain ⟨d0, d1⟩ := set2 X (.string s) (.string ⟨#[49]⟩)
  have E2 := ext_set2 (b := w.heap.size) E (Nat.le_refl _) (.string s) (.string ⟨#[49]⟩)
  refine bodyPost_ret (v := .tuple #[.agg #[.string s, .string ⟨#[49]⟩], .bool b]) ?_ rfl ⟨rfl, E2⟩
  simp [results, Tryz.f85, go_sem, d0, d1]
end Go.Proofs.YtbldlibijojbjaaGreatDoor.GB
