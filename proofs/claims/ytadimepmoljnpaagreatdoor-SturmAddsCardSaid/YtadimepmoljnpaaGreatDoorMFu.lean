import Derived.Test.YtadimepmoljnpaaGreatDoorMNum
import Derived.Test.YtadimepmoljnpaaGreatDoorCShelf
import Derived.Lib.ItoaMem
import Derived.BigCall
import Derived.BigGuard
import Derived.Test.YtadimepmoljnpaaGreatDoorMZt
import Derived.Lib.Strings
import Derived.Test.YtadimepmoljnpaaGreatDoorMNz
import Derived.Laws.BytesArg
import Derived.Deep.RegionWith
import Derived.Deep.DrawnRows
namespace Go.Proofs.YtadimepmoljnpaaGreatDoor.GB
set_option linter.unusedVariables false
set_option linter.unusedSimpArgs false
open Go.RowKit Go.Sort Go.Lib

theorem Ext.grow (w : World) (k : Nat) (os : Array Obj) : Ext w (grow (w.drewN k) os) :=
  ⟨rfl, rfl, rfl, by simp only [Go.Sort.grow, World.drewN]; rw [Array.size_append]; omega, fun b hb => by
    simp only [Go.Sort.grow, World.drewN]
    exact Array.getElem?_append_left hb⟩

def RetS (w : World) (l : List UInt8) (e : Ending) (w' : World) : Prop := e = .returned (.string ⟨l.toArray⟩) ∧ Ext w w'

theorem holds_zero0 (w : World) (T : TypeId) (nd : Nat) (hs : nd ≤ 24) : Holds (fun (b : UInt8) => Value.int .u8 (b.toNat : Int)) (w.alloc (.cells zeros24 T)) w.heap.size 0 (Array.replicate nd (0 : UInt8)) := fun j hj => by
  have hj' : j < nd := by simpa using hj
  refine ⟨?_, World.frozen?_alloc_new _ _ _ _⟩
  rw [World.cell?_alloc_new, zeros24_at _ (by omega), getElem!_pos _ j hj]
  simp

set_option maxHeartbeats 6400000 in
set_option maxRecDepth 100000 in
theorem formatUint_lo (u : Nat) (hs : u < 100) (w : World) :
    Calls Tryz.prog 259 #[.int .u64 u, .int .i64 10] w (RetS w (decDigits u)) := by
  have hw : IntKind.i64.wrap (u : Int) = (u : Int) := by rw [IntKind.wrap_i64]; omega
  have hb : decide ((u : Int) < 100) = true := by simp; omega
  go_enter Tryz.func259, Tryz.ntmps259
  go_wp2_with (go_at_call 230; refine (Tryz.internal_strconv_small u hs _).mono ?_)
  rintro e w' ⟨rfl, rfl⟩
  go_wp2
  go_ret
  exact ⟨rfl, Ext.rfl' _⟩

set_option maxHeartbeats 6400000 in
set_option maxRecDepth 100000 in
theorem formatUint_hi (u : Nat) (hs : 100 ≤ u) (hu64 : u < 18446744073709551616) (w : World) (hW : Wd w) :
    Calls Tryz.prog 259 #[.int .u64 u, .int .i64 10] w (RetS w (decDigits u)) := by
  have htab := hW.tab
  have hu1 : 1 ≤ u := by omega
  have hnd20 : Lib.nDigits u ≤ 20 := by have := Lib.numDigits_eq u hu1 hu64; split at this <;> omega
  have hb3 : Lib.nDigits u ≤ 24 := by omega
  have hal : Tryz.prog.arrayLen 245 = 24 := by kernel_rfl
  have hb : decide ((u : Int) < 100) = false := by simp; omega
  have hsl1 : ∀ W, (Instr.sliceAt 245 (.pointer (some ⟨w.heap.size, 0, none⟩)) none (some (.int .i64 (Lib.nDigits u : Int))) none).run Tryz.prog W = .ok (.slice (some ⟨w.heap.size, 0, none⟩) (Lib.nDigits u) 24) W := fun W => by
    rw [run_sliceAt_array_h W 245 ⟨w.heap.size, 0, none⟩ (by kernel_rfl) .i64 (Lib.nDigits u : Int) (by omega) (by rw [hal]; omega)]
    go_simp
    try omega
  have hH0 := holds_zero0 w 245 (Lib.nDigits u) hb3
  have hfmt := Tryz.internal_strconv_formatBase10 w.heap.size 0 24 u (Array.replicate (Lib.nDigits u) 0) (w.alloc (.cells Lib.zeros24 245)) hH0 (by rw [Array.size_replicate]; exact Lib.lt_pow_nDigits u) hu64 (by rw [Array.size_replicate]; omega)
  rw [Array.size_replicate] at hfmt
  have HH0 := Lib.hid hH0
  clear hH0 hal
  go_enter Tryz.func259, Tryz.ntmps259
  go_wp2_with (first
    | (go_at_call 231; refine (Tryz.internal_strconv_numDigits u hu1 hu64 _ (Lib.tabIs_alloc htab _)).mono ?_; rintro e w' ⟨rfl, rfl⟩)
    | (go_at_call 232; refine hfmt.mono ?_))
  rintro e w' ⟨rfl, k, v', dk, rfl, hF⟩
  have hcv : (convert 202 9 (.slice (some ⟨w.heap.size, 0, none⟩) (Lib.nDigits u) 24)).run Tryz.prog ((putRow (fun (b : UInt8) => Value.int .u8 (b.toNat : Int)) (w.alloc (.cells Lib.zeros24 245)) w.heap.size 0 dk).drewN k) = .ok (.string ⟨(Lib.decDigits u).toArray⟩) ((putRow (fun (b : UInt8) => Value.int .u8 (b.toNat : Int)) (w.alloc (.cells Lib.zeros24 245)) w.heap.size 0 dk).drewN k) := by
    have h := run_convert_bytes_back (P := Tryz.prog) ((putRow (fun (b : UInt8) => Value.int .u8 (b.toNat : Int)) (w.alloc (.cells Lib.zeros24 245)) w.heap.size 0 dk).drewN k) 202 9 5 ⟨w.heap.size, 0, none⟩ 24 (Lib.decDigits u) (by kernel_rfl) (by kernel_rfl) (by kernel_rfl) (fun j hj => by
      rw [Lib.row_is_numeral hF j hj, Lib.add_plain, World.cell?_drewN]
      exact cell?_putRow (fun (b : UInt8) => Value.int .u8 (b.toNat : Int)) _ w.heap.size 0 _ dk HH0.out (by rw [hF.size, Array.size_replicate]) j (by rw [hF.size]; rw [Lib.decDigits_length] at hj; exact hj))
    rw [Lib.decDigits_length] at h
    exact h
  go_wp2
  go_ret
  obtain ⟨os, eo⟩ : ∃ os, (putRow (fun (b : UInt8) => Value.int .u8 (b.toNat : Int)) (w.alloc (.cells Lib.zeros24 245)) w.heap.size 0 dk).drewN k = grow (w.drewN k) os := by
    rw [alloc_eq_grow]
    obtain ⟨os', _, e⟩ := putRow_grow_new (fun (b : UInt8) => Value.int .u8 (b.toNat : Int)) w #[.cells Lib.zeros24 245] w.heap.size 0 dk (Nat.le_refl _)
    exact ⟨os', by rw [e]; rfl⟩
  exact ⟨rfl, by rw [eo]; exact Ext.grow _ _ _⟩

set_option maxRecDepth 100000 in
theorem formatUint_any (u : Nat) (hu64 : u < 18446744073709551616) (w : World) (hW : Wd w) :
    Calls Tryz.prog 239 #[.int .u64 u, .int .i64 10] w (RetS w (decDigits u)) := by
  have h : Calls Tryz.prog 259 #[.int .u64 u, .int .i64 10] w (RetS w (decDigits u)) := by
    rcases Nat.lt_or_ge u 100 with h | h
    · exact formatUint_lo u h w
    · exact formatUint_hi u h hu64 w hW
  go_enter Tryz.func239, Tryz.ntmps239
  go_wp2_with (go_at_call 259; refine h.mono ?_)
  rintro e w' ⟨rfl, hE⟩
  go_wp2
  go_ret
  exact ⟨rfl, hE⟩
end Go.Proofs.YtadimepmoljnpaaGreatDoor.GB

namespace Go.Proofs.YtadimepmoljnpaaGreatDoor.GB
set_option linter.unusedVariables false
set_option linter.unusedSimpArgs false
open Go.RowKit Lib

theorem foldl_mono (l : List UInt8) : ∀ a, a ≤ l.foldl pstep a := by
  induction l with
  | nil => intro a; exact Nat.le_refl _
  | cons c l ih => intro a; exact Nat.le_trans (by unfold pstep; omega) (ih _)
theorem parse_digits (M : Nat) (hM : M < 18446744073709551616) (l : List UInt8) : ∀ acc, (∀ c ∈ l, isDig c) → l.foldl pstep acc ≤ M → Lib.parseUintM M acc l = .ok (l.foldl pstep acc) := by
  induction l with
  | nil => intro acc _ _; rfl
  | cons c l ih =>
    intro acc hd hb
    have hc := hd c (by simp)
    have h1 : acc * 10 + (c.toNat - 48) ≤ M := Nat.le_trans (foldl_mono l _) hb
    unfold Lib.parseUintM
    rw [if_pos (show 48 ≤ c.toNat ∧ c.toNat ≤ 57 from hc), if_neg (by omega), if_neg (by omega)]
    exact ih _ (fun x hx => hd x (by simp [hx])) hb

theorem extract_list (s : ByteArray) (a b : Nat) : (s.extract a b).data.toList = (s.data.toList.take b).drop a := by
  rw [ByteArray.data_extract, Array.toList_extract, List.extract_eq_take_drop, List.drop_take]

/-- strconv.ParseUint(s, 10, 32) of at most nine digits. -/
theorem parse9 (s : ByteArray) (h1 : s.data.toList ≠ []) (hs : s.size ≤ 9) (hd : ∀ c ∈ s.data.toList, isDig c) (w : World) :
    Calls Tryz.prog 237 #[.string s, .int .i64 10, .int .i64 32] w fun e w' => e = .returned (.tuple #[.int .u64 (pval s.data.toList), .nilIface]) ∧ Ext w w' := by
  have hlen : s.data.toList.length ≤ 9 := by rw [bytes_len]; exact hs
  have hv : pval s.data.toList < 1000000000 := Nat.lt_of_lt_of_le (pval_lt _ hd) (Nat.le_trans (Nat.pow_le_pow_right (by omega) hlen) (by decide))
  have hp : Lib.parseUintB 32 s.data.toList = .ok (pval s.data.toList) := by
    unfold Lib.parseUintB
    rw [if_neg h1]
    exact parse_digits _ (by decide) _ _ hd (by have : pval s.data.toList ≤ 2 ^ 32 - 1 := by omega
                                                exact this)
  refine (Tryz.strconv_ParseUint_10_at32_ok s (by omega) _ hp w).mono ?_
  rintro e w' ⟨rfl, h | h⟩
  · exact ⟨rfl, h ▸ Ext.rfl' _⟩
  · exact ⟨rfl, h ▸ Lib.bytesWorld_below _ _ _⟩

theorem ten9 : (10 : Nat) ^ 9 = BB := rfl
theorem ten9_le {j : Nat} (h : j ≤ 9) : 10 ^ j ≤ BB := by rw [← ten9]; exact Nat.pow_le_pow_right (by omega) h
/-- What is read of the digits l when the first k of them are left. -/
def RInv (l : List UInt8) (k : Nat) (r : List Nat) : Prop := Ok r ∧ r.length + k ≤ l.length ∧ val r + BB ^ r.length * pval (l.take k) = pval l ∧ (9 ∣ (l.length - k) ∨ k = 0)
theorem RInv.start (l : List UInt8) : RInv l l.length [] := ⟨fun w hw => (by cases hw), (by simp), (by simp [val]), .inl (by simp)⟩
theorem chunk {v p b a c n : Nat} (h : v + p * (a * b + c) = n) : v + p * c + p * b * a = n := by
  rw [← h, Nat.mul_add, Nat.mul_assoc, Nat.mul_comm b]; omega
theorem RInv.val_step {l : List UInt8} {k j : Nat} {r : List Nat} (h3 : val r + BB ^ r.length * pval (l.take k) = pval l) (hk : k ≤ l.length) (hj : j ≤ k) (h9 : k - j = 9 ∨ j = 0) :
    val (r ++ [pval ((l.take k).drop j)]) + BB ^ (r ++ [pval ((l.take k).drop j)]).length * pval (l.take j) = pval l := by
  have hsplit : l.take k = l.take j ++ (l.take k).drop j := by
    conv => lhs; rw [← List.take_append_drop j (l.take k)]
    rw [List.take_take, Nat.min_eq_left hj]
  have hl2 : ((l.take k).drop j).length = k - j := by rw [List.length_drop, List.length_take, Nat.min_eq_left hk]
  rw [hsplit, pval_append, hl2] at h3
  rw [val_snoc, List.length_append, List.length_singleton, Nat.pow_succ]
  rcases h9 with h9 | h9
  · rw [h9, ten9] at h3
    exact chunk h3
  · subst h9
    rw [List.take_zero, List.drop_zero] at h3 ⊢
    have e : pval [] = 0 := rfl
    rw [e, Nat.zero_mul, Nat.zero_add] at h3
    rw [e, Nat.mul_zero, Nat.add_zero]
    exact h3
theorem RInv.step {l : List UInt8} {k : Nat} {r : List Nat} (h : RInv l k r) (hd : ∀ c ∈ l, isDig c) (hk : k ≤ l.length) (h0 : 0 < k) :
    RInv l (k - 9) (r ++ [pval ((l.take k).drop (k - 9))]) := by
  obtain ⟨h1, h2, h3, h4⟩ := h
  have hdd : ∀ c ∈ (l.take k).drop (k - 9), isDig c := fun c hc => hd c (List.mem_of_mem_take (List.mem_of_mem_drop hc))
  have hl2 : ((l.take k).drop (k - 9)).length = k - (k - 9) := by rw [List.length_drop, List.length_take, Nat.min_eq_left hk]
  have hp := pval_lt _ hdd
  rw [hl2] at hp
  have hp9 : pval ((l.take k).drop (k - 9)) < BB := Nat.lt_of_lt_of_le hp (ten9_le (by omega))
  refine ⟨?_, by rw [List.length_append, List.length_singleton]; omega, RInv.val_step h3 hk (by omega) (by omega), by omega⟩
  intro w hw
  rcases List.mem_append.1 hw with hw | hw
  · exact h1 w hw
  · rw [List.mem_singleton.1 hw]; exact hp9
theorem RInv.done {l : List UInt8} {r : List Nat} (h : RInv l 0 r) : Ok r ∧ val r = pval l := by
  obtain ⟨h1, h2, h3, h4⟩ := h
  refine ⟨h1, ?_⟩
  have : pval (l.take 0) = 0 := rfl
  rw [this] at h3
  omega

set_option maxHeartbeats 1000000 in
set_option maxRecDepth 100000 in
theorem read_any (s : ByteArray) (w : World) (n : Nat) (hn : s.data.toList = decDigits n) (hs : s.size ≤ 1099511627776) :
    Calls Tryz.prog 213 #[.string s] w (RetN w (fun r => r = wds n)) := by
  obtain ⟨i0, hi, hz0, hz1, hz2⟩ := info_parts Tryz.infoU32
  have HN := Lib.hid hn
  have hsz : s.size = s.data.toList.length := (bytes_len s).symm
  clear hn
  go_enter Tryz.func213, Tryz.ntmps213
  go_wp2
  go_loopw [0, 3] (fun x v wr => ∃ (sp : ByteArray) (k : Nat) (r : List Nat), sp.size = k ∧ k ≤ s.size ∧ r.length + k ≤ s.size ∧ x = .string sp ∧ Hid (sp.data.toList = s.data.toList.take k) ∧ Hid (OwnN wr w.heap.size v r) ∧ Hid (RInv s.data.toList k r) ∧ Hid (Ext w wr)) (fun x _ _ => match x with | .string sp => sp.size | _ => 0)
  case atStart => exact ⟨s, s.size, [], rfl, Nat.le_refl _, by simp, rfl, by unfold Hid; rw [hsz, List.take_length], ⟨by simp [u32s], .inl ⟨rfl, rfl⟩⟩, by unfold Hid; rw [hsz]; exact RInv.start _, Ext.rfl' w⟩
  case round =>
    obtain ⟨sp, k, r, rfl, hk1, hk2, rfl, HT, HO, HR, HE⟩ := hrel
    by_cases hk : 0 < sp.size
    · obtain ⟨m, hm⟩ : ∃ m, m = sp.size - 9 := ⟨_, rfl⟩
      have hmx : max ((sp.size : Int) - 9) 0 = (m : Int) := by omega
      have hme : m ≤ sp.size := by omega
      have hmt : ((m : Int)).toNat = m := by omega
      have hex : (sp.extract m sp.size).data.toList = (s.data.toList.take sp.size).drop m := by
        rw [extract_list, HT.out, List.take_take, Nat.min_self]
      have hdd : ∀ c ∈ (sp.extract m sp.size).data.toList, isDig c := fun c hc => by
        rw [hex] at hc
        have := List.mem_of_mem_take (List.mem_of_mem_drop hc)
        rw [HN.out] at this
        exact dec_dig n c this
      have hxl : (sp.extract m sp.size).data.toList.length = sp.size - m := by rw [hex]; simp; omega
      have hP := fun W => parse9 (sp.extract m sp.size) (by intro e; rw [e] at hxl; simp at hxl; omega) (by rw [← bytes_len, hxl]; omega) hdd W
      rw [hex] at hP
      obtain ⟨u, hu⟩ : ∃ u, u = pval ((s.data.toList.take sp.size).drop m) := ⟨_, rfl⟩
      rw [← hu] at hP
      have HR2 := HR.out.step (fun c hc => by rw [HN.out] at hc; exact dec_dig n c hc) (by omega) hk
      rw [← hm, ← hu] at HR2
      have hub : u < 1000000000 := HR2.1 u (by simp)
      have hwrap : IntKind.u32.wrap (u : Int) = (u : Int) := by rw [IntKind.wrap_u32]; omega
      have HR3 := Lib.hid HR2
      have HU := Lib.hid hu
      have HM := Lib.hid hm
      have hbig : (r.length + 1) * 4 ≤ 140737488355328 := by omega
      have hmax : r.length + 1 ≤ maxLen := by unfold maxLen; omega
      have hbase : w.heap.size ≤ wr.heap.size := HE.out.size
      clear hu hm HR2 hex hdd hxl
      go_wp2_with (go_at_call 237; refine (hP _).mono ?_)
      rintro e w1 ⟨rfl, hE1⟩
      have HE1 := Lib.hid (Ext.tr HE.out hE1)
      have HO1 := Lib.hid (HO.out.ext hE1)
      have hbase1 : w.heap.size ≤ w1.heap.size := HE1.out.size
      clear hE1
      go_wp2_with (at_builtin; (refine wpList_append_own _ rfl _ _ 214 rfl w.heap.size 181 i0 (.int .u32 0) 1 4 Tryz.underlying214 hi hz0 hz1 hz2 rfl (by decide) _ r.length (u32s r) rfl (World.ownsRow.alloc HO1.out _) ⟨w1.heap.size, 0, none⟩ 1 1 _ rfl rfl (cell_one_new _ _ _) (by simp [Value.oneCell']) hmax hbig (by simp; omega) ?_); intro v' w2 hown2 hgrow2 _)
      all_goals
        obtain ⟨p1, p2⟩ := own_push HO1.out HE1.out hown2 hgrow2 rfl
        go_roundw
        case rel => exact ⟨sp.extract 0 m, m, r ++ [u], by simp; omega, by omega, by simp; omega, rfl, by unfold Hid; rw [extract_list, HT.out, List.drop_zero, List.take_take, Nat.min_eq_left hme], p1, HR3, p2⟩
        case measure => simp; have := HM.out; omega
    · obtain ⟨hOk, hval⟩ := RInv.done (l := s.data.toList) (r := r) (by have := HR.out; rwa [show sp.size = 0 by omega] at this)
      rw [HN.out, pval_dec] at hval
      obtain ⟨A, c, rfl, hlc, hcm, hrd, hbk⟩ := HO.out.parts
      have hcm' : c ≤ 9223372036854775807 := by unfold maxLen at hcm; omega
      have HV := Lib.hid hval
      clear hval
      go_wp2_with (go_at_call 223; refine (trim_n A c r.length r wr rfl hlc hcm' hrd).mono ?_; rintro e w' ⟨rfl, rfl⟩)
      go_ret
      exact own_trim HO.out hOk HV.out HE.out
end Go.Proofs.YtadimepmoljnpaaGreatDoor.GB

namespace Go.Proofs.YtadimepmoljnpaaGreatDoor.GB
set_option linter.unusedVariables false
set_option linter.unusedSimpArgs false
open Go.RowKit Lib
end Go.Proofs.YtadimepmoljnpaaGreatDoor.GB

namespace Go.Proofs.YtadimepmoljnpaaGreatDoor.GB
set_option linter.unusedVariables false
set_option linter.unusedSimpArgs false
open Go.RowKit Lib
end Go.Proofs.YtadimepmoljnpaaGreatDoor.GB

namespace Go.Proofs.YtadimepmoljnpaaGreatDoor.GB
set_option linter.unusedVariables false
set_option linter.unusedSimpArgs false
open Go.RowKit

theorem last_lt {r : List Nat} (ho : Ok r) (h : r.getLast? = some 0) : val r < BB ^ (r.length - 1) := by
  obtain ⟨a, rfl⟩ : ∃ a, r = a ++ [0] := by
    have hne : r ≠ [] := by intro e; rw [e] at h; simp at h
    refine ⟨r.dropLast, ?_⟩
    have := List.dropLast_concat_getLast hne
    rw [List.getLast?_eq_some_getLast hne] at h
    rw [← Option.some.inj h]; exact this.symm
  rw [val_snoc_zero]
  have := val_lt (Ok.append.1 ho).1
  simpa using this
theorem MPost.plus {a b : Nat} {r : List Nat} (h : MPost (wds a) (wds b) 1 r) : r = wds (a + b) := by
  obtain ⟨h1, h2, h3⟩ := h
  rw [val_wds, val_wds] at h2
  have hv : val r = a + b := by omega
  rw [← hv]
  refine (wds_val h1 fun hl => ?_).symm
  rcases h3 with h3 | h3
  · have h4 := last_lt h1 hl
    rw [hv] at h4
    by_cases hz : r.length = 0
    · rw [List.length_eq_zero_iff.1 hz] at hl; simp at hl
    · rcases Nat.le_total (wds a).length (wds b).length with hle | hle
      · have hb0 : b ≠ 0 := by intro e; rw [e, wds_zero] at hle h3; simp at hle; rw [hle] at h3; simp at h3; exact hz (by rw [h3]; rfl)
        have := wds_len_ge hb0
        rw [h3, Nat.max_eq_right hle] at h4; omega
      · have ha0 : a ≠ 0 := by intro e; rw [e, wds_zero] at hle h3; simp at hle; rw [hle] at h3; simp at h3; exact hz (by rw [h3]; rfl)
        have := wds_len_ge ha0
        rw [h3, Nat.max_eq_left hle] at h4; omega
  · exact h3.2 hl

set_option maxHeartbeats 400000 in
theorem plus_any (A B : Option Addr) (ca cb n m a b : Nat) (w : World) (hn : (wds a).length = n) (hm : (wds b).length = m) (hla : n ≤ 1099511627776) (hlb : m ≤ 1099511627776) (ha : RdN w A (wds a)) (hb : RdN w B (wds b)) :
    Calls Tryz.prog 224 #[.slice A n ca, .slice B m cb] w (RetN w (fun r => r = wds (a + b))) := by
  subst hn hm
  have HA := Lib.hid ha
  have HB := Lib.hid hb
  clear ha hb
  go_enter Tryz.func224, Tryz.ntmps224
  go_wp2_with (go_at_call 248; refine (merge_any _ _ _ _ (wds a) (wds b) 1 _ (.inl rfl) hla hlb HA.out HB.out (ok_wds a) (ok_wds b) (.inr rfl)).mono ?_; rintro e w' ⟨v, r, rfl, hv, hr, hE⟩)
  go_ret
  exact ⟨_, _, rfl, hv, hr.plus, hE⟩
set_option maxHeartbeats 400000 in
theorem minus_any (A B : Option Addr) (ca cb n m a b : Nat) (w : World) (hn : (wds a).length = n) (hm : (wds b).length = m) (hla : n ≤ 1099511627776) (hlb : m ≤ 1099511627776) (ha : RdN w A (wds a)) (hb : RdN w B (wds b)) (hle : b ≤ a) :
    Calls Tryz.prog 226 #[.slice A n ca, .slice B m cb] w (RetN w (fun r => r = wds (a - b))) := by
  have hmn := wds_mono hle
  subst hn hm
  have HA := Lib.hid ha
  have HB := Lib.hid hb
  clear ha hb
  have hle2 : ((val (wds b) : Nat) : Int) ≤ val (wds a) := by rw [val_wds, val_wds]; omega
  have HL := Lib.hid hle2
  clear hle2
  go_enter Tryz.func226, Tryz.ntmps226
  go_wp2_with fail
  refine (merge_any _ _ _ _ (wds a) (wds b) (-1) _ (.inr rfl) hla hlb HA.out HB.out (ok_wds a) (ok_wds b) (.inl HL.out)).mono ?_
  rintro e w' ⟨v, r, rfl, hv, ⟨h1, h2, h3⟩, hE⟩
  have hval : val r = a - b := by rw [val_wds, val_wds] at h2; omega
  obtain ⟨A', c', rfl, q1, q2, q3, q4⟩ := hv.parts
  have HV := Lib.hid hv
  have H1 := Lib.hid h1
  have H2 := Lib.hid hval
  have H3 := Lib.hid q3
  have q2' : c' ≤ 9223372036854775807 := q2
  clear hv h1 h2 h3 hval q3 q4
  go_wp2_with fail
  refine (trim_n _ _ _ r _ rfl q1 q2' H3.out).mono ?_
  rintro e w2 ⟨rfl, rfl⟩
  go_wp2
  go_ret
  exact own_trim HV.out H1.out H2.out hE
end Go.Proofs.YtadimepmoljnpaaGreatDoor.GB

namespace Go.Proofs.YtadimepmoljnpaaGreatDoor.GB
set_option linter.unusedVariables false
set_option linter.unusedSimpArgs false
open Go.RowKit

/-- A quotient and a remainder that can be read. -/
def RetRR (w : World) (q r : Nat) (e : Ending) (w' : World) : Prop := ∃ A1 c1 A2 c2, e = .returned (.tuple #[.slice A1 (wds q).length c1, .slice A2 (wds r).length c2]) ∧
  RdN w' A1 (wds q) ∧ (wds q).length ≤ c1 ∧ c1 ≤ maxLen ∧ RdN w' A2 (wds r) ∧ (wds r).length ≤ c2 ∧ c2 ≤ maxLen ∧ Ext w w'
theorem RdN.nil (w : World) (A : Option Addr) : RdN w A [] := fun j hj => by simp at hj
theorem cmpZ_ltb {a b : Nat} (h : a < b) : decide (cmpZ a b < 0) = true := by rw [cmpZ_lt h]; rfl
theorem cmpZ_geb {a b : Nat} (h : b ≤ a) : decide (cmpZ a b < 0) = false := by
  rcases Nat.lt_or_eq_of_le h with h | h
  · rw [cmpZ_gt h]; rfl
  · subst h; rw [cmpZ_eq]; rfl

set_option maxHeartbeats 1000000 in
set_option maxRecDepth 100000 in
theorem divide_less (A B : Option Addr) (ca cb n m a b : Nat) (w : World) (hn : (wds a).length = n) (hm : (wds b).length = m) (hla : n ≤ 1099511627776) (hlb : m ≤ 1099511627776) (hca : n ≤ ca) (hcm : ca ≤ maxLen)
    (ha : RdN w A (wds a)) (hb : RdN w B (wds b)) (hlt : a < b) :
    Calls Tryz.prog 217 #[.slice A n ca, .slice B m cb] w (RetRR w (a / b) (a % b)) := by
  have hc : cmpZ a b < 0 := by rw [cmpZ_lt hlt]; omega
  have HN := Lib.hid hn
  have HM := Lib.hid hm
  have HA := Lib.hid ha
  have HB := Lib.hid hb
  have HL := Lib.hid hlt
  clear hn hm ha hb hlt
  go_enter Tryz.func217, Tryz.ntmps217
  go_wp2_with fail
  refine (compare_any _ _ _ _ _ _ a b _ HN.out HM.out hla hlb HA.out HB.out).mono ?_
  rintro e w1 ⟨rfl, hE⟩
  go_wp2_with fail
  go_ret2
  have e1 : a / b = 0 := Nat.div_eq_of_lt HL.out
  have e2 : a % b = a := Nat.mod_eq_of_lt HL.out
  rw [e1, e2]
  exact ⟨none, 0, A, ca, by rw [HN.out, wds_zero]; rfl, by rw [wds_zero]; exact RdN.nil _ _, by rw [wds_zero]; exact Nat.le_refl _, by simp [maxLen], HA.out.ext hE, by rw [HN.out]; exact hca, hcm, hE⟩

theorem of_z (z : Int) (w : World) (h : Hid (0 ≤ z ∧ z < 1000000000000000000)) : Calls Tryz.prog 216 #[.int .u64 z] w (RetN w (fun r => r = wds z.toNat)) := by
  have h := h.out
  obtain ⟨x, rfl⟩ := Int.eq_ofNat_of_zero_le h.1
  rw [Int.toNat_natCast]; exact of_any x w (by omega)
theorem RetRR.of_own {w w' : World} {v1 v2 : Value} {q r : Nat} (h1 : OwnN w' w.heap.size v1 (wds q)) (h2 : OwnN w' w.heap.size v2 (wds r)) (hE : Ext w w') : RetRR w q r (.returned (.tuple #[v1, v2])) w' := by
  obtain ⟨A1, c1, rfl, a1, a2, a3, _⟩ := h1.parts
  obtain ⟨A2, c2, rfl, b1, b2, b3, _⟩ := h2.parts
  exact ⟨A1, c1, A2, c2, rfl, a3, a1, a2, b3, b1, b2, hE⟩
attribute [local go_sem ↓] Go.wp_at_zero Go.wp_at_succ
set_option maxHeartbeats 1000000 in
set_option maxRecDepth 100000 in
theorem divide_small (A B : Option Addr) (ca cb n m a b : Nat) (w : World) (hn : (wds a).length = n) (hm : (wds b).length = m) (hla : n ≤ 1099511627776) (hlb : m ≤ 1099511627776)
    (ha : RdN w A (wds a)) (hb : RdN w B (wds b)) (hle : b ≤ a) (hb0 : 0 < b) (h1 : a < 1000000000000000000) :
    Calls Tryz.prog 217 #[.slice A n ca, .slice B m cb] w (RetRR w (a / b) (a % b)) := by
  have hc : decide (cmpZ a b < 0) = false := cmpZ_geb hle
  have h2 : b < 1000000000000000000 := by omega
  have hq : a / b < 1000000000000000000 := Nat.lt_of_le_of_lt (Nat.div_le_self a b) h1
  have hr : a % b < 1000000000000000000 := Nat.lt_trans (Nat.mod_lt a hb0) h2
  have HN := Lib.hid hn
  have HM := Lib.hid hm
  have HA := Lib.hid ha
  have HB := Lib.hid hb
  have HQ := Lib.hid hq
  have HR := Lib.hid hr
  have H1 := Lib.hid h1
  have H2 := Lib.hid h2
  clear hn hm ha hb hq hr h1 h2
  go_enter Tryz.func217, Tryz.ntmps217
  go_wp2_with fail
  refine (compare_any _ _ _ _ _ _ a b _ HN.out HM.out hla hlb HA.out HB.out).mono ?_
  rintro e w1 ⟨rfl, hE1⟩
  have A1 := Lib.hid (HA.out.ext hE1)
  have B1 := Lib.hid (HB.out.ext hE1)
  go_wp2_with fail
  refine (small_any _ _ _ a _ HN.out hla A1.out).mono ?_
  rintro e w2 ⟨hs, _, hE2⟩
  obtain rfl := hs H1.out
  have B2 := Lib.hid (B1.out.ext hE2)
  go_wp2_with fail
  refine (small_any _ _ _ b _ HM.out hlb B2.out).mono ?_
  rintro e w3 ⟨hs2, _, hE3⟩
  obtain rfl := hs2 H2.out
  clear hs hs2
  go_wp2_with fail
  have q0 : Hid (0 ≤ (a : Int) / (b : Int) ∧ (a : Int) / (b : Int) < 1000000000000000000) := ⟨Int.ediv_nonneg (by omega) (by omega), by have := HQ.out; rw [← Int.natCast_ediv]; omega⟩
  have hte : Hid ((a : Int).tmod (b : Int) = ((a % b : Nat) : Int)) := by show (a : Int).tmod (b : Int) = _; rw [Int.tmod_eq_emod_of_nonneg (by omega)]; rfl
  have r0 : Hid (0 ≤ (a : Int).tmod (b : Int) ∧ (a : Int).tmod (b : Int) < 1000000000000000000) := by have := HR.out; rw [hte.out]; exact ⟨by omega, by omega⟩
  have r2 : Hid (0 ≤ (a : Int) % (b : Int) ∧ (a : Int) % (b : Int) < 1000000000000000000) := ⟨Int.emod_nonneg _ (by omega), by have := HR.out; rw [← Int.natCast_emod]; omega⟩
  have w1q : IntKind.u64.wrap ((a : Int) / (b : Int)) = (a : Int) / (b : Int) := IntWalk.u64_in _ (by have := q0.out; omega)
  go_region_with ((go_at_call 216; first
    | ((with_reducible refine (of_z ((a : Int) / (b : Int)) _ q0).mono ?_); rintro e w' ⟨vq, _, rfl, hvq, rfl, hEq⟩)
    | ((with_reducible refine (of_z ((a : Int).tmod (b : Int)) _ r0).mono ?_); rintro e w' ⟨vr, _, rfl, hvr, rfl, hEr⟩)
    | ((with_reducible refine (of_z ((a : Int) % (b : Int)) _ r2).mono ?_); rintro e w' ⟨vr, _, rfl, hvr, rfl, hEr⟩)))
  all_goals (clear q0 r0 r2 w1q)
  all_goals go_wp2
  all_goals go_ret2
  all_goals
    have e1 : ((a : Int) / (b : Int)).toNat = a / b := by rw [← Int.natCast_ediv]; exact Int.toNat_natCast _
    have e2 : ((a : Int) % (b : Int)).toNat = a % b := by rw [← Int.natCast_emod]; exact Int.toNat_natCast _
    have e3 : ((a : Int).tmod (b : Int)).toNat = a % b := by rw [hte.out]; exact Int.toNat_natCast _
    have hE : Ext w w3.drew := (hE1.tr (hE2.tr hE3)).dr
    rw [e1] at hvq
    first | rw [e2] at hvr | rw [e3] at hvr
    first
      | exact RetRR.of_own ((hvq.ext hEr).lower hE.size) (hvr.lower (hE.tr hEq).size) ((hE.tr hEq).tr hEr)
      | exact RetRR.of_own (hvq.lower (hE.tr hEr).size) ((hvr.ext hEq).lower hE.size) ((hE.tr hEr).tr hEq)
end Go.Proofs.YtadimepmoljnpaaGreatDoor.GB

namespace Go.Proofs.YtadimepmoljnpaaGreatDoor.GB
set_option linter.unusedVariables false
set_option linter.unusedSimpArgs false
open Go.RowKit
attribute [local go_sem ↓] Go.wp_at_zero Go.wp_at_succ

set_option maxHeartbeats 1000000 in
set_option maxRecDepth 100000 in
theorem divide_one (A B : Option Addr) (ca cb n a b : Nat) (w : World) (hn : (wds a).length = n) (hla : n ≤ 1099511627776)
    (ha : RdN w A (wds a)) (hb : RdN w B (wds b)) (hle : b ≤ a) (hb0 : 0 < b) (hb1 : b < 1000000000) (h1 : 1000000000000000000 ≤ a) :
    Calls Tryz.prog 217 #[.slice A n ca, .slice B 1 cb] w (RetRR w (a / b) (a % b)) := by
  have hc : decide (cmpZ a b < 0) = false := cmpZ_geb hle
  have hm : (wds b).length = 1 := by rw [wds_small (by omega) hb1]; rfl
  obtain ⟨g, off, rfl, hg, hcb⟩ := hb 0 (by omega)
  have hcb' : w.cell? ⟨g, off, none⟩ = some (.int .u32 (b : Int)) := by
    rw [Nat.add_zero] at hcb; rw [hcb]
    have : (wds b)[0]'(by omega) = b := by simp [wds_small (by omega : b ≠ 0) hb1]
    rw [this]
  have HN := Lib.hid hn
  have HM := Lib.hid hm
  have HA := Lib.hid ha
  have HB := Lib.hid hb
  have HC := Lib.hid hcb'
  have H1 := Lib.hid h1
  have H2 : Hid (b < 1000000000000000000) := by show b < _; omega
  clear hn hm ha hb h1 hcb hcb'
  go_enter Tryz.func217, Tryz.ntmps217
  go_wp2_with fail
  refine (compare_any _ _ _ _ _ _ a b _ HN.out HM.out hla (by omega) HA.out HB.out).mono ?_
  rintro e w1 ⟨rfl, hE1⟩
  have A1 := Lib.hid (HA.out.ext hE1)
  have B1 := Lib.hid (HB.out.ext hE1)
  go_wp2_with fail
  refine (small_any _ _ _ a _ HN.out hla A1.out).mono ?_
  rintro e w2 ⟨_, hs, hE2⟩
  obtain rfl := hs H1.out
  have A2 := Lib.hid (A1.out.ext hE2)
  have B2 := Lib.hid (B1.out.ext hE2)
  clear hs
  go_wp2_with fail
  refine (small_any _ _ _ b _ HM.out (by omega) B2.out).mono ?_
  rintro e w3 ⟨hs2, _, hE3⟩
  obtain rfl := hs2 H2.out
  have A3 := Lib.hid (A2.out.ext hE3)
  have hE := Lib.hid (hE1.tr (hE2.tr hE3))
  have hcw : w3.cell? ⟨g, off, none⟩ = some (.int .u32 (b : Int)) := hE.out.cell HC.out
  clear hs2 hE1 hE2 hE3
  go_wp2_with fail
  refine (by_any _ _ n (wds a) b _ HN.out hla A3.out (ok_wds a) hb0 hb1).mono ?_
  rintro e w4 ⟨v1, v2, rfl, hv1, hv2, hE4⟩
  rw [val_wds] at hv1 hv2
  go_wp2
  go_ret2
  exact RetRR.of_own (hv1.lower hE.out.size) (hv2.lower hE.out.size) (hE.out.tr hE4)
end Go.Proofs.YtadimepmoljnpaaGreatDoor.GB

namespace Go.Proofs.YtadimepmoljnpaaGreatDoor.GB
set_option linter.unusedVariables false
set_option linter.unusedSimpArgs false

/-! ### Lists of which a part in the middle is written -/
theorem mid_len {U D : List Nat} {j i : Nat} (hD : D.length = i) (h : j + i ≤ U.length) : (U.take j ++ (D ++ U.drop (j + i))).length = U.length := by simp; omega
theorem mid_get {U D : List Nat} {j i x : Nat} (hD : D.length = i) (h : j + i ≤ U.length) (hx : i ≤ x) : wd (U.take j ++ (D ++ U.drop (j + i))) (x + j) = wd U (x + j) := by
  unfold wd
  rw [List.getD_eq_getElem?_getD, List.getD_eq_getElem?_getD, List.getElem?_append_right (by simp; omega), List.getElem?_append_right (by simp; omega), List.getElem?_drop]
  congr 2; simp; omega
theorem mid_set {U D : List Nat} {j i d : Nat} (hD : D.length = i) (h : j + i < U.length) : (U.take j ++ (D ++ U.drop (j + i))).set (i + j) d = U.take j ++ ((D ++ [d]) ++ U.drop (j + (i + 1))) := by
  rw [List.set_append_right _ _ (by simp; omega), List.set_append_right _ _ (by simp; omega)]
  have e : i + j - (U.take j).length - D.length = 0 := by simp; omega
  rw [e, List.drop_eq_getElem_cons h, List.set_cons_zero, List.append_assoc]
  rfl
theorem add_len {U D E : List Nat} {j i k : Nat} (hE : E.length = i) (hD : D.length = k) (hi : i ≤ k) (h : j + k ≤ U.length) : (U.take j ++ (E ++ (D.drop i ++ U.drop (j + k)))).length = U.length := by simp; omega
theorem add_get {U D E : List Nat} {j i k : Nat} (hE : E.length = i) (hD : D.length = k) (hi : i < k) (h : j + k ≤ U.length) : wd (U.take j ++ (E ++ (D.drop i ++ U.drop (j + k)))) (i + j) = wd D i := by
  unfold wd
  rw [List.getD_eq_getElem?_getD, List.getD_eq_getElem?_getD, List.getElem?_append_right (by simp; omega), List.getElem?_append_right (by simp; omega), List.getElem?_append_left (by simp; omega), List.getElem?_drop]
  congr 2; simp; omega
theorem add_set {U D E : List Nat} {j i k e : Nat} (hE : E.length = i) (hD : D.length = k) (hi : i < k) (h : j + k ≤ U.length) :
    (U.take j ++ (E ++ (D.drop i ++ U.drop (j + k)))).set (i + j) e = U.take j ++ ((E ++ [e]) ++ (D.drop (i + 1) ++ U.drop (j + k))) := by
  rw [List.set_append_right _ _ (by simp; omega), List.set_append_right _ _ (by simp; omega)]
  have e1 : i + j - (U.take j).length - E.length = 0 := by simp; omega
  rw [e1, List.drop_eq_getElem_cons (by omega : i < D.length), List.cons_append, List.set_cons_zero, List.append_assoc]
  rfl
theorem end_set {U D : List Nat} {j k : Nat} (hD : D.length = k) (h : j + k < U.length) : (U.take j ++ (D ++ U.drop (j + k))).set (j + k) 0 = U.take j ++ (D ++ 0 :: U.drop (j + k + 1)) := by
  rw [List.set_append_right _ _ (by simp; omega), List.set_append_right _ _ (by simp; omega)]
  have e1 : j + k - (U.take j).length - D.length = 0 := by simp; omega
  rw [e1, List.drop_eq_getElem_cons h, List.set_cons_zero]
theorem add_start {U D : List Nat} {j k : Nat} : U.take j ++ (D ++ U.drop (j + k)) = U.take j ++ (([] : List Nat) ++ (D.drop 0 ++ U.drop (j + k))) := by simp
theorem add_end {U D E : List Nat} {j k : Nat} (hD : D.length = k) : U.take j ++ (E ++ (D.drop k ++ U.drop (j + k))) = U.take j ++ (E ++ U.drop (j + k)) := by rw [List.drop_eq_nil_of_le (by omega)]; simp
theorem mid_start {U : List Nat} {j : Nat} : U.take j ++ (([] : List Nat) ++ U.drop (j + 0)) = U := by simp

theorem kinv_done {a b f k : Nat} {V U Q : List Nat} (h : KInv V (a * f) k 0 U Q) (hv : Ok V) (hk : V.length = k) (hV : val V = b * f) (hf : 0 < f) : val Q = a / b ∧ val (U.take k) = (a % b) * f := by
  have h1 := h.tot
  have h2 := h.lt
  rw [List.drop_zero] at h1 h2
  rw [hV] at h1 h2
  simp only [Nat.pow_zero, Nat.one_mul] at h1
  have hq : val Q = a / b := by
    have e : a * f / (b * f) = a / b := Nat.mul_div_mul_right a b hf
    rw [← e, ← h1, Nat.add_comm, Nat.mul_add_div (by omega), Nat.div_eq_of_lt h2]; omega
  have hu : val U = a % b * f := by
    have e : a * f % (b * f) = a % b * f := Nat.mul_mod_mul_right f a b
    rw [← e, ← h1, Nat.add_comm, Nat.mul_add_mod, Nat.mod_eq_of_lt h2]
  refine ⟨hq, ?_⟩
  have h3 := val_split U k
  have h4 := val_lt hv
  rw [hk, hV] at h4
  have h5 : val (U.drop k) = 0 := by
    rcases Nat.eq_zero_or_pos (val (U.drop k)) with h6 | h6
    · exact h6
    · have := Nat.mul_le_mul_left (BB ^ k) h6; omega
  rw [h5] at h3; omega

/-- What a step of the division leaves: the remainder's words in the window. -/
def DStep (U V : List Nat) (j k g : Nat) (D : List Nat) : Prop := D.length = k ∧ Ok D ∧ g < BB ∧ val (U.drop j) = val D + g * val V ∧ val D < val V
end Go.Proofs.YtadimepmoljnpaaGreatDoor.GB
