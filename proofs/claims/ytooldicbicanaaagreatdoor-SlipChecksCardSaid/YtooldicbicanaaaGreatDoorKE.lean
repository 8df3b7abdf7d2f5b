/- What calls find in the world, and what they leave as it was. -/
import Derived.WalkSmall
import Derived.Test.YtooldicbicanaaaGreatDoorKD
import Derived.Test.YtooldicbicanaaaGreatDoorShelf
import Derived.Deep.RegionLaw
import Derived.Deep.AppendLies
import Derived.Lib.Builder
import Derived.Lib.AppendStr
import Derived.Lib.UnsafeStr
import Derived.Lib.OthersKept
import Derived.Lib.AppendIntMem
import Derived.Lib.Walk
namespace Go.Proofs.Klp
open Go.RowKit

/-- what was there is there -/
def Up (w w' : World) : Prop := Below w.heap.size w w'
theorem Up.refl (w : World) : Up w w := Below.refl _ w
theorem Up.trans {a b c : World} (h : Up a b) (k : Up b c) : Up a c := by
  have := h.size
  refine Below.trans h ?_
  exact k.mono this
theorem Up.drewN {a b : World} (h : Up a b) (n : Nat) : Up a (b.drewN n) := below_drewN h n
theorem Up.size {a b : World} (h : Up a b) : a.heap.size ≤ b.heap.size := Below.size h
theorem Up.of {w w' : World} (h : Below w.heap.size w w') : Up w w' := h
theorem Up.bytes (w : World) (e : TypeId) (s : ByteArray) : Up w (Lib.bytesWorld w e s) := Lib.bytesWorld_below w e s
theorem Up.grow {w : World} (k : Nat) (os : Array Obj) : Up w (Sort.grow (w.drewN k) os) :=
  ⟨rfl, rfl, rfl, by show w.heap.size ≤ (w.heap ++ os).size; rw [Array.size_append]; omega, fun j hj => by
    show (w.heap ++ os)[j]? = w.heap[j]?
    exact Array.getElem?_append_left hj⟩

/-- what the calls of the library need -/
structure Env (w : World) : Prop where
  size : 6 ≤ w.heap.size
  maxl : ∃ m, w.cell? ⟨0, 0, none⟩ = some (.int .i64 m)
  tab : Lib.TabIs Tryz.prog w "internal/strconv.uint64pow10" .u64 Lib.pow10Tab
  syn : ∃ tp p, w.var? Tryz.prog "strconv.ErrSyntax" = some #[.iface tp p]
  rng : ∃ tp p, w.var? Tryz.prog "strconv.ErrRange" = some #[.iface tp p]
theorem Env.up {w w' : World} (h : Env w) (k : Up w w') : Env w' := by
  have hs := k.size
  have h6 := h.size
  refine ⟨by omega, ?_, ?_, ?_, ?_⟩
  · obtain ⟨m, hm⟩ := h.maxl
    exact ⟨m, (Below.cell k (p := ⟨0, 0, none⟩) (by show 0 < _; omega)).trans hm⟩
  · exact var?_below k (g := 3) (by kernel_rfl) (by omega) h.tab
  · obtain ⟨tp, p, hv⟩ := h.syn
    exact ⟨tp, p, var?_below k (g := 1) (by kernel_rfl) (by omega) hv⟩
  · obtain ⟨tp, p, hv⟩ := h.rng
    exact ⟨tp, p, var?_below k (g := 2) (by kernel_rfl) (by omega) hv⟩
/-- a call returns v, and leaves what was there as it was -/
abbrev Ret (w : World) (v : Value) : Ending → World → Prop := fun e w' => e = .returned v ∧ Up w w'
theorem Ret.same {w w' : World} {v : Value} {e : Ending} (h : e = .returned v ∧ w = w') : Ret w v e w' := ⟨h.1, h.2 ▸ Up.refl _⟩
/-- an error: none, or ErrNumber -/
def errN (b : Bool) : Int := if b then 0 else 2

theorem str_neg (q : Rat) (w : World) (hq : rlen q ≤ 100000000) : Calls Tryz.prog 76 #[.string (rB q)] w (Ret w (.string (rB (-q)))) :=
  (rat_neg q w hq).mono fun _ _ h => Ret.same h
theorem ref_neg (q : Rat) (w : World) (hq : rlen q ≤ 100000000) : Calls Tryz.prog 61 #[.string (rB q)] w (Ret w (.string (rB (-q)))) :=
  (ref02_neg q w hq).mono fun _ _ h => Ret.same h

/-- strconv.Itoa -/
theorem itoa_c (n : Int) (w : World) (hE : Env w) (h0 : -9223372036854775808 ≤ n) (h1 : n ≤ 9223372036854775807) : Calls Tryz.prog 101 #[.int .i64 n] w (Ret w (.string (iB n))) := by
  refine (Tryz.strconv_Itoa n h0 h1 w hE.tab).mono ?_
  rintro e w' ⟨rfl, k, os, rfl⟩
  exact ⟨rfl, Up.grow k os⟩
/-- strconv.Atoi of at most 18 bytes -/
theorem atoi_c (n : Int) (w : World) (h : ilen n ≤ 17 ∨ (iB n).size ≤ 18) : Calls Tryz.prog 125 #[.string (iB n)] w (Ret w (.tuple #[.int .i64 n, .nilIface])) := by
  have hs := iB_size n
  refine (Tryz.strconv_Atoi (iB n) n (by omega) (atoi_itoa n) w).mono ?_
  rintro e w' ⟨rfl, t, rfl⟩
  exact ⟨rfl, Up.bytes _ _ _⟩
/-- strings.HasPrefix, TrimPrefix, CutPrefix of a minus sign -/
theorem hp_c (n : Int) (w : World) : Calls Tryz.prog 148 #[.string (iB n), .string (mkB [45])] w (Ret w (.bool (decide (n < 0)))) := by
  refine (Tryz.strings_HasPrefix (iB n) (mkB [45]) w).mono ?_
  rintro e w' ⟨rfl, rfl⟩
  rw [mkB_data, iB_data, hp_itoa]
  exact ⟨rfl, Up.refl _⟩
theorem iB_abs (n : Int) : iB n.natAbs = mkB (Lib.decDigits n.natAbs) := by unfold iB; rw [itoa_nat]
theorem tp_c (n : Int) (w : World) : Calls Tryz.prog 143 #[.string (iB n), .string (mkB [45])] w (Ret w (.string (iB n.natAbs))) := by
  refine (Tryz.strings_TrimPrefix (iB n) (mkB [45]) w).mono ?_
  rintro e w' ⟨rfl, rfl⟩
  rw [mkB_data, iB_data, tp_itoa, iB_abs]
  exact ⟨rfl, Up.refl _⟩
theorem cp_c (n : Int) (w : World) : Calls Tryz.prog 146 #[.string (iB n), .string (mkB [45])] w (Ret w (.tuple #[.string (iB n.natAbs), .bool (decide (n < 0))])) := by
  refine (Tryz.strings_CutPrefix (iB n) (mkB [45]) w).mono ?_
  rintro e w' ⟨rfl, rfl⟩
  rw [mkB_data, iB_data, tp_itoa, hp_itoa, iB_abs]
  exact ⟨rfl, Up.refl _⟩
/-- strings.Compare of the digits of numbers of one length -/
theorem sc_c (m n : Nat) (w : World) (h : (iB m).size = (iB n).size) : Calls Tryz.prog 144 #[.string (iB m), .string (iB n)] w (Ret w (.int .i64 (cmpI m n))) := by
  refine (Tryz.strings_Compare (iB m) (iB n) w).mono ?_
  rintro e w' ⟨rfl, rfl⟩
  unfold iB at h ⊢
  rw [mkB_size, mkB_size, itoa_nat, itoa_nat] at h
  rw [mkB_data, mkB_data, itoa_nat, itoa_nat, cmp_digs _ _ (digs_dec m) (digs_dec n) h, tv_dec, tv_dec]
  exact ⟨rfl, Up.refl _⟩
end Go.Proofs.Klp
/- Signs, opposites and orders of the program's integers, and ints as integers. -/
namespace Go.Proofs.Klp
open Go.RowKit
open Go.Lib (decDigits itoa)

theorem int_sign (n : Int) (w : World) (hn : ilen n ≤ 100000000) : Calls Tryz.prog 123 #[.string (iB n)] w (Ret w (.int .i64 n.sign)) := by
  have hs := iB_size n
  have h0 := iB_is0 n
  have hU := Up.refl w
  by_cases hz : n = 0
  · subst hz
    rw [decide_eq_true rfl] at h0
    go_enter Tryz.func123, Tryz.ntmps123
    go_wp2
    go_ret
    exact ⟨rfl, hU⟩
  · rw [decide_eq_false hz] at h0
    by_cases hneg : n < 0
    · have hc := hp_c n w
      rw [decide_eq_true hneg] at hc
      go_enter Tryz.func123, Tryz.ntmps123
      go_wp2_with fail
      refine (hc).mono ?_
      rintro _ _ ⟨rfl, hX⟩; replace hU := Up.trans hU hX; clear hX
      go_wp2
      go_ret
      exact ⟨by rw [Int.sign_eq_neg_one_of_neg hneg]; rfl, hU⟩
    · have hc := hp_c n w
      rw [decide_eq_false hneg] at hc
      go_enter Tryz.func123, Tryz.ntmps123
      go_wp2_with fail
      refine (hc).mono ?_
      rintro _ _ ⟨rfl, hX⟩; replace hU := Up.trans hU hX; clear hX
      go_wp2
      go_ret
      exact ⟨by rw [Int.sign_eq_one_of_pos (by omega)]; rfl, hU⟩

theorem int_neg (n : Int) (w : World) (hn : ilen n ≤ 100000000) : Calls Tryz.prog 92 #[.string (iB n)] w (Ret w (.string (iB (-n)))) := by
  have hs := iB_size n
  have hp := iB_pos n
  have hU := Up.refl w
  have hc := int_sign n w hn
  by_cases hz : n = 0
  · subst hz
    rw [Int.sign_zero] at hc
    go_enter Tryz.func92, Tryz.ntmps92
    go_wp2_with fail
    refine (hc).mono ?_
    rintro _ _ ⟨rfl, hX⟩; replace hU := Up.trans hU hX; clear hX
    go_wp2
    go_ret
    exact ⟨rfl, hU⟩
  · by_cases hneg : n < 0
    · rw [Int.sign_eq_neg_one_of_neg hneg] at hc
      have ht := iB_neg_tail hneg
      go_enter Tryz.func92, Tryz.ntmps92
      go_wp2_with fail
      refine (hc).mono ?_
      rintro _ _ ⟨rfl, hX⟩; replace hU := Up.trans hU hX; clear hX
      go_wp2
      go_ret
      exact ⟨rfl, hU⟩
    · have hpos : 0 < n := by omega
      rw [Int.sign_eq_one_of_pos hpos] at hc
      have ht := cat_negI hpos
      clear hz hneg hpos
      go_enter Tryz.func92, Tryz.ntmps92
      go_wp2_with fail
      refine (hc).mono ?_
      rintro _ _ ⟨rfl, hX⟩; replace hU := Up.trans hU hX; clear hX
      go_wp2
      all_goals first
        | (exfalso; omega)
        | (go_ret; exact ⟨rfl, hU⟩)

theorem int_of (n : Int) (w : World) (hE : Env w) (h0 : -9223372036854775808 ≤ n) (h1 : n ≤ 9223372036854775807) : Calls Tryz.prog 134 #[.int .i64 n] w (Ret w (.string (iB n))) := by
  have hU := Up.refl w
  go_enter Tryz.func134, Tryz.ntmps134
  go_wp2_with fail
  refine (itoa_c n _ hE h0 h1).mono ?_
  rintro _ _ ⟨rfl, hX⟩; replace hU := Up.trans hU hX; clear hX
  go_wp2
  go_ret
  exact ⟨rfl, hU⟩

theorem int_quick_yes (n most : Int) (w : World) (h : ((iB n).size : Int) ≤ most) (hm : most ≤ 18) : Calls Tryz.prog 133 #[.string (iB n), .int .i64 most] w (Ret w (.tuple #[.int .i64 n, .bool true])) := by
  have hU := Up.refl w
  have hp := iB_pos n
  go_enter Tryz.func133, Tryz.ntmps133
  go_wp2_with fail
  refine (atoi_c n _ (.inr (by omega))).mono ?_
  rintro _ _ ⟨rfl, hX⟩; replace hU := Up.trans hU hX; clear hX
  go_wp2
  go_quiet (fail)
  go_wp2
  go_ret2
  exact ⟨rfl, hU.drewN _⟩
theorem int_quick_no (n most : Int) (w : World) (h : most < ((iB n).size : Int)) : Calls Tryz.prog 133 #[.string (iB n), .int .i64 most] w (Ret w (.tuple #[.int .i64 0, .bool false])) := by
  have hU := Up.refl w
  go_enter Tryz.func133, Tryz.ntmps133
  go_wp2
  all_goals first
    | (exfalso; omega)
    | (go_ret2; exact ⟨rfl, hU⟩)

theorem natAbs_len (n : Int) : ilen n.natAbs = ilen n := by unfold ilen; rw [Int.natAbs_natCast]
theorem size_abs (n : Int) : (iB n.natAbs).size = ilen n := by
  unfold iB; rw [mkB_size, itoa_nat]; rfl
theorem ilen_lt {m n : Int} (h : ilen m < ilen n) : m.natAbs < n.natAbs := by
  rcases Nat.lt_or_ge m.natAbs n.natAbs with h' | h'
  · exact h'
  · have := ilen_mono h'; omega
theorem ret_int {a b : Int} (h : a = b) {w w' : World} (hU : Up w w') : Ending.returned (.int .i64 a) = .returned (.int .i64 b) ∧ Up w w' := ⟨by rw [h], hU⟩
theorem sign_cases (n : Int) : (n < 0 ∧ n.sign = -1) ∨ (n = 0 ∧ n.sign = 0) ∨ (0 < n ∧ n.sign = 1) := by
  rcases Int.lt_trichotomy n 0 with h | h | h
  · exact .inl ⟨h, Int.sign_eq_neg_one_of_neg h⟩
  · exact .inr (.inl ⟨h, by rw [h]; rfl⟩)
  · exact .inr (.inr ⟨h, Int.sign_eq_one_of_pos h⟩)
theorem cmpI_cases (x y : Int) : (x < y ∧ cmpI x y = -1) ∨ (x = y ∧ cmpI x y = 0) ∨ (y < x ∧ cmpI x y = 1) := by
  rcases Int.lt_trichotomy x y with h | h | h
  · exact .inl ⟨h, cmpI_lt h⟩
  · exact .inr (.inl ⟨h, cmpI_eq h⟩)
  · exact .inr (.inr ⟨h, cmpI_gt h⟩)

set_option maxHeartbeats 1000000 in
theorem int_compare (m n : Int) (w : World) (hm : ilen m ≤ 100000000) (hn : ilen n ≤ 100000000) : Calls Tryz.prog 118 #[.string (iB m), .string (iB n)] w (Ret w (.int .i64 (cmpI m n))) := by
  have hU := Up.refl w
  have h1 := size_abs m
  have h2 := size_abs n
  by_cases hs : m.sign = n.sign
  · have hsm : -1 ≤ m.sign ∧ m.sign ≤ 1 := by rcases sign_cases m with h | h | h <;> omega
    by_cases hl : ilen m = ilen n
    · have hc := cmpI_cases m.natAbs n.natAbs
      have hr : n.sign * cmpI m.natAbs n.natAbs = cmpI m n := by
        rcases sign_cases m with h | h | h <;> rcases sign_cases n with k | k | k <;> rcases hc with e | e | e <;> rcases cmpI_cases m n with g | g | g <;> first | (exfalso; omega) | (rw [k.2, e.2, g.2]; rfl)
      have hcb : -1 ≤ cmpI m.natAbs n.natAbs ∧ cmpI m.natAbs n.natAbs ≤ 1 := by omega
      have hrb : -1 ≤ n.sign * cmpI m.natAbs n.natAbs ∧ n.sign * cmpI m.natAbs n.natAbs ≤ 1 := by
        rw [hr]; rcases cmpI_cases m n with h | h | h <;> omega
      rw [hs] at hsm
      clear hc
      go_enter Tryz.func118, Tryz.ntmps118
      go_wp2_with fail
      refine (int_sign m _ hm).mono ?_
      rintro _ _ ⟨rfl, hX⟩; replace hU := Up.trans hU hX; clear hX
      go_wp2_with fail
      refine (int_sign n _ hn).mono ?_
      rintro _ _ ⟨rfl, hX⟩; replace hU := Up.trans hU hX; clear hX
      go_wp2_with fail
      refine (tp_c m _).mono ?_
      rintro _ _ ⟨rfl, hX⟩; replace hU := Up.trans hU hX; clear hX
      go_wp2_with fail
      refine (tp_c n _).mono ?_
      rintro _ _ ⟨rfl, hX⟩; replace hU := Up.trans hU hX; clear hX
      go_wp2_with fail
      refine (sc_c m.natAbs n.natAbs _ (by omega)).mono ?_
      rintro _ _ ⟨rfl, hX⟩; replace hU := Up.trans hU hX; clear hX
      go_wp2
      all_goals first
        | (exfalso; omega)
        | (go_ret; exact ⟨rfl, hU⟩)
    · have hr1 : ilen m < ilen n → -n.sign = cmpI m n := by
        intro h
        have := ilen_lt h
        rcases sign_cases m with h | h | h <;> rcases sign_cases n with k | k | k <;> rcases cmpI_cases m n with g | g | g <;> omega
      have hr2 : ¬ ilen m < ilen n → n.sign = cmpI m n := by
        intro h
        have := ilen_lt (m := n) (n := m) (by omega)
        rcases sign_cases m with h | h | h <;> rcases sign_cases n with k | k | k <;> rcases cmpI_cases m n with g | g | g <;> omega
      rw [hs] at hsm
      go_enter Tryz.func118, Tryz.ntmps118
      go_wp2_with fail
      refine (int_sign m _ hm).mono ?_
      rintro _ _ ⟨rfl, hX⟩; replace hU := Up.trans hU hX; clear hX
      go_wp2_with fail
      refine (int_sign n _ hn).mono ?_
      rintro _ _ ⟨rfl, hX⟩; replace hU := Up.trans hU hX; clear hX
      go_wp2_with fail
      refine (tp_c m _).mono ?_
      rintro _ _ ⟨rfl, hX⟩; replace hU := Up.trans hU hX; clear hX
      go_wp2_with fail
      refine (tp_c n _).mono ?_
      rintro _ _ ⟨rfl, hX⟩; replace hU := Up.trans hU hX; clear hX
      go_wp2
      all_goals first
        | (exfalso; omega)
        | (go_ret; exact ⟨rfl, hU⟩)
        | (go_ret; exact ret_int (hr1 (by omega)) hU)
        | (go_ret; exact ret_int (hr2 (by omega)) hU)
  · have hr1 : m.sign < n.sign → -1 = cmpI m n := by
      intro h
      rcases sign_cases m with h | h | h <;> rcases sign_cases n with k | k | k <;> rcases cmpI_cases m n with g | g | g <;> omega
    have hr2 : ¬ m.sign < n.sign → 1 = cmpI m n := by
      intro h
      rcases sign_cases m with h | h | h <;> rcases sign_cases n with k | k | k <;> rcases cmpI_cases m n with g | g | g <;> omega
    go_enter Tryz.func118, Tryz.ntmps118
    go_wp2_with fail
    refine (int_sign m _ hm).mono ?_
    rintro _ _ ⟨rfl, hX⟩; replace hU := Up.trans hU hX; clear hX
    go_wp2_with fail
    refine (int_sign n _ hn).mono ?_
    rintro _ _ ⟨rfl, hX⟩; replace hU := Up.trans hU hX; clear hX
    go_wp2
    all_goals first
      | (exfalso; omega)
      | (go_ret; exact ret_int (hr1 (by omega)) hU)
      | (go_ret; exact ret_int (hr2 (by omega)) hU)
end Go.Proofs.Klp
/- Integers as magnitudes. -/
namespace Go.Proofs.Klp
open Go.RowKit
open Go.Lib (decDigits itoa)

theorem cp_d (n : Int) (w : World) : Calls Tryz.prog 146 #[.string (iB n), .string (mkB [45])] w (Ret w (.tuple #[.string (mkB (decDigits n.natAbs)), .bool (decide (n < 0))])) := by
  have h := cp_c n w
  rwa [iB_abs] at h
theorem pu_c (s : List UInt8) (w : World) (h : Digs s) (hn : s ≠ []) (hl : s.length ≤ 18) : Calls Tryz.prog 153 #[.string (mkB s), .int .i64 10, .int .i64 64] w (Ret w (.tuple #[.int .u64 (tv s), .nilIface])) := by
  refine (Tryz.strconv_ParseUint_10_at64_ok (mkB s) (by rw [mkB_size]; omega) (tv s) (parseUint_digs h hn hl) w).mono ?_
  rintro e w' ⟨rfl, rfl | rfl⟩
  · exact ⟨rfl, Up.refl _⟩
  · exact ⟨rfl, Up.bytes _ _ _⟩
theorem ext_tail (D : List UInt8) (m k : Nat) : (mkB (D.take m)).extract k (mkB (D.take m)).size = mkB ((D.take m).drop k) := by
  rw [mkB_extract, mkB_size, List.take_length]
theorem ext_head (D : List UInt8) (m k : Nat) (hk : k ≤ m) : (mkB (D.take m)).extract 0 k = mkB (D.take k) := by
  rw [mkB_extract, List.drop_zero, List.take_take, Nat.min_eq_left hk]
theorem take_size (D : List UInt8) (m : Nat) (hm : m ≤ D.length) : (mkB (D.take m)).size = m := by rw [mkB_size, List.length_take, Nat.min_eq_left hm]
theorem digs_sub {D : List UInt8} (h : Digs D) (m k : Nat) : Digs ((D.take m).drop k) := fun c hc => h c (List.mem_of_mem_take (List.mem_of_mem_drop hc))
/-- one piece more -/
theorem open_step {D : List UInt8} {m k j : Nat} {z : Int} (hm : m ≤ D.length) (hk : k ≤ m) (h9 : k + 9 = m ∨ (k = 0 ∧ m ≤ 9)) (h : (tv D : Int) = (tv (D.take m) : Int) * 1000000000 ^ j + z) :
    (tv D : Int) = (tv (D.take k) : Int) * 1000000000 ^ (j + 1) + (z + 1000000000 ^ j * (tv ((D.take m).drop k) : Int)) := by
  have e : D.take m = D.take k ++ (D.take m).drop k := by
    conv => lhs; rw [← List.take_append_drop k (D.take m)]
    rw [List.take_take, Nat.min_eq_left hk]
  have hl : ((D.take m).drop k).length = m - k := by rw [List.length_drop, List.length_take, Nat.min_eq_left hm]
  have ht : (tv (D.take m) : Int) = (tv (D.take k) : Int) * 1000000000 + (tv ((D.take m).drop k) : Int) := by
    have := tv_append (D.take k) ((D.take m).drop k)
    rw [← e, hl] at this
    rcases h9 with h9 | ⟨h9, _⟩
    · rw [show m - k = 9 by omega, show (10 : Nat) ^ 9 = 1000000000 from rfl] at this
      omega
    · subst h9
      rw [List.take_zero, tv_nil, Nat.zero_mul] at this
      rw [List.take_zero, tv_nil]
      omega
  rw [h, ht, Int.pow_succ]
  grind
theorem piece_lt {D : List UInt8} (hD : Digs D) {m k : Nat} (hm : m ≤ D.length) (hk : m ≤ k + 9) : tv ((D.take m).drop k) < 1000000000 := by
  have h := tv_lt (digs_sub hD m k)
  rw [List.length_drop, List.length_take, Nat.min_eq_left hm] at h
  exact Nat.lt_of_lt_of_le h (Nat.pow_le_pow_right (by decide) (by omega) : 10 ^ (m - k) ≤ 10 ^ 9)

theorem Rd.other {k : IntKind} {w : World} {A : Option Addr} {n c : Nat} {zs : List Int} (h : Rd k w A n c zs) (b i : Nat) (v : Value) (hA : ∀ b' off, A = some ⟨b', off, none⟩ → b' ≠ b) : Rd k (w.setCell ⟨b, i, none⟩ v) A n c zs where
  len := h.len
  cap := h.cap
  cmax := h.cmax
  nilc := h.nilc
  cell := fun hn => by
    obtain ⟨b', off, e, hlt, hc⟩ := h.cell hn
    exact ⟨b', off, e, by simp; exact hlt, fun j hj => (World.cell?_of_block (heap_setCell_other w ⟨b, i, none⟩ b' v (hA _ _ e))).trans (hc j hj)⟩
/-- the length of a string -/
def strLen : Value → Nat
  | .string s => s.size
  | _ => 0

set_option maxRecDepth 100000 in
set_option maxHeartbeats 2000000 in
theorem int_open (n : Int) (w : World) (hn : ilen n ≤ 10000000) : Calls Tryz.prog 135 #[.string (iB n)] w fun e w' => ∃ v, e = .returned (.agg #[.bool (decide (n < 0)), v]) ∧ BigV (ilen n) w' v n.natAbs ∧ Up w w' := by
  obtain ⟨D, hD⟩ : ∃ D, decDigits n.natAbs = D := ⟨_, rfl⟩
  have hL : D.length = ilen n := by rw [← hD]; rfl
  have hdig : Digs D := hD ▸ digs_dec _
  have hval : tv D = n.natAbs := by rw [← hD, tv_dec]
  have HV := Lib.hid hval
  have HD := Lib.hid hdig
  obtain ⟨w0, hw0⟩ : ∃ w0, w.alloc (.cells #[.bool false, .slice none 0 0] 164) = w0 := ⟨_, rfl⟩
  have hs0 : w0.heap.size = w.heap.size + 1 := by rw [← hw0]; simp
  have hU0 : Up w w0 := by rw [← hw0]; exact (Below.refl _ _).alloc (Nat.le_refl _) _
  have hb0 : w0.heap[w.heap.size]? = some (.cells #[.bool false, .slice none 0 0] 164 (0, 0)) := by rw [← hw0]; show (w.heap.push _)[w.heap.size]? = _; simp
  have hcp := cp_d n w0
  rw [hD] at hcp
  clear hval hD
  have hsz := mkB_size D
  go_enter Tryz.func135, Tryz.ntmps135
  go_wp2_with fail
  refine hcp.mono ?_
  rintro _ w1 ⟨rfl, hU1⟩
  have hb1 : w1.heap[w.heap.size]? = some (.cells #[.bool false, .slice none 0 0] 164 (0, 0)) := (hU1.block w.heap.size (by omega)).trans hb0
  have hs1 := hU1.size
  obtain ⟨w2, hmk, hown, hg⟩ := run_make_own (P := Tryz.prog) w1 w0.heap.size 162 178 iU64 (.int .u64 0) 1 uSU64 iU64_at iU64_zero iU64_size .i64 .i64 (ilen n / 9 + 1) (by rw [iU64_bytes]; omega) (by unfold maxLen; omega) hs1
  rw [show ((ilen n / 9 + 1 : Nat) : Int) = (ilen n : Int) / 9 + 1 from by omega] at hmk
  have hU2 : Below w0.heap.size w0 w2 := (Below.trans hU1 (Below.refl _ _)).grown hg hs1 (fun k e => by cases e)
  clear hcp hw0 hb1 hU1
  have hz0 : (tv D : Int) = (tv (D.take D.length) : Int) * 1000000000 ^ ([] : List Int).length + val 1000000000 [] := by
    rw [List.take_length, val_nil]; simp
  have HZ0 := Lib.hid hz0
  clear hz0
  go_wp2_with fail
  go_loopw [3, 5] (fun s v wr => ∃ (m : Nat) (zs : List Int), m ≤ D.length ∧ s = .string (mkB (D.take m)) ∧ zs.length + m ≤ D.length ∧ Hid (Dg 1000000000 zs ∧ (tv D : Int) = (tv (D.take m) : Int) * 1000000000 ^ zs.length + val 1000000000 zs) ∧ wr.ownsRow w0.heap.size 178 1 v zs.length (zs.map (Value.int .u64)) ∧ Below w0.heap.size w0 wr) (fun s _ _ => strLen s)
  case atStart => exact ⟨D.length, [], Nat.le_refl _, by rw [List.take_length], by simp, Lib.hid ⟨Dg.nil _, HZ0.out⟩, hown, hU2⟩
  case round =>
    obtain ⟨m, zs, hm, rfl, hl, hz, hrow, hB⟩ := hrel
    clear hmk hown hg HZ0
    have hsm := take_size D m hm
    by_cases hm0 : 0 < m
    · obtain ⟨k, hk, h9⟩ : ∃ k : Nat, k ≤ m ∧ (k + 9 = m ∨ (k = 0 ∧ m ≤ 9)) := by
        by_cases h : 9 ≤ m
        · exact ⟨m - 9, by omega, .inl (by omega)⟩
        · exact ⟨0, by omega, .inr ⟨rfl, by omega⟩⟩
      have hmx : max ((m : Int) - 9) 0 = (k : Int) := by omega
      have H9 := Lib.hid h9
      have hkm : k < m := by omega
      clear h9
      have e1 := ext_tail D m k
      have e2 := ext_head D m k hk
      rw [hsm] at e1
      have hne : (D.take m).drop k ≠ [] := by
        intro h
        have := congrArg List.length h
        rw [List.length_drop, List.length_take, Nat.min_eq_left hm, List.length_nil] at this
        omega
      have hlt := piece_lt HD.out hm (show m ≤ k + 9 by have := H9.out; omega)
      go_wp2_with fail
      refine (pu_c _ _ (digs_sub HD.out _ _) hne (by have := H9.out; rw [List.length_drop, List.length_take]; omega)).mono ?_
      rintro _ w3 ⟨rfl, hU3⟩
      have hrow3 := row_below hrow hU3
      have hB3 : Below w0.heap.size w0 w3 := Below.trans hB (Below.mono hU3 hB.size)
      have hs3 := hB3.size
      have hrow4 : w3.drew.ownsRow w0.heap.size 178 1 u5 zs.length (zs.map (Value.int .u64)) := row_below hrow3 (below_drewN (Below.refl _ _) 1)
      go_upto_region 6 with fail
      have g1 : ∀ u, u ∈ [Value.int .u64 (tv ((D.take m).drop k))] → u.oneCell' = true := fun u hu => by simp at hu; subst hu; rfl
      have g2 : zs.length + 1 ≤ maxLen := by unfold maxLen; omega
      have g3 : (zs.length + 1) * 8 ≤ 140737488355328 := by omega
      have g4 : w0.heap.size ≤ (w3.drew.alloc (.cells #[.int .u64 (tv ((D.take m).drop k))] 178)).heap.size := by simp; omega
      have g5 : 0 < 1 := by decide
      have g6 : (k : Int) ≤ (m : Int) := by omega
      go_region_law (refine step_append_lies _ rfl _ _ 162 rfl w0.heap.size 178 iU64 (.int .u64 0) 1 8 uSU64 iU64_at iU64_zero iU64_size iU64_bytes rfl g5 u5 _ _ rfl (hrow4.alloc _) ⟨w3.heap.size, 0, none⟩ 1 1 [_] rfl rfl (cell_one_new _ _ _) g1 g5 g2 g3 g4 _ rfl ?_; intro g cap w4 hrow5 hgr _ _)
      go_simp
      go_wp2_with fail
      refine ⟨⟨k, zs ++ [(tv ((D.take m).drop k) : Int)], by omega, rfl, by rw [List.length_append, List.length_singleton]; omega, Lib.hid ⟨hz.out.1.snoc (by omega) (by omega), ?_⟩, ?_, app_below (below_drewN hB3 1) hrow4 hgr⟩, ?_⟩
      · rw [val_snoc, List.length_append, List.length_singleton]
        exact open_step hm hk H9.out hz.out.2
      · rw [List.length_append, List.length_singleton]
        exact own_snoc hrow5
      · show (mkB (D.take k)).size < (mkB (D.take m)).size
        rw [hsm, take_size D k (by omega)]; exact hkm
    · obtain rfl : m = 0 := by omega
      obtain ⟨A, c, rfl, hrd⟩ := Rd.of_own hrow
      have hs3 := hB.size
      have hbr := (hB.block w.heap.size (by omega)).trans hb0
      have c0 : wr.cell? ⟨w.heap.size, 0, none⟩ = some (.bool false) := by rw [Lib.cell_of_heap hbr]; rfl
      have c1 : wr.cell? ⟨w.heap.size, 1, none⟩ = some (.slice none 0 0) := by rw [Lib.cell_of_heap hbr]; rfl
      have f0 : wr.frozen? ⟨w.heap.size, 0, none⟩ = false := Lib.frozen_of_heap hbr 0
      have f1 : wr.frozen? ⟨w.heap.size, 1, none⟩ = false := Lib.frozen_of_heap hbr 1
      have e0 : mkB (List.take 0 D) = mkB [] := by rw [List.take_zero]
      go_wp2_with fail
      refine (trim_any _ _ _ _ _ hrd).mono ?_
      rintro e w' ⟨m, hmz, rfl, hmv, hmc, rfl⟩
      have HM := Lib.hid hmv
      clear hmv
      have hnew := own_new hrow
      have hr1 := hrd.take hmz
      go_wp2_with fail
      obtain ⟨ws, hws⟩ : ∃ ws, (wr.setCell ⟨w.heap.size, 0, none⟩ (.bool (decide (n < 0)))).setCell ⟨w.heap.size, 1, none⟩ (.slice A m c) = ws := ⟨_, rfl⟩
      have hbs : ws.heap[w.heap.size]? = some (.cells #[.bool (decide (n < 0)), .slice A m c] 164 (0, 0)) := by
        rw [← hws]
        have h1 := heap_setCell_same wr w.heap.size 0 _ _ (.bool (decide (n < 0))) hbr
        exact heap_setCell_same _ w.heap.size 1 _ _ (.slice A m c) h1
      have hr2 : Rd .u64 ws A m c (zs.take m) := by
        rw [← hws]
        have hA : ∀ b' off, A = some ⟨b', off, none⟩ → b' ≠ w.heap.size := fun b' off e => by
          have := hnew ⟨b', off, none⟩ _ _ (by rw [e])
          simp at this
          omega
        exact (hr1.other _ _ _ hA).other _ _ _ hA
      have hUs : Up w ws := by
        rw [← hws]
        have h1 : Below w.heap.size w wr := Below.trans hU0 (Below.mono hB (by omega))
        exact (h1.setCell (p := ⟨w.heap.size, 0, none⟩) (Nat.le_refl _) _).setCell (p := ⟨w.heap.size, 1, none⟩) (Nat.le_refl _) _
      rw [hws]
      have d0 : ws.cell? ⟨w.heap.size, 0, none⟩ = some (.bool (decide (n < 0))) := by rw [Lib.cell_of_heap hbs]; rfl
      have d1 : ws.cell? ⟨w.heap.size, 1, none⟩ = some (.slice A m c) := by rw [Lib.cell_of_heap hbs]; rfl
      refine bodyPost_ret (v := .agg #[.bool (decide (n < 0)), .slice A m c]) (by simp [results, Tryz.f135, go_sem, d0, d1]) rfl ⟨_, rfl, ⟨A, m, c, _, rfl, hr2, can_take hz.out.1 m hmz hmc, ?_, by omega⟩, hUs⟩
      rw [HM.out, ← HV.out, hz.out.2, List.take_zero, tv_nil]
      simp
end Go.Proofs.Klp
/- A strings.Builder of the call's own: what its methods do. -/
namespace Go.Proofs.Klp
open Go.RowKit Go.Shelf
attribute [local go_sem] Oper.semAt_some

theorem b_size : (Tryz.prog.info? 185).map (·.size) = some 2 := by kernel_rfl
theorem b_lies : liesAt Tryz.prog Tryz.prog.depth 185 (2 / Tryz.prog.cellsOf 185) 0 185 1 = true := by kernel_rfl
theorem b_byte : (Tryz.prog.info? 5).map (fun i => (i.zero, i.size, i.bytes)) = some (some (.int .u8 0), 1, 1) := by kernel_rfl
theorem b_ptr : Tryz.prog.underlying 182 = some (.pointer 185) := by kernel_rfl
theorem b_uns : Tryz.prog.underlying 220 = some .unsafePointer := by kernel_rfl
theorem b_row : Tryz.prog.underlying 183 = some (.slice 5) := by kernel_rfl
theorem b_str : Tryz.prog.underlying 9 = some .string := by kernel_rfl

set_option maxHeartbeats 1000000 in
set_option maxRecDepth 100000 in
theorem bld_check_used (b : Nat) (w : World) (h0 : w.cell? ⟨b, 0, none⟩ = some (.pointer (some ⟨b, 0, none⟩))) :
    Calls Tryz.prog 176 #[.pointer (some ⟨b, 0, none⟩)] w fun e w' => e = .returned (.tuple #[]) ∧ w' = w := by
  obtain ⟨j, hj, _⟩ := Option.map_eq_some_iff.1 b_size
  go_enter Tryz.func176, Tryz.ntmps176
  go_wp2_with fail
  rw [Lib.run_neq_ptr_same w _ b_ptr hj]
  go_wp2_with fail
  go_end0
  exact ⟨rfl, rfl⟩

set_option maxHeartbeats 1000000 in
set_option maxRecDepth 100000 in
theorem bld_check_fresh (b : Nat) (w : World) (h0 : w.cell? ⟨b, 0, none⟩ = some (.pointer none)) (hsh : w.shape? b = some (185, 2)) (hfz : w.frozen? ⟨b, 0, none⟩ = false) :
    Calls Tryz.prog 176 #[.pointer (some ⟨b, 0, none⟩)] w fun e w' => e = .returned (.tuple #[]) ∧ w' = w.setCell ⟨b, 0, none⟩ (.pointer (some ⟨b, 0, none⟩)) := by
  obtain ⟨j, hj, hjs⟩ := Option.map_eq_some_iff.1 b_size
  go_enter Tryz.func176, Tryz.ntmps176
  go_wp2_with fail
  rw [Lib.run_to_unsafe w ⟨b, 0, none⟩ b_ptr b_uns hj (by rw [hjs]; decide) hsh (Nat.zero_lt_succ 1)]
  simp only [Result.andThen]
  rw [Oper.upon_value]
  go_wp2_with fail
  rw [run_callFunc_extern Tryz.func192 (by kernel_rfl) (by kernel_rfl) (by kernel_rfl) (e := Extern.AbiNoEscape.same) (by kernel_rfl)]
  rw [Lib.run_noEscape]
  simp only [Result.andThen]
  rw [Oper.upon_value]
  go_wp2_with fail
  rw [Lib.run_from_unsafe w ⟨b, 0, none⟩ b_uns b_ptr hj hsh b_lies]
  simp only [Result.andThen]
  rw [Oper.upon_value]
  go_wp2_with fail
  go_end0
  exact ⟨rfl, rfl⟩

theorem owns_kind {w : World} {B : Nat} {e : TypeId} {v : Value} {n : Nat} {xs : List Value} (h : w.ownsRow B e 1 v n xs) : ∀ g, v.ownBlock = some g → ∃ c fz, w.heap[g]? = some (.cells c e fz) := by
  intro g hg
  rcases h.2 with ⟨rfl, _⟩ | ⟨g', cap, cur, rfl, _, hgg, _⟩
  · simp [Value.ownBlock] at hg
  · simp [Value.ownBlock] at hg
    subst hg
    exact ⟨cur, _, hgg⟩
/-- copyCheck -/
theorem bld_check (B b : Nat) (bs : List Value) (w : World) (h : Lib.IsBuilder 185 5 B b bs w) :
    Calls Tryz.prog 176 #[.pointer (some ⟨b, 0, none⟩)] w fun e w' => e = .returned (.tuple #[]) ∧ (Lib.BuilderAt 185 5 B b (.pointer (some ⟨b, 0, none⟩)) bs w' ∧ Below B w w' ∧ Lib.OthersKept 5 (some b) w w') := by
  rcases h with h | h
  · refine (bld_check_fresh b w h.cell0 h.shape h.frozen0).mono ?_
    rintro e w' ⟨rfl, rfl⟩
    exact ⟨rfl, h.used _, (Below.refl B w).setCell (p := ⟨b, 0, none⟩) h.1 _, (Lib.OthersKept.refl _ _ _).setCell ⟨b, 0, none⟩ rfl _⟩
  · refine (bld_check_used b w h.cell0).mono ?_
    rintro e w' ⟨rfl, rfl⟩
    exact ⟨rfl, h, Below.refl B _, Lib.OthersKept.refl _ _ _⟩

set_option maxHeartbeats 2000000 in
set_option maxRecDepth 100000 in
/-- WriteByte -/
theorem bld_byte (B b : Nat) (bs : List Value) (c : Int) (w : World) (h : Lib.IsBuilder 185 5 B b bs w) (hlen : bs.length + 1 ≤ 140737488355328) (hBw : B ≤ w.heap.size) :
    Calls Tryz.prog 155 #[.pointer (some ⟨b, 0, none⟩), .int .u8 c] w fun e w' => e = .returned .nilIface ∧ (Lib.BuilderAt 185 5 B b (.pointer (some ⟨b, 0, none⟩)) (bs ++ [.int .u8 c]) w' ∧ Below B w w' ∧ Lib.OthersKept 5 (some b) w w') := by
  obtain ⟨i0, hi, hz0, hz1, hz2⟩ := info_parts b_byte
  go_enter Tryz.func155, Tryz.ntmps155
  go_wp2_with fail
  refine (bld_check B b bs _ h).mono ?_
  rintro e w1 ⟨rfl, h1, hb1, hk1⟩
  obtain ⟨hB, v, hbk, hown, hne⟩ := h1
  have c0 : w1.cell? ⟨b, 0, none⟩ = some (.pointer (some ⟨b, 0, none⟩)) := by rw [Lib.cell_of_heap hbk]; rfl
  have c1 : w1.cell? ⟨b, 1, none⟩ = some v := by rw [Lib.cell_of_heap hbk]; rfl
  go_wp2_with (at_builtin; refine wpList_append_own _ rfl _ _ 183 rfl B 5 i0 (.int .u8 0) 1 1 b_row hi hz0 hz1 hz2 rfl (by decide) _ _ _ rfl (hown.alloc _) ⟨w1.heap.size, 0, none⟩ 1 1 [.int .u8 c] rfl rfl ?c1 ?c2 ?c3 ?c4 ?c5 ?_)
  case c1 =>
    intro j u hj
    match j, hj with
    | 0, hj => simp at hj; subst hj; simp [Addr.add]
  case c2 => intro u hu; simp at hu; subst hu; rfl
  case c3 => unfold maxLen; omega
  case c4 => omega
  case c5 => have := hb1.size; simp; omega
  intro v' w2 hown' hgrow _
  have hlt : b < w1.heap.size := by
    rcases Nat.lt_or_ge b w1.heap.size with h' | h'
    · exact h'
    · simp [Array.getElem?_eq_none h'] at hbk
  have hb2 : w2.heap[b]? = some (.cells #[.pointer (some ⟨b, 0, none⟩), v] 185 (0, 0)) := by
    rw [hgrow.block b (by simp; omega) (fun e => hne e.symm), Lib.alloc_old w1 _ b hlt]
    exact hbk
  have d0 : w2.cell? ⟨b, 0, none⟩ = some (.pointer (some ⟨b, 0, none⟩)) := by rw [Lib.cell_of_heap hb2]; rfl
  have d1 : w2.cell? ⟨b, 1, none⟩ = some v := by rw [Lib.cell_of_heap hb2]; rfl
  have f1 : w2.frozen? ⟨b, 1, none⟩ = false := Lib.frozen_of_heap hb2 1
  obtain ⟨g, cap, rfl⟩ : ∃ g cap, v' = .slice (some ⟨g, 0, none⟩) (bs.length + 1) cap := by
    rcases hown'.2 with ⟨_, h0⟩ | ⟨g, cap, cur, hv, _⟩
    · omega
    · exact ⟨g, cap, hv⟩
  go_wp2_with fail
  go_ret
  refine ⟨rfl, ?_, ?_, ((hk1.alloc _).grown hgrow (owns_kind (hown.alloc _))).setCell ⟨b, 1, none⟩ rfl _⟩
  · exact Lib.BuilderAt.put (T := 185) (e := 5) hB hb2 (bs' := bs ++ [.int .u8 c]) (by simpa using hown') (by decide)
  · exact ((hb1.alloc (by have := hb1.size; omega) _).grown hgrow (by have := hb1.size; simp; omega) (fun k hk => (hown.lt k hk).1)).setCell (p := ⟨b, 1, none⟩) hB _

set_option maxHeartbeats 2000000 in
set_option maxRecDepth 100000 in
/-- WriteString -/
theorem bld_str (B b : Nat) (bs : List Value) (s : ByteArray) (w : World) (h : Lib.IsBuilder 185 5 B b bs w) (hlen : bs.length + s.size ≤ 140737488355328) (hBw : B ≤ w.heap.size) :
    Calls Tryz.prog 158 #[.pointer (some ⟨b, 0, none⟩), .string s] w fun e w' => e = .returned (.tuple #[.int .i64 s.size, .nilIface]) ∧ (Lib.BuilderAt 185 5 B b (.pointer (some ⟨b, 0, none⟩)) (bs ++ Lib.strCells s) w' ∧ Below B w w' ∧ Lib.OthersKept 5 (some b) w w') := by
  obtain ⟨i0, hi, hz0, hz1, hz2⟩ := info_parts b_byte
  go_enter Tryz.func158, Tryz.ntmps158
  go_wp2_with fail
  refine (bld_check B b bs _ h).mono ?_
  rintro e w1 ⟨rfl, h1, hb1, hk1⟩
  obtain ⟨hB, v, hbk, hown, hne⟩ := h1
  have c0 : w1.cell? ⟨b, 0, none⟩ = some (.pointer (some ⟨b, 0, none⟩)) := by rw [Lib.cell_of_heap hbk]; rfl
  have c1 : w1.cell? ⟨b, 1, none⟩ = some v := by rw [Lib.cell_of_heap hbk]; rfl
  go_wp2_with (at_builtin; refine Lib.wpList_append_own_string _ rfl _ _ 183 9 rfl B 5 i0 b_row b_str hi hz0 hz1 hz2 _ _ _ rfl hown s rfl ?c3 ?c4 ?c5 ?_)
  case c3 => unfold maxLen; omega
  case c4 => omega
  case c5 => have := hb1.size; omega
  intro v' w2 hown' hgrow _
  have hlt : b < w1.heap.size := by
    rcases Nat.lt_or_ge b w1.heap.size with h' | h'
    · exact h'
    · simp [Array.getElem?_eq_none h'] at hbk
  have hb2 : w2.heap[b]? = some (.cells #[.pointer (some ⟨b, 0, none⟩), v] 185 (0, 0)) := by
    rw [hgrow.block b hlt (fun e => hne e.symm)]
    exact hbk
  have d0 : w2.cell? ⟨b, 0, none⟩ = some (.pointer (some ⟨b, 0, none⟩)) := by rw [Lib.cell_of_heap hb2]; rfl
  have d1 : w2.cell? ⟨b, 1, none⟩ = some v := by rw [Lib.cell_of_heap hb2]; rfl
  have f1 : w2.frozen? ⟨b, 1, none⟩ = false := Lib.frozen_of_heap hb2 1
  obtain ⟨ao, n', cap, rfl⟩ : ∃ ao n' cap, v' = .slice ao n' cap := by
    rcases hown'.2 with ⟨hv, _⟩ | ⟨g, cap, cur, hv, _⟩
    · exact ⟨_, _, _, hv⟩
    · exact ⟨_, _, _, hv⟩
  go_wp2_with fail
  go_ret2
  refine ⟨rfl, ?_, ?_, (hk1.grown hgrow (owns_kind hown)).setCell ⟨b, 1, none⟩ rfl _⟩
  · exact Lib.BuilderAt.put (T := 185) (e := 5) hB hb2 (bs' := bs ++ Lib.strCells s) (by simpa [Lib.strCells_length] using hown') (by decide)
  · exact (hb1.grown hgrow (by have := hb1.size; omega) (fun k hk => (hown.lt k hk).1)).setCell (p := ⟨b, 1, none⟩) hB _

theorem b_pbyte : Tryz.prog.underlying 205 = some (.pointer 5) := by kernel_rfl
theorem b_cell : Tryz.prog.cellsOf 5 = 1 := by kernel_rfl

set_option maxHeartbeats 2000000 in
set_option maxRecDepth 100000 in
/-- String of a builder that holds a byte -/
theorem bld_string (B b : Nat) (l : List UInt8) (w : World) (h : Lib.IsBuilder 185 5 B b (Lib.byteCells l) w) (h0 : l ≠ []) :
    Calls Tryz.prog 159 #[.pointer (some ⟨b, 0, none⟩)] w fun e w' => e = .returned (.string ⟨l.toArray⟩) ∧ Below B w w' ∧ Lib.OthersKept 5 (some b) w w' := by
  obtain ⟨p, hB, v, hbk, hown, hne⟩ : ∃ p, Lib.BuilderAt 185 5 B b p (Lib.byteCells l) w := by
    rcases h with h | h
    · exact ⟨_, h⟩
    · exact ⟨_, h⟩
  have hl0 : l.length ≠ 0 := by simpa using h0
  rw [Lib.byteCells_length] at hown
  obtain ⟨g, cap, cur, rfl, hbg, hg, hnc, hcm, hcs, htake⟩ : ∃ g cap cur, v = .slice (some ⟨g, 0, none⟩) l.length cap ∧ B ≤ g ∧ w.heap[g]? = some (.cells cur 5 (0, 0)) ∧ l.length ≤ cap ∧ cap ≤ maxLen ∧ cur.size = cap * 1 ∧ cur.toList.take (l.length * 1) = Lib.byteCells l := by
    rcases hown.2 with ⟨_, hz⟩ | ⟨g, cap, cur, hv, r⟩
    · exact absurd hz hl0
    · exact ⟨g, cap, cur, hv, r⟩
  have c1 : w.drew.cell? ⟨b, 1, none⟩ = some (.slice (some ⟨g, 0, none⟩) l.length cap) := by
    have : w.drew.heap[b]? = some (.cells #[p, .slice (some ⟨g, 0, none⟩) l.length cap] 185 (0, 0)) := hbk
    rw [Lib.cell_of_heap this]; rfl
  have hSD : (Builtin.unsafeSliceData_ #[183] 205 #[.slice (some ⟨g, 0, none⟩) l.length cap]).run Tryz.prog w.drew = .ok (.pointer (some ⟨g, 0, none⟩)) w.drew :=
    Lib.run_unsafeSliceData_row _ _ _ _ _ _ (by omega)
  have hUS : (Builtin.unsafeString_ #[205, 3] 9 #[.pointer (some ⟨g, 0, none⟩), .int .i64 l.length]).run Tryz.prog w.drew = .ok (.string ⟨l.toArray⟩) (w.drew.freeze ⟨g, 0, none⟩ l.length) := by
    refine Lib.run_unsafeString_row w.drew 205 3 9 5 b_pbyte b_cell g cur.size (by have hg' : w.drew.heap[g]? = some (.cells cur 5 (0, 0)) := hg; simp [World.shape?, hg']) l h0 (by omega) (by unfold maxLen at hcm; omega) ?_
    intro j x hx
    have := hown.cells (g := g) rfl j (.int .u8 x.toNat) (by simp [Lib.byteCells, hx])
    exact this
  have hfin : Lib.OthersKept 5 (some b) w (w.drew.freeze ⟨g, 0, none⟩ l.length) := Lib.OthersKept.freeze (Lib.OthersKept.refl _ _ _).drew ⟨g, 0, none⟩ _ ⟨cur, _, hg⟩
  have hfb : Below B w (w.drew.freeze ⟨g, 0, none⟩ l.length) := Lib.below_freeze (Below.drew (Below.refl B w)) (p := ⟨g, 0, none⟩) hbg _
  go_enter Tryz.func159, Tryz.ntmps159
  go_wp2_with fail
  have hmx : Tryz.prog.follows .mixedOrders = true := by kernel_rfl
  go_region_o
  all_goals (go_wp2; go_ret; exact ⟨rfl, hfb, hfin⟩)
end Go.Proofs.Klp
/- strconv.FormatUint at base 10. -/
namespace Go.Proofs.Klp
open Go.RowKit Go.Sort

set_option maxHeartbeats 6400000 in
set_option maxRecDepth 100000 in
theorem fmt_int (u : Nat) (w : World) (hu64 : u < 18446744073709551616) (htab : Lib.TabIs Tryz.prog w "internal/strconv.uint64pow10" .u64 Lib.pow10Tab) :
    Calls Tryz.prog 178 #[.int .u64 u, .int .i64 10] w fun e w' => e = .returned (.string ⟨(Lib.decDigits u).toArray⟩) ∧ ∃ k os, w' = grow (w.drewN k) os := by
  by_cases hs : u < 100
  · go_enter Tryz.func178, Tryz.ntmps178
    go_wp2_with fail
    refine (Tryz.internal_strconv_small u hs _).mono ?_
    rintro e w' ⟨rfl, rfl⟩
    go_wp2_with fail
    go_ret
    exact ⟨rfl, 0, #[], by simp [World.drewN_zero]⟩
  · have hu1 : 1 ≤ u := by omega
    have hnd20 : Lib.nDigits u ≤ 20 := by have := Lib.numDigits_eq u hu1 hu64; split at this <;> omega
    have hb3 : Lib.nDigits u ≤ 24 := by omega
    have h199 : Tryz.prog.underlying 199 = some (.array 24 5) := by kernel_rfl
    have hal : Tryz.prog.arrayLen 199 = 24 := by simp [Program.arrayLen, h199]
    have hsl : ∀ W, (Instr.sliceAt 199 (.pointer (some ⟨w.heap.size, 0, none⟩)) none (some (.int .i64 (Lib.nDigits u : Int))) none).run Tryz.prog W = .ok (.slice (some ⟨w.heap.size, 0, none⟩) (Lib.nDigits u) 24) W := fun W => by
      rw [run_sliceAt_array_h W 199 ⟨w.heap.size, 0, none⟩ (by simp [Program.arrayLen, Program.elem, h199]) .i64 (Lib.nDigits u : Int) (by omega) (by rw [hal]; omega)]
      go_simp
      try omega
    have hH0 := Lib.holds_zero0 w 199 (Lib.nDigits u) (by omega)
    have hfmt := Tryz.internal_strconv_formatBase10 w.heap.size 0 24 u (Array.replicate (Lib.nDigits u) 0) (w.alloc (.cells Lib.zeros24 199)) hH0 (by rw [Array.size_replicate]; exact Lib.lt_pow_nDigits u) hu64 (by rw [Array.size_replicate]; omega)
    rw [Array.size_replicate] at hfmt
    have HH0 := Lib.hid hH0
    clear hH0 hal h199
    go_enter Tryz.func178, Tryz.ntmps178
    go_wp2_with fail
    refine (Tryz.internal_strconv_numDigits u hu1 hu64 _ (Lib.tabIs_alloc htab _)).mono ?_
    rintro e w' ⟨rfl, rfl⟩
    go_wp2_with fail
    refine hfmt.mono ?_
    rintro e w' ⟨rfl, k, v', dk, rfl, hF⟩
    have hcv : (convert 183 9 (.slice (some ⟨w.heap.size, 0, none⟩) (Lib.nDigits u) 24)).run Tryz.prog ((putRow (fun (b : UInt8) => Value.int .u8 (b.toNat : Int)) (w.alloc (.cells Lib.zeros24 199)) w.heap.size 0 dk).drewN k) = .ok (.string ⟨(Lib.decDigits u).toArray⟩) ((putRow (fun (b : UInt8) => Value.int .u8 (b.toNat : Int)) (w.alloc (.cells Lib.zeros24 199)) w.heap.size 0 dk).drewN k) := by
      have h := run_convert_bytes_back (P := Tryz.prog) ((putRow (fun (b : UInt8) => Value.int .u8 (b.toNat : Int)) (w.alloc (.cells Lib.zeros24 199)) w.heap.size 0 dk).drewN k) 183 9 5 ⟨w.heap.size, 0, none⟩ 24 (Lib.decDigits u) b_row (by kernel_rfl) b_str (fun j hj => by
        rw [Lib.row_is_numeral hF j hj, Lib.add_plain, World.cell?_drewN]
        exact cell?_putRow (fun (b : UInt8) => Value.int .u8 (b.toNat : Int)) _ w.heap.size 0 _ dk HH0.out (by rw [hF.size, Array.size_replicate]) j (by rw [hF.size]; rw [Lib.decDigits_length] at hj; exact hj))
      rw [Lib.decDigits_length] at h
      exact h
    go_wp2_with fail
    go_ret
    obtain ⟨os, eo⟩ := Lib.fin_at w (.cells Lib.zeros24 199) dk k 0
    exact ⟨rfl, k, os, eo⟩

theorem fmt_c (u : Nat) (w : World) (hE : Env w) (hu64 : u < 18446744073709551616) : Calls Tryz.prog 157 #[.int .u64 u, .int .i64 10] w (Ret w (.string (mkB (Lib.decDigits u)))) := by
  go_enter Tryz.func157, Tryz.ntmps157
  go_wp2_with fail
  refine (fmt_int u _ hu64 hE.tab).mono ?_
  rintro e w' ⟨rfl, k, os, rfl⟩
  go_wp2_with fail
  go_ret
  exact ⟨rfl, Up.grow k os⟩
end Go.Proofs.Klp
