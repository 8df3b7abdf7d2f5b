/- Division of magnitudes: one contract. -/
import Derived.Test.YtooldicbicanaaaGreatDoorKC
import Derived.Lib.Strings
import Derived.Lib.IndexMore
import Derived.Lib.IndexBytes
import Derived.Lib.Bytealg
import Derived.Lib.Atoi
import Derived.Lib.AtoiAll
import Derived.Lib.ParseIntB
import Derived.Test.YtooldicbicanaaaGreatDoorKA
namespace Go.Proofs.Klp
open Go.RowKit

/-- divide: quotient and remainder -/
theorem divide_any (v1 v2 : Value) (N1 N2 : Nat) (x y : Int) (w : World) (hx : BigV N1 w v1 x) (hy : BigV N2 w v2 y) (hy0 : 1 ≤ y) (hN1 : N1 ≤ 10000000) (hN2 : N2 ≤ 10000000) :
    Calls Tryz.prog 147 #[v1, v2] w fun e w' => ∃ u1 u2, e = .returned (.tuple #[u1, u2]) ∧ BigV (N1 + 2) w' u1 (x / y) ∧ BigV (N1 + N2 + 2) w' u2 (x % y) ∧ Below w.heap.size w w' := by
  obtain ⟨A1, n1, c1, xs, rfl, hrx, hcx, rfl, h1⟩ := hx
  obtain ⟨A2, n2, c2, ys, rfl, hry, hcy, rfl, h2⟩ := hy
  have hx0 := (val_bounds (show (0 : Int) < 1000000000 by omega) hcx.1).1
  by_cases h : val 1000000000 xs < val 1000000000 ys
  · refine (divless_any A1 n1 c1 xs A2 n2 c2 ys w hrx hry hcx hcy (by omega) (by omega) (Lib.hid h)).mono ?_
    rintro e w' ⟨rfl, hb⟩
    refine ⟨_, _, rfl, ⟨none, 0, 0, [], rfl, ⟨rfl, Nat.le_refl _, by omega, fun _ => rfl, fun h => by omega⟩, Can.nil _, ?_, by omega⟩, ⟨A1, n1, c1, xs, rfl, hrx.below hb, hcx, ?_, by omega⟩, hb⟩
    · rw [val_nil, Int.ediv_eq_zero_of_lt hx0 h]
    · rw [Int.emod_eq_of_lt hx0 h]
  · by_cases h2' : 2 ≤ n2
    · refine (divbig_any A1 n1 c1 xs A2 n2 c2 ys w hrx hry hcx hcy (by omega) (by omega) h2' (Lib.hid (by omega))).mono ?_
      rintro e w' ⟨u1, u2, rfl, g1, g2, hb⟩
      exact ⟨u1, u2, rfl, g1.mono (by omega), g2.mono (by omega), hb⟩
    · have hne : ys ≠ [] := fun e => by rw [e, val_nil] at hy0; omega
      have hl : 0 < ys.length := List.length_pos_iff.2 hne
      have hl1 : ys.length = 1 := by rw [hry.len] at hl ⊢; omega
      obtain ⟨d, rfl⟩ := List.length_eq_one_iff.1 hl1
      obtain rfl : n2 = 1 := hry.len.symm
      have e1 : val 1000000000 [d] = d := by simp [val_cons, val_nil]
      rw [e1] at hy0 h ⊢
      have hd := hcy.1 d (by simp)
      refine (divsmall_any A1 n1 c1 xs A2 c2 d w hrx hry hcx hy0 (by omega) (by omega)).mono ?_
      rintro e w' ⟨u1, u2, rfl, g1, g2, hb⟩
      exact ⟨u1, u2, rfl, g1.mono (by omega), g2.mono (by omega), hb⟩
end Go.Proofs.Klp
/- Arithmetic of magnitudes: contracts by what the slices say. -/
namespace Go.Proofs.Klp
open Go.RowKit

theorem plus_v (v1 v2 : Value) (N1 N2 : Nat) (x y : Int) (w : World) (hx : BigV N1 w v1 x) (hy : BigV N2 w v2 y) (hN1 : N1 ≤ 100000000) (hN2 : N2 ≤ 100000000) :
    Calls Tryz.prog 136 #[v1, v2] w fun e w' => ∃ u, e = .returned u ∧ BigV (N1 + N2 + 1) w' u (x + y) ∧ Below w.heap.size w w' := by
  obtain ⟨A1, n1, c1, xs, rfl, hrx, hcx, rfl, h1⟩ := hx
  obtain ⟨A2, n2, c2, ys, rfl, hry, hcy, rfl, h2⟩ := hy
  by_cases h : n1 < n2
  · refine (plus_lt A1 n1 c1 xs A2 n2 c2 ys w hrx hry h (dt_bd hcx.1) (dt_bd hcy.1) (by omega) (by omega)).mono ?_
    rintro e w' ⟨u, rfl, hu, hb⟩
    exact ⟨u, rfl, hu.mono (by omega), hb⟩
  · refine (plus_ge A1 n1 c1 xs A2 n2 c2 ys w hrx hry h (dt_bd hcx.1) (dt_bd hcy.1) (by omega) (by omega)).mono ?_
    rintro e w' ⟨u, rfl, hu, hb⟩
    exact ⟨u, rfl, hu.mono (by omega), hb⟩

theorem minus_v (v1 v2 : Value) (N1 N2 : Nat) (x y : Int) (w : World) (hx : BigV N1 w v1 x) (hy : BigV N2 w v2 y) (hle : y ≤ x) (hN1 : N1 ≤ 100000000) :
    Calls Tryz.prog 139 #[v1, v2] w fun e w' => ∃ u, e = .returned u ∧ BigV N1 w' u (x - y) ∧ Below w.heap.size w w' := by
  obtain ⟨A1, n1, c1, xs, rfl, hrx, hcx, rfl, h1⟩ := hx
  obtain ⟨A2, n2, c2, ys, rfl, hry, hcy, rfl, h2⟩ := hy
  have hl := len_le_of_val hcy hcx.1 hle
  rw [hry.len, hrx.len] at hl
  refine (minus_any A1 n1 c1 xs A2 n2 c2 ys w hrx hry hl (dt_bd hcx.1) (dt_bd hcy.1) (by omega) (Lib.hid hle)).mono ?_
  rintro e w' ⟨u, rfl, hu, _, hb⟩
  exact ⟨u, rfl, hu.mono h1, hb⟩

theorem times_v (v1 v2 : Value) (N1 N2 : Nat) (x y : Int) (w : World) (hx : BigV N1 w v1 x) (hy : BigV N2 w v2 y) (hN1 : N1 ≤ 100000000) (hN2 : N2 ≤ 100000000) :
    Calls Tryz.prog 140 #[v1, v2] w fun e w' => ∃ u, e = .returned u ∧ BigV (N1 + N2 + 1) w' u (x * y) ∧ Below w.heap.size w w' := by
  obtain ⟨A1, n1, c1, xs, rfl, hrx, hcx, rfl, h1⟩ := hx
  obtain ⟨A2, n2, c2, ys, rfl, hry, hcy, rfl, h2⟩ := hy
  refine (times_any A1 n1 c1 xs A2 n2 c2 ys w hrx hry (dt_bd hcx.1) (dt_bd hcy.1) (by omega) (by omega) hcx hcy).mono ?_
  rintro e w' ⟨u, rfl, hu, hb⟩
  exact ⟨u, rfl, hu.mono (by omega), hb⟩

theorem order_v (v1 v2 : Value) (N1 N2 : Nat) (x y : Int) (w : World) (hx : BigV N1 w v1 x) (hy : BigV N2 w v2 y) (hN1 : N1 ≤ 100000000) (hN2 : N2 ≤ 100000000) :
    Calls Tryz.prog 138 #[v1, v2] w fun e w' => e = .returned (.int .i64 (cmpI x y)) ∧ ∃ nd, w' = w.drewN nd := by
  obtain ⟨A1, n1, c1, xs, rfl, hrx, hcx, rfl, h1⟩ := hx
  obtain ⟨A2, n2, c2, ys, rfl, hry, hcy, rfl, h2⟩ := hy
  exact order_any A1 n1 c1 xs A2 n2 c2 ys w hrx hry hcx hcy (by omega) (by omega)
end Go.Proofs.Klp
/- Signs and opposites of numbers. -/
namespace Go.Proofs.Klp
open Go.RowKit

theorem cat_neg {q : Rat} (h : 0 < q) : ({ data := #[45] } : ByteArray) ++ rB q = rB (-q) := rB_neg_add h
theorem cat_negI {n : Int} (h : 0 < n) : ({ data := #[45] } : ByteArray) ++ iB n = iB (-n) := iB_neg_add h
theorem rat_pos {q : Rat} (h0 : ¬ q = 0) (h1 : ¬ q < 0) : 0 < q := by grind

theorem ref02_neg (q : Rat) (w : World) (hq : rlen q ≤ 100000000) : Calls Tryz.prog 61 #[.string (rB q)] w fun e w' => e = .returned (.string (rB (-q))) ∧ w = w' := by
  have hs := rB_size q
  have hp := rB_pos q
  have h0 := rB_is0 q
  have h1 := rB_first q hp
  by_cases hz : q = 0
  · subst hz
    rw [decide_eq_true rfl] at h0
    clear h1
    go_enter Tryz.func61, Tryz.ntmps61
    go_wp2
    go_ret
    exact ⟨by rw [Rat.neg_zero]; rfl, rfl⟩
  · rw [decide_eq_false hz] at h0
    by_cases hn : q < 0
    · rw [decide_eq_true hn] at h1
      have ht := rB_neg_tail hn
      clear hz
      go_enter Tryz.func61, Tryz.ntmps61
      go_wp2
      go_ret
      exact ⟨rfl, rfl⟩
    · rw [decide_eq_false hn] at h1
      have ht := cat_neg (rat_pos hz hn)
      clear hz hn
      go_enter Tryz.func61, Tryz.ntmps61
      go_wp2
      all_goals first
        | (exfalso; omega)
        | (go_ret; exact ⟨rfl, rfl⟩)

theorem rat_neg (q : Rat) (w : World) (hq : rlen q ≤ 100000000) : Calls Tryz.prog 76 #[.string (rB q)] w fun e w' => e = .returned (.string (rB (-q))) ∧ w = w' := by
  have hs := rB_size q
  have hp := rB_pos q
  have h0 := rB_is0 q
  have h1 := rB_first q hp
  by_cases hz : q = 0
  · subst hz
    rw [decide_eq_true rfl] at h0
    clear h1
    go_enter Tryz.func76, Tryz.ntmps76
    go_wp2
    go_ret
    exact ⟨by rw [Rat.neg_zero]; rfl, rfl⟩
  · rw [decide_eq_false hz] at h0
    by_cases hn : q < 0
    · rw [decide_eq_true hn] at h1
      have ht := rB_neg_tail hn
      clear hz
      go_enter Tryz.func76, Tryz.ntmps76
      go_wp2
      go_ret
      exact ⟨rfl, rfl⟩
    · rw [decide_eq_false hn] at h1
      have ht := cat_neg (rat_pos hz hn)
      clear hz hn
      go_enter Tryz.func76, Tryz.ntmps76
      go_wp2
      all_goals first
        | (exfalso; omega)
        | (go_ret; exact ⟨rfl, rfl⟩)
end Go.Proofs.Klp
/- What the texts of numbers say to the functions of package strings and strconv: plain facts. -/
namespace Go.Proofs.Klp
open Go.Lib (decDigits itoa hasPrefix trimPrefix compareBytes decFrom decNat digitVal atoi parseUintM parseUintB cut index indexByte)

theorem hp_head (l : List UInt8) : hasPrefix l [45] = (l.head? == some 45) := by
  cases l with
  | nil => rfl
  | cons a l =>
    simp only [hasPrefix, List.isPrefixOf, List.head?_cons, Bool.and_true]
    by_cases h : a = 45
    · subst h; rfl
    · have h' : ¬ 45 = a := fun e => h e.symm
      have e : ((some a : Option UInt8) == some 45) = false := beq_false_of_ne fun e => h (Option.some.inj e)
      rw [beq_false_of_ne h', e]
theorem hp_itoa (n : Int) : hasPrefix (itoa n) [45] = decide (n < 0) := by
  rw [hp_head, Bool.eq_iff_iff]
  simp [itoa_head_neg]
theorem tp_itoa (n : Int) : trimPrefix (itoa n) [45] = decDigits n.natAbs := by
  unfold trimPrefix
  rw [hp_itoa]
  by_cases h : n < 0
  · rw [if_pos (by simpa using h), itoa_neg h]; rfl
  · rw [if_neg (by simpa using h), itoa_nonneg (by omega)]

/-- texts of digits of one length compare as what they spell -/
theorem cmp_digs : ∀ (s t : List UInt8), Digs s → Digs t → s.length = t.length → compareBytes s t = if (tv s : Int) < (tv t : Int) then -1 else if (tv t : Int) < (tv s : Int) then 1 else 0 := by
  intro s
  induction s with
  | nil =>
    intro t _ _ h
    cases t with
    | nil => rfl
    | cons b t => simp at h
  | cons a s ih =>
    intro t hs ht h
    cases t with
    | nil => simp at h
    | cons b t =>
      have hl : s.length = t.length := by simpa using h
      have hs' := Digs.cons.1 hs
      have ht' := Digs.cons.1 ht
      have i := ih t hs'.2 ht'.2 hl
      have b1 := tv_lt hs'.2
      have b2 := tv_lt ht'.2
      unfold compareBytes
      rw [tv_cons, tv_cons, hl]
      rw [hl] at b1
      generalize 10 ^ t.length = p at b1 b2 ⊢
      by_cases h1 : a < b
      · rw [if_pos h1]
        have h1' : a.toNat < b.toNat := UInt8.lt_iff_toNat_lt.1 h1
        have : (a.toNat - 48 + 1) * p ≤ (b.toNat - 48) * p := Nat.mul_le_mul_right p (by omega)
        rw [Nat.add_mul] at this
        rw [if_pos (by omega)]
      · rw [if_neg h1]
        by_cases h2 : b < a
        · rw [if_pos h2]
          have h2' : b.toNat < a.toNat := UInt8.lt_iff_toNat_lt.1 h2
          have : (b.toNat - 48 + 1) * p ≤ (a.toNat - 48) * p := Nat.mul_le_mul_right p (by omega)
          rw [Nat.add_mul] at this
          rw [if_neg (by omega), if_pos (by omega)]
        · rw [if_neg h2, i]
          have h3 : a.toNat = b.toNat := by
            have h1' := mt UInt8.lt_iff_toNat_lt.2 h1
            have h2' := mt UInt8.lt_iff_toNat_lt.2 h2
            omega
          rw [h3]
          generalize (b.toNat - 48) * p = z
          have e1 : ((z + tv s : Nat) : Int) < ((z + tv t : Nat) : Int) ↔ (tv s : Int) < tv t := by omega
          have e2 : ((z + tv t : Nat) : Int) < ((z + tv s : Nat) : Int) ↔ (tv t : Int) < tv s := by omega
          simp only [e1, e2]

theorem digitVal_dig {c : UInt8} (h : 48 ≤ c.toNat ∧ c.toNat ≤ 57) : digitVal c = some (c.toNat - 48) := if_pos h
theorem decFrom_digs : ∀ (s : List UInt8) (a : Nat), Digs s → decFrom a s = some (tvA a s) := by
  intro s
  induction s with
  | nil => intro a _; rfl
  | cons c s ih =>
    intro a h
    have h' := Digs.cons.1 h
    rw [tvA_cons, ← ih _ h'.2]
    simp only [decFrom, digitVal_dig h'.1]
    rfl
theorem decNat_digs {s : List UInt8} (h : Digs s) (hn : s ≠ []) : decNat s = some (tv s) := by
  unfold decNat
  rw [if_neg (by simpa using hn), decFrom_digs _ _ h]; rfl
theorem atoi_itoa (n : Int) : atoi (itoa n) = some n := by
  by_cases h : n < 0
  · rw [itoa_neg h]
    simp only [atoi, beq_self_eq_true, if_true]
    rw [decNat_digs (digs_dec _) (dec_ne_nil _), tv_dec]
    simp; omega
  · have hd := digs_dec n.natAbs
    have hv := tv_dec n.natAbs
    have hn := dec_ne_nil n.natAbs
    rw [itoa_nonneg (by omega)]
    generalize decDigits n.natAbs = l at hd hv hn
    cases l with
    | nil => exact absurd rfl hn
    | cons c s =>
      have h' := (Digs.cons.1 hd).1
      have e1 : (c == 45) = false := by
        rw [Bool.eq_false_iff]; intro e
        have : c = 45 := by simpa using e
        rw [this] at h'; simp at h'
      have e2 : (c == 43) = false := by
        rw [Bool.eq_false_iff]; intro e
        have : c = 43 := by simpa using e
        rw [this] at h'; simp at h'
      simp only [atoi, e1, e2]
      rw [if_neg (by simp), if_neg (by simp), decNat_digs hd hn, hv]
      simp; omega
theorem parseUintM_digs : ∀ (s : List UInt8) (a : Nat), Digs s → tvA a s < 1000000000000000000 → parseUintM 18446744073709551615 a s = .ok (tvA a s) := by
  intro s
  induction s with
  | nil => intro a _ _; rfl
  | cons c s ih =>
    intro a h hb
    have h' := Digs.cons.1 h
    rw [tvA_cons] at hb ⊢
    have e := tvA_eq (tvS a c) s
    have hp : 1 ≤ 10 ^ s.length := Nat.pow_pos (by decide)
    have hle : tvS a c ≤ tvS a c * 10 ^ s.length := Nat.le_mul_of_pos_right _ hp
    have hb' : tvS a c < 1000000000000000000 := by omega
    have hb2 : a * 10 + (c.toNat - 48) < 1000000000000000000 := hb'
    rw [← ih _ h'.2 hb]
    simp only [parseUintM]
    rw [if_pos h'.1, if_neg (by omega), if_neg (by omega)]
    rfl
theorem parseUint_digs {s : List UInt8} (h : Digs s) (hn : s ≠ []) (hl : s.length ≤ 18) : parseUintB 64 s = .ok (tv s) := by
  unfold parseUintB
  rw [if_neg hn]
  refine parseUintM_digs s 0 h ?_
  exact Nat.lt_of_lt_of_le (tv_lt h) (Nat.pow_le_pow_right (by decide) hl : 10 ^ s.length ≤ 10 ^ 18)

/-! ### the place of a slash -/
theorem indexByte_no : ∀ (l : List UInt8) (c : UInt8), (∀ z ∈ l, z ≠ c) → indexByte l c = -1 := by
  intro l c
  induction l with
  | nil => intro _; rfl
  | cons a l ih =>
    intro h
    have i := ih fun z hz => h z (List.mem_cons_of_mem _ hz)
    have e : (a == c) = false := by simpa using h a List.mem_cons_self
    simp only [indexByte, e, i]
    rfl
theorem indexByte_at : ∀ (a b : List UInt8) (c : UInt8), (∀ z ∈ a, z ≠ c) → indexByte (a ++ c :: b) c = (a.length : Int) := by
  intro a b c
  induction a with
  | nil => intro _; simp [indexByte]
  | cons x a ih =>
    intro h
    have i := ih fun z hz => h z (List.mem_cons_of_mem _ hz)
    have e : (x == c) = false := by simpa using h x List.mem_cons_self
    simp only [List.cons_append, indexByte, e, i, List.length_cons]
    rw [if_neg (by simp), if_neg (by simp)]
    rfl
theorem slash_cases (c : UInt8) (l : List UInt8) : (∀ z ∈ l, z ≠ c) ∨ ∃ a b, l = a ++ c :: b ∧ ∀ z ∈ a, z ≠ c := by
  induction l with
  | nil => exact .inl (by simp)
  | cons x l ih =>
    by_cases h : x = c
    · subst h; exact .inr ⟨[], l, rfl, by simp⟩
    · rcases ih with h' | ⟨a, b, rfl, h'⟩
      · exact .inl (by simp; exact ⟨h, fun z hz => h' z hz⟩)
      · exact .inr ⟨x :: a, b, rfl, by simp; exact ⟨h, fun z hz => h' z hz⟩⟩
theorem cut_no {l : List UInt8} {c : UInt8} (h : ∀ z ∈ l, z ≠ c) : cut l [c] = (l, [], false) := by
  unfold cut
  rw [Go.Lib.index_one, indexByte_no l c h]; rfl
theorem cut_at {a b : List UInt8} {c : UInt8} (h : ∀ z ∈ a, z ≠ c) : cut (a ++ c :: b) [c] = (a, b, true) := by
  unfold cut
  rw [Go.Lib.index_one, indexByte_at a b c h, if_pos (by omega)]
  simp

/-! ### which texts are numbers -/
/-- the text of an integer of at most 200 digits -/
def OkI (l : List UInt8) : Prop := ∃ n : Int, l = itoa n ∧ ilen n ≤ 200
/-- the text of a number with at most 200 digits above and below -/
def OkR (l : List UInt8) : Prop := ∃ q : Rat, l = ratT q ∧ rlen q ≤ 200

/-- what the tests of an integer's text say, behind its sign -/
theorem okI_iff (m : Bool) (s l : List UInt8) (hm : l = if m then 45 :: s else s) (h0 : m = false → l.head? ≠ some 45) :
    OkI l ↔ s ≠ [] ∧ s.length ≤ 200 ∧ ¬ (s.head? = some 48 ∧ (1 < s.length ∨ m = true)) ∧ Digs s := by
  constructor
  · rintro ⟨n, e, hn⟩
    have hd : s = decDigits n.natAbs ∧ (m = true ↔ n < 0) := by
      cases m with
      | true =>
        have e' : itoa n = 45 :: s := by rw [← e, hm]; rfl
        have hneg : n < 0 := itoa_head_neg.1 (by rw [e']; rfl)
        rw [itoa_neg hneg] at e'
        exact ⟨(List.cons.inj e').2.symm, by simpa using hneg⟩
      | false =>
        have hneg : ¬ n < 0 := fun h => h0 rfl (by rw [e]; exact itoa_head_neg.2 h)
        rw [if_neg (by simp)] at hm
        rw [← hm, e, itoa_nonneg (by omega)]
        exact ⟨rfl, by simpa using hneg⟩
    obtain ⟨rfl, hmn⟩ := hd
    refine ⟨dec_ne_nil _, hn, ?_, digs_dec _⟩
    rintro ⟨h1, h2⟩
    by_cases hz : n.natAbs = 0
    · rw [hz, dec_zero] at h2
      rcases h2 with h2 | h2
      · simp at h2
      · have := hmn.1 h2; omega
    · obtain ⟨c, t, e1, h3, _⟩ := dec_head hz
      rw [e1] at h1
      have : c = 48 := by simpa using h1
      rw [this] at h3
      simp at h3
  · rintro ⟨h1, h2, h3, h4⟩
    have hz : s.length = 1 ∨ s.head? ≠ some 48 := by
      by_cases h : s.head? = some 48
      · refine .inl ?_
        have h5 := List.length_pos_iff.2 h1
        have h6 : ¬ 1 < s.length := fun h7 => h3 ⟨h, .inl h7⟩
        omega
      · exact .inr h
    have e := dec_tv s h4 h1 hz
    cases m with
    | true =>
      have hne : tv s ≠ 0 := by
        intro h5
        rw [h5, dec_zero] at e
        exact h3 ⟨by rw [← e]; rfl, .inr rfl⟩
      refine ⟨-(tv s : Int), ?_, ?_⟩
      · rw [itoa_neg (by omega), Int.natAbs_neg, Int.natAbs_natCast, e, hm]; rfl
      · rw [ilen_neg]; unfold ilen; rw [Int.natAbs_natCast, e]; exact h2
    | false =>
      refine ⟨(tv s : Int), ?_, ?_⟩
      · rw [itoa_nat, e, hm]; rfl
      · unfold ilen; rw [Int.natAbs_natCast, e]; exact h2
theorem okR_no {l : List UInt8} (h : ∀ z ∈ l, z ≠ 47) : OkR l ↔ OkI l := by
  constructor
  · rintro ⟨q, rfl, hq⟩
    by_cases hd : q.den = 1
    · exact ⟨q.num, ratT_int hd, Nat.le_trans (Nat.le_max_left _ _) hq⟩
    · rw [ratT_frac hd] at h
      exact absurd rfl (h 47 (by simp))
  · rintro ⟨n, rfl, hn⟩
    refine ⟨(n : Rat), (ratT_intCast n).symm, ?_⟩
    unfold rlen
    have : (decDigits ((n : Rat)).den).length = 1 := by
      rw [show ((n : Rat)).den = 1 by simp, dec_small (by decide)]; rfl
    rw [this, show ((n : Rat)).num = n by simp]
    omega
theorem okR_at {a b : List UInt8} (h : ∀ z ∈ a, z ≠ 47) : OkR (a ++ 47 :: b) ↔ ∃ m n : Int, a = itoa m ∧ ilen m ≤ 200 ∧ b = itoa n ∧ ilen n ≤ 200 ∧ 1 < n ∧ m ≠ 0 ∧ Int.gcd m n = 1 := by
  constructor
  · rintro ⟨q, e, hq⟩
    by_cases hd : q.den = 1
    · rw [ratT_int hd] at e
      exact absurd rfl (no_slash_itoa q.num 47 (by rw [← e]; simp))
    · rw [ratT_frac hd] at e
      obtain ⟨rfl, rfl⟩ := split_unique h (no_slash_itoa q.num) e
      have hn := q.den_nz
      have hr := q.reduced
      refine ⟨q.num, (q.den : Int), rfl, Nat.le_trans (Nat.le_max_left _ _) hq, (itoa_nat _).symm, ?_, by omega, ?_, ?_⟩
      · unfold ilen; rw [Int.natAbs_natCast]; exact Nat.le_trans (Nat.le_max_right _ _) hq
      · intro h0
        rw [h0] at hr
        simp [Nat.Coprime] at hr
        exact hd hr
      · unfold Int.gcd; rw [Int.natAbs_natCast]; exact hr
  · rintro ⟨m, n, rfl, h1, rfl, h2, h3, h4, h5⟩
    have e : (n.natAbs : Int) = n := by omega
    refine ⟨⟨m, n.natAbs, by omega, h5⟩, ?_, ?_⟩
    · rw [ratT_frac (by show ¬ n.natAbs = 1; omega)]
      show itoa m ++ 47 :: itoa n = itoa m ++ 47 :: decDigits n.natAbs
      rw [itoa_nonneg (show 0 ≤ n by omega)]
    · unfold rlen; exact Nat.max_le.2 ⟨h1, h2⟩
end Go.Proofs.Klp
