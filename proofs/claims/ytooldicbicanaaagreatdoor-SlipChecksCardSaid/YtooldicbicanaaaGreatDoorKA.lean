/- Decimal numerals and rational numbers as texts: plain facts. -/
import Derived.Lib.ItoaNum
import Derived.Lib.ParseIntB
import Derived.Lib.AtoiAll
import Derived.WalkKit
import Derived.WalkSpells
import Derived.WalkLawsBesides
import Derived.OwnWalk
import Derived.LoopTactic
import Derived.Outline
import Derived.Deep.QuietTactic
import Derived.BigQuiet
import Derived.Lib.Hide
import Derived.Deep.LoopGhost
import Derived.Deep.DeepFit
import Derived.Maps.AppendAt
import Derived.Laws.MakeOwn
import Derived.Laws.OwnMore
import Derived.Test.YtooldicbicanaaaGreatDoorProg
import Derived.RangeFuncNested
import Derived.RangeFuncBound
import Derived.RangeFuncCalls
import Derived.RangeFuncLeaves
import Derived.RangeFuncBox
import Derived.RangeFuncWrites
import Derived.Shelf.Abstract
import Derived.Shelf.RegionOpen
import Derived.OwnWalkIn
import Derived.TacticsInMore
import Derived.LoopNIn
import Derived.LoopIn
namespace Go.Proofs.Klp
open Go.Lib (decDigits itoa)

/-- all bytes are decimal digits -/
def Digs (s : List UInt8) : Prop := ∀ c ∈ s, 48 ≤ c.toNat ∧ c.toNat ≤ 57
/-- the number that digits spell -/
def tvS (a : Nat) (c : UInt8) : Nat := a * 10 + (c.toNat - 48)
def tvA (a : Nat) (s : List UInt8) : Nat := s.foldl tvS a
def tv (s : List UInt8) : Nat := tvA 0 s

theorem tvA_nil (a : Nat) : tvA a [] = a := rfl
theorem tvA_cons (a : Nat) (c : UInt8) (s : List UInt8) : tvA a (c :: s) = tvA (tvS a c) s := List.foldl_cons
theorem tvA_eq (a : Nat) (s : List UInt8) : tvA a s = a * 10 ^ s.length + tv s := by
  unfold tv
  induction s generalizing a with
  | nil => rw [tvA_nil, tvA_nil, List.length_nil, Nat.pow_zero, Nat.mul_one, Nat.add_zero]
  | cons c s ih =>
    rw [tvA_cons, tvA_cons, ih, ih (tvS 0 c), List.length_cons, Nat.pow_succ]
    unfold tvS
    generalize 10 ^ s.length = P
    generalize c.toNat - 48 = d
    rw [Nat.add_mul, Nat.zero_mul, Nat.zero_add, ← Nat.add_assoc, Nat.mul_assoc, Nat.mul_comm 10 P]
theorem tv_nil : tv [] = 0 := rfl
theorem tv_one (c : UInt8) : tv [c] = c.toNat - 48 := by
  unfold tv; rw [tvA_cons, tvA_nil]; unfold tvS; rw [Nat.zero_mul, Nat.zero_add]
theorem tvA_append (a : Nat) (s t : List UInt8) : tvA a (s ++ t) = tvA (tvA a s) t := List.foldl_append
theorem tv_append (s t : List UInt8) : tv (s ++ t) = tv s * 10 ^ t.length + tv t := by
  have e : tv (s ++ t) = tvA (tv s) t := tvA_append 0 s t
  rw [e, tvA_eq]
theorem tv_cons (c : UInt8) (s : List UInt8) : tv (c :: s) = (c.toNat - 48) * 10 ^ s.length + tv s := by
  have e : tv (c :: s) = tvA (tvS 0 c) s := tvA_cons _ _ _
  rw [e, tvA_eq]; unfold tvS; rw [Nat.zero_mul, Nat.zero_add]
theorem tv_snoc (s : List UInt8) (c : UInt8) : tv (s ++ [c]) = tv s * 10 + (c.toNat - 48) := by
  rw [tv_append, tv_one]; simp
theorem Digs.nil : Digs [] := by simp [Digs]
theorem Digs.append {s t : List UInt8} : Digs (s ++ t) ↔ Digs s ∧ Digs t := by
  simp only [Digs, List.mem_append]
  exact ⟨fun h => ⟨fun c hc => h c (.inl hc), fun c hc => h c (.inr hc)⟩, fun h c hc => hc.elim (h.1 c) (h.2 c)⟩
theorem Digs.cons {c : UInt8} {s : List UInt8} : Digs (c :: s) ↔ (48 ≤ c.toNat ∧ c.toNat ≤ 57) ∧ Digs s := by
  simp [Digs]
theorem tv_lt {s : List UInt8} (h : Digs s) : tv s < 10 ^ s.length := by
  induction s with
  | nil => simp [tv_nil]
  | cons c s ih =>
    obtain ⟨hc, hs⟩ := Digs.cons.1 h
    have := ih hs
    rw [tv_cons, List.length_cons, Nat.pow_succ]
    have : (c.toNat - 48) * 10 ^ s.length ≤ 9 * 10 ^ s.length := Nat.mul_le_mul_right _ (by omega)
    omega

theorem head?_app {s t : List UInt8} (h : s ≠ []) : (s ++ t).head? = s.head? := by cases s <;> simp_all
theorem toNat_dig {d : Nat} (h : d < 10) : (UInt8.ofNat (48 + d)).toNat = 48 + d := by
  rw [UInt8.toNat_ofNat']; omega
theorem dec_small {u : Nat} (h : u < 10) : decDigits u = [UInt8.ofNat (48 + u)] := by rw [decDigits, dif_pos h]
theorem dec_big {u : Nat} (h : ¬ u < 10) : decDigits u = decDigits (u / 10) ++ [UInt8.ofNat (48 + u % 10)] := by rw [decDigits, dif_neg h]
theorem digs_dec (u : Nat) : Digs (decDigits u) := by
  induction u using Nat.strongRecOn with
  | _ u ih =>
    by_cases h : u < 10
    · rw [dec_small h]
      intro c hc
      rw [List.mem_singleton] at hc; subst hc
      rw [toNat_dig h]; omega
    · rw [dec_big h]
      refine Digs.append.2 ⟨ih _ (by omega), ?_⟩
      intro c hc
      rw [List.mem_singleton] at hc; subst hc
      rw [toNat_dig (by omega)]; omega
theorem tv_dec (u : Nat) : tv (decDigits u) = u := by
  induction u using Nat.strongRecOn with
  | _ u ih =>
    by_cases h : u < 10
    · rw [dec_small h, tv_one, toNat_dig h]; omega
    · rw [dec_big h, tv_snoc, ih _ (by omega), toNat_dig (by omega)]; omega
theorem dec_ne_nil (u : Nat) : decDigits u ≠ [] := by
  by_cases h : u < 10
  · rw [dec_small h]; simp
  · rw [dec_big h]; simp
theorem dec_inj {u v : Nat} (h : decDigits u = decDigits v) : u = v := by rw [← tv_dec u, h, tv_dec]
theorem dec_head {u : Nat} (hu : u ≠ 0) : ∃ c s, decDigits u = c :: s ∧ 49 ≤ c.toNat ∧ c.toNat ≤ 57 := by
  induction u using Nat.strongRecOn with
  | _ u ih =>
    by_cases h : u < 10
    · exact ⟨_, _, dec_small h, by rw [toNat_dig h]; omega, by rw [toNat_dig h]; omega⟩
    · obtain ⟨c, s, e, h1⟩ := ih (u / 10) (by omega) (by omega)
      exact ⟨c, s ++ [UInt8.ofNat (48 + u % 10)], by rw [dec_big h, e]; rfl, h1⟩
theorem dec_zero : decDigits 0 = [48] := dec_small (by decide)
theorem u8_ext {a b : UInt8} (h : a.toNat = b.toNat) : a = b := UInt8.toNat_inj.1 h
/-- digits without a zero ahead are the numeral of what they spell -/
theorem dec_tv : ∀ (s : List UInt8), Digs s → s ≠ [] → (s.length = 1 ∨ s.head? ≠ some 48) → decDigits (tv s) = s := by
  intro s
  induction h : s.length generalizing s with
  | zero => intro _ hn; exact absurd (List.eq_nil_of_length_eq_zero h) hn
  | succ n ih =>
    intro hd hn hz
    obtain ⟨t, c, rfl⟩ : ∃ t c, s = t ++ [c] := ⟨s.dropLast, s.getLast hn, (List.dropLast_concat_getLast hn).symm⟩
    obtain ⟨ht, hc⟩ := Digs.append.1 hd
    have hc := hc c (by simp)
    rw [tv_snoc]
    by_cases hte : t = []
    · subst hte
      rw [tv_nil, dec_small (by omega)]
      simp only [List.nil_append, List.cons.injEq, and_true]
      apply u8_ext; rw [toNat_dig (by omega)]; omega
    · have hlen : t.length = n := by simpa using h
      have hn1 : n ≠ 0 := by rw [← hlen]; simpa using hte
      have hh : t.head? ≠ some 48 := by
        rcases hz with hz | hz
        · omega
        · rwa [head?_app hte] at hz
      have h48 : 1 ≤ tv t := by
        cases t with
        | nil => exact absurd rfl hte
        | cons d t =>
          have hd2 := (Digs.cons.1 ht).1
          have : d.toNat ≠ 48 := fun e => hh (by simp; exact u8_ext (by simpa using e))
          rw [tv_cons]
          have : 1 ≤ (d.toNat - 48) * 10 ^ t.length := Nat.mul_pos (by omega) (Nat.pow_pos (by decide))
          omega
      rw [dec_big (by omega)]
      have e1 : (tv t * 10 + (c.toNat - 48)) / 10 = tv t := by omega
      have e2 : (tv t * 10 + (c.toNat - 48)) % 10 = c.toNat - 48 := by omega
      rw [e1, e2, ih t hlen ht hte (.inr hh)]
      congr 2
      apply u8_ext; rw [toNat_dig (by omega)]; omega
theorem dec_len_le {u k : Nat} (hk : 1 ≤ k) : (decDigits u).length ≤ k ↔ u < 10 ^ k := by
  induction k generalizing u with
  | zero => omega
  | succ k ih =>
    by_cases h : u < 10
    · rw [dec_small h]
      have : 10 ≤ 10 ^ (k + 1) := by rw [Nat.pow_succ]; have := Nat.pow_pos (n := k) (show 0 < 10 by decide); omega
      simp; omega
    · rw [dec_big h, List.length_append]
      by_cases hk : k = 0
      · subst hk
        have := List.length_pos_iff.2 (dec_ne_nil (u / 10))
        simp only [List.length_cons, List.length_nil, Nat.zero_add, Nat.pow_one]; omega
      · have := ih (u := u / 10) (by omega)
        rw [Nat.pow_succ]; simp only [List.length_cons, List.length_nil]
        omega
theorem dec_len_pos (u : Nat) : 1 ≤ (decDigits u).length := List.length_pos_iff.2 (dec_ne_nil u)
theorem dec_len_mono {u v : Nat} (h : u ≤ v) : (decDigits u).length ≤ (decDigits v).length :=
  (dec_len_le (dec_len_pos v)).2 (Nat.lt_of_le_of_lt h ((dec_len_le (dec_len_pos v)).1 (Nat.le_refl _)))
theorem dec_lt_pow (u : Nat) : u < 10 ^ (decDigits u).length := (dec_len_le (dec_len_pos u)).1 (Nat.le_refl _)
theorem dec_len_mul (u v : Nat) : (decDigits (u * v)).length ≤ (decDigits u).length + (decDigits v).length := by
  rw [dec_len_le (by have := dec_len_pos u; omega), Nat.pow_add]
  exact Nat.mul_lt_mul'' (dec_lt_pow u) (dec_lt_pow v)
theorem dec_len_add (u v : Nat) : (decDigits (u + v)).length ≤ max (decDigits u).length (decDigits v).length + 1 := by
  rw [dec_len_le (by omega), Nat.pow_succ]
  have h1 : u < 10 ^ max (decDigits u).length (decDigits v).length :=
    Nat.lt_of_lt_of_le (dec_lt_pow u) (Nat.pow_le_pow_right (by decide) (Nat.le_max_left _ _))
  have h2 : v < 10 ^ max (decDigits u).length (decDigits v).length :=
    Nat.lt_of_lt_of_le (dec_lt_pow v) (Nat.pow_le_pow_right (by decide) (Nat.le_max_right _ _))
  omega
theorem no_minus_dec (u : Nat) : ∀ c ∈ decDigits u, c ≠ 45 := fun c hc e => by
  have := digs_dec u c hc; rw [e] at this; simp at this
theorem no_slash_dec (u : Nat) : ∀ c ∈ decDigits u, c ≠ 47 := fun c hc e => by
  have := digs_dec u c hc; rw [e] at this; simp at this

/-! ### integers -/
theorem itoa_neg {n : Int} (h : n < 0) : itoa n = 45 :: decDigits n.natAbs := by rw [itoa, if_pos h]
theorem itoa_nonneg {n : Int} (h : 0 ≤ n) : itoa n = decDigits n.natAbs := by
  rw [itoa, if_neg (by omega)]; congr 1; omega
theorem itoa_nat (n : Nat) : itoa (n : Int) = decDigits n := by rw [itoa_nonneg (by omega)]; simp
theorem itoa_zero : itoa 0 = [48] := by rw [itoa_nonneg (by omega)]; exact dec_zero
theorem itoa_one : itoa 1 = [49] := by rw [itoa_nonneg (by omega)]; exact dec_small (by decide)
theorem itoa_ne_nil (n : Int) : itoa n ≠ [] := by
  by_cases h : n < 0
  · rw [itoa_neg h]; simp
  · rw [itoa_nonneg (by omega)]; exact dec_ne_nil _
theorem itoa_head_neg {n : Int} : (itoa n).head? = some 45 ↔ n < 0 := by
  by_cases h : n < 0
  · rw [itoa_neg h]; simp [h]
  · rw [itoa_nonneg (by omega)]
    refine ⟨fun e => ?_, fun e => absurd e h⟩
    have := no_minus_dec n.natAbs 45 (List.mem_of_mem_head? (by rw [e]; rfl))
    exact absurd rfl this
theorem itoa_inj {m n : Int} (h : itoa m = itoa n) : m = n := by
  have hs : m < 0 ↔ n < 0 := by rw [← itoa_head_neg, ← itoa_head_neg, h]
  by_cases hm : m < 0
  · have hn := hs.1 hm
    rw [itoa_neg hm, itoa_neg hn] at h
    have := dec_inj (List.cons.inj h).2; omega
  · have hn : ¬ n < 0 := fun e => hm (hs.2 e)
    rw [itoa_nonneg (by omega), itoa_nonneg (by omega)] at h
    have := dec_inj h; omega
theorem itoa_eq_zero {n : Int} : itoa n = [48] ↔ n = 0 := by
  rw [← itoa_zero]; exact ⟨itoa_inj, fun h => by rw [h]⟩
theorem itoa_eq_one {n : Int} : itoa n = [49] ↔ n = 1 := by
  rw [← itoa_one]; exact ⟨itoa_inj, fun h => by rw [h]⟩
theorem no_slash_itoa (n : Int) : ∀ c ∈ itoa n, c ≠ 47 := by
  intro c hc
  by_cases h : n < 0
  · rw [itoa_neg h] at hc
    rcases List.mem_cons.1 hc with e | hc
    · rw [e]; decide
    · exact no_slash_dec _ c hc
  · rw [itoa_nonneg (by omega)] at hc; exact no_slash_dec _ c hc
/-- how many digits an integer has -/
def ilen (n : Int) : Nat := (decDigits n.natAbs).length
theorem ilen_pos (n : Int) : 1 ≤ ilen n := dec_len_pos _
theorem itoa_len (n : Int) : (itoa n).length = if n < 0 then ilen n + 1 else ilen n := by
  by_cases h : n < 0
  · rw [itoa_neg h, if_pos h]; rfl
  · rw [itoa_nonneg (by omega), if_neg h]; rfl
theorem itoa_len_le (n : Int) : (itoa n).length ≤ ilen n + 1 := by rw [itoa_len]; split <;> omega
theorem ilen_le_itoa (n : Int) : ilen n ≤ (itoa n).length := by rw [itoa_len]; split <;> omega
theorem ilen_neg (n : Int) : ilen (-n) = ilen n := by simp [ilen]
theorem ilen_mul (m n : Int) : ilen (m * n) ≤ ilen m + ilen n := by
  unfold ilen; rw [Int.natAbs_mul]; exact dec_len_mul _ _
theorem ilen_mono {m n : Int} (h : m.natAbs ≤ n.natAbs) : ilen m ≤ ilen n := dec_len_mono h
theorem ilen_add (m n : Int) : ilen (m + n) ≤ max (ilen m) (ilen n) + 1 :=
  Nat.le_trans (dec_len_mono (Int.natAbs_add_le m n)) (dec_len_add _ _)

/-! ### rational numbers -/
/-- the canonical text of a rational number -/
def ratT (q : Rat) : List UInt8 := if q.den = 1 then itoa q.num else itoa q.num ++ 47 :: decDigits q.den
theorem ratT_int {q : Rat} (h : q.den = 1) : ratT q = itoa q.num := by rw [ratT, if_pos h]
theorem ratT_frac {q : Rat} (h : q.den ≠ 1) : ratT q = itoa q.num ++ 47 :: decDigits q.den := by rw [ratT, if_neg h]
theorem split_unique {c : UInt8} {a b x y : List UInt8} (ha : ∀ z ∈ a, z ≠ c) (hb : ∀ z ∈ b, z ≠ c) (h : a ++ c :: x = b ++ c :: y) : a = b ∧ x = y := by
  induction a generalizing b with
  | nil =>
    cases b with
    | nil => simpa using h
    | cons z b => exact absurd (List.cons.inj h).1.symm (hb z (by simp))
  | cons u a ih =>
    cases b with
    | nil => exact absurd (List.cons.inj h).1 (ha u (by simp))
    | cons z b =>
      obtain ⟨e, h⟩ := List.cons.inj h
      obtain ⟨h1, h2⟩ := ih (fun z hz => ha z (by simp [hz])) (fun z hz => hb z (by simp [hz])) h
      exact ⟨by rw [e, h1], h2⟩
theorem ratT_inj {p q : Rat} (h : ratT p = ratT q) : p = q := by
  have hno : ∀ (a : Int) (b : Int) (y : List UInt8), itoa a ≠ itoa b ++ 47 :: y := fun a b y e =>
    no_slash_itoa a 47 (by rw [e]; simp) rfl
  by_cases hp : p.den = 1 <;> by_cases hq : q.den = 1
  · rw [ratT_int hp, ratT_int hq] at h
    exact Rat.ext (itoa_inj h) (by rw [hp, hq])
  · rw [ratT_int hp, ratT_frac hq] at h; exact absurd h (hno _ _ _)
  · rw [ratT_frac hp, ratT_int hq] at h; exact absurd h.symm (hno _ _ _)
  · rw [ratT_frac hp, ratT_frac hq] at h
    obtain ⟨h1, h2⟩ := split_unique (no_slash_itoa _) (no_slash_itoa _) h
    exact Rat.ext (itoa_inj h1) (dec_inj h2)
theorem ratT_eq {p q : Rat} : ratT p = ratT q ↔ p = q := ⟨ratT_inj, fun h => by rw [h]⟩
theorem ratT_intCast (n : Int) : ratT (n : Rat) = itoa n := by rw [ratT_int (by simp)]; simp
theorem ratT_zero : ratT 0 = [48] := by rw [ratT_int (by rfl)]; exact itoa_zero
theorem ratT_one : ratT 1 = [49] := by rw [ratT_int (by rfl)]; exact itoa_one
theorem ratT_eq_zero {q : Rat} : ratT q = [48] ↔ q = 0 := by rw [← ratT_zero]; exact ratT_eq
theorem ratT_eq_one {q : Rat} : ratT q = [49] ↔ q = 1 := by rw [← ratT_one]; exact ratT_eq
theorem ratT_ne_nil (q : Rat) : ratT q ≠ [] := by
  by_cases h : q.den = 1
  · rw [ratT_int h]; exact itoa_ne_nil _
  · rw [ratT_frac h]; simp
theorem num_neg_iff {q : Rat} : q.num < 0 ↔ q < 0 := by rw [Rat.lt_iff]; simp
theorem ratT_head {q : Rat} : (ratT q).head? = some 45 ↔ q < 0 := by
  have e : (ratT q).head? = (itoa q.num).head? := by
    by_cases h : q.den = 1
    · rw [ratT_int h]
    · rw [ratT_frac h, head?_app (itoa_ne_nil _)]
  rw [e, itoa_head_neg, num_neg_iff]
theorem ratT_neg_of_neg {q : Rat} (h : q < 0) : ratT q = 45 :: ratT (-q) := by
  have hn := num_neg_iff.2 h
  have e1 : (-q).num = -q.num := Rat.neg_num _
  have e2 : (-q).den = q.den := Rat.neg_den _
  by_cases hd : q.den = 1
  · rw [ratT_int hd, ratT_int (by rw [e2]; exact hd), e1, itoa_neg hn, itoa_nonneg (by omega)]; simp
  · rw [ratT_frac hd, ratT_frac (by rw [e2]; exact hd), e1, e2, itoa_neg hn, itoa_nonneg (by omega)]; simp
/-- how many digits numerator and denominator have at most -/
def rlen (q : Rat) : Nat := max (ilen q.num) (decDigits q.den).length
theorem ratT_len (q : Rat) : (ratT q).length ≤ 2 * rlen q + 2 := by
  have := itoa_len_le q.num
  unfold rlen
  by_cases h : q.den = 1
  · rw [ratT_int h]; omega
  · rw [ratT_frac h]; simp; omega
theorem rlen_le_ratT (q : Rat) : rlen q ≤ (ratT q).length := by
  have := ilen_le_itoa q.num
  have := ilen_pos q.num
  unfold rlen
  by_cases h : q.den = 1
  · rw [ratT_int h, h, dec_small (by decide)]; simp; omega
  · rw [ratT_frac h]; simp; omega
theorem rlen_neg (q : Rat) : rlen (-q) = rlen q := by
  unfold rlen; rw [Rat.neg_num, Rat.neg_den, ilen_neg]

theorem ratT_neg (q : Rat) : ratT (-q) = if q = 0 then [48] else if q < 0 then (ratT q).tail else 45 :: ratT q := by
  by_cases h0 : q = 0
  · rw [if_pos h0, h0]; exact ratT_zero
  · rw [if_neg h0]
    by_cases hn : q < 0
    · rw [if_pos hn, ratT_neg_of_neg hn]; rfl
    · rw [if_neg hn]
      have : -q < 0 := by grind
      rw [ratT_neg_of_neg this, Rat.neg_neg]

/-! ### fractions in lowest terms -/
theorem mkRat_parts (n : Int) {d : Nat} (hd : d ≠ 0) : (mkRat n d).num = n / (n.natAbs.gcd d : Nat) ∧ (mkRat n d).den = d / n.natAbs.gcd d := by
  rw [← Rat.normalize_eq_mkRat hd, Rat.normalize_eq hd]
  exact ⟨rfl, rfl⟩
theorem mkRat_num_le (n : Int) (d : Nat) (hd : d ≠ 0) : (mkRat n d).num.natAbs ≤ n.natAbs := by
  rw [(mkRat_parts n hd).1, Int.natAbs_ediv_of_dvd (Int.ofNat_dvd_left.2 (Nat.gcd_dvd_left _ _)), Int.natAbs_natCast]
  exact Nat.div_le_self _ _
theorem mkRat_den_le (n : Int) (d : Nat) (hd : d ≠ 0) : (mkRat n d).den ≤ d := by
  rw [(mkRat_parts n hd).2]; exact Nat.div_le_self _ _
theorem add_mkRat (a b : Rat) : a + b = mkRat (a.num * b.den + b.num * a.den) (a.den * b.den) := by
  rw [Rat.add_def, Rat.normalize_eq_mkRat]
theorem mul_mkRat (a b : Rat) : a * b = mkRat (a.num * b.num) (a.den * b.den) := by
  rw [Rat.mul_def, Rat.normalize_eq_mkRat]
theorem den_pos (a : Rat) : 0 < a.den := Nat.pos_of_ne_zero a.den_nz
theorem rlen_mkRat (n : Int) (d : Nat) (hd : d ≠ 0) : rlen (mkRat n d) ≤ max (ilen n) (decDigits d).length := by
  have h1 : ilen (mkRat n d).num ≤ ilen n := ilen_mono (mkRat_num_le n d hd)
  have h2 := dec_len_mono (mkRat_den_le n d hd)
  unfold rlen; omega
theorem ilen_num_le (q : Rat) : ilen q.num ≤ rlen q := Nat.le_max_left _ _
theorem den_len_le (q : Rat) : (decDigits q.den).length ≤ rlen q := Nat.le_max_right _ _
theorem ilen_natCast (n : Nat) : ilen (n : Int) = (decDigits n).length := by simp [ilen]
theorem rlen_pos (q : Rat) : 1 ≤ rlen q := Nat.le_trans (ilen_pos _) (ilen_num_le q)
theorem rlen_add (a b : Rat) : rlen (a + b) ≤ rlen a + rlen b + 1 := by
  rw [add_mkRat]
  have h := rlen_mkRat (a.num * b.den + b.num * a.den) (a.den * b.den) (Nat.mul_ne_zero a.den_nz b.den_nz)
  have h1 := ilen_add (a.num * b.den) (b.num * a.den)
  have h2 := ilen_mul a.num b.den
  have h3 := ilen_mul b.num a.den
  have h4 := dec_len_mul a.den b.den
  rw [ilen_natCast] at h2 h3
  have := ilen_num_le a; have := ilen_num_le b; have := den_len_le a; have := den_len_le b
  omega
theorem rlen_mul (a b : Rat) : rlen (a * b) ≤ rlen a + rlen b := by
  rw [mul_mkRat]
  have h := rlen_mkRat (a.num * b.num) (a.den * b.den) (Nat.mul_ne_zero a.den_nz b.den_nz)
  have h2 := ilen_mul a.num b.num
  have h4 := dec_len_mul a.den b.den
  have := ilen_num_le a; have := ilen_num_le b; have := den_len_le a; have := den_len_le b
  omega
theorem rlen_sub (a b : Rat) : rlen (a - b) ≤ rlen a + rlen b + 1 := by
  rw [Rat.sub_eq_add_neg]
  have := rlen_add a (-b)
  rw [rlen_neg] at this; exact this
theorem inv_parts {q : Rat} (h : q ≠ 0) : (q⁻¹).num = q.num.sign * q.den ∧ (q⁻¹).den = q.num.natAbs := by
  have h' : q.num ≠ 0 := by rwa [ne_eq, Rat.num_eq_zero]
  exact ⟨Rat.num_inv q, by rw [Rat.den_inv, if_neg h']⟩
theorem rlen_inv {q : Rat} (h : q ≠ 0) : rlen q⁻¹ = rlen q := by
  have h' : q.num ≠ 0 := by rwa [ne_eq, Rat.num_eq_zero]
  obtain ⟨h1, h2⟩ := inv_parts h
  unfold rlen
  have e : ilen (q.num.sign * q.den) = (decDigits q.den).length := by
    unfold ilen; rw [Int.natAbs_mul, Int.natAbs_sign_of_ne_zero h']; simp
  rw [h1, h2, e, Nat.max_comm]; rfl
theorem rlen_div (a : Rat) {b : Rat} (h : b ≠ 0) : rlen (a / b) ≤ rlen a + rlen b := by
  rw [Rat.div_def]
  have := rlen_mul a b⁻¹
  rwa [rlen_inv h] at this
theorem lt_iff_cross (a b : Rat) : a < b ↔ a.num * b.den < b.num * a.den := Rat.lt_iff a b
end Go.Proofs.Klp
/- Lists of digits in a base, the least one first: plain facts. -/
namespace Go.Proofs.Klp

/-- the number of a list of digits in base B, the least digit first -/
def val (B : Int) : List Int → Int
  | [] => 0
  | d :: l => d + B * val B l
def Dg (B : Int) (l : List Int) : Prop := ∀ d ∈ l, 0 ≤ d ∧ d < B
/-- digits without a zero at the end -/
def Can (B : Int) (l : List Int) : Prop := Dg B l ∧ l.getLast? ≠ some 0

theorem val_nil (B : Int) : val B [] = 0 := rfl
theorem val_cons (B d : Int) (l : List Int) : val B (d :: l) = d + B * val B l := rfl
theorem val_append (B : Int) (l m : List Int) : val B (l ++ m) = val B l + B ^ l.length * val B m := by
  induction l with
  | nil => simp [val_nil]
  | cons d l ih => rw [List.cons_append, val_cons, val_cons, ih, List.length_cons, Int.pow_succ]; grind
theorem val_snoc (B : Int) (l : List Int) (d : Int) : val B (l ++ [d]) = val B l + B ^ l.length * d := by
  rw [val_append, val_cons, val_nil]; grind
theorem getD_in {l : List Int} {k : Nat} (h : k < l.length) : l.getD k 0 = l[k] := by simp [List.getD, List.getElem?_eq_getElem h]
theorem getD_out {l : List Int} {k : Nat} (h : l.length ≤ k) : l.getD k 0 = 0 := by simp [List.getD, List.getElem?_eq_none h]
theorem Dg.nil (B : Int) : Dg B [] := by simp [Dg]
theorem Dg.append {B : Int} {l m : List Int} : Dg B (l ++ m) ↔ Dg B l ∧ Dg B m := by
  simp only [Dg, List.mem_append]
  exact ⟨fun h => ⟨fun c hc => h c (.inl hc), fun c hc => h c (.inr hc)⟩, fun h c hc => hc.elim (h.1 c) (h.2 c)⟩
theorem Dg.cons {B d : Int} {l : List Int} : Dg B (d :: l) ↔ (0 ≤ d ∧ d < B) ∧ Dg B l := by simp [Dg]
theorem Dg.snoc {B d : Int} {l : List Int} (h : Dg B l) (h0 : 0 ≤ d) (h1 : d < B) : Dg B (l ++ [d]) :=
  Dg.append.2 ⟨h, by simp [Dg]; omega⟩
theorem Dg.take {B : Int} {l : List Int} (h : Dg B l) (k : Nat) : Dg B (l.take k) := fun d hd => h d (List.mem_of_mem_take hd)
theorem Dg.drop {B : Int} {l : List Int} (h : Dg B l) (k : Nat) : Dg B (l.drop k) := fun d hd => h d (List.mem_of_mem_drop hd)
theorem Dg.at {B : Int} {l : List Int} (h : Dg B l) (k : Nat) (hk : k < l.length) : 0 ≤ l[k] ∧ l[k] < B := h _ (List.getElem_mem hk)
theorem Dg.getD {B : Int} {l : List Int} (hB : 0 < B) (h : Dg B l) (k : Nat) : 0 ≤ l.getD k 0 ∧ l.getD k 0 < B := by
  by_cases hk : k < l.length
  · rw [getD_in hk]; exact h.at k hk
  · rw [getD_out (by omega)]; omega
theorem Dg.set {B : Int} {l : List Int} (h : Dg B l) (k : Nat) {d : Int} (h0 : 0 ≤ d) (h1 : d < B) : Dg B (l.set k d) := fun x hx => by
  rcases List.mem_or_eq_of_mem_set hx with hx | rfl
  · exact h x hx
  · exact ⟨h0, h1⟩
theorem Dg.zeros {B : Int} (hB : 0 < B) (n : Nat) : Dg B (List.replicate n 0) := fun d hd => by
  rw [List.eq_of_mem_replicate hd]; omega
theorem pow_pos' {B : Int} (hB : 0 < B) (n : Nat) : 0 < B ^ n := Int.pow_pos hB
theorem val_bounds {B : Int} (hB : 0 < B) {l : List Int} (h : Dg B l) : 0 ≤ val B l ∧ val B l < B ^ l.length := by
  induction l with
  | nil => simp [val_nil]
  | cons d l ih =>
    obtain ⟨hd, hl⟩ := Dg.cons.1 h
    obtain ⟨h0, h1⟩ := ih hl
    rw [val_cons, List.length_cons, Int.pow_succ]
    have : 0 ≤ B * val B l := Int.mul_nonneg (by omega) h0
    have h2 : B * (val B l + 1) ≤ B * B ^ l.length := Int.mul_le_mul_of_nonneg_left (by omega) (by omega)
    rw [Int.mul_add] at h2
    have := Int.mul_comm (B ^ l.length) B
    omega
theorem val_replicate (B : Int) (n : Nat) : val B (List.replicate n 0) = 0 := by
  induction n with
  | zero => rfl
  | succ n ih => rw [List.replicate_succ, val_cons, ih]; simp
theorem take_succ' (l : List Int) (k : Nat) (hk : k < l.length) : l.take (k + 1) = l.take k ++ [l[k]] := List.take_succ_eq_append_getElem hk
theorem val_take_succ (B : Int) (l : List Int) (k : Nat) (hk : k < l.length) : val B (l.take (k + 1)) = val B (l.take k) + B ^ k * l.getD k 0 := by
  rw [take_succ' l k hk, val_snoc, List.length_take, Nat.min_eq_left (by omega), getD_in hk]
theorem val_take_over (B : Int) (l : List Int) (k : Nat) (hk : l.length ≤ k) : val B (l.take k) = val B l := by rw [List.take_of_length_le hk]
/-- also beyond the end: the digits there are zeros -/
theorem val_take_succ' (B : Int) (l : List Int) (k : Nat) : val B (l.take (k + 1)) = val B (l.take k) + B ^ k * l.getD k 0 := by
  by_cases hk : k < l.length
  · exact val_take_succ B l k hk
  · rw [val_take_over _ _ _ (by omega), val_take_over _ _ _ (by omega), getD_out (by omega)]; simp
theorem val_split (B : Int) (l : List Int) (k : Nat) (hk : k ≤ l.length) : val B l = val B (l.take k) + B ^ k * val B (l.drop k) := by
  have h := val_append B (l.take k) (l.drop k)
  rw [List.take_append_drop, List.length_take, Nat.min_eq_left hk] at h
  exact h
theorem val_drop (B : Int) (l : List Int) (k : Nat) (hk : k < l.length) : val B (l.drop k) = l.getD k 0 + B * val B (l.drop (k + 1)) := by
  rw [List.drop_eq_getElem_cons hk, val_cons, getD_in hk]
theorem val_set (B : Int) (l : List Int) (k : Nat) (d : Int) (hk : k < l.length) : val B (l.set k d) = val B l + B ^ k * (d - l.getD k 0) := by
  have h1 := val_split B (l.set k d) (k + 1) (by simp; omega)
  have h2 := val_split B l (k + 1) (by omega)
  have h3 := val_take_succ B (l.set k d) k (by simpa using hk)
  have h4 := val_take_succ B l k hk
  have h6 : (l.set k d).take k = l.take k := List.take_set_of_le (Nat.le_refl _)
  rw [h6] at h3
  rw [List.drop_set_of_lt (by omega)] at h1
  have h5 : (l.set k d).getD k 0 = d := by rw [getD_in (by simpa using hk)]; simp
  rw [h5] at h3
  rw [h1, h2, h3, h4]; grind
/-! ### canonical lists -/
theorem Can.nil (B : Int) : Can B [] := ⟨Dg.nil B, by simp⟩
theorem Can.low {B : Int} (hB : 0 < B) {l : List Int} (h : Can B l) (hl : l ≠ []) : B ^ (l.length - 1) ≤ val B l := by
  obtain ⟨t, c, rfl⟩ : ∃ t c, l = t ++ [c] := ⟨l.dropLast, l.getLast hl, (List.dropLast_concat_getLast hl).symm⟩
  have hc : c ≠ 0 := by have := h.2; simpa using this
  have h0 := h.1 c (by simp)
  have hv := (val_bounds hB (Dg.append.1 h.1).1).1
  rw [val_snoc, List.length_append, List.length_singleton, Nat.add_sub_cancel]
  have : B ^ t.length * 1 ≤ B ^ t.length * c := Int.mul_le_mul_of_nonneg_left (by omega) (Int.le_of_lt (pow_pos' hB _))
  omega
theorem Can.zero {B : Int} (hB : 0 < B) {l : List Int} (h : Can B l) : val B l = 0 ↔ l = [] := by
  refine ⟨fun e => ?_, fun e => by rw [e]; rfl⟩
  by_cases hl : l = []
  · exact hl
  · have := h.low hB hl
    have := pow_pos' hB (l.length - 1)
    omega
theorem pow_mono {B : Int} (hB : 1 ≤ B) {m n : Nat} (h : m ≤ n) : B ^ m ≤ B ^ n := by
  obtain ⟨k, rfl⟩ := Nat.exists_eq_add_of_le h
  rw [Int.pow_add]
  have h1 := pow_pos' (show 0 < B by omega) m
  have h2 := pow_pos' (show 0 < B by omega) k
  have : B ^ m * 1 ≤ B ^ m * B ^ k := Int.mul_le_mul_of_nonneg_left (by omega) (by omega)
  omega
theorem Can.lt_of_len {B : Int} (hB : 1 ≤ B) {l m : List Int} (hl : Dg B l) (hm : Can B m) (h : l.length < m.length) : val B l < val B m := by
  have h1 := (val_bounds (show 0 < B by omega) hl).2
  have hne : m ≠ [] := by intro e; rw [e] at h; simp at h
  have h2 := hm.low (show 0 < B by omega) hne
  have := pow_mono hB (show l.length ≤ m.length - 1 by omega)
  omega
/-- the first difference from the top decides -/
theorem lt_of_top {B : Int} (hB : 0 < B) {l m : List Int} (hl : Dg B l) (hm : Dg B m) (k : Nat) (h1 : k < l.length) (h2 : k < m.length)
    (ht : val B (l.drop (k + 1)) = val B (m.drop (k + 1))) (hk : l.getD k 0 < m.getD k 0) : val B l < val B m := by
  have e1 := val_split B l (k + 1) (by omega)
  have e2 := val_split B m (k + 1) (by omega)
  have e3 := val_take_succ B l k h1
  have e4 := val_take_succ B m k h2
  have b1 := val_bounds hB (hl.take k)
  have b2 := val_bounds hB (hm.take k)
  rw [List.length_take, Nat.min_eq_left (by omega)] at b1 b2
  have h5 : B ^ k * (l.getD k 0 + 1) ≤ B ^ k * m.getD k 0 := Int.mul_le_mul_of_nonneg_left (by omega) (Int.le_of_lt (pow_pos' hB _))
  rw [Int.mul_add] at h5
  rw [e1, e2, e3, e4, ht]
  omega
/-- a list with zeros at the end cut off -/
theorem can_take {B : Int} {l : List Int} (h : Dg B l) (k : Nat) (hk : k ≤ l.length) (h1 : k = 0 ∨ l.getD (k - 1) 0 ≠ 0) : Can B (l.take k) := by
  refine ⟨h.take k, ?_⟩
  rcases h1 with rfl | h1
  · simp
  · intro e
    apply h1
    rw [List.getLast?_eq_getElem?, List.length_take, Nat.min_eq_left hk] at e
    by_cases hk0 : k = 0
    · subst hk0; simp at e
    · rw [List.getElem?_take_of_lt (by omega)] at e
      simp [List.getD, e]
/-! ### division by a digit, and by estimates -/
theorem div_est {r b rh top P R : Int} (htop : 0 < top) (hP : 0 < P) (hb : top * P ≤ b) (hr : r < (rh + 1) * P) (h0 : 0 ≤ R) (hR : R * b ≤ r) : R ≤ rh / top := by
  have h1 : R * (top * P) ≤ R * b := Int.mul_le_mul_of_nonneg_left hb h0
  have h2 : (R * top) * P < (rh + 1) * P := by rw [Int.mul_assoc]; omega
  have h3 : R * top < rh + 1 := Int.lt_of_mul_lt_mul_right h2 (Int.le_of_lt hP)
  exact (Int.le_ediv_iff_mul_le htop).2 (by omega)
end Go.Proofs.Klp
/- Numbers as the program's strings. -/
namespace Go.Proofs.Klp
open Go.Lib (decDigits itoa)
/-- a string of bytes -/
def mkB (l : List UInt8) : ByteArray := ⟨l.toArray⟩
def rB (q : Rat) : ByteArray := mkB (ratT q)
def iB (n : Int) : ByteArray := mkB (itoa n)
theorem mkB_toList (l : List UInt8) : (mkB l).toList = l := ByteArray.toList_mk l
theorem mkB_data (l : List UInt8) : (mkB l).data.toList = l := rfl
theorem mkB_size (l : List UInt8) : (mkB l).size = l.length := rfl
theorem mkB_inj {l m : List UInt8} (h : mkB l = mkB m) : l = m := by rw [← mkB_data l, h, mkB_data]
theorem mkB_of (s : ByteArray) : mkB s.data.toList = s := rfl
theorem mkB_ext {s t : ByteArray} (h : s.data.toList = t.data.toList) : s = t := by rw [← mkB_of s, h, mkB_of]
theorem mkB_get (l : List UInt8) (k : Nat) (h : k < (mkB l).size) : (mkB l)[k] = l[k]'h := rfl
theorem mkB_append (l m : List UInt8) : mkB l ++ mkB m = mkB (l ++ m) := mkB_ext (by simp [mkB])
theorem mkB_extract (l : List UInt8) (a b : Nat) : (mkB l).extract a b = mkB ((l.take b).drop a) := mkB_ext (by simp [mkB, List.extract, List.drop_take])
theorem mkB_tail (l : List UInt8) : (mkB l).extract 1 (mkB l).size = mkB l.tail := by
  rw [mkB_extract, mkB_size, List.take_length, List.drop_one]

theorem rB_toList (q : Rat) : (rB q).toList = ratT q := mkB_toList _
theorem iB_toList (n : Int) : (iB n).toList = itoa n := mkB_toList _
theorem rB_data (q : Rat) : (rB q).data.toList = ratT q := rfl
theorem iB_data (n : Int) : (iB n).data.toList = itoa n := rfl
theorem rB_int (n : Int) : rB (n : Rat) = iB n := by unfold rB iB; rw [ratT_intCast]
theorem rB_inj {p q : Rat} (h : rB p = rB q) : p = q := ratT_inj (mkB_inj h)
theorem iB_inj {p q : Int} (h : iB p = iB q) : p = q := itoa_inj (mkB_inj h)
theorem rB_pos (q : Rat) : 0 < (rB q).size := List.length_pos_iff.2 (ratT_ne_nil q)
theorem iB_pos (n : Int) : 0 < (iB n).size := List.length_pos_iff.2 (itoa_ne_nil n)
theorem rB_size (q : Rat) : (rB q).size ≤ 2 * rlen q + 2 := ratT_len q
theorem iB_size (n : Int) : (iB n).size ≤ ilen n + 1 := itoa_len_le n
theorem ilen_le_size (n : Int) : ilen n ≤ (iB n).size := ilen_le_itoa n
theorem rlen_le_size (q : Rat) : rlen q ≤ (rB q).size := rlen_le_ratT q
theorem head?_zero (l : List UInt8) (h : 0 < (mkB l).size) : l.head? = some ((mkB l)[0]) := by
  cases l with
  | nil => exact absurd h (by simp [mkB_size])
  | cons c l => rfl
theorem rB_first (q : Rat) (h : 0 < (rB q).size) : (((rB q)[0].toNat : Int) == 45) = decide (q < 0) := by
  have e : (ratT q).head? = some ((rB q)[0]) := by
    exact head?_zero (ratT q) h
  by_cases hq : q < 0
  · have := ratT_head.2 hq
    rw [e] at this
    rw [Option.some.inj this]; simp [hq]
  · have h2 : (rB q)[0] ≠ 45 := fun x => hq (ratT_head.1 (by rw [e, x]))
    have h3 : ¬ ((rB q)[0].toNat : Int) = 45 := fun x => h2 (u8_ext (by show _ = 45; omega))
    simp [hq, h3]
theorem iB_first (n : Int) (h : 0 < (iB n).size) : (((iB n)[0].toNat : Int) == 45) = decide (n < 0) := by
  have e : (itoa n).head? = some ((iB n)[0]) := by
    exact head?_zero (itoa n) h
  by_cases hq : n < 0
  · have := itoa_head_neg.2 hq
    rw [e] at this
    rw [Option.some.inj this]; simp [hq]
  · have h2 : (iB n)[0] ≠ 45 := fun x => hq (itoa_head_neg.1 (by rw [e, x]))
    have h3 : ¬ ((iB n)[0].toNat : Int) = 45 := fun x => h2 (u8_ext (by show _ = 45; omega))
    simp [hq, h3]
theorem rB_is0 (q : Rat) : ((rB q).toList == [48]) = decide (q = 0) := by
  rw [rB_toList, Bool.eq_iff_iff]; simp [ratT_eq_zero]
theorem rB_is1 (q : Rat) : ((rB q).toList == [49]) = decide (q = 1) := by
  rw [rB_toList, Bool.eq_iff_iff]; simp [ratT_eq_one]
theorem iB_is0 (n : Int) : ((iB n).toList == [48]) = decide (n = 0) := by
  rw [iB_toList, Bool.eq_iff_iff]; simp [itoa_eq_zero]
theorem iB_is1 (n : Int) : ((iB n).toList == [49]) = decide (n = 1) := by
  rw [iB_toList, Bool.eq_iff_iff]; simp [itoa_eq_one]
theorem rB_eq (p q : Rat) : ((rB p).toList == (rB q).toList) = decide (p = q) := by
  rw [rB_toList, rB_toList, Bool.eq_iff_iff]; simp [ratT_eq]
theorem iB_eq (p q : Int) : ((iB p).toList == (iB q).toList) = decide (p = q) := by
  rw [iB_toList, iB_toList, Bool.eq_iff_iff]; simp
  exact ⟨itoa_inj, fun h => by rw [h]⟩
theorem rB_neg_tail {q : Rat} (h : q < 0) : (rB q).extract 1 (rB q).size = rB (-q) := by
  unfold rB; rw [mkB_tail, ratT_neg_of_neg h]; rfl
theorem rB_neg_add {q : Rat} (h : 0 < q) : mkB [45] ++ rB q = rB (-q) := by
  have : -q < 0 := by grind
  unfold rB; rw [mkB_append, ratT_neg_of_neg this, Rat.neg_neg]; rfl
theorem iB_neg_tail {n : Int} (h : n < 0) : (iB n).extract 1 (iB n).size = iB (-n) := by
  unfold iB; rw [mkB_tail, itoa_neg h, itoa_nonneg (by omega)]; simp
theorem iB_neg_add {n : Int} (h : 0 < n) : mkB [45] ++ iB n = iB (-n) := by
  unfold iB; rw [mkB_append, itoa_neg (show -n < 0 by omega), itoa_nonneg (by omega)]; simp
theorem rB_zero : rB 0 = mkB [48] := by unfold rB; rw [ratT_zero]
theorem rB_one : rB 1 = mkB [49] := by unfold rB; rw [ratT_one]
theorem iB_zero : iB 0 = mkB [48] := by unfold iB; rw [itoa_zero]
theorem iB_one : iB 1 = mkB [49] := by unfold iB; rw [itoa_one]
end Go.Proofs.Klp
/- Slices of whole numbers: how they are read, and rows of a call's own. -/
namespace Go.Proofs.Klp
open Go.RowKit

/-- digit k of a list -/
def dt (l : List Int) (k : Nat) : Int := l.getD k 0
/-- the slice (A, n, c) holds the numbers zs, of kind k -/
structure Rd (k : IntKind) (w : World) (A : Option Addr) (n c : Nat) (zs : List Int) : Prop where
  len : zs.length = n
  cap : n ≤ c
  cmax : c ≤ 9223372036854775807
  nilc : A = none → c = 0
  cell : 0 < n → ∃ b off, A = some ⟨b, off, none⟩ ∧ b < w.heap.size ∧ ∀ j, j < n → w.cell? ⟨b, off + j, none⟩ = some (.int k (dt zs j))
theorem Rd.below {k : IntKind} {w w' : World} {A : Option Addr} {n c : Nat} {zs : List Int} (h : Rd k w A n c zs) (hb : Below w.heap.size w w') : Rd k w' A n c zs where
  len := h.len
  cap := h.cap
  cmax := h.cmax
  nilc := h.nilc
  cell := fun hn => by
    obtain ⟨b, off, e, hlt, hc⟩ := h.cell hn
    exact ⟨b, off, e, Nat.lt_of_lt_of_le hlt hb.size, fun j hj => (hb.cell (p := ⟨b, off + j, none⟩) hlt).trans (hc j hj)⟩
theorem dt_take (zs : List Int) (m j : Nat) (h : j < m) : dt (zs.take m) j = dt zs j := by
  unfold dt; simp [List.getD, List.getElem?_take_of_lt h]
theorem Rd.take {k : IntKind} {w : World} {A : Option Addr} {n c : Nat} {zs : List Int} (h : Rd k w A n c zs) {m : Nat} (hm : m ≤ n) : Rd k w A m c (zs.take m) where
  len := by rw [List.length_take, h.len, Nat.min_eq_left hm]
  cap := Nat.le_trans hm h.cap
  cmax := h.cmax
  nilc := h.nilc
  cell := fun hn => by
    obtain ⟨b, off, e, hlt, hc⟩ := h.cell (by omega)
    exact ⟨b, off, e, hlt, fun j hj => by rw [dt_take _ _ _ hj]; exact hc j (by omega)⟩
/-- a row of the call's own reads as what it holds -/
theorem Rd.of_own {k : IntKind} {w : World} {base : Nat} {e : TypeId} {v : Value} {n : Nat} {zs : List Int} (h : w.ownsRow base e 1 v n (zs.map (Value.int k))) :
    ∃ A c, v = .slice A n c ∧ Rd k w A n c zs := by
  have hl : zs.length = n := by have := h.1; simpa using this
  rcases h.2 with ⟨rfl, h0⟩ | ⟨g, cap, cur, rfl, hb, hg, h1, h2, h3, h4⟩
  · subst h0; exact ⟨none, 0, rfl, hl, Nat.le_refl _, by omega, fun _ => rfl, fun h => by omega⟩
  · refine ⟨_, cap, rfl, hl, h1, h2, fun h => (by cases h), fun _ => ⟨g, 0, rfl, ?_, fun j hj => ?_⟩⟩
    · exact (Array.getElem?_eq_some_iff.1 hg).1
    · have := h.cellAt (g := g) (cap := cap) j (by omega)
      rw [Nat.zero_add, this]
      unfold dt
      rw [List.getElem?_map, List.getElem?_eq_getElem (by omega)]
      simp [List.getD, List.getElem?_eq_getElem (show j < zs.length by omega)]
theorem own_new {w : World} {base : Nat} {e : TypeId} {size : Nat} {v : Value} {n : Nat} {xs : List Value} (h : w.ownsRow base e size v n xs) : ∀ a n c, v = .slice (some a) n c → base ≤ a.block := by
  intro a n c hv
  rcases h.2 with ⟨rfl, _⟩ | ⟨g, cap, cur, rfl, hb, _⟩
  · cases hv
  · cases hv; exact hb
theorem app_below {w wr w2 : World} {e : TypeId} {size : Nat} {v : Value} {n : Nat} {xs : List Value} {O : Obj} (hB : Below w.heap.size w wr) (hrow : wr.ownsRow w.heap.size e size v n xs) (hg : (wr.alloc O).grownBy w2 v.ownBlock) : Below w.heap.size w w2 :=
  (hB.alloc hB.size O).grown hg (by have := hB.size; simp; omega) (fun k hk => (hrow.lt k hk).1)
theorem own_snoc {w : World} {base : Nat} {e : TypeId} {v : Value} {n : Nat} {k : IntKind} {zs : List Int} {x : Int} (h : w.ownsRow base e 1 v n (zs.map (Value.int k) ++ [Value.int k x])) : w.ownsRow base e 1 v n ((zs ++ [x]).map (Value.int k)) := by
  rw [List.map_append]; exact h

theorem uSU64 : Tryz.prog.underlying 162 = some (.slice 178) := by kernel_rfl
theorem infoU64 : (Tryz.prog.info? 178).map (fun i => (i.zero, i.size, i.bytes)) = some (some (.int .u64 0), 1, 8) := by kernel_rfl
noncomputable def iU64 : TypeInfo := (info_parts infoU64).choose
theorem iU64_at : Tryz.prog.info? 178 = some iU64 := (info_parts infoU64).choose_spec.1
theorem iU64_zero : iU64.zero = some (.int .u64 0) := (info_parts infoU64).choose_spec.2.1
theorem iU64_size : iU64.size = 1 := (info_parts infoU64).choose_spec.2.2.1
theorem iU64_bytes : iU64.bytes = 8 := (info_parts infoU64).choose_spec.2.2.2

/-- the value v is a slice with the digits (base 10^9) of x, at most N of them -/
def BigV (N : Nat) (w : World) (v : Value) (x : Int) : Prop :=
  ∃ A n c zs, v = .slice A n c ∧ Rd .u64 w A n c zs ∧ Can 1000000000 zs ∧ val 1000000000 zs = x ∧ n ≤ N
theorem BigV.below {N : Nat} {w w' : World} {v : Value} {x : Int} (h : BigV N w v x) (hb : Below w.heap.size w w') : BigV N w' v x := by
  obtain ⟨A, n, c, zs, e, hr, hc⟩ := h
  exact ⟨A, n, c, zs, e, hr.below hb, hc⟩
theorem BigV.nonneg {N : Nat} {w : World} {v : Value} {x : Int} (h : BigV N w v x) : 0 ≤ x := by
  obtain ⟨A, n, c, zs, e, hr, hc, rfl, _⟩ := h
  exact (val_bounds (by omega) hc.1).1
theorem BigV.mono {N M : Nat} {w : World} {v : Value} {x : Int} (h : BigV N w v x) (hm : N ≤ M) : BigV M w v x := by
  obtain ⟨A, n, c, zs, e, hr, hc, hv, hn⟩ := h
  exact ⟨A, n, c, zs, e, hr, hc, hv, Nat.le_trans hn hm⟩
theorem dt_bd {zs : List Int} (h : Dg 1000000000 zs) (k : Nat) : 0 ≤ dt zs k ∧ dt zs k ≤ 999999999 := by
  have := h.getD (by omega) k; unfold dt; omega
end Go.Proofs.Klp
/- Sums of magnitudes. -/
namespace Go.Proofs.Klp
open Go.RowKit

set_option maxHeartbeats 400000 in
theorem trim_any (A : Option Addr) (n c : Nat) (zs : List Int) (w : World) (hr : Rd .u64 w A n c zs) :
    Calls Tryz.prog 154 #[.slice A n c] w fun e w' => ∃ m, m ≤ n ∧ e = .returned (.slice A m c) ∧ val 1000000000 (zs.take m) = val 1000000000 zs ∧ (m = 0 ∨ zs.getD (m - 1) 0 ≠ 0) ∧ w = w' := by
  have hc1 := hr.cap
  have hc2 := hr.cmax
  have hlen := Lib.hid hr.len
  go_enter Tryz.func154, Tryz.ntmps154
  go_wp2
  go_loop [0] (fun p => ∃ m : Nat, m ≤ n ∧ p = .slice A m c ∧ Hid (val 1000000000 (zs.take m) = val 1000000000 zs)) (fun p => match p with | .slice _ m _ => m | _ => 0)
  case atStart => exact ⟨n, Nat.le_refl _, rfl, Lib.hid (by rw [← hlen.out, List.take_length])⟩
  case round =>
    obtain ⟨m, hm, rfl, hv⟩ := hrel
    by_cases h0 : 0 < m
    · obtain ⟨b, off, hA, hb, hcell⟩ := hr.cell (by omega)
      subst hA
      have hx := hcell (m - 1) (by omega)
      clear hcell hr
      by_cases hz : dt zs (m - 1) = 0
      · rw [hz] at hx
        have HZ := Lib.hid hz
        clear hz
        go_wp2
        exact ⟨⟨m - 1, by omega, rfl, Lib.hid (by
          have e := val_take_succ' 1000000000 zs (m - 1)
          rw [show m - 1 + 1 = m by omega] at e
          have h2 : zs.getD (m - 1) 0 = 0 := HZ.out
          rw [← hv.out, e, h2]; simp)⟩, by simp; omega⟩
      · have HZ := Lib.hid hz
        have hz2 : (dt zs (m - 1) == 0) = false := beq_eq_false_iff_ne.2 hz
        clear hz
        go_wp2
        go_ret
        exact ⟨m, hm, rfl, hv.out, .inr HZ.out, rfl⟩
    · obtain rfl : m = 0 := by omega
      go_wp2
      go_ret
      exact ⟨0, hm, rfl, hv.out, .inl rfl, rfl⟩

theorem plus_step (B : Int) (k : Nat) (zs xs ys : List Int) (cy x y : Int) (hl : zs.length = k) (h : val B zs + B ^ k * cy = val B (xs.take k) + val B (ys.take k))
    (e1 : val B (xs.take (k + 1)) = val B (xs.take k) + B ^ k * x) (e2 : val B (ys.take (k + 1)) = val B (ys.take k) + B ^ k * y) :
    val B (zs ++ [(cy + x + y) % B]) + B ^ (k + 1) * ((cy + x + y) / B) = val B (xs.take (k + 1)) + val B (ys.take (k + 1)) := by
  rw [val_snoc, hl, e1, e2, Int.pow_succ]
  have := Int.emod_add_mul_ediv (cy + x + y) B
  generalize (cy + x + y) % B = r at *
  generalize (cy + x + y) / B = q at *
  grind
theorem plus_step0 (B : Int) (k : Nat) (zs xs ys : List Int) (cy x : Int) (hl : zs.length = k) (h : val B zs + B ^ k * cy = val B (xs.take k) + val B (ys.take k))
    (e1 : val B (xs.take (k + 1)) = val B (xs.take k) + B ^ k * x) (e2 : val B (ys.take (k + 1)) = val B (ys.take k)) :
    val B (zs ++ [(cy + x) % B]) + B ^ (k + 1) * ((cy + x) / B) = val B (xs.take (k + 1)) + val B (ys.take (k + 1)) := by
  rw [val_snoc, hl, e1, e2, Int.pow_succ]
  have := Int.emod_add_mul_ediv (cy + x) B
  generalize (cy + x) % B = r at *
  generalize (cy + x) / B = q at *
  grind

set_option maxRecDepth 100000 in
set_option maxHeartbeats 2000000 in
theorem plus_ge (A1 : Option Addr) (n1 c1 : Nat) (xs : List Int) (A2 : Option Addr) (n2 c2 : Nat) (ys : List Int) (w : World) (hx : Rd .u64 w A1 n1 c1 xs) (hy : Rd .u64 w A2 n2 c2 ys) (hle : ¬ n1 < n2)
    (hxd : ∀ k, 0 ≤ dt xs k ∧ dt xs k ≤ 999999999) (hyd : ∀ k, 0 ≤ dt ys k ∧ dt ys k ≤ 999999999) (hn1 : n1 ≤ 1000000000) (hn2 : n2 ≤ 1000000000) :
    Calls Tryz.prog 136 #[.slice A1 n1 c1, .slice A2 n2 c2] w fun e w' => ∃ v, e = .returned v ∧ BigV (max n1 n2 + 1) w' v (val 1000000000 xs + val 1000000000 ys) ∧ Below w.heap.size w w' := by
  have hc1 := hx.cap
  have hc2 := hx.cmax
  obtain ⟨w1, hmk, hown, hg⟩ := run_make_own (P := Tryz.prog) w w.heap.size 162 178 iU64 (.int .u64 0) 1 uSU64 iU64_at iU64_zero iU64_size .i64 .i64 (n1 + 1) (by rw [iU64_bytes]; omega) (by unfold maxLen; omega) (Nat.le_refl _)
  rw [show ((n1 + 1 : Nat) : Int) = (n1 : Int) + 1 from by omega] at hmk
  go_enter Tryz.func136, Tryz.ntmps136
  go_wp2
  go_loopw [5, 6, 22] (fun v c i wr => ∃ (k : Nat) (cy : Int) (zs : List Int), k ≤ n1 ∧ i = .int .i64 k ∧ c = .int .u64 cy ∧ 0 ≤ cy ∧ cy ≤ 1 ∧ Hid (zs.length = k ∧ Dg 1000000000 zs ∧ val 1000000000 zs + 1000000000 ^ k * cy = val 1000000000 (xs.take k) + val 1000000000 (ys.take k)) ∧ wr.ownsRow w.heap.size 178 1 v k (zs.map (Value.int .u64)) ∧ Below w.heap.size w wr) (fun _ _ i _ => n1 - (intOf i).toNat)
  case atStart => exact ⟨0, 0, [], Nat.zero_le _, rfl, rfl, by omega, by omega, Lib.hid ⟨rfl, Dg.nil _, by simp [val_nil]⟩, hown, (Below.refl _ _).grown hg (Nat.le_refl _) (fun k e => by cases e)⟩
  case round =>
    obtain ⟨k, cy, zs, hk, rfl, rfl, h0, h1, hz, hrow, hB⟩ := hrel
    clear hmk hown hg
    by_cases hlt : k < n1
    · obtain ⟨b, off, hA, hb, hcell⟩ := hx.cell (by omega)
      subst hA
      have hxk := (hB.cell (p := ⟨b, off + k, none⟩) hb).trans (hcell k hlt)
      have bx := hxd k
      by_cases hk2 : k < n2
      · obtain ⟨b2, off2, hA2, hb2, hcell2⟩ := hy.cell (by omega)
        subst hA2
        have hyk := (hB.cell (p := ⟨b2, off2 + k, none⟩) hb2).trans (hcell2 k hk2)
        have bz := hyd k
        clear hcell hcell2
        go_wp2_with (at_builtin; refine wpList_append_own _ rfl _ _ 162 rfl w.heap.size 178 iU64 (.int .u64 0) 1 8 uSU64 iU64_at iU64_zero iU64_size iU64_bytes rfl (by decide) u5 _ _ rfl (hrow.alloc _) ⟨wr.heap.size, 0, none⟩ 1 1 [_] rfl rfl (cell_one_new _ _ _) (by simp [Value.oneCell']) (by unfold maxLen; omega) (by omega) (by have := hB.size; simp; omega) ?_; intro v' w2 hrow2 hgr _)
        go_roundw
        case rel => exact ⟨k + 1, _, zs ++ [_], by omega, by go_num, rfl, by omega, by omega, Lib.hid ⟨by simp [hz.out.1], hz.out.2.1.snoc (by omega) (by omega), plus_step _ _ _ _ _ _ _ _ hz.out.1 hz.out.2.2 (val_take_succ' _ _ _) (val_take_succ' _ _ _)⟩, own_snoc hrow2, app_below hB hrow hgr⟩
        case measure => simp [intOf]; omega
      · clear hcell
        go_wp2_with (at_builtin; refine wpList_append_own _ rfl _ _ 162 rfl w.heap.size 178 iU64 (.int .u64 0) 1 8 uSU64 iU64_at iU64_zero iU64_size iU64_bytes rfl (by decide) u5 _ _ rfl (hrow.alloc _) ⟨wr.heap.size, 0, none⟩ 1 1 [_] rfl rfl (cell_one_new _ _ _) (by simp [Value.oneCell']) (by unfold maxLen; omega) (by omega) (by have := hB.size; simp; omega) ?_; intro v' w2 hrow2 hgr _)
        go_roundw
        case rel => exact ⟨k + 1, _, zs ++ [_], by omega, by go_num, rfl, by omega, by omega, Lib.hid ⟨by simp [hz.out.1], hz.out.2.1.snoc (by omega) (by omega), plus_step0 _ _ _ _ _ _ _ hz.out.1 hz.out.2.2 (val_take_succ' _ _ _) ((val_take_over _ _ _ (by rw [hy.len]; omega)).trans (val_take_over _ _ _ (by rw [hy.len]; omega)).symm)⟩, own_snoc hrow2, app_below hB hrow hgr⟩
        case measure => simp [intOf]; omega
    · obtain rfl : k = n1 := by omega
      go_wp2_with (first | (at_builtin; refine wpList_append_own _ rfl _ _ 162 rfl w.heap.size 178 iU64 (.int .u64 0) 1 8 uSU64 iU64_at iU64_zero iU64_size iU64_bytes rfl (by decide) u5 _ _ rfl (hrow.alloc _) ⟨wr.heap.size, 0, none⟩ 1 1 [_] rfl rfl (cell_one_new _ _ _) (by simp [Value.oneCell']) (by unfold maxLen; omega) (by omega) (by have := hB.size; simp; omega) ?_; intro v' w2 hrow2 hgr _; obtain ⟨A, c, hv, hrd⟩ := Rd.of_own (own_snoc hrow2); rw [hv]) | (go_at_call 154; refine (trim_any _ _ _ _ _ hrd).mono ?_; rintro e w' ⟨m, hm, rfl, hmv, hmc, rfl⟩))
      go_ret
      exact ⟨_, rfl, ⟨A, m, c, _, rfl, hrd.take hm, can_take (hz.out.2.1.snoc (by omega) (by omega)) m (by rw [hrd.len]; exact hm) hmc, by rw [hmv, val_snoc, hz.out.1, hz.out.2.2, val_take_over _ _ _ (by rw [hx.len]; omega), val_take_over _ _ _ (by rw [hy.len]; omega)], by omega⟩, app_below hB hrow hgr⟩

set_option maxRecDepth 100000 in
set_option maxHeartbeats 2000000 in
theorem plus_lt (A1 : Option Addr) (n1 c1 : Nat) (xs : List Int) (A2 : Option Addr) (n2 c2 : Nat) (ys : List Int) (w : World) (hx : Rd .u64 w A1 n1 c1 xs) (hy : Rd .u64 w A2 n2 c2 ys) (hle : n1 < n2)
    (hxd : ∀ k, 0 ≤ dt xs k ∧ dt xs k ≤ 999999999) (hyd : ∀ k, 0 ≤ dt ys k ∧ dt ys k ≤ 999999999) (hn1 : n1 ≤ 1000000000) (hn2 : n2 ≤ 1000000000) :
    Calls Tryz.prog 136 #[.slice A1 n1 c1, .slice A2 n2 c2] w fun e w' => ∃ v, e = .returned v ∧ BigV (max n1 n2 + 1) w' v (val 1000000000 xs + val 1000000000 ys) ∧ Below w.heap.size w w' := by
  have hc1 := hy.cap
  have hc2 := hy.cmax
  obtain ⟨w1, hmk, hown, hg⟩ := run_make_own (P := Tryz.prog) w w.heap.size 162 178 iU64 (.int .u64 0) 1 uSU64 iU64_at iU64_zero iU64_size .i64 .i64 (n2 + 1) (by rw [iU64_bytes]; omega) (by unfold maxLen; omega) (Nat.le_refl _)
  rw [show ((n2 + 1 : Nat) : Int) = (n2 : Int) + 1 from by omega] at hmk
  go_enter Tryz.func136, Tryz.ntmps136
  go_wp2
  go_loopw [5, 6, 22] (fun v c i wr => ∃ (k : Nat) (cy : Int) (zs : List Int), k ≤ n2 ∧ i = .int .i64 k ∧ c = .int .u64 cy ∧ 0 ≤ cy ∧ cy ≤ 1 ∧ Hid (zs.length = k ∧ Dg 1000000000 zs ∧ val 1000000000 zs + 1000000000 ^ k * cy = val 1000000000 (ys.take k) + val 1000000000 (xs.take k)) ∧ wr.ownsRow w.heap.size 178 1 v k (zs.map (Value.int .u64)) ∧ Below w.heap.size w wr) (fun _ _ i _ => n2 - (intOf i).toNat)
  case atStart => exact ⟨0, 0, [], Nat.zero_le _, rfl, rfl, by omega, by omega, Lib.hid ⟨rfl, Dg.nil _, by simp [val_nil]⟩, hown, (Below.refl _ _).grown hg (Nat.le_refl _) (fun k e => by cases e)⟩
  case round =>
    obtain ⟨k, cy, zs, hk, rfl, rfl, h0, h1, hz, hrow, hB⟩ := hrel
    clear hmk hown hg
    by_cases hlt : k < n2
    · obtain ⟨b, off, hA, hb, hcell⟩ := hy.cell (by omega)
      subst hA
      have hxk := (hB.cell (p := ⟨b, off + k, none⟩) hb).trans (hcell k hlt)
      have bx := hyd k
      by_cases hk2 : k < n1
      · obtain ⟨b2, off2, hA2, hb2, hcell2⟩ := hx.cell (by omega)
        subst hA2
        have hyk := (hB.cell (p := ⟨b2, off2 + k, none⟩) hb2).trans (hcell2 k hk2)
        have bz := hxd k
        clear hcell hcell2
        go_wp2_with (at_builtin; refine wpList_append_own _ rfl _ _ 162 rfl w.heap.size 178 iU64 (.int .u64 0) 1 8 uSU64 iU64_at iU64_zero iU64_size iU64_bytes rfl (by decide) u5 _ _ rfl (hrow.alloc _) ⟨wr.heap.size, 0, none⟩ 1 1 [_] rfl rfl (cell_one_new _ _ _) (by simp [Value.oneCell']) (by unfold maxLen; omega) (by omega) (by have := hB.size; simp; omega) ?_; intro v' w2 hrow2 hgr _)
        go_roundw
        case rel => exact ⟨k + 1, _, zs ++ [_], by omega, by go_num, rfl, by omega, by omega, Lib.hid ⟨by simp [hz.out.1], hz.out.2.1.snoc (by omega) (by omega), plus_step _ _ _ _ _ _ _ _ hz.out.1 hz.out.2.2 (val_take_succ' _ _ _) (val_take_succ' _ _ _)⟩, own_snoc hrow2, app_below hB hrow hgr⟩
        case measure => simp [intOf]; omega
      · clear hcell
        go_wp2_with (at_builtin; refine wpList_append_own _ rfl _ _ 162 rfl w.heap.size 178 iU64 (.int .u64 0) 1 8 uSU64 iU64_at iU64_zero iU64_size iU64_bytes rfl (by decide) u5 _ _ rfl (hrow.alloc _) ⟨wr.heap.size, 0, none⟩ 1 1 [_] rfl rfl (cell_one_new _ _ _) (by simp [Value.oneCell']) (by unfold maxLen; omega) (by omega) (by have := hB.size; simp; omega) ?_; intro v' w2 hrow2 hgr _)
        go_roundw
        case rel => exact ⟨k + 1, _, zs ++ [_], by omega, by go_num, rfl, by omega, by omega, Lib.hid ⟨by simp [hz.out.1], hz.out.2.1.snoc (by omega) (by omega), plus_step0 _ _ _ _ _ _ _ hz.out.1 hz.out.2.2 (val_take_succ' _ _ _) ((val_take_over _ _ _ (by rw [hx.len]; omega)).trans (val_take_over _ _ _ (by rw [hx.len]; omega)).symm)⟩, own_snoc hrow2, app_below hB hrow hgr⟩
        case measure => simp [intOf]; omega
    · obtain rfl : k = n2 := by omega
      go_wp2_with (first | (at_builtin; refine wpList_append_own _ rfl _ _ 162 rfl w.heap.size 178 iU64 (.int .u64 0) 1 8 uSU64 iU64_at iU64_zero iU64_size iU64_bytes rfl (by decide) u5 _ _ rfl (hrow.alloc _) ⟨wr.heap.size, 0, none⟩ 1 1 [_] rfl rfl (cell_one_new _ _ _) (by simp [Value.oneCell']) (by unfold maxLen; omega) (by omega) (by have := hB.size; simp; omega) ?_; intro v' w2 hrow2 hgr _; obtain ⟨A, c, hv, hrd⟩ := Rd.of_own (own_snoc hrow2); rw [hv]) | (go_at_call 154; refine (trim_any _ _ _ _ _ hrd).mono ?_; rintro e w' ⟨m, hm, rfl, hmv, hmc, rfl⟩))
      go_ret
      exact ⟨_, rfl, ⟨A, m, c, _, rfl, hrd.take hm, can_take (hz.out.2.1.snoc (by omega) (by omega)) m (by rw [hrd.len]; exact hm) hmc, by rw [hmv, val_snoc, hz.out.1, hz.out.2.2, val_take_over _ _ _ (by rw [hy.len]; omega), val_take_over _ _ _ (by rw [hx.len]; omega)]; exact Int.add_comm _ _, by omega⟩, app_below hB hrow hgr⟩
end Go.Proofs.Klp
/- Differences of magnitudes. -/
namespace Go.Proofs.Klp
open Go.RowKit
theorem minus_step (B : Int) (k : Nat) (zs xs ys : List Int) (bo bo' x y d : Int) (hl : zs.length = k) (h : val B zs + val B (ys.take k) = val B (xs.take k) + B ^ k * bo)
    (e1 : val B (xs.take (k + 1)) = val B (xs.take k) + B ^ k * x) (e2 : val B (ys.take (k + 1)) = val B (ys.take k) + B ^ k * y) (hd : d = x + B * bo' - (bo + y)) :
    val B (zs ++ [d]) + val B (ys.take (k + 1)) = val B (xs.take (k + 1)) + B ^ (k + 1) * bo' := by
  rw [val_snoc, hl, e1, e2, Int.pow_succ, hd]; grind
theorem minus_end {B : Int} (hB : 0 < B) {zs xs ys : List Int} {bo : Int} (hd : Dg B zs) (hl : zs.length = xs.length) (h : val B zs + val B ys = val B xs + B ^ xs.length * bo) (h0 : 0 ≤ bo) (h1 : bo ≤ 1) (hle : val B ys ≤ val B xs) : val B zs = val B xs - val B ys := by
  have := (val_bounds hB hd).2
  rw [hl] at this
  have : bo = 0 ∨ bo = 1 := by omega
  rcases this with rfl | rfl <;> simp at h <;> omega

set_option maxRecDepth 100000 in
set_option maxHeartbeats 4000000 in
theorem minus_any (A1 : Option Addr) (n1 c1 : Nat) (xs : List Int) (A2 : Option Addr) (n2 c2 : Nat) (ys : List Int) (w : World) (hx : Rd .u64 w A1 n1 c1 xs) (hy : Rd .u64 w A2 n2 c2 ys) (hle : n2 ≤ n1)
    (hxd : ∀ k, 0 ≤ dt xs k ∧ dt xs k ≤ 999999999) (hyd : ∀ k, 0 ≤ dt ys k ∧ dt ys k ≤ 999999999) (hn1 : n1 ≤ 1000000000) (hvv : Hid (val 1000000000 ys ≤ val 1000000000 xs)) :
    Calls Tryz.prog 139 #[.slice A1 n1 c1, .slice A2 n2 c2] w fun e w' => ∃ v, e = .returned v ∧ BigV n1 w' v (val 1000000000 xs - val 1000000000 ys) ∧ (∀ a n c, v = .slice (some a) n c → w.heap.size ≤ a.block) ∧ Below w.heap.size w w' := by
  have hc1 := hx.cap
  have hc2 := hx.cmax
  obtain ⟨w1, hmk, hown, hg⟩ := run_make_own (P := Tryz.prog) w w.heap.size 162 178 iU64 (.int .u64 0) 1 uSU64 iU64_at iU64_zero iU64_size .i64 .i64 n1 (by rw [iU64_bytes]; omega) (by unfold maxLen; omega) (Nat.le_refl _)
  go_enter Tryz.func139, Tryz.ntmps139
  go_wp2
  go_loopw [5, 6, 15] (fun v c i wr => ∃ (k : Nat) (bo : Int) (zs : List Int), k ≤ n1 ∧ i = .int .i64 k ∧ c = .int .u64 bo ∧ 0 ≤ bo ∧ bo ≤ 1 ∧ Hid (zs.length = k ∧ Dg 1000000000 zs ∧ val 1000000000 zs + val 1000000000 (ys.take k) = val 1000000000 (xs.take k) + 1000000000 ^ k * bo) ∧ wr.ownsRow w.heap.size 178 1 v k (zs.map (Value.int .u64)) ∧ Below w.heap.size w wr) (fun _ _ i _ => n1 - (intOf i).toNat)
  case atStart => exact ⟨0, 0, [], Nat.zero_le _, rfl, rfl, by omega, by omega, Lib.hid ⟨rfl, Dg.nil _, by simp [val_nil]⟩, hown, (Below.refl _ _).grown hg (Nat.le_refl _) (fun k e => by cases e)⟩
  case round =>
    obtain ⟨k, bo, zs, hk, rfl, rfl, h0, h1, hz, hrow, hB⟩ := hrel
    clear hmk hown hg
    by_cases hlt : k < n1
    · obtain ⟨b, off, hA, hb, hcell⟩ := hx.cell (by omega)
      subst hA
      have hxk := (hB.cell (p := ⟨b, off + k, none⟩) hb).trans (hcell k hlt)
      have bx := hxd k
      by_cases hk2 : k < n2
      · obtain ⟨b2, off2, hA2, hb2, hcell2⟩ := hy.cell (by omega)
        subst hA2
        have hyk := (hB.cell (p := ⟨b2, off2 + k, none⟩) hb2).trans (hcell2 k hk2)
        have bz := hyd k
        clear hcell hcell2
        by_cases hc : dt xs k < bo + dt ys k
        · go_wp2_with (at_builtin; refine wpList_append_own _ rfl _ _ 162 rfl w.heap.size 178 iU64 (.int .u64 0) 1 8 uSU64 iU64_at iU64_zero iU64_size iU64_bytes rfl (by decide) u5 _ _ rfl (hrow.alloc _) ⟨wr.heap.size, 0, none⟩ 1 1 [_] rfl rfl (cell_one_new _ _ _) (by simp [Value.oneCell']) (by unfold maxLen; omega) (by omega) (by have := hB.size; simp; omega) ?_; intro v' w2 hrow2 hgr _)
          go_roundw
          case rel => exact ⟨k + 1, 1, zs ++ [_], by omega, by go_num, rfl, by omega, by omega, Lib.hid ⟨by simp [hz.out.1], hz.out.2.1.snoc (by omega) (by omega), minus_step _ _ _ _ _ bo 1 (dt xs k) (dt ys k) _ hz.out.1 hz.out.2.2 (val_take_succ' _ _ _) (val_take_succ' _ _ _) (by omega)⟩, own_snoc hrow2, app_below hB hrow hgr⟩
          case measure => simp [intOf]; omega
        · go_wp2_with (at_builtin; refine wpList_append_own _ rfl _ _ 162 rfl w.heap.size 178 iU64 (.int .u64 0) 1 8 uSU64 iU64_at iU64_zero iU64_size iU64_bytes rfl (by decide) u5 _ _ rfl (hrow.alloc _) ⟨wr.heap.size, 0, none⟩ 1 1 [_] rfl rfl (cell_one_new _ _ _) (by simp [Value.oneCell']) (by unfold maxLen; omega) (by omega) (by have := hB.size; simp; omega) ?_; intro v' w2 hrow2 hgr _)
          go_roundw
          case rel => exact ⟨k + 1, 0, zs ++ [_], by omega, by go_num, rfl, by omega, by omega, Lib.hid ⟨by simp [hz.out.1], hz.out.2.1.snoc (by omega) (by omega), minus_step _ _ _ _ _ bo 0 (dt xs k) (dt ys k) _ hz.out.1 hz.out.2.2 (val_take_succ' _ _ _) (val_take_succ' _ _ _) (by omega)⟩, own_snoc hrow2, app_below hB hrow hgr⟩
          case measure => simp [intOf]; omega
      · clear hcell
        have hov : val 1000000000 (ys.take (k + 1)) = val 1000000000 (ys.take k) + 1000000000 ^ k * 0 := by
          rw [val_take_over _ _ _ (by rw [hy.len]; omega), val_take_over _ _ _ (by rw [hy.len]; omega)]; simp
        have HOV := Lib.hid hov
        clear hov
        by_cases hc : dt xs k < bo
        · go_wp2_with (at_builtin; refine wpList_append_own _ rfl _ _ 162 rfl w.heap.size 178 iU64 (.int .u64 0) 1 8 uSU64 iU64_at iU64_zero iU64_size iU64_bytes rfl (by decide) u5 _ _ rfl (hrow.alloc _) ⟨wr.heap.size, 0, none⟩ 1 1 [_] rfl rfl (cell_one_new _ _ _) (by simp [Value.oneCell']) (by unfold maxLen; omega) (by omega) (by have := hB.size; simp; omega) ?_; intro v' w2 hrow2 hgr _)
          go_roundw
          case rel => exact ⟨k + 1, 1, zs ++ [_], by omega, by go_num, rfl, by omega, by omega, Lib.hid ⟨by simp [hz.out.1], hz.out.2.1.snoc (by omega) (by omega), minus_step _ _ _ _ _ bo 1 (dt xs k) 0 _ hz.out.1 hz.out.2.2 (val_take_succ' _ _ _) HOV.out (by omega)⟩, own_snoc hrow2, app_below hB hrow hgr⟩
          case measure => simp [intOf]; omega
        · go_wp2_with (at_builtin; refine wpList_append_own _ rfl _ _ 162 rfl w.heap.size 178 iU64 (.int .u64 0) 1 8 uSU64 iU64_at iU64_zero iU64_size iU64_bytes rfl (by decide) u5 _ _ rfl (hrow.alloc _) ⟨wr.heap.size, 0, none⟩ 1 1 [_] rfl rfl (cell_one_new _ _ _) (by simp [Value.oneCell']) (by unfold maxLen; omega) (by omega) (by have := hB.size; simp; omega) ?_; intro v' w2 hrow2 hgr _)
          go_roundw
          case rel => exact ⟨k + 1, 0, zs ++ [_], by omega, by go_num, rfl, by omega, by omega, Lib.hid ⟨by simp [hz.out.1], hz.out.2.1.snoc (by omega) (by omega), minus_step _ _ _ _ _ bo 0 (dt xs k) 0 _ hz.out.1 hz.out.2.2 (val_take_succ' _ _ _) HOV.out (by omega)⟩, own_snoc hrow2, app_below hB hrow hgr⟩
          case measure => simp [intOf]; omega
    · obtain rfl : k = n1 := by omega
      have hnew := own_new hrow
      obtain ⟨A, c, hv, hrd⟩ := Rd.of_own hrow
      subst hv
      go_wp2_with (go_at_call 154; refine (trim_any _ _ _ _ _ hrd).mono ?_; rintro e w' ⟨m, hm, rfl, hmv, hmc, rfl⟩)
      go_ret
      refine ⟨_, rfl, ⟨A, m, c, _, rfl, hrd.take hm, can_take hz.out.2.1 m (by rw [hrd.len]; exact hm) hmc, ?_, hm⟩, fun a n' c' e => by cases e; exact hnew _ _ _ rfl, hB⟩
      rw [hmv]
      have e := hz.out.2.2
      rw [val_take_over _ xs _ (by rw [hx.len]; omega), val_take_over _ ys _ (by rw [hy.len]; omega)] at e
      exact minus_end (by omega) hz.out.2.1 (hz.out.1.trans hx.len.symm) (by rw [hx.len]; exact e) h0 h1 hvv.out
end Go.Proofs.Klp
/- The order of magnitudes. -/
namespace Go.Proofs.Klp
open Go.RowKit
/-- -1, 0 or 1 -/
def cmpI (x y : Int) : Int := if x < y then -1 else if y < x then 1 else 0
theorem cmpI_lt {x y : Int} (h : x < y) : cmpI x y = -1 := if_pos h
theorem cmpI_gt {x y : Int} (h : y < x) : cmpI x y = 1 := by unfold cmpI; rw [if_neg (by omega), if_pos h]
theorem cmpI_eq {x y : Int} (h : x = y) : cmpI x y = 0 := by unfold cmpI; rw [if_neg (by omega), if_neg (by omega)]
theorem ret_i {k : IntKind} {a b : Int} (h : a = b) : Ending.returned (.int k a) = .returned (.int k b) := by rw [h]
theorem below_drewN {B : Nat} {w W : World} (h : Below B w W) (n : Nat) : Below B w (W.drewN n) := ⟨h.os, h.tape, h.output, h.size, h.block⟩

theorem order_step {B : Int} {xs ys : List Int} {m : Nat} (h : val B (xs.drop (m + 1)) = val B (ys.drop (m + 1))) (h1 : m < xs.length) (h2 : m < ys.length) (e : dt xs m = dt ys m) : val B (xs.drop m) = val B (ys.drop m) := by
  have e' : xs.getD m 0 = ys.getD m 0 := e
  rw [val_drop _ _ _ h1, val_drop _ _ _ h2, h, e']
set_option maxRecDepth 100000 in
set_option maxHeartbeats 2000000 in
theorem order_any (A1 : Option Addr) (n1 c1 : Nat) (xs : List Int) (A2 : Option Addr) (n2 c2 : Nat) (ys : List Int) (w : World) (hx : Rd .u64 w A1 n1 c1 xs) (hy : Rd .u64 w A2 n2 c2 ys)
    (hxc : Can 1000000000 xs) (hyc : Can 1000000000 ys) (hn1 : n1 ≤ 1000000000) (hn2 : n2 ≤ 1000000000) :
    Calls Tryz.prog 138 #[.slice A1 n1 c1, .slice A2 n2 c2] w fun e w' => e = .returned (.int .i64 (cmpI (val 1000000000 xs) (val 1000000000 ys))) ∧ ∃ nd, w' = w.drewN nd := by
  have hc1 := hx.cap
  have hc2 := hx.cmax
  by_cases hlt : n1 < n2
  · have hne : ((n1 : Int) == (n2 : Int)) = false := beq_eq_false_iff_ne.2 (by omega)
    go_enter Tryz.func138, Tryz.ntmps138
    go_wp2
    go_ret
    exact ⟨ret_i (cmpI_lt (hyc.lt_of_len (by omega) hxc.1 (by rw [hx.len, hy.len]; exact hlt))).symm, 0, rfl⟩
  by_cases hgt : n2 < n1
  · have hne : ((n1 : Int) == (n2 : Int)) = false := beq_eq_false_iff_ne.2 (by omega)
    go_enter Tryz.func138, Tryz.ntmps138
    go_wp2
    go_ret
    exact ⟨ret_i (cmpI_gt (hxc.lt_of_len (by omega) hyc.1 (by rw [hx.len, hy.len]; exact hgt))).symm, 0, rfl⟩
  obtain rfl : n1 = n2 := by omega
  have hlx := Lib.hid hx.len
  have hly := Lib.hid hy.len
  go_enter Tryz.func138, Tryz.ntmps138
  go_wp2
  go_loopw [5] (fun i wr => ∃ k : Nat, k ≤ n1 ∧ i = .int .i64 ((k : Int) - 1) ∧ Hid (val 1000000000 (xs.drop k) = val 1000000000 (ys.drop k)) ∧ ∃ nd, wr = w.drewN nd) (fun i _ => (intOf i + 1).toNat)
  case atStart => exact ⟨n1, Nat.le_refl _, rfl, Lib.hid (by rw [List.drop_of_length_le (by rw [hlx.out]; omega), List.drop_of_length_le (by rw [hly.out]; omega)]), 0, rfl⟩
  case round =>
    obtain ⟨k, hk, rfl, hv, nd, rfl⟩ := hrel
    by_cases h0 : 0 < k
    · obtain ⟨m, rfl⟩ : ∃ m, k = m + 1 := ⟨k - 1, by omega⟩
      rw [show (((m + 1 : Nat) : Int) - 1) = (m : Int) from by omega]
      obtain ⟨b, off, hA, hb, hcell⟩ := hx.cell (by omega)
      subst hA
      obtain ⟨b2, off2, hA2, hb2, hcell2⟩ := hy.cell (by omega)
      subst hA2
      have hxk := hcell m (by omega)
      have hyk := hcell2 m (by omega)
      clear hcell hcell2
      have hm1 : (m : Int) < (n1 : Int) := by omega
      by_cases he : dt xs m = dt ys m
      · have hx1 : ((dt xs m) == (dt ys m)) = true := beq_iff_eq.2 he
        have HE := Lib.hid he
        clear he
        go_wp2
        go_quiet (fail)
        go_wp2
        go_roundw
        case rel => exact ⟨m, by omega, by go_num, Lib.hid (order_step hv.out (by rw [hlx.out]; omega) (by rw [hly.out]; omega) HE.out), by first | exact ⟨_, rfl⟩ | exact ⟨_, World.drewN_drewN _ _ _⟩ | exact ⟨_, by rw [World.drewN_drewN, World.drewN_drewN]⟩⟩
        case measure => simp [intOf]
      · have hx1 : ((dt xs m) == (dt ys m)) = false := beq_eq_false_iff_ne.2 he
        go_wp2
        go_quiet (fail)
        go_wp2
        by_cases hl : dt xs m < dt ys m
        · go_quiet (fail)
          go_wp2
          go_ret
          exact ⟨ret_i (cmpI_lt (lt_of_top (by omega) hxc.1 hyc.1 m (by rw [hlx.out]; omega) (by rw [hly.out]; omega) hv.out hl)).symm, by first | exact ⟨_, rfl⟩ | exact ⟨_, World.drewN_drewN _ _ _⟩ | exact ⟨_, by rw [World.drewN_drewN, World.drewN_drewN]⟩⟩
        · go_quiet (fail)
          go_wp2
          go_ret
          exact ⟨ret_i (cmpI_gt (lt_of_top (by omega) hyc.1 hxc.1 m (by rw [hly.out]; omega) (by rw [hlx.out]; omega) hv.out.symm (show dt ys m < dt xs m by omega))).symm, by first | exact ⟨_, rfl⟩ | exact ⟨_, World.drewN_drewN _ _ _⟩ | exact ⟨_, by rw [World.drewN_drewN, World.drewN_drewN]⟩⟩
    · obtain rfl : k = 0 := by omega
      go_wp2
      go_ret
      exact ⟨ret_i (cmpI_eq (by simpa using hv.out)).symm, nd, rfl⟩
end Go.Proofs.Klp
/- Products of magnitudes. -/
namespace Go.Proofs.Klp
open Go.RowKit

theorem own_cell {k : IntKind} {w : World} {base g n c : Nat} {e : TypeId} {zs : List Int} (h : w.ownsRow base e 1 (.slice (some ⟨g, 0, none⟩) n c) n (zs.map (Value.int k))) (j : Nat) (hj : j < n) : w.cell? ⟨g, j, none⟩ = some (.int k (dt zs j)) := by
  have hl : zs.length = n := by have := h.1; simpa using this
  rw [h.cellAt j (by omega), List.getElem?_map, List.getElem?_eq_getElem (by omega)]
  unfold dt
  simp [List.getD, List.getElem?_eq_getElem (show j < zs.length by omega)]
theorem own_set {k : IntKind} {w : World} {base g n c : Nat} {e : TypeId} {zs : List Int} (h : w.ownsRow base e 1 (.slice (some ⟨g, 0, none⟩) n c) n (zs.map (Value.int k))) (j : Nat) (x : Int) :
    (w.setCell ⟨g, j, none⟩ (.int k x)).ownsRow base e 1 (.slice (some ⟨g, 0, none⟩) n c) n ((zs.set j x).map (Value.int k)) := by
  have := (h.stored j (.int k x)).1
  rwa [List.map_set]

/-- the digits of a product so far: out + carry at place i + k -/
theorem times_step (B : Int) (zs : List Int) (p : Nat) (cy t pre x y : Int) (hp : p < zs.length) (h : val B zs + B ^ p * cy = pre) (ht : t = cy + (dt zs p + x * y)) :
    val B (zs.set p (t % B)) + B ^ (p + 1) * (t / B) = pre + B ^ p * (x * y) := by
  rw [val_set B zs p _ hp, Int.pow_succ]
  have e := Int.emod_add_mul_ediv t B
  unfold dt at ht
  generalize t % B = r at *
  generalize t / B = q at *
  generalize zs.getD p 0 = z at *
  generalize B ^ p = Q at *
  grind

theorem times_mid (B : Int) (i k : Nat) (P x v y : Int) : P + B ^ i * (x * v) + B ^ (i + k) * (x * y) = P + B ^ i * (x * (v + B ^ k * y)) := by
  rw [Int.pow_add]; grind
theorem times_row (V W x P : Int) : V * W + P * (x * W) = (V + P * x) * W := by grind
theorem times_bound {B : Int} (hB : 1 ≤ B) {xs ys : List Int} {m n : Nat} (hx : Dg B xs) (hy : Dg B ys) (h1 : xs.length ≤ m) (h2 : ys.length ≤ n) : val B xs * val B ys < B ^ (m + n) := by
  have a := val_bounds (by omega) hx
  have b := val_bounds (by omega) hy
  have c := pow_mono hB h1
  have d := pow_mono hB h2
  have e := pow_pos' (show 0 < B by omega) m
  rw [Int.pow_add]
  have : val B xs * val B ys ≤ val B xs * B ^ n := Int.mul_le_mul_of_nonneg_left (by omega) a.1
  have : val B xs * B ^ n < B ^ m * B ^ n := Int.mul_lt_mul_of_pos_right (by omega) (pow_pos' (by omega) n)
  omega
theorem times_in {B : Int} (hB : 1 ≤ B) {us : List Int} {p m : Nat} {cy T : Int} (hu : Dg B us) (h : val B us + B ^ p * cy = T) (hT : T < B ^ m) (hcy : 0 < cy) : p < m := by
  by_cases hp : p < m
  · exact hp
  · have a := (val_bounds (by omega) hu).1
    have b := pow_mono hB (show m ≤ p by omega)
    have : B ^ p * 1 ≤ B ^ p * cy := Int.mul_le_mul_of_nonneg_left (by omega) (Int.le_of_lt (pow_pos' (by omega) p))
    omega
set_option maxRecDepth 100000 in
set_option maxHeartbeats 4000000 in
theorem times_any (A1 : Option Addr) (n1 c1 : Nat) (xs : List Int) (A2 : Option Addr) (n2 c2 : Nat) (ys : List Int) (w : World) (hx : Rd .u64 w A1 n1 c1 xs) (hy : Rd .u64 w A2 n2 c2 ys)
    (hxd : ∀ k, 0 ≤ dt xs k ∧ dt xs k ≤ 999999999) (hyd : ∀ k, 0 ≤ dt ys k ∧ dt ys k ≤ 999999999) (hn1 : n1 ≤ 1000000000) (hn2 : n2 ≤ 1000000000) (hxc : Can 1000000000 xs) (hyc : Can 1000000000 ys) :
    Calls Tryz.prog 140 #[.slice A1 n1 c1, .slice A2 n2 c2] w fun e w' => ∃ v, e = .returned v ∧ BigV (n1 + n2 + 1) w' v (val 1000000000 xs * val 1000000000 ys) ∧ Below w.heap.size w w' := by
  have hc1 := hx.cap
  have hc2 := hx.cmax
  have hc3 := hy.cap
  have hc4 := hy.cmax
  obtain ⟨w1, hmk, hown, hg⟩ := run_make_full (P := Tryz.prog) w w.heap.size 162 178 iU64 (.int .u64 0) 1 uSU64 iU64_at iU64_zero iU64_size .i64 .i64 (n1 + n2 + 1) (by rw [iU64_bytes]; omega) (by unfold maxLen; omega) (Nat.le_refl _)
  rw [show ((n1 + n2 + 1 : Nat) : Int) = (n1 : Int) + n2 + 1 from by omega] at hmk
  have hlx := Lib.hid hx.len
  have hly := Lib.hid hy.len
  go_enter Tryz.func140, Tryz.ntmps140
  go_wp2
  clear hmk
  go_loopw [21] (fun i wr => ∃ (k : Nat) (zs : List Int), k ≤ n1 ∧ i = .int .i64 k ∧ Hid (zs.length = n1 + n2 + 1 ∧ Dg 1000000000 zs ∧ val 1000000000 zs = val 1000000000 (xs.take k) * val 1000000000 ys) ∧ wr.ownsRow w.heap.size 178 1 (.slice (some ⟨w.heap.size, 0, none⟩) (n1 + n2 + 1) (n1 + n2 + 1)) (n1 + n2 + 1) (zs.map (Value.int .u64)) ∧ Below w.heap.size w wr ∧ w.heap.size < wr.heap.size) (fun i _ => n1 - (intOf i).toNat)
  case atStart =>
    refine ⟨0, List.replicate (n1 + n2 + 1) 0, Nat.zero_le _, rfl, Lib.hid ⟨by simp, Dg.zeros (by omega) _, by rw [val_replicate]; simp [val_nil]⟩, ?_, (Below.refl _ _).grown hg (Nat.le_refl _) (fun k e => by cases e), ?_⟩
    · rw [List.map_replicate, ← toList_madeCells_one]; rw [Nat.mul_one] at hown; exact hown
    · exact (hown.lt w.heap.size rfl).2
  case round =>
    obtain ⟨i, zs, hk, rfl, hz, hrow, hB, hsz⟩ := hrel
    clear hown hg
    by_cases hlt : i < n1
    · obtain ⟨b, off, hA, hb, hcell⟩ := hx.cell (by omega)
      subst hA
      have hxk := (hB.cell (p := ⟨b, off + i, none⟩) hb).trans (hcell i hlt)
      have bx := hxd i
      clear hcell
      go_wp2
      go_loopw [8, 28] (fun c kk wq => ∃ (k : Nat) (cy : Int) (us : List Int), k ≤ n2 ∧ kk = .int .i64 k ∧ c = .int .u64 cy ∧ 0 ≤ cy ∧ cy ≤ 999999999 ∧ Hid (us.length = n1 + n2 + 1 ∧ Dg 1000000000 us ∧ val 1000000000 us + 1000000000 ^ (i + k) * cy = val 1000000000 (xs.take i) * val 1000000000 ys + 1000000000 ^ i * (dt xs i * val 1000000000 (ys.take k))) ∧ wq.ownsRow w.heap.size 178 1 (.slice (some ⟨w.heap.size, 0, none⟩) (n1 + n2 + 1) (n1 + n2 + 1)) (n1 + n2 + 1) (us.map (Value.int .u64)) ∧ Below w.heap.size w wq ∧ w.heap.size < wq.heap.size) (fun _ kk _ => n2 - (intOf kk).toNat)
      case atStart => exact ⟨0, 0, zs, Nat.zero_le _, rfl, rfl, by omega, by omega, Lib.hid ⟨hz.out.1, hz.out.2.1, by rw [hz.out.2.2]; simp [val_nil]⟩, hrow, hB, hsz⟩
      case round =>
        obtain ⟨k, cy, us, hk2, rfl, rfl, h0, h1, hu, hrow2, hB2, hsz2⟩ := hrel
        clear hz hrow hB hxk hsz
        by_cases hlt2 : k < n2
        · obtain ⟨b2, off2, hA2, hb2, hcell2⟩ := hy.cell (by omega)
          subst hA2
          have hyk := (hB2.cell (p := ⟨b2, off2 + k, none⟩) hb2).trans (hcell2 k hlt2)
          have bz := hyd k
          clear hcell2
          have hok := own_cell hrow2 (i + k) (by omega)
          have hfz := hrow2.frozenAt (i + k)
          have bo : 0 ≤ dt us (i + k) ∧ dt us (i + k) ≤ 999999999 := dt_bd hu.out.2.1 _
          have bm : 0 ≤ dt xs i * dt ys k := Int.mul_nonneg bx.1 bz.1
          have bm2 : dt xs i * dt ys k ≤ 999999999 * 999999999 := Int.mul_le_mul bx.2 bz.2 bz.1 (by omega)
          go_wp2
          go_roundw
          case rel => exact ⟨k + 1, _, us.set (i + k) _, by omega, by go_num, rfl, by omega, by omega, Lib.hid ⟨by simp [hu.out.1], hu.out.2.1.set _ (by omega) (by omega), by
            rw [Nat.add_succ, times_step _ us (i + k) cy _ _ (dt xs i) (dt ys k) (by rw [hu.out.1]; omega) hu.out.2.2 rfl, val_take_succ']
            exact times_mid _ _ _ _ _ _ _⟩, own_set hrow2 _ _, hB2.setCell (p := ⟨w.heap.size, i + k, none⟩) (Nat.le_refl _) _, by simpa using hsz2⟩
          case measure => simp [intOf]; omega
        · obtain rfl : k = n2 := by omega
          go_wp2
          have hT : val 1000000000 us + 1000000000 ^ (i + k) * cy = val 1000000000 (xs.take (i + 1)) * val 1000000000 ys := by
            rw [hu.out.2.2, val_take_succ', val_take_over _ ys _ (by rw [hly.out]; omega)]; exact times_row _ _ _ _
          have HT := Lib.hid hT
          have HTB := Lib.hid (times_bound (B := 1000000000) (by omega) (hxc.1.take (i + 1)) hyc.1 (show (xs.take (i + 1)).length ≤ i + 1 by rw [List.length_take]; omega) (show ys.length ≤ k by rw [hly.out]; omega))
          clear hT
          go_loopw [8, 11] (fun c kk wq => ∃ (p : Nat) (cy : Int) (us : List Int), p ≤ n1 + k + 1 ∧ kk = .int .i64 p ∧ c = .int .u64 cy ∧ 0 ≤ cy ∧ cy ≤ 999999999 ∧ Hid (us.length = n1 + k + 1 ∧ Dg 1000000000 us ∧ val 1000000000 us + 1000000000 ^ p * cy = val 1000000000 (xs.take (i + 1)) * val 1000000000 ys) ∧ wq.ownsRow w.heap.size 178 1 (.slice (some ⟨w.heap.size, 0, none⟩) (n1 + k + 1) (n1 + k + 1)) (n1 + k + 1) (us.map (Value.int .u64)) ∧ Below w.heap.size w wq ∧ w.heap.size < wq.heap.size) (fun _ kk _ => n1 + k + 1 - (intOf kk).toNat)
          case atStart => exact ⟨i + k, cy, us, by omega, by go_num, rfl, h0, h1, Lib.hid ⟨hu.out.1, hu.out.2.1, HT.out⟩, hrow2, hB2, hsz2⟩
          case round =>
            obtain ⟨p, cy, us, hp, rfl, rfl, h0, h1, hu, hrow3, hB3, hsz3⟩ := hrel
            clear hrow2 hB2 hsz2
            by_cases hcy : 0 < cy
            · have hpl : p < n1 + k + 1 := by
                have := times_in (by omega) hu.out.2.1 hu.out.2.2 HTB.out hcy
                omega
              have hok := own_cell hrow3 p hpl
              have hfz := hrow3.frozenAt p
              have bo : 0 ≤ dt us p ∧ dt us p ≤ 999999999 := dt_bd hu.out.2.1 _
              go_wp2
              go_roundw
              case rel => exact ⟨p + 1, _, us.set p _, by omega, by go_num, rfl, by omega, by omega, Lib.hid ⟨by simp [hu.out.1], hu.out.2.1.set _ (by omega) (by omega), by
                rw [times_step _ us p cy (cy + dt us p) _ 0 0 (by rw [hu.out.1]; omega) hu.out.2.2 (by omega)]; simp⟩, own_set hrow3 _ _, hB3.setCell (p := ⟨w.heap.size, p, none⟩) (Nat.le_refl _) _, by simpa using hsz3⟩
              case measure => simp [intOf]; omega
            · obtain rfl : cy = 0 := by omega
              go_wp2
              go_roundw
              case rel => exact ⟨i + 1, us, by omega, by go_num, Lib.hid ⟨hu.out.1, hu.out.2.1, by have := hu.out.2.2; simpa using this⟩, hrow3, hB3, hsz3⟩
              case measure => simp [intOf]; omega
    · obtain rfl : i = n1 := by omega
      obtain ⟨A, c, hv, hrd⟩ := Rd.of_own hrow
      simp only [Value.slice.injEq] at hv
      obtain ⟨rfl, _, rfl⟩ := hv
      go_wp2_with (go_at_call 154; refine (trim_any _ _ _ _ _ hrd).mono ?_; rintro e w' ⟨m, hm, rfl, hmv, hmc, rfl⟩)
      go_ret
      refine ⟨_, rfl, ⟨_, m, _, _, rfl, hrd.take hm, can_take hz.out.2.1 m (by rw [hrd.len]; exact hm) hmc, ?_, hm⟩, hB⟩
      rw [hmv, hz.out.2.2, val_take_over _ xs _ (by rw [hlx.out]; omega)]
end Go.Proofs.Klp
/- A magnitude times one piece. -/
namespace Go.Proofs.Klp
open Go.RowKit

theorem rd_one {k : IntKind} (w : World) (d : Int) (e : TypeId) : Rd k (w.alloc (.cells #[.int k d] e)) (some ⟨w.heap.size, 0, none⟩) 1 1 [d] where
  len := rfl
  cap := Nat.le_refl _
  cmax := by omega
  nilc := fun h => by cases h
  cell := fun _ => ⟨w.heap.size, 0, rfl, by simp, fun j hj => by
    obtain rfl : j = 0 := by omega
    rw [World.cell?_alloc_at _ _ _ _ rfl]; rfl⟩
theorem one_bd {d : Int} (h0 : 0 ≤ d) (h1 : d ≤ 999999999) (k : Nat) : 0 ≤ dt [d] k ∧ dt [d] k ≤ 999999999 := by
  unfold dt
  cases k with
  | zero => exact ⟨h0, h1⟩
  | succ k => simp
theorem take_bd {zs : List Int} (h : ∀ k, 0 ≤ dt zs k ∧ dt zs k ≤ 999999999) (m k : Nat) : 0 ≤ dt (zs.take m) k ∧ dt (zs.take m) k ≤ 999999999 := by
  by_cases hk : k < m
  · rw [dt_take _ _ _ hk]; exact h k
  · unfold dt; rw [getD_out (by rw [List.length_take]; omega)]; omega
theorem dg_one {d : Int} (h0 : 0 ≤ d) (h1 : d ≤ 999999999) : Dg 1000000000 [d] := by simp [Dg]; omega

set_option maxRecDepth 100000 in
set_option maxHeartbeats 1000000 in
theorem small_any (A1 : Option Addr) (n1 c1 : Nat) (xs : List Int) (d : Int) (w : World) (hx : Rd .u64 w A1 n1 c1 xs) (hxc : Can 1000000000 xs)
    (h0 : 0 ≤ d) (h1 : d ≤ 999999999) (hn1 : n1 ≤ 100000000) :
    Calls Tryz.prog 164 #[.slice A1 n1 c1, .int .u64 d] w fun e w' => ∃ v, e = .returned v ∧ BigV (n1 + 2) w' v (val 1000000000 xs * d) ∧ Below w.heap.size w w' := by
  have hxd := dt_bd hxc.1
  have HXD := Lib.hid hxd
  have hr1 := rd_one (k := .u64) w d 178
  have hb1 : Below w.heap.size w (w.alloc (.cells #[.int .u64 d] 178)) := (Below.refl _ _).alloc (Nat.le_refl _) _
  clear hxd
  go_enter Tryz.func164, Tryz.ntmps164
  go_wp2_with fail
  refine (trim_any _ _ _ _ _ hr1).mono ?_
  rintro e w' ⟨m, hm, rfl, hmv, hmc, rfl⟩
  have HV := Lib.hid hmv
  clear hmv
  go_wp2_with fail
  refine (times_any _ _ _ _ _ _ _ _ _ (hx.below hb1) (hr1.take hm) HXD.out (take_bd (one_bd h0 h1) m) (by omega) (by omega) hxc (can_take (dg_one h0 h1) m (by simpa using hm) hmc)).mono ?_
  rintro e w2 ⟨v, rfl, hv, hb2⟩
  go_wp2
  go_ret
  refine ⟨v, rfl, ?_, hb1.trans (hb2.mono (by simp))⟩
  rw [HV.out] at hv
  have e : val 1000000000 [d] = d := by simp [val_cons, val_nil]
  rw [e] at hv
  exact hv.mono (by omega)
end Go.Proofs.Klp
/- slices.Backward over uint64. -/
namespace Go.Proofs.Klp
open Go.RowKit Go.Shelf
attribute [local go_sem] Oper.semAt_some

/-- an element of a list with its index -/
abbrev BkE (zs : List Int) := {p : Nat × Int // p.1 < zs.length ∧ p.2 = dt zs p.1}
/-- what slices.Backward yields -/
def bkL (zs : List Int) (k : Nat) : List (Nat × Int) := (List.range k).map fun j => (zs.length - 1 - j, dt zs (zs.length - 1 - j))
theorem bkL_succ (zs : List Int) (k : Nat) : bkL zs (k + 1) = bkL zs k ++ [(zs.length - 1 - k, dt zs (zs.length - 1 - k))] := by simp [bkL, List.range_succ]
theorem bkL_length (zs : List Int) (k : Nat) : (bkL zs k).length = k := by simp [bkL]
def bkV (zs : List Int) (pre : List (BkE zs)) : List (Nat × Int) := pre.map Subtype.val
theorem bkV_snoc (zs : List Int) (pre : List (BkE zs)) (x : BkE zs) : bkV zs (pre ++ [x]) = bkV zs pre ++ [x.1] := by simp [bkV]
theorem bkV_len (zs : List Int) (pre : List (BkE zs)) : (bkV zs pre).length = pre.length := by simp [bkV]
theorem bk_pre {zs : List Int} {pre : List (BkE zs)} {x : BkE zs} {k : Nat} (h : bkV zs (pre ++ [x]) = bkL zs k) : ∃ j, k = j + 1 ∧ bkV zs pre = bkL zs j ∧ x.1 = (zs.length - 1 - j, dt zs (zs.length - 1 - j)) := by
  have hl : pre.length + 1 = k := by
    have := congrArg List.length h
    rw [bkV_len, bkL_length] at this; simpa using this
  subst hl
  rw [bkV_snoc, bkL_succ] at h
  obtain ⟨h1, h2⟩ := List.append_inj' h rfl
  exact ⟨_, rfl, h1, by simpa using h2⟩

/-- what a round keeps: what lies below n₀, and the box of the slice -/
def KpB (n₀ Bs : Nat) (W W' : World) : Prop := Below n₀ W W' ∧ ∀ v, W.cell? ⟨Bs, 0, none⟩ = some v → W'.cell? ⟨Bs, 0, none⟩ = some v
theorem KpB.t {n₀ Bs : Nat} {A B C : World} (h : KpB n₀ Bs A B) (k : KpB n₀ Bs B C) : KpB n₀ Bs A C := ⟨h.1.trans k.1, fun v hv => k.2 v (h.2 v hv)⟩
theorem KpB.b {w : World} {n₀ Bs : Nat} (h : n₀ ≤ w.heap.size) (W : World) (l : Nat) (o o' : Obj) (hl : w.heap.size ≤ l) (ho : W.heap[l]? = some o) (hc : o.isCells = false) (hw : o.isWalk = false) : KpB n₀ Bs W (W.putObj l o') :=
  ⟨belowK_b h W l o o' hl ho hc hw, fun v hv => cell_kept hv (grownBy_putObj' W l o') (fun r e => by cases e; exact ⟨o, ho, hc⟩)⟩

set_option maxRecDepth 100000 in
set_option maxHeartbeats 2000000 in
theorem backw1_in (F : Fence) (n : Nat) (h7 : F.fn 177) (hro : F.round = none) (hn : 1 ≤ n) (l Bs n₀ b off len cap : Nat) (zs : List Int) (hzl : zs.length = len) (hreach : len ≤ 10000000000) (hb : b < n₀) (J Jx : List (BkE zs) → World → Prop)
    (hY : ∀ pre x W, J pre W → pre.length < len → YieldAt F (n - 1) Tryz.prog l #[.int .i64 (x.1.1 : Nat), .int .u64 x.1.2] W fun e W' =>
      (e = .returned (.bool true) ∧ J (pre ++ [x]) W' ∧ KpB n₀ Bs W W') ∨ (e = .returned (.bool false) ∧ Jx (pre ++ [x]) W'))
    (W : World) (hBs : W.cell? ⟨Bs, 0, none⟩ = some (.slice (some ⟨b, off, none⟩) len cap)) (hc : ∀ j, j < len → W.cell? ⟨b, off + j, none⟩ = some (.int .u64 (dt zs j))) (h0 : J [] W) :
    CallsIn F n Tryz.prog 177 #[.func (.yield l) #[] #[], .pointer (some ⟨Bs, 0, none⟩)] W fun e W' => (∃ v, e = .returned v) ∧
      ((∃ ys, bkV zs ys = bkL zs len ∧ J ys W') ∨ (∃ pre, Jx pre W')) := by
  refine callsIn_of_wp Tryz.func177 rfl h7 ?_ hro
  simp only [Tryz.ntmps177, List.size_toArray, List.length_cons, List.length_nil, Nat.reduceAdd, Nat.reduceSub, Array.replicate_succ, Array.replicate_zero, List.push_toArray, List.append_toArray, List.nil_append, List.cons_append]
  have HZL := Lib.hid hzl
  clear hzl
  gi_wp2
  gi_loopw [3] (fun i wr => ∃ (k : Nat) (pre : List (BkE zs)), k ≤ len ∧ i = .int .i64 ((k : Int) - 1) ∧ Hid (bkV zs pre = bkL zs (len - k)) ∧ J pre wr ∧ KpB n₀ Bs W wr)
    (fun i _ => (intOf i + 1).toNat)
  case atStart => exact ⟨len, [], Nat.le_refl _, rfl, Lib.hid (by simp [bkV, bkL]), h0, Below.refl _ _, fun _ h => h⟩
  case round =>
    obtain ⟨k, pre, hk, rfl, hpre, hJs, hnx⟩ := hrel
    by_cases hlt : 0 < k
    · obtain ⟨m, rfl⟩ : ∃ m, k = m + 1 := ⟨k - 1, by omega⟩
      rw [show (((m + 1 : Nat) : Int) - 1) = (m : Int) from by omega]
      have hcx := (hnx.1.cell (p := ⟨b, off + m, none⟩) hb).trans (hc m (by omega))
      have hbx := hnx.2 _ hBs
      have hpl : pre.length = len - (m + 1) := by rw [← bkV_len, hpre.out, bkL_length]
      have HPL := Lib.hid hpl
      clear hpl
      obtain ⟨fn, tmps, assign, body, hy, hR⟩ := hY pre ⟨(m, dt zs m), by rw [HZL.out]; omega, rfl⟩ wr hJs (by rw [HPL.out]; omega)
      dsimp only at hy
      clear hc hBs
      gi_wp2
      refine hR.mono ?_
      rintro e W3 (⟨rfl, hJ3, hk3⟩ | ⟨rfl, hJx3⟩)
      · gi_wp2
        go_roundw
        case rel => exact ⟨m, _, by omega, by go_num, Lib.hid (by
          have e2 : zs.length - 1 - (len - (m + 1)) = m := by have := HZL.out; omega
          rw [bkV_snoc, hpre.out, show len - m = len - (m + 1) + 1 by omega, bkL_succ, e2]), hJ3, hnx.t hk3⟩
        case measure => simp [intOf]
      · gi_wp2
        refine bodyPost_ret (results_none rfl _ _ _) rfl ?_
        exact ⟨⟨_, rfl⟩, .inr ⟨_, hJx3⟩⟩
    · obtain rfl : k = 0 := by omega
      gi_wp2
      go_end0
      exact ⟨⟨_, rfl⟩, .inl ⟨pre, by rw [hpre.out]; rfl, hJs⟩⟩

set_option maxRecDepth 100000 in
set_option maxHeartbeats 1000000 in
/-- no element: no round -/
theorem backw0_in (F : Fence) (n : Nat) (h7 : F.fn 177) (hro : F.round = none) (l Bs : Nat) (A : Option Addr) (cap : Nat) (J : List (BkE []) → World → Prop) (W : World) (hBs : W.cell? ⟨Bs, 0, none⟩ = some (.slice A 0 cap)) (h0 : J [] W) :
    CallsIn F n Tryz.prog 177 #[.func (.yield l) #[] #[], .pointer (some ⟨Bs, 0, none⟩)] W fun e W' => (∃ v, e = .returned v) ∧ J [] W' := by
  refine callsIn_of_wp Tryz.func177 rfl h7 ?_ hro
  simp only [Tryz.ntmps177, List.size_toArray, List.length_cons, List.length_nil, Nat.reduceAdd, Nat.reduceSub, Array.replicate_succ, Array.replicate_zero, List.push_toArray, List.append_toArray, List.nil_append, List.cons_append]
  gi_wp2
  gi_loopw [3] (fun i wr => i = .int .i64 (-1) ∧ J [] wr) (fun _ _ => 0)
  case atStart => exact ⟨rfl, h0⟩
  case round =>
    obtain ⟨rfl, hJs⟩ := hrel
    gi_wp2
    go_end0
    exact ⟨⟨_, rfl⟩, hJs⟩

set_option maxHeartbeats 1000000 in
/-- slices.Backward(s): the slice is boxed, and captured -/
theorem backw_in (F : Fence) (n : Nat) (h5 : F.fn 156) (hro : F.round = none) (a : Option Addr) (len cap : Nat) (w : World) :
    CallsIn F n Tryz.prog 156 #[.slice a len cap] w fun e w' => e = .returned (.func (.func 177) #[] #[.pointer (some ⟨w.heap.size, 0, none⟩)]) ∧ w' = w.alloc (.cells #[.slice a len cap] 162) := by
  refine callsIn_of_wp Tryz.func156 rfl h5 ?_ hro
  simp only [Tryz.ntmps156, List.size_toArray, List.length_cons, List.length_nil, Nat.reduceAdd, Nat.reduceSub, Array.replicate_succ, Array.replicate_zero, List.push_toArray, List.append_toArray, List.nil_append, List.cons_append]
  gi_wp2
  go_ret
  exact ⟨rfl, rfl⟩

theorem backw_stops (F : Fence) (n : Nat) (h7 : F.fn 177) (hro : F.round = none) (hn : 1 ≤ n) (Bs n₀ : Nat) (A : Option Addr) (len cap : Nat) (zs : List Int) (hreach : len ≤ 10000000000) (w : World) (hBs : Bs < w.heap.size)
    (hc : w.cell? ⟨Bs, 0, none⟩ = some (.slice A len cap)) (hI : Rd .u64 w A len cap zs) (hbl : ∀ b off, A = some ⟨b, off, none⟩ → b < n₀) :
    SeqStopsK F n Tryz.prog 177 #[.pointer (some ⟨Bs, 0, none⟩)] (fun x : BkE zs => #[Value.int .i64 (x.1.1 : Nat), .int .u64 x.1.2]) (KpB n₀ Bs) (fun ys => bkV zs ys = bkL zs len) (fun _ => True) len w := fun l J Jx W hW _ _ hY h0 => by
  have hc' := (hW.cell (p := ⟨Bs, 0, none⟩) hBs).trans hc
  have hI' := hI.below hW
  by_cases hz : 0 < len
  · obtain ⟨b, off, hA, hb, hcs⟩ := hI'.cell hz
    subst hA
    refine (backw1_in F n h7 hro hn l Bs n₀ b off len cap zs hI.len hreach (hbl _ _ rfl) J Jx hY W hc' hcs h0).mono ?_
    rintro e W' ⟨he, ⟨ys, hys, hj⟩ | ⟨pre, hj⟩⟩
    · exact ⟨he, .inl ⟨ys, hys, hj⟩⟩
    · exact ⟨he, .inr ⟨pre, trivial, hj⟩⟩
  · obtain rfl : len = 0 := by omega
    have : zs = [] := List.eq_nil_of_length_eq_zero hI.len
    subst this
    exact (backw0_in F n h7 hro l Bs A cap J W hc' h0).mono fun e W' ⟨he, hj⟩ => ⟨he, .inl ⟨[], rfl, hj⟩⟩
end Go.Proofs.Klp
