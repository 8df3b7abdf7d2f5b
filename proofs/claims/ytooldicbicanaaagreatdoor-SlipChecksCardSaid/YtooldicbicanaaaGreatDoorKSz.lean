/- How great numerators and denominators become. -/
import Derived.Test.YtooldicbicanaaaGreatDoorKLawSb
namespace Go.Proofs.Klp
open Go.RowKit Go.Shelf
open Go.Lib (decDigits itoa)

/-- the numerator has at most a digits (about), the denominator b -/
def Sz (q : Rat) (a b : Nat) : Prop := q.num.natAbs ≤ 10 ^ a ∧ q.den ≤ 10 ^ b
theorem Sz.mono {q : Rat} {a b c d : Nat} (h : Sz q a b) (hc : a ≤ c) (hd : b ≤ d) : Sz q c d :=
  ⟨Nat.le_trans h.1 (Nat.pow_le_pow_right (by decide) hc), Nat.le_trans h.2 (Nat.pow_le_pow_right (by decide) hd)⟩
theorem Sz.mkRat {n : Int} {k a b : Nat} (hk : k ≠ 0) (hn : n.natAbs ≤ 10 ^ a) (hd : k ≤ 10 ^ b) : Sz (mkRat n k) a b :=
  ⟨Nat.le_trans (mkRat_num_le n k hk) hn, Nat.le_trans (mkRat_den_le n k hk) hd⟩
theorem Sz.add {p q : Rat} {a b c d : Nat} (h : Sz p a b) (k : Sz q c d) : Sz (p + q) (max (a + d) (c + b) + 1) (b + d) := by
  rw [add_mkRat]
  refine Sz.mkRat (Nat.mul_ne_zero p.den_nz q.den_nz) ?_ ?_
  · have h1 : (p.num * q.den).natAbs ≤ 10 ^ (a + d) := by
      rw [Int.natAbs_mul, Nat.pow_add]; exact Nat.mul_le_mul h.1 (by simpa using k.2)
    have h2 : (q.num * p.den).natAbs ≤ 10 ^ (c + b) := by
      rw [Int.natAbs_mul, Nat.pow_add]; exact Nat.mul_le_mul k.1 (by simpa using h.2)
    have h3 : 10 ^ (a + d) ≤ 10 ^ max (a + d) (c + b) := Nat.pow_le_pow_right (by decide) (Nat.le_max_left _ _)
    have h4 : 10 ^ (c + b) ≤ 10 ^ max (a + d) (c + b) := Nat.pow_le_pow_right (by decide) (Nat.le_max_right _ _)
    have h5 := Int.natAbs_add_le (p.num * q.den) (q.num * p.den)
    rw [Nat.pow_succ]
    omega
  · rw [Nat.pow_add]; exact Nat.mul_le_mul h.2 k.2
theorem Sz.neg {q : Rat} {a b : Nat} (h : Sz q a b) : Sz (-q) a b := ⟨by rw [Rat.neg_num, Int.natAbs_neg]; exact h.1, by rw [Rat.neg_den]; exact h.2⟩
theorem Sz.zero : Sz 0 0 0 := ⟨by decide, by decide⟩
theorem Sz.rlen {q : Rat} {a b : Nat} (h : Sz q a b) (ha : a ≤ 199) (hb : b ≤ 199) : rlen q ≤ 200 := by
  obtain ⟨h1, h2⟩ := h.mono ha hb
  have h3 : (10 : Nat) ^ 199 < 10 ^ 200 := Nat.pow_lt_pow_right (by decide) (by decide)
  have k1 : ilen q.num ≤ 200 := (dec_len_le (by decide)).2 (Nat.lt_of_le_of_lt h1 h3)
  have k2 : (decDigits q.den).length ≤ 200 := (dec_len_le (by decide)).2 (Nat.lt_of_le_of_lt h2 h3)
  unfold Klp.rlen; omega
theorem Sz.ok {q : Rat} {a b : Nat} (h : Sz q a b) (ha : a ≤ 199) (hb : b ≤ 199) : okR (rB q) = true := okR_of (h.rlen ha hb)
theorem rlen_of8 {q : Rat} (h : (rB q).size ≤ 8) : Klp.rlen q ≤ 20 := Nat.le_trans (rlen_le_size q) (by omega)
theorem lgV_false {v : Tri} (h : lgV v = false) : v.1.size ≤ 8 ∧ v.2.1.size ≤ 8 ∧ v.2.2.size ≤ 8 := by
  unfold lgV at h
  have := of_decide_eq_false h
  omega
/-- a right vector's numbers -/
theorem okV_rB {x y z : ByteArray} (h : okV (x, y, z) = true) : ∃ p q r : Rat, x = rB p ∧ y = rB q ∧ z = rB r := by
  unfold okV at h
  simp only [Bool.and_eq_true] at h
  obtain ⟨p, e1, _⟩ := okR_rB h.1
  obtain ⟨q, e2, _⟩ := okR_rB h.2.1
  obtain ⟨r, e3, _⟩ := okR_rB h.2.2
  exact ⟨p, q, r, e1, e2, e3⟩
end Go.Proofs.Klp
