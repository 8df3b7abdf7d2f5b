/- The reference's integers: products, quotients, greatest common divisors. -/
import Derived.Test.YtooldicbicanaaaGreatDoorKI
namespace Go.Proofs.Klp
open Go.RowKit
open Go.Lib (decDigits itoa)

set_option maxRecDepth 100000 in
set_option maxHeartbeats 4000000 in
theorem r01_mul (a b : Int) (w : World) (hE : Env w) (ha : ilen a ≤ 100000) (hb : ilen b ≤ 100000) : Calls Tryz.prog 73 #[.string (iB a), .string (iB b)] w (Ret w (.string (iB (a * b)))) := by
  have hU := Up.refl w
  have sza := dec_size a
  have szb := dec_size b
  obtain ⟨ma, hma⟩ : ∃ m, decide (a < 0) = m := ⟨_, rfl⟩
  obtain ⟨mb, hmb⟩ : ∃ m, decide (b < 0) = m := ⟨_, rfl⟩
  have hsa := ref_split a
  have hsb := ref_split b
  have hsg := mul_sgn a b
  rw [hma] at hsa hsg
  rw [hmb] at hsb hsg
  have HSG := Lib.hid hsg
  have hLA := Lib.hid (abs_len a)
  have hLB := Lib.hid (abs_len b)
  clear hma hmb hsg
  by_cases hq : ilen a + ilen b ≤ 18
  · have h1 := abs_lt (n := a) (ilen_pos a) (Nat.le_refl _)
    have h2 := abs_lt (n := b) (ilen_pos b) (Nat.le_refl _)
    have h3 : (a * b).natAbs < 1000000000000000000 := by
      rw [Int.natAbs_mul]
      refine Nat.lt_of_lt_of_le (Nat.mul_lt_mul'' h1 h2) ?_
      rw [← Nat.pow_add]
      exact Nat.pow_le_pow_right (by decide) hq
    clear h1 h2
    go_enter Tryz.func73, Tryz.ntmps73
    go_wp2_with fail
    refine (hsa _).mono ?_
    rintro _ _ ⟨rfl, hX⟩; replace hU := Up.trans hU hX; replace hE := Env.up hE hX; clear hX
    go_wp2_with fail
    refine (hsb _).mono ?_
    rintro _ _ ⟨rfl, hX⟩; replace hU := Up.trans hU hX; replace hE := Env.up hE hX; clear hX
    go_wp2_with fail
    refine (r01_small a _ (by omega)).mono ?_
    rintro _ _ ⟨rfl, hX⟩; replace hU := Up.trans hU hX; replace hE := Env.up hE hX; clear hX
    go_wp2_with fail
    refine (r01_small b _ (by omega)).mono ?_
    rintro _ _ ⟨rfl, hX⟩; replace hU := Up.trans hU hX; replace hE := Env.up hE hX; clear hX
    go_wp2_with fail
    refine (r01_of (a * b) _ hE (by omega) (by omega)).mono ?_
    rintro _ _ ⟨rfl, hX⟩; replace hU := Up.trans hU hX; clear hX
    go_wp2
    go_ret
    exact ⟨rfl, hU⟩
  · go_enter Tryz.func73, Tryz.ntmps73
    go_wp2_with fail
    refine (hsa _).mono ?_
    rintro _ _ ⟨rfl, hX⟩; replace hU := Up.trans hU hX; replace hE := Env.up hE hX; clear hX
    go_wp2_with fail
    refine (hsb _).mono ?_
    rintro _ _ ⟨rfl, hX⟩; replace hU := Up.trans hU hX; replace hE := Env.up hE hX; clear hX
    go_wp2_with fail
    refine (take_c a _ ha).mono ?_
    rintro _ w4 ⟨va, rfl, hva, hX4⟩
    go_wp2_with fail
    refine (take_c b _ hb).mono ?_
    rintro _ w5 ⟨vb, rfl, hvb, hX5⟩
    have htm := ref_times va vb a.natAbs b.natAbs w5 (hva.up hX5) hvb (by have := hLA.out; omega) (by have := hLB.out; omega)
    go_wp2_with fail
    refine htm.mono ?_
    rintro _ w6 ⟨v6, rfl, hv6, hX6⟩
    have hml := ilen_mul (a.natAbs : Int) (b.natAbs : Int)
    have hmd := made_to HSG.out v6 w6 (((hE.up hX4).up hX5).up hX6) hv6 (by have := hLA.out; have := hLB.out; omega)
    go_wp2_with fail
    refine hmd.mono ?_
    rintro _ w7 ⟨rfl, hX7⟩
    go_wp2
    go_ret
    exact ⟨rfl, (((hU.trans hX4).trans hX5).trans hX6).trans hX7⟩

theorem tdiv_ok {a b : Int} (h : 0 ≤ a ∨ b ∣ a) : a.tdiv b = a / b := by
  rcases h with h | h
  · exact Int.tdiv_eq_ediv_of_nonneg h
  · exact Int.tdiv_eq_ediv_of_dvd h
theorem tmod_ok {a b : Int} (h : 0 ≤ a ∨ b ∣ a) : a.tmod b = a % b := by
  rcases h with h | h
  · exact Int.tmod_eq_emod_of_nonneg h
  · rw [Int.tmod_eq_zero_of_dvd h, Int.emod_eq_zero_of_dvd h]
theorem ediv_abs_le {a b : Int} : (a / b).natAbs ≤ a.natAbs := Int.natAbs_ediv_le_natAbs a b

set_option maxRecDepth 100000 in
set_option maxHeartbeats 4000000 in
theorem r01_divmod (a b : Int) (w : World) (hE : Env w) (ha : ilen a ≤ 100000) (hb : ilen b ≤ 100000) (hb0 : 0 < b) (h : 0 ≤ a ∨ b ∣ a) : Calls Tryz.prog 100 #[.string (iB a), .string (iB b)] w (Ret w (.tuple #[.string (iB (a / b)), .string (iB (a % b))])) := by
  have hU := Up.refl w
  have hr0 : 0 ≤ a % b := Int.emod_nonneg _ (by omega)
  have hr1 : a % b < b := Int.emod_lt_of_pos _ hb0
  by_cases hq : ilen a ≤ 17 ∧ ilen b ≤ 17
  · have h1 := abs_lt (by omega) hq.1
    have h2 := abs_lt (by omega) hq.2
    have e1 := tdiv_ok h
    have e2 := tmod_ok h
    have h3 := ediv_abs_le (a := a) (b := b)
    have hbz : (b == 0) = false := beq_false_of_ne (by omega)
    clear h
    go_enter Tryz.func100, Tryz.ntmps100
    go_wp2_with fail
    refine (r01_brief_yes a _ (by omega)).mono ?_
    rintro _ _ ⟨rfl, hX⟩; replace hU := Up.trans hU hX; replace hE := Env.up hE hX; clear hX
    go_wp2_with fail
    refine (r01_brief_yes b _ (by omega)).mono ?_
    rintro _ _ ⟨rfl, hX⟩; replace hU := Up.trans hU hX; replace hE := Env.up hE hX; clear hX
    go_wp2_with fail
    go_quiet (fail)
    replace hE := hE.up ((Up.refl _).drewN nq)
    replace hU := hU.drewN nq
    go_wp2_with fail
    refine (r01_of (a / b) _ hE (by omega) (by omega)).mono ?_
    rintro _ _ ⟨rfl, hX⟩; replace hU := Up.trans hU hX; replace hE := Env.up hE hX; clear hX
    go_wp2_with fail
    refine (r01_of (a % b) _ hE (by omega) (by omega)).mono ?_
    rintro _ _ ⟨rfl, hX⟩; replace hU := Up.trans hU hX; clear hX
    go_wp2
    go_ret2
    exact ⟨rfl, hU⟩
  · obtain ⟨ma, hma⟩ : ∃ m, decide (a < 0) = m := ⟨_, rfl⟩
    have hsa := ref_split a
    have hsb := ref_split b
    rw [hma] at hsa
    rw [decide_eq_false (by omega)] at hsb
    have hba : (b.natAbs : Int) = b := by omega
    have hLA := Lib.hid (abs_len a)
    have HBA := Lib.hid hba
    have hq1 : (if ma = true then -((a.natAbs : Int) / b) else (a.natAbs : Int) / b) = a / b := by
      cases ma with
      | true =>
        have := of_decide_eq_true hma
        have hd : b ∣ a := by rcases h with h | h; · omega
                              · exact h
        rw [if_pos rfl, show (a.natAbs : Int) = -a by omega, Int.neg_ediv_of_dvd hd, Int.neg_neg]
      | false =>
        have := of_decide_eq_false hma
        rw [if_neg (by simp), show (a.natAbs : Int) = a by omega]
    have hr : (a.natAbs : Int) % b = a % b ∧ (ma = true → a % b = 0) := by
      cases ma with
      | true =>
        have := of_decide_eq_true hma
        have hd : b ∣ a := by rcases h with h | h; · omega
                              · exact h
        have e : a % b = 0 := Int.emod_eq_zero_of_dvd hd
        refine ⟨?_, fun _ => e⟩
        rw [e, show (a.natAbs : Int) = -a by omega]
        exact Int.emod_eq_zero_of_dvd ((Int.dvd_neg).2 hd)
      | false =>
        have := of_decide_eq_false hma
        exact ⟨by rw [show (a.natAbs : Int) = a by omega], fun h => by cases h⟩
    have HQ := Lib.hid hq1
    have HR := Lib.hid hr
    have hql : ilen ((a.natAbs : Int) / b) ≤ 100000 := by
      have h1 := ilen_mono (m := (a.natAbs : Int) / b) (n := (a.natAbs : Int)) (ediv_abs_le (a := (a.natAbs : Int)) (b := b))
      have := hLA.out; omega
    have hrl : ilen (a % b) ≤ 100000 := by
      have h1 := ilen_mono' (x := a % b) (y := b) hr0 (Int.le_of_lt hr1); omega
    clear hma hba hq1 hr h
    go_enter Tryz.func100, Tryz.ntmps100
    by_cases hqa : ilen a ≤ 17
    case' pos =>
      go_wp2_with fail
      refine (r01_brief_yes a _ (by omega)).mono ?_
      rintro _ _ ⟨rfl, hX⟩; replace hU := Up.trans hU hX; replace hE := Env.up hE hX; clear hX
      go_wp2_with fail
      refine (r01_brief_no b _ (by omega) (by omega)).mono ?_
      rintro _ _ ⟨rfl, hX⟩; replace hU := Up.trans hU hX; replace hE := Env.up hE hX; clear hX
    case' neg =>
      go_wp2_with fail
      refine (r01_brief_no a _ (by omega) (by omega)).mono ?_
      rintro _ _ ⟨rfl, hX⟩; replace hU := Up.trans hU hX; replace hE := Env.up hE hX; clear hX
      by_cases hqb : ilen b ≤ 17
      case' pos =>
        go_wp2_with fail
        refine (r01_brief_yes b _ (by omega)).mono ?_
        rintro _ _ ⟨rfl, hX⟩; replace hU := Up.trans hU hX; replace hE := Env.up hE hX; clear hX
      case' neg =>
        go_wp2_with fail
        refine (r01_brief_no b _ (by omega) (by omega)).mono ?_
        rintro _ _ ⟨rfl, hX⟩; replace hU := Up.trans hU hX; replace hE := Env.up hE hX; clear hX
    all_goals
      go_wp2_with fail
      refine (hsa _).mono ?_
      rintro _ _ ⟨rfl, hX⟩; replace hU := Up.trans hU hX; replace hE := Env.up hE hX; clear hX
      go_wp2_with fail
      refine (hsb _).mono ?_
      rintro _ _ ⟨rfl, hX⟩; replace hU := Up.trans hU hX; replace hE := Env.up hE hX; clear hX
      go_wp2_with fail
      refine (take_c a _ ha).mono ?_
      rintro _ w4 ⟨va, rfl, hva, hX4⟩
      go_wp2_with fail
      refine (take_c b _ hb).mono ?_
      rintro _ w5 ⟨vb, rfl, hvb, hX5⟩
      rw [HBA.out] at hvb
      have hpt := ref_parts va vb a.natAbs b w5 (hva.up hX5) hvb hb0 (by have := hLA.out; omega) hb
      rw [HR.out.1] at hpt
      have hE5 := (hE.up hX4).up hX5
      have hU5 := (hU.trans hX4).trans hX5
      go_wp2_with fail
      refine hpt.mono ?_
      rintro _ w6 ⟨u1, _, rfl, hu1, ⟨A4, n4, c4, us, rfl, hr4, hc4, hv4⟩, hX6⟩
      have hmq := made_to HQ.out u1 w6 (hE5.up hX6) hu1 (by omega)
      have hsr : (if false = true then -(a % b) else a % b) = a % b := rfl
      have hmr := fun W (hW : Up w6 W) => made_to hsr (.slice A4 n4 c4) W ((hE5.up hX6).up hW) ⟨A4, n4, c4, us, rfl, hr4.below hW, hc4, hv4⟩ (by omega)
      have HV4 := Lib.hid hv4
      clear hsr hv4 hpt
      cases ma with
      | true =>
        have hn4 : n4 = 0 := by
          have h0 := HR.out.2 rfl
          have hz : us = [] := by
            by_cases hz : us = []
            · exact hz
            · have := hc4.low (by omega) hz
              have := pow_pos' (show (0 : Int) < 10000 by omega) (us.length - 1)
              have := HV4.out
              omega
          rw [← hr4.len, hz]; rfl
        subst hn4
        go_wp2_with fail
        refine hmq.mono ?_
        rintro _ w7 ⟨rfl, hX7⟩
        go_wp2_with fail
        refine (hmr _ hX7).mono ?_
        rintro _ w8 ⟨rfl, hX8⟩
        go_wp2
        go_ret2
        exact ⟨rfl, ((hU5.trans hX6).trans hX7).trans hX8⟩
      | false =>
        go_wp2_with fail
        refine hmq.mono ?_
        rintro _ w7 ⟨rfl, hX7⟩
        go_wp2_with fail
        refine (hmr _ hX7).mono ?_
        rintro _ w8 ⟨rfl, hX8⟩
        go_wp2
        go_ret2
        exact ⟨rfl, ((hU5.trans hX6).trans hX7).trans hX8⟩

set_option maxRecDepth 100000 in
set_option maxHeartbeats 4000000 in
theorem r01_gcd (a b : Int) (w : World) (hE : Env w) (ha : ilen a ≤ 100000) (hb : ilen b ≤ 100000) : Calls Tryz.prog 99 #[.string (iB a), .string (iB b)] w (Ret w (.string (iB (Int.gcd a b)))) := by
  have hU := Up.refl w
  have hLA := Lib.hid (abs_len a)
  have hLB := Lib.hid (abs_len b)
  go_enter Tryz.func99, Tryz.ntmps99
  go_wp2_with fail
  refine (r01_abs a _).mono ?_
  rintro _ _ ⟨rfl, hX⟩; replace hU := Up.trans hU hX; replace hE := Env.up hE hX; clear hX
  go_wp2_with fail
  refine (r01_abs b _).mono ?_
  rintro _ _ ⟨rfl, hX⟩; replace hU := Up.trans hU hX; replace hE := Env.up hE hX; clear hX
  go_wp2_with fail
  have hE0 := Lib.hid hE
  have hU0 := Lib.hid hU
  clear hE hU
  go_loopg [0, 1] b.natAbs (fun k s t wr => ∃ x y : Nat, s = .string (iB (x : Int)) ∧ t = .string (iB (y : Int)) ∧ y = k ∧ Hid (Int.gcd x y = Int.gcd a b ∧ ilen x ≤ 100000 ∧ ilen y ≤ 100000) ∧ Env wr ∧ Up w wr)
  case atStart => exact ⟨a.natAbs, b.natAbs, rfl, rfl, rfl, Lib.hid ⟨by simp [Int.gcd], by have := hLA.out; omega, by have := hLB.out; omega⟩, hE0.out, hU0.out⟩
  case round =>
    obtain ⟨x, y, rfl, rfl, rfl, HI, hEr, hUr⟩ := hrel
    have hz := iB_is0 (y : Int)
    by_cases hy : y = 0
    · subst hy
      rw [show ((0 : Nat) : Int) = 0 from rfl, decide_eq_true rfl] at hz
      have hg : Int.gcd a b = x := by rw [← HI.out.1]; simp
      have HG := Lib.hid hg
      clear hg
      go_wp2
      go_ret
      rw [HG.out]
      exact ⟨rfl, hUr⟩
    · rw [decide_eq_false (by omega)] at hz
      have hml : x % y < y := Nat.mod_lt _ (by omega)
      have hdm := r01_divmod (x : Int) (y : Int) wr hEr HI.out.2.1 HI.out.2.2 (by omega) (.inl (by omega))
      rw [← Int.natCast_emod] at hdm
      have hlr := ilen_mono' (x := ((x % y : Nat) : Int)) (y := (y : Int)) (by omega) (by omega)
      have HG : Hid (Int.gcd (y : Int) ((x % y : Nat) : Int) = Int.gcd a b) := Lib.hid (by rw [Int.natCast_emod]; exact (emod_gcd (x : Int) (y : Int)).trans HI.out.1)
      go_wp2_with fail
      refine hdm.mono ?_
      rintro _ w4 ⟨rfl, hX⟩
      go_wp2_with fail
      go_roundg (x % y)
      case measure => exact hml
      case rel => exact ⟨y, x % y, rfl, rfl, rfl, Lib.hid ⟨HG.out, HI.out.2.2, by have := HI.out.2.2; omega⟩, hEr.up hX, hUr.trans hX⟩
end Go.Proofs.Klp
/- The reference's test of an integer. -/
namespace Go.Proofs.Klp
open Go.RowKit
open Go.Lib (decDigits itoa hasPrefix trimPrefix)

def OkC (l : List UInt8) : Prop := trimPrefix l [45] ≠ [] ∧ ¬ ((trimPrefix l [45]).head? = some 48 ∧ (1 < (trimPrefix l [45]).length ∨ hasPrefix l [45] = true)) ∧ Digs (trimPrefix l [45])
open Classical in
noncomputable def okC (s : ByteArray) : Bool := decide (OkC s.data.toList)
theorem okC_true {s : ByteArray} (h : OkC s.data.toList) : okC s = true := by unfold okC; exact @decide_eq_true _ (_) h
theorem okC_false {s : ByteArray} (h : ¬ OkC s.data.toList) : okC s = false := by unfold okC; exact @decide_eq_false _ (_) h
theorem okI_okC (s : ByteArray) : okI s = (okC s && decide ((trimPrefix s.data.toList [45]).length ≤ 200)) := by
  obtain ⟨h1, h2⟩ := trim_form s.data.toList
  have hiff := okI_iff _ _ _ h1 h2
  by_cases hc : OkC s.data.toList
  · rw [okC_true hc, Bool.true_and]
    by_cases hl : (trimPrefix s.data.toList [45]).length ≤ 200
    · rw [decide_eq_true hl, okI_true (hiff.2 ⟨hc.1, hl, hc.2.1, hc.2.2⟩)]
    · rw [decide_eq_false hl, okI_false (fun h => hl (hiff.1 h).2.1)]
  · rw [okC_false hc, Bool.false_and, okI_false (fun h => hc ⟨(hiff.1 h).1, (hiff.1 h).2.2.1, (hiff.1 h).2.2.2⟩)]

set_option maxRecDepth 100000 in
set_option maxHeartbeats 4000000 in
theorem r01_canonical (s : ByteArray) (w : World) (hs : s.size ≤ 1000000000) : Calls Tryz.prog 141 #[.string s] w (Ret w (.bool (okC s))) := by
  have hU := Up.refl w
  have hsp := ref_split_any s w
  have hiff : OkC s.data.toList ↔ _ := Iff.rfl
  unfold OkC at hiff
  have hlen : (trimPrefix s.data.toList [45]).length ≤ s.size := by
    obtain ⟨hform, _⟩ := trim_form s.data.toList
    rw [show s.size = s.data.toList.length from Go.Lib.size_eq s]
    conv => rhs; rw [hform]
    split <;> simp
  obtain ⟨L, hL⟩ : ∃ L, trimPrefix s.data.toList [45] = L := ⟨_, rfl⟩
  obtain ⟨m, hm⟩ : ∃ m, hasPrefix s.data.toList [45] = m := ⟨_, rfl⟩
  change OkC s.data.toList ↔ trimPrefix s.data.toList [45] ≠ [] ∧ ¬ ((trimPrefix s.data.toList [45]).head? = some 48 ∧ (1 < (trimPrefix s.data.toList [45]).length ∨ hasPrefix s.data.toList [45] = true)) ∧ Digs (trimPrefix s.data.toList [45]) at hiff
  rw [hL, hm] at hsp hiff
  rw [hL] at hlen
  have HI := Lib.hid hiff
  clear hL hm hiff
  have hsz := mkB_size L
  go_enter Tryz.func141, Tryz.ntmps141
  go_wp2_with fail
  refine (hsp).mono ?_
  rintro _ _ ⟨rfl, hX⟩; replace hU := Up.trans hU hX; clear hX
  go_wp2_with fail
  have hU0 := Lib.hid hU
  clear hU
  go_loopw [5] (fun i wr => ∃ k : Nat, k ≤ L.length ∧ i = .int .i64 k ∧ Hid (∀ j, (h : j < L.length) → j < k → 48 ≤ (L[j]).toNat ∧ (L[j]).toNat ≤ 57) ∧ Up w wr) (fun i _ => L.length - (intOf i).toNat)
  case atStart => exact ⟨0, Nat.zero_le _, rfl, Lib.hid (fun j _ h => absurd h (Nat.not_lt_zero _)), hU0.out⟩
  case round =>
    obtain ⟨k, hk, rfl, hd, hUr⟩ := hrel
    by_cases hlt : k < L.length
    · have hb : ∀ h : k < (mkB L).size, (((mkB L)[k]'h).toNat : Int) = (L[k]'hlt).toNat := fun h => rfl
      obtain ⟨b, hbd⟩ : ∃ b, L[k]'hlt = b := ⟨_, rfl⟩
      rw [hbd] at hb
      have HB := Lib.hid hbd
      clear hbd
      by_cases h1 : b.toNat < 48
      · have hr := okC_false (s := s) (fun h => by have := (HI.out.1 h).2.2 _ (List.getElem_mem hlt); rw [HB.out] at this; omega)
        have HR := Lib.hid hr
        clear hr
        go_wp2
        go_ret
        exact ⟨by rw [HR.out]; rfl, hUr⟩
      · by_cases h2 : 57 < b.toNat
        · have hr := okC_false (s := s) (fun h => by have := (HI.out.1 h).2.2 _ (List.getElem_mem hlt); rw [HB.out] at this; omega)
          have HR := Lib.hid hr
          clear hr
          go_wp2
          go_ret
          exact ⟨by rw [HR.out]; rfl, hUr⟩
        · go_wp2_with fail
          go_roundw
          case rel => exact ⟨k + 1, by omega, by go_num, Lib.hid (fun j h hj => by
            rcases Nat.lt_or_ge j k with hjk | hjk
            · exact hd.out j h hjk
            · obtain rfl : j = k := by omega
              rw [HB.out]; omega), hUr⟩
          case measure => simp [intOf]; omega
    · obtain rfl : k = L.length := by omega
      have hdig : Digs L := fun x hx => by
        obtain ⟨j, hj, rfl⟩ := List.getElem_of_mem hx
        exact hd.out j hj hj
      cases L with
      | nil =>
        have hr := okC_false (s := s) (fun h => (HI.out.1 h).1 rfl)
        have HR := Lib.hid hr
        clear hr
        rw [List.length_nil] at hsz
        go_wp2
        all_goals first
          | (exfalso; omega)
          | (go_ret; exact ⟨by rw [HR.out]; rfl, hUr⟩)
      | cons c t =>
        have hb0 : ∀ h : 0 < (mkB (c :: t)).size, (((mkB (c :: t))[0]'h).toNat : Int) = c.toNat := fun h => rfl
        rw [List.length_cons] at hsz hlen
        by_cases h48 : c.toNat = 48 ∧ (1 < t.length + 1 ∨ m = true)
        · have hr := okC_false (s := s) (fun h => (HI.out.1 h).2.1 ⟨by rw [List.head?_cons, u8_ext (b := 48) h48.1], h48.2⟩)
          have HR := Lib.hid hr
          clear hr
          obtain ⟨h48a, h48b⟩ := h48
          rcases h48b with h48b | h48b
          · go_wp2
            all_goals first
              | (exfalso; omega)
              | (go_ret; exact ⟨by rw [HR.out]; rfl, hUr⟩)
          · subst h48b
            go_wp2
            all_goals first
              | (exfalso; omega)
              | (go_ret; exact ⟨by rw [HR.out]; rfl, hUr⟩)
        · have hr := okC_true (s := s) (HI.out.2 ⟨by simp, fun k => h48 ⟨by have := Option.some.inj (k.1.symm.trans (List.head?_cons ..)); rw [← this]; rfl, k.2⟩, hdig⟩)
          have HR := Lib.hid hr
          clear hr
          by_cases hc48 : c.toNat = 48
          · have ht0 : ¬ 1 < t.length + 1 := fun h => h48 ⟨hc48, .inl h⟩
            have hm0 : m = false := by
              cases m with
              | false => rfl
              | true => exact absurd ⟨hc48, .inr rfl⟩ h48
            subst hm0
            obtain rfl : t = [] := List.eq_nil_of_length_eq_zero (by omega)
            rw [List.length_nil] at hsz
            clear h48
            go_wp2
            all_goals first
              | (exfalso; omega)
              | (go_ret; exact ⟨by rw [HR.out]; rfl, hUr⟩)
          · have hc48' : ¬ (c.toNat : Int) = 48 := by omega
            clear h48
            go_wp2
            all_goals first
              | (exfalso; omega)
              | (go_ret; exact ⟨by rw [HR.out]; rfl, hUr⟩)

theorem right_eq (n : Nat) : decide ((n : Int) ≤ 200) = decide (n ≤ 200) := by simp; omega
set_option maxHeartbeats 1000000 in
theorem r01_right (s : ByteArray) (w : World) (hs : s.size ≤ 1000000000) : Calls Tryz.prog 116 #[.string s] w (Ret w (.bool (okI s))) := by
  have hU := Up.refl w
  have hsp := ref_split_any s
  have hcn := fun w => r01_canonical s w hs
  have hsz := mkB_size (trimPrefix s.data.toList [45])
  have hok := okI_okC s
  have HOK := Lib.hid hok
  clear hok
  generalize trimPrefix s.data.toList [45] = L at *
  cases hc : okC s with
  | false =>
    rw [hc] at hcn
    go_enter Tryz.func116, Tryz.ntmps116
    go_wp2_with fail
    refine (hsp _).mono ?_
    rintro _ _ ⟨rfl, hX⟩; replace hU := Up.trans hU hX; clear hX
    go_wp2_with fail
    refine (hcn _).mono ?_
    rintro _ _ ⟨rfl, hX⟩; replace hU := Up.trans hU hX; clear hX
    go_wp2
    go_ret
    exact ⟨by rw [HOK.out, hc]; rfl, hU⟩
  | true =>
    rw [hc] at hcn
    go_enter Tryz.func116, Tryz.ntmps116
    go_wp2_with fail
    refine (hsp _).mono ?_
    rintro _ _ ⟨rfl, hX⟩; replace hU := Up.trans hU hX; clear hX
    go_wp2_with fail
    refine (hcn _).mono ?_
    rintro _ _ ⟨rfl, hX⟩; replace hU := Up.trans hU hX; clear hX
    go_wp2
    go_ret
    exact ⟨by rw [HOK.out, hc, ← right_eq]; rfl, hU⟩
end Go.Proofs.Klp
/- The reference's numbers: quotients of ints. -/
namespace Go.Proofs.Klp
open Go.RowKit Go.Shelf
open Go.Lib (decDigits itoa)

theorem mkRat_one (n : Int) : mkRat n 1 = (n : Rat) := by rw [Rat.mkRat_one]

set_option maxRecDepth 100000 in
set_option maxHeartbeats 2000000 in
theorem r02_lowest (n : Int) (d : Nat) (w : World) (hE : Env w) (hd : d ≠ 0) (hn0 : -4000000000000000000 < n) (hn1 : n < 4000000000000000000) (hd1 : d < 4000000000000000000) : Calls Tryz.prog 71 #[.int .i64 n, .int .i64 d] w (Ret w (.string (rB (mkRat n d)))) := by
  have hU := Up.refl w
  by_cases h1 : d = 1
  · subst h1
    rw [mkRat_one, rB_int]
    go_enter Tryz.func71, Tryz.ntmps71
    go_wp2_with fail
    refine (itoa_c n _ hE (by omega) (by omega)).mono ?_
    rintro _ _ ⟨rfl, hX⟩; replace hU := Up.trans hU hX; clear hX
    go_wp2
    go_ret
    exact ⟨rfl, hU⟩
  have hd2 : ((d : Int) == 1) = false := beq_false_of_ne (by omega)
  have hmx : max n (-n) = (n.natAbs : Int) := by omega
  have e1 := mkRat_tdiv_num n hd
  have e2 := mkRat_tdiv_den n hd
  have hg0 := gcd_pos' n hd
  have b1 := mkRat_num_le n d hd
  have b2 := mkRat_den_le n d hd
  have b3 := (mkRat n d).den_pos
  have l1 : ilen (mkRat n d).num ≤ 19 := big_of_lt (by omega) (by omega)
  have l2 : ilen ((mkRat n d).den : Int) ≤ 19 := big_of_lt (by omega) (by omega)
  have s1 := iB_size (mkRat n d).num
  have s2 := iB_size ((mkRat n d).den : Int)
  have hw := @rB_whole (mkRat n d)
  have hf := @rB_cat (mkRat n d)
  generalize hG : Int.gcd n (d : Int) = g at *
  generalize mkRat n d = q at *
  have HE1 := Lib.hid e1
  have HE2 := Lib.hid e2
  have HG := Lib.hid hG
  have HW := Lib.hid hw
  have HF := Lib.hid hf
  clear e1 e2 hG hw hf
  go_enter Tryz.func71, Tryz.ntmps71
  go_wp2_with fail
  have hE0 := Lib.hid hE
  have hU0 := Lib.hid hU
  clear hE hU
  go_loopg [5, 6] d (fun k s t wr => ∃ x y : Nat, s = .int .i64 (x : Int) ∧ t = .int .i64 (y : Int) ∧ y = k ∧ Hid (Int.gcd x y = g) ∧ x < 4000000000000000000 ∧ y < 4000000000000000000 ∧ Env wr ∧ Up w wr)
  case atStart => exact ⟨n.natAbs, d, by first | rfl | (congr 1; omega), rfl, rfl, Lib.hid (by rw [← HG.out]; simp [Int.gcd]), by omega, by omega, hE0.out, hU0.out⟩
  case round =>
    obtain ⟨x, y, rfl, rfl, rfl, hg, hx1, hy1, hEr, hUr⟩ := hrel
    by_cases hy : y = 0
    · subst hy
      have hgx : x = g := by rw [← hg.out]; simp
      subst hgx
      have h0g : ((x : Int) == 0) = false := beq_false_of_ne (by omega)
      have hq1 := HE1.out
      have hq2 := HE2.out
      clear hg
      go_wp2_with fail
      go_quiet (fail)
      have hE1 := hEr.up ((Up.refl _).drewN nq)
      have hU1 := hUr.drewN nq
      by_cases hden : q.den = 1
      · have hb : ((q.den : Int) == 1) = true := by rw [hden]; rfl
        have hit := itoa_c q.num _ hE1 (by omega) (by omega)
        have HD := Lib.hid hden
        clear hden
        go_wp2_with fail
        refine hit.mono ?_
        rintro _ w5 ⟨rfl, hX⟩
        go_wp2
        go_ret
        exact ⟨by rw [HW.out HD.out]; rfl, hU1.trans hX⟩
      · have hb : ((q.den : Int) == 1) = false := beq_false_of_ne (by omega)
        have s3 : (iB q.num ++ mkB [47]).size = (iB q.num).size + 1 := by unfold iB; rw [mkB_append, mkB_size, mkB_size, List.length_append]; rfl
        have e := HF.out hden
        change (iB q.num ++ ({ data := #[47] } : ByteArray)) ++ iB (q.den : Int) = rB q at e
        change (iB q.num ++ ({ data := #[47] } : ByteArray)).size = _ at s3
        go_wp2_with fail
        refine (itoa_c q.num _ hE1 (by omega) (by omega)).mono ?_
        rintro _ w5 ⟨rfl, hX⟩
        go_wp2_with fail
        refine (itoa_c (q.den : Int) _ (hE1.up hX) (by omega) (by omega)).mono ?_
        rintro _ w6 ⟨rfl, hX6⟩
        go_wp2
        all_goals first
          | (exfalso; omega)
          | (go_ret; exact ⟨rfl, (hU1.trans hX).trans hX6⟩)
    · have hy9 : ((y : Int) == 0) = false := beq_false_of_ne (by omega)
      have htm : (x : Int).tmod (y : Int) = ((x % y : Nat) : Int) := rfl
      go_wp2_with fail
      go_quiet (fail)
      go_wp2_with fail
      have hml : x % y < y := Nat.mod_lt _ (by omega)
      go_roundg (x % y)
      case measure => exact hml
      case rel => exact ⟨y, x % y, rfl, by first | rfl | (congr 1), rfl, Lib.hid ((emod_gcd (x : Int) (y : Int)).trans hg.out), hy1, by omega, hEr.up ((Up.refl _).drewN _), hUr.drewN _⟩
end Go.Proofs.Klp
/- The reference's numbers: small fractions. -/
namespace Go.Proofs.Klp
open Go.RowKit Go.Shelf
open Go.Lib (decDigits itoa)
set_option maxRecDepth 100000 in
set_option maxHeartbeats 4000000 in
theorem r02_small (n d m : Int) (k : Nat) (w : World) (hE : Env w) (hk : k ≠ 0) (h : (0 < d ∧ m = n ∧ d = (k : Int)) ∨ (d < 0 ∧ -n = m ∧ -d = (k : Int))) (hn : (iB n).size ≤ 9) (hd : (iB d).size ≤ 9) : Calls Tryz.prog 96 #[.string (iB n), .string (iB d)] w (Ret w (.string (rB (mkRat m k)))) := by
  have hU := Up.refl w
  have n9 : n.natAbs < 1000000000 := (dec_len_le (k := 9) (by decide)).1 (Nat.le_trans (ilen_le_size n) hn)
  have d9 : d.natAbs < 1000000000 := (dec_len_le (k := 9) (by decide)).1 (Nat.le_trans (ilen_le_size d) hd)
  have hm : m.natAbs < 1000000000 := by omega
  have hk9 : k < 1000000000 := by omega
  have e1 := mkRat_tdiv_num m hk
  have e2 := mkRat_tdiv_den m hk
  have hg0 := gcd_pos' m hk
  have b1 := mkRat_num_le m k hk
  have b2 := mkRat_den_le m k hk
  have b3 := (mkRat m k).den_pos
  have l1 : ilen (mkRat m k).num ≤ 19 := big_of_lt (by omega) (by omega)
  have l2 : ilen ((mkRat m k).den : Int) ≤ 19 := big_of_lt (by omega) (by omega)
  have s1 := iB_size (mkRat m k).num
  have s2 := iB_size ((mkRat m k).den : Int)
  have hw := @rB_whole (mkRat m k)
  have hf := @rB_cat (mkRat m k)
  generalize hG : Int.gcd m (k : Int) = g at *
  generalize mkRat m k = q at *
  have HE1 := Lib.hid e1
  have HE2 := Lib.hid e2
  have HG := Lib.hid hG
  have HW := Lib.hid hw
  have HF := Lib.hid hf
  clear e1 e2 hG hw hf
  have ht1 := atoi_c n
  have ht2 := atoi_c d
  go_enter Tryz.func96, Tryz.ntmps96
  go_wp2_with fail
  refine (ht1 _ (by omega)).mono ?_
  rintro _ _ ⟨rfl, hX⟩; replace hU := Up.trans hU hX; replace hE := Env.up hE hX; clear hX
  go_wp2_with fail
  refine (ht2 _ (by omega)).mono ?_
  rintro _ _ ⟨rfl, hX⟩; replace hU := Up.trans hU hX; replace hE := Env.up hE hX; clear hX
  clear ht1 ht2
  rcases h with ⟨hd0, rfl, rfl⟩ | ⟨hd0, hmn, hkd⟩
  case' inl => by_cases hneg : m < 0
  case' inr => by_cases hneg : m < 0
  all_goals
    go_wp2_with fail
    have hE0 := Lib.hid hE
    have hU0 := Lib.hid hU
    clear hE hU
    go_loopg [9, 10] k (fun k' s t wr => ∃ x y : Nat, s = .int .i64 (x : Int) ∧ t = .int .i64 (y : Int) ∧ y = k' ∧ Hid (Int.gcd x y = g) ∧ x < 4000000000000000000 ∧ y < 4000000000000000000 ∧ Env wr ∧ Up w wr)
    case atStart => exact ⟨m.natAbs, k, by first | rfl | (congr 1; omega), rfl, rfl, Lib.hid (by rw [← HG.out]; simp [Int.gcd]), by omega, by omega, hE0.out, hU0.out⟩
    case round =>
      obtain ⟨x, y, rfl, rfl, rfl, hg, hx1, hy1, hEr, hUr⟩ := hrel
      by_cases hy : y = 0
      · subst hy
        have hgx : x = g := by rw [← hg.out]; simp
        subst hgx
        have h0g : ((x : Int) == 0) = false := beq_false_of_ne (by omega)
        have hq1 := HE1.out
        have hq2 := HE2.out
        clear hg
        go_wp2_with fail
        go_quiet (fail)
        have hE1 := hEr.up ((Up.refl _).drewN nq)
        have hU1 := hUr.drewN nq
        by_cases hden : q.den = 1
        · have hb : ((q.den : Int) == 1) = true := by rw [hden]; rfl
          have hit := itoa_c q.num _ hE1 (by omega) (by omega)
          have HD := Lib.hid hden
          clear hden
          go_wp2_with fail
          refine hit.mono ?_
          rintro _ w5 ⟨rfl, hX⟩
          go_wp2
          go_ret
          exact ⟨by rw [HW.out HD.out]; rfl, hU1.trans hX⟩
        · have hb : ((q.den : Int) == 1) = false := beq_false_of_ne (by omega)
          have s3 : (iB q.num ++ mkB [47]).size = (iB q.num).size + 1 := by unfold iB; rw [mkB_append, mkB_size, mkB_size, List.length_append]; rfl
          have e := HF.out hden
          change (iB q.num ++ ({ data := #[47] } : ByteArray)) ++ iB (q.den : Int) = rB q at e
          change (iB q.num ++ ({ data := #[47] } : ByteArray)).size = _ at s3
          go_wp2_with fail
          refine (itoa_c q.num _ hE1 (by omega) (by omega)).mono ?_
          rintro _ w5 ⟨rfl, hX⟩
          go_wp2_with fail
          refine (itoa_c (q.den : Int) _ (hE1.up hX) (by omega) (by omega)).mono ?_
          rintro _ w6 ⟨rfl, hX6⟩
          go_wp2
          all_goals first
            | (exfalso; omega)
            | (go_ret; exact ⟨rfl, (hU1.trans hX).trans hX6⟩)
      · have hy9 : ((y : Int) == 0) = false := beq_false_of_ne (by omega)
        have htm : (x : Int).tmod (y : Int) = ((x % y : Nat) : Int) := rfl
        go_wp2_with fail
        go_quiet (fail)
        go_wp2_with fail
        have hml : x % y < y := Nat.mod_lt _ (by omega)
        go_roundg (x % y)
        case measure => exact hml
        case rel => exact ⟨y, x % y, rfl, by first | rfl | (congr 1), rfl, Lib.hid ((emod_gcd (x : Int) (y : Int)).trans hg.out), hy1, by omega, hEr.up ((Up.refl _).drewN _), hUr.drewN _⟩
end Go.Proofs.Klp
