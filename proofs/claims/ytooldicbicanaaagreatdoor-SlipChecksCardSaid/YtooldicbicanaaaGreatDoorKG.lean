/- Numbers: parts, joined parts, lowest terms. -/
import Derived.Test.YtooldicbicanaaaGreatDoorKF
namespace Go.Proofs.Klp
open Go.RowKit Go.Shelf
open Go.Lib (decDigits itoa)

theorem rB_whole {q : Rat} (h : q.den = 1) : rB q = iB q.num := by unfold rB iB; rw [ratT_int h]
theorem rB_frac {q : Rat} (h : q.den ≠ 1) : rB q = mkB (itoa q.num ++ 47 :: decDigits q.den) := by unfold rB; rw [ratT_frac h]
theorem iB_nat (n : Nat) : iB (n : Int) = mkB (decDigits n) := by unfold iB; rw [itoa_nat]
theorem rB_cat {q : Rat} (h : q.den ≠ 1) : (iB q.num ++ mkB [47]) ++ iB (q.den : Int) = rB q := by
  rw [rB_frac h, iB_nat]; unfold iB
  rw [mkB_append, mkB_append, List.append_assoc]; rfl
theorem rlen_num (q : Rat) : ilen q.num ≤ rlen q := Nat.le_max_left _ _
theorem rlen_den (q : Rat) : ilen (q.den : Int) ≤ rlen q := by
  unfold ilen; rw [Int.natAbs_natCast]; exact Nat.le_max_right _ _
theorem size_le (n : Int) {k : Nat} (h : ilen n ≤ k) : (iB n).size ≤ k + 1 := Nat.le_trans (iB_size n) (by omega)

/-- strings.Cut at a slash -/
theorem cut_whole (q : Rat) (w : World) (hE : Env w) (hq : rlen q ≤ 100000000) (h : q.den = 1) : Calls Tryz.prog 119 #[.string (rB q), .string (mkB [47])] w (Ret w (.tuple #[.string (iB q.num), .string (mkB []), .bool false])) := by
  obtain ⟨m, hm⟩ := hE.maxl
  have hs := rB_size q
  refine (Tryz.strings_Cut (rB q) (mkB [47]) m w (by omega) hm).mono ?_
  rintro e w' ⟨rfl, k, rfl⟩
  rw [mkB_data, rB_data, ratT_int h, cut_no (no_slash_itoa _)]
  exact ⟨rfl, (Up.refl _).drewN k⟩
theorem cut_frac (q : Rat) (w : World) (hE : Env w) (hq : rlen q ≤ 100000000) (h : q.den ≠ 1) : Calls Tryz.prog 119 #[.string (rB q), .string (mkB [47])] w (Ret w (.tuple #[.string (iB q.num), .string (iB (q.den : Int)), .bool true])) := by
  obtain ⟨m, hm⟩ := hE.maxl
  have hs := rB_size q
  refine (Tryz.strings_Cut (rB q) (mkB [47]) m w (by omega) hm).mono ?_
  rintro e w' ⟨rfl, k, rfl⟩
  rw [mkB_data, rB_data, ratT_frac h, cut_at (no_slash_itoa _), iB_nat]
  exact ⟨rfl, (Up.refl _).drewN k⟩

theorem rat_parts (q : Rat) (w : World) (hE : Env w) (hq : rlen q ≤ 100000000) : Calls Tryz.prog 91 #[.string (rB q)] w (Ret w (.tuple #[.string (iB q.num), .string (iB (q.den : Int))])) := by
  have hU := Up.refl w
  by_cases h : q.den = 1
  · have hc := cut_whole q w hE hq h
    rw [h, show ((1 : Nat) : Int) = 1 from rfl, iB_one]
    go_enter Tryz.func91, Tryz.ntmps91
    go_wp2_with fail
    refine (hc).mono ?_
    rintro _ _ ⟨rfl, hX⟩; replace hU := Up.trans hU hX; clear hX
    go_wp2
    go_ret2
    exact ⟨rfl, hU⟩
  · have hc := cut_frac q w hE hq h
    go_enter Tryz.func91, Tryz.ntmps91
    go_wp2_with fail
    refine (hc).mono ?_
    rintro _ _ ⟨rfl, hX⟩; replace hU := Up.trans hU hX; clear hX
    go_wp2
    go_ret2
    exact ⟨rfl, hU⟩

theorem rat_join (q : Rat) (w : World) (hq : rlen q ≤ 100000000) : Calls Tryz.prog 93 #[.string (iB q.num), .string (iB (q.den : Int))] w (Ret w (.string (rB q))) := by
  have hU := Up.refl w
  have h1 := iB_is1 (q.den : Int)
  have s1 := iB_size q.num
  have s2 := iB_size (q.den : Int)
  have b1 := rlen_num q
  have b2 := rlen_den q
  by_cases h : q.den = 1
  · rw [rB_whole h, h, show ((1 : Nat) : Int) = 1 from rfl, iB_one]
    have h49 : ((mkB [49]).toList == [49]) = true := by rw [mkB_toList]; rfl
    clear h1 s2 b2
    go_enter Tryz.func93, Tryz.ntmps93
    go_wp2
    go_ret
    exact ⟨rfl, hU⟩
  · rw [decide_eq_false (by omega)] at h1
    have e := rB_cat h
    have s3 : (iB q.num ++ mkB [47]).size = (iB q.num).size + 1 := by unfold iB; rw [mkB_append, mkB_size, mkB_size, List.length_append]; rfl
    change (iB q.num ++ ({ data := #[47] } : ByteArray)) ++ iB (q.den : Int) = rB q at e
    change (iB q.num ++ ({ data := #[47] } : ByteArray)).size = _ at s3
    go_enter Tryz.func93, Tryz.ntmps93
    go_wp2
    all_goals first
      | (exfalso; omega)
      | (go_ret; exact ⟨rfl, hU⟩)

theorem mkRat_num (n : Int) {d : Nat} (hd : d ≠ 0) : (mkRat n d).num = n / (Int.gcd n d : Int) := by
  rw [(mkRat_parts n hd).1]; rfl
theorem mkRat_den (n : Int) {d : Nat} (hd : d ≠ 0) : ((mkRat n d).den : Int) = (d : Int) / (Int.gcd n d : Int) := by
  rw [(mkRat_parts n hd).2, Int.natCast_ediv]; rfl
theorem gcd_pos' (n : Int) {d : Nat} (hd : d ≠ 0) : 0 < Int.gcd n d := Nat.pos_of_ne_zero fun h => hd (by have := Int.gcd_eq_zero_iff.1 h; omega)
theorem ilen_gcd (n : Int) {d : Nat} (hd : d ≠ 0) : ilen (Int.gcd n d : Int) ≤ ilen (d : Int) :=
  ilen_mono (by rw [Int.natAbs_natCast, Int.natAbs_natCast]; exact Nat.le_of_dvd (Nat.pos_of_ne_zero hd) (by have := Int.gcd_dvd_right n d; exact Int.ofNat_dvd.1 this))

set_option maxHeartbeats 1000000 in
/-- lowest terms -/
theorem rat_lowest (n : Int) (d : Nat) (w : World) (hE : Env w) (hd : d ≠ 0) (hn : ilen n ≤ 1000000) (hd1 : ilen (d : Int) ≤ 1000000) : Calls Tryz.prog 113 #[.string (iB n), .string (iB (d : Int))] w (Ret w (.string (rB (mkRat n d)))) := by
  have hU := Up.refl w
  have hsg := int_sign (d : Int)
  have hs1 : (d : Int).sign = 1 := Int.sign_eq_one_of_pos (by omega)
  have hg := int_gcd n (d : Int)
  have hg0 := gcd_pos' n hd
  have hgl := ilen_gcd n hd
  have e1 := mkRat_num n hd
  have e2 := mkRat_den n hd
  have hb : rlen (mkRat n d) ≤ 1000000 := by
    refine Nat.max_le.2 ⟨?_, ?_⟩
    · exact Nat.le_trans (ilen_mono (mkRat_num_le n d hd)) hn
    · exact Nat.le_trans (dec_len_mono (mkRat_den_le n d hd)) hd1
  have hj := fun w => rat_join (mkRat n d) w (by omega)
  rw [e1, e2] at hj
  have d1 : (Int.gcd n d : Int) ∣ n := Int.gcd_dvd_left ..
  have d2 : (Int.gcd n d : Int) ∣ (d : Int) := Int.gcd_dvd_right ..
  generalize Int.gcd n (d : Int) = g at *
  have hz1 := iB_is1 (g : Int)
  clear e1 e2
  by_cases h1 : g = 1
  · subst h1
    rw [show ((1 : Nat) : Int) = 1 from rfl, decide_eq_true rfl] at hz1
    rw [show ((1 : Nat) : Int) = 1 from rfl] at hg
    rw [show ((1 : Nat) : Int) = 1 from rfl, Int.ediv_one, Int.ediv_one] at hj
    go_enter Tryz.func113, Tryz.ntmps113
    go_wp2_with fail
    refine (hsg _ (by omega)).mono ?_
    rintro _ _ ⟨rfl, hX⟩; replace hU := Up.trans hU hX; replace hE := Env.up hE hX; clear hX
    go_wp2_with fail
    refine (hg _ hE hn hd1).mono ?_
    rintro _ _ ⟨rfl, hX⟩; replace hU := Up.trans hU hX; replace hE := Env.up hE hX; clear hX
    go_wp2_with fail
    refine (hj _).mono ?_
    rintro _ _ ⟨rfl, hX⟩; replace hU := Up.trans hU hX; clear hX
    go_wp2
    go_ret
    exact ⟨rfl, hU⟩
  · rw [decide_eq_false (by omega)] at hz1
    go_enter Tryz.func113, Tryz.ntmps113
    go_wp2_with fail
    refine (hsg _ (by omega)).mono ?_
    rintro _ _ ⟨rfl, hX⟩; replace hU := Up.trans hU hX; replace hE := Env.up hE hX; clear hX
    go_wp2_with fail
    refine (hg _ hE hn hd1).mono ?_
    rintro _ _ ⟨rfl, hX⟩; replace hU := Up.trans hU hX; replace hE := Env.up hE hX; clear hX
    go_wp2_with fail
    refine (int_div n g _ hE hn (by omega) (by omega) d1).mono ?_
    rintro _ _ ⟨rfl, hX⟩; replace hU := Up.trans hU hX; replace hE := Env.up hE hX; clear hX
    go_wp2_with fail
    refine (int_div d g _ hE hd1 (by omega) (by omega) d2).mono ?_
    rintro _ _ ⟨rfl, hX⟩; replace hU := Up.trans hU hX; replace hE := Env.up hE hX; clear hX
    go_wp2_with fail
    refine (hj _).mono ?_
    rintro _ _ ⟨rfl, hX⟩; replace hU := Up.trans hU hX; clear hX
    go_wp2
    go_ret
    exact ⟨rfl, hU⟩
end Go.Proofs.Klp
/- Small numbers: numbers of ints. -/
namespace Go.Proofs.Klp
open Go.RowKit Go.Shelf
open Go.Lib (decDigits itoa)

theorem big_of_lt {n : Int} {k : Nat} (hk : 1 ≤ k) (h : n.natAbs < 10 ^ k) : ilen n ≤ k := (dec_len_le hk).2 h
theorem mkRat_tdiv_num (n : Int) {d : Nat} (hd : d ≠ 0) : n.tdiv (Int.gcd n d : Int) = (mkRat n d).num := by
  rw [mkRat_num n hd, Int.tdiv_eq_ediv_of_dvd (Int.gcd_dvd_left ..)]
theorem mkRat_tdiv_den (n : Int) {d : Nat} (hd : d ≠ 0) : (d : Int).tdiv (Int.gcd n d : Int) = ((mkRat n d).den : Int) := by
  rw [mkRat_den n hd, Int.tdiv_eq_ediv_of_dvd (Int.gcd_dvd_right ..)]

set_option maxRecDepth 100000 in
set_option maxHeartbeats 2000000 in
theorem rat_small (n : Int) (d : Nat) (w : World) (hE : Env w) (hd : d ≠ 0) (hn0 : -4000000000000000000 < n) (hn1 : n < 4000000000000000000) (hd1 : d < 4000000000000000000) : Calls Tryz.prog 112 #[.int .i64 n, .int .i64 d] w (Ret w (.string (rB (mkRat n d)))) := by
  have hU := Up.refl w
  have e1 := mkRat_tdiv_num n hd
  have e2 := mkRat_tdiv_den n hd
  have hg0 := gcd_pos' n hd
  have b1 := mkRat_num_le n d hd
  have b2 := mkRat_den_le n d hd
  have b3 := (mkRat n d).den_pos
  have l1 : ilen (mkRat n d).num ≤ 19 := big_of_lt (by omega) (by omega)
  have l2 : ilen ((mkRat n d).den : Int) ≤ 19 := big_of_lt (by omega) (by omega)
  have s1 := iB_size (mkRat n d).num
  have s2 := iB_size ((mkRat n d).den : Int)
  have hw := @rB_whole (mkRat n d)
  have hf := @rB_cat (mkRat n d)
  generalize hG : Int.gcd n (d : Int) = g at *
  generalize mkRat n d = q at *
  have HE1 := Lib.hid e1
  have HE2 := Lib.hid e2
  have HG := Lib.hid hG
  have HW := Lib.hid hw
  have HF := Lib.hid hf
  clear e1 e2 hG hw hf
  go_enter Tryz.func112, Tryz.ntmps112
  go_wp2_with fail
  have hE0 := Lib.hid hE
  have hU0 := Lib.hid hU
  clear hE hU
  go_loopg [5, 6] d (fun k s t wr => ∃ x y : Int, s = .int .i64 x ∧ t = .int .i64 y ∧ k = y.natAbs ∧ Hid (Int.gcd x y = g) ∧ -4000000000000000000 < x ∧ x < 4000000000000000000 ∧ -4000000000000000000 < y ∧ y < 4000000000000000000 ∧ Env wr ∧ Up w wr)
  case atStart => exact ⟨n, d, rfl, rfl, by omega, Lib.hid HG.out, by omega, by omega, by omega, by omega, hE0.out, hU0.out⟩
  case round =>
    obtain ⟨x, y, rfl, rfl, rfl, hg, hx0, hx1, hy0, hy1, hEr, hUr⟩ := hrel
    by_cases hy : y = 0
    · subst hy
      have hgx : x.natAbs = g := by rw [← hg.out, Int.gcd_zero_right]
      have hgb : (g : Int) < 4000000000000000000 := by omega
      have h0g : ((g : Int) == 0) = false := beq_false_of_ne (by omega)
      have hq1 := HE1.out
      have hq2 := HE2.out
      by_cases hx : x < 0
      case' pos =>
        obtain rfl : x = -(g : Int) := by omega
      case' neg =>
        obtain rfl : x = (g : Int) := by omega
      all_goals
        clear hgx hg hy0 hy1 hx0 hx1
        go_wp2_with fail
        go_quiet (fail)
        have hE1 := hEr.up ((Up.refl _).drewN nq)
        have hU1 := hUr.drewN nq
        by_cases hden : q.den = 1
        · have hb : ((q.den : Int) == 1) = true := by rw [hden]; rfl
          have hit := itoa_c q.num _ hE1 (by omega) (by omega)
          have HD := Lib.hid hden
          clear hden
          go_wp2_with fail
          refine hit.mono ?_
          rintro _ w5 ⟨rfl, hX⟩
          go_wp2
          go_ret
          exact ⟨by rw [HW.out HD.out]; rfl, hU1.trans hX⟩
        · have hb : ((q.den : Int) == 1) = false := beq_false_of_ne (by omega)
          have s3 : (iB q.num ++ mkB [47]).size = (iB q.num).size + 1 := by unfold iB; rw [mkB_append, mkB_size, mkB_size, List.length_append]; rfl
          have e := HF.out hden
          change (iB q.num ++ ({ data := #[47] } : ByteArray)) ++ iB (q.den : Int) = rB q at e
          change (iB q.num ++ ({ data := #[47] } : ByteArray)).size = _ at s3
          go_wp2_with fail
          refine (itoa_c q.num _ hE1 (by omega) (by omega)).mono ?_
          rintro _ w5 ⟨rfl, hX⟩
          go_wp2_with fail
          refine (itoa_c (q.den : Int) _ (hE1.up hX) (by omega) (by omega)).mono ?_
          rintro _ w6 ⟨rfl, hX6⟩
          go_wp2
          all_goals first
            | (exfalso; omega)
            | (go_ret; exact ⟨rfl, (hU1.trans hX).trans hX6⟩)
    · have hy9 : (y == 0) = false := beq_false_of_ne hy
      go_wp2_with fail
      go_quiet (fail)
      go_wp2_with fail
      have hm := Int.natAbs_tmod x y
      have hml : (x.tmod y).natAbs < y.natAbs := by rw [hm]; exact Nat.mod_lt _ (by omega)
      go_roundg (x.tmod y).natAbs
      case measure => exact hml
      case rel => exact ⟨y, x.tmod y, rfl, rfl, rfl, Lib.hid ((tmod_gcd x y).trans hg.out), hy0, hy1, by omega, by omega, hEr.up ((Up.refl _).drewN _), hUr.drewN _⟩
end Go.Proofs.Klp
/- Numbers with short parts, as ints. -/
namespace Go.Proofs.Klp
open Go.RowKit Go.Shelf
open Go.Lib (decDigits itoa)

theorem tv_take {D : List UInt8} {k : Nat} (h : k < D.length) : tv (D.take (k + 1)) = tv (D.take k) * 10 + ((D[k]).toNat - 48) := by
  rw [List.take_succ_eq_append_getElem h, tv_snoc]
theorem tv_take_lt {D : List UInt8} (hD : Digs D) {k : Nat} (h9 : k ≤ 9) : tv (D.take k) < 1000000000 := by
  have hd : Digs (D.take k) := fun c hc => hD c (List.mem_of_mem_take hc)
  refine Nat.lt_of_lt_of_le (tv_lt hd) ?_
  have : (D.take k).length ≤ 9 := by rw [List.length_take]; omega
  exact (Nat.pow_le_pow_right (by decide) this : 10 ^ (D.take k).length ≤ 10 ^ 9)
theorem tup3 {a a' b b' : Int} (h : a = a') (k : b = b') : Ending.returned (.tuple #[.int .i64 a, .int .i64 b, .bool true]) = .returned (.tuple #[.int .i64 a', .int .i64 b', .bool true]) := by rw [h, k]
/-- the bytes of a number behind its sign -/
theorem num_bytes (q : Rat) : ∃ R, ratT q = (if q < 0 then [45] else []) ++ (decDigits q.num.natAbs ++ R) ∧ ((q.den = 1 ∧ R = []) ∨ (q.den ≠ 1 ∧ R = 47 :: decDigits q.den)) := by
  have hit : itoa q.num = (if q < 0 then [45] else []) ++ decDigits q.num.natAbs := by
    by_cases h : q < 0
    · rw [if_pos h, itoa_neg (num_neg_iff.2 h)]; rfl
    · rw [if_neg h, itoa_nonneg (by have := mt num_neg_iff.1 h; omega)]; rfl
  by_cases h : q.den = 1
  · exact ⟨[], by rw [ratT_int h, hit, List.append_nil], .inl ⟨h, rfl⟩⟩
  · exact ⟨47 :: decDigits q.den, by rw [ratT_frac h, hit, List.append_assoc], .inr ⟨h, rfl⟩⟩
theorem rB_at (q : Rat) {T : List UInt8} (hT : ratT q = T) {k : Nat} {c : UInt8} (h : T[k]? = some c) (hk : k < (rB q).size) : (((rB q)[k]'hk).toNat : Int) = c.toNat := by
  subst hT
  have hk' : k < (ratT q).length := hk
  have e : (rB q)[k]'hk = (ratT q)[k]'hk' := rfl
  rw [List.getElem?_eq_getElem hk'] at h
  rw [e, Option.some.inj h]
theorem at_mid {o D R : List UInt8} {k : Nat} (h : k < D.length) : (o ++ (D ++ R))[o.length + k]? = some D[k] := by
  rw [List.getElem?_append_right (by omega), Nat.add_sub_cancel_left, List.getElem?_append_left h, List.getElem?_eq_getElem h]
theorem at_end {o D R : List UInt8} {k : Nat} : (o ++ (D ++ R))[o.length + (D.length + k)]? = R[k]? := by
  rw [List.getElem?_append_right (by omega), Nat.add_sub_cancel_left, List.getElem?_append_right (by omega), Nat.add_sub_cancel_left]

set_option maxRecDepth 100000 in
set_option maxHeartbeats 4000000 in
theorem quick_pos (q : Rat) (w : World) (hq : ¬ q < 0) (hl : rlen q ≤ 100000000) : Calls Tryz.prog 111 #[.string (rB q)] w fun e w' => w' = w ∧ ((e = .returned (.tuple #[.int .i64 q.num, .int .i64 (q.den : Int), .bool true]) ∧ q.num.natAbs < 1000000000 ∧ q.den < 1000000000) ∨ e = .returned (.tuple #[.int .i64 0, .int .i64 0, .bool false])) := by
  have hs := rB_size q
  have hp := rB_pos q
  have h1 := rB_first q hp
  rw [decide_eq_false hq] at h1
  obtain ⟨R, hT, hR⟩ := num_bytes q
  rw [if_neg hq] at hT
  obtain ⟨D, hD⟩ : ∃ D, decDigits q.num.natAbs = D := ⟨_, rfl⟩
  have hdig : Digs D := hD ▸ digs_dec _
  have hval : tv D = q.num.natAbs := by rw [← hD, tv_dec]
  rw [hD] at hT
  have hsz : (rB q).size = 0 + (D.length + R.length) := by
    show (ratT q).length = _
    rw [hT, List.length_append, List.length_append]; rfl
  have HT := Lib.hid hT
  have HV := Lib.hid hval
  have HR := Lib.hid hR
  have HD := Lib.hid hdig
  have HDEN := Lib.hid (digs_dec q.den)
  clear hT hval hR hD hdig
  go_enter Tryz.func111, Tryz.ntmps111
  go_wp2_with fail
  go_loopw [2, 3, 5] (fun a b i wr => ∃ (k v : Nat), wr = w ∧ b = .int .i64 0 ∧ k ≤ D.length ∧ k ≤ 9 ∧ i = .int .i64 ((k : Int)) ∧ a = .int .i64 (v : Int) ∧ v < 1000000000 ∧ Hid (v = tv (D.take k))) (fun _ _ i _ => (rB q).size - (intOf i).toNat)
  case atStart => exact ⟨0, 0, rfl, rfl, Nat.zero_le _, Nat.zero_le _, rfl, rfl, by omega, Lib.hid rfl⟩
  case round =>
    obtain ⟨k, v, rfl, rfl, hk, hk9, rfl, rfl, hv, hvt⟩ := hrel
    by_cases hlt : k < D.length
    · have hc := HD.out _ (List.getElem_mem hlt)
      have hat : ∀ hk : k < (rB q).size, (((rB q)[k]'hk).toNat : Int) = (D[k]).toNat := fun hk => rB_at q HT.out (by have := at_mid (o := []) (R := R) hlt; rw [← this]; congr 1; simp; try omega) hk
      obtain ⟨c, hcd⟩ : ∃ c, D[k] = c := ⟨_, rfl⟩
      rw [hcd] at hc hat
      have HC := Lib.hid hcd
      have hne : ((c.toNat : Int) != 47) = true := by rw [bne_iff_ne]; omega
      clear hcd
      by_cases h9 : k = 9
      · subst h9
        go_wp2_with fail
        go_ret3
        exact ⟨rfl, .inr rfl⟩
      · have h9' : ((k : Int) == 9) = false := beq_false_of_ne (by omega)
        go_wp2_with fail
        refine ⟨⟨k + 1, v * 10 + (c.toNat - 48), trivial, rfl, by omega, by omega, by go_num, by go_num, ?_, Lib.hid ?_⟩, ?_⟩
        · have := tv_take_lt HD.out (show k + 1 ≤ 9 by omega)
          rw [tv_take hlt, ← hvt.out, HC.out] at this
          exact this
        · rw [tv_take hlt, ← hvt.out, HC.out]
        · simp [intOf]; omega
    · obtain rfl : k = D.length := by omega
      have hvn : v = q.num.natAbs := by rw [hvt.out, List.take_length, HV.out]
      rcases HR.out with ⟨hden, rfl⟩ | ⟨hden, rfl⟩
      · have hnum : (v : Int) = q.num := by have := mt num_neg_iff.1 hq; omega
        have HN := Lib.hid hnum
        have HDN := Lib.hid hden
        rw [List.length_nil, Nat.add_zero] at hsz
        clear hvn hnum hden
        go_wp2_with fail
        go_ret3
        exact ⟨rfl, .inl ⟨tup3 HN.out (by rw [HDN.out]; rfl), by have := HN.out; omega, by rw [HDN.out]; omega⟩⟩
      · have hat : ∀ hk : D.length < (rB q).size, (((rB q)[D.length]'hk).toNat : Int) = 47 := fun hk => rB_at q HT.out (c := 47) (by have := at_end (o := []) (D := D) (R := 47 :: decDigits q.den) (k := 0); rw [List.getElem?_cons_zero] at this; rw [← this]; congr 1; simp; try omega) hk
        rw [List.length_cons] at hsz
        have hdn := HDEN.out
        have HDN := Lib.hid hden
        have HVN := Lib.hid hvn
        clear hvn hden
        go_wp2_with fail
        go_loopw [2, 3, 5] (fun a b i wr' => ∃ (j u : Nat), wr' = wr ∧ j ≤ (decDigits q.den).length ∧ j ≤ 9 ∧ i = .int .i64 ((D.length : Int) + 1 + (j : Int)) ∧ b = .int .i64 (u : Int) ∧ a = .int .i64 ((v : Int)) ∧ u < 1000000000 ∧ Hid (u = tv ((decDigits q.den).take j))) (fun _ _ i _ => (rB q).size - (intOf i).toNat)
        case atStart => exact ⟨0, 0, rfl, Nat.zero_le _, Nat.zero_le _, by go_num, rfl, rfl, by omega, Lib.hid rfl⟩
        case round =>
          obtain ⟨j, u, rfl, hj, hj9, rfl, rfl, rfl, hu, hut⟩ := hrel
          by_cases hlt2 : j < (decDigits q.den).length
          · have hc := hdn _ (List.getElem_mem hlt2)
            have hat2 : ∀ hk : D.length + 1 + j < (rB q).size, (((rB q)[D.length + 1 + j]'hk).toNat : Int) = ((decDigits q.den)[j]).toNat := fun hk => rB_at q HT.out (by
              have := at_end (o := []) (D := D) (R := 47 :: decDigits q.den) (k := j + 1)
              rw [List.getElem?_cons_succ, List.getElem?_eq_getElem hlt2] at this
              rw [← this]; congr 1; simp; try omega) hk
            obtain ⟨c, hcd⟩ : ∃ c, (decDigits q.den)[j] = c := ⟨_, rfl⟩
            rw [hcd] at hc hat2
            have HC := Lib.hid hcd
            clear hcd
            by_cases h9 : j = 9
            · subst h9
              go_wp2_with fail
              go_ret3
              exact ⟨rfl, .inr rfl⟩
            · have h9' : ((j : Int) == 9) = false := beq_false_of_ne (by omega)
              go_wp2_with fail
              refine ⟨⟨j + 1, u * 10 + (c.toNat - 48), trivial, by omega, by omega, by go_num, by go_num, rfl, ?_, Lib.hid ?_⟩, ?_⟩
              · have := tv_take_lt hdn (show j + 1 ≤ 9 by omega)
                rw [tv_take hlt2, ← hut.out, HC.out] at this
                exact this
              · rw [tv_take hlt2, ← hut.out, HC.out]
              · simp [intOf]; omega
          · obtain rfl : j = (decDigits q.den).length := by omega
            have hun : u = q.den := by rw [hut.out, List.take_length, tv_dec]
            have HUN := Lib.hid hun
            have hnum : (v : Int) = q.num := by have := mt num_neg_iff.1 hq; have := HVN.out; omega
            have HN := Lib.hid hnum
            clear hun hnum
            go_wp2_with fail
            go_ret3
            exact ⟨rfl, .inl ⟨tup3 HN.out (congrArg Int.ofNat HUN.out), by have := HN.out; omega, by have := HUN.out; omega⟩⟩

set_option maxRecDepth 100000 in
set_option maxHeartbeats 4000000 in
theorem quick_neg (q : Rat) (w : World) (hq : q < 0) (hl : rlen q ≤ 100000000) : Calls Tryz.prog 111 #[.string (rB q)] w fun e w' => w' = w ∧ ((e = .returned (.tuple #[.int .i64 q.num, .int .i64 (q.den : Int), .bool true]) ∧ q.num.natAbs < 1000000000 ∧ q.den < 1000000000) ∨ e = .returned (.tuple #[.int .i64 0, .int .i64 0, .bool false])) := by
  have hs := rB_size q
  have hp := rB_pos q
  have h1 := rB_first q hp
  rw [decide_eq_true hq] at h1
  obtain ⟨R, hT, hR⟩ := num_bytes q
  rw [if_pos hq] at hT
  obtain ⟨D, hD⟩ : ∃ D, decDigits q.num.natAbs = D := ⟨_, rfl⟩
  have hdig : Digs D := hD ▸ digs_dec _
  have hval : tv D = q.num.natAbs := by rw [← hD, tv_dec]
  rw [hD] at hT
  have hsz : (rB q).size = D.length + R.length + 1 := by
    show (ratT q).length = _
    rw [hT, List.length_append, List.length_append]; simp; omega
  have HT := Lib.hid hT
  have HV := Lib.hid hval
  have HR := Lib.hid hR
  have HD := Lib.hid hdig
  have HDEN := Lib.hid (digs_dec q.den)
  clear hT hval hR hD hdig
  go_enter Tryz.func111, Tryz.ntmps111
  go_wp2_with fail
  go_loopw [2, 3, 5] (fun a b i wr => ∃ (k v : Nat), wr = w ∧ b = .int .i64 0 ∧ k ≤ D.length ∧ k ≤ 9 ∧ i = .int .i64 ((k : Int) + 1) ∧ a = .int .i64 (v : Int) ∧ v < 1000000000 ∧ Hid (v = tv (D.take k))) (fun _ _ i _ => (rB q).size - (intOf i).toNat)
  case atStart => exact ⟨0, 0, rfl, rfl, Nat.zero_le _, Nat.zero_le _, rfl, rfl, by omega, Lib.hid rfl⟩
  case round =>
    obtain ⟨k, v, rfl, rfl, hk, hk9, rfl, rfl, hv, hvt⟩ := hrel
    by_cases hlt : k < D.length
    · have hc := HD.out _ (List.getElem_mem hlt)
      have hat : ∀ hk : k + 1 < (rB q).size, (((rB q)[k + 1]'hk).toNat : Int) = (D[k]).toNat := fun hk => rB_at q HT.out (by have := at_mid (o := [45]) (R := R) hlt; rw [← this]; congr 1; simp; try omega) hk
      obtain ⟨c, hcd⟩ : ∃ c, D[k] = c := ⟨_, rfl⟩
      rw [hcd] at hc hat
      have HC := Lib.hid hcd
      have hne : ((c.toNat : Int) != 47) = true := by rw [bne_iff_ne]; omega
      clear hcd
      by_cases h9 : k = 9
      · subst h9
        go_wp2_with fail
        go_ret3
        exact ⟨rfl, .inr rfl⟩
      · have h9' : ((k : Int) == 9) = false := beq_false_of_ne (by omega)
        go_wp2_with fail
        refine ⟨⟨k + 1, v * 10 + (c.toNat - 48), trivial, rfl, by omega, by omega, by go_num, by go_num, ?_, Lib.hid ?_⟩, ?_⟩
        · have := tv_take_lt HD.out (show k + 1 ≤ 9 by omega)
          rw [tv_take hlt, ← hvt.out, HC.out] at this
          exact this
        · rw [tv_take hlt, ← hvt.out, HC.out]
        · simp [intOf]; omega
    · obtain rfl : k = D.length := by omega
      have hvn : v = q.num.natAbs := by rw [hvt.out, List.take_length, HV.out]
      rcases HR.out with ⟨hden, rfl⟩ | ⟨hden, rfl⟩
      · have hnum : -(v : Int) = q.num := by have := num_neg_iff.2 hq; omega
        have HN := Lib.hid hnum
        have HDN := Lib.hid hden
        rw [List.length_nil, Nat.add_zero] at hsz
        clear hvn hnum hden
        go_wp2_with fail
        go_ret3
        exact ⟨rfl, .inl ⟨tup3 HN.out (by rw [HDN.out]; rfl), by have := HN.out; omega, by rw [HDN.out]; omega⟩⟩
      · have hat : ∀ hk : D.length + 1 < (rB q).size, (((rB q)[D.length + 1]'hk).toNat : Int) = 47 := fun hk => rB_at q HT.out (c := 47) (by have := at_end (o := [45]) (D := D) (R := 47 :: decDigits q.den) (k := 0); rw [List.getElem?_cons_zero] at this; rw [← this]; congr 1; simp; try omega) hk
        rw [List.length_cons] at hsz
        have hdn := HDEN.out
        have HDN := Lib.hid hden
        have HVN := Lib.hid hvn
        clear hvn hden
        go_wp2_with fail
        go_loopw [2, 3, 5] (fun a b i wr' => ∃ (j u : Nat), wr' = wr ∧ j ≤ (decDigits q.den).length ∧ j ≤ 9 ∧ i = .int .i64 ((D.length : Int) + 1 + 1 + (j : Int)) ∧ b = .int .i64 (u : Int) ∧ a = .int .i64 (-(v : Int)) ∧ u < 1000000000 ∧ Hid (u = tv ((decDigits q.den).take j))) (fun _ _ i _ => (rB q).size - (intOf i).toNat)
        case atStart => exact ⟨0, 0, rfl, Nat.zero_le _, Nat.zero_le _, by go_num, rfl, rfl, by omega, Lib.hid rfl⟩
        case round =>
          obtain ⟨j, u, rfl, hj, hj9, rfl, rfl, rfl, hu, hut⟩ := hrel
          by_cases hlt2 : j < (decDigits q.den).length
          · have hc := hdn _ (List.getElem_mem hlt2)
            have hat2 : ∀ hk : D.length + 1 + 1 + j < (rB q).size, (((rB q)[D.length + 1 + 1 + j]'hk).toNat : Int) = ((decDigits q.den)[j]).toNat := fun hk => rB_at q HT.out (by
              have := at_end (o := [45]) (D := D) (R := 47 :: decDigits q.den) (k := j + 1)
              rw [List.getElem?_cons_succ, List.getElem?_eq_getElem hlt2] at this
              rw [← this]; congr 1; simp; try omega) hk
            obtain ⟨c, hcd⟩ : ∃ c, (decDigits q.den)[j] = c := ⟨_, rfl⟩
            rw [hcd] at hc hat2
            have HC := Lib.hid hcd
            clear hcd
            by_cases h9 : j = 9
            · subst h9
              go_wp2_with fail
              go_ret3
              exact ⟨rfl, .inr rfl⟩
            · have h9' : ((j : Int) == 9) = false := beq_false_of_ne (by omega)
              go_wp2_with fail
              refine ⟨⟨j + 1, u * 10 + (c.toNat - 48), trivial, by omega, by omega, by go_num, by go_num, rfl, ?_, Lib.hid ?_⟩, ?_⟩
              · have := tv_take_lt hdn (show j + 1 ≤ 9 by omega)
                rw [tv_take hlt2, ← hut.out, HC.out] at this
                exact this
              · rw [tv_take hlt2, ← hut.out, HC.out]
              · simp [intOf]; omega
          · obtain rfl : j = (decDigits q.den).length := by omega
            have hun : u = q.den := by rw [hut.out, List.take_length, tv_dec]
            have HUN := Lib.hid hun
            have hnum : -(v : Int) = q.num := by have := num_neg_iff.2 hq; have := HVN.out; omega
            have HN := Lib.hid hnum
            clear hun hnum
            go_wp2_with fail
            go_ret3
            exact ⟨rfl, .inl ⟨tup3 HN.out (congrArg Int.ofNat HUN.out), by have := HN.out; omega, by have := HUN.out; omega⟩⟩

/-- quick: the parts as ints, or nothing -/
theorem rat_quick (q : Rat) (w : World) (hl : rlen q ≤ 100000000) : Calls Tryz.prog 111 #[.string (rB q)] w fun e w' => w' = w ∧ ((e = .returned (.tuple #[.int .i64 q.num, .int .i64 (q.den : Int), .bool true]) ∧ q.num.natAbs < 1000000000 ∧ q.den < 1000000000) ∨ e = .returned (.tuple #[.int .i64 0, .int .i64 0, .bool false])) := by
  by_cases h : q < 0
  · exact quick_neg q w h hl
  · exact quick_pos q w h hl
end Go.Proofs.Klp
/- Sums and products of numbers. -/
namespace Go.Proofs.Klp
open Go.RowKit Go.Shelf
open Go.Lib (decDigits itoa)

theorem abs_mul_lt {x y : Int} {d : Nat} (hx : x.natAbs < 1000000000) (hy : y = d) (hd : d < 1000000000) : (x * y).natAbs < 1000000000000000000 := by
  subst hy
  rw [Int.natAbs_mul, Int.natAbs_natCast]
  exact Nat.mul_lt_mul'' hx hd
theorem nat_mul_lt {x y : Nat} (hx : x < 1000000000) (hy : y < 1000000000) : x * y < 1000000000000000000 := Nat.mul_lt_mul'' hx hy
theorem ilen_mul_le {m n : Int} {k l : Nat} (hm : ilen m ≤ k) (hn : ilen n ≤ l) : ilen (m * n) ≤ k + l := Nat.le_trans (ilen_mul m n) (by omega)
theorem ilen_add_le {m n : Int} {k : Nat} (hm : ilen m ≤ k) (hn : ilen n ≤ k) : ilen (m + n) ≤ k + 1 := Nat.le_trans (ilen_add m n) (by omega)

set_option maxRecDepth 100000 in
set_option maxHeartbeats 2000000 in
theorem rat_add (a b : Rat) (w : World) (hE : Env w) (ha : rlen a ≤ 100000) (hb : rlen b ≤ 100000) : Calls Tryz.prog 81 #[.string (rB a), .string (rB b)] w (Ret w (.string (rB (a + b)))) := by
  have hU := Up.refl w
  have za := rB_is0 a
  have zb := rB_is0 b
  by_cases h0 : a = 0
  · subst h0
    rw [decide_eq_true rfl] at za
    go_enter Tryz.func81, Tryz.ntmps81
    go_wp2
    go_ret
    exact ⟨by rw [Rat.zero_add]; rfl, hU⟩
  rw [decide_eq_false h0] at za
  by_cases h1 : b = 0
  · subst h1
    rw [decide_eq_true rfl] at zb
    go_enter Tryz.func81, Tryz.ntmps81
    go_wp2
    go_ret
    exact ⟨by rw [Rat.add_zero]; rfl, hU⟩
  rw [decide_eq_false h1] at zb
  have an := Nat.le_trans (rlen_num a) ha
  have ad := Nat.le_trans (rlen_den a) ha
  have bn := Nat.le_trans (rlen_num b) hb
  have bd := Nat.le_trans (rlen_den b) hb
  have hd : a.den * b.den ≠ 0 := Nat.mul_ne_zero a.den_nz b.den_nz
  have hlo := rat_lowest (a.num * b.den + b.num * a.den) (a.den * b.den)
  have hsm := rat_small (a.num * b.den + b.num * a.den) (a.den * b.den)
  rw [← add_mkRat, Int.natCast_mul] at hlo hsm
  have l1 := ilen_mul_le an bd
  have l2 := ilen_mul_le bn ad
  have l3 := ilen_mul_le ad bd
  have l4 := ilen_add_le l1 l2
  clear h0 h1
  go_enter Tryz.func81, Tryz.ntmps81
  go_wp2_with fail
  refine (rat_quick a _ (by omega)).mono ?_
  rintro e w1 ⟨rfl, ⟨rfl, ha1, ha2⟩ | rfl⟩
  case' inl =>
    go_wp2_with fail
    refine (rat_quick b _ (by omega)).mono ?_
    rintro e w2 ⟨rfl, ⟨rfl, hb1, hb2⟩ | rfl⟩
    case inl =>
      have m1 := abs_mul_lt ha1 (y := (b.den : Int)) rfl hb2
      have m2 := abs_mul_lt hb1 (y := (a.den : Int)) rfl ha2
      have m3 := nat_mul_lt ha2 hb2
      have m4 : (a.den : Int) * (b.den : Int) < 1000000000000000000 := by rw [← Int.natCast_mul]; omega
      have m5 : 0 ≤ (a.den : Int) * (b.den : Int) := by rw [← Int.natCast_mul]; omega
      go_wp2_with fail
      refine (hsm _ hE hd (by omega) (by omega) (by omega)).mono ?_
      rintro _ _ ⟨rfl, hX⟩
      go_wp2
      go_ret
      exact ⟨rfl, hU.trans hX⟩
  all_goals
    go_wp2_with fail
    refine (rat_parts a _ hE (by omega)).mono ?_
    rintro _ _ ⟨rfl, hX⟩; replace hU := Up.trans hU hX; replace hE := Env.up hE hX; clear hX
    go_wp2_with fail
    refine (rat_parts b _ hE (by omega)).mono ?_
    rintro _ _ ⟨rfl, hX⟩; replace hU := Up.trans hU hX; replace hE := Env.up hE hX; clear hX
    go_wp2_with fail
    refine (int_mul a.num b.den _ hE (by omega) (by omega)).mono ?_
    rintro _ _ ⟨rfl, hX⟩; replace hU := Up.trans hU hX; replace hE := Env.up hE hX; clear hX
    go_wp2_with fail
    refine (int_mul b.num a.den _ hE (by omega) (by omega)).mono ?_
    rintro _ _ ⟨rfl, hX⟩; replace hU := Up.trans hU hX; replace hE := Env.up hE hX; clear hX
    go_wp2_with fail
    refine (int_add (a.num * b.den) (b.num * a.den) _ hE (by omega) (by omega)).mono ?_
    rintro _ _ ⟨rfl, hX⟩; replace hU := Up.trans hU hX; replace hE := Env.up hE hX; clear hX
    go_wp2_with fail
    refine (int_mul a.den b.den _ hE (by omega) (by omega)).mono ?_
    rintro _ _ ⟨rfl, hX⟩; replace hU := Up.trans hU hX; replace hE := Env.up hE hX; clear hX
    go_wp2_with fail
    refine (hlo _ hE hd (by omega) (by omega)).mono ?_
    rintro _ _ ⟨rfl, hX⟩; replace hU := Up.trans hU hX; clear hX
    go_wp2
    go_ret
    exact ⟨rfl, hU⟩

set_option maxRecDepth 100000 in
set_option maxHeartbeats 2000000 in
theorem rat_mul (a b : Rat) (w : World) (hE : Env w) (ha : rlen a ≤ 100000) (hb : rlen b ≤ 100000) : Calls Tryz.prog 82 #[.string (rB a), .string (rB b)] w (Ret w (.string (rB (a * b)))) := by
  have hU := Up.refl w
  have za := rB_is0 a
  have zb := rB_is0 b
  have ua := rB_is1 a
  have ub := rB_is1 b
  by_cases h0 : a = 0
  · subst h0
    rw [decide_eq_true rfl] at za
    clear ua ub zb
    go_enter Tryz.func82, Tryz.ntmps82
    go_wp2
    go_ret
    exact ⟨by rw [Rat.zero_mul, rB_zero]; rfl, hU⟩
  rw [decide_eq_false h0] at za
  by_cases h1 : b = 0
  · subst h1
    rw [decide_eq_true rfl] at zb
    clear ua ub
    go_enter Tryz.func82, Tryz.ntmps82
    go_wp2
    go_ret
    exact ⟨by rw [Rat.mul_zero, rB_zero]; rfl, hU⟩
  rw [decide_eq_false h1] at zb
  by_cases h2 : a = 1
  · subst h2
    rw [decide_eq_true rfl] at ua
    clear ub
    go_enter Tryz.func82, Tryz.ntmps82
    go_wp2
    go_ret
    exact ⟨by rw [Rat.one_mul]; rfl, hU⟩
  rw [decide_eq_false h2] at ua
  by_cases h3 : b = 1
  · subst h3
    rw [decide_eq_true rfl] at ub
    go_enter Tryz.func82, Tryz.ntmps82
    go_wp2
    go_ret
    exact ⟨by rw [Rat.mul_one]; rfl, hU⟩
  rw [decide_eq_false h3] at ub
  have an := Nat.le_trans (rlen_num a) ha
  have ad := Nat.le_trans (rlen_den a) ha
  have bn := Nat.le_trans (rlen_num b) hb
  have bd := Nat.le_trans (rlen_den b) hb
  have hd : a.den * b.den ≠ 0 := Nat.mul_ne_zero a.den_nz b.den_nz
  have hlo := rat_lowest (a.num * b.num) (a.den * b.den)
  have hsm := rat_small (a.num * b.num) (a.den * b.den)
  rw [← mul_mkRat, Int.natCast_mul] at hlo hsm
  have l1 := ilen_mul_le an bn
  have l3 := ilen_mul_le ad bd
  clear h0 h1 h2 h3
  go_enter Tryz.func82, Tryz.ntmps82
  go_wp2_with fail
  refine (rat_quick a _ (by omega)).mono ?_
  rintro e w1 ⟨rfl, ⟨rfl, ha1, ha2⟩ | rfl⟩
  case' inl =>
    go_wp2_with fail
    refine (rat_quick b _ (by omega)).mono ?_
    rintro e w2 ⟨rfl, ⟨rfl, hb1, hb2⟩ | rfl⟩
    case inl =>
      have m1 : (a.num * b.num).natAbs < 1000000000000000000 := by rw [Int.natAbs_mul]; exact nat_mul_lt ha1 hb1
      have m3 := nat_mul_lt ha2 hb2
      have m4 : (a.den : Int) * (b.den : Int) < 1000000000000000000 := by rw [← Int.natCast_mul]; omega
      have m5 : 0 ≤ (a.den : Int) * (b.den : Int) := by rw [← Int.natCast_mul]; omega
      go_wp2_with fail
      refine (hsm _ hE hd (by omega) (by omega) (by omega)).mono ?_
      rintro _ _ ⟨rfl, hX⟩
      go_wp2
      go_ret
      exact ⟨rfl, hU.trans hX⟩
  all_goals
    go_wp2_with fail
    refine (rat_parts a _ hE (by omega)).mono ?_
    rintro _ _ ⟨rfl, hX⟩; replace hU := Up.trans hU hX; replace hE := Env.up hE hX; clear hX
    go_wp2_with fail
    refine (rat_parts b _ hE (by omega)).mono ?_
    rintro _ _ ⟨rfl, hX⟩; replace hU := Up.trans hU hX; replace hE := Env.up hE hX; clear hX
    go_wp2_with fail
    refine (int_mul a.num b.num _ hE (by omega) (by omega)).mono ?_
    rintro _ _ ⟨rfl, hX⟩; replace hU := Up.trans hU hX; replace hE := Env.up hE hX; clear hX
    go_wp2_with fail
    refine (int_mul a.den b.den _ hE (by omega) (by omega)).mono ?_
    rintro _ _ ⟨rfl, hX⟩; replace hU := Up.trans hU hX; replace hE := Env.up hE hX; clear hX
    go_wp2_with fail
    refine (hlo _ hE hd (by omega) (by omega)).mono ?_
    rintro _ _ ⟨rfl, hX⟩; replace hU := Up.trans hU hX; clear hX
    go_wp2
    go_ret
    exact ⟨rfl, hU⟩

theorem rat_sub (a b : Rat) (w : World) (hE : Env w) (ha : rlen a ≤ 100000) (hb : rlen b ≤ 100000) : Calls Tryz.prog 53 #[.string (rB a), .string (rB b)] w (Ret w (.string (rB (a - b)))) := by
  have hU := Up.refl w
  have hl := rlen_neg b
  rw [Rat.sub_eq_add_neg]
  go_enter Tryz.func53, Tryz.ntmps53
  go_wp2_with fail
  refine (str_neg b _ (by omega)).mono ?_
  rintro _ _ ⟨rfl, hX⟩; replace hU := Up.trans hU hX; replace hE := Env.up hE hX; clear hX
  go_wp2_with fail
  refine (rat_add a (-b) _ hE ha (by omega)).mono ?_
  rintro _ _ ⟨rfl, hX⟩; replace hU := Up.trans hU hX; clear hX
  go_wp2
  go_ret
  exact ⟨rfl, hU⟩

theorem rat_sign (q : Rat) (w : World) (hq : rlen q ≤ 100000000) : Calls Tryz.prog 78 #[.string (rB q)] w fun e w' => e = .returned (.int .i64 q.num.sign) ∧ w' = w := by
  have hs := rB_size q
  have hp := rB_pos q
  have h0 := rB_is0 q
  have h1 := rB_first q hp
  have hn := @num_neg_iff q
  by_cases hz : q = 0
  · subst hz
    rw [decide_eq_true rfl] at h0
    clear h1
    go_enter Tryz.func78, Tryz.ntmps78
    go_wp2
    go_ret
    exact ⟨rfl, rfl⟩
  · rw [decide_eq_false hz] at h0
    have hnz : q.num ≠ 0 := by rwa [ne_eq, Rat.num_eq_zero]
    by_cases hneg : q < 0
    · rw [decide_eq_true hneg] at h1
      have e := Lib.hid (Int.sign_eq_neg_one_of_neg (hn.2 hneg))
      clear hn
      go_enter Tryz.func78, Tryz.ntmps78
      go_wp2
      go_ret
      exact ⟨by rw [e.out]; rfl, rfl⟩
    · rw [decide_eq_false hneg] at h1
      have e := Lib.hid (Int.sign_eq_one_of_pos (show 0 < q.num by have := mt hn.1 hneg; omega))
      clear hn
      go_enter Tryz.func78, Tryz.ntmps78
      go_wp2
      go_ret
      exact ⟨by rw [e.out]; rfl, rfl⟩

theorem rat_div0 (a : Rat) (w : World) : Calls Tryz.prog 63 #[.string (rB a), .string (rB 0)] w fun e w' => e = .returned (.tuple #[.string (mkB []), .int .i64 17]) ∧ w' = w := by
  have zb := rB_is0 0
  rw [decide_eq_true rfl] at zb
  go_enter Tryz.func63, Tryz.ntmps63
  go_wp2
  go_ret2
  exact ⟨rfl, rfl⟩

theorem rat_div (a b : Rat) (w : World) (hE : Env w) (ha : rlen a ≤ 100000) (hb : rlen b ≤ 100000) (h0 : b ≠ 0) : Calls Tryz.prog 63 #[.string (rB a), .string (rB b)] w (Ret w (.tuple #[.string (rB (a / b)), .int .i64 0])) := by
  have hU := Up.refl w
  have hs := rB_size b
  have hp := rB_pos b
  have z0 := rB_is0 b
  rw [decide_eq_false h0] at z0
  have h1 := rB_first b hp
  have bn := Nat.le_trans (rlen_num b) hb
  have bd := Nat.le_trans (rlen_den b) hb
  have hnz : b.num ≠ 0 := by rwa [ne_eq, Rat.num_eq_zero]
  obtain ⟨e1, e2⟩ := inv_parts h0
  have hl := rlen_inv h0
  have hj := rat_join b⁻¹
  have hm := rat_mul a b⁻¹
  rw [← Rat.div_def] at hm
  rw [e1, e2] at hj
  have hnn := @num_neg_iff b
  by_cases hneg : b < 0
  · rw [decide_eq_true hneg] at h1
    have hb0 := hnn.2 hneg
    rw [Int.sign_eq_neg_one_of_neg hb0, show (-1 : Int) * (b.den : Int) = -(b.den : Int) by omega, show (b.num.natAbs : Int) = -b.num by omega] at hj
    clear e1 e2 h0 hnn
    go_enter Tryz.func63, Tryz.ntmps63
    go_wp2_with fail
    refine (rat_parts b _ hE (by omega)).mono ?_
    rintro _ _ ⟨rfl, hX⟩; replace hU := Up.trans hU hX; replace hE := Env.up hE hX; clear hX
    go_wp2_with fail
    refine (int_neg b.num _ (by omega)).mono ?_
    rintro _ _ ⟨rfl, hX⟩; replace hU := Up.trans hU hX; replace hE := Env.up hE hX; clear hX
    go_wp2_with fail
    refine (int_neg b.den _ (by omega)).mono ?_
    rintro _ _ ⟨rfl, hX⟩; replace hU := Up.trans hU hX; replace hE := Env.up hE hX; clear hX
    go_wp2_with fail
    refine (hj _ (by omega)).mono ?_
    rintro _ _ ⟨rfl, hX⟩; replace hU := Up.trans hU hX; replace hE := Env.up hE hX; clear hX
    go_wp2_with fail
    refine (hm _ hE ha (by omega)).mono ?_
    rintro _ _ ⟨rfl, hX⟩; replace hU := Up.trans hU hX; clear hX
    go_wp2
    go_ret2
    exact ⟨rfl, hU⟩
  · rw [decide_eq_false hneg] at h1
    have hb0 : 0 < b.num := by have := mt hnn.1 hneg; omega
    rw [Int.sign_eq_one_of_pos hb0, Int.one_mul, show (b.num.natAbs : Int) = b.num by omega] at hj
    clear e1 e2 h0 hnn
    go_enter Tryz.func63, Tryz.ntmps63
    go_wp2_with fail
    refine (rat_parts b _ hE (by omega)).mono ?_
    rintro _ _ ⟨rfl, hX⟩; replace hU := Up.trans hU hX; replace hE := Env.up hE hX; clear hX
    go_wp2_with fail
    refine (hj _ (by omega)).mono ?_
    rintro _ _ ⟨rfl, hX⟩; replace hU := Up.trans hU hX; replace hE := Env.up hE hX; clear hX
    go_wp2_with fail
    refine (hm _ hE ha (by omega)).mono ?_
    rintro _ _ ⟨rfl, hX⟩; replace hU := Up.trans hU hX; clear hX
    go_wp2
    go_ret2
    exact ⟨rfl, hU⟩

/-- the order of numbers: -1, 0 or 1 -/
def cmpR (a b : Rat) : Int := if a < b then -1 else if b < a then 1 else 0
theorem cmpR_eq (a b : Rat) : cmpI (a.num * b.den) (b.num * a.den) = cmpR a b := by
  unfold cmpI cmpR
  simp only [Rat.lt_iff]

set_option maxRecDepth 100000 in
set_option maxHeartbeats 2000000 in
theorem rat_compare (a b : Rat) (w : World) (hE : Env w) (ha : rlen a ≤ 100000) (hb : rlen b ≤ 100000) : Calls Tryz.prog 85 #[.string (rB a), .string (rB b)] w (Ret w (.int .i64 (cmpR a b))) := by
  have hU := Up.refl w
  have ze := rB_eq a b
  by_cases h0 : a = b
  · subst h0
    rw [decide_eq_true rfl] at ze
    go_enter Tryz.func85, Tryz.ntmps85
    go_wp2
    go_ret
    exact ⟨by unfold cmpR; rw [if_neg (by grind), if_neg (by grind)]; rfl, hU⟩
  rw [decide_eq_false h0] at ze
  have an := Nat.le_trans (rlen_num a) ha
  have ad := Nat.le_trans (rlen_den a) ha
  have bn := Nat.le_trans (rlen_num b) hb
  have bd := Nat.le_trans (rlen_den b) hb
  have hc := int_compare (a.num * b.den) (b.num * a.den)
  have hce := Lib.hid (cmpR_eq a b)
  have l1 := ilen_mul_le an bd
  have l2 := ilen_mul_le bn ad
  clear h0
  go_enter Tryz.func85, Tryz.ntmps85
  go_wp2_with fail
  refine (rat_quick a _ (by omega)).mono ?_
  rintro e w1 ⟨rfl, ⟨rfl, ha1, ha2⟩ | rfl⟩
  case' inl =>
    go_wp2_with fail
    refine (rat_quick b _ (by omega)).mono ?_
    rintro e w2 ⟨rfl, ⟨rfl, hb1, hb2⟩ | rfl⟩
    case inl =>
      have m1 := abs_mul_lt ha1 (y := (b.den : Int)) rfl hb2
      have m2 := abs_mul_lt hb1 (y := (a.den : Int)) rfl ha2
      rcases cmpI_cases (a.num * b.den) (b.num * a.den) with ⟨h, e⟩ | ⟨h, e⟩ | ⟨h, e⟩
      · have E := Lib.hid e
        clear e
        go_wp2
        go_ret
        exact ⟨by rw [← hce.out, E.out]; rfl, hU⟩
      · have E := Lib.hid e
        have n1 : ¬ a.num * (b.den : Int) < b.num * (a.den : Int) := by omega
        have n2 : ¬ b.num * (a.den : Int) < a.num * (b.den : Int) := by omega
        clear e h
        go_wp2
        go_ret
        exact ⟨by rw [← hce.out, E.out]; rfl, hU⟩
      · have E := Lib.hid e
        have n1 : ¬ a.num * (b.den : Int) < b.num * (a.den : Int) := by omega
        clear e
        go_wp2
        go_ret
        exact ⟨by rw [← hce.out, E.out]; rfl, hU⟩
  all_goals
    go_wp2_with fail
    refine (rat_parts a _ hE (by omega)).mono ?_
    rintro _ _ ⟨rfl, hX⟩; replace hU := Up.trans hU hX; replace hE := Env.up hE hX; clear hX
    go_wp2_with fail
    refine (rat_parts b _ hE (by omega)).mono ?_
    rintro _ _ ⟨rfl, hX⟩; replace hU := Up.trans hU hX; replace hE := Env.up hE hX; clear hX
    go_wp2_with fail
    refine (int_mul a.num b.den _ hE (by omega) (by omega)).mono ?_
    rintro _ _ ⟨rfl, hX⟩; replace hU := Up.trans hU hX; replace hE := Env.up hE hX; clear hX
    go_wp2_with fail
    refine (int_mul b.num a.den _ hE (by omega) (by omega)).mono ?_
    rintro _ _ ⟨rfl, hX⟩; replace hU := Up.trans hU hX; replace hE := Env.up hE hX; clear hX
    go_wp2_with fail
    refine (hc _ (by omega) (by omega)).mono ?_
    rintro _ _ ⟨rfl, hX⟩; replace hU := Up.trans hU hX; clear hX
    go_wp2
    go_ret
    exact ⟨by rw [← hce.out]; rfl, hU⟩
end Go.Proofs.Klp
/- Which texts are numbers: the program's test of an integer. -/
namespace Go.Proofs.Klp
open Go.RowKit Go.Shelf
open Go.Lib (decDigits itoa hasPrefix trimPrefix)

open Classical in
/-- whether a string is an integer of at most 200 digits -/
noncomputable def okI (s : ByteArray) : Bool := decide (OkI s.data.toList)
theorem okI_true {s : ByteArray} (h : OkI s.data.toList) : okI s = true := by unfold okI; exact @decide_eq_true _ (_) h
theorem okI_false {s : ByteArray} (h : ¬ OkI s.data.toList) : okI s = false := by unfold okI; exact @decide_eq_false _ (_) h
theorem errN_true : errN true = 0 := rfl
theorem errN_false : errN false = 2 := rfl

theorem trim_form (l : List UInt8) : l = (if hasPrefix l [45] then 45 :: trimPrefix l [45] else trimPrefix l [45]) ∧ (hasPrefix l [45] = false → l.head? ≠ some 45) := by
  unfold trimPrefix
  cases h : hasPrefix l [45] with
  | true =>
    rw [hp_head] at h
    have h' : l.head? = some 45 := by simpa using h
    cases l with
    | nil => simp at h'
    | cons a l =>
      have : a = 45 := by simpa using h'
      subst this
      exact ⟨by simp, by simp⟩
  | false =>
    rw [hp_head] at h
    exact ⟨by simp, fun _ => by simpa using h⟩
theorem ret_err {b : Bool} {k : Int} (h : errN b = k) {w w' : World} (hU : Up w w') : Ending.returned (.int .i64 k) = .returned (.int .i64 (errN b)) ∧ Up w w' := ⟨by rw [h], hU⟩

set_option maxRecDepth 100000 in
set_option maxHeartbeats 4000000 in
theorem int_check (s : ByteArray) (w : World) : Calls Tryz.prog 120 #[.string s] w (Ret w (.int .i64 (errN (okI s)))) := by
  have hU := Up.refl w
  obtain ⟨hform, hhead⟩ := trim_form s.data.toList
  have hcp : Calls Tryz.prog 146 #[.string s, .string (mkB [45])] w (Ret w (.tuple #[.string (mkB (trimPrefix s.data.toList [45])), .bool (hasPrefix s.data.toList [45])])) :=
    (Tryz.strings_CutPrefix s (mkB [45]) w).mono fun e w' h => ⟨h.1, h.2 ▸ Up.refl _⟩
  have hiff := okI_iff (hasPrefix s.data.toList [45]) (trimPrefix s.data.toList [45]) s.data.toList hform hhead
  have hlen : (trimPrefix s.data.toList [45]).length ≤ s.size := by
    rw [show s.size = s.data.toList.length from Go.Lib.size_eq s]
    conv => rhs; rw [hform]
    split <;> simp
  obtain ⟨t, ht⟩ : ∃ t, trimPrefix s.data.toList [45] = t := ⟨_, rfl⟩
  obtain ⟨m, hm⟩ : ∃ m, hasPrefix s.data.toList [45] = m := ⟨_, rfl⟩
  rw [ht, hm] at hcp hiff
  rw [ht] at hlen
  clear hform hhead ht hm
  have hsz := mkB_size t
  have htl := mkB_toList t
  cases t with
  | nil =>
    have hr := okI_false (s := s) (fun h => (hiff.1 h).1 rfl)
    have HR := Lib.hid hr
    have hz : ((mkB []).toList == []) = true := by rw [htl]; rfl
    clear hr htl
    go_enter Tryz.func120, Tryz.ntmps120
    go_wp2_with fail
    refine (hcp).mono ?_
    rintro _ _ ⟨rfl, hX⟩; replace hU := Up.trans hU hX; clear hX
    go_wp2
    go_ret
    exact ⟨by rw [HR.out]; rfl, hU⟩
  | cons c t =>
    have hz : ((mkB (c :: t)).toList == []) = false := by rw [htl]; rfl
    have hb0 : ∀ h : 0 < (mkB (c :: t)).size, (((mkB (c :: t))[0]'h).toNat : Int) = c.toNat := fun h => rfl
    clear htl
    rw [List.length_cons] at hsz hlen hiff
    by_cases h200 : 200 < t.length + 1
    · have hr := okI_false (s := s) (fun h => by have := (hiff.1 h).2.1; omega)
      have HR := Lib.hid hr
      clear hr hiff
      go_enter Tryz.func120, Tryz.ntmps120
      go_wp2_with fail
      refine (hcp).mono ?_
      rintro _ _ ⟨rfl, hX⟩; replace hU := Up.trans hU hX; clear hX
      go_wp2
      all_goals first
        | (exfalso; omega)
        | (go_ret; exact ⟨by rw [HR.out]; rfl, hU⟩)
    · by_cases h48 : c.toNat = 48 ∧ (1 < t.length + 1 ∨ m = true)
      · have hr := okI_false (s := s) (fun h => (hiff.1 h).2.2.1 ⟨by rw [List.head?_cons, u8_ext (b := 48) h48.1], h48.2⟩)
        have HR := Lib.hid hr
        clear hr hiff
        obtain ⟨h48a, h48b⟩ := h48
        rcases h48b with h48b | h48b
        · go_enter Tryz.func120, Tryz.ntmps120
          go_wp2_with fail
          refine (hcp).mono ?_
          rintro _ _ ⟨rfl, hX⟩; replace hU := Up.trans hU hX; clear hX
          go_wp2
          all_goals first
            | (exfalso; omega)
            | (go_ret; exact ⟨by rw [HR.out]; rfl, hU⟩)
        · subst h48b
          go_enter Tryz.func120, Tryz.ntmps120
          go_wp2_with fail
          refine (hcp).mono ?_
          rintro _ _ ⟨rfl, hX⟩; replace hU := Up.trans hU hX; clear hX
          go_wp2
          all_goals first
            | (exfalso; omega)
            | (go_ret; exact ⟨by rw [HR.out]; rfl, hU⟩)
      · have hiff' : OkI s.data.toList ↔ Digs (c :: t) := hiff.trans ⟨fun h => h.2.2.2, fun h => ⟨by simp, by omega, fun k => h48 ⟨by have := Option.some.inj (k.1.symm.trans (List.head?_cons ..)); rw [← this]; rfl, k.2⟩, h⟩⟩
        have HI := Lib.hid hiff'
        have hm0 : c.toNat = 48 → t.length = 0 ∧ m = false := fun h => by
          refine ⟨?_, ?_⟩
          · rcases Nat.eq_zero_or_pos t.length with k | k
            · exact k
            · exact absurd ⟨h, .inl (by omega)⟩ h48
          · cases m with
            | false => rfl
            | true => exact absurd ⟨h, .inr rfl⟩ h48
        clear hiff hiff' h48
        obtain ⟨n, hn⟩ : ∃ n, t.length + 1 = n := ⟨_, rfl⟩
        have hln : (c :: t).length = n := hn
        have hn1 : t.length = n - 1 := by omega
        have hn0 : 0 < n := by omega
        rw [hn] at hsz hlen h200
        rw [hn1] at hm0
        clear hn hn1
        obtain ⟨L, hL⟩ : ∃ L, c :: t = L := ⟨_, rfl⟩
        rw [hL] at hcp hsz hz hb0 hln HI
        have HLN := Lib.hid hln
        clear hL hln
        go_enter Tryz.func120, Tryz.ntmps120
        by_cases h48 : c.toNat = 48
        case' pos =>
          obtain ⟨hn1, rfl⟩ := hm0 h48
          have hn2 : ¬ 1 < n := by omega
          have hn3 : ¬ (1 : Int) < n := by omega
          clear hm0 hn1
          go_wp2_with fail
          refine (hcp).mono ?_
          rintro _ _ ⟨rfl, hX⟩; replace hU := Up.trans hU hX; clear hX
          go_wp2_with fail
        case' neg =>
          have h48' : ¬ ((c.toNat : Int) = 48) := by omega
          clear hm0
          go_wp2_with fail
          refine (hcp).mono ?_
          rintro _ _ ⟨rfl, hX⟩; replace hU := Up.trans hU hX; clear hX
          go_wp2_with fail
        all_goals
          go_loopw [33] (fun i wr => ∃ k : Nat, k ≤ n ∧ i = .int .i64 k ∧ Hid (∀ j, (h : j < L.length) → j < k → 48 ≤ (L[j]).toNat ∧ (L[j]).toNat ≤ 57) ∧ Up w wr) (fun i _ => n - (intOf i).toNat)
          case atStart => exact ⟨0, Nat.zero_le _, rfl, Lib.hid (fun j _ h => absurd h (Nat.not_lt_zero _)), hU⟩
          case round =>
            obtain ⟨k, hk, rfl, hd, hUr⟩ := hrel
            by_cases hlt : k < n
            · have hkL : k < L.length := by rw [HLN.out]; exact hlt
              have hb : ∀ h : k < (mkB L).size, (((mkB L)[k]'h).toNat : Int) = (L[k]'hkL).toNat := fun h => rfl
              obtain ⟨b, hbd⟩ : ∃ b, L[k] = b := ⟨_, rfl⟩
              rw [hbd] at hb
              have HB := Lib.hid hbd
              clear hbd
              by_cases h1 : b.toNat < 48
              · have hr := okI_false (s := s) (fun h => by have := HI.out.1 h _ (List.getElem_mem hkL); rw [HB.out] at this; omega)
                have HR := Lib.hid hr
                clear hr
                go_wp2
                go_ret
                exact ⟨by rw [HR.out]; rfl, hUr⟩
              · by_cases h2 : 57 < b.toNat
                · have hr := okI_false (s := s) (fun h => by have := HI.out.1 h _ (List.getElem_mem hkL); rw [HB.out] at this; omega)
                  have HR := Lib.hid hr
                  clear hr
                  go_wp2
                  go_ret
                  exact ⟨by rw [HR.out]; rfl, hUr⟩
                · go_wp2_with fail
                  go_roundw
                  case rel => exact ⟨k + 1, by omega, by go_num, Lib.hid (fun j h hj => by
                    rcases Nat.lt_or_ge j k with hjk | hjk
                    · exact hd.out j h hjk
                    · obtain rfl : j = k := by omega
                      rw [HB.out]; omega), hUr⟩
                  case measure => simp [intOf]; omega
            · obtain rfl : k = n := by omega
              have hr := okI_true (s := s) (HI.out.2 fun x hx => by
                obtain ⟨j, hj, rfl⟩ := List.getElem_of_mem hx
                exact hd.out j hj (by rw [HLN.out] at hj; exact hj))
              have HR := Lib.hid hr
              clear hr
              go_wp2
              go_ret
              exact ⟨by rw [HR.out]; rfl, hUr⟩
end Go.Proofs.Klp
/- Which texts are numbers: the program's test of a number. -/
namespace Go.Proofs.Klp
open Go.RowKit Go.Shelf
open Go.Lib (decDigits itoa)

open Classical in
/-- whether a string is a number with at most 200 digits above and below -/
noncomputable def okR (s : ByteArray) : Bool := decide (OkR s.data.toList)
theorem okR_true {s : ByteArray} (h : OkR s.data.toList) : okR s = true := by unfold okR; exact @decide_eq_true _ (_) h
theorem okR_false {s : ByteArray} (h : ¬ OkR s.data.toList) : okR s = false := by unfold okR; exact @decide_eq_false _ (_) h
theorem okI_iB {s : ByteArray} (h : OkI s.data.toList) : ∃ n : Int, s = iB n ∧ ilen n ≤ 200 := by
  obtain ⟨n, e, hn⟩ := h
  exact ⟨n, mkB_ext (by rw [e]; rfl), hn⟩
theorem okR_rB {s : ByteArray} (h : okR s = true) : ∃ q : Rat, s = rB q ∧ rlen q ≤ 200 := by
  have h' : OkR s.data.toList := by unfold okR at h; exact @of_decide_eq_true _ (_) h
  obtain ⟨q, e, hq⟩ := h'
  exact ⟨q, mkB_ext (by rw [e]; rfl), hq⟩
theorem okR_of {q : Rat} (h : rlen q ≤ 200) : okR (rB q) = true := okR_true ⟨q, rfl, h⟩
theorem okI_congr {s t : ByteArray} (h : OkI s.data.toList ↔ OkR t.data.toList) : okI s = okR t := by
  by_cases k : OkI s.data.toList
  · rw [okI_true k, okR_true (h.1 k)]
  · rw [okI_false k, okR_false (fun j => k (h.2 j))]

theorem errN_beq (b : Bool) : (errN b != 0) = !b := by cases b <;> rfl

set_option maxRecDepth 100000 in
set_option maxHeartbeats 4000000 in
theorem rat_check (s : ByteArray) (w : World) (hE : Env w) (hs : s.size ≤ 1000000000) : Calls Tryz.prog 88 #[.string s] w (Ret w (.int .i64 (errN (okR s)))) := by
  have hU := Up.refl w
  obtain ⟨mx, hmx⟩ := hE.maxl
  have hcut := Tryz.strings_Cut s (mkB [47]) mx w (by omega) hmx
  rw [mkB_data] at hcut
  rcases slash_cases 47 s.data.toList with hno | ⟨a, b, hl, ha⟩
  · have hok := okI_congr (s := s) (t := s) (okR_no hno).symm
    have hc : Calls Tryz.prog 119 #[.string s, .string (mkB [47])] w (Ret w (.tuple #[.string s, .string (mkB []), .bool false])) := by
      rw [cut_no hno] at hcut
      exact hcut.mono fun e w' ⟨h1, k, h2⟩ => ⟨h1, h2 ▸ (Up.refl _).drewN k⟩
    have hck := int_check s
    rw [hok] at hck
    clear hcut hok
    by_cases hb : okR s = true
    · rw [hb] at hck ⊢
      go_enter Tryz.func88, Tryz.ntmps88
      go_wp2_with fail
      refine (hc).mono ?_
      rintro _ _ ⟨rfl, hX⟩; replace hU := Up.trans hU hX; clear hX
      go_wp2_with fail
      refine (hck _).mono ?_
      rintro _ _ ⟨rfl, hX⟩; replace hU := Up.trans hU hX; clear hX
      go_wp2
      go_ret
      exact ⟨rfl, hU⟩
    · have hb' : okR s = false := by simpa using hb
      rw [hb'] at hck ⊢
      go_enter Tryz.func88, Tryz.ntmps88
      go_wp2_with fail
      refine (hc).mono ?_
      rintro _ _ ⟨rfl, hX⟩; replace hU := Up.trans hU hX; clear hX
      go_wp2_with fail
      refine (hck _).mono ?_
      rintro _ _ ⟨rfl, hX⟩; replace hU := Up.trans hU hX; clear hX
      go_wp2
      go_ret
      exact ⟨rfl, hU⟩
  · have hc : Calls Tryz.prog 119 #[.string s, .string (mkB [47])] w (Ret w (.tuple #[.string (mkB a), .string (mkB b), .bool true])) := by
      rw [hl, cut_at ha] at hcut
      exact hcut.mono fun e w' ⟨h1, k, h2⟩ => ⟨h1, h2 ▸ (Up.refl _).drewN k⟩
    have hiff := okR_at (b := b) ha
    rw [← hl] at hiff
    have hca := int_check (mkB a)
    have hcb := int_check (mkB b)
    clear hcut hl
    by_cases h1 : OkI a
    · have e1 : okI (mkB a) = true := okI_true (s := mkB a) h1
      rw [e1, errN_true] at hca
      by_cases h2 : OkI b
      · have e2 : okI (mkB b) = true := okI_true (s := mkB b) h2
        rw [e2, errN_true] at hcb
        obtain ⟨m, rfl, hm⟩ := h1
        obtain ⟨n, rfl, hn⟩ := h2
        change Calls Tryz.prog 119 _ w (Ret w (.tuple #[.string (iB m), .string (iB n), .bool true])) at hc
        change ∀ w, Calls Tryz.prog 120 #[.string (iB m)] w _ at hca
        change ∀ w, Calls Tryz.prog 120 #[.string (iB n)] w _ at hcb
        have hcmp := int_compare n 1
        rw [iB_one] at hcmp
        have hi1 : ilen 1 ≤ 1 := big_of_lt (by omega) (by decide)
        have hm0 := iB_is0 m
        have hg1 := iB_is1 (Int.gcd m n : Int)
        clear e1 e2
        by_cases h3 : n ≤ 1
        · have hr := okR_false (s := s) (fun h => by
            obtain ⟨m', n', _, _, e, _, h, _⟩ := hiff.1 h
            rw [← itoa_inj e] at h; omega)
          have HR := Lib.hid hr
          have hle : cmpI n 1 ≤ 0 := by rcases cmpI_cases n 1 with h | h | h <;> omega
          have hle' : (cmpI n 1 ≤ 0) = True := by simp [hle]
          clear hr
          go_enter Tryz.func88, Tryz.ntmps88
          go_wp2_with fail
          refine (hc).mono ?_
          rintro _ _ ⟨rfl, hX⟩; replace hU := Up.trans hU hX; replace hE := Env.up hE hX; clear hX
          go_wp2_with fail
          refine (hca _).mono ?_
          rintro _ _ ⟨rfl, hX⟩; replace hU := Up.trans hU hX; replace hE := Env.up hE hX; clear hX
          go_wp2_with fail
          refine (hcb _).mono ?_
          rintro _ _ ⟨rfl, hX⟩; replace hU := Up.trans hU hX; replace hE := Env.up hE hX; clear hX
          go_wp2_with fail
          refine (hcmp _ (by omega) (by omega)).mono ?_
          rintro _ _ ⟨rfl, hX⟩; replace hU := Up.trans hU hX; replace hE := Env.up hE hX; clear hX
          go_wp2
          all_goals first
            | (exfalso; omega)
            | (go_ret; exact ⟨by rw [HR.out]; rfl, hU⟩)
        · have hgt : ¬ cmpI n 1 ≤ 0 := by rcases cmpI_cases n 1 with h | h | h <;> omega
          by_cases h4 : m = 0
          · have hr := okR_false (s := s) (fun h => by
              obtain ⟨m', n', e, _, _, _, _, h, _⟩ := hiff.1 h
              rw [← itoa_inj e] at h; exact h h4)
            have HR := Lib.hid hr
            rw [decide_eq_true h4] at hm0
            clear hr h4
            go_enter Tryz.func88, Tryz.ntmps88
            go_wp2_with fail
            refine (hc).mono ?_
            rintro _ _ ⟨rfl, hX⟩; replace hU := Up.trans hU hX; replace hE := Env.up hE hX; clear hX
            go_wp2_with fail
            refine (hca _).mono ?_
            rintro _ _ ⟨rfl, hX⟩; replace hU := Up.trans hU hX; replace hE := Env.up hE hX; clear hX
            go_wp2_with fail
            refine (hcb _).mono ?_
            rintro _ _ ⟨rfl, hX⟩; replace hU := Up.trans hU hX; replace hE := Env.up hE hX; clear hX
            go_wp2_with fail
            refine (hcmp _ (by omega) (by omega)).mono ?_
            rintro _ _ ⟨rfl, hX⟩; replace hU := Up.trans hU hX; replace hE := Env.up hE hX; clear hX
            go_wp2
            all_goals first
              | (exfalso; omega)
              | (go_ret; exact ⟨by rw [HR.out]; rfl, hU⟩)
          · rw [decide_eq_false h4] at hm0
            have hgc := int_gcd m n
            by_cases h5 : Int.gcd m n = 1
            · have hr := okR_true (s := s) (hiff.2 ⟨m, n, rfl, hm, rfl, hn, by omega, h4, h5⟩)
              have HR := Lib.hid hr
              rw [decide_eq_true (by omega)] at hg1
              clear hr h4 h5
              go_enter Tryz.func88, Tryz.ntmps88
              go_wp2_with fail
              refine (hc).mono ?_
              rintro _ _ ⟨rfl, hX⟩; replace hU := Up.trans hU hX; replace hE := Env.up hE hX; clear hX
              go_wp2_with fail
              refine (hca _).mono ?_
              rintro _ _ ⟨rfl, hX⟩; replace hU := Up.trans hU hX; replace hE := Env.up hE hX; clear hX
              go_wp2_with fail
              refine (hcb _).mono ?_
              rintro _ _ ⟨rfl, hX⟩; replace hU := Up.trans hU hX; replace hE := Env.up hE hX; clear hX
              go_wp2_with fail
              refine (hcmp _ (by omega) (by omega)).mono ?_
              rintro _ _ ⟨rfl, hX⟩; replace hU := Up.trans hU hX; replace hE := Env.up hE hX; clear hX
              go_wp2_with fail
              refine (hgc _ hE (by omega) (by omega)).mono ?_
              rintro _ _ ⟨rfl, hX⟩; replace hU := Up.trans hU hX; clear hX
              go_wp2
              all_goals first
                | (exfalso; omega)
                | (go_ret; exact ⟨by rw [HR.out]; rfl, hU⟩)
            · have hr := okR_false (s := s) (fun h => by
                obtain ⟨m', n', e, _, e', _, _, _, h⟩ := hiff.1 h
                rw [← itoa_inj e, ← itoa_inj e'] at h; exact h5 h)
              have HR := Lib.hid hr
              rw [decide_eq_false (by omega)] at hg1
              clear hr h4 h5
              go_enter Tryz.func88, Tryz.ntmps88
              go_wp2_with fail
              refine (hc).mono ?_
              rintro _ _ ⟨rfl, hX⟩; replace hU := Up.trans hU hX; replace hE := Env.up hE hX; clear hX
              go_wp2_with fail
              refine (hca _).mono ?_
              rintro _ _ ⟨rfl, hX⟩; replace hU := Up.trans hU hX; replace hE := Env.up hE hX; clear hX
              go_wp2_with fail
              refine (hcb _).mono ?_
              rintro _ _ ⟨rfl, hX⟩; replace hU := Up.trans hU hX; replace hE := Env.up hE hX; clear hX
              go_wp2_with fail
              refine (hcmp _ (by omega) (by omega)).mono ?_
              rintro _ _ ⟨rfl, hX⟩; replace hU := Up.trans hU hX; replace hE := Env.up hE hX; clear hX
              go_wp2_with fail
              refine (hgc _ hE (by omega) (by omega)).mono ?_
              rintro _ _ ⟨rfl, hX⟩; replace hU := Up.trans hU hX; clear hX
              go_wp2
              all_goals first
                | (exfalso; omega)
                | (go_ret; exact ⟨by rw [HR.out]; rfl, hU⟩)
      · have hr := okR_false (s := s) (fun h => by
          obtain ⟨m, n, _, _, e, hn, _⟩ := hiff.1 h
          exact h2 ⟨n, e, hn⟩)
        have HR := Lib.hid hr
        have e2 : okI (mkB b) = false := okI_false (s := mkB b) h2
        rw [e2, errN_false] at hcb
        clear hr e2 e1
        go_enter Tryz.func88, Tryz.ntmps88
        go_wp2_with fail
        refine (hc).mono ?_
        rintro _ _ ⟨rfl, hX⟩; replace hU := Up.trans hU hX; clear hX
        go_wp2_with fail
        refine (hca _).mono ?_
        rintro _ _ ⟨rfl, hX⟩; replace hU := Up.trans hU hX; clear hX
        go_wp2_with fail
        refine (hcb _).mono ?_
        rintro _ _ ⟨rfl, hX⟩; replace hU := Up.trans hU hX; clear hX
        go_wp2
        go_ret
        exact ⟨by rw [HR.out]; rfl, hU⟩
    · have hr := okR_false (s := s) (fun h => by
        obtain ⟨m, n, e, hm, _⟩ := hiff.1 h
        exact h1 ⟨m, e, hm⟩)
      have HR := Lib.hid hr
      have e1 : okI (mkB a) = false := okI_false (s := mkB a) h1
      rw [e1, errN_false] at hca
      clear hr e1
      go_enter Tryz.func88, Tryz.ntmps88
      go_wp2_with fail
      refine (hc).mono ?_
      rintro _ _ ⟨rfl, hX⟩; replace hU := Up.trans hU hX; clear hX
      go_wp2_with fail
      refine (hca _).mono ?_
      rintro _ _ ⟨rfl, hX⟩; replace hU := Up.trans hU hX; clear hX
      go_wp2
      go_ret
      exact ⟨by rw [HR.out]; rfl, hU⟩
end Go.Proofs.Klp
