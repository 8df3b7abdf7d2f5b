/- The reference's numbers: parts and fractions. -/
import Derived.Test.YtooldicbicanaaaGreatDoorKJ
namespace Go.Proofs.Klp
open Go.RowKit Go.Shelf
open Go.Lib (decDigits itoa indexByte)

theorem parts_no (s : ByteArray) (w : World) (h : ∀ z ∈ s.data.toList, z ≠ 47) : Calls Tryz.prog 67 #[.string s] w (Ret w (.tuple #[.string s, .string (mkB [49])])) := by
  have hi := Tryz.strings_IndexByte s 47 w
  rw [show ((47 : Int).toNat.toUInt8) = 47 from rfl, indexByte_no _ _ h] at hi
  go_enter Tryz.func67, Tryz.ntmps67
  go_wp2_with fail
  refine hi.mono ?_
  rintro _ _ ⟨rfl, rfl⟩
  go_wp2
  go_ret2
  exact ⟨rfl, Up.refl _⟩
theorem parts_at (s : ByteArray) (a b : List UInt8) (w : World) (h : ∀ z ∈ a, z ≠ 47) (hs : s = mkB (a ++ 47 :: b)) (hb : s.size ≤ 4000000000000000000) : Calls Tryz.prog 67 #[.string s] w (Ret w (.tuple #[.string (mkB a), .string (mkB b)])) := by
  have hi := Tryz.strings_IndexByte s 47 w
  rw [hs, mkB_data, show ((47 : Int).toNat.toUInt8) = 47 from rfl, indexByte_at _ _ _ h, ← hs] at hi
  have hz : s.size = a.length + (b.length + 1) := by rw [hs, mkB_size, List.length_append, List.length_cons]
  have x1 : s.extract 0 a.length = mkB a := by rw [hs, mkB_extract]; simp
  have x2 : s.extract (a.length + 1) (a.length + (b.length + 1)) = mkB b := by
    rw [hs, mkB_extract, List.take_of_length_le (by simp), show a ++ 47 :: b = (a ++ [47]) ++ b by simp, List.drop_left' (by simp)]
  have l1 : (a.length : Int) ≤ (a.length : Int) + ((b.length : Int) + 1) := by omega
  have l3 : IntKind.i64.wrap ((a.length : Int) + 1) = (a.length : Int) + 1 := IntWalk.i64_in _ (by omega)
  have l4 : ((a.length : Int) + 1).toNat = a.length + 1 := by omega
  have l0 : 0 ≤ (a.length : Int) + 1 := by omega
  have l2 : (a.length : Int) + 1 ≤ (a.length : Int) + ((b.length : Int) + 1) := by omega
  clear hs
  go_enter Tryz.func67, Tryz.ntmps67
  go_wp2_with fail
  refine hi.mono ?_
  rintro _ _ ⟨rfl, rfl⟩
  clear hi
  go_wp2
  go_quiet (fail)
  go_wp2
  go_ret2
  exact ⟨rfl, (Up.refl _).drewN _⟩

theorem r02_parts (q : Rat) (w : World) (hq : rlen q ≤ 100000000) : Calls Tryz.prog 67 #[.string (rB q)] w (Ret w (.tuple #[.string (iB q.num), .string (iB (q.den : Int))])) := by
  have hs := rB_size q
  by_cases h : q.den = 1
  · have e := parts_no (rB q) w (by rw [rB_data, ratT_int h]; exact no_slash_itoa _)
    rw [rB_whole h] at e
    rw [h, show ((1 : Nat) : Int) = 1 from rfl, iB_one, rB_whole h]
    exact e
  · have e := parts_at (rB q) (itoa q.num) (decDigits q.den) w (no_slash_itoa _) (rB_frac h) (by omega)
    rw [iB_nat]
    exact e

set_option maxRecDepth 100000 in
set_option maxHeartbeats 4000000 in
theorem r02_fraction (n d m : Int) (k : Nat) (w : World) (hE : Env w) (hk : k ≠ 0) (h : (0 < d ∧ m = n ∧ d = (k : Int)) ∨ (d < 0 ∧ -n = m ∧ -d = (k : Int))) (hn : ilen n ≤ 100000) (hd : ilen d ≤ 100000) : Calls Tryz.prog 68 #[.string (iB n), .string (iB d)] w (Ret w (.string (rB (mkRat m k)))) := by
  have hU := Up.refl w
  by_cases h9 : (iB n).size ≤ 9 ∧ (iB d).size ≤ 9
  · have hs := r02_small n d m k w hE hk h h9.1 h9.2
    obtain ⟨z1, z2⟩ := h9
    go_enter Tryz.func68, Tryz.ntmps68
    go_wp2_with fail
    refine (hs).mono ?_
    rintro _ _ ⟨rfl, hX⟩; replace hU := Up.trans hU hX; clear hX
    go_wp2
    go_ret
    exact ⟨rfl, hU⟩
  have hm1 : ilen m ≤ 100000 := by
    rcases h with ⟨_, rfl, _⟩ | ⟨_, rfl, _⟩
    · exact hn
    · unfold ilen at *; rwa [Int.natAbs_neg]
  have hk1 : ilen (k : Int) ≤ 100000 := by
    rcases h with ⟨_, _, rfl⟩ | ⟨_, _, h⟩
    · exact hd
    · rw [← h]; unfold ilen at *; rwa [Int.natAbs_neg]
  have z1 := ilen_le_size n
  have z2 := iB_size n
  have z3 := iB_size d
  have hsg := r01_sign d
  have hg := r01_gcd m (k : Int)
  have hg0 := gcd_pos' m hk
  have hgl := ilen_gcd m hk
  have e1 := mkRat_num m hk
  have e2 := mkRat_den m hk
  have hb : rlen (mkRat m k) ≤ 1000000 := by
    refine Nat.max_le.2 ⟨?_, ?_⟩
    · exact Nat.le_trans (ilen_mono (mkRat_num_le m k hk)) (by omega)
    · exact Nat.le_trans (dec_len_mono (mkRat_den_le m k hk)) (by unfold ilen at hk1; rw [Int.natAbs_natCast] at hk1; omega)
  have d1 : (Int.gcd m k : Int) ∣ m := Int.gcd_dvd_left ..
  have d2 : (Int.gcd m k : Int) ∣ (k : Int) := Int.gcd_dvd_right ..
  have f1 := r01_divmod m (Int.gcd m k : Int)
  have f2 := r01_divmod k (Int.gcd m k : Int)
  rw [← e1] at f1
  rw [← e2] at f2
  have hz := iB_is1 ((mkRat m k).den : Int)
  have b1 := rlen_num (mkRat m k)
  have b2 := rlen_den (mkRat m k)
  have s1 := iB_size (mkRat m k).num
  have s2 := iB_size ((mkRat m k).den : Int)
  have hw := @rB_whole (mkRat m k)
  have hf := @rB_cat (mkRat m k)
  generalize mkRat m k = q at *
  generalize Int.gcd m (k : Int) = g at *
  clear e1 e2
  have HW := Lib.hid hw
  have HF := Lib.hid hf
  clear hw hf
  by_cases h10 : (iB n).size ≤ 9
  case' pos => have h11 : ¬ (iB d).size ≤ 9 := fun h => h9 ⟨h10, h⟩
  all_goals
    clear h9
    rcases h with ⟨hd0, rfl, rfl⟩ | ⟨hd0, hmn, hkd⟩
    case' inl => rw [Int.sign_eq_one_of_pos hd0] at hsg
    case' inr =>
      rw [Int.sign_eq_neg_one_of_neg hd0] at hsg
      have n1 := r01_neg n
      have n2 := r01_neg d
      rw [hmn] at n1
      rw [hkd] at n2
      clear hmn hkd
    all_goals
      go_enter Tryz.func68, Tryz.ntmps68
      go_wp2_with fail
      refine (hsg _).mono ?_
      rintro _ _ ⟨rfl, hX⟩; replace hU := Up.trans hU hX; replace hE := Env.up hE hX; clear hX
      try
        go_wp2_with fail
        refine (n1 _ (by omega)).mono ?_
        rintro _ _ ⟨rfl, hX⟩; replace hU := Up.trans hU hX; replace hE := Env.up hE hX; clear hX
        go_wp2_with fail
        refine (n2 _ (by omega)).mono ?_
        rintro _ _ ⟨rfl, hX⟩; replace hU := Up.trans hU hX; replace hE := Env.up hE hX; clear hX
      go_wp2_with fail
      refine (hg _ hE hm1 hk1).mono ?_
      rintro _ _ ⟨rfl, hX⟩; replace hU := Up.trans hU hX; replace hE := Env.up hE hX; clear hX
      go_wp2_with fail
      refine (f1 _ hE hm1 (by omega) (by omega) (.inr d1)).mono ?_
      rintro _ _ ⟨rfl, hX⟩; replace hU := Up.trans hU hX; replace hE := Env.up hE hX; clear hX
      go_wp2_with fail
      refine (f2 _ hE hk1 (by omega) (by omega) (.inr d2)).mono ?_
      rintro _ _ ⟨rfl, hX⟩; replace hU := Up.trans hU hX; replace hE := Env.up hE hX; clear hX
      by_cases hq : q.den = 1
      · rw [decide_eq_true (by omega)] at hz
        have HQ := Lib.hid (HW.out hq)
        clear hq
        go_wp2
        go_ret
        exact ⟨by rw [HQ.out]; rfl, hU⟩
      · rw [decide_eq_false (by omega)] at hz
        have s3 : (iB q.num ++ mkB [47]).size = (iB q.num).size + 1 := by unfold iB; rw [mkB_append, mkB_size, mkB_size, List.length_append]; rfl
        have e := HF.out hq
        change (iB q.num ++ ({ data := #[47] } : ByteArray)) ++ iB (q.den : Int) = rB q at e
        change (iB q.num ++ ({ data := #[47] } : ByteArray)).size = _ at s3
        go_wp2
        all_goals first
          | (exfalso; omega)
          | (go_ret; exact ⟨rfl, hU⟩)

theorem r02_sign (q : Rat) (w : World) (hq : rlen q ≤ 100000000) : Calls Tryz.prog 46 #[.string (rB q)] w fun e w' => e = .returned (.int .i64 q.num.sign) ∧ w' = w := by
  have hs := rB_size q
  have hp := rB_pos q
  have h0 := rB_is0 q
  have h1 := rB_first q hp
  have hn := @num_neg_iff q
  by_cases hz : q = 0
  · subst hz
    rw [decide_eq_true rfl] at h0
    clear h1
    go_enter Tryz.func46, Tryz.ntmps46
    go_wp2
    go_ret
    exact ⟨rfl, rfl⟩
  · rw [decide_eq_false hz] at h0
    have hnz : q.num ≠ 0 := by rwa [ne_eq, Rat.num_eq_zero]
    by_cases hneg : q < 0
    · rw [decide_eq_true hneg] at h1
      have e := Lib.hid (Int.sign_eq_neg_one_of_neg (hn.2 hneg))
      clear hn
      go_enter Tryz.func46, Tryz.ntmps46
      go_wp2
      go_ret
      exact ⟨by rw [e.out]; rfl, rfl⟩
    · rw [decide_eq_false hneg] at h1
      have e := Lib.hid (Int.sign_eq_one_of_pos (show 0 < q.num by have := mt hn.1 hneg; omega))
      clear hn
      go_enter Tryz.func46, Tryz.ntmps46
      go_wp2
      go_ret
      exact ⟨by rw [e.out]; rfl, rfl⟩
end Go.Proofs.Klp
/- The reference's numbers: numbers with few bytes, as ints. -/
namespace Go.Proofs.Klp
open Go.RowKit Go.Shelf
open Go.Lib (decDigits itoa)

set_option maxRecDepth 100000 in
set_option maxHeartbeats 4000000 in
theorem brief_pos (q : Rat) (w : World) (hq : ¬ q < 0) (h9 : (rB q).size ≤ 9) : Calls Tryz.prog 70 #[.string (rB q)] w fun e w' => w' = w ∧ e = .returned (.tuple #[.int .i64 q.num, .int .i64 (q.den : Int), .bool true]) := by
  have hp := rB_pos q
  have h1 := rB_first q hp
  rw [decide_eq_false hq] at h1
  obtain ⟨R, hT, hR⟩ := num_bytes q
  rw [if_neg hq] at hT
  obtain ⟨D, hD⟩ : ∃ D, decDigits q.num.natAbs = D := ⟨_, rfl⟩
  have hdig : Digs D := hD ▸ digs_dec _
  have hval : tv D = q.num.natAbs := by rw [← hD, tv_dec]
  rw [hD] at hT
  have hsz : (rB q).size = 0 + (D.length + R.length) := by
    show (ratT q).length = _
    rw [hT, List.length_append, List.length_append]; rfl
  have HT := Lib.hid hT
  have HV := Lib.hid hval
  have HR := Lib.hid hR
  have HD := Lib.hid hdig
  have HDEN := Lib.hid (digs_dec q.den)
  clear hT hval hR hD hdig
  go_enter Tryz.func70, Tryz.ntmps70
  go_wp2_with fail
  go_loopw [2, 5] (fun a i wr => ∃ (k v : Nat), wr = w ∧ k ≤ D.length ∧ i = .int .i64 ((k : Int)) ∧ a = .int .i64 (v : Int) ∧ v < 1000000000 ∧ Hid (v = tv (D.take k))) (fun _ i _ => (rB q).size - (intOf i).toNat)
  case atStart => exact ⟨0, 0, rfl, Nat.zero_le _, rfl, rfl, by omega, Lib.hid rfl⟩
  case round =>
    obtain ⟨k, v, rfl, hk, rfl, rfl, hv, hvt⟩ := hrel
    by_cases hlt : k < D.length
    · have hc := HD.out _ (List.getElem_mem hlt)
      have hat : ∀ hk : k < (rB q).size, (((rB q)[k]'hk).toNat : Int) = (D[k]).toNat := fun hk => rB_at q HT.out (by have := at_mid (o := []) (R := R) hlt; rw [← this]; congr 1; simp; try omega) hk
      obtain ⟨c, hcd⟩ : ∃ c, D[k] = c := ⟨_, rfl⟩
      rw [hcd] at hc hat
      have HC := Lib.hid hcd
      have hne : ((c.toNat : Int) != 47) = true := by rw [bne_iff_ne]; omega
      clear hcd
      go_wp2_with fail
      refine ⟨⟨k + 1, v * 10 + (c.toNat - 48), trivial, by omega, by go_num, by go_num, ?_, Lib.hid ?_⟩, ?_⟩
      · have := tv_take_lt HD.out (show k + 1 ≤ 9 by omega)
        rw [tv_take hlt, ← hvt.out, HC.out] at this
        exact this
      · rw [tv_take hlt, ← hvt.out, HC.out]
      · simp [intOf]; omega
    · obtain rfl : k = D.length := by omega
      have hvn : v = q.num.natAbs := by rw [hvt.out, List.take_length, HV.out]
      rcases HR.out with ⟨hden, rfl⟩ | ⟨hden, rfl⟩
      · have hnum : (v : Int) = q.num := by have := mt num_neg_iff.1 hq; omega
        have HN := Lib.hid hnum
        have HDN := Lib.hid hden
        rw [List.length_nil, Nat.add_zero] at hsz
        clear hvn hnum hden
        go_wp2_with fail
        go_ret3
        exact ⟨rfl, tup3 HN.out (by rw [HDN.out]; rfl)⟩
      · have hat : ∀ hk : D.length < (rB q).size, (((rB q)[D.length]'hk).toNat : Int) = 47 := fun hk => rB_at q HT.out (c := 47) (by have := at_end (o := []) (D := D) (R := 47 :: decDigits q.den) (k := 0); rw [List.getElem?_cons_zero] at this; rw [← this]; congr 1; simp; try omega) hk
        rw [List.length_cons] at hsz
        have hdn := HDEN.out
        have HDN := Lib.hid hden
        have HVN := Lib.hid hvn
        clear hvn hden
        go_wp2_with fail
        go_loopw [3, 5] (fun b i wr' => ∃ (j u : Nat), wr' = wr ∧ j ≤ (decDigits q.den).length ∧ i = .int .i64 ((D.length : Int) + 1 + (j : Int)) ∧ b = .int .i64 (u : Int) ∧ u < 1000000000 ∧ Hid (u = tv ((decDigits q.den).take j))) (fun _ i _ => (rB q).size - (intOf i).toNat)
        case atStart => exact ⟨0, 0, rfl, Nat.zero_le _, by go_num, rfl, by omega, Lib.hid rfl⟩
        case round =>
          obtain ⟨j, u, rfl, hj, rfl, rfl, hu, hut⟩ := hrel
          by_cases hlt2 : j < (decDigits q.den).length
          · have hc := hdn _ (List.getElem_mem hlt2)
            have hat2 : ∀ hk : D.length + 1 + j < (rB q).size, (((rB q)[D.length + 1 + j]'hk).toNat : Int) = ((decDigits q.den)[j]).toNat := fun hk => rB_at q HT.out (by
              have := at_end (o := []) (D := D) (R := 47 :: decDigits q.den) (k := j + 1)
              rw [List.getElem?_cons_succ, List.getElem?_eq_getElem hlt2] at this
              rw [← this]; congr 1; simp; try omega) hk
            obtain ⟨c, hcd⟩ : ∃ c, (decDigits q.den)[j] = c := ⟨_, rfl⟩
            rw [hcd] at hc hat2
            have HC := Lib.hid hcd
            clear hcd
            go_wp2_with fail
            refine ⟨⟨j + 1, u * 10 + (c.toNat - 48), trivial, by omega, by go_num, by go_num, ?_, Lib.hid ?_⟩, ?_⟩
            · have := tv_take_lt hdn (show j + 1 ≤ 9 by omega)
              rw [tv_take hlt2, ← hut.out, HC.out] at this
              exact this
            · rw [tv_take hlt2, ← hut.out, HC.out]
            · simp [intOf]; omega
          · obtain rfl : j = (decDigits q.den).length := by omega
            have hun : u = q.den := by rw [hut.out, List.take_length, tv_dec]
            have HUN := Lib.hid hun
            have hnum : (v : Int) = q.num := by have := mt num_neg_iff.1 hq; have := HVN.out; omega
            have HN := Lib.hid hnum
            clear hun hnum
            go_wp2_with fail
            go_ret3
            exact ⟨rfl, tup3 HN.out (congrArg Int.ofNat HUN.out)⟩

set_option maxRecDepth 100000 in
set_option maxHeartbeats 4000000 in
theorem brief_neg (q : Rat) (w : World) (hq : q < 0) (h9 : (rB q).size ≤ 9) : Calls Tryz.prog 70 #[.string (rB q)] w fun e w' => w' = w ∧ e = .returned (.tuple #[.int .i64 q.num, .int .i64 (q.den : Int), .bool true]) := by
  have hp := rB_pos q
  have h1 := rB_first q hp
  rw [decide_eq_true hq] at h1
  obtain ⟨R, hT, hR⟩ := num_bytes q
  rw [if_pos hq] at hT
  obtain ⟨D, hD⟩ : ∃ D, decDigits q.num.natAbs = D := ⟨_, rfl⟩
  have hdig : Digs D := hD ▸ digs_dec _
  have hval : tv D = q.num.natAbs := by rw [← hD, tv_dec]
  rw [hD] at hT
  have hsz : (rB q).size = D.length + R.length + 1 := by
    show (ratT q).length = _
    rw [hT, List.length_append, List.length_append]; simp; omega
  have HT := Lib.hid hT
  have HV := Lib.hid hval
  have HR := Lib.hid hR
  have HD := Lib.hid hdig
  have HDEN := Lib.hid (digs_dec q.den)
  clear hT hval hR hD hdig
  go_enter Tryz.func70, Tryz.ntmps70
  go_wp2_with fail
  go_loopw [2, 5] (fun a i wr => ∃ (k v : Nat), wr = w ∧ k ≤ D.length ∧ i = .int .i64 ((k : Int) + 1) ∧ a = .int .i64 (v : Int) ∧ v < 1000000000 ∧ Hid (v = tv (D.take k))) (fun _ i _ => (rB q).size - (intOf i).toNat)
  case atStart => exact ⟨0, 0, rfl, Nat.zero_le _, rfl, rfl, by omega, Lib.hid rfl⟩
  case round =>
    obtain ⟨k, v, rfl, hk, rfl, rfl, hv, hvt⟩ := hrel
    by_cases hlt : k < D.length
    · have hc := HD.out _ (List.getElem_mem hlt)
      have hat : ∀ hk : k + 1 < (rB q).size, (((rB q)[k + 1]'hk).toNat : Int) = (D[k]).toNat := fun hk => rB_at q HT.out (by have := at_mid (o := [45]) (R := R) hlt; rw [← this]; congr 1; simp; try omega) hk
      obtain ⟨c, hcd⟩ : ∃ c, D[k] = c := ⟨_, rfl⟩
      rw [hcd] at hc hat
      have HC := Lib.hid hcd
      have hne : ((c.toNat : Int) != 47) = true := by rw [bne_iff_ne]; omega
      clear hcd
      go_wp2_with fail
      refine ⟨⟨k + 1, v * 10 + (c.toNat - 48), trivial, by omega, by go_num, by go_num, ?_, Lib.hid ?_⟩, ?_⟩
      · have := tv_take_lt HD.out (show k + 1 ≤ 9 by omega)
        rw [tv_take hlt, ← hvt.out, HC.out] at this
        exact this
      · rw [tv_take hlt, ← hvt.out, HC.out]
      · simp [intOf]; omega
    · obtain rfl : k = D.length := by omega
      have hvn : v = q.num.natAbs := by rw [hvt.out, List.take_length, HV.out]
      rcases HR.out with ⟨hden, rfl⟩ | ⟨hden, rfl⟩
      · have hnum : -(v : Int) = q.num := by have := num_neg_iff.2 hq; omega
        have HN := Lib.hid hnum
        have HDN := Lib.hid hden
        rw [List.length_nil, Nat.add_zero] at hsz
        clear hvn hnum hden
        go_wp2_with fail
        go_ret3
        exact ⟨rfl, tup3 HN.out (by rw [HDN.out]; rfl)⟩
      · have hat : ∀ hk : D.length + 1 < (rB q).size, (((rB q)[D.length + 1]'hk).toNat : Int) = 47 := fun hk => rB_at q HT.out (c := 47) (by have := at_end (o := [45]) (D := D) (R := 47 :: decDigits q.den) (k := 0); rw [List.getElem?_cons_zero] at this; rw [← this]; congr 1; simp; try omega) hk
        rw [List.length_cons] at hsz
        have hdn := HDEN.out
        have HDN := Lib.hid hden
        have HVN := Lib.hid hvn
        clear hvn hden
        go_wp2_with fail
        go_loopw [3, 5] (fun b i wr' => ∃ (j u : Nat), wr' = wr ∧ j ≤ (decDigits q.den).length ∧ i = .int .i64 ((D.length : Int) + 1 + 1 + (j : Int)) ∧ b = .int .i64 (u : Int) ∧ u < 1000000000 ∧ Hid (u = tv ((decDigits q.den).take j))) (fun _ i _ => (rB q).size - (intOf i).toNat)
        case atStart => exact ⟨0, 0, rfl, Nat.zero_le _, by go_num, rfl, by omega, Lib.hid rfl⟩
        case round =>
          obtain ⟨j, u, rfl, hj, rfl, rfl, hu, hut⟩ := hrel
          by_cases hlt2 : j < (decDigits q.den).length
          · have hc := hdn _ (List.getElem_mem hlt2)
            have hat2 : ∀ hk : D.length + 1 + 1 + j < (rB q).size, (((rB q)[D.length + 1 + 1 + j]'hk).toNat : Int) = ((decDigits q.den)[j]).toNat := fun hk => rB_at q HT.out (by
              have := at_end (o := [45]) (D := D) (R := 47 :: decDigits q.den) (k := j + 1)
              rw [List.getElem?_cons_succ, List.getElem?_eq_getElem hlt2] at this
              rw [← this]; congr 1; simp; try omega) hk
            obtain ⟨c, hcd⟩ : ∃ c, (decDigits q.den)[j] = c := ⟨_, rfl⟩
            rw [hcd] at hc hat2
            have HC := Lib.hid hcd
            clear hcd
            go_wp2_with fail
            refine ⟨⟨j + 1, u * 10 + (c.toNat - 48), trivial, by omega, by go_num, by go_num, ?_, Lib.hid ?_⟩, ?_⟩
            · have := tv_take_lt hdn (show j + 1 ≤ 9 by omega)
              rw [tv_take hlt2, ← hut.out, HC.out] at this
              exact this
            · rw [tv_take hlt2, ← hut.out, HC.out]
            · simp [intOf]; omega
          · obtain rfl : j = (decDigits q.den).length := by omega
            have hun : u = q.den := by rw [hut.out, List.take_length, tv_dec]
            have HUN := Lib.hid hun
            have hnum : -(v : Int) = q.num := by have := num_neg_iff.2 hq; have := HVN.out; omega
            have HN := Lib.hid hnum
            clear hun hnum
            go_wp2_with fail
            go_ret3
            exact ⟨rfl, tup3 HN.out (congrArg Int.ofNat HUN.out)⟩

/-- brief: the parts as ints, or nothing -/
theorem r02_brief (q : Rat) (w : World) (hl : rlen q ≤ 100000000) : Calls Tryz.prog 70 #[.string (rB q)] w fun e w' => w' = w ∧ ((e = .returned (.tuple #[.int .i64 q.num, .int .i64 (q.den : Int), .bool true]) ∧ q.num.natAbs < 1000000000 ∧ q.den < 1000000000) ∨ e = .returned (.tuple #[.int .i64 0, .int .i64 0, .bool false])) := by
  have hs := rB_size q
  by_cases h9 : (rB q).size ≤ 9
  · have hr := rlen_le_size q
    have n9 : q.num.natAbs < 1000000000 := (dec_len_le (k := 9) (by decide)).1 (Nat.le_trans (rlen_num q) (by omega))
    have d9 : q.den < 1000000000 := (dec_len_le (k := 9) (by decide)).1 (Nat.le_trans (show (decDigits q.den).length ≤ rlen q from Nat.le_max_right _ _) (by omega))
    by_cases h : q < 0
    · exact (brief_neg q w h h9).mono fun _ _ ⟨h1, h2⟩ => ⟨h1, .inl ⟨h2, n9, d9⟩⟩
    · exact (brief_pos q w h h9).mono fun _ _ ⟨h1, h2⟩ => ⟨h1, .inl ⟨h2, n9, d9⟩⟩
  · go_enter Tryz.func70, Tryz.ntmps70
    go_wp2_with fail
    go_ret3
    exact ⟨rfl, .inr rfl⟩
end Go.Proofs.Klp
/- The reference's numbers: sums, products, quotients, orders. -/
namespace Go.Proofs.Klp
open Go.RowKit Go.Shelf
open Go.Lib (decDigits itoa)

set_option maxRecDepth 100000 in
set_option maxHeartbeats 2000000 in
theorem r02_add (a b : Rat) (w : World) (hE : Env w) (ha : rlen a ≤ 10000) (hb : rlen b ≤ 10000) : Calls Tryz.prog 29 #[.string (rB a), .string (rB b)] w (Ret w (.string (rB (a + b)))) := by
  have hU := Up.refl w
  have an := Nat.le_trans (rlen_num a) ha
  have ad := Nat.le_trans (rlen_den a) ha
  have bn := Nat.le_trans (rlen_num b) hb
  have bd := Nat.le_trans (rlen_den b) hb
  have hd : a.den * b.den ≠ 0 := Nat.mul_ne_zero a.den_nz b.den_nz
  have hp : (0 : Int) < (a.den : Int) * (b.den : Int) := by rw [← Int.natCast_mul]; omega
  have hlo := r02_lowest (a.num * b.den + b.num * a.den) (a.den * b.den)
  have hfr := fun w hE => r02_fraction (a.num * b.den + b.num * a.den) (a.den * b.den) (a.num * b.den + b.num * a.den) (a.den * b.den) w hE hd (.inl ⟨hp, rfl, (Int.natCast_mul ..).symm⟩)
  rw [← add_mkRat] at hlo hfr
  rw [Int.natCast_mul] at hlo
  have l1 := ilen_mul_le an bd
  have l2 := ilen_mul_le bn ad
  have l3 := ilen_mul_le ad bd
  have l4 := ilen_add_le l1 l2
  go_enter Tryz.func29, Tryz.ntmps29
  go_wp2_with fail
  refine (r02_brief a _ (by omega)).mono ?_
  rintro e w1 ⟨rfl, ⟨rfl, ha1, ha2⟩ | rfl⟩
  case' inl =>
    go_wp2_with fail
    refine (r02_brief b _ (by omega)).mono ?_
    rintro e w2 ⟨rfl, ⟨rfl, hb1, hb2⟩ | rfl⟩
    case inl =>
      have m1 := abs_mul_lt ha1 (y := (b.den : Int)) rfl hb2
      have m2 := abs_mul_lt hb1 (y := (a.den : Int)) rfl ha2
      have m3 := nat_mul_lt ha2 hb2
      have m4 : (a.den : Int) * (b.den : Int) < 1000000000000000000 := by rw [← Int.natCast_mul]; omega
      have m5 : 0 ≤ (a.den : Int) * (b.den : Int) := by rw [← Int.natCast_mul]; omega
      clear hp
      go_wp2_with fail
      refine (hlo _ hE hd (by omega) (by omega) (by omega)).mono ?_
      rintro _ _ ⟨rfl, hX⟩
      go_wp2
      go_ret
      exact ⟨rfl, hU.trans hX⟩
  all_goals
    go_wp2_with fail
    refine (r02_parts a _ (by omega)).mono ?_
    rintro _ _ ⟨rfl, hX⟩; replace hU := Up.trans hU hX; replace hE := Env.up hE hX; clear hX
    go_wp2_with fail
    refine (r02_parts b _ (by omega)).mono ?_
    rintro _ _ ⟨rfl, hX⟩; replace hU := Up.trans hU hX; replace hE := Env.up hE hX; clear hX
    go_wp2_with fail
    refine (r01_mul a.num b.den _ hE (by omega) (by omega)).mono ?_
    rintro _ _ ⟨rfl, hX⟩; replace hU := Up.trans hU hX; replace hE := Env.up hE hX; clear hX
    go_wp2_with fail
    refine (r01_mul b.num a.den _ hE (by omega) (by omega)).mono ?_
    rintro _ _ ⟨rfl, hX⟩; replace hU := Up.trans hU hX; replace hE := Env.up hE hX; clear hX
    go_wp2_with fail
    refine (r01_add (a.num * b.den) (b.num * a.den) _ hE (by omega) (by omega)).mono ?_
    rintro _ _ ⟨rfl, hX⟩; replace hU := Up.trans hU hX; replace hE := Env.up hE hX; clear hX
    go_wp2_with fail
    refine (r01_mul a.den b.den _ hE (by omega) (by omega)).mono ?_
    rintro _ _ ⟨rfl, hX⟩; replace hU := Up.trans hU hX; replace hE := Env.up hE hX; clear hX
    go_wp2_with fail
    refine (hfr _ hE (by omega) (by omega)).mono ?_
    rintro _ _ ⟨rfl, hX⟩; replace hU := Up.trans hU hX; clear hX
    go_wp2
    go_ret
    exact ⟨rfl, hU⟩

set_option maxRecDepth 100000 in
set_option maxHeartbeats 2000000 in
theorem r02_mul (a b : Rat) (w : World) (hE : Env w) (ha : rlen a ≤ 10000) (hb : rlen b ≤ 10000) : Calls Tryz.prog 37 #[.string (rB a), .string (rB b)] w (Ret w (.string (rB (a * b)))) := by
  have hU := Up.refl w
  have an := Nat.le_trans (rlen_num a) ha
  have ad := Nat.le_trans (rlen_den a) ha
  have bn := Nat.le_trans (rlen_num b) hb
  have bd := Nat.le_trans (rlen_den b) hb
  have hd : a.den * b.den ≠ 0 := Nat.mul_ne_zero a.den_nz b.den_nz
  have hp : (0 : Int) < (a.den : Int) * (b.den : Int) := by rw [← Int.natCast_mul]; omega
  have hlo := r02_lowest (a.num * b.num) (a.den * b.den)
  have hfr := fun w hE => r02_fraction (a.num * b.num) (a.den * b.den) (a.num * b.num) (a.den * b.den) w hE hd (.inl ⟨hp, rfl, (Int.natCast_mul ..).symm⟩)
  rw [← mul_mkRat] at hlo hfr
  rw [Int.natCast_mul] at hlo
  have l1 := ilen_mul_le an bn
  have l3 := ilen_mul_le ad bd
  go_enter Tryz.func37, Tryz.ntmps37
  go_wp2_with fail
  refine (r02_brief a _ (by omega)).mono ?_
  rintro e w1 ⟨rfl, ⟨rfl, ha1, ha2⟩ | rfl⟩
  case' inl =>
    go_wp2_with fail
    refine (r02_brief b _ (by omega)).mono ?_
    rintro e w2 ⟨rfl, ⟨rfl, hb1, hb2⟩ | rfl⟩
    case inl =>
      have m1 : (a.num * b.num).natAbs < 1000000000000000000 := by rw [Int.natAbs_mul]; exact nat_mul_lt ha1 hb1
      have m3 := nat_mul_lt ha2 hb2
      have m4 : (a.den : Int) * (b.den : Int) < 1000000000000000000 := by rw [← Int.natCast_mul]; omega
      have m5 : 0 ≤ (a.den : Int) * (b.den : Int) := by rw [← Int.natCast_mul]; omega
      clear hp
      go_wp2_with fail
      refine (hlo _ hE hd (by omega) (by omega) (by omega)).mono ?_
      rintro _ _ ⟨rfl, hX⟩
      go_wp2
      go_ret
      exact ⟨rfl, hU.trans hX⟩
  all_goals
    go_wp2_with fail
    refine (r02_parts a _ (by omega)).mono ?_
    rintro _ _ ⟨rfl, hX⟩; replace hU := Up.trans hU hX; replace hE := Env.up hE hX; clear hX
    go_wp2_with fail
    refine (r02_parts b _ (by omega)).mono ?_
    rintro _ _ ⟨rfl, hX⟩; replace hU := Up.trans hU hX; replace hE := Env.up hE hX; clear hX
    go_wp2_with fail
    refine (r01_mul a.num b.num _ hE (by omega) (by omega)).mono ?_
    rintro _ _ ⟨rfl, hX⟩; replace hU := Up.trans hU hX; replace hE := Env.up hE hX; clear hX
    go_wp2_with fail
    refine (r01_mul a.den b.den _ hE (by omega) (by omega)).mono ?_
    rintro _ _ ⟨rfl, hX⟩; replace hU := Up.trans hU hX; replace hE := Env.up hE hX; clear hX
    go_wp2_with fail
    refine (hfr _ hE (by omega) (by omega)).mono ?_
    rintro _ _ ⟨rfl, hX⟩; replace hU := Up.trans hU hX; clear hX
    go_wp2
    go_ret
    exact ⟨rfl, hU⟩

theorem r02_sub (a b : Rat) (w : World) (hE : Env w) (ha : rlen a ≤ 10000) (hb : rlen b ≤ 10000) : Calls Tryz.prog 20 #[.string (rB a), .string (rB b)] w (Ret w (.string (rB (a - b)))) := by
  have hU := Up.refl w
  have hl := rlen_neg b
  rw [Rat.sub_eq_add_neg]
  go_enter Tryz.func20, Tryz.ntmps20
  go_wp2_with fail
  refine (ref_neg b _ (by omega)).mono ?_
  rintro _ _ ⟨rfl, hX⟩; replace hU := Up.trans hU hX; replace hE := Env.up hE hX; clear hX
  go_wp2_with fail
  refine (r02_add a (-b) _ hE ha (by omega)).mono ?_
  rintro _ _ ⟨rfl, hX⟩; replace hU := Up.trans hU hX; clear hX
  go_wp2
  go_ret
  exact ⟨rfl, hU⟩

theorem r02_compare (a b : Rat) (w : World) (hE : Env w) (ha : rlen a ≤ 10000) (hb : rlen b ≤ 10000) : Calls Tryz.prog 47 #[.string (rB a), .string (rB b)] w (Ret w (.int .i64 (a - b).num.sign)) := by
  have hU := Up.refl w
  have hl : rlen (a - b) ≤ 100000 := by
    have := rlen_sub a b
    omega
  go_enter Tryz.func47, Tryz.ntmps47
  go_wp2_with fail
  refine (r02_sub a b _ hE ha hb).mono ?_
  rintro _ _ ⟨rfl, hX⟩; replace hU := Up.trans hU hX; replace hE := Env.up hE hX; clear hX
  go_wp2_with fail
  refine (r02_sign (a - b) _ (by omega)).mono ?_
  rintro _ _ ⟨rfl, rfl⟩
  go_wp2
  go_ret
  exact ⟨rfl, hU⟩
end Go.Proofs.Klp
/- Lists of numbers: sums, tests. -/
namespace Go.Proofs.Klp
open Go.RowKit Go.Shelf
open Go.Lib (decDigits itoa)

/-- block g begins with these strings -/
def SlS (w : World) (g : Nat) (L : List ByteArray) : Prop := g < w.heap.size ∧ ∀ k (h : k < L.length), w.cell? ⟨g, k, none⟩ = some (.string L[k])
theorem SlS.up {w w' : World} {g : Nat} {L : List ByteArray} (h : SlS w g L) (k : Up w w') : SlS w' g L :=
  ⟨Nat.lt_of_lt_of_le h.1 k.size, fun i hi => (Below.cell k h.1).trans (h.2 i hi)⟩
theorem Up.alloc {a b : World} (h : Up a b) (o : Obj) : Up a (b.alloc o) := by
  refine h.trans ?_
  have := Up.grow (w := b) 0 #[o]
  exact this

/-- a slice of n strings in block g -/
abbrev sl (g n : Nat) : Value := .slice (some ⟨g, 0, none⟩) n n

/-- the sums of the first numbers -/
def sumR (L : List Rat) : Rat := L.foldl (· + ·) 0
theorem sumR_snoc (L : List Rat) (x : Rat) : sumR (L ++ [x]) = sumR L + x := by unfold sumR; rw [List.foldl_append]; rfl
theorem sumR_take {L : List Rat} {k : Nat} (h : k < L.length) : sumR (L.take (k + 1)) = sumR (L.take k) + L[k] := by
  rw [List.take_succ_eq_append_getElem h, sumR_snoc]
theorem rlen_zero : rlen 0 ≤ 1 := by
  have h := rlen_le_size 0
  rwa [rB_zero] at h

set_option maxHeartbeats 1000000 in
theorem rat_sum (L : List Rat) (g n : Nat) (w : World) (hE : Env w) (hL : SlS w g (L.map rB)) (hn : n = L.length) (hb : ∀ x ∈ L, rlen x ≤ 5000) (hl : n ≤ 10) :
    Calls Tryz.prog 94 #[sl g n] w (Ret w (.string (rB (sumR L)))) := by
  subst hn
  have hU := Up.refl w
  go_enter Tryz.func94, Tryz.ntmps94
  go_wp2_with fail
  have hE0 := Lib.hid hE
  have hU0 := Lib.hid hU
  clear hE hU
  go_loopw [3, 5, 8] (fun s x i wr => ∃ (k : Nat) (q : Rat), k ≤ L.length ∧ i = .int .i64 k ∧ s = .string (rB q) ∧ Hid (q = sumR (L.take k)) ∧ rlen q ≤ k * 5001 + 1 ∧ Env wr ∧ Up w wr) (fun _ _ i _ => L.length - (intOf i).toNat)
  case atStart => exact ⟨0, 0, Nat.zero_le _, rfl, by rw [rB_zero]; rfl, Lib.hid rfl, by have := rlen_zero; omega, hE0.out, hU0.out⟩
  case round =>
    obtain ⟨k, q, hk, rfl, rfl, hq, hr, hEr, hUr⟩ := hrel
    by_cases hlt : k < L.length
    · have hc := (hL.up hUr).2 k (by simpa using hlt)
      rw [List.getElem_map] at hc
      have hx := hb _ (List.getElem_mem hlt)
      have hq2 : q + L[k] = sumR (L.take (k + 1)) := by rw [sumR_take hlt, hq.out]
      have hr2 := rlen_add q L[k]
      generalize L[k] = x at *
      have HQ2 := Lib.hid hq2
      clear hq2
      go_wp2_with fail
      refine (rat_add q x _ hEr (by omega) (by omega)).mono ?_
      rintro _ w2 ⟨rfl, hX⟩
      go_wp2_with fail
      go_roundw
      case rel => exact ⟨k + 1, q + x, by omega, by go_num, rfl, HQ2, by omega, hEr.up hX, hUr.trans hX⟩
      case measure => simp [intOf]; omega
    · obtain rfl : k = L.length := by omega
      rw [List.take_length] at hq
      go_wp2
      go_ret
      exact ⟨by rw [hq.out]; rfl, hUr⟩
end Go.Proofs.Klp
/- The program's vectors: dot products. -/
namespace Go.Proofs.Klp
open Go.RowKit Go.Shelf
open Go.Lib (decDigits itoa)

/-- block g begins with these cells -/
def Bx (w : World) (g : Nat) (vs : List Value) : Prop := g < w.heap.size ∧ ∀ k (h : k < vs.length), w.cell? ⟨g, k, none⟩ = some vs[k]
theorem Bx.up {w w' : World} {g : Nat} {vs : List Value} (h : Bx w g vs) (k : Up w w') : Bx w' g vs :=
  ⟨Nat.lt_of_lt_of_le h.1 k.size, fun i hi => (Below.cell k h.1).trans (h.2 i hi)⟩
theorem Bx.c0 {w : World} {g : Nat} {a : Value} {vs : List Value} (h : Bx w g (a :: vs)) : w.cell? ⟨g, 0, none⟩ = some a := h.2 0 (by simp)
theorem Bx.c1 {w : World} {g : Nat} {a b : Value} {vs : List Value} (h : Bx w g (a :: b :: vs)) : w.cell? ⟨g, 1, none⟩ = some b := h.2 1 (by simp)
theorem Bx.c2 {w : World} {g : Nat} {a b c : Value} {vs : List Value} (h : Bx w g (a :: b :: c :: vs)) : w.cell? ⟨g, 2, none⟩ = some c := h.2 2 (by simp)
theorem Bx.c3 {w : World} {g : Nat} {a b c d : Value} {vs : List Value} (h : Bx w g (a :: b :: c :: d :: vs)) : w.cell? ⟨g, 3, none⟩ = some d := h.2 3 (by simp)
theorem Bx.new (w : World) (vs : List Value) (t : TypeId) : Bx (w.alloc (.cells vs.toArray t)) w.heap.size vs := by
  refine ⟨by show _ < (w.heap.push _).size; simp, fun k hk => ?_⟩
  unfold World.cell? World.alloc
  simp [hk]

theorem sls_new (w : World) (L : List ByteArray) (t : TypeId) {vs : List Value} (h : vs = L.map Value.string) : SlS (w.alloc (.cells vs.toArray t)) w.heap.size L := by
  subst h
  obtain ⟨h1, h2⟩ := Bx.new w (L.map Value.string) t
  exact ⟨h1, fun k hk => by rw [h2 k (by simpa using hk), List.getElem_map]⟩
theorem rat_sum3 (x y z : Rat) (w : World) (t : TypeId) (hE : Env w) (hx : rlen x ≤ 5000) (hy : rlen y ≤ 5000) (hz : rlen z ≤ 5000) :
    Calls Tryz.prog 94 #[sl w.heap.size 3] (w.alloc (.cells #[.string (rB x), .string (rB y), .string (rB z)] t)) (Ret w (.string (rB (x + y + z)))) := by
  have hU : Up w (w.alloc (.cells #[.string (rB x), .string (rB y), .string (rB z)] t)) := (Up.refl _).alloc _
  refine (rat_sum [x, y, z] _ 3 _ (hE.up hU) (sls_new w [rB x, rB y, rB z] t rfl) rfl (by simp [hx, hy, hz]) (by decide)).mono ?_
  rintro _ _ ⟨rfl, h⟩
  refine ⟨?_, hU.trans h⟩
  have : sumR [x, y, z] = x + y + z := by
    show 0 + x + y + z = _
    rw [Rat.zero_add]
  rw [this]

set_option maxRecDepth 100000 in
set_option maxHeartbeats 2000000 in
theorem slip_dot (a1 a2 a3 b1 b2 b3 : Rat) (w : World) (hE : Env w) (h1 : rlen a1 ≤ 1000) (h2 : rlen a2 ≤ 1000) (h3 : rlen a3 ≤ 1000) (k1 : rlen b1 ≤ 1000) (k2 : rlen b2 ≤ 1000) (k3 : rlen b3 ≤ 1000) : Calls Tryz.prog 64 #[.agg #[.string (rB a1), .string (rB a2), .string (rB a3)], .agg #[.string (rB b1), .string (rB b2), .string (rB b3)]] w (Ret w (.string (rB (a1 * b1 + a2 * b2 + a3 * b3)))) := by
  have hU := Up.refl w
  have m1 := rlen_mul a1 b1
  have m2 := rlen_mul a2 b2
  have m3 := rlen_mul a3 b3
  go_enter Tryz.func64, Tryz.ntmps64
  go_wp2_with fail
  have X1 := Bx.new w [.string (rB a1), .string (rB a2), .string (rB a3)] 24
  have X2 := Bx.new (w.alloc (.cells #[.string (rB a1), .string (rB a2), .string (rB a3)] 24)) [.string (rB b1), .string (rB b2), .string (rB b3)] 24
  replace X1 := X1.up ((Up.refl _).alloc (.cells #[.string (rB b1), .string (rB b2), .string (rB b3)] 24))
  replace hU := (hU.alloc (.cells #[.string (rB a1), .string (rB a2), .string (rB a3)] 24)).alloc (.cells #[.string (rB b1), .string (rB b2), .string (rB b3)] 24)
  replace hE := hE.up hU
  have z : (w.alloc (.cells #[.string (rB a1), .string (rB a2), .string (rB a3)] 24)).heap.size = w.heap.size + 1 := Array.size_push ..
  rw [z] at X2
  generalize ((w.alloc (.cells #[.string (rB a1), .string (rB a2), .string (rB a3)] 24)).alloc (.cells #[.string (rB b1), .string (rB b2), .string (rB b3)] 24)) = W at *
  clear z
  generalize w.heap.size = p at *
  have hS : ∀ W', Up W W' → W'.cell? ⟨p, 0, none⟩ = some (.string (rB a1)) ∧ W'.cell? ⟨p, 1, none⟩ = some (.string (rB a2)) ∧ W'.cell? ⟨p, 2, none⟩ = some (.string (rB a3)) ∧ W'.cell? ⟨p + 1, 0, none⟩ = some (.string (rB b1)) ∧ W'.cell? ⟨p + 1, 1, none⟩ = some (.string (rB b2)) ∧ W'.cell? ⟨p + 1, 2, none⟩ = some (.string (rB b3)) := fun W' h =>
    ⟨(X1.up h).c0, (X1.up h).c1, (X1.up h).c2, (X2.up h).c0, (X2.up h).c1, (X2.up h).c2⟩
  have hV : Up W W.drew := (Up.refl _).drewN 1
  replace hE := hE.up hV
  replace hU := hU.trans hV
  refine wp_region_noPanic ?_
  go_region_held3 (fun W' => W'.cell? ⟨p, 0, none⟩ = some (.string (rB a1)) ∧ W'.cell? ⟨p, 1, none⟩ = some (.string (rB a2)) ∧ W'.cell? ⟨p, 2, none⟩ = some (.string (rB a3)) ∧ W'.cell? ⟨p + 1, 0, none⟩ = some (.string (rB b1)) ∧ W'.cell? ⟨p + 1, 1, none⟩ = some (.string (rB b2)) ∧ W'.cell? ⟨p + 1, 2, none⟩ = some (.string (rB b3))) (first | exact hS _ hV | exact hS _ (hV.alloc _))
    (first | (go_at_call 82; refine (rat_mul _ _ _ hE (by omega) (by omega)).mono ?_; rintro _ _ ⟨rfl, hX⟩; replace hE := hE.up hX; replace hU := hU.trans hX; replace hV := hV.trans hX; clear hX) | (go_at_call 94; refine (rat_sum3 _ _ _ _ _ hE (by omega) (by omega) (by omega)).mono ?_; rintro _ _ ⟨rfl, hX⟩; replace hE := hE.up hX; replace hU := hU.trans hX; replace hV := hV.trans hX; clear hX))
  refine NoPanic.normal ?_
  go_wp2
  go_ret
  exact ⟨rfl, hU⟩
end Go.Proofs.Klp
