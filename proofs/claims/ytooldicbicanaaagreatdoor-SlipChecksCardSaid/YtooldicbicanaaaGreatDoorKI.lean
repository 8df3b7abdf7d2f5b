/- The reference's magnitudes from digits, and digits from them. -/
import Derived.Test.YtooldicbicanaaaGreatDoorKH
namespace Go.Proofs.Klp
open Go.RowKit
open Go.Lib (decDigits itoa)

/-- digits lo to i of D -/
theorem tv_mid {D : List UInt8} {lo i : Nat} (hi : i < D.length) (hlo : lo ≤ i) : tv ((D.take (i + 1)).drop lo) = tv ((D.take i).drop lo) * 10 + ((D[i]).toNat - 48) := by
  rw [List.take_succ_eq_append_getElem hi, List.drop_append_of_le_length (by rw [List.length_take]; omega), tv_snoc]
theorem tv_mid_lt {D : List UInt8} (hD : Digs D) {lo i : Nat} (h4 : i ≤ lo + 4) : tv ((D.take i).drop lo) < 10000 := by
  refine Nat.lt_of_lt_of_le (tv_lt (digs_sub hD i lo)) ?_
  have : ((D.take i).drop lo).length ≤ 4 := by rw [List.length_drop, List.length_take]; omega
  exact (Nat.pow_le_pow_right (by decide) this : 10 ^ _ ≤ 10 ^ 4)
theorem take_step {D : List UInt8} {m k j : Nat} {z : Int} (hm : m ≤ D.length) (hk : k ≤ m) (h9 : k + 4 = m ∨ (k = 0 ∧ m ≤ 4)) (h : (tv D : Int) = (tv (D.take m) : Int) * 10000 ^ j + z) :
    (tv D : Int) = (tv (D.take k) : Int) * 10000 ^ (j + 1) + (z + 10000 ^ j * (tv ((D.take m).drop k) : Int)) := by
  have e : D.take m = D.take k ++ (D.take m).drop k := by
    conv => lhs; rw [← List.take_append_drop k (D.take m)]
    rw [List.take_take, Nat.min_eq_left hk]
  have hl : ((D.take m).drop k).length = m - k := by rw [List.length_drop, List.length_take, Nat.min_eq_left hm]
  have ht : (tv (D.take m) : Int) = (tv (D.take k) : Int) * 10000 + (tv ((D.take m).drop k) : Int) := by
    have := tv_append (D.take k) ((D.take m).drop k)
    rw [← e, hl] at this
    rcases h9 with h9 | ⟨h9, _⟩
    · rw [show m - k = 4 by omega, show (10 : Nat) ^ 4 = 10000 from rfl] at this
      omega
    · subst h9
      rw [List.take_zero, tv_nil, Nat.zero_mul] at this
      rw [List.take_zero, tv_nil]
      omega
  rw [h, ht, Int.pow_succ]
  grind

set_option maxRecDepth 100000 in
set_option maxHeartbeats 4000000 in
theorem ref_take (D : List UInt8) (w : World) (hD : Digs D) (hl : D.length ≤ 100000) : Calls Tryz.prog 104 #[.string (mkB D)] w fun e w' => ∃ v, e = .returned v ∧ RV w' v (tv D) ∧ Up w w' := by
  have HD := Lib.hid hD
  have hsz := mkB_size D
  clear hD
  go_enter Tryz.func104, Tryz.ntmps104
  go_wp2_with fail
  go_loopw [3, 4] (fun v z wr => ∃ (m : Nat) (e : Int) (zs : List Int), m ≤ D.length ∧ z = .int .i64 e ∧ m = e.toNat ∧ -4 < e ∧ zs.length + m ≤ D.length ∧ Hid (Dg 10000 zs ∧ (tv D : Int) = (tv (D.take m) : Int) * 10000 ^ zs.length + val 10000 zs) ∧ wr.ownsRow w.heap.size 3 1 v zs.length (zs.map (Value.int .i64)) ∧ Below w.heap.size w wr) (fun _ z _ => (intOf z).toNat)
  case atStart => exact ⟨D.length, D.length, [], Nat.le_refl _, rfl, by omega, by omega, by simp, Lib.hid ⟨Dg.nil _, by rw [List.take_length, val_nil]; simp⟩, World.ownsRow_nil _ _ _ _, Below.refl _ _⟩
  case round =>
    obtain ⟨m, e, zs, hm, rfl, hme, he4, hzl, HI, hrow, hB⟩ := hrel
    by_cases h0 : 0 < m
    · obtain rfl : e = (m : Int) := by omega
      clear hme he4
      obtain ⟨lo, hlo, h4⟩ : ∃ lo : Nat, lo < m ∧ (lo + 4 = m ∨ (lo = 0 ∧ m ≤ 4)) := by
        by_cases h : 4 ≤ m
        · exact ⟨m - 4, by omega, .inl (by omega)⟩
        · exact ⟨0, by omega, .inr ⟨rfl, by omega⟩⟩
      have hmx : max 0 ((m : Int) - 4) = (lo : Int) := by omega
      have H4 := Lib.hid h4
      have hm4 : m ≤ lo + 4 := by omega
      clear h4
      go_wp2_with fail
      go_loopw [5, 6] (fun a i wr' => ∃ (k u : Nat), wr' = wr ∧ lo ≤ k ∧ k ≤ m ∧ i = .int .i64 k ∧ a = .int .i64 u ∧ u < 10000 ∧ Hid (u = tv ((D.take k).drop lo))) (fun _ i _ => m - (intOf i).toNat)
      case atStart => exact ⟨lo, 0, rfl, Nat.le_refl _, by omega, rfl, rfl, by omega, Lib.hid (by rw [List.drop_of_length_le (by rw [List.length_take]; omega)]; rfl)⟩
      case round =>
        obtain ⟨k, u, rfl, hk0, hk, rfl, rfl, hu, HU⟩ := hrel
        by_cases hlt : k < m
        · have hkL : k < D.length := by omega
          have hc := HD.out _ (List.getElem_mem hkL)
          have hb : ∀ h : k < (mkB D).size, (((mkB D)[k]'h).toNat : Int) = (D[k]'hkL).toNat := fun h => rfl
          obtain ⟨c, hcd⟩ : ∃ c, D[k]'hkL = c := ⟨_, rfl⟩
          rw [hcd] at hc hb
          have HC := Lib.hid hcd
          clear hcd
          go_wp2_with fail
          refine ⟨⟨k + 1, u * 10 + (c.toNat - 48), trivial, by omega, by omega, by go_num, by go_num, ?_, Lib.hid ?_⟩, ?_⟩
          · have := tv_mid_lt HD.out (show k + 1 ≤ lo + 4 by omega)
            rw [tv_mid hkL hk0, ← HU.out, HC.out] at this
            exact this
          · rw [tv_mid hkL hk0, ← HU.out, HC.out]
          · simp [intOf]; omega
        · obtain rfl : k = m := by omega
          go_wp2_with (at_builtin; refine wpList_append_own _ rfl _ _ 140 rfl w.heap.size 3 iI64 (.int .i64 0) 1 8 uSI64 iI64_at iI64_zero iI64_size iI64_bytes rfl (by decide) _ _ _ rfl (hrow.alloc _) ⟨wr.heap.size, 0, none⟩ 1 1 [_] rfl rfl (cell_one_new _ _ _) (by simp [Value.oneCell']) (by unfold maxLen; omega) (by omega) (by have := hB.size; simp; omega) ?_; intro v' w2 hrow2 hgr _)
          have H5 := H4.out
          refine ⟨⟨lo, (k : Int) - 4, zs ++ [(u : Int)], by omega, rfl, by omega, by omega, by rw [List.length_append, List.length_singleton]; omega, Lib.hid ⟨HI.out.1.snoc (by omega) (by omega), ?_⟩, ?_, app_below hB hrow hgr⟩, ?_⟩
          · rw [val_snoc, List.length_append, List.length_singleton, HU.out]
            exact take_step hm (by omega) H5 HI.out.2
          · rw [List.length_append, List.length_singleton]
            exact own_snocI hrow2
          · simp [intOf]; omega
    · obtain rfl : m = 0 := by omega
      have he0 : e ≤ 0 := by omega
      obtain ⟨A, c, rfl, hrd⟩ := Rd.of_own hrow
      go_wp2_with fail
      refine (ref_cut _ _ _ _ _ hrd).mono ?_
      rintro e w' ⟨q, hq, rfl, hmv, hmc, rfl⟩
      have HM := Lib.hid hmv
      clear hmv
      go_wp2
      go_ret
      refine ⟨_, rfl, ⟨A, q, c, _, rfl, hrd.take hq, can_take HI.out.1 q (by rw [hrd.len]; exact hq) hmc, ?_⟩, hB⟩
      rw [HM.out, HI.out.2, List.take_zero, tv_nil]
      simp

/-- the digits of a piece behind the first one -/
def pad4 (d : Nat) : List UInt8 := List.replicate (4 - (decDigits d).length) 48 ++ decDigits d
theorem dec_len4 {d : Nat} (h : d < 10000) : (decDigits d).length ≤ 4 := (dec_len_le (by omega)).2 (by simpa using h)
theorem pad4_len {d : Nat} (h : d < 10000) : (pad4 d).length = 4 := by
  have := dec_len4 h
  unfold pad4; rw [List.length_append, List.length_replicate]; omega
theorem dec_pad4 {v d : Nat} (hv : 0 < v) (hd : d < 10000) : decDigits (v * 10000 + d) = decDigits v ++ pad4 d := by
  have hz : Digs (List.replicate (4 - (decDigits d).length) 48) := fun c hc => by
    rw [(List.mem_replicate.1 hc).2]; decide
  have hD : Digs (decDigits v ++ pad4 d) := Digs.append.2 ⟨digs_dec v, Digs.append.2 ⟨hz, digs_dec d⟩⟩
  have ht : tv (decDigits v ++ pad4 d) = v * 10000 + d := by
    rw [tv_append, pad4_len hd, tv_dec]; unfold pad4; rw [tv_zeros, tv_dec]
  rw [← ht]
  refine dec_tv _ hD (by simp [dec_ne_nil]) (.inr ?_)
  obtain ⟨c, s, e, h1, _⟩ := dec_head (show v ≠ 0 by omega)
  rw [e]
  intro h
  have : c = 48 := by simpa using h
  rw [this] at h1
  simp at h1
theorem give_tail {d : Nat} (hd : d < 10000) : (iB (10000 + d : Nat)).extract 1 (iB (10000 + d : Nat)).size = mkB (pad4 d) := by
  unfold iB
  rw [mkB_tail, itoa_nat]
  have e := dec_pad4 (v := 1) (by omega) hd
  rw [show 1 * 10000 + d = 10000 + d by omega] at e
  rw [e, dec_small (by omega)]
  rfl
theorem give_step {zs : List Int} (hD : Dg 10000 zs) {n k : Nat} (hn : zs.length = n) (hk : k < n) {v : Nat} (hv : val 10000 (zs.drop (k + 1)) = v) :
    val 10000 (zs.drop k) = ((v * 10000 + (dt zs k).toNat : Nat) : Int) := by
  have hlt : k < zs.length := by omega
  have hd : dt zs k = zs[k] := getD_in hlt
  have h0 := hD _ (List.getElem_mem hlt)
  rw [List.drop_eq_getElem_cons hlt, val_cons, hv, hd]
  omega

theorem ref_give0 (A : Option Addr) (c : Nat) (w : World) : Calls Tryz.prog 130 #[.slice A 0 c] w (Ret w (.string (iB 0))) := by
  go_enter Tryz.func130, Tryz.ntmps130
  go_wp2
  go_ret
  rw [iB_zero]
  exact ⟨rfl, Up.refl _⟩

set_option maxRecDepth 100000 in
set_option maxHeartbeats 4000000 in
theorem ref_give (A : Option Addr) (n c : Nat) (zs : List Int) (w : World) (hE : Env w) (hr : Rd .i64 w A n c zs) (hc : Can 10000 zs) (h0 : 0 < n) (hn : n ≤ 1000000) : Calls Tryz.prog 130 #[.slice A n c] w (Ret w (.string (iB (val 10000 zs)))) := by
  have hc1 := hr.cap
  have hc2 := hr.cmax
  have HL := Lib.hid hr.len
  have HZ := Lib.hid (rt_bd hc.1)
  obtain ⟨b, off, hA, hb, hcell⟩ := hr.cell h0
  subst hA
  have hlast := hcell (n - 1) (by omega)
  have hlb := HZ.out (n - 1)
  obtain ⟨u, hu⟩ : ∃ u : Nat, dt zs (n - 1) = u := ⟨(dt zs (n - 1)).toNat, by omega⟩
  have htop : val 10000 (zs.drop (n - 1)) = u := by
    have := give_step hc.1 HL.out (show n - 1 < n by omega) (v := 0) (by rw [List.drop_of_length_le (by rw [HL.out]; omega)]; rfl)
    rw [this, hu]; simp
  have hu0 : 0 < u := by
    rcases Nat.eq_zero_or_pos u with hz | hz
    · exfalso
      refine hc.2 ?_
      have hne : zs ≠ [] := by intro e; have := HL.out; rw [e] at this; simp at this; omega
      have hln := HL.out
      rw [List.getLast?_eq_some_getLast hne, List.getLast_eq_getElem]
      congr 1
      have hd : dt zs (n - 1) = zs[n - 1] := getD_in (by omega)
      simp only [hln]
      omega
    · exact hz
  rw [hu] at hlast hlb
  have HT := Lib.hid htop
  clear htop hu
  go_enter Tryz.func130, Tryz.ntmps130
  go_wp2_with fail
  refine (itoa_c (u : Int) _ hE (by omega) (by omega)).mono ?_
  rintro _ w1 ⟨rfl, hU1⟩
  go_wp2_with fail
  go_loopw [3, 4] (fun s i wr => ∃ (k v : Nat), k < n ∧ i = .int .i64 ((k : Int) - 1) ∧ s = .string (iB (v : Int)) ∧ 0 < v ∧ Hid (val 10000 (zs.drop k) = v) ∧ (iB (v : Int)).size ≤ 4 * (n - k) ∧ Up w wr) (fun _ i _ => (intOf i + 1).toNat)
  case atStart => exact ⟨n - 1, u, by omega, by go_num, rfl, hu0, HT, by rw [iB_nat, mkB_size]; have := dec_len4 (d := u) (by omega); omega, hU1⟩
  case round =>
    obtain ⟨k, v, hk, rfl, rfl, hv, HV, hsz, hU⟩ := hrel
    by_cases hk0 : 0 < k
    · obtain ⟨m, rfl⟩ : ∃ m, k = m + 1 := ⟨k - 1, by omega⟩
      rw [show (((m + 1 : Nat) : Int) - 1) = (m : Int) from by omega]
      have hxm := (Below.cell hU (p := ⟨b, off + m, none⟩) hb).trans (hcell m (by omega))
      have hxb := HZ.out m
      obtain ⟨d, hd⟩ : ∃ d : Nat, dt zs m = d := ⟨(dt zs m).toNat, by omega⟩
      have hst := give_step hc.1 HL.out (show m < n by omega) HV.out
      rw [hd] at hxm hxb hst
      have hd4 : d < 10000 := by omega
      have htl := give_tail hd4
      have hit := itoa_c ((10000 + d : Nat) : Int) wr (hE.up hU) (by omega) (by omega)
      have hsd : (iB ((10000 + d : Nat) : Int)).size = 5 := by
        unfold iB; rw [mkB_size, itoa_nat]
        have e := dec_pad4 (v := 1) (by omega) hd4
        rw [show 1 * 10000 + d = 10000 + d by omega] at e
        rw [e, List.length_append, pad4_len hd4, dec_small (by omega)]; rfl
      have hcat : iB (v : Int) ++ mkB (pad4 d) = iB ((v * 10000 + d : Nat) : Int) := by
        rw [iB_nat, iB_nat, mkB_append, dec_pad4 hv hd4]
      have hps : (mkB (pad4 d)).size = 4 := by rw [mkB_size, pad4_len hd4]
      rw [Int.natCast_add, show ((10000 : Nat) : Int) = 10000 from rfl] at htl hit hsd
      rw [hsd] at htl
      have HST := Lib.hid hst
      clear hst hd hlast hcell
      go_wp2_with fail
      refine hit.mono ?_
      rintro _ w2 ⟨rfl, hU2⟩
      go_wp2_with fail
      have hU3 := hU.trans hU2
      refine ⟨⟨m, v * 10000 + d, by omega, by go_num, ?_, by omega, HST, ?_, hU3⟩, ?_⟩
      · first | rfl | (rw [hcat]) | (rw [htl, hcat])
      · rw [← hcat, show (iB (v : Int) ++ mkB (pad4 d)).size = (iB (v : Int)).size + (mkB (pad4 d)).size from by rw [iB_nat, mkB_append, mkB_size, mkB_size, mkB_size, List.length_append], hps]; omega
      · simp [intOf]
    · obtain rfl : k = 0 := by omega
      go_wp2
      go_ret
      refine ⟨?_, hU⟩
      have e := HV.out
      rw [List.drop_zero] at e
      rw [e]; rfl

/-- give: the text of a magnitude -/
theorem give_v (v : Value) (x : Int) (w : World) (hE : Env w) (hx : RV w v x) (hl : ilen x ≤ 1000000) : Calls Tryz.prog 130 #[v] w (Ret w (.string (iB x))) := by
  obtain ⟨A, n, c, zs, rfl, hr, hc, rfl⟩ := hx
  have h := can_len hc
  rw [hr.len] at h
  rcases Nat.eq_zero_or_pos n with h0 | h0
  · subst h0
    have hz : zs = [] := List.eq_nil_of_length_eq_zero hr.len
    subst hz
    rw [val_nil]
    exact ref_give0 A c w
  · exact ref_give A n c zs w hE hr hc h0 (by omega)
end Go.Proofs.Klp
/- The reference's magnitudes: quotients, piece by piece. -/
namespace Go.Proofs.Klp
open Go.RowKit
open Go.Lib (decDigits itoa)

theorem made_sz (x : Int) (hx : ilen x ≤ 1000000) : (iB x).size ≤ 1000001 := Nat.le_trans (iB_size x) (by omega)
theorem rv_cut (v : Value) (x : Int) (w : World) (hx : RV w v x) : Calls Tryz.prog 129 #[v] w fun e w' => (∃ A n c zs, e = .returned (.slice A n c) ∧ Rd .i64 w A n c zs ∧ Can 10000 zs ∧ val 10000 zs = x) ∧ w = w' := by
  obtain ⟨A, n, c, zs, rfl, hr, hc, rfl⟩ := hx
  refine (ref_cut A n c zs w hr).mono ?_
  rintro e w' ⟨m, hm, rfl, hv, hmc, rfl⟩
  exact ⟨⟨A, m, c, _, rfl, hr.take hm, can_take hc.1 m (by rw [hr.len]; exact hm) hmc, hv⟩, rfl⟩

theorem ref_made (m : Bool) (v : Value) (x : Int) (w : World) (hE : Env w) (hx : RV w v x) (hl : ilen x ≤ 1000000) : Calls Tryz.prog 105 #[.bool m, v] w (Ret w (.string (iB (if m then -x else x)))) := by
  have hsz := made_sz x hl
  have hx0 := hx.nonneg
  cases m with
  | false =>
    go_enter Tryz.func105, Tryz.ntmps105
    go_wp2_with fail
    refine (rv_cut v x _ hx).mono ?_
    rintro _ _ ⟨⟨A, n, c, zs, rfl, hr, hc, hv⟩, rfl⟩
    have hg := give_v (.slice A n c) x w hE ⟨A, n, c, zs, rfl, hr, hc, hv⟩ hl
    have hn0 : n = 0 ↔ x = 0 := by
      constructor
      · intro h
        have : zs = [] := List.eq_nil_of_length_eq_zero (by rw [hr.len, h])
        rw [← hv, this, val_nil]
      · intro h
        by_cases hz : zs = []
        · rw [← hr.len, hz]; rfl
        · have := hc.low (by omega) hz
          have := pow_pos' (show (0 : Int) < 10000 by omega) (zs.length - 1)
          omega
    have HN := Lib.hid hn0
    have hc1 := hr.cap
    have hc2 := hr.cmax
    clear hr hv hn0
    go_wp2_with fail
    refine hg.mono ?_
    rintro _ w2 ⟨rfl, hX⟩
    go_wp2
    go_ret
    exact ⟨rfl, hX⟩
  | true =>
    go_enter Tryz.func105, Tryz.ntmps105
    go_wp2_with fail
    refine (rv_cut v x _ hx).mono ?_
    rintro _ _ ⟨⟨A, n, c, zs, rfl, hr, hc, hv⟩, rfl⟩
    have hg := give_v (.slice A n c) x w hE ⟨A, n, c, zs, rfl, hr, hc, hv⟩ hl
    have hn0 : n = 0 ↔ x = 0 := by
      constructor
      · intro h
        have : zs = [] := List.eq_nil_of_length_eq_zero (by rw [hr.len, h])
        rw [← hv, this, val_nil]
      · intro h
        by_cases hz : zs = []
        · rw [← hr.len, hz]; rfl
        · have := hc.low (by omega) hz
          have := pow_pos' (show (0 : Int) < 10000 by omega) (zs.length - 1)
          omega
    have HN := Lib.hid hn0
    have hc1 := hr.cap
    have hc2 := hr.cmax
    clear hr hv hn0
    by_cases h0 : 0 < n
    · have hpos : 0 < x := by
        have := mt HN.out.2 (by omega); omega
      have hcat := cat_negI hpos
      go_wp2_with fail
      refine hg.mono ?_
      rintro _ w2 ⟨rfl, hX⟩
      go_wp2
      all_goals first
        | (exfalso; omega)
        | (go_ret; exact ⟨rfl, hX⟩)
    · obtain rfl : n = 0 := by omega
      obtain rfl : x = 0 := HN.out.1 rfl
      go_wp2_with fail
      refine hg.mono ?_
      rintro _ w2 ⟨rfl, hX⟩
      go_wp2
      go_ret
      exact ⟨rfl, hX⟩

theorem rv_nil (w : World) : RV w (.slice none 0 0) 0 := ⟨none, 0, 0, [], rfl, ⟨rfl, Nat.le_refl _, by omega, fun _ => rfl, fun h => by omega⟩, Can.nil _, rfl⟩
/-- the nil slice and a piece ahead of a rest -/
theorem ilen_small {x : Int} {k : Nat} (h0 : 0 ≤ x) (hk : 1 ≤ k) (h : x < ((10 ^ k : Nat) : Int)) : ilen x ≤ k := big_of_lt hk (by omega)
theorem ilen_mono' {x y : Int} (h0 : 0 ≤ x) (h : x ≤ y) : ilen x ≤ ilen y := ilen_mono (by omega)
theorem quo_in {x y : Int} (hy : 0 < y) (m : Int) : x < y * m ↔ x / y < m := by
  rw [Int.mul_comm]; exact (Int.ediv_lt_iff_lt_mul hy).symm
theorem parts_step {xs zs : List Int} {n m : Nat} {R R' y low : Int} (hx : xs.length = n) (hz : zs.length = n) (hm : m < n)
    (h : val 10000 (xs.drop (m + 1)) = y * val 10000 (zs.drop (m + 1)) + R) (hR : R' = dt xs m + 10000 * R - low * y) :
    val 10000 (xs.drop m) = y * val 10000 ((zs.set m low).drop m) + R' := by
  have e1 := val_drop 10000 xs m (by omega)
  have e2 := val_drop 10000 (zs.set m low) m (by rw [List.length_set]; omega)
  rw [e1, e2, List.drop_set, if_pos (by omega), h, hR]
  have e3 : (zs.set m low).getD m 0 = low := by simp [List.getD, hz, hm]
  have e4 : xs.getD m 0 = dt xs m := rfl
  rw [e3, e4]
  generalize val 10000 (zs.drop (m + 1)) = Z
  generalize dt xs m = d
  grind

set_option maxRecDepth 100000 in
set_option maxHeartbeats 8000000 in
theorem ref_parts (v1 v2 : Value) (x y : Int) (w : World) (hxV : RV w v1 x) (hyV : RV w v2 y) (hy0 : 0 < y) (hx1 : ilen x ≤ 100000) (hy1 : ilen y ≤ 100000) :
    Calls Tryz.prog 127 #[v1, v2] w fun e w' => ∃ u1 u2, e = .returned (.tuple #[u1, u2]) ∧ RV w' u1 (x / y) ∧ RV w' u2 (x % y) ∧ Up w w' := by
  obtain ⟨A1, n1, c1, xs, rfl, hx, hcx, rfl⟩ := hxV
  have l1 := can_len hcx
  rw [hx.len] at l1
  have hn1 : n1 ≤ 100000 := by omega
  have HLX := Lib.hid hx.len
  have HXD := Lib.hid (rt_bd hcx.1)
  have hc1 := hx.cap
  have hc2 := hx.cmax
  have HY := Lib.hid hy1
  clear l1 hx1 hy1
  obtain ⟨w1, hmk, hown, hg⟩ := run_make_full (P := Tryz.prog) w w.heap.size 140 3 iI64 (.int .i64 0) 1 uSI64 iI64_at iI64_zero iI64_size .i64 .i64 n1 (by rw [iI64_bytes]; omega) (by unfold maxLen; omega) (Nat.le_refl _)
  have hown1 : w1.ownsRow w.heap.size 3 1 (.slice (some ⟨w.heap.size, 0, none⟩) n1 n1) n1 ((List.replicate n1 (0 : Int)).map (Value.int .i64)) := by
    rw [List.map_replicate, ← toList_madeCells_one]
    rw [Nat.mul_one] at hown
    exact hown
  have hB1 : Below w.heap.size w w1 := (Below.refl _ _).grown hg (Nat.le_refl _) (fun k e => by cases e)
  have hs1 : w.heap.size < w1.heap.size := (hown1.lt w.heap.size rfl).2
  go_enter Tryz.func127, Tryz.ntmps127
  go_wp2_with fail
  clear hmk hown hg
  go_loopw [7, 8] (fun r i wr => ∃ (k : Nat) (A5 : Option Addr) (n5 c5 : Nat) (rs zs : List Int), k ≤ n1 ∧ i = .int .i64 ((k : Int) - 1) ∧ r = .slice A5 n5 c5 ∧ Rd .i64 wr A5 n5 c5 rs ∧ Hid (Can 10000 rs ∧ val 10000 rs < y ∧ zs.length = n1 ∧ Dg 10000 zs ∧ val 10000 (xs.drop k) = y * val 10000 (zs.drop k) + val 10000 rs) ∧ wr.ownsRow w.heap.size 3 1 (.slice (some ⟨w.heap.size, 0, none⟩) n1 n1) n1 (zs.map (Value.int .i64)) ∧ Below w.heap.size w wr ∧ w.heap.size < wr.heap.size) (fun _ i _ => (intOf i + 1).toNat)
  case atStart => exact ⟨n1, none, 0, 0, [], List.replicate n1 0, Nat.le_refl _, rfl, rfl, ⟨rfl, Nat.le_refl _, by omega, fun _ => rfl, fun h => by omega⟩, Lib.hid ⟨Can.nil _, by rw [val_nil]; exact hy0, by simp, Dg.zeros (by omega) _, by rw [List.drop_of_length_le (by rw [HLX.out]; omega), List.drop_of_length_le (by simp)]; simp [val_nil]⟩, hown1, hB1, hs1⟩
  case round =>
    obtain ⟨k, A5, n5, c5, rs, zs, hk, rfl, rfl, hr5, HI, hrow, hB, hsz⟩ := hrel
    clear hown1 hB1 hs1
    by_cases hk0 : 0 < k
    · obtain ⟨m, rfl⟩ : ∃ m, k = m + 1 := ⟨k - 1, by omega⟩
      rw [show (((m + 1 : Nat) : Int) - 1) = (m : Int) from by omega]
      obtain ⟨b1, off1, hA1, hbl1, hcell1⟩ := hx.cell (by omega)
      subst hA1
      have hxk := (hB.cell (p := ⟨b1, off1 + m, none⟩) hbl1).trans (hcell1 m (by omega))
      have bx := HXD.out m
      clear hcell1
      have hyr := hyV.up (w' := wr) (by exact hB)
      have hrl : n5 ≤ 100001 := by
        have h1 := can_len HI.out.1
        have h2 := ilen_mono' (val_bounds (by omega) HI.out.1.1).1 (Int.le_of_lt HI.out.2.1)
        have h3 := HY.out
        rw [hr5.len] at h1; omega
      have HRL := Lib.hid hr5.len
      obtain ⟨wa, hwa⟩ : ∃ wa, wr.alloc (.cells #[.int .i64 (dt xs m)] 3) = wa := ⟨_, rfl⟩
      have o1 : wa.ownsRow wr.heap.size 3 1 (.slice (some ⟨wr.heap.size, 0, none⟩) 1 1) 1 [.int .i64 (dt xs m)] := by
        rw [← hwa]; exact World.ownsRow_lit wr #[.int .i64 (dt xs m)] 1 (Nat.le_refl _) (by unfold maxLen; omega) rfl
      have hba : Below wr.heap.size wr wa := by rw [← hwa]; exact (Below.refl _ _).alloc (Nat.le_refl _) _
      have hsa : wa.heap.size = wr.heap.size + 1 := by rw [← hwa]; simp
      have hra := hr5.below hba
      go_upto_region 6 with fail
      go_cut [7] (fun s7 wx => ∃ (A6 : Option Addr) (n6 c6 : Nat) (ts : List Int), s7 = .slice A6 n6 c6 ∧ Rd .i64 wx A6 n6 c6 ts ∧ Below wr.heap.size wr wx ∧ (∀ b off, A6 = some ⟨b, off, none⟩ → b ≠ w.heap.size) ∧ Hid (Can 10000 ts ∧ val 10000 ts = dt xs m + 10000 * val 10000 rs))
      case first =>
        cases A5 with
        | none =>
          obtain rfl : c5 = 0 := hr5.nilc rfl
          obtain rfl : n5 = 0 := by have := hr5.cap; omega
          have hrs : rs = [] := List.eq_nil_of_length_eq_zero hr5.len
          subst hrs
          obtain ⟨A6, c6, hv6, hr6⟩ := Rd.of_own (zs := [dt xs m]) o1
          simp only [Value.slice.injEq] at hv6
          obtain ⟨rfl, _, rfl⟩ := hv6
          go_wp2_with fail
          refine (ref_cut _ _ _ _ _ hr6).mono ?_
          rintro e w' ⟨n7, hn7, rfl, hv7, hc7, rfl⟩
          go_wp2_with fail
          go_meet
          exact ⟨_, n7, _, _, rfl, hr6.take hn7, hba, fun b off e => by cases e; omega, Lib.hid ⟨can_take (Dg.cons.2 ⟨by omega, Dg.nil _⟩) n7 (by rw [hr6.len]; exact hn7) hc7, hv7⟩⟩
        | some ad =>
          obtain ⟨ab, ao, asp⟩ := ad
          go_wp2_with (at_builtin; refine wpList_append_own _ rfl _ _ 140 rfl wr.heap.size 3 iI64 (.int .i64 0) 1 8 uSI64 iI64_at iI64_zero iI64_size iI64_bytes rfl (by decide) _ _ _ rfl o1 ⟨ab, ao, asp⟩ n5 c5 (rs.map (Value.int .i64)) rfl (by simp [HRL.out]) (rd_news hra) (by simp [Value.oneCell']) (by unfold maxLen; omega) (by omega) (by omega) ?_; intro v6 w6 hrow6' hg6 _; have hrow6 : w6.ownsRow wr.heap.size 3 1 v6 (1 + n5) ((dt xs m :: rs).map (Value.int .i64)) := hrow6'; have hg6' : wa.grownBy w6 (some wr.heap.size) := hg6; have hnew6 := own_new hrow6; obtain ⟨A6, c6, hv6, hr6⟩ := Rd.of_own hrow6; subst hv6; clear hg6 hrow6')
          have hb6 : Below wr.heap.size wr w6 := hba.grown hg6' (by omega) (fun k e => by cases e; omega)
          go_wp2_with fail
          refine (ref_cut _ _ _ _ _ hr6).mono ?_
          rintro e w' ⟨n7, hn7, rfl, hv7, hc7, rfl⟩
          go_wp2_with fail
          go_meet
          exact ⟨_, n7, _, _, rfl, hr6.take hn7, hb6, fun b off e => by have := hnew6 ⟨b, off, none⟩ _ _ (by rw [e]); simp at this; omega, Lib.hid ⟨can_take (Dg.cons.2 ⟨by omega, HI.out.1.1⟩) n7 (by rw [hr6.len]; exact hn7) hc7, hv7⟩⟩
      case rest =>
        obtain ⟨A6, n6, c6, ts, rfl, hr6, hb6, hA6, HT⟩ := hcut
        obtain ⟨wx, hwx⟩ : ∃ wx, wx = wc := ⟨_, rfl⟩
        rw [← hwx] at hr6 hb6 ⊢
        have hrowx := row_below hrow hb6
        clear hwx hwa o1 hba hsa hra hr5 HRL hrow
        obtain ⟨R, hR⟩ : ∃ R, val 10000 ts = R := ⟨_, rfl⟩
        have hts0 := (val_bounds (show (0 : Int) < 10000 by omega) HT.out.1.1).1
        have hrs0 := (val_bounds (show (0 : Int) < 10000 by omega) HI.out.1.1).1
        have hRe : R = dt xs m + 10000 * val 10000 rs := by rw [← hR]; exact HT.out.2
        have hRlt : R < y * 10000 := by have := HI.out.2.1; omega
        have hQ : R / y ≤ 9999 := by
          have := (quo_in hy0 10000).1 hRlt; omega
        have hQ0 : 0 ≤ R / y := Int.ediv_nonneg (by rw [← hR]; exact hts0) (by omega)
        have HRR := Lib.hid hR
        have HRe := Lib.hid hRe
        have HRlt := Lib.hid hRlt
        have hlR : Hid (ilen R ≤ 200000) := Lib.hid (by
          have h1 := ilen_mono' (x := R) (y := y * 10000) (by rw [← hR]; exact hts0) (Int.le_of_lt hRlt)
          have h2 := ilen_mul y 10000
          have h3 : ilen 10000 ≤ 5 := big_of_lt (by omega) (by decide)
          have h4 := HY.out
          omega)
        obtain ⟨Q, hQe⟩ : ∃ Q, R / y = Q := ⟨_, rfl⟩
        rw [hQe] at hQ hQ0
        have HQ := Lib.hid hQe
        clear hR hRe hRlt hts0 hrs0 hQe
        go_wp2_with fail
        go_loopw [9, 10] (fun a b wr' => ∃ lo hi : Int, a = .int .i64 lo ∧ b = .int .i64 hi ∧ 0 ≤ lo ∧ lo ≤ Q ∧ Q ≤ hi ∧ hi ≤ 9999 ∧ Below wx.heap.size wx wr') (fun a b _ => (intOf b - intOf a).toNat)
        case atStart => exact ⟨0, 9999, rfl, rfl, by omega, hQ0, hQ, by omega, Below.refl _ _⟩
        case round =>
          obtain ⟨lo, hi, rfl, rfl, hlo0, hloQ, hQhi, hhi, hBx⟩ := hrel
          have hry : RV wr v2 y := (hyr.up hb6).up hBx
          have hr7 := hr6.below hBx
          by_cases hlh : lo < hi
          · have htd : (lo + hi + 1).tdiv 2 = (lo + hi + 1) / 2 := Int.tdiv_eq_ediv_of_nonneg (by omega)
            obtain ⟨md, hmd⟩ : ∃ md, (lo + hi + 1) / 2 = md := ⟨_, rfl⟩
            have hmd1 : lo < md ∧ md ≤ hi := by omega
            rw [hmd] at htd
            have HMD := Lib.hid hmd
            clear hmd
            go_wp2_with fail
            refine (ref_joined _ _ 0 y md _ (rv_nil _) hry (by omega) (by omega) (by have := ilen_small (x := 0) (k := 1) (by omega) (by omega) (by decide); omega) (by have := HY.out; omega) (by rw [Int.zero_add]; exact Int.mul_nonneg (by omega) (by omega))).mono ?_
            rintro _ w8 ⟨_, rfl, ⟨A8, n8, c8, ps, rfl, hr8, hc8, hv8⟩, hX8⟩
            rw [Int.zero_add] at hv8
            have l6 : n6 ≤ 200000 := by have := can_len HT.out.1; rw [HRR.out, hr7.len] at this; exact Nat.le_trans this hlR.out
            have l8 : n8 ≤ 200000 := by
              have := can_len hc8
              have h2 := ilen_mul md y
              have h3 : ilen md ≤ 4 := ilen_small (by omega) (by omega) (by show md < 10000; omega)
              have h4 := HY.out
              rw [hv8, hr8.len] at this; omega
            have HV8 := Lib.hid hv8
            clear hv8
            go_wp2_with fail
            refine (ref_less _ _ _ _ _ _ _ _ _ (hr7.below hX8) hr8 HT.out.1 hc8 (by omega) (by omega)).mono ?_
            rintro _ w9 ⟨rfl, nd, rfl⟩
            have hiff : (val 10000 ts < val 10000 ps) ↔ Q < md := by
              rw [HRR.out, HV8.out, ← HQ.out, Int.mul_comm md y]
              exact quo_in hy0 md
            have hBx9 : Below wx.heap.size wx (w8.drewN nd) := below_drewN (hBx.trans (Below.mono hX8 hBx.size)) nd
            by_cases hlt : Q < md
            · rw [decide_eq_true (hiff.2 hlt)]
              clear hiff
              go_wp2_with fail
              refine ⟨⟨lo, md - 1, rfl, by go_num, hlo0, hloQ, by omega, by omega, hBx9⟩, ?_⟩
              simp [intOf]; omega
            · rw [decide_eq_false (mt hiff.1 hlt)]
              clear hiff
              go_wp2_with fail
              refine ⟨⟨md, hi, rfl, rfl, by omega, by omega, hQhi, hhi, hBx9⟩, ?_⟩
              simp [intOf]; omega
          · obtain rfl : lo = Q := by omega
            have hrow9 := row_below hrowx hBx
            have hcj := own_cell hrow9 m (by omega)
            have hfj := hrow9.frozenAt m
            have hm1 : (m : Int) < (n1 : Int) := by omega
            have hBw : Below w.heap.size w wr := (hB.trans (Below.mono hb6 hB.size)).trans (Below.mono hBx (by have := hB.size; have := hb6.size; omega))
            clear hB
            obtain ⟨ws, hws⟩ : ∃ ws, wr.setCell ⟨w.heap.size, m, none⟩ (.int .i64 lo) = ws := ⟨_, rfl⟩
            have hrowS : ws.ownsRow w.heap.size 3 1 (.slice (some ⟨w.heap.size, 0, none⟩) n1 n1) n1 ((zs.set m lo).map (Value.int .i64)) := by rw [← hws]; exact own_set hrow9 m lo
            have hBs : Below w.heap.size w ws := by rw [← hws]; exact hBw.setCell (p := ⟨w.heap.size, m, none⟩) (Nat.le_refl _) _
            have hrS : RV ws (.slice A6 n6 c6) R := by
              rw [← hws]; exact ⟨A6, n6, c6, ts, rfl, hr7.other _ _ _ hA6, HT.out.1, HRR.out⟩
            have hyS := hyV.up (w' := ws) (by exact hBs)
            have hmod : R + -lo * y = R % y := by
              have := Int.emod_add_mul_ediv R y
              rw [HQ.out] at this
              rw [Int.neg_mul, Int.mul_comm lo y]; omega
            have hjn := ref_joined _ _ R y (-lo) ws hrS hyS (by omega) (by omega) (by have := hlR.out; omega) (by have := HY.out; omega) (by rw [hmod]; exact Int.emod_nonneg _ (by omega))
            rw [hmod] at hjn
            have hRy : R % y < y := Int.emod_lt_of_pos _ hy0
            have hst := parts_step (xs := xs) (zs := zs) (R' := R % y) (low := lo) HLX.out HI.out.2.2.1 (show m < n1 by omega) HI.out.2.2.2.2 (by rw [← hmod, HRe.out, Int.neg_mul]; omega)
            have HST := Lib.hid hst
            clear hmod hst hrS hyS hr7 hry hr6 hcj hrow9
            have hcj2 := own_cell (row_below hrowx hBx) m (by omega)
            have hsS : w.heap.size < ws.heap.size := (hrowS.lt w.heap.size rfl).2
            go_wp2_with fail
            refine hjn.mono ?_
            rintro _ w11 ⟨_, rfl, ⟨A10, n10, c10, us, rfl, hr10, hc10, hv10⟩, hX⟩
            have HV10 := Lib.hid hv10
            clear hv10
            go_wp2_with fail
            refine ⟨⟨m, A10, n10, c10, us, zs.set m lo, by omega, by go_num, rfl, hr10, Lib.hid ⟨hc10, by rw [HV10.out]; exact hRy, by rw [List.length_set]; exact HI.out.2.2.1, HI.out.2.2.2.1.set m (by omega) (by omega), by rw [HV10.out]; exact HST.out⟩, row_below hrowS hX, hBs.trans (Below.mono hX hBs.size), by have := hX.size; omega⟩, ?_⟩
            simp [intOf]
    · obtain rfl : k = 0 := by omega
      obtain ⟨A3, c3, hv3, hrd⟩ := Rd.of_own hrow
      simp only [Value.slice.injEq] at hv3
      obtain ⟨rfl, _, rfl⟩ := hv3
      have hfin := HI.out.2.2.2.2
      rw [List.drop_zero, List.drop_zero] at hfin
      have hrs0 := (val_bounds (show (0 : Int) < 10000 by omega) HI.out.1.1).1
      have hq : val 10000 xs / y = val 10000 zs := by
        rw [hfin, Int.mul_comm, Int.add_comm, Int.add_mul_ediv_right _ _ (by omega), Int.ediv_eq_zero_of_lt hrs0 HI.out.2.1, Int.zero_add]
      have hr : val 10000 xs % y = val 10000 rs := by
        rw [hfin, Int.mul_comm, Int.add_comm, Int.add_mul_emod_self_right, Int.emod_eq_of_lt hrs0 HI.out.2.1]
      have HQ := Lib.hid hq
      have HR := Lib.hid hr
      clear hq hr hfin hrow
      go_wp2_with fail
      refine (ref_cut _ _ _ _ _ hrd).mono ?_
      rintro e w' ⟨q, hq, rfl, hmv, hmc, rfl⟩
      have HM := Lib.hid hmv
      clear hmv
      go_wp2
      go_ret2
      exact ⟨_, _, rfl, ⟨_, q, _, _, rfl, hrd.take hq, can_take HI.out.2.2.2.1 q (by rw [hrd.len]; exact hq) hmc, by rw [HM.out, HQ.out]⟩, ⟨A5, n5, c5, rs, rfl, hr5, HI.out.1, HR.out.symm⟩, hB⟩
end Go.Proofs.Klp
/- The reference's integers: signs, small ones, sums. -/
namespace Go.Proofs.Klp
open Go.RowKit
open Go.Lib (decDigits itoa hasPrefix trimPrefix)

/-- Split, of any text -/
theorem ref_split_any (s : ByteArray) (w : World) : Calls Tryz.prog 103 #[.string s] w (Ret w (.tuple #[.bool (hasPrefix s.data.toList [45]), .string (mkB (trimPrefix s.data.toList [45]))])) := by
  have hU := Up.refl w
  obtain ⟨l, hl⟩ : ∃ l, s.data.toList = l := ⟨_, rfl⟩
  have hs : s = mkB l := mkB_ext (by rw [hl]; rfl)
  subst hs
  clear hl
  rw [mkB_data]
  have hsz := mkB_size l
  cases l with
  | nil =>
    rw [show hasPrefix ([] : List UInt8) [45] = false from rfl, show trimPrefix ([] : List UInt8) [45] = [] from rfl]
    rw [List.length_nil] at hsz
    go_enter Tryz.func103, Tryz.ntmps103
    go_wp2
    go_ret2
    exact ⟨rfl, hU⟩
  | cons c t =>
    rw [List.length_cons] at hsz
    have hb : ∀ h : 0 < (mkB (c :: t)).size, (((mkB (c :: t))[0]'h).toNat : Int) = c.toNat := fun h => rfl
    by_cases h45 : c.toNat = 45
    · have hc : c = 45 := u8_ext h45
      have ht : (mkB (c :: t)).extract 1 (t.length + 1) = mkB t := by rw [← hsz, mkB_tail]; rfl
      have e1 : hasPrefix (c :: t) [45] = true := by rw [hp_head, hc]; rfl
      have e2 : trimPrefix (c :: t) [45] = t := by unfold trimPrefix; rw [if_pos e1]; rfl
      rw [e1, e2]
      clear hc e1 e2
      go_enter Tryz.func103, Tryz.ntmps103
      go_wp2_with fail
      go_quiet (fail)
      go_wp2
      go_ret2
      exact ⟨by first | rfl | (rw [ht]; rfl), hU.drewN _⟩
    · have e1 : hasPrefix (c :: t) [45] = false := by
        rw [hp_head, List.head?_cons]
        refine beq_false_of_ne fun e => h45 ?_
        rw [Option.some.inj e]; rfl
      have e2 : trimPrefix (c :: t) [45] = c :: t := by unfold trimPrefix; rw [if_neg (by simp [e1])]
      rw [e1, e2]
      have h45' : ¬ (c.toNat : Int) = 45 := by omega
      clear e1 e2
      go_enter Tryz.func103, Tryz.ntmps103
      go_wp2
      all_goals first
        | (exfalso; omega)
        | (go_ret2; exact ⟨rfl, hU⟩)
theorem ref_split (n : Int) (w : World) : Calls Tryz.prog 103 #[.string (iB n)] w (Ret w (.tuple #[.bool (decide (n < 0)), .string (mkB (decDigits n.natAbs))])) := by
  have h := ref_split_any (iB n) w
  rwa [iB_data, hp_itoa, tp_itoa] at h

theorem r01_sign (n : Int) (w : World) : Calls Tryz.prog 97 #[.string (iB n)] w (Ret w (.int .i64 n.sign)) := by
  have hU := Up.refl w
  have h0 := iB_is0 n
  have hc := ref_split n w
  rcases sign_cases n with ⟨h, e⟩ | ⟨h, e⟩ | ⟨h, e⟩
  · rw [decide_eq_true h] at hc
    rw [e]
    clear h0 e
    go_enter Tryz.func97, Tryz.ntmps97
    go_wp2_with fail
    refine (hc).mono ?_
    rintro _ _ ⟨rfl, hX⟩; replace hU := Up.trans hU hX; clear hX
    go_wp2
    go_ret
    exact ⟨rfl, hU⟩
  · rw [decide_eq_false (by omega)] at hc
    rw [decide_eq_true h] at h0
    rw [e]
    clear h e
    go_enter Tryz.func97, Tryz.ntmps97
    go_wp2_with fail
    refine (hc).mono ?_
    rintro _ _ ⟨rfl, hX⟩; replace hU := Up.trans hU hX; clear hX
    go_wp2
    go_ret
    exact ⟨rfl, hU⟩
  · rw [decide_eq_false (by omega)] at hc
    rw [decide_eq_false (by omega)] at h0
    rw [e]
    clear h e
    go_enter Tryz.func97, Tryz.ntmps97
    go_wp2_with fail
    refine (hc).mono ?_
    rintro _ _ ⟨rfl, hX⟩; replace hU := Up.trans hU hX; clear hX
    go_wp2
    go_ret
    exact ⟨rfl, hU⟩

theorem r01_abs (n : Int) (w : World) : Calls Tryz.prog 126 #[.string (iB n)] w (Ret w (.string (iB n.natAbs))) := by
  have hU := Up.refl w
  rw [iB_nat]
  go_enter Tryz.func126, Tryz.ntmps126
  go_wp2_with fail
  refine (ref_split n _).mono ?_
  rintro _ _ ⟨rfl, hX⟩; replace hU := Up.trans hU hX; clear hX
  go_wp2
  go_ret
  exact ⟨rfl, hU⟩

theorem r01_neg (n : Int) (w : World) (hl : ilen n ≤ 100000000) : Calls Tryz.prog 98 #[.string (iB n)] w (Ret w (.string (iB (-n)))) := by
  have hU := Up.refl w
  have h0 := iB_is0 n
  have hc := ref_split n w
  rw [← iB_nat] at hc
  have hsz := size_abs n
  rcases sign_cases n with ⟨h, e⟩ | ⟨h, e⟩ | ⟨h, e⟩
  · rw [decide_eq_true h, show (n.natAbs : Int) = -n by omega] at hc
    clear h0 e hsz
    go_enter Tryz.func98, Tryz.ntmps98
    go_wp2_with fail
    refine (hc).mono ?_
    rintro _ _ ⟨rfl, hX⟩; replace hU := Up.trans hU hX; clear hX
    go_wp2
    go_ret
    exact ⟨rfl, hU⟩
  · rw [decide_eq_false (by omega)] at hc
    rw [decide_eq_true h] at h0
    subst h
    clear e hsz
    go_enter Tryz.func98, Tryz.ntmps98
    go_wp2_with fail
    refine (hc).mono ?_
    rintro _ _ ⟨rfl, hX⟩; replace hU := Up.trans hU hX; clear hX
    go_wp2
    go_ret
    exact ⟨rfl, hU⟩
  · have hcat := cat_negI h
    rw [decide_eq_false (by omega), show (n.natAbs : Int) = n by omega] at hc
    rw [show (n.natAbs : Int) = n by omega] at hsz
    rw [decide_eq_false (by omega)] at h0
    clear h e
    go_enter Tryz.func98, Tryz.ntmps98
    go_wp2_with fail
    refine (hc).mono ?_
    rintro _ _ ⟨rfl, hX⟩; replace hU := Up.trans hU hX; clear hX
    go_wp2
    all_goals first
      | (exfalso; omega)
      | (go_ret; exact ⟨rfl, hU⟩)

theorem r01_of (n : Int) (w : World) (hE : Env w) (h0 : -9223372036854775808 ≤ n) (h1 : n ≤ 9223372036854775807) : Calls Tryz.prog 84 #[.int .i64 n] w (Ret w (.string (iB n))) := by
  have hU := Up.refl w
  go_enter Tryz.func84, Tryz.ntmps84
  go_wp2_with fail
  refine (itoa_c n _ hE h0 h1).mono ?_
  rintro _ _ ⟨rfl, hX⟩; replace hU := Up.trans hU hX; clear hX
  go_wp2
  go_ret
  exact ⟨rfl, hU⟩
end Go.Proofs.Klp
/- The reference's integers: ints, sums, orders. -/
namespace Go.Proofs.Klp
open Go.RowKit
open Go.Lib (decDigits itoa)

theorem small_td {d : Int} (h0 : 0 ≤ d) (h1 : d ≤ 9) : (-9223372036854775808 + d).tdiv 10 ≤ -900000000000000000 ∧ -1000000000000000000 ≤ (-9223372036854775808 + d).tdiv 10 := by
  have e : -9223372036854775808 + d = -(9223372036854775808 - d) := by omega
  rw [e, Int.neg_tdiv, Int.tdiv_eq_ediv_of_nonneg (by omega)]
  omega
theorem tv_pre_lt {D : List UInt8} (hD : Digs D) {k j : Nat} (h : k ≤ j) : tv (D.take k) < 10 ^ j := by
  have hd : Digs (D.take k) := fun c hc => hD c (List.mem_of_mem_take hc)
  refine Nat.lt_of_lt_of_le (tv_lt hd) ?_
  exact Nat.pow_le_pow_right (by decide) (by rw [List.length_take]; omega)

set_option maxRecDepth 100000 in
set_option maxHeartbeats 4000000 in
theorem r01_small (n : Int) (w : World) (hl : ilen n ≤ 18) : Calls Tryz.prog 108 #[.string (iB n)] w (Ret w (.tuple #[.int .i64 n, .bool true])) := by
  have hU := Up.refl w
  have hc := ref_split n w
  obtain ⟨D, hD⟩ : ∃ D, decDigits n.natAbs = D := ⟨_, rfl⟩
  have hlen : D.length ≤ 18 := by rw [← hD]; exact hl
  have hdig : Digs D := hD ▸ digs_dec _
  have hval : tv D = n.natAbs := by rw [← hD, tv_dec]
  rw [hD] at hc
  have hsz := mkB_size D
  have HD := Lib.hid hdig
  have HV := Lib.hid hval
  clear hD hdig hval
  go_enter Tryz.func108, Tryz.ntmps108
  go_wp2_with fail
  refine (hc).mono ?_
  rintro _ _ ⟨rfl, hX⟩; replace hU := Up.trans hU hX; clear hX
  go_wp2_with fail
  have hU0 := Lib.hid hU
  clear hU
  go_loopw [6, 7] (fun a i wr => ∃ (k v : Nat), k ≤ D.length ∧ i = .int .i64 k ∧ a = .int .i64 (-(v : Int)) ∧ v < 1000000000000000000 ∧ Hid (v = tv (D.take k)) ∧ Up w wr) (fun _ i _ => D.length - (intOf i).toNat)
  case atStart => exact ⟨0, 0, Nat.zero_le _, rfl, rfl, by omega, Lib.hid rfl, hU0.out⟩
  case round =>
    obtain ⟨k, v, hk, rfl, rfl, hv, HK, hUr⟩ := hrel
    by_cases hlt : k < D.length
    · have hcd := HD.out _ (List.getElem_mem hlt)
      have hb : ∀ h : k < (mkB D).size, (((mkB D)[k]'h).toNat : Int) = (D[k]'hlt).toNat := fun h => rfl
      obtain ⟨c, hce⟩ : ∃ c, D[k]'hlt = c := ⟨_, rfl⟩
      rw [hce] at hcd hb
      have HC := Lib.hid hce
      clear hce
      obtain ⟨d, hd⟩ : ∃ d : Nat, (c.toNat : Int) - 48 = d := ⟨c.toNat - 48, by omega⟩
      have hd9 : d ≤ 9 := by omega
      obtain ⟨T, hT, hT1, hT2⟩ : ∃ T, (-9223372036854775808 + (d : Int)).tdiv 10 = T ∧ T ≤ -900000000000000000 ∧ -1000000000000000000 ≤ T := ⟨_, rfl, small_td (by omega) (by omega)⟩
      have hv17 : v < 100000000000000000 := by
        have := tv_pre_lt HD.out (k := k) (j := 17) (by omega)
        rw [← HK.out] at this; exact this
      have hnt : ¬ (-(v : Int) < T) := by omega
      go_wp2_with fail
      refine ⟨⟨k + 1, v * 10 + d, by omega, by go_num, by go_num, ?_, Lib.hid ?_, hUr⟩, ?_⟩
      · omega
      · rw [tv_take hlt, ← HK.out, HC.out]; omega
      · simp [intOf]; omega
    · obtain rfl : k = D.length := by omega
      have hvn : v = n.natAbs := by rw [HK.out, List.take_length, HV.out]
      by_cases hn : n < 0
      · have hnv : -(v : Int) = n := by omega
        have HNV := Lib.hid hnv
        rw [decide_eq_true hn]
        clear hvn hn hnv
        go_wp2
        go_ret2
        exact ⟨by rw [← HNV.out]; rfl, hUr⟩
      · have hnv : (v : Int) = n := by omega
        have hne : ((-(v : Int)) == -9223372036854775808) = false := beq_false_of_ne (by omega)
        have HNV := Lib.hid hnv
        rw [decide_eq_false hn]
        clear hvn hn hnv
        go_wp2
        go_ret2
        exact ⟨by rw [← HNV.out]; rfl, hUr⟩

theorem dec_size (n : Int) : (mkB (decDigits n.natAbs)).size = ilen n := by rw [mkB_size]; rfl
theorem r01_brief_yes (n : Int) (w : World) (h : ilen n ≤ 17) : Calls Tryz.prog 102 #[.string (iB n)] w (Ret w (.tuple #[.int .i64 n, .bool true])) := by
  have hU := Up.refl w
  have hsz := dec_size n
  go_enter Tryz.func102, Tryz.ntmps102
  go_wp2_with fail
  refine (ref_split n _).mono ?_
  rintro _ _ ⟨rfl, hX⟩; replace hU := Up.trans hU hX; clear hX
  go_wp2_with fail
  refine (r01_small n _ (by omega)).mono ?_
  rintro _ _ ⟨rfl, hX⟩; replace hU := Up.trans hU hX; clear hX
  go_wp2
  go_ret2
  exact ⟨rfl, hU⟩
theorem r01_brief_no (n : Int) (w : World) (h : 17 < ilen n) (hl : ilen n ≤ 100000000) : Calls Tryz.prog 102 #[.string (iB n)] w (Ret w (.tuple #[.int .i64 0, .bool false])) := by
  have hU := Up.refl w
  have hsz := dec_size n
  go_enter Tryz.func102, Tryz.ntmps102
  go_wp2_with fail
  refine (ref_split n _).mono ?_
  rintro _ _ ⟨rfl, hX⟩; replace hU := Up.trans hU hX; clear hX
  go_wp2
  go_ret2
  exact ⟨rfl, hU⟩
theorem take_c (n : Int) (w : World) (hl : ilen n ≤ 100000) : Calls Tryz.prog 104 #[.string (mkB (decDigits n.natAbs))] w fun e w' => ∃ v, e = .returned v ∧ RV w' v n.natAbs ∧ Up w w' := by
  have h := ref_take (decDigits n.natAbs) w (digs_dec _) hl
  rwa [tv_dec] at h
theorem abs_len (n : Int) : ilen (n.natAbs : Int) = ilen n := natAbs_len n
theorem abs_lt {n : Int} {k : Nat} (hk : 1 ≤ k) (h : ilen n ≤ k) : n.natAbs < 10 ^ k := (dec_len_le hk).1 h
theorem made_to {m : Bool} {x r : Int} (h : (if m = true then -x else x) = r) (v : Value) (w : World) (hE : Env w) (hx : RV w v x) (hl : ilen x ≤ 1000000) :
    Calls Tryz.prog 105 #[.bool m, v] w (Ret w (.string (iB r))) := h ▸ ref_made m v x w hE hx hl

set_option maxRecDepth 100000 in
set_option maxHeartbeats 4000000 in
theorem r01_add (a b : Int) (w : World) (hE : Env w) (ha : ilen a ≤ 100000) (hb : ilen b ≤ 100000) : Calls Tryz.prog 72 #[.string (iB a), .string (iB b)] w (Ret w (.string (iB (a + b)))) := by
  have hU := Up.refl w
  by_cases hq : ilen a ≤ 17 ∧ ilen b ≤ 17
  · have h1 := abs_lt (by omega) hq.1
    have h2 := abs_lt (by omega) hq.2
    go_enter Tryz.func72, Tryz.ntmps72
    go_wp2_with fail
    refine (r01_brief_yes a _ (by omega)).mono ?_
    rintro _ _ ⟨rfl, hX⟩; replace hU := Up.trans hU hX; replace hE := Env.up hE hX; clear hX
    go_wp2_with fail
    refine (r01_brief_yes b _ (by omega)).mono ?_
    rintro _ _ ⟨rfl, hX⟩; replace hU := Up.trans hU hX; replace hE := Env.up hE hX; clear hX
    go_wp2_with fail
    refine (r01_of (a + b) _ hE (by omega) (by omega)).mono ?_
    rintro _ _ ⟨rfl, hX⟩; replace hU := Up.trans hU hX; clear hX
    go_wp2
    go_ret
    exact ⟨rfl, hU⟩
  · obtain ⟨ma, hma⟩ : ∃ m, decide (a < 0) = m := ⟨_, rfl⟩
    obtain ⟨mb, hmb⟩ : ∃ m, decide (b < 0) = m := ⟨_, rfl⟩
    have hsa := ref_split a
    have hsb := ref_split b
    rw [hma] at hsa
    rw [hmb] at hsb
    have hla := abs_len a
    have hlb := abs_len b
    have hadd := ilen_add (a.natAbs : Int) (b.natAbs : Int)
    rw [hla, hlb] at hadd
    have HMA := Lib.hid hma
    have HMB := Lib.hid hmb
    clear hma hmb
    have hLA := Lib.hid hla
    have hLB := Lib.hid hlb
    clear hla hlb
    go_enter Tryz.func72, Tryz.ntmps72
    by_cases hqa : ilen a ≤ 17
    case' pos =>
      go_wp2_with fail
      refine (r01_brief_yes a _ (by omega)).mono ?_
      rintro _ _ ⟨rfl, hX⟩; replace hU := Up.trans hU hX; replace hE := Env.up hE hX; clear hX
      go_wp2_with fail
      refine (r01_brief_no b _ (by omega) (by omega)).mono ?_
      rintro _ _ ⟨rfl, hX⟩; replace hU := Up.trans hU hX; replace hE := Env.up hE hX; clear hX
    case' neg =>
      go_wp2_with fail
      refine (r01_brief_no a _ (by omega) (by omega)).mono ?_
      rintro _ _ ⟨rfl, hX⟩; replace hU := Up.trans hU hX; replace hE := Env.up hE hX; clear hX
      by_cases hqb : ilen b ≤ 17
      case' pos =>
        go_wp2_with fail
        refine (r01_brief_yes b _ (by omega)).mono ?_
        rintro _ _ ⟨rfl, hX⟩; replace hU := Up.trans hU hX; replace hE := Env.up hE hX; clear hX
      case' neg =>
        go_wp2_with fail
        refine (r01_brief_no b _ (by omega) (by omega)).mono ?_
        rintro _ _ ⟨rfl, hX⟩; replace hU := Up.trans hU hX; replace hE := Env.up hE hX; clear hX
    all_goals
      go_wp2_with fail
      refine (hsa _).mono ?_
      rintro _ _ ⟨rfl, hX⟩; replace hU := Up.trans hU hX; replace hE := Env.up hE hX; clear hX
      go_wp2_with fail
      refine (hsb _).mono ?_
      rintro _ _ ⟨rfl, hX⟩; replace hU := Up.trans hU hX; replace hE := Env.up hE hX; clear hX
      go_wp2_with fail
      refine (take_c a _ ha).mono ?_
      rintro _ w4 ⟨va, rfl, hva, hX4⟩
      go_wp2_with fail
      refine (take_c b _ hb).mono ?_
      rintro _ w5 ⟨vb, rfl, hvb, hX5⟩
      have hE5 := hE.up (hX4.trans hX5)
      have hU5 := (hU.trans hX4).trans hX5
      have hva5 := hva.up hX5
      by_cases hs : ma = mb
      · subst hs
        have hsg := sgn_add HMA.out HMB.out
        have hjn := ref_joined va vb a.natAbs b.natAbs 1 w5 hva5 hvb (by omega) (by omega) (by have := hLA.out; omega) (by have := hLB.out; omega) (by omega)
        rw [Int.one_mul] at hjn
        have HSG := Lib.hid hsg
        clear hsg
        go_wp2_with fail
        refine hjn.mono ?_
        rintro _ w6 ⟨v6, rfl, hv6, hX6⟩
        go_wp2_with fail
        refine (made_to HSG.out v6 w6 (hE5.up hX6) hv6 (by omega)).mono ?_
        rintro _ w7 ⟨rfl, hX7⟩
        go_wp2
        go_ret
        exact ⟨rfl, (hU5.trans hX6).trans hX7⟩
      · have hs' : (ma == mb) = false := beq_false_of_ne hs
        have HS := Lib.hid hs
        obtain ⟨A1, n1, c1, xs, rfl, hr1, hc1, hv1⟩ := hva5
        obtain ⟨A2, n2, c2, ys, rfl, hr2, hc2, hv2⟩ := hvb
        have k1 : n1 ≤ 100000 := by have := can_len hc1; rw [hr1.len, hv1] at this; have := hLA.out; omega
        have k2 : n2 ≤ 100000 := by have := can_len hc2; rw [hr2.len, hv2] at this; have := hLB.out; omega
        have HV1 := Lib.hid hv1
        have HV2 := Lib.hid hv2
        have hls := ref_less A1 n1 c1 xs A2 n2 c2 ys w5 hr1 hr2 hc1 hc2 (by omega) (by omega)
        rw [hv1, hv2] at hls
        clear hs hv1 hv2
        by_cases hlt : (a.natAbs : Int) < (b.natAbs : Int)
        · rw [decide_eq_true hlt] at hls
          have hsg := sgn_sub HMB.out HMA.out (Ne.symm HS.out)
          rw [Int.add_comm b a] at hsg
          have HSG := Lib.hid hsg
          have hsl : ilen ((b.natAbs : Int) - (a.natAbs : Int)) ≤ 1000000 := by
            have := ilen_mono' (x := (b.natAbs : Int) - (a.natAbs : Int)) (y := (b.natAbs : Int)) (by omega) (by omega)
            have := hLB.out; omega
          clear hsg
          go_wp2_with fail
          refine hls.mono ?_
          rintro _ w6 ⟨rfl, nd, rfl⟩
          have hX6 : Up w5 (w5.drewN nd) := (Up.refl _).drewN nd
          have hjn := ref_joined (.slice A2 n2 c2) (.slice A1 n1 c1) b.natAbs a.natAbs (-1) (w5.drewN nd) ⟨A2, n2, c2, ys, rfl, hr2.below hX6, hc2, HV2.out⟩ ⟨A1, n1, c1, xs, rfl, hr1.below hX6, hc1, HV1.out⟩ (by omega) (by omega) (by have := hLB.out; omega) (by have := hLA.out; omega) (by omega)
          rw [show (b.natAbs : Int) + -1 * (a.natAbs : Int) = (b.natAbs : Int) - (a.natAbs : Int) by omega] at hjn
          go_wp2_with fail
          refine hjn.mono ?_
          rintro _ w7 ⟨v7, rfl, hv7, hX7⟩
          go_wp2_with fail
          refine (made_to HSG.out v7 w7 (hE5.up (hX6.trans hX7)) hv7 hsl).mono ?_
          rintro _ w8 ⟨rfl, hX8⟩
          go_wp2
          go_ret
          exact ⟨rfl, ((hU5.trans hX6).trans hX7).trans hX8⟩
        · rw [decide_eq_false hlt] at hls
          have hsg := sgn_sub HMA.out HMB.out HS.out
          have HSG := Lib.hid hsg
          have hsl : ilen ((a.natAbs : Int) - (b.natAbs : Int)) ≤ 1000000 := by
            have := ilen_mono' (x := (a.natAbs : Int) - (b.natAbs : Int)) (y := (a.natAbs : Int)) (by omega) (by omega)
            have := hLA.out; omega
          clear hsg
          go_wp2_with fail
          refine hls.mono ?_
          rintro _ w6 ⟨rfl, nd, rfl⟩
          have hX6 : Up w5 (w5.drewN nd) := (Up.refl _).drewN nd
          have hjn := ref_joined (.slice A1 n1 c1) (.slice A2 n2 c2) a.natAbs b.natAbs (-1) (w5.drewN nd) ⟨A1, n1, c1, xs, rfl, hr1.below hX6, hc1, HV1.out⟩ ⟨A2, n2, c2, ys, rfl, hr2.below hX6, hc2, HV2.out⟩ (by omega) (by omega) (by have := hLA.out; omega) (by have := hLB.out; omega) (by omega)
          rw [show (a.natAbs : Int) + -1 * (b.natAbs : Int) = (a.natAbs : Int) - (b.natAbs : Int) by omega] at hjn
          go_wp2_with fail
          refine hjn.mono ?_
          rintro _ w7 ⟨v7, rfl, hv7, hX7⟩
          go_wp2_with fail
          refine (made_to HSG.out v7 w7 (hE5.up (hX6.trans hX7)) hv7 hsl).mono ?_
          rintro _ w8 ⟨rfl, hX8⟩
          go_wp2
          go_ret
          exact ⟨rfl, ((hU5.trans hX6).trans hX7).trans hX8⟩

theorem r01_sub (a b : Int) (w : World) (hE : Env w) (ha : ilen a ≤ 100000) (hb : ilen b ≤ 100000) : Calls Tryz.prog 142 #[.string (iB a), .string (iB b)] w (Ret w (.string (iB (a - b)))) := by
  have hU := Up.refl w
  have hl := ilen_neg b
  rw [Int.sub_eq_add_neg]
  go_enter Tryz.func142, Tryz.ntmps142
  go_wp2_with fail
  refine (r01_neg b _ (by omega)).mono ?_
  rintro _ _ ⟨rfl, hX⟩; replace hU := Up.trans hU hX; replace hE := Env.up hE hX; clear hX
  go_wp2_with fail
  refine (r01_add a (-b) _ hE ha (by omega)).mono ?_
  rintro _ _ ⟨rfl, hX⟩; replace hU := Up.trans hU hX; clear hX
  go_wp2
  go_ret
  exact ⟨rfl, hU⟩

theorem r01_compare (a b : Int) (w : World) (hE : Env w) (ha : ilen a ≤ 100000) (hb : ilen b ≤ 100000) : Calls Tryz.prog 117 #[.string (iB a), .string (iB b)] w (Ret w (.int .i64 (a - b).sign)) := by
  have hU := Up.refl w
  go_enter Tryz.func117, Tryz.ntmps117
  go_wp2_with fail
  refine (r01_sub a b _ hE ha hb).mono ?_
  rintro _ _ ⟨rfl, hX⟩; replace hU := Up.trans hU hX; replace hE := Env.up hE hX; clear hX
  go_wp2_with fail
  refine (r01_sign (a - b) _).mono ?_
  rintro _ _ ⟨rfl, hX⟩; replace hU := Up.trans hU hX; clear hX
  go_wp2
  go_ret
  exact ⟨rfl, hU⟩
end Go.Proofs.Klp
