/- The reference's magnitudes: pieces of four digits. -/
import Derived.Test.YtooldicbicanaaaGreatDoorKG
import Derived.StillTailTactics
namespace Go.Proofs.Klp
open Go.RowKit

theorem uSI64 : Tryz.prog.underlying 140 = some (.slice 3) := by kernel_rfl
theorem infoI64 : (Tryz.prog.info? 3).map (fun i => (i.zero, i.size, i.bytes)) = some (some (.int .i64 0), 1, 8) := by kernel_rfl
noncomputable def iI64 : TypeInfo := (info_parts infoI64).choose
theorem iI64_at : Tryz.prog.info? 3 = some iI64 := (info_parts infoI64).choose_spec.1
theorem iI64_zero : iI64.zero = some (.int .i64 0) := (info_parts infoI64).choose_spec.2.1
theorem iI64_size : iI64.size = 1 := (info_parts infoI64).choose_spec.2.2.1
theorem iI64_bytes : iI64.bytes = 8 := (info_parts infoI64).choose_spec.2.2.2

/-- the value v is a slice with the digits (base 10^4) of x -/
def RV (w : World) (v : Value) (x : Int) : Prop :=
  ∃ A n c zs, v = .slice A n c ∧ Rd .i64 w A n c zs ∧ Can 10000 zs ∧ val 10000 zs = x
theorem RV.up {w w' : World} {v : Value} {x : Int} (h : RV w v x) (hb : Up w w') : RV w' v x := by
  obtain ⟨A, n, c, zs, e, hr, hc⟩ := h
  exact ⟨A, n, c, zs, e, hr.below hb, hc⟩
theorem RV.nonneg {w : World} {v : Value} {x : Int} (h : RV w v x) : 0 ≤ x := by
  obtain ⟨A, n, c, zs, e, hr, hc, rfl⟩ := h
  exact (val_bounds (by omega) hc.1).1
/-- no more pieces than digits -/
theorem can_len {zs : List Int} (h : Can 10000 zs) : zs.length ≤ ilen (val 10000 zs) := by
  by_cases hz : zs = []
  · subst hz; exact Nat.zero_le _
  · have h1 := h.low (by omega) hz
    have h0 := (val_bounds (show (0 : Int) < 10000 by omega) h.1).1
    have hl : 0 < zs.length := List.length_pos_iff.2 hz
    rcases Nat.lt_or_ge (ilen (val 10000 zs)) zs.length with hlt | hge
    · exfalso
      have h2 : (val 10000 zs).natAbs < 10 ^ (zs.length - 1) ∨ zs.length - 1 = 0 := by
        rcases Nat.eq_zero_or_pos (zs.length - 1) with k | k
        · exact .inr k
        · refine .inl ((dec_len_le k).1 ?_)
          show ilen _ ≤ _
          omega
      rcases h2 with h2 | h2
      · have h3 : (10 : Nat) ^ (zs.length - 1) ≤ 10000 ^ (zs.length - 1) := Nat.pow_le_pow_left (by decide) _
        have h4 : ((10000 ^ (zs.length - 1) : Nat) : Int) ≤ val 10000 zs := by rw [Int.natCast_pow]; exact h1
        omega
      · have := ilen_pos (val 10000 zs); omega
    · exact hge
theorem rt_bd {zs : List Int} (h : Dg 10000 zs) (k : Nat) : 0 ≤ dt zs k ∧ dt zs k ≤ 9999 := by
  have := h.getD (by omega) k; unfold dt; omega
theorem ret_b {a b : Bool} (h : a = b) : Ending.returned (.bool a) = .returned (.bool b) := by rw [h]
theorem dec_lt {x y : Int} (h : x < y) : decide (x < y) = true := decide_eq_true h
theorem dec_gt {x y : Int} (h : y < x) : decide (x < y) = false := decide_eq_false (by omega)
theorem dec_eq {x y : Int} (h : x = y) : decide (x < y) = false := decide_eq_false (by omega)

set_option maxHeartbeats 400000 in
theorem ref_cut (A : Option Addr) (n c : Nat) (zs : List Int) (w : World) (hr : Rd .i64 w A n c zs) :
    Calls Tryz.prog 129 #[.slice A n c] w fun e w' => ∃ m, m ≤ n ∧ e = .returned (.slice A m c) ∧ val 10000 (zs.take m) = val 10000 zs ∧ (m = 0 ∨ zs.getD (m - 1) 0 ≠ 0) ∧ w = w' := by
  have hc1 := hr.cap
  have hc2 := hr.cmax
  have hlen := Lib.hid hr.len
  go_enter Tryz.func129, Tryz.ntmps129
  go_wp2
  go_loop [0] (fun p => ∃ m : Nat, m ≤ n ∧ p = .slice A m c ∧ Hid (val 10000 (zs.take m) = val 10000 zs)) (fun p => match p with | .slice _ m _ => m | _ => 0)
  case atStart => exact ⟨n, Nat.le_refl _, rfl, Lib.hid (by rw [← hlen.out, List.take_length])⟩
  case round =>
    obtain ⟨m, hm, rfl, hv⟩ := hrel
    by_cases h0 : 0 < m
    · obtain ⟨b, off, hA, hb, hcell⟩ := hr.cell (by omega)
      subst hA
      have hx := hcell (m - 1) (by omega)
      clear hcell hr
      by_cases hz : dt zs (m - 1) = 0
      · rw [hz] at hx
        have HZ := Lib.hid hz
        clear hz
        go_wp2
        exact ⟨⟨m - 1, by omega, rfl, Lib.hid (by
          have e := val_take_succ' 10000 zs (m - 1)
          rw [show m - 1 + 1 = m by omega] at e
          have h2 : zs.getD (m - 1) 0 = 0 := HZ.out
          rw [← hv.out, e, h2]; simp)⟩, by simp; omega⟩
      · have HZ := Lib.hid hz
        have hz2 : (dt zs (m - 1) == 0) = false := beq_eq_false_iff_ne.2 hz
        clear hz
        go_wp2
        go_ret
        exact ⟨m, hm, rfl, hv.out, .inr HZ.out, rfl⟩
    · obtain rfl : m = 0 := by omega
      go_wp2
      go_ret
      exact ⟨0, hm, rfl, hv.out, .inl rfl, rfl⟩

set_option maxRecDepth 100000 in
set_option maxHeartbeats 2000000 in
theorem ref_less (A1 : Option Addr) (n1 c1 : Nat) (xs : List Int) (A2 : Option Addr) (n2 c2 : Nat) (ys : List Int) (w : World) (hx : Rd .i64 w A1 n1 c1 xs) (hy : Rd .i64 w A2 n2 c2 ys)
    (hxc : Can 10000 xs) (hyc : Can 10000 ys) (hn1 : n1 ≤ 1000000000) (hn2 : n2 ≤ 1000000000) :
    Calls Tryz.prog 107 #[.slice A1 n1 c1, .slice A2 n2 c2] w fun e w' => e = .returned (.bool (decide (val 10000 xs < val 10000 ys))) ∧ ∃ nd, w' = w.drewN nd := by
  have hc1 := hx.cap
  have hc2 := hx.cmax
  by_cases hlt : n1 < n2
  · have hne : ((n1 : Int) == (n2 : Int)) = false := beq_eq_false_iff_ne.2 (by omega)
    go_enter Tryz.func107, Tryz.ntmps107
    go_wp2
    go_ret
    exact ⟨ret_b (dec_lt (hyc.lt_of_len (by omega) hxc.1 (by rw [hx.len, hy.len]; exact hlt))).symm, 0, rfl⟩
  by_cases hgt : n2 < n1
  · have hne : ((n1 : Int) == (n2 : Int)) = false := beq_eq_false_iff_ne.2 (by omega)
    go_enter Tryz.func107, Tryz.ntmps107
    go_wp2
    go_ret
    exact ⟨ret_b (dec_gt (hxc.lt_of_len (by omega) hyc.1 (by rw [hx.len, hy.len]; exact hgt))).symm, 0, rfl⟩
  obtain rfl : n1 = n2 := by omega
  have hlx := Lib.hid hx.len
  have hly := Lib.hid hy.len
  go_enter Tryz.func107, Tryz.ntmps107
  go_wp2
  go_loopw [5] (fun i wr => ∃ k : Nat, k ≤ n1 ∧ i = .int .i64 ((k : Int) - 1) ∧ Hid (val 10000 (xs.drop k) = val 10000 (ys.drop k)) ∧ ∃ nd, wr = w.drewN nd) (fun i _ => (intOf i + 1).toNat)
  case atStart => exact ⟨n1, Nat.le_refl _, rfl, Lib.hid (by rw [List.drop_of_length_le (by rw [hlx.out]; omega), List.drop_of_length_le (by rw [hly.out]; omega)]), 0, rfl⟩
  case round =>
    obtain ⟨k, hk, rfl, hv, nd, rfl⟩ := hrel
    by_cases h0 : 0 < k
    · obtain ⟨m, rfl⟩ : ∃ m, k = m + 1 := ⟨k - 1, by omega⟩
      rw [show (((m + 1 : Nat) : Int) - 1) = (m : Int) from by omega]
      obtain ⟨b, off, hA, hb, hcell⟩ := hx.cell (by omega)
      subst hA
      obtain ⟨b2, off2, hA2, hb2, hcell2⟩ := hy.cell (by omega)
      subst hA2
      have hxk := hcell m (by omega)
      have hyk := hcell2 m (by omega)
      clear hcell hcell2
      have hm1 : (m : Int) < (n1 : Int) := by omega
      by_cases he : dt xs m = dt ys m
      · have hx1 : ((dt xs m) == (dt ys m)) = true := beq_iff_eq.2 he
        have HE := Lib.hid he
        clear he
        go_wp2
        go_quiet (fail)
        go_wp2
        go_roundw
        case rel => exact ⟨m, by omega, by go_num, Lib.hid (order_step hv.out (by rw [hlx.out]; omega) (by rw [hly.out]; omega) HE.out), by first | exact ⟨_, rfl⟩ | exact ⟨_, World.drewN_drewN _ _ _⟩ | exact ⟨_, by rw [World.drewN_drewN, World.drewN_drewN]⟩⟩
        case measure => simp [intOf]
      · have hx1 : ((dt xs m) == (dt ys m)) = false := beq_eq_false_iff_ne.2 he
        go_wp2
        go_quiet (fail)
        go_wp2
        by_cases hl : dt xs m < dt ys m
        · go_quiet (fail)
          go_wp2
          go_ret
          exact ⟨ret_b (dec_lt (lt_of_top (by omega) hxc.1 hyc.1 m (by rw [hlx.out]; omega) (by rw [hly.out]; omega) hv.out hl)).symm, by first | exact ⟨_, rfl⟩ | exact ⟨_, World.drewN_drewN _ _ _⟩ | exact ⟨_, by rw [World.drewN_drewN, World.drewN_drewN]⟩⟩
        · go_quiet (fail)
          go_wp2
          go_ret
          exact ⟨ret_b (dec_gt (lt_of_top (by omega) hyc.1 hxc.1 m (by rw [hly.out]; omega) (by rw [hlx.out]; omega) hv.out.symm (show dt ys m < dt xs m by omega))).symm, by first | exact ⟨_, rfl⟩ | exact ⟨_, World.drewN_drewN _ _ _⟩ | exact ⟨_, by rw [World.drewN_drewN, World.drewN_drewN]⟩⟩
    · obtain rfl : k = 0 := by omega
      go_wp2
      go_ret
      exact ⟨ret_b (dec_eq (by simpa using hv.out)).symm, nd, rfl⟩
end Go.Proofs.Klp
/- The reference's magnitudes: carries. -/
namespace Go.Proofs.Klp
open Go.RowKit

theorem car_quo (S : Int) : (S - S % 10000).tdiv 10000 = S / 10000 := by
  have h : S - S % 10000 = 10000 * (S / 10000) := by omega
  rw [h, Int.mul_tdiv_cancel_left _ (by omega)]
theorem car_pos {S : Int} (h : 0 ≤ S) : S.tmod 10000 = S % 10000 := Int.tmod_eq_emod_of_nonneg h
theorem car_neg0 {S : Int} (h : S < 0) (hz : S % 10000 = 0) : S.tmod 10000 = 0 := by
  have e : S = -(-S) := by omega
  rw [e, Int.neg_tmod, Int.tmod_eq_emod_of_nonneg (by omega)]; omega
theorem car_neg1 {S : Int} (h : S < 0) (hz : S % 10000 ≠ 0) : S.tmod 10000 = S % 10000 - 10000 := by
  have e : S = -(-S) := by omega
  conv => lhs; rw [e, Int.neg_tmod, Int.tmod_eq_emod_of_nonneg (show 0 ≤ -S by omega)]
  omega
theorem car_step {zs out : List Int} {i : Nat} {o : Int} (hl : out.length = i) (hi : i < zs.length) (h : val 10000 zs = val 10000 out + 10000 ^ i * (o + val 10000 (zs.drop i))) :
    val 10000 zs = val 10000 (out ++ [(o + dt zs i) % 10000]) + 10000 ^ (i + 1) * ((o + dt zs i) / 10000 + val 10000 (zs.drop (i + 1))) := by
  have e := val_drop 10000 zs i hi
  rw [h, e, val_snoc, hl, Int.pow_succ]
  have e2 : dt zs i = zs.getD i 0 := rfl
  rw [e2]
  generalize zs.getD i 0 = d at *
  generalize val 10000 (zs.drop (i + 1)) = r at *
  have e3 : o + d = (o + d) % 10000 + 10000 * ((o + d) / 10000) := by omega
  generalize (o + d) % 10000 = m at *
  generalize (o + d) / 10000 = q at *
  generalize (10000 : Int) ^ i = P at *
  grind
theorem car_step0 {zs out : List Int} {i : Nat} {o : Int} (hl : out.length = i) (hi : zs.length ≤ i) (h : val 10000 zs = val 10000 out + 10000 ^ i * (o + val 10000 (zs.drop i))) :
    val 10000 zs = val 10000 (out ++ [o % 10000]) + 10000 ^ (i + 1) * (o / 10000 + val 10000 (zs.drop (i + 1))) := by
  rw [List.drop_of_length_le hi, val_nil] at h
  rw [List.drop_of_length_le (by omega), val_nil, h, val_snoc, hl, Int.pow_succ]
  have e3 : o = o % 10000 + 10000 * (o / 10000) := by omega
  generalize o % 10000 = m at *
  generalize o / 10000 = q at *
  generalize (10000 : Int) ^ i = P at *
  grind
theorem car_nn {zs out : List Int} {i : Nat} {o : Int} (hl : out.length = i) (hD : Dg 10000 out) (hi : zs.length ≤ i) (h0 : 0 ≤ val 10000 zs) (h : val 10000 zs = val 10000 out + 10000 ^ i * (o + val 10000 (zs.drop i))) : 0 ≤ o := by
  rw [List.drop_of_length_le hi, val_nil, Int.add_zero] at h
  have hb := (val_bounds (show (0 : Int) < 10000 by omega) hD).2
  rw [hl] at hb
  rcases Int.lt_or_le o 0 with hn | hn
  · exfalso
    have hP : (0 : Int) < 10000 ^ i := pow_pos' (by omega) i
    have : (10000 : Int) ^ i * o ≤ 10000 ^ i * (-1) := Int.mul_le_mul_of_nonneg_left (by omega) (Int.le_of_lt hP)
    omega
  · exact hn
theorem car_ghost {n k C : Nat} (h : k < n) : (n - k) * (C + 1) = (n - (k + 1)) * (C + 1) + (C + 1) := by
  rw [show n - k = (n - (k + 1)) + 1 by omega, Nat.succ_mul]
theorem own_snocI {w : World} {base : Nat} {e : TypeId} {v : Value} {n : Nat} {zs : List Int} {x : Int} (h : w.ownsRow base e 1 v n (zs.map (Value.int .i64) ++ [Value.int .i64 x])) : w.ownsRow base e 1 v n ((zs ++ [x]).map (Value.int .i64)) := own_snoc h

set_option maxRecDepth 100000 in
set_option maxHeartbeats 4000000 in
theorem ref_carry (A : Option Addr) (n c : Nat) (zs : List Int) (C : Nat) (w : World) (hr : Rd .i64 w A n c zs) (hb : ∀ k, -(C : Int) ≤ dt zs k ∧ dt zs k ≤ C) (hC0 : 2 ≤ C) (hC : C ≤ 10000000000000) (hn : n ≤ 1000000) (h0 : 0 ≤ val 10000 zs) :
    Calls Tryz.prog 131 #[.slice A n c] w fun e w' => ∃ v, e = .returned v ∧ RV w' v (val 10000 zs) ∧ Up w w' := by
  have hc1 := hr.cap
  have hc2 := hr.cmax
  have HL := Lib.hid hr.len
  have H0 := Lib.hid h0
  clear h0
  go_enter Tryz.func131, Tryz.ntmps131
  go_wp2_with fail
  go_loopg [3, 4, 5] (n * (C + 1) + C) (fun g v o i wr => ∃ (k : Nat) (ov : Int) (out : List Int), i = .int .i64 k ∧ o = .int .i64 ov ∧ -(C : Int) ≤ ov ∧ ov ≤ C ∧ (n ≤ k → (k : Int) + ov ≤ n + C ∧ 0 ≤ ov) ∧ Hid (out.length = k ∧ Dg 10000 out ∧ val 10000 zs = val 10000 out + 10000 ^ k * (ov + val 10000 (zs.drop k)) ∧ (n - k) * (C + 1) + (if n ≤ k then ov.toNat else C) ≤ g) ∧ wr.ownsRow w.heap.size 3 1 v k (out.map (Value.int .i64)) ∧ Below w.heap.size w wr)
  case atStart => exact ⟨0, 0, [], rfl, rfl, by omega, by omega, fun _ => ⟨by omega, by omega⟩, Lib.hid ⟨rfl, Dg.nil _, by simp [val_nil], by split <;> simp⟩, World.ownsRow_nil _ _ _ _, Below.refl _ _⟩
  case round =>
    obtain ⟨k, ov, out, rfl, rfl, ho1, ho2, hko, HI, hrow, hB⟩ := hrel
    by_cases hlt : k < n
    · obtain ⟨b, off, hA, hbl, hcell⟩ := hr.cell (by omega)
      subst hA
      have hxk := (hB.cell (p := ⟨b, off + k, none⟩) hbl).trans (hcell k hlt)
      have bx := hb k
      have hck := Lib.hid (car_step HI.out.1 (by rw [HL.out]; exact hlt) HI.out.2.2.1)
      clear hcell hko
      obtain ⟨S, hS⟩ : ∃ S, ov + dt zs k = S := ⟨_, rfl⟩
      rw [hS] at hck
      have hS1 : -2 * (C : Int) ≤ S := by omega
      have hS2 : S ≤ 2 * (C : Int) := by omega
      have hq := car_quo S
      rcases Int.lt_or_le S 0 with hs | hs
      · by_cases hz : S % 10000 = 0
        · have ht := car_neg0 hs hz
          have hq0 : S.tdiv 10000 = S / 10000 := by rw [hz, Int.sub_zero] at hq; exact hq
          clear hq
          go_wp2_with (at_builtin; refine wpList_append_own _ rfl _ _ 140 rfl w.heap.size 3 iI64 (.int .i64 0) 1 8 uSI64 iI64_at iI64_zero iI64_size iI64_bytes rfl (by decide) u3 _ _ rfl (hrow.alloc _) ⟨wr.heap.size, 0, none⟩ 1 1 [_] rfl rfl (cell_one_new _ _ _) (by simp [Value.oneCell']) (by unfold maxLen; omega) (by omega) (by have := hB.size; simp; omega) ?_; intro v' w2 hrow2 hgr _)
          go_roundg (gk - 1)
          case measure => have := HI.out.2.2.2; have := car_ghost (C := C) hlt; omega
          case rel =>
            refine ⟨k + 1, S / 10000, out ++ [S % 10000], by go_num, rfl, by omega, by omega, fun h => ⟨by omega, ?_⟩, Lib.hid ⟨by rw [List.length_append, HI.out.1]; rfl, HI.out.2.1.snoc (by omega) (by omega), hck.out, ?_⟩, by rw [hz]; exact own_snocI hrow2, app_below hB hrow hgr⟩
            · exact car_nn (by rw [List.length_append, HI.out.1]; rfl) (HI.out.2.1.snoc (by omega) (by omega)) (by rw [HL.out]; exact h) H0.out hck.out
            · have h1 := HI.out.2.2.2
              have h2 := car_ghost (C := C) hlt
              rw [if_neg (by omega)] at h1
              split <;> omega
        · have ht := car_neg1 hs hz
          go_wp2_with (at_builtin; refine wpList_append_own _ rfl _ _ 140 rfl w.heap.size 3 iI64 (.int .i64 0) 1 8 uSI64 iI64_at iI64_zero iI64_size iI64_bytes rfl (by decide) u3 _ _ rfl (hrow.alloc _) ⟨wr.heap.size, 0, none⟩ 1 1 [_] rfl rfl (cell_one_new _ _ _) (by simp [Value.oneCell']) (by unfold maxLen; omega) (by omega) (by have := hB.size; simp; omega) ?_; intro v' w2 hrow2 hgr _)
          go_roundg (gk - 1)
          case measure => have := HI.out.2.2.2; have := car_ghost (C := C) hlt; omega
          case rel =>
            refine ⟨k + 1, S / 10000, out ++ [S % 10000], by go_num, rfl, by omega, by omega, fun h => ⟨by omega, ?_⟩, Lib.hid ⟨by rw [List.length_append, HI.out.1]; rfl, HI.out.2.1.snoc (by omega) (by omega), hck.out, ?_⟩, own_snocI hrow2, app_below hB hrow hgr⟩
            · exact car_nn (by rw [List.length_append, HI.out.1]; rfl) (HI.out.2.1.snoc (by omega) (by omega)) (by rw [HL.out]; exact h) H0.out hck.out
            · have h1 := HI.out.2.2.2
              have h2 := car_ghost (C := C) hlt
              rw [if_neg (by omega)] at h1
              split <;> omega
      · have ht := car_pos hs
        go_wp2_with (at_builtin; refine wpList_append_own _ rfl _ _ 140 rfl w.heap.size 3 iI64 (.int .i64 0) 1 8 uSI64 iI64_at iI64_zero iI64_size iI64_bytes rfl (by decide) u3 _ _ rfl (hrow.alloc _) ⟨wr.heap.size, 0, none⟩ 1 1 [_] rfl rfl (cell_one_new _ _ _) (by simp [Value.oneCell']) (by unfold maxLen; omega) (by omega) (by have := hB.size; simp; omega) ?_; intro v' w2 hrow2 hgr _)
        go_roundg (gk - 1)
        case measure => have := HI.out.2.2.2; have := car_ghost (C := C) hlt; omega
        case rel =>
          refine ⟨k + 1, S / 10000, out ++ [S % 10000], by go_num, rfl, by omega, by omega, fun h => ⟨by omega, ?_⟩, Lib.hid ⟨by rw [List.length_append, HI.out.1]; rfl, HI.out.2.1.snoc (by omega) (by omega), hck.out, ?_⟩, own_snocI hrow2, app_below hB hrow hgr⟩
          · exact car_nn (by rw [List.length_append, HI.out.1]; rfl) (HI.out.2.1.snoc (by omega) (by omega)) (by rw [HL.out]; exact h) H0.out hck.out
          · have h1 := HI.out.2.2.2
            have h2 := car_ghost (C := C) hlt
            rw [if_neg (by omega)] at h1
            split <;> omega
    · have hko' := hko (by omega)
      have hn0 : n - k = 0 := by omega
      by_cases hov : ov = 0
      · subst hov
        obtain ⟨A2, c2, rfl, hrd⟩ := Rd.of_own hrow
        go_wp2_with fail
        refine (ref_cut _ _ _ _ _ hrd).mono ?_
        rintro e w' ⟨m, hm, rfl, hmv, hmc, rfl⟩
        have HM := Lib.hid hmv
        clear hmv
        go_wp2
        go_ret
        refine ⟨_, rfl, ⟨A2, m, c2, _, rfl, hrd.take hm, can_take HI.out.2.1 m (by rw [hrd.len]; exact hm) hmc, ?_⟩, hB⟩
        rw [HM.out]
        have e := HI.out.2.2.1
        rw [List.drop_of_length_le (by rw [HL.out]; omega), val_nil] at e
        rw [e]; simp
      · have hov1 : (ov == 0) = false := beq_false_of_ne hov
        have hck := Lib.hid (car_step0 HI.out.1 (by rw [HL.out]; omega) HI.out.2.2.1)
        have hq := car_quo ov
        have ht := car_pos hko'.2
        obtain ⟨hk1, hk2⟩ := hko'
        clear hko
        go_wp2_with (at_builtin; refine wpList_append_own _ rfl _ _ 140 rfl w.heap.size 3 iI64 (.int .i64 0) 1 8 uSI64 iI64_at iI64_zero iI64_size iI64_bytes rfl (by decide) u3 _ _ rfl (hrow.alloc _) ⟨wr.heap.size, 0, none⟩ 1 1 [_] rfl rfl (cell_one_new _ _ _) (by simp [Value.oneCell']) (by unfold maxLen; omega) (by omega) (by have := hB.size; simp; omega) ?_; intro v' w2 hrow2 hgr _)
        go_roundg (gk - 1)
        case measure => have := HI.out.2.2.2; rw [hn0, if_pos (by omega)] at this; omega
        case rel =>
          refine ⟨k + 1, ov / 10000, out ++ [ov % 10000], by go_num, rfl, by omega, by omega, fun h => ⟨by omega, by omega⟩, Lib.hid ⟨by rw [List.length_append, HI.out.1]; rfl, HI.out.2.1.snoc (by omega) (by omega), hck.out, ?_⟩, own_snocI hrow2, app_below hB hrow hgr⟩
          have h1 := HI.out.2.2.2
          rw [hn0, if_pos (by omega)] at h1
          rw [show n - (k + 1) = 0 by omega, if_pos (by omega)]
          omega
end Go.Proofs.Klp
/- The reference's magnitudes: sums with a multiple. -/
namespace Go.Proofs.Klp
open Go.RowKit

theorem dt_out {zs : List Int} {k : Nat} (h : zs.length ≤ k) : dt zs k = 0 := getD_out h
theorem dt_snoc0 (zs : List Int) (j : Nat) : dt (zs ++ [0]) j = dt zs j := by
  unfold dt
  rcases Nat.lt_trichotomy j zs.length with h | h | h
  · simp [List.getD, List.getElem?_append_left h]
  · subst h; simp [List.getD]
  · simp [List.getD, List.getElem?_eq_none (show zs.length ≤ j by omega), List.getElem?_eq_none (show (zs ++ [0]).length ≤ j by simp; omega)]
theorem val_snoc0 (B : Int) (zs : List Int) : val B (zs ++ [0]) = val B zs := by rw [val_snoc]; simp
theorem dt_set {zs : List Int} {i : Nat} (h : i < zs.length) (x : Int) (j : Nat) : dt (zs.set i x) j = if j = i then x else dt zs j := by
  unfold dt
  by_cases e : j = i
  · subst e; simp [List.getD, h]
  · rw [if_neg e]; simp [List.getD, Ne.symm e]
theorem val_take_dt (B : Int) (ys : List Int) (i : Nat) : val B (ys.take (i + 1)) = val B (ys.take i) + B ^ i * dt ys i := val_take_succ' B ys i
theorem mul_bd {k y : Int} (h1 : -9999 ≤ k) (h2 : k ≤ 9999) (h3 : 0 ≤ y) (h4 : y ≤ 9999) : -99980001 ≤ k * y ∧ k * y ≤ 99980001 := by
  have a := Int.mul_le_mul_of_nonneg_right h2 h3
  have b := Int.mul_le_mul_of_nonneg_right h1 h3
  omega

set_option maxRecDepth 100000 in
set_option maxHeartbeats 6000000 in
theorem ref_joined_none (c1 : Nat) (xs : List Int) (A2 : Option Addr) (n2 c2 : Nat) (ys : List Int) (k : Int) (w : World) (hx : Rd .i64 w none 0 c1 xs) (hy : Rd .i64 w A2 n2 c2 ys)
    (hxd : Dg 10000 xs) (hyd : Dg 10000 ys) (hk1 : -9999 ≤ k) (hk2 : k ≤ 9999) (hn1 : 0 ≤ 400000) (hn2 : n2 ≤ 400000) (h0 : 0 ≤ val 10000 xs + k * val 10000 ys) :
    Calls Tryz.prog 106 #[.slice none 0 c1, .slice A2 n2 c2, .int .i64 k, .int .i64 0] w fun e w' => ∃ v, e = .returned v ∧ RV w' v (val 10000 xs + k * val 10000 ys) ∧ Up w w' := by
  have hc1 := hx.cap
  have hc2 := hx.cmax
  have HLX := Lib.hid hx.len
  have HLY := Lib.hid hy.len
  have HXD := Lib.hid (rt_bd hxd)
  have HYD := Lib.hid (rt_bd hyd)
  have H0 := Lib.hid h0
  clear hxd hyd h0
  have o1 : (w.alloc (.cells #[] 3)).ownsRow w.heap.size 3 1 (.slice (some ⟨w.heap.size, 0, none⟩) 0 0) 0 [] := World.ownsRow_lit w #[] 0 (Nat.le_refl _) (by unfold maxLen; omega) rfl
  have hb1 : Below w.heap.size w (w.alloc (.cells #[] 3)) := (Below.refl _ _).alloc (Nat.le_refl _) _
  go_enter Tryz.func106, Tryz.ntmps106
  go_wp2_with fail
  clear hb1
  go_loopw [9, 10] (fun v i wr => ∃ (j : Nat) (zs : List Int), j ≤ n2 ∧ i = .int .i64 j ∧ zs.length ≤ 400000 ∧ Hid (xs.length ≤ zs.length ∧ j ≤ zs.length ∧ (∀ l, j ≤ l → dt zs l = dt xs l) ∧ (∀ l, -99990000 ≤ dt zs l ∧ dt zs l ≤ 99990000) ∧ val 10000 zs = val 10000 xs + k * val 10000 (ys.take j)) ∧ wr.ownsRow w.heap.size 3 1 v zs.length (zs.map (Value.int .i64)) ∧ Below w.heap.size w wr) (fun _ i _ => n2 - (intOf i).toNat)
  case atStart => exact ⟨0, xs, Nat.zero_le _, rfl, by rw [HLX.out]; omega, Lib.hid ⟨Nat.le_refl _, Nat.zero_le _, fun _ _ => rfl, fun l => by have := HXD.out l; omega, by rw [List.take_zero, val_nil]; simp⟩, by rw [List.eq_nil_of_length_eq_zero HLX.out]; exact o1, (Below.refl _ _).alloc (Nat.le_refl _) _⟩
  case round =>
    obtain ⟨j, zs, hj, rfl, hzl, HI, hrow, hB⟩ := hrel
    by_cases hlt : j < n2
    · obtain ⟨b2, off2, hA2, hbl2, hcell2⟩ := hy.cell (by omega)
      subst hA2
      have hyj := hcell2 j hlt
      clear hcell2
      go_wp2_with fail
      go_loopw [9] (fun v wr' => ∃ (zs' : List Int), zs'.length ≤ 400000 ∧ Hid (zs.length ≤ zs'.length ∧ (∀ l, dt zs' l = dt zs l) ∧ val 10000 zs' = val 10000 zs) ∧ wr'.ownsRow w.heap.size 3 1 v zs'.length (zs'.map (Value.int .i64)) ∧ Below w.heap.size w wr') (fun v _ => (j + 1) - (match v with | .slice _ l _ => l | _ => 0))
      case atStart => exact ⟨zs, hzl, Lib.hid ⟨Nat.le_refl _, fun _ => rfl, rfl⟩, hrow, hB⟩
      case round =>
        clear hrow hB
        obtain ⟨zs', hzl', HJ, hrow', hB'⟩ := hrel
        by_cases hle : zs'.length ≤ j
        · obtain ⟨A3, c3, rfl, hrd⟩ := Rd.of_own hrow'
          clear hrd
          go_wp2_with (at_builtin; refine wpList_append_own _ rfl _ _ 140 rfl w.heap.size 3 iI64 (.int .i64 0) 1 8 uSI64 iI64_at iI64_zero iI64_size iI64_bytes rfl (by decide) (.slice A3 zs'.length c3) _ _ rfl (hrow'.alloc _) ⟨wr.heap.size, 0, none⟩ 1 1 [_] rfl rfl (cell_one_new _ _ _) (by simp [Value.oneCell']) (by unfold maxLen; omega) (by omega) (by have := hB'.size; simp; omega) ?_; intro v' w2 hrow2 hgr _)
          obtain ⟨A4, c4, rfl, _⟩ := Rd.of_own (own_snocI hrow2)
          refine ⟨⟨zs' ++ [0], by rw [List.length_append, List.length_singleton]; omega, Lib.hid ⟨by rw [List.length_append, List.length_singleton]; have := HJ.out.1; omega, fun l => (dt_snoc0 zs' l).trans (HJ.out.2.1 l), (val_snoc0 _ _).trans HJ.out.2.2⟩, by rw [List.length_append, List.length_singleton]; exact own_snocI hrow2, app_below hB' hrow' hgr⟩, ?_⟩
          simp; omega
        · have hpos : 0 < zs'.length := by omega
          obtain ⟨g, cap, rfl, hg0, hglt⟩ := World.ownsRow.form hrow' hpos
          have hcj := own_cell hrow' j (by omega)
          have hfj := hrow'.frozenAt j
          have hyk := (hB'.cell (p := ⟨b2, off2 + j, none⟩) hbl2).trans hyj
          have by1 := HYD.out j
          have bm := mul_bd hk1 hk2 by1.1 by1.2
          clear hyj
          have bz : -99990000 ≤ dt zs' j ∧ dt zs' j ≤ 99990000 := by rw [HJ.out.2.1 j]; exact HI.out.2.2.2.1 j
          go_wp2_with fail
          have hfd : wr.drew.frozen? ⟨g, j, none⟩ = false := hfj
          have hcd : wr.drew.cell? ⟨g, j, none⟩ = some (.int .i64 (dt zs' j)) := hcj
          have hyd : wr.drew.cell? ⟨b2, off2 + j, none⟩ = some (.int .i64 (dt ys j)) := hyk
          have hrd' : wr.drew.ownsRow w.heap.size 3 1 (.slice (some ⟨g, 0, none⟩) zs'.length cap) zs'.length (zs'.map (Value.int .i64)) := hrow'
          have hBd : Below w.heap.size w wr.drew := below_drewN hB' 1
          refine wp_region_still_tail 14 (by kernel_rfl) (by kernel_rfl) ?_
          simp only [List.take_succ_cons, List.take_zero, List.drop_succ_cons, List.drop_zero]
          change wpStill _ _ wr.drew _ _ _
          clear hcj hfj hyk hrow' hB' hglt
          obtain ⟨wd, hwd⟩ : ∃ wd, wr.drew = wd := ⟨_, rfl⟩
          rw [hwd] at hcd hyd hfd hrd' hBd ⊢
          have hwj : IntKind.i64.wrap (j : Int) = j := IntWalk.i64_in _ (by omega)
          have hwm : IntKind.i64.wrap (k * dt ys j) = k * dt ys j := IntWalk.i64_in _ (by omega)
          have hws : IntKind.i64.wrap (dt zs' j + k * dt ys j) = dt zs' j + k * dt ys j := IntWalk.i64_in _ (by omega)
          have hj1 : (j : Int) < (zs'.length : Int) := by omega
          have hj2 : (j : Int) < (n2 : Int) := by omega
          repeat still_step
          refine wpStill_nil ?_
          change wpList _ _ _ _ _ wr.drew
          rw [hwd]
          clear hwd
          go_wp2_with fail
          have hzj : dt zs' j = dt xs j := (HJ.out.2.1 j).trans (HI.out.2.2.1 j (Nat.le_refl _))
          have hxj := HXD.out j
          have hlen : (zs'.set j (dt zs' j + k * dt ys j)).length = zs'.length := List.length_set ..
          have hset := fun l => dt_set (show j < zs'.length by omega) (dt zs' j + k * dt ys j) l
          refine ⟨⟨j + 1, zs'.set j (dt zs' j + k * dt ys j), by omega, by go_num, by rw [hlen]; exact hzl', Lib.hid ⟨?_, ?_, fun l hl => ?_, fun l => ?_, ?_⟩, ?_, ?_⟩, ?_⟩
          · rw [hlen]; have := HI.out.1; have := HJ.out.1; omega
          · rw [hlen]; omega
          · rw [hset, if_neg (by omega), HJ.out.2.1 l]; exact HI.out.2.2.1 l (by omega)
          · rw [hset]
            split
            · omega
            · rw [HJ.out.2.1 l]; exact HI.out.2.2.2.1 l
          · rw [val_set 10000 zs' j _ (by omega), HJ.out.2.2, HI.out.2.2.2.2, val_take_dt]
            have e : zs'.getD j 0 = dt zs' j := rfl
            rw [e]
            generalize (10000 : Int) ^ j = P
            generalize dt ys j = y
            generalize dt zs' j = z
            grind
          · rw [hlen]
            exact own_set hrd' j _
          · exact hBd.setCell (p := ⟨g, j, none⟩) hg0 _
          · simp [intOf]; omega
    · obtain rfl : j = n2 := by omega
      obtain ⟨A3, c3, rfl, hrd⟩ := Rd.of_own hrow
      have hval : val 10000 zs = val 10000 xs + k * val 10000 ys := by rw [HI.out.2.2.2.2, List.take_of_length_le (by rw [HLY.out]; omega)]
      have HV := Lib.hid hval
      have hcy := ref_carry A3 zs.length c3 zs 99990000 wr hrd (fun l => HI.out.2.2.2.1 l) (by omega) (by omega) (by omega) (by rw [hval]; exact H0.out)
      clear hval
      go_wp2_with fail
      refine hcy.mono ?_
      rintro e w' ⟨v, rfl, hv, hX⟩
      go_wp2
      go_ret
      rw [HV.out] at hv
      exact ⟨v, rfl, hv, hB.trans (Below.mono hX hB.size)⟩

set_option maxRecDepth 100000 in
set_option maxHeartbeats 6000000 in
theorem ref_joined_some (ad : Addr) (n1 : Nat) (c1 : Nat) (xs : List Int) (A2 : Option Addr) (n2 c2 : Nat) (ys : List Int) (k : Int) (w : World) (hx : Rd .i64 w (some ad) n1 c1 xs) (hy : Rd .i64 w A2 n2 c2 ys)
    (hxd : Dg 10000 xs) (hyd : Dg 10000 ys) (hk1 : -9999 ≤ k) (hk2 : k ≤ 9999) (hn1 : n1 ≤ 400000) (hn2 : n2 ≤ 400000) (h0 : 0 ≤ val 10000 xs + k * val 10000 ys) :
    Calls Tryz.prog 106 #[.slice (some ad) n1 c1, .slice A2 n2 c2, .int .i64 k, .int .i64 0] w fun e w' => ∃ v, e = .returned v ∧ RV w' v (val 10000 xs + k * val 10000 ys) ∧ Up w w' := by
  have hc1 := hx.cap
  have hc2 := hx.cmax
  have HLX := Lib.hid hx.len
  have HLY := Lib.hid hy.len
  have HXD := Lib.hid (rt_bd hxd)
  have HYD := Lib.hid (rt_bd hyd)
  have H0 := Lib.hid h0
  clear hxd hyd h0
  have o1 : (w.alloc (.cells #[] 3)).ownsRow w.heap.size 3 1 (.slice (some ⟨w.heap.size, 0, none⟩) 0 0) 0 [] := World.ownsRow_lit w #[] 0 (Nat.le_refl _) (by unfold maxLen; omega) rfl
  have hb1 : Below w.heap.size w (w.alloc (.cells #[] 3)) := (Below.refl _ _).alloc (Nat.le_refl _) _
  obtain ⟨wa, hwa⟩ : ∃ wa, w.alloc (.cells #[] 3) = wa := ⟨_, rfl⟩
  rw [hwa] at o1 hb1
  have hxa := hx.below hb1
  have hsa : w.heap.size ≤ wa.heap.size := hb1.size
  go_enter Tryz.func106, Tryz.ntmps106
  obtain ⟨ab, ao, asp⟩ := ad
  go_wp2_with (at_builtin; refine wpList_append_own _ rfl _ _ 140 rfl w.heap.size 3 iI64 (.int .i64 0) 1 8 uSI64 iI64_at iI64_zero iI64_size iI64_bytes rfl (by decide) _ _ _ rfl o1 ⟨ab, ao, asp⟩ n1 c1 (xs.map (Value.int .i64)) rfl (by simp [HLX.out]) (rd_news hxa) (by simp [Value.oneCell']) (by unfold maxLen; omega) (by omega) (by omega) ?_; intro v0 w0 hrow0' hgr0 _)
  have hrow0 : w0.ownsRow w.heap.size 3 1 v0 xs.length (xs.map (Value.int .i64)) := by rw [HLX.out, ← Nat.zero_add n1]; exact hrow0'
  have hB0 : Below w.heap.size w w0 := hb1.grown hgr0 hsa (fun k e => by cases e; exact Nat.le_refl _)
  clear hrow0' hgr0 hwa hxa o1
  clear hb1
  go_loopw [9, 10] (fun v i wr => ∃ (j : Nat) (zs : List Int), j ≤ n2 ∧ i = .int .i64 j ∧ zs.length ≤ 400000 ∧ Hid (xs.length ≤ zs.length ∧ j ≤ zs.length ∧ (∀ l, j ≤ l → dt zs l = dt xs l) ∧ (∀ l, -99990000 ≤ dt zs l ∧ dt zs l ≤ 99990000) ∧ val 10000 zs = val 10000 xs + k * val 10000 (ys.take j)) ∧ wr.ownsRow w.heap.size 3 1 v zs.length (zs.map (Value.int .i64)) ∧ Below w.heap.size w wr) (fun _ i _ => n2 - (intOf i).toNat)
  case atStart => exact ⟨0, xs, Nat.zero_le _, rfl, by rw [HLX.out]; omega, Lib.hid ⟨Nat.le_refl _, Nat.zero_le _, fun _ _ => rfl, fun l => by have := HXD.out l; omega, by rw [List.take_zero, val_nil]; simp⟩, hrow0, hB0⟩
  case round =>
    obtain ⟨j, zs, hj, rfl, hzl, HI, hrow, hB⟩ := hrel
    by_cases hlt : j < n2
    · obtain ⟨b2, off2, hA2, hbl2, hcell2⟩ := hy.cell (by omega)
      subst hA2
      have hyj := hcell2 j hlt
      clear hcell2
      go_wp2_with fail
      go_loopw [9] (fun v wr' => ∃ (zs' : List Int), zs'.length ≤ 400000 ∧ Hid (zs.length ≤ zs'.length ∧ (∀ l, dt zs' l = dt zs l) ∧ val 10000 zs' = val 10000 zs) ∧ wr'.ownsRow w.heap.size 3 1 v zs'.length (zs'.map (Value.int .i64)) ∧ Below w.heap.size w wr') (fun v _ => (j + 1) - (match v with | .slice _ l _ => l | _ => 0))
      case atStart => exact ⟨zs, hzl, Lib.hid ⟨Nat.le_refl _, fun _ => rfl, rfl⟩, hrow, hB⟩
      case round =>
        clear hrow hB
        obtain ⟨zs', hzl', HJ, hrow', hB'⟩ := hrel
        by_cases hle : zs'.length ≤ j
        · obtain ⟨A3, c3, rfl, hrd⟩ := Rd.of_own hrow'
          clear hrd
          go_wp2_with (at_builtin; refine wpList_append_own _ rfl _ _ 140 rfl w.heap.size 3 iI64 (.int .i64 0) 1 8 uSI64 iI64_at iI64_zero iI64_size iI64_bytes rfl (by decide) (.slice A3 zs'.length c3) _ _ rfl (hrow'.alloc _) ⟨wr.heap.size, 0, none⟩ 1 1 [_] rfl rfl (cell_one_new _ _ _) (by simp [Value.oneCell']) (by unfold maxLen; omega) (by omega) (by have := hB'.size; simp; omega) ?_; intro v' w2 hrow2 hgr _)
          obtain ⟨A4, c4, rfl, _⟩ := Rd.of_own (own_snocI hrow2)
          refine ⟨⟨zs' ++ [0], by rw [List.length_append, List.length_singleton]; omega, Lib.hid ⟨by rw [List.length_append, List.length_singleton]; have := HJ.out.1; omega, fun l => (dt_snoc0 zs' l).trans (HJ.out.2.1 l), (val_snoc0 _ _).trans HJ.out.2.2⟩, by rw [List.length_append, List.length_singleton]; exact own_snocI hrow2, app_below hB' hrow' hgr⟩, ?_⟩
          simp; omega
        · have hpos : 0 < zs'.length := by omega
          obtain ⟨g, cap, rfl, hg0, hglt⟩ := World.ownsRow.form hrow' hpos
          have hcj := own_cell hrow' j (by omega)
          have hfj := hrow'.frozenAt j
          have hyk := (hB'.cell (p := ⟨b2, off2 + j, none⟩) hbl2).trans hyj
          have by1 := HYD.out j
          have bm := mul_bd hk1 hk2 by1.1 by1.2
          clear hyj
          have bz : -99990000 ≤ dt zs' j ∧ dt zs' j ≤ 99990000 := by rw [HJ.out.2.1 j]; exact HI.out.2.2.2.1 j
          go_wp2_with fail
          have hfd : wr.drew.frozen? ⟨g, j, none⟩ = false := hfj
          have hcd : wr.drew.cell? ⟨g, j, none⟩ = some (.int .i64 (dt zs' j)) := hcj
          have hyd : wr.drew.cell? ⟨b2, off2 + j, none⟩ = some (.int .i64 (dt ys j)) := hyk
          have hrd' : wr.drew.ownsRow w.heap.size 3 1 (.slice (some ⟨g, 0, none⟩) zs'.length cap) zs'.length (zs'.map (Value.int .i64)) := hrow'
          have hBd : Below w.heap.size w wr.drew := below_drewN hB' 1
          refine wp_region_still_tail 14 (by kernel_rfl) (by kernel_rfl) ?_
          simp only [List.take_succ_cons, List.take_zero, List.drop_succ_cons, List.drop_zero]
          change wpStill _ _ wr.drew _ _ _
          clear hcj hfj hyk hrow' hB' hglt
          obtain ⟨wd, hwd⟩ : ∃ wd, wr.drew = wd := ⟨_, rfl⟩
          rw [hwd] at hcd hyd hfd hrd' hBd ⊢
          have hwj : IntKind.i64.wrap (j : Int) = j := IntWalk.i64_in _ (by omega)
          have hwm : IntKind.i64.wrap (k * dt ys j) = k * dt ys j := IntWalk.i64_in _ (by omega)
          have hws : IntKind.i64.wrap (dt zs' j + k * dt ys j) = dt zs' j + k * dt ys j := IntWalk.i64_in _ (by omega)
          have hj1 : (j : Int) < (zs'.length : Int) := by omega
          have hj2 : (j : Int) < (n2 : Int) := by omega
          repeat still_step
          refine wpStill_nil ?_
          change wpList _ _ _ _ _ wr.drew
          rw [hwd]
          clear hwd
          go_wp2_with fail
          have hzj : dt zs' j = dt xs j := (HJ.out.2.1 j).trans (HI.out.2.2.1 j (Nat.le_refl _))
          have hxj := HXD.out j
          have hlen : (zs'.set j (dt zs' j + k * dt ys j)).length = zs'.length := List.length_set ..
          have hset := fun l => dt_set (show j < zs'.length by omega) (dt zs' j + k * dt ys j) l
          refine ⟨⟨j + 1, zs'.set j (dt zs' j + k * dt ys j), by omega, by go_num, by rw [hlen]; exact hzl', Lib.hid ⟨?_, ?_, fun l hl => ?_, fun l => ?_, ?_⟩, ?_, ?_⟩, ?_⟩
          · rw [hlen]; have := HI.out.1; have := HJ.out.1; omega
          · rw [hlen]; omega
          · rw [hset, if_neg (by omega), HJ.out.2.1 l]; exact HI.out.2.2.1 l (by omega)
          · rw [hset]
            split
            · omega
            · rw [HJ.out.2.1 l]; exact HI.out.2.2.2.1 l
          · rw [val_set 10000 zs' j _ (by omega), HJ.out.2.2, HI.out.2.2.2.2, val_take_dt]
            have e : zs'.getD j 0 = dt zs' j := rfl
            rw [e]
            generalize (10000 : Int) ^ j = P
            generalize dt ys j = y
            generalize dt zs' j = z
            grind
          · rw [hlen]
            exact own_set hrd' j _
          · exact hBd.setCell (p := ⟨g, j, none⟩) hg0 _
          · simp [intOf]; omega
    · obtain rfl : j = n2 := by omega
      obtain ⟨A3, c3, rfl, hrd⟩ := Rd.of_own hrow
      have hval : val 10000 zs = val 10000 xs + k * val 10000 ys := by rw [HI.out.2.2.2.2, List.take_of_length_le (by rw [HLY.out]; omega)]
      have HV := Lib.hid hval
      have hcy := ref_carry A3 zs.length c3 zs 99990000 wr hrd (fun l => HI.out.2.2.2.1 l) (by omega) (by omega) (by omega) (by rw [hval]; exact H0.out)
      clear hval
      go_wp2_with fail
      refine hcy.mono ?_
      rintro e w' ⟨v, rfl, hv, hX⟩
      go_wp2
      go_ret
      rw [HV.out] at hv
      exact ⟨v, rfl, hv, hB.trans (Below.mono hX hB.size)⟩

/-- joined: the sum with a multiple -/
theorem ref_joined (v1 v2 : Value) (x y k : Int) (w : World) (hx : RV w v1 x) (hy : RV w v2 y) (hk1 : -9999 ≤ k) (hk2 : k ≤ 9999) (hx1 : ilen x ≤ 400000) (hy1 : ilen y ≤ 400000) (h0 : 0 ≤ x + k * y) :
    Calls Tryz.prog 106 #[v1, v2, .int .i64 k, .int .i64 0] w fun e w' => ∃ v, e = .returned v ∧ RV w' v (x + k * y) ∧ Up w w' := by
  obtain ⟨A1, n1, c1, xs, rfl, hrx, hcx, rfl⟩ := hx
  obtain ⟨A2, n2, c2, ys, rfl, hry, hcy, rfl⟩ := hy
  have l1 := can_len hcx
  have l2 := can_len hcy
  rw [hrx.len] at l1
  rw [hry.len] at l2
  cases A1 with
  | none =>
    obtain rfl : c1 = 0 := hrx.nilc rfl
    obtain rfl : n1 = 0 := by have := hrx.cap; omega
    exact ref_joined_none 0 xs A2 n2 c2 ys k w hrx hry hcx.1 hcy.1 hk1 hk2 (by omega) (by omega) h0
  | some ad => exact ref_joined_some ad n1 c1 xs A2 n2 c2 ys k w hrx hry hcx.1 hcy.1 hk1 hk2 (by omega) (by omega) h0
end Go.Proofs.Klp
/- The reference's magnitudes: products. -/
namespace Go.Proofs.Klp
open Go.RowKit

theorem pp_bd {x y : Int} (h1 : 0 ≤ x) (h2 : x ≤ 9999) (h3 : 0 ≤ y) (h4 : y ≤ 9999) : 0 ≤ x * y ∧ x * y ≤ 99980001 := by
  have a := Int.mul_le_mul_of_nonneg_right h2 h3
  exact ⟨Int.mul_nonneg h1 h3, by omega⟩
set_option maxRecDepth 100000 in
set_option maxHeartbeats 8000000 in
theorem ref_times (v1 v2 : Value) (x y : Int) (w : World) (hxV : RV w v1 x) (hyV : RV w v2 y) (hx1 : ilen x ≤ 100000) (hy1 : ilen y ≤ 100000) :
    Calls Tryz.prog 109 #[v1, v2] w fun e w' => ∃ v, e = .returned v ∧ RV w' v (x * y) ∧ Up w w' := by
  obtain ⟨A1, n1, c1, xs, rfl, hx, hcx, rfl⟩ := hxV
  obtain ⟨A2, n2, c2, ys, rfl, hy, hcy, rfl⟩ := hyV
  have l1 := can_len hcx
  have l2 := can_len hcy
  rw [hx.len] at l1
  rw [hy.len] at l2
  have hn1 : n1 ≤ 100000 := by omega
  have hn2 : n2 ≤ 100000 := by omega
  have HLX := Lib.hid hx.len
  have HLY := Lib.hid hy.len
  have HXD := Lib.hid (rt_bd hcx.1)
  have HYD := Lib.hid (rt_bd hcy.1)
  have hc1 := hx.cap
  have hc2 := hx.cmax
  clear l1 l2 hx1 hy1
  obtain ⟨w1, hmk, hown, hg⟩ := run_make_full (P := Tryz.prog) w w.heap.size 140 3 iI64 (.int .i64 0) 1 uSI64 iI64_at iI64_zero iI64_size .i64 .i64 (n1 + n2) (by rw [iI64_bytes]; omega) (by unfold maxLen; omega) (Nat.le_refl _)
  rw [show ((n1 + n2 : Nat) : Int) = (n1 : Int) + (n2 : Int) from Int.natCast_add ..] at hmk
  have hown1 : w1.ownsRow w.heap.size 3 1 (.slice (some ⟨w.heap.size, 0, none⟩) (n1 + n2) (n1 + n2)) (n1 + n2) ((List.replicate (n1 + n2) (0 : Int)).map (Value.int .i64)) := by
    rw [List.map_replicate, ← toList_madeCells_one]
    rw [Nat.mul_one] at hown
    exact hown
  have hB1 : Below w.heap.size w w1 := (Below.refl _ _).grown hg (Nat.le_refl _) (fun k e => by cases e)
  go_enter Tryz.func109, Tryz.ntmps109
  go_wp2_with fail
  clear hmk hown hg
  go_loopw [6] (fun i wr => ∃ (m : Nat) (zs : List Int), m ≤ n1 ∧ i = .int .i64 m ∧ Hid (zs.length = n1 + n2 ∧ (∀ l, 0 ≤ dt zs l ∧ dt zs l ≤ m * 99980001) ∧ val 10000 zs = val 10000 (xs.take m) * val 10000 ys) ∧ wr.ownsRow w.heap.size 3 1 (.slice (some ⟨w.heap.size, 0, none⟩) (n1 + n2) (n1 + n2)) (n1 + n2) (zs.map (Value.int .i64)) ∧ Below w.heap.size w wr) (fun i _ => n1 - (intOf i).toNat)
  case atStart => exact ⟨0, List.replicate (n1 + n2) 0, Nat.zero_le _, rfl, Lib.hid ⟨List.length_replicate, fun l => by unfold dt; rw [List.getD_eq_getElem?_getD, List.getElem?_replicate]; split <;> simp, by rw [List.take_zero, val_nil, Int.zero_mul]; exact val_replicate 10000 _⟩, hown1, hB1⟩
  case round =>
    obtain ⟨m, zs, hm, rfl, HI, hrow, hB⟩ := hrel
    clear hown1 hB1
    by_cases hlt : m < n1
    · obtain ⟨b1, off1, hA1, hbl1, hcell1⟩ := hx.cell (by omega)
      subst hA1
      have hxj := hcell1 m hlt
      have hxb := HXD.out m
      clear hcell1
      go_wp2_with fail
      go_loopw [7] (fun i wr => ∃ (j : Nat) (zs : List Int), j ≤ n2 ∧ i = .int .i64 j ∧ Hid (zs.length = n1 + n2 ∧ (∀ l, 0 ≤ dt zs l ∧ dt zs l ≤ (m + 1 : Nat) * 99980001) ∧ (∀ l, m + j ≤ l → dt zs l ≤ m * 99980001) ∧ val 10000 zs = val 10000 (xs.take m) * val 10000 ys + 10000 ^ m * (dt xs m * val 10000 (ys.take j))) ∧ wr.ownsRow w.heap.size 3 1 (.slice (some ⟨w.heap.size, 0, none⟩) (n1 + n2) (n1 + n2)) (n1 + n2) (zs.map (Value.int .i64)) ∧ Below w.heap.size w wr) (fun i _ => n2 - (intOf i).toNat)
      case atStart => exact ⟨0, zs, Nat.zero_le _, rfl, Lib.hid ⟨HI.out.1, fun l => by have := HI.out.2.1 l; omega, fun l _ => (HI.out.2.1 l).2, by rw [HI.out.2.2, List.take_zero, val_nil]; simp⟩, hrow, hB⟩
      case round =>
        clear hrow hB HI
        obtain ⟨j, zs, hj, rfl, HI, hrow, hB⟩ := hrel
        by_cases hlt2 : j < n2
        · obtain ⟨b2, off2, hA2, hbl2, hcell2⟩ := hy.cell (by omega)
          subst hA2
          have hyj := hcell2 j hlt2
          have hyb := HYD.out j
          have bz := HI.out.2.1 (m + j)
          have bz2 := HI.out.2.2.1 (m + j) (Nat.le_refl _)
          have bp := pp_bd hxb.1 hxb.2 hyb.1 hyb.2
          have hxk := (hB.cell (p := ⟨b1, off1 + m, none⟩) hbl1).trans hxj
          have hyk := (hB.cell (p := ⟨b2, off2 + j, none⟩) hbl2).trans hyj
          have hcj := own_cell hrow (m + j) (by omega)
          have hfj := hrow.frozenAt (m + j)
          go_wp2_with fail
          have hfd : wr.drew.frozen? ⟨w.heap.size, m + j, none⟩ = false := hfj
          have hcd : wr.drew.cell? ⟨w.heap.size, m + j, none⟩ = some (.int .i64 (dt zs (m + j))) := hcj
          have hxd : wr.drew.cell? ⟨b1, off1 + m, none⟩ = some (.int .i64 (dt xs m)) := hxk
          have hyd : wr.drew.cell? ⟨b2, off2 + j, none⟩ = some (.int .i64 (dt ys j)) := hyk
          have hrd' : wr.drew.ownsRow w.heap.size 3 1 (.slice (some ⟨w.heap.size, 0, none⟩) (n1 + n2) (n1 + n2)) (n1 + n2) (zs.map (Value.int .i64)) := hrow
          have hBd : Below w.heap.size w wr.drew := below_drewN hB 1
          refine wp_region_still_tail 17 (by kernel_rfl) (by kernel_rfl) ?_
          simp only [List.take_succ_cons, List.take_zero, List.drop_succ_cons, List.drop_zero]
          change wpStill _ _ wr.drew _ _ _
          clear hcj hfj hxk hyk hrow hB
          obtain ⟨wd, hwd⟩ : ∃ wd, wr.drew = wd := ⟨_, rfl⟩
          rw [hwd] at hcd hxd hyd hfd hrd' hBd ⊢
          have hwj : IntKind.i64.wrap ((m : Int) + (j : Int)) = (m : Int) + (j : Int) := IntWalk.i64_in _ (by omega)
          have hwm : IntKind.i64.wrap (dt xs m * dt ys j) = dt xs m * dt ys j := IntWalk.i64_in _ (by omega)
          have hws : IntKind.i64.wrap (dt zs (m + j) + dt xs m * dt ys j) = dt zs (m + j) + dt xs m * dt ys j := IntWalk.i64_in _ (by omega)
          have hj0 : (m : Int) + (j : Int) < (n1 : Int) + (n2 : Int) := by omega
          have hj1 : (0 : Int) ≤ (m : Int) + (j : Int) := by omega
          have hj4 : ((m : Int) + (j : Int)).toNat = m + j := by omega
          have hj2 : (j : Int) < (n2 : Int) := by omega
          have hj3 : (m : Int) < (n1 : Int) := by omega
          repeat still_step
          refine wpStill_nil ?_
          change wpList _ _ _ _ _ wr.drew
          rw [hwd]
          clear hwd
          go_wp2_with fail
          have hlen : (zs.set (m + j) (dt zs (m + j) + dt xs m * dt ys j)).length = n1 + n2 := by rw [List.length_set]; exact HI.out.1
          have hset := fun l => dt_set (show m + j < zs.length by rw [HI.out.1]; omega) (dt zs (m + j) + dt xs m * dt ys j) l
          refine ⟨⟨j + 1, zs.set (m + j) (dt zs (m + j) + dt xs m * dt ys j), by omega, by go_num, Lib.hid ⟨hlen, fun l => ?_, fun l hl => ?_, ?_⟩, own_set hrd' (m + j) _, hBd.setCell (p := ⟨w.heap.size, m + j, none⟩) (Nat.le_refl _) _⟩, ?_⟩
          · rw [hset]
            split
            · omega
            · exact HI.out.2.1 l
          · rw [hset, if_neg (by omega)]
            exact HI.out.2.2.1 l (by omega)
          · rw [val_set 10000 zs (m + j) _ (by rw [HI.out.1]; omega), HI.out.2.2.2, val_take_dt, Int.pow_add]
            have e : zs.getD (m + j) 0 = dt zs (m + j) := rfl
            rw [e]
            generalize (10000 : Int) ^ j = R
            generalize (10000 : Int) ^ m = P
            generalize dt ys j = y
            generalize dt xs m = x
            generalize dt zs (m + j) = z
            grind
          · simp [intOf]; omega
        · obtain rfl : j = n2 := by omega
          go_wp2_with fail
          refine ⟨⟨m + 1, zs, by omega, by go_num, Lib.hid ⟨HI.out.1, HI.out.2.1, ?_⟩, hrow, hB⟩, ?_⟩
          · rw [HI.out.2.2.2, val_take_dt, List.take_of_length_le (l := ys) (by rw [HLY.out]; omega)]
            generalize (10000 : Int) ^ m = P
            generalize dt xs m = x
            generalize val 10000 ys = Y
            grind
          · simp [intOf]; omega
    · obtain rfl : m = n1 := by omega
      obtain ⟨A3, c3, hv3, hrd⟩ := Rd.of_own hrow
      have hval : val 10000 zs = val 10000 xs * val 10000 ys := by rw [HI.out.2.2, List.take_of_length_le (by rw [HLX.out]; omega)]
      have HV := Lib.hid hval
      have h0 : 0 ≤ val 10000 zs := by rw [hval]; exact Int.mul_nonneg (val_bounds (by omega) hcx.1).1 (val_bounds (by omega) hcy.1).1
      simp only [Value.slice.injEq] at hv3
      obtain ⟨rfl, _, rfl⟩ := hv3
      have hcy := ref_carry _ (m + n2) (m + n2) zs 9998000100000 wr hrd (fun l => by have := HI.out.2.1 l; omega) (by omega) (by omega) (by omega) h0
      clear hval h0 hrow
      go_wp2_with fail
      refine hcy.mono ?_
      rintro e w' ⟨v, rfl, hv, hX⟩
      go_wp2
      go_ret
      rw [HV.out] at hv
      exact ⟨v, rfl, hv, hB.trans (Below.mono hX hB.size)⟩
end Go.Proofs.Klp
