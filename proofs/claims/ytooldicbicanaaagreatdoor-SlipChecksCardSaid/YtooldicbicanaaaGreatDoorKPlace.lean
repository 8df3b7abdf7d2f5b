/- Places of small integers. -/
import Derived.Test.YtooldicbicanaaaGreatDoorKFaultA
namespace Go.Proofs.Klp
open Go.RowKit Go.Shelf
attribute [local go_sem ↓] Go.wp_at_zero Go.wp_at_succ

theorem ilen_sm {n : Int} (h : n.natAbs ≤ 1000000) : ilen n ≤ 100000 := by
  have : ilen n ≤ 7 := (dec_len_le (by decide)).2 (by omega)
  omega
theorem r02_of (n : Int) (k : Nat) (w : World) (hE : Env w) (hk : k ≠ 0) (h0 : -1000000 ≤ n) (h1 : n ≤ 1000000) (h2 : k ≤ 1000000) : Calls Tryz.prog 44 #[.int .i64 n, .int .i64 (k : Int)] w (Ret w (.string (rB (mkRat n k)))) := by
  have hU := Up.refl w
  have hp : (0 : Int) < (k : Int) := by omega
  have hi := ilen_sm (n := n) (by omega)
  have hj := ilen_sm (n := (k : Int)) (by omega)
  have HK := Lib.hid hk
  clear hk
  go_enter Tryz.func44, Tryz.ntmps44
  go_wp2_with fail
  refine (r01_of n _ hE (by omega) (by omega)).mono ?_
  rintro _ _ ⟨rfl, hX⟩; replace hU := Up.trans hU hX; replace hE := Env.up hE hX; clear hX
  go_wp2_with fail
  refine (r01_of (k : Int) _ hE (by omega) (by omega)).mono ?_
  rintro _ _ ⟨rfl, hX⟩; replace hU := Up.trans hU hX; replace hE := Env.up hE hX; clear hX
  go_wp2_with fail
  refine (r02_fraction n (k : Int) n k _ hE HK.out (.inl ⟨hp, rfl, rfl⟩) hi hj).mono ?_
  rintro _ _ ⟨rfl, hX⟩; replace hU := Up.trans hU hX; clear hX
  go_wp2
  go_ret
  first | exact ⟨rfl, hU⟩ | exact ⟨trivial, hU⟩
theorem mkRat_one' (n : Int) : mkRat n 1 = (n : Rat) := by rw [Rat.mkRat_one]
theorem tmod_bd (u : Int) : -8 < u.tmod 8 ∧ u.tmod 8 < 8 := ⟨Int.lt_tmod_of_pos u (by decide), Int.tmod_lt_of_pos u (by decide)⟩

set_option maxRecDepth 100000 in
set_option maxHeartbeats 4000000 in
theorem law_place1 (u1 u2 u3 : Int) (w : World) (hE : Env w) (hlu1 : -128 ≤ u1) (hgu1 : u1 ≤ 127) (hlu2 : -128 ≤ u2) (hgu2 : u2 ≤ 127) (hlu3 : -128 ≤ u3) (hgu3 : u3 ≤ 127) :
    Calls Tryz.prog 69 #[.agg #[.int .i8 u1, .int .i8 u2, .int .i8 u3], .bool false] w (Ret w (.agg #[.string (rB ((u1.tmod 8 : Int) : Rat)), .string (rB ((u2.tmod 8 : Int) : Rat)), .string (rB ((u3.tmod 8 : Int) : Rat))])) := by
  go_enter Tryz.func69, Tryz.ntmps69
  refine enter_abs fun ac0 d0 z0 he0 => ?_
  have hU0 := Up.refl w
  have T0_0 := he0 0 _ rfl
  have T1_0 := he0 1 _ rfl
  replace z0 : ac0.tmps.size = 26 := z0
  clear he0
  refine wp_seq_k fun K0 hK0 => ?_
  refine region_line 26 (dso [2, 4]) [0, 1] [1, 1] [] []
   [fun b => .pointer (some ⟨b, 0, none⟩), fun b => .pointer (some ⟨b, 0, none⟩)]
   [Bw [.int .i8 u1, .int .i8 u2, .int .i8 u3], Bw [.string ⟨#[]⟩, .string ⟨#[]⟩, .string ⟨#[]⟩]]
   [] ([] : List Nat) w z0 (by kernel_rfl) ⟨Bw.loc _, Bw.loc _, trivial⟩ trivial (allB_of trivial) List.nodup_nil hU0 (allG_of trivial) (fun β hβ => ?_) ?_
  · refine sc ?_ (sc ?_ (sn))
    · refine sr rfl fun av wq hUw h K k => ?_
      have eh0 := h.B 0 T0_0
      clear h; go_simp
      exact k _ _ (PostN rfl rfl rfl rfl rfl)
    · refine sr rfl fun av wq hUw h K k => ?_
      clear h; go_simp
      exact k _ _ (PostN rfl rfl rfl rfl rfl)
  refine end_of fun bt1 ac1 wd1 d1 z1 hU1 v1 g1 => ?_
  replace d1 := d1.trans d0; replace z1 := z1.trans z0
  clear d0 z0
  refine hK0 _ _ ?_
  refine wp_seq_k fun K1 hK1 => ?_
  refine region_line 26 (dso [5]) [999] [0] [] []
   [fun _ => .int .i64 1]
   [T0]
   [] [(bt1 0), (bt1 1)] w z1 (by kernel_rfl) ⟨loc_true, trivial⟩ trivial g1.B g1.N hU1 (allG_of trivial) (fun β hβ => ?_) ?_
  · refine sc ?_ (sn)
    · refine sr rfl fun av wq hUw h K k => ?_
      clear h; go_simp
      exact k _ _ P0
  refine end_of fun bt2 ac2 wd2 d2 z2 hU2 v2 g2 => ?_
  replace d2 := d2.trans d1; replace z2 := z2.trans z1
  clear d1 z1
  refine hK1 _ _ ?_
  refine wp_seq_k fun K2 hK2 => ?_
  refine wp_seq_k fun K3 hK3 => ?_
  refine region_line 26 (dso [6]) [999] [0] [] []
   [fun _ => .bool false]
   [T0]
   [] [(bt1 0), (bt1 1)] w z2 (by kernel_rfl) ⟨loc_true, trivial⟩ trivial g2.B g2.N hU2 (allG_of trivial) (fun β hβ => ?_) ?_
  · refine sc ?_ (sn)
    · refine sr rfl fun av wq hUw h K k => ?_
      have eh1 := h.B 1 ((v2 1 rfl).trans ((v1 1 rfl).trans T1_0))
      clear h; go_simp
      exact k _ _ P0
  refine end_of fun bt3 ac3 wd3 d3 z3 hU3 v3 g3 => ?_
  replace d3 := d3.trans d2; replace z3 := z3.trans z2
  clear d2 z2
  refine hK3 _ _ ?_
  refine wp_cond_false (eval_of (g3.T 0 6)) ?_
  refine wp_skip ?_
  refine hK2 _ _ ?_
  refine wp_seq_k fun K4 hK4 => ?_
  refine region_draw follows_mixed 26 (dso [7, 8, 9, 10, 11, 12, 13, 14, 15, 16, 17, 18, 19, 20, 21, 22, 23, 24, 25, 999]) [999, 999, 999, 999, 999, 999, 999, 999, 999, 999, 999, 999, 999, 999, 999, 999, 999, 999, 999, 21] [0, 0, 0, 0, 0, 0, 0, 0, 0, 0, 0, 0, 0, 0, 0, 0, 0, 0, 0, 2] [] [999, 19] [[], [0], [0, 1], [0, 1, 2], [], [0, 1, 2, 3, 4], [], [6], [6, 7], [6, 7, 8], [], [0, 1, 2, 3, 4, 5, 6, 7, 8, 9, 10], [], [12], [12, 13], [12, 13, 14], [], [0, 1, 2, 3, 4, 5, 6, 7, 8, 9, 10, 11, 12, 13, 14, 15, 16], [0, 1, 2, 3, 4, 5, 6, 7, 8, 9, 10, 11, 12, 13, 14, 15, 16, 17], [0, 1, 2, 3, 4, 5, 6, 7, 8, 9, 10, 11, 12, 13, 14, 15, 16, 17, 18]]
   [fun _ => .pointer (some ⟨(bt1 0), 0, none⟩), fun _ => .int .i8 u1, fun _ => .int .i64 u1, fun _ => .int .i64 (u1.tmod 8), fun _ => .int .i64 1, fun _ => .string (rB ((u1.tmod 8 : Int) : Rat)), fun _ => .pointer (some ⟨(bt1 0), 1, none⟩), fun _ => .int .i8 u2, fun _ => .int .i64 u2, fun _ => .int .i64 (u2.tmod 8), fun _ => .int .i64 1, fun _ => .string (rB ((u2.tmod 8 : Int) : Rat)), fun _ => .pointer (some ⟨(bt1 0), 2, none⟩), fun _ => .int .i8 u3, fun _ => .int .i64 u3, fun _ => .int .i64 (u3.tmod 8), fun _ => .int .i64 1, fun _ => .string (rB ((u3.tmod 8 : Int) : Rat)), fun _ => .agg #[.string (rB ((u1.tmod 8 : Int) : Rat)), .string (rB ((u2.tmod 8 : Int) : Rat)), .string (rB ((u3.tmod 8 : Int) : Rat))], fun _ => undef]
   [T0, T0, T0, T0, T0, T0, T0, T0, T0, T0, T0, T0, T0, T0, T0, T0, T0, T0, T0, Bw [.string (rB ((u1.tmod 8 : Int) : Rat)), .string (rB ((u2.tmod 8 : Int) : Rat)), .string (rB ((u3.tmod 8 : Int) : Rat))]]
   [Bw [.int .i8 u1, .int .i8 u2, .int .i8 u3], Bw [.string ⟨#[]⟩, .string ⟨#[]⟩, .string ⟨#[]⟩]] [(bt1 0), (bt1 1)] w z3 (by kernel_rfl) ⟨loc_true, loc_true, loc_true, loc_true, loc_true, loc_true, loc_true, loc_true, loc_true, loc_true, loc_true, loc_true, loc_true, loc_true, loc_true, loc_true, loc_true, loc_true, loc_true, Bw.loc _, trivial⟩ ⟨Bw.loc _, Bw.loc _, trivial⟩ g3.B g3.N hU3 (allG_of ⟨(g1.f 0 rfl rfl rfl rfl).up ((g2.W rfl).trans (g3.W rfl)), (g1.f 1 rfl rfl rfl rfl).up ((g2.W rfl).trans (g3.W rfl)), trivial⟩) (fun β hβ => ?_) ?_
  · refine sc ?_ (sc ?_ (sc ?_ (sc ?_ (sc ?_ (sc ?_ (sc ?_ (sc ?_ (sc ?_ (sc ?_ (sc ?_ (sc ?_ (sc ?_ (sc ?_ (sc ?_ (sc ?_ (sc ?_ (sc ?_ (sc ?_ (sc ?_ (sn))))))))))))))))))))
    · refine sr rfl fun av wq hUw h K k => ?_
      have eh2 := h.B 2 ((v3 2 rfl).trans ((v2 2 rfl).trans (g1.T 0 2)))
      clear h; go_simp
      exact k _ _ P0
    · refine sr rfl fun av wq hUw h K k => ?_
      have eh7 := h.A 0 7
      have eb0 := h.R 0
      have ec0 := eb0.cell 0 rfl
      clear h; go_simp
      exact k _ _ P0
    · refine sr rfl fun av wq hUw h K k => ?_
      have eh8 := h.A 1 8
      have hw1 : IntKind.i64.wrap u1 = u1 := IntWalk.i64_in _ (by omega)
      clear h; go_simp
      exact k _ _ P0
    · refine sr rfl fun av wq hUw h K k => ?_
      have eh9 := h.A 2 9
      clear h; go_simp
      exact k _ _ P0
    · refine sr rfl fun av wq hUw h K k => ?_
      have eh5 := h.B 5 ((v3 5 rfl).trans (g2.T 0 5))
      clear h; go_simp
      exact k _ _ P0
    · refine sr rfl fun av wq hUw h K k => ?_
      have eh10 := h.A 3 10
      have eh11 := h.A 4 11
      have hEw := hE.up hUw
      have hcc := r02_of (u1.tmod 8) 1 wq hEw (by decide) (by have := tmod_bd u1; omega) (by have := tmod_bd u1; omega) (by decide)
      rw [mkRat_one'] at hcc
      clear h; go_simp
      refine (hcc).mono ?_
      rintro _ w2 ⟨rfl, hX⟩
      exact k _ _ (PD hX)
    · refine sr rfl fun av wq hUw h K k => ?_
      have eh2 := h.B 2 ((v3 2 rfl).trans ((v2 2 rfl).trans (g1.T 0 2)))
      clear h; go_simp
      exact k _ _ P0
    · refine sr rfl fun av wq hUw h K k => ?_
      have eh13 := h.A 6 13
      have eb0 := h.R 0
      have ec0 := eb0.cell 1 rfl
      clear h; go_simp
      exact k _ _ P0
    · refine sr rfl fun av wq hUw h K k => ?_
      have eh14 := h.A 7 14
      have hw1 : IntKind.i64.wrap u2 = u2 := IntWalk.i64_in _ (by omega)
      clear h; go_simp
      exact k _ _ P0
    · refine sr rfl fun av wq hUw h K k => ?_
      have eh15 := h.A 8 15
      clear h; go_simp
      exact k _ _ P0
    · refine sr rfl fun av wq hUw h K k => ?_
      have eh5 := h.B 5 ((v3 5 rfl).trans (g2.T 0 5))
      clear h; go_simp
      exact k _ _ P0
    · refine sr rfl fun av wq hUw h K k => ?_
      have eh16 := h.A 9 16
      have eh17 := h.A 10 17
      have hEw := hE.up hUw
      have hcc := r02_of (u2.tmod 8) 1 wq hEw (by decide) (by have := tmod_bd u2; omega) (by have := tmod_bd u2; omega) (by decide)
      rw [mkRat_one'] at hcc
      clear h; go_simp
      refine (hcc).mono ?_
      rintro _ w2 ⟨rfl, hX⟩
      exact k _ _ (PD hX)
    · refine sr rfl fun av wq hUw h K k => ?_
      have eh2 := h.B 2 ((v3 2 rfl).trans ((v2 2 rfl).trans (g1.T 0 2)))
      clear h; go_simp
      exact k _ _ P0
    · refine sr rfl fun av wq hUw h K k => ?_
      have eh19 := h.A 12 19
      have eb0 := h.R 0
      have ec0 := eb0.cell 2 rfl
      clear h; go_simp
      exact k _ _ P0
    · refine sr rfl fun av wq hUw h K k => ?_
      have eh20 := h.A 13 20
      have hw1 : IntKind.i64.wrap u3 = u3 := IntWalk.i64_in _ (by omega)
      clear h; go_simp
      exact k _ _ P0
    · refine sr rfl fun av wq hUw h K k => ?_
      have eh21 := h.A 14 21
      clear h; go_simp
      exact k _ _ P0
    · refine sr rfl fun av wq hUw h K k => ?_
      have eh5 := h.B 5 ((v3 5 rfl).trans (g2.T 0 5))
      clear h; go_simp
      exact k _ _ P0
    · refine sr rfl fun av wq hUw h K k => ?_
      have eh22 := h.A 15 22
      have eh23 := h.A 16 23
      have hEw := hE.up hUw
      have hcc := r02_of (u3.tmod 8) 1 wq hEw (by decide) (by have := tmod_bd u3; omega) (by have := tmod_bd u3; omega) (by decide)
      rw [mkRat_one'] at hcc
      clear h; go_simp
      refine (hcc).mono ?_
      rintro _ w2 ⟨rfl, hX⟩
      exact k _ _ (PD hX)
    · refine sr rfl fun av wq hUw h K k => ?_
      have eh12 := h.A 5 12
      have eh18 := h.A 11 18
      have eh24 := h.A 17 24
      clear h; go_simp
      exact k _ _ P0
    · refine sr rfl fun av wq hUw h K k => ?_
      have hb1 : β 21 = (bt1 1) := hβ 1 (by simp)
      have eh4 := h.B 4 ((v3 4 rfl).trans ((v2 4 rfl).trans (g1.T 1 4)))
      have eh25 := h.A 18 25
      have eb0 := h.R 1
      obtain ⟨ec0, ec1, ec2⟩ := eb0.c3 0 1 2; obtain ⟨ef0, ef1, ef2⟩ := eb0.f3 0 1 2
      clear h; go_simp
      exact k _ _ (PostS rfl rfl rfl rfl hb1 rfl ((((Sto.refl _ _).set 0 _).set 1 _).set 2 _) ((((eb0).set 0 rfl _).set 1 rfl _).set 2 rfl _))
  refine end_of fun bt4 ac4 wd4 d4 z4 hU4 v4 g4 => ?_
  replace d4 := d4.trans d3; replace z4 := z4.trans z3
  clear d3 z3
  have B1_4 := g4.F 19
  rw [show bt4 21 = (bt1 1) from g4.β 1 (by simp)] at B1_4
  refine hK4 _ _ ?_
  have et4 := (v4 4 rfl).trans ((v3 4 rfl).trans ((v2 4 rfl).trans (g1.T 1 4)))
  have eb4 := B1_4
  have ec1 := eb4.cell 0 rfl
  have ec2 := eb4.cell 1 rfl
  have ec3 := eb4.cell 2 rfl
  refine wp_ret ?_
  refine bodyPost_ret (v := .agg #[.string (rB ((u1.tmod 8 : Int) : Rat)), .string (rB ((u2.tmod 8 : Int) : Rat)), .string (rB ((u3.tmod 8 : Int) : Rat))]) (by simp [results, Tryz.f69, go_sem, et4, ec1, ec2, ec3]) d4 ?_
  exact ⟨rfl, hU4⟩

end Go.Proofs.Klp
