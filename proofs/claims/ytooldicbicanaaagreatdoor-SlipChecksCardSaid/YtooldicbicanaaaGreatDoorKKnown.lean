/- The first examples of the chapter. -/
import Derived.Test.YtooldicbicanaaaGreatDoorKPlace
namespace Go.Proofs.Klp
open Go.RowKit Go.Shelf
attribute [local go_sem ↓] Go.wp_at_zero Go.wp_at_succ

theorem rB_m1 : rB (-1) = mkB [45, 49] := by rw [← rB_neg_add (show (0 : Rat) < 1 by decide), rB_one, mkB_append]; rfl
theorem rlen_c_m1 : rlen (-1) ≤ 1 := by rw [rlen_neg]; exact rlen_c_1
theorem okR_0 : okR (rB 0) = true := okR_of (by have := rlen_c_0; omega)
theorem okR_1 : okR (rB 1) = true := okR_of (by have := rlen_c_1; omega)
theorem okR_m1 : okR (rB (-1)) = true := okR_of (by have := rlen_c_m1; omega)
theorem zV_rB (a b c : Rat) : zV (rB a, rB b, rB c) = (decide (a = 0) && (decide (b = 0) && decide (c = 0))) := by unfold zV; rw [rB_is0, rB_is0, rB_is0]
theorem tmod_sm {u : Int} (h0 : -8 < u) (h1 : u < 8) : u.tmod 8 = u := by
  by_cases h : 0 ≤ u
  · rw [Int.tmod_eq_emod_of_nonneg h]; omega
  · obtain ⟨v, rfl⟩ : ∃ v, u = -v := ⟨-u, by omega⟩
    rw [Int.neg_tmod, Int.tmod_eq_emod_of_nonneg (by omega)]; omega

set_option maxRecDepth 100000 in
set_option maxHeartbeats 4000000 in
theorem law_Place1 (u1 u2 u3 : Int) (w : World) (hE : Env w) (hlu1 : -128 ≤ u1) (hgu1 : u1 ≤ 127) (hlu2 : -128 ≤ u2) (hgu2 : u2 ≤ 127) (hlu3 : -128 ≤ u3) (hgu3 : u3 ≤ 127) :
    Calls Tryz.prog 74 #[.agg #[.int .i8 u1, .int .i8 u2, .int .i8 u3], .bool false] w (Ret w (.agg #[.string (rB ((u1.tmod 8 : Int) : Rat)), .string (rB ((u2.tmod 8 : Int) : Rat)), .string (rB ((u3.tmod 8 : Int) : Rat))])) := by
  go_enter Tryz.func74, Tryz.ntmps74
  refine enter_abs fun ac0 d0 z0 he0 => ?_
  have hU0 := Up.refl w
  have T0_0 := he0 0 _ rfl
  have T1_0 := he0 1 _ rfl
  replace z0 : ac0.tmps.size = 8 := z0
  clear he0
  refine wp_seq_k fun K0 hK0 => ?_
  refine region_line 8 (dso [2, 4]) [0, 1] [1, 1] [] []
   [fun b => .pointer (some ⟨b, 0, none⟩), fun b => .pointer (some ⟨b, 0, none⟩)]
   [Bw [.int .i8 u1, .int .i8 u2, .int .i8 u3], Bw [.string ⟨#[]⟩, .string ⟨#[]⟩, .string ⟨#[]⟩]]
   [] ([] : List Nat) w z0 (by kernel_rfl) ⟨Bw.loc _, Bw.loc _, trivial⟩ trivial (allB_of trivial) List.nodup_nil hU0 (allG_of trivial) (fun β hβ => ?_) ?_
  · refine sc ?_ (sc ?_ (sn))
    · refine sr rfl fun av wq hUw h K k => ?_
      have eh0 := h.B 0 T0_0
      clear h; go_simp
      exact k _ _ (PostN rfl rfl rfl rfl rfl)
    · refine sr rfl fun av wq hUw h K k => ?_
      clear h; go_simp
      exact k _ _ (PostN rfl rfl rfl rfl rfl)
  refine end_of fun bt1 ac1 wd1 d1 z1 hU1 v1 g1 => ?_
  replace d1 := d1.trans d0; replace z1 := z1.trans z0
  clear d0 z0
  refine hK0 _ _ ?_
  refine wp_seq_k fun K1 hK1 => ?_
  refine region_line 8 (dso [5, 6, 7, 999]) [999, 999, 999, 5] [0, 0, 0, 2] [] [999, 3]
   [fun _ => .agg #[.int .i8 u1, .int .i8 u2, .int .i8 u3], fun _ => .bool false, fun _ => .agg #[.string (rB ((u1.tmod 8 : Int) : Rat)), .string (rB ((u2.tmod 8 : Int) : Rat)), .string (rB ((u3.tmod 8 : Int) : Rat))], fun _ => undef]
   [T0, T0, T0, Bw [.string (rB ((u1.tmod 8 : Int) : Rat)), .string (rB ((u2.tmod 8 : Int) : Rat)), .string (rB ((u3.tmod 8 : Int) : Rat))]]
   [Bw [.int .i8 u1, .int .i8 u2, .int .i8 u3], Bw [.string ⟨#[]⟩, .string ⟨#[]⟩, .string ⟨#[]⟩]] [(bt1 0), (bt1 1)] w z1 (by kernel_rfl) ⟨loc_true, loc_true, loc_true, Bw.loc _, trivial⟩ ⟨Bw.loc _, Bw.loc _, trivial⟩ g1.B g1.N hU1 (allG_of ⟨g1.f 0 rfl rfl rfl rfl, g1.f 1 rfl rfl rfl rfl, trivial⟩) (fun β hβ => ?_) ?_
  · refine sc ?_ (sc ?_ (sc ?_ (sc ?_ (sn))))
    · refine sr rfl fun av wq hUw h K k => ?_
      have eh2 := h.B 2 (g1.T 0 2)
      have eb0 := h.R 0
      obtain ⟨ec0, ec1, ec2⟩ := eb0.c3 0 1 2
      clear h; go_simp
      exact k _ _ P0
    · refine sr rfl fun av wq hUw h K k => ?_
      have eh1 := h.B 1 ((v1 1 rfl).trans T1_0)
      clear h; go_simp
      exact k _ _ P0
    · refine sr rfl fun av wq hUw h K k => ?_
      have eh5 := h.A 0 5
      have eh6 := h.A 1 6
      have hEw := hE.up hUw
      clear h; go_simp
      refine (law_place1 u1 u2 u3 wq hEw hlu1 hgu1 hlu2 hgu2 hlu3 hgu3).mono ?_
      rintro _ w2 ⟨rfl, hX⟩
      exact k _ _ (PD hX)
    · refine sr rfl fun av wq hUw h K k => ?_
      have hb1 : β 5 = (bt1 1) := hβ 1 (by simp)
      have eh4 := h.B 4 (g1.T 1 4)
      have eh7 := h.A 2 7
      have eb0 := h.R 1
      obtain ⟨ec0, ec1, ec2⟩ := eb0.c3 0 1 2; obtain ⟨ef0, ef1, ef2⟩ := eb0.f3 0 1 2
      clear h; go_simp
      exact k _ _ (PostS rfl rfl rfl rfl hb1 rfl ((((Sto.refl _ _).set 0 _).set 1 _).set 2 _) ((((eb0).set 0 rfl _).set 1 rfl _).set 2 rfl _))
  refine end_of fun bt2 ac2 wd2 d2 z2 hU2 v2 g2 => ?_
  replace d2 := d2.trans d1; replace z2 := z2.trans z1
  clear d1 z1
  have B1_2 := g2.F 3
  rw [show bt2 5 = (bt1 1) from g2.β 1 (by simp)] at B1_2
  refine hK1 _ _ ?_
  have et4 := (v2 4 rfl).trans (g1.T 1 4)
  have eb4 := B1_2
  have ec1 := eb4.cell 0 rfl
  have ec2 := eb4.cell 1 rfl
  have ec3 := eb4.cell 2 rfl
  refine wp_ret ?_
  refine bodyPost_ret (v := .agg #[.string (rB ((u1.tmod 8 : Int) : Rat)), .string (rB ((u2.tmod 8 : Int) : Rat)), .string (rB ((u3.tmod 8 : Int) : Rat))]) (by simp [results, Tryz.f74, go_sem, et4, ec1, ec2, ec3]) d2 ?_
  exact ⟨rfl, hU2⟩

set_option maxRecDepth 100000 in
set_option maxHeartbeats 4000000 in
theorem law_spot (u1 u2 u3 : Int) (w : World) (hE : Env w) (hlu1 : -8 < u1) (hgu1 : u1 < 8) (hlu2 : -8 < u2) (hgu2 : u2 < 8) (hlu3 : -8 < u3) (hgu3 : u3 < 8) :
    Calls Tryz.prog 30 #[.int .i64 u1, .int .i64 u2, .int .i64 u3] w (Ret w (.agg #[.string (rB ((u1 : Int) : Rat)), .string (rB ((u2 : Int) : Rat)), .string (rB ((u3 : Int) : Rat))])) := by
  go_enter Tryz.func30, Tryz.ntmps30
  refine enter_abs fun ac0 d0 z0 he0 => ?_
  have hU0 := Up.refl w
  have T0_0 := he0 0 _ rfl
  have T1_0 := he0 1 _ rfl
  have T2_0 := he0 2 _ rfl
  replace z0 : ac0.tmps.size = 15 := z0
  clear he0
  refine wp_seq_k fun K0 hK0 => ?_
  refine region_line 15 (dso [6]) [0] [1] [] []
   [fun b => .pointer (some ⟨b, 0, none⟩)]
   [Bw [.string ⟨#[]⟩, .string ⟨#[]⟩, .string ⟨#[]⟩]]
   [] ([] : List Nat) w z0 (by kernel_rfl) ⟨Bw.loc _, trivial⟩ trivial (allB_of trivial) List.nodup_nil hU0 (allG_of trivial) (fun β hβ => ?_) ?_
  · refine sc ?_ (sn)
    · refine sr rfl fun av wq hUw h K k => ?_
      clear h; go_simp
      exact k _ _ (PostN rfl rfl rfl rfl rfl)
  refine end_of fun bt1 ac1 wd1 d1 z1 hU1 v1 g1 => ?_
  replace d1 := d1.trans d0; replace z1 := z1.trans z0
  clear d0 z0
  refine hK0 _ _ ?_
  refine wp_seq_k fun K1 hK1 => ?_
  refine region_line 15 (dso [7, 8, 9, 10, 11, 12, 13, 14, 999]) [999, 999, 999, 999, 999, 999, 999, 999, 9] [0, 0, 0, 0, 0, 0, 0, 0, 2] [] [8]
   [fun _ => .int .i64 u1, fun _ => .int .i8 u1, fun _ => .int .i64 u2, fun _ => .int .i8 u2, fun _ => .int .i64 u3, fun _ => .int .i8 u3, fun _ => .agg #[.int .i8 u1, .int .i8 u2, .int .i8 u3], fun _ => .agg #[.string (rB ((u1 : Int) : Rat)), .string (rB ((u2 : Int) : Rat)), .string (rB ((u3 : Int) : Rat))], fun _ => undef]
   [T0, T0, T0, T0, T0, T0, T0, T0, Bw [.string (rB ((u1 : Int) : Rat)), .string (rB ((u2 : Int) : Rat)), .string (rB ((u3 : Int) : Rat))]]
   [Bw [.string ⟨#[]⟩, .string ⟨#[]⟩, .string ⟨#[]⟩]] [(bt1 0)] w z1 (by kernel_rfl) ⟨loc_true, loc_true, loc_true, loc_true, loc_true, loc_true, loc_true, loc_true, Bw.loc _, trivial⟩ ⟨Bw.loc _, trivial⟩ g1.B g1.N hU1 (allG_of ⟨g1.f 0 rfl rfl rfl rfl, trivial⟩) (fun β hβ => ?_) ?_
  · refine sc ?_ (sc ?_ (sc ?_ (sc ?_ (sc ?_ (sc ?_ (sc ?_ (sc ?_ (sc ?_ (sn)))))))))
    · refine sr rfl fun av wq hUw h K k => ?_
      have eh0 := h.B 0 ((v1 0 rfl).trans T0_0)
      clear h; go_simp
      exact k _ _ P0
    · refine sr rfl fun av wq hUw h K k => ?_
      have eh7 := h.A 0 7
      have hw1 : IntKind.i8.wrap u1 = u1 := IntWalk.i8_in _ (by omega)
      clear h; go_simp
      exact k _ _ P0
    · refine sr rfl fun av wq hUw h K k => ?_
      have eh1 := h.B 1 ((v1 1 rfl).trans T1_0)
      clear h; go_simp
      exact k _ _ P0
    · refine sr rfl fun av wq hUw h K k => ?_
      have eh9 := h.A 2 9
      have hw1 : IntKind.i8.wrap u2 = u2 := IntWalk.i8_in _ (by omega)
      clear h; go_simp
      exact k _ _ P0
    · refine sr rfl fun av wq hUw h K k => ?_
      have eh2 := h.B 2 ((v1 2 rfl).trans T2_0)
      clear h; go_simp
      exact k _ _ P0
    · refine sr rfl fun av wq hUw h K k => ?_
      have eh11 := h.A 4 11
      have hw1 : IntKind.i8.wrap u3 = u3 := IntWalk.i8_in _ (by omega)
      clear h; go_simp
      exact k _ _ P0
    · refine sr rfl fun av wq hUw h K k => ?_
      have eh8 := h.A 1 8
      have eh10 := h.A 3 10
      have eh12 := h.A 5 12
      clear h; go_simp
      exact k _ _ P0
    · refine sr rfl fun av wq hUw h K k => ?_
      have eh13 := h.A 6 13
      have hEw := hE.up hUw
      have hcc : Calls Tryz.prog 74 #[.agg #[.int .i8 u1, .int .i8 u2, .int .i8 u3], .bool false] wq (Ret wq (.agg #[.string (rB ((u1 : Int) : Rat)), .string (rB ((u2 : Int) : Rat)), .string (rB ((u3 : Int) : Rat))])) := by have h := law_Place1 u1 u2 u3 wq hEw (by omega) (by omega) (by omega) (by omega) (by omega) (by omega); rw [tmod_sm hlu1 hgu1, tmod_sm hlu2 hgu2, tmod_sm hlu3 hgu3] at h; exact h
      clear h; go_simp
      refine (hcc).mono ?_
      rintro _ w2 ⟨rfl, hX⟩
      exact k _ _ (PD hX)
    · refine sr rfl fun av wq hUw h K k => ?_
      have hb0 : β 9 = (bt1 0) := hβ 0 (by simp)
      have eh6 := h.B 6 (g1.T 0 6)
      have eh14 := h.A 7 14
      have eb0 := h.R 0
      obtain ⟨ec0, ec1, ec2⟩ := eb0.c3 0 1 2; obtain ⟨ef0, ef1, ef2⟩ := eb0.f3 0 1 2
      clear h; go_simp
      exact k _ _ (PostS rfl rfl rfl rfl hb0 rfl ((((Sto.refl _ _).set 0 _).set 1 _).set 2 _) ((((eb0).set 0 rfl _).set 1 rfl _).set 2 rfl _))
  refine end_of fun bt2 ac2 wd2 d2 z2 hU2 v2 g2 => ?_
  replace d2 := d2.trans d1; replace z2 := z2.trans z1
  clear d1 z1
  have B0_2 := g2.F 8
  rw [show bt2 9 = (bt1 0) from g2.β 0 (by simp)] at B0_2
  refine hK1 _ _ ?_
  have et6 := (v2 6 rfl).trans (g1.T 0 6)
  have eb6 := B0_2
  have ec1 := eb6.cell 0 rfl
  have ec2 := eb6.cell 1 rfl
  have ec3 := eb6.cell 2 rfl
  refine wp_ret ?_
  refine bodyPost_ret (v := .agg #[.string (rB ((u1 : Int) : Rat)), .string (rB ((u2 : Int) : Rat)), .string (rB ((u3 : Int) : Rat))]) (by simp [results, Tryz.f30, go_sem, et6, ec1, ec2, ec3]) d2 ?_
  exact ⟨rfl, hU2⟩

theorem known_check (w : World) (hE : Env w) : Calls Tryz.prog 32 #[.agg #[.string (rB 1), .string (rB 0), .string (rB 1), .string (rB 0), .string (rB 1), .string (rB 0), .string (rB (-1))]] w (Ret w (.int .i64 0)) := by
  have h := slip_check_rat 1 0 1 0 1 0 (-1) w hE (by have := rlen_c_1; omega) (by have := rlen_c_0; omega) (by have := rlen_c_1; omega) (by have := rlen_c_0; omega) (by have := rlen_c_1; omega) (by have := rlen_c_0; omega) (by have := rlen_c_m1; omega) (by simp [okV, okR_0, okR_1, okR_m1, errN, firstE])
  have e1 : ([(rB 1, rB 0, rB 1)] : List Tri).any zV = false := by simp [zV_rB]
  have e2 : (1 : Rat) * 1 + 0 * 0 + 1 * (-1) = 0 := by decide +kernel
  simp only [e1] at h
  have e3 : firstE [if false = true then 17 else 0, if ((1 : Rat) * 1 + 0 * 0 + 1 * (-1)) = 0 then 0 else 7] = 0 := by rw [if_pos e2]; rfl
  exact h.mono fun e w' he => ⟨he.1.trans (congrArg (fun n => Ending.returned (.int .i64 n)) (by first | exact e3 | (rw [← e3]; rfl) | (rw [if_pos e2]; rfl))), he.2⟩
theorem known_parts (w : World) (hE : Env w) : Calls Tryz.prog 33 #[.agg #[.string ⟨#[49]⟩, .string ⟨#[48]⟩, .string ⟨#[49]⟩, .string ⟨#[48]⟩, .string ⟨#[49]⟩, .string ⟨#[48]⟩, .string ⟨#[45, 49]⟩]] w (Ret w (.tuple #[.string ⟨#[48]⟩, .string ⟨#[45, 49]⟩, .int .i64 0])) := by
  have e0 : (((((1 * (-0)) + (0 * 1)) + ((-1) * 0)) / ((((-0) * (-0)) + (1 * 1)) + (0 * 0))) : Rat) = 0 := by decide +kernel
  have e1 : (((((1 * ((0 * 0) - (1 * 1))) + (0 * ((1 * (-0)) - (1 * 0)))) + ((-1) * ((1 * 1) - (0 * (-0))))) / (((((0 * 0) - (1 * 1)) * ((0 * 0) - (1 * 1))) + (((1 * (-0)) - (1 * 0)) * ((1 * (-0)) - (1 * 0)))) + (((1 * 1) - (0 * (-0))) * ((1 * 1) - (0 * (-0)))))) : Rat) = (-1) := by decide +kernel
  have h := slip_parts_ok1 1 0 1 0 1 0 (-1) w hE (by have := rlen_c_1; omega) (by have := rlen_c_0; omega) (by have := rlen_c_1; omega) (by have := rlen_c_0; omega) (by have := rlen_c_1; omega) (by have := rlen_c_0; omega) (by have := rlen_c_m1; omega) known_check (by decide) (show (((((-0) * (-0)) + (1 * 1)) + (0 * 0)) : Rat) ≠ 0 by decide +kernel) (show ((((((0 * 0) - (1 * 1)) * ((0 * 0) - (1 * 1))) + (((1 * (-0)) - (1 * 0)) * ((1 * (-0)) - (1 * 0)))) + (((1 * 1) - (0 * (-0))) * ((1 * 1) - (0 * (-0))))) : Rat) ≠ 0 by decide +kernel) (by rw [e0, e1]; simp [okR_0, okR_m1, errN])
  rw [e0, e1, rB_zero, rB_one, rB_m1] at h
  exact h
theorem known_kind (w : World) (hE : Env w) : Calls Tryz.prog 34 #[.agg #[.string ⟨#[49]⟩, .string ⟨#[48]⟩, .string ⟨#[49]⟩, .string ⟨#[48]⟩, .string ⟨#[49]⟩, .string ⟨#[48]⟩, .string ⟨#[45, 49]⟩]] w (Ret w (.tuple #[.int .i64 1, .int .i64 0])) := by
  have h := slip_kind_down1 1 0 1 0 1 0 (-1) w hE (by have := rlen_c_1; omega) (by have := rlen_c_0; omega) (by have := rlen_c_1; omega) (by have := rlen_c_0; omega) (by have := rlen_c_1; omega) (by have := rlen_c_0; omega) (by have := rlen_c_m1; omega) known_check (by simp [zV_rB]) (by decide +kernel) (by decide +kernel) (by decide) (by decide) (by decide)
  rw [rB_zero, rB_one, rB_m1] at h
  exact h
theorem known_solve (w : World) (hE : Env w) : Calls Tryz.prog 13 #[.agg #[.string ⟨#[49]⟩, .string ⟨#[48]⟩, .string ⟨#[49]⟩, .string ⟨#[48]⟩], .agg #[.string ⟨#[48]⟩, .string ⟨#[48]⟩, .string ⟨#[49]⟩, .string ⟨#[48]⟩, .string ⟨#[45, 49]⟩], .agg #[.string ⟨#[48]⟩, .string ⟨#[49]⟩, .string ⟨#[48]⟩, .string ⟨#[48]⟩, .string ⟨#[48]⟩]] w (Ret w (.tuple #[.agg #[.string ⟨#[49]⟩, .string ⟨#[48]⟩, .string ⟨#[45, 49]⟩], .int .i64 0])) := by
  have e0 : (((((((0 * 0) - (1 * 1)) * 0) + (((1 * 1) - (0 * 0)) * ((-1) - 0))) + (((0 * 1) - (1 * 0)) * (0 - 0))) * (1 / (((1 * ((0 * 0) - (1 * 1))) + (0 * ((1 * 0) - (0 * 0)))) + (1 * ((0 * 1) - (0 * 0)))))) : Rat) = 1 := by decide +kernel
  have e1 : (((((((1 * 0) - (0 * 0)) * 0) + (((0 * 1) - (0 * 1)) * ((-1) - 0))) + (((1 * 0) - (1 * 1)) * (0 - 0))) * (1 / (((1 * ((0 * 0) - (1 * 1))) + (0 * ((1 * 0) - (0 * 0)))) + (1 * ((0 * 1) - (0 * 0)))))) : Rat) = 0 := by decide +kernel
  have e2 : (((((((0 * 1) - (0 * 0)) * 0) + (((0 * 0) - (1 * 1)) * ((-1) - 0))) + (((1 * 0) - (0 * 0)) * (0 - 0))) * (1 / (((1 * ((0 * 0) - (1 * 1))) + (0 * ((1 * 0) - (0 * 0)))) + (1 * ((0 * 1) - (0 * 0)))))) : Rat) = (-1) := by decide +kernel
  have h := slip_solve_ok 1 0 1 0 0 0 1 0 0 1 0 0 (-1) 0 w hE (by have := rlen_c_1; omega) (by have := rlen_c_0; omega) (by have := rlen_c_1; omega) (by have := rlen_c_0; omega) (by have := rlen_c_0; omega) (by have := rlen_c_0; omega) (by have := rlen_c_1; omega) (by have := rlen_c_0; omega) (by have := rlen_c_0; omega) (by have := rlen_c_1; omega) (by have := rlen_c_0; omega) (by have := rlen_c_0; omega) (by have := rlen_c_m1; omega) (by have := rlen_c_0; omega) (by simp [okV, okR_0, okR_1, okR_m1, errN, firstE]) (by simp [zV_rB]) (show ((((1 * ((0 * 0) - (1 * 1))) + (0 * ((1 * 0) - (0 * 0)))) + (1 * ((0 * 1) - (0 * 0)))) : Rat) ≠ 0 by decide +kernel) (by rw [e0, e1, e2]; simp [okV, okR_0, okR_1, okR_m1])
  rw [e0, e1, e2, rB_zero, rB_one, rB_m1] at h
  exact h
theorem rcast_0 : ((0 : Int) : Rat) = 0 := rfl
theorem rcast_1 : ((1 : Int) : Rat) = 1 := rfl
theorem rcast_m1 : ((-1 : Int) : Rat) = -1 := rfl
set_option maxRecDepth 100000 in
set_option maxHeartbeats 4000000 in
theorem law_known (w : World) (hE : Env w) :
    Calls Tryz.prog 11 #[] w (Ret w (.bool true)) := by
  go_enter Tryz.func11, Tryz.ntmps11
  refine enter_abs fun ac0 d0 z0 he0 => ?_
  have hU0 := Up.refl w
  replace z0 : ac0.tmps.size = 68 := z0
  clear he0
  refine wp_seq_k fun K0 hK0 => ?_
  refine region_line 68 (dso [0]) [999] [0] [] []
   [fun _ => .bool false]
   [T0]
   [] ([] : List Nat) w z0 (by kernel_rfl) ⟨loc_true, trivial⟩ trivial (allB_of trivial) List.nodup_nil hU0 (allG_of trivial) (fun β hβ => ?_) ?_
  · refine sc ?_ (sn)
    · refine sr rfl fun av wq hUw h K k => ?_
      clear h; go_simp
      exact k _ _ P0
  refine end_of fun bt1 ac1 wd1 d1 z1 hU1 v1 g1 => ?_
  replace d1 := d1.trans d0; replace z1 := z1.trans z0
  clear d0 z0
  refine hK0 _ _ ?_
  refine wp_seq_k fun K1 hK1 => ?_
  refine region_line 68 (dso [11, 12, 13, 14, 1, 999]) [999, 999, 999, 999, 4, 4] [0, 0, 0, 0, 1, 2] [999, 999, 999, 999, 5, 999] []
   [fun _ => .agg #[.string ⟨#[49]⟩, .string ⟨#[48]⟩, .string ⟨#[49]⟩], fun _ => .agg #[.string ⟨#[49]⟩, .string ⟨#[48]⟩, .string ⟨#[49]⟩, .string ⟨#[48]⟩], fun _ => .agg #[.string ⟨#[49]⟩, .string ⟨#[48]⟩, .string ⟨#[45, 49]⟩], fun _ => .agg #[.string ⟨#[49]⟩, .string ⟨#[48]⟩, .string ⟨#[49]⟩, .string ⟨#[48]⟩, .string ⟨#[49]⟩, .string ⟨#[48]⟩, .string ⟨#[45, 49]⟩], fun b => .pointer (some ⟨b, 0, none⟩), fun _ => undef]
   [T0, T0, T0, T0, Bw [.string ⟨#[]⟩, .string ⟨#[]⟩, .string ⟨#[]⟩, .string ⟨#[]⟩, .string ⟨#[]⟩, .string ⟨#[]⟩, .string ⟨#[]⟩], Bw [.string ⟨#[49]⟩, .string ⟨#[48]⟩, .string ⟨#[49]⟩, .string ⟨#[48]⟩, .string ⟨#[49]⟩, .string ⟨#[48]⟩, .string ⟨#[45, 49]⟩]]
   [] ([] : List Nat) w z1 (by kernel_rfl) ⟨loc_true, loc_true, loc_true, loc_true, Bw.loc _, Bw.loc _, trivial⟩ trivial (allB_of trivial) List.nodup_nil hU1 (allG_of trivial) (fun β hβ => ?_) ?_
  · refine sc ?_ (sc ?_ (sc ?_ (sc ?_ (sc ?_ (sc ?_ (sn))))))
    · refine sr rfl fun av wq hUw h K k => ?_
      have hEw := hE.up hUw
      have hcc := law_spot 1 0 1 wq hEw (by decide) (by decide) (by decide) (by decide) (by decide) (by decide)
      rw [rcast_1, rcast_0, rB_one, rB_zero] at hcc
      clear h; go_simp
      refine (hcc).mono ?_
      rintro _ w2 ⟨rfl, hX⟩
      exact k _ _ (PD hX)
    · refine sr rfl fun av wq hUw h K k => ?_
      have eh11 := h.A 0 11
      clear h; go_simp
      exact k _ _ P0
    · refine sr rfl fun av wq hUw h K k => ?_
      have hEw := hE.up hUw
      have hcc := law_spot 1 0 (-1) wq hEw (by decide) (by decide) (by decide) (by decide) (by decide) (by decide)
      rw [rcast_1, rcast_0, rcast_m1, rB_one, rB_zero, rB_m1] at hcc
      clear h; go_simp
      refine (hcc).mono ?_
      rintro _ w2 ⟨rfl, hX⟩
      exact k _ _ (PD hX)
    · refine sr rfl fun av wq hUw h K k => ?_
      have eh12 := h.A 1 12
      have eh13 := h.A 2 13
      clear h; go_simp
      exact k _ _ P0
    · refine sr rfl fun av wq hUw h K k => ?_
      clear h; go_simp
      exact k _ _ (PostN rfl rfl rfl rfl rfl)
    · refine sr rfl fun av wq hUw h K k => ?_
      have eh1 := h.A 4 1
      have eh14 := h.A 3 14
      have eb0 := h.F 4
      obtain ⟨ec0, ec1, ec2⟩ := eb0.c3 0 1 2; obtain ⟨ef0, ef1, ef2⟩ := eb0.f3 0 1 2
      obtain ⟨ec3, ec4, ec5⟩ := eb0.c3 3 4 5; obtain ⟨ef3, ef4, ef5⟩ := eb0.f3 3 4 5
      have ec6 := eb0.cell 6 rfl; have ef6 := eb0.frz 6 rfl
      clear h; go_simp
      exact k _ _ (PostS rfl rfl rfl rfl rfl rfl ((((((((Sto.refl _ _).set 0 _).set 1 _).set 2 _).set 3 _).set 4 _).set 5 _).set 6 _) ((((((((eb0).set 0 rfl _).set 1 rfl _).set 2 rfl _).set 3 rfl _).set 4 rfl _).set 5 rfl _).set 6 rfl _))
  refine end_of fun bt2 ac2 wd2 d2 z2 hU2 v2 g2 => ?_
  replace d2 := d2.trans d1; replace z2 := z2.trans z1
  clear d1 z1
  refine hK1 _ _ ?_
  refine wp_seq_k fun K2 hK2 => ?_
  refine region_line 68 (dso [16, 17, 15, 18, 19, 20, 2, 3, 4]) [999, 999, 999, 999, 999, 999, 999, 999, 999] [0, 0, 0, 0, 0, 0, 0, 0, 0] [] []
   [fun _ => .agg #[.string ⟨#[49]⟩, .string ⟨#[48]⟩, .string ⟨#[49]⟩, .string ⟨#[48]⟩, .string ⟨#[49]⟩, .string ⟨#[48]⟩, .string ⟨#[45, 49]⟩], fun _ => .tuple #[.string ⟨#[48]⟩, .string ⟨#[45, 49]⟩, .int .i64 0], fun _ => .tuple #[.string ⟨#[48]⟩, .string ⟨#[45, 49]⟩, .int .i64 0], fun _ => .string ⟨#[48]⟩, fun _ => .string ⟨#[45, 49]⟩, fun _ => .int .i64 0, fun _ => .string ⟨#[48]⟩, fun _ => .string ⟨#[45, 49]⟩, fun _ => .int .i64 0]
   [T0, T0, T0, T0, T0, T0, T0, T0, T0]
   [] [(bt2 4)] w z2 (by kernel_rfl) ⟨loc_true, loc_true, loc_true, loc_true, loc_true, loc_true, loc_true, loc_true, loc_true, trivial⟩ trivial g2.B g2.N hU2 (allG_of trivial) (fun β hβ => ?_) ?_
  · refine sc ?_ (sc ?_ (sc ?_ (sc ?_ (sc ?_ (sc ?_ (sc ?_ (sc ?_ (sc ?_ (sn)))))))))
    · refine sr rfl fun av wq hUw h K k => ?_
      have eh1 := h.B 1 (g2.T 4 1)
      have eb0 := (g2.f 5 rfl rfl rfl rfl).up (h.W rfl)
      obtain ⟨ec0, ec1, ec2⟩ := eb0.c3 0 1 2
      obtain ⟨ec3, ec4, ec5⟩ := eb0.c3 3 4 5
      have ec6 := eb0.cell 6 rfl
      clear h; go_simp
      exact k _ _ P0
    · refine sr rfl fun av wq hUw h K k => ?_
      have eh16 := h.A 0 16
      have hEw := hE.up hUw
      clear h; go_simp
      refine (known_parts wq hEw).mono ?_
      rintro _ w2 ⟨rfl, hX⟩
      exact k _ _ (PD hX)
    · refine sr rfl fun av wq hUw h K k => ?_
      have eh17 := h.A 1 17
      clear h; go_simp
      exact k _ _ P0
    · refine sr rfl fun av wq hUw h K k => ?_
      have eh15 := h.A 2 15
      clear h; go_simp
      exact k _ _ P0
    · refine sr rfl fun av wq hUw h K k => ?_
      have eh15 := h.A 2 15
      clear h; go_simp
      exact k _ _ P0
    · refine sr rfl fun av wq hUw h K k => ?_
      have eh15 := h.A 2 15
      clear h; go_simp
      exact k _ _ P0
    · refine sr rfl fun av wq hUw h K k => ?_
      have eh18 := h.A 3 18
      clear h; go_simp
      exact k _ _ P0
    · refine sr rfl fun av wq hUw h K k => ?_
      have eh19 := h.A 4 19
      clear h; go_simp
      exact k _ _ P0
    · refine sr rfl fun av wq hUw h K k => ?_
      have eh20 := h.A 5 20
      clear h; go_simp
      exact k _ _ P0
  refine end_of fun bt3 ac3 wd3 d3 z3 hU3 v3 g3 => ?_
  replace d3 := d3.trans d2; replace z3 := z3.trans z2
  clear d2 z2
  refine hK2 _ _ ?_
  refine wp_seq_k fun K3 hK3 => ?_
  refine region_line 68 (dso [22, 23, 21, 24, 25, 5, 6]) [999, 999, 999, 999, 999, 999, 999] [0, 0, 0, 0, 0, 0, 0] [] []
   [fun _ => .agg #[.string ⟨#[49]⟩, .string ⟨#[48]⟩, .string ⟨#[49]⟩, .string ⟨#[48]⟩, .string ⟨#[49]⟩, .string ⟨#[48]⟩, .string ⟨#[45, 49]⟩], fun _ => .tuple #[.int .i64 1, .int .i64 0], fun _ => .tuple #[.int .i64 1, .int .i64 0], fun _ => .int .i64 1, fun _ => .int .i64 0, fun _ => .int .i64 1, fun _ => .int .i64 0]
   [T0, T0, T0, T0, T0, T0, T0]
   [] [(bt2 4)] w z3 (by kernel_rfl) ⟨loc_true, loc_true, loc_true, loc_true, loc_true, loc_true, loc_true, trivial⟩ trivial g3.B g3.N hU3 (allG_of trivial) (fun β hβ => ?_) ?_
  · refine sc ?_ (sc ?_ (sc ?_ (sc ?_ (sc ?_ (sc ?_ (sc ?_ (sn)))))))
    · refine sr rfl fun av wq hUw h K k => ?_
      have eh1 := h.B 1 ((v3 1 rfl).trans (g2.T 4 1))
      have eb0 := ((g2.f 5 rfl rfl rfl rfl).up (g3.W rfl)).up (h.W rfl)
      obtain ⟨ec0, ec1, ec2⟩ := eb0.c3 0 1 2
      obtain ⟨ec3, ec4, ec5⟩ := eb0.c3 3 4 5
      have ec6 := eb0.cell 6 rfl
      clear h; go_simp
      exact k _ _ P0
    · refine sr rfl fun av wq hUw h K k => ?_
      have eh22 := h.A 0 22
      have hEw := hE.up hUw
      clear h; go_simp
      refine (known_kind wq hEw).mono ?_
      rintro _ w2 ⟨rfl, hX⟩
      exact k _ _ (PD hX)
    · refine sr rfl fun av wq hUw h K k => ?_
      have eh23 := h.A 1 23
      clear h; go_simp
      exact k _ _ P0
    · refine sr rfl fun av wq hUw h K k => ?_
      have eh21 := h.A 2 21
      clear h; go_simp
      exact k _ _ P0
    · refine sr rfl fun av wq hUw h K k => ?_
      have eh21 := h.A 2 21
      clear h; go_simp
      exact k _ _ P0
    · refine sr rfl fun av wq hUw h K k => ?_
      have eh24 := h.A 3 24
      clear h; go_simp
      exact k _ _ P0
    · refine sr rfl fun av wq hUw h K k => ?_
      have eh25 := h.A 4 25
      clear h; go_simp
      exact k _ _ P0
  refine end_of fun bt4 ac4 wd4 d4 z4 hU4 v4 g4 => ?_
  replace d4 := d4.trans d3; replace z4 := z4.trans z3
  clear d3 z3
  refine hK3 _ _ ?_
  refine wp_seq_k fun K4 hK4 => ?_
  refine region_line 68 (dso [26, 27, 28, 29, 7, 8, 999, 999]) [999, 999, 999, 999, 4, 5, 4, 5] [0, 0, 0, 0, 1, 1, 2, 2] [999, 999, 999, 999, 6, 7, 999, 999] []
   [fun _ => .agg #[.string ⟨#[48]⟩, .string ⟨#[48]⟩, .string ⟨#[49]⟩], fun _ => .agg #[.string ⟨#[48]⟩, .string ⟨#[48]⟩, .string ⟨#[49]⟩, .string ⟨#[48]⟩], fun _ => .agg #[.string ⟨#[48]⟩, .string ⟨#[49]⟩, .string ⟨#[48]⟩], fun _ => .agg #[.string ⟨#[48]⟩, .string ⟨#[49]⟩, .string ⟨#[48]⟩, .string ⟨#[48]⟩], fun b => .pointer (some ⟨b, 0, none⟩), fun b => .pointer (some ⟨b, 0, none⟩), fun _ => undef, fun _ => undef]
   [T0, T0, T0, T0, Bw [.string ⟨#[]⟩, .string ⟨#[]⟩, .string ⟨#[]⟩, .string ⟨#[]⟩], Bw [.string ⟨#[]⟩, .string ⟨#[]⟩, .string ⟨#[]⟩, .string ⟨#[]⟩], Bw [.string ⟨#[48]⟩, .string ⟨#[48]⟩, .string ⟨#[49]⟩, .string ⟨#[48]⟩], Bw [.string ⟨#[48]⟩, .string ⟨#[49]⟩, .string ⟨#[48]⟩, .string ⟨#[48]⟩]]
   [] [(bt2 4)] w z4 (by kernel_rfl) ⟨loc_true, loc_true, loc_true, loc_true, Bw.loc _, Bw.loc _, Bw.loc _, Bw.loc _, trivial⟩ trivial g4.B g4.N hU4 (allG_of trivial) (fun β hβ => ?_) ?_
  · refine sc ?_ (sc ?_ (sc ?_ (sc ?_ (sc ?_ (sc ?_ (sc ?_ (sc ?_ (sn))))))))
    · refine sr rfl fun av wq hUw h K k => ?_
      have hEw := hE.up hUw
      have hcc := law_spot 0 0 1 wq hEw (by decide) (by decide) (by decide) (by decide) (by decide) (by decide)
      rw [rcast_0, rcast_1, rB_zero, rB_one] at hcc
      clear h; go_simp
      refine (hcc).mono ?_
      rintro _ w2 ⟨rfl, hX⟩
      exact k _ _ (PD hX)
    · refine sr rfl fun av wq hUw h K k => ?_
      have eh26 := h.A 0 26
      clear h; go_simp
      exact k _ _ P0
    · refine sr rfl fun av wq hUw h K k => ?_
      have hEw := hE.up hUw
      have hcc := law_spot 0 1 0 wq hEw (by decide) (by decide) (by decide) (by decide) (by decide) (by decide)
      rw [rcast_0, rcast_1, rB_zero, rB_one] at hcc
      clear h; go_simp
      refine (hcc).mono ?_
      rintro _ w2 ⟨rfl, hX⟩
      exact k _ _ (PD hX)
    · refine sr rfl fun av wq hUw h K k => ?_
      have eh28 := h.A 2 28
      clear h; go_simp
      exact k _ _ P0
    · refine sr rfl fun av wq hUw h K k => ?_
      clear h; go_simp
      exact k _ _ (PostN rfl rfl rfl rfl rfl)
    · refine sr rfl fun av wq hUw h K k => ?_
      clear h; go_simp
      exact k _ _ (PostN rfl rfl rfl rfl rfl)
    · refine sr rfl fun av wq hUw h K k => ?_
      have eh7 := h.A 4 7
      have eh27 := h.A 1 27
      have eb0 := h.F 4
      obtain ⟨ec0, ec1, ec2⟩ := eb0.c3 0 1 2; obtain ⟨ef0, ef1, ef2⟩ := eb0.f3 0 1 2
      have ec3 := eb0.cell 3 rfl; have ef3 := eb0.frz 3 rfl
      clear h; go_simp
      exact k _ _ (PostS rfl rfl rfl rfl rfl rfl (((((Sto.refl _ _).set 0 _).set 1 _).set 2 _).set 3 _) (((((eb0).set 0 rfl _).set 1 rfl _).set 2 rfl _).set 3 rfl _))
    · refine sr rfl fun av wq hUw h K k => ?_
      have eh8 := h.A 5 8
      have eh29 := h.A 3 29
      have eb0 := h.F 5
      obtain ⟨ec0, ec1, ec2⟩ := eb0.c3 0 1 2; obtain ⟨ef0, ef1, ef2⟩ := eb0.f3 0 1 2
      have ec3 := eb0.cell 3 rfl; have ef3 := eb0.frz 3 rfl
      clear h; go_simp
      exact k _ _ (PostS rfl rfl rfl rfl rfl rfl (((((Sto.refl _ _).set 0 _).set 1 _).set 2 _).set 3 _) (((((eb0).set 0 rfl _).set 1 rfl _).set 2 rfl _).set 3 rfl _))
  refine end_of fun bt5 ac5 wd5 d5 z5 hU5 v5 g5 => ?_
  replace d5 := d5.trans d4; replace z5 := z5.trans z4
  clear d4 z4
  refine hK4 _ _ ?_
  refine wp_seq_k fun K5 hK5 => ?_
  refine region_line 68 (dso [31, 32, 33, 34, 35, 36, 37, 30, 38, 39, 9, 999, 10]) [999, 999, 999, 999, 999, 999, 999, 999, 999, 999, 10, 10, 999] [0, 0, 0, 0, 0, 0, 0, 0, 0, 0, 1, 2, 0] [999, 999, 999, 999, 999, 999, 999, 999, 999, 999, 11, 999, 999] []
   [fun _ => .pointer (some ⟨(bt2 4), 0, none⟩), fun _ => .agg #[.string ⟨#[49]⟩, .string ⟨#[48]⟩, .string ⟨#[49]⟩, .string ⟨#[48]⟩], fun _ => .agg #[.string ⟨#[48]⟩, .string ⟨#[48]⟩, .string ⟨#[49]⟩, .string ⟨#[48]⟩], fun _ => .agg #[.string ⟨#[48]⟩, .string ⟨#[48]⟩, .string ⟨#[49]⟩, .string ⟨#[48]⟩, .string ⟨#[45, 49]⟩], fun _ => .agg #[.string ⟨#[48]⟩, .string ⟨#[49]⟩, .string ⟨#[48]⟩, .string ⟨#[48]⟩], fun _ => .agg #[.string ⟨#[48]⟩, .string ⟨#[49]⟩, .string ⟨#[48]⟩, .string ⟨#[48]⟩, .string ⟨#[48]⟩], fun _ => .tuple #[.agg #[.string ⟨#[49]⟩, .string ⟨#[48]⟩, .string ⟨#[45, 49]⟩], .int .i64 0], fun _ => .tuple #[.agg #[.string ⟨#[49]⟩, .string ⟨#[48]⟩, .string ⟨#[45, 49]⟩], .int .i64 0], fun _ => .agg #[.string ⟨#[49]⟩, .string ⟨#[48]⟩, .string ⟨#[45, 49]⟩], fun _ => .int .i64 0, fun b => .pointer (some ⟨b, 0, none⟩), fun _ => undef, fun _ => .int .i64 0]
   [T0, T0, T0, T0, T0, T0, T0, T0, T0, T0, Bw [.string ⟨#[]⟩, .string ⟨#[]⟩, .string ⟨#[]⟩], Bw [.string ⟨#[49]⟩, .string ⟨#[48]⟩, .string ⟨#[45, 49]⟩], T0]
   [] [(bt2 4), (bt5 4), (bt5 5)] w z5 (by kernel_rfl) ⟨loc_true, loc_true, loc_true, loc_true, loc_true, loc_true, loc_true, loc_true, loc_true, loc_true, Bw.loc _, Bw.loc _, loc_true, trivial⟩ trivial g5.B g5.N hU5 (allG_of trivial) (fun β hβ => ?_) ?_
  · refine sc ?_ (sc ?_ (sc ?_ (sc ?_ (sc ?_ (sc ?_ (sc ?_ (sc ?_ (sc ?_ (sc ?_ (sc ?_ (sc ?_ (sc ?_ (sn)))))))))))))
    · refine sr rfl fun av wq hUw h K k => ?_
      have eh1 := h.B 1 ((v5 1 rfl).trans ((v4 1 rfl).trans ((v3 1 rfl).trans (g2.T 4 1))))
      clear h; go_simp
      exact k _ _ P0
    · refine sr rfl fun av wq hUw h K k => ?_
      have eh31 := h.A 0 31
      have eb0 := ((g2.f 5 rfl rfl rfl rfl).up (((g3.W rfl).trans (g4.W rfl)).trans (g5.W rfl))).up (h.W rfl)
      obtain ⟨ec0, ec1, ec2⟩ := eb0.c3 0 1 2
      have ec3 := eb0.cell 3 rfl
      clear h; go_simp
      exact k _ _ P0
    · refine sr rfl fun av wq hUw h K k => ?_
      have eh7 := h.B 7 (g5.T 4 7)
      have eb0 := (g5.f 6 rfl rfl rfl rfl).up (h.W rfl)
      obtain ⟨ec0, ec1, ec2⟩ := eb0.c3 0 1 2
      have ec3 := eb0.cell 3 rfl
      clear h; go_simp
      exact k _ _ P0
    · refine sr rfl fun av wq hUw h K k => ?_
      have eh33 := h.A 2 33
      clear h; go_simp
      exact k _ _ P0
    · refine sr rfl fun av wq hUw h K k => ?_
      have eh8 := h.B 8 (g5.T 5 8)
      have eb0 := (g5.f 7 rfl rfl rfl rfl).up (h.W rfl)
      obtain ⟨ec0, ec1, ec2⟩ := eb0.c3 0 1 2
      have ec3 := eb0.cell 3 rfl
      clear h; go_simp
      exact k _ _ P0
    · refine sr rfl fun av wq hUw h K k => ?_
      have eh35 := h.A 4 35
      clear h; go_simp
      exact k _ _ P0
    · refine sr rfl fun av wq hUw h K k => ?_
      have eh32 := h.A 1 32
      have eh34 := h.A 3 34
      have eh36 := h.A 5 36
      have hEw := hE.up hUw
      clear h; go_simp
      refine (known_solve wq hEw).mono ?_
      rintro _ w2 ⟨rfl, hX⟩
      exact k _ _ (PD hX)
    · refine sr rfl fun av wq hUw h K k => ?_
      have eh37 := h.A 6 37
      clear h; go_simp
      exact k _ _ P0
    · refine sr rfl fun av wq hUw h K k => ?_
      have eh30 := h.A 7 30
      clear h; go_simp
      exact k _ _ P0
    · refine sr rfl fun av wq hUw h K k => ?_
      have eh30 := h.A 7 30
      clear h; go_simp
      exact k _ _ P0
    · refine sr rfl fun av wq hUw h K k => ?_
      clear h; go_simp
      exact k _ _ (PostN rfl rfl rfl rfl rfl)
    · refine sr rfl fun av wq hUw h K k => ?_
      have eh9 := h.A 10 9
      have eh38 := h.A 8 38
      have eb0 := h.F 10
      obtain ⟨ec0, ec1, ec2⟩ := eb0.c3 0 1 2; obtain ⟨ef0, ef1, ef2⟩ := eb0.f3 0 1 2
      clear h; go_simp
      exact k _ _ (PostS rfl rfl rfl rfl rfl rfl ((((Sto.refl _ _).set 0 _).set 1 _).set 2 _) ((((eb0).set 0 rfl _).set 1 rfl _).set 2 rfl _))
    · refine sr rfl fun av wq hUw h K k => ?_
      have eh39 := h.A 9 39
      clear h; go_simp
      exact k _ _ P0
  refine end_of fun bt6 ac6 wd6 d6 z6 hU6 v6 g6 => ?_
  replace d6 := d6.trans d5; replace z6 := z6.trans z5
  clear d5 z5
  refine hK5 _ _ ?_
  refine wp_seq_k fun K6 hK6 => ?_
  refine region_line 68 (dso [40, 41, 42, 43, 44, 45, 46, 47, 48, 49, 50, 51, 52, 53, 54, 55, 56, 57, 58, 59, 60, 61, 62, 63, 64, 65, 66, 67, 0]) [999, 999, 999, 999, 999, 999, 999, 999, 999, 999, 999, 999, 999, 999, 999, 999, 999, 999, 999, 999, 999, 999, 999, 999, 999, 999, 999, 999, 999] [0, 0, 0, 0, 0, 0, 0, 0, 0, 0, 0, 0, 0, 0, 0, 0, 0, 0, 0, 0, 0, 0, 0, 0, 0, 0, 0, 0, 0] [] []
   [fun _ => .int .i64 0, fun _ => .bool true, fun _ => .bool true, fun _ => .int .i64 0, fun _ => .bool true, fun _ => .bool true, fun _ => .bool true, fun _ => .int .i64 0, fun _ => .bool true, fun _ => .bool true, fun _ => .bool true, fun _ => .string ⟨#[48]⟩, fun _ => .bool true, fun _ => .bool true, fun _ => .bool true, fun _ => .string ⟨#[45, 49]⟩, fun _ => .bool true, fun _ => .bool true, fun _ => .bool true, fun _ => .int .i64 1, fun _ => .bool true, fun _ => .bool true, fun _ => .bool true, fun _ => .agg #[.string ⟨#[49]⟩, .string ⟨#[48]⟩, .string ⟨#[45, 49]⟩], fun _ => .pointer (some ⟨(bt2 4), 4, none⟩), fun _ => .agg #[.string ⟨#[49]⟩, .string ⟨#[48]⟩, .string ⟨#[45, 49]⟩], fun _ => .bool true, fun _ => .bool true, fun _ => .bool true]
   [T0, T0, T0, T0, T0, T0, T0, T0, T0, T0, T0, T0, T0, T0, T0, T0, T0, T0, T0, T0, T0, T0, T0, T0, T0, T0, T0, T0, T0]
   [] [(bt2 4), (bt5 4), (bt5 5), (bt6 10)] w z6 (by kernel_rfl) ⟨loc_true, loc_true, loc_true, loc_true, loc_true, loc_true, loc_true, loc_true, loc_true, loc_true, loc_true, loc_true, loc_true, loc_true, loc_true, loc_true, loc_true, loc_true, loc_true, loc_true, loc_true, loc_true, loc_true, loc_true, loc_true, loc_true, loc_true, loc_true, loc_true, trivial⟩ trivial g6.B g6.N hU6 (allG_of trivial) (fun β hβ => ?_) ?_
  · refine sc ?_ (sc ?_ (sc ?_ (sc ?_ (sc ?_ (sc ?_ (sc ?_ (sc ?_ (sc ?_ (sc ?_ (sc ?_ (sc ?_ (sc ?_ (sc ?_ (sc ?_ (sc ?_ (sc ?_ (sc ?_ (sc ?_ (sc ?_ (sc ?_ (sc ?_ (sc ?_ (sc ?_ (sc ?_ (sc ?_ (sc ?_ (sc ?_ (sc ?_ (sn)))))))))))))))))))))))))))))
    · refine sr rfl fun av wq hUw h K k => ?_
      have eh4 := h.B 4 ((v6 4 rfl).trans ((v5 4 rfl).trans ((v4 4 rfl).trans (g3.T 8 4))))
      clear h; go_simp
      exact k _ _ P0
    · refine sr rfl fun av wq hUw h K k => ?_
      have eh40 := h.A 0 40
      clear h; go_simp
      exact k _ _ P0
    · refine sr rfl fun av wq hUw h K k => ?_
      have eh41 := h.A 1 41
      clear h; go_simp
      exact k _ _ P0
    · refine sg (t := 42) rfl rfl fun av wq hUw h => ⟨h.A 2 42, fun K k => ?_⟩
      have eh6 := h.B 6 ((v6 6 rfl).trans ((v5 6 rfl).trans (g4.T 6 6)))
      clear h; go_simp
      exact k _ _ P0
    · refine sg (t := 42) rfl rfl fun av wq hUw h => ⟨h.A 2 42, fun K k => ?_⟩
      have eh43 := h.A 3 43
      clear h; go_simp
      exact k _ _ P0
    · refine sr rfl fun av wq hUw h K k => ?_
      have eh42 := h.A 2 42
      have eh44 := h.A 4 44
      clear h; go_simp
      exact k _ _ P0
    · refine sr rfl fun av wq hUw h K k => ?_
      have eh45 := h.A 5 45
      clear h; go_simp
      exact k _ _ P0
    · refine sg (t := 46) rfl rfl fun av wq hUw h => ⟨h.A 6 46, fun K k => ?_⟩
      have eh10 := h.B 10 (g6.T 12 10)
      clear h; go_simp
      exact k _ _ P0
    · refine sg (t := 46) rfl rfl fun av wq hUw h => ⟨h.A 6 46, fun K k => ?_⟩
      have eh47 := h.A 7 47
      clear h; go_simp
      exact k _ _ P0
    · refine sr rfl fun av wq hUw h K k => ?_
      have eh46 := h.A 6 46
      have eh48 := h.A 8 48
      clear h; go_simp
      exact k _ _ P0
    · refine sr rfl fun av wq hUw h K k => ?_
      have eh49 := h.A 9 49
      clear h; go_simp
      exact k _ _ P0
    · refine sg (t := 50) rfl rfl fun av wq hUw h => ⟨h.A 10 50, fun K k => ?_⟩
      have eh2 := h.B 2 ((v6 2 rfl).trans ((v5 2 rfl).trans ((v4 2 rfl).trans (g3.T 6 2))))
      clear h; go_simp
      exact k _ _ P0
    · refine sg (t := 50) rfl rfl fun av wq hUw h => ⟨h.A 10 50, fun K k => ?_⟩
      have eh51 := h.A 11 51
      clear h; go_simp
      exact k _ _ P0
    · refine sr rfl fun av wq hUw h K k => ?_
      have eh50 := h.A 10 50
      have eh52 := h.A 12 52
      clear h; go_simp
      exact k _ _ P0
    · refine sr rfl fun av wq hUw h K k => ?_
      have eh53 := h.A 13 53
      clear h; go_simp
      exact k _ _ P0
    · refine sg (t := 54) rfl rfl fun av wq hUw h => ⟨h.A 14 54, fun K k => ?_⟩
      have eh3 := h.B 3 ((v6 3 rfl).trans ((v5 3 rfl).trans ((v4 3 rfl).trans (g3.T 7 3))))
      clear h; go_simp
      exact k _ _ P0
    · refine sg (t := 54) rfl rfl fun av wq hUw h => ⟨h.A 14 54, fun K k => ?_⟩
      have eh55 := h.A 15 55
      clear h; go_simp
      exact k _ _ P0
    · refine sr rfl fun av wq hUw h K k => ?_
      have eh54 := h.A 14 54
      have eh56 := h.A 16 56
      clear h; go_simp
      exact k _ _ P0
    · refine sr rfl fun av wq hUw h K k => ?_
      have eh57 := h.A 17 57
      clear h; go_simp
      exact k _ _ P0
    · refine sg (t := 58) rfl rfl fun av wq hUw h => ⟨h.A 18 58, fun K k => ?_⟩
      have eh5 := h.B 5 ((v6 5 rfl).trans ((v5 5 rfl).trans (g4.T 5 5)))
      clear h; go_simp
      exact k _ _ P0
    · refine sg (t := 58) rfl rfl fun av wq hUw h => ⟨h.A 18 58, fun K k => ?_⟩
      have eh59 := h.A 19 59
      clear h; go_simp
      exact k _ _ P0
    · refine sr rfl fun av wq hUw h K k => ?_
      have eh58 := h.A 18 58
      have eh60 := h.A 20 60
      clear h; go_simp
      exact k _ _ P0
    · refine sr rfl fun av wq hUw h K k => ?_
      have eh61 := h.A 21 61
      clear h; go_simp
      exact k _ _ P0
    · refine sg (t := 62) rfl rfl fun av wq hUw h => ⟨h.A 22 62, fun K k => ?_⟩
      have eh9 := h.B 9 (g6.T 10 9)
      have eb0 := (g6.f 11 rfl rfl rfl rfl).up (h.W rfl)
      obtain ⟨ec0, ec1, ec2⟩ := eb0.c3 0 1 2
      clear h; go_simp
      exact k _ _ P0
    · refine sg (t := 62) rfl rfl fun av wq hUw h => ⟨h.A 22 62, fun K k => ?_⟩
      have eh1 := h.B 1 ((v6 1 rfl).trans ((v5 1 rfl).trans ((v4 1 rfl).trans ((v3 1 rfl).trans (g2.T 4 1)))))
      clear h; go_simp
      exact k _ _ P0
    · refine sg (t := 62) rfl rfl fun av wq hUw h => ⟨h.A 22 62, fun K k => ?_⟩
      have eh64 := h.A 24 64
      have eb0 := ((g2.f 5 rfl rfl rfl rfl).up ((((g3.W rfl).trans (g4.W rfl)).trans (g5.W rfl)).trans (g6.W rfl))).up (h.W rfl)
      obtain ⟨ec0, ec1, ec2⟩ := eb0.c3 4 5 6
      clear h; go_simp
      exact k _ _ P0
    · refine sg (t := 62) rfl rfl fun av wq hUw h => ⟨h.A 22 62, fun K k => ?_⟩
      have eh63 := h.A 23 63
      have eh65 := h.A 25 65
      clear h; go_simp
      exact k _ _ P0
    · refine sr rfl fun av wq hUw h K k => ?_
      have eh62 := h.A 22 62
      have eh66 := h.A 26 66
      clear h; go_simp
      exact k _ _ P0
    · refine sr rfl fun av wq hUw h K k => ?_
      have eh67 := h.A 27 67
      clear h; go_simp
      exact k _ _ P0
  refine end_of fun bt7 ac7 wd7 d7 z7 hU7 v7 g7 => ?_
  replace d7 := d7.trans d6; replace z7 := z7.trans z6
  clear d6 z6
  refine hK6 _ _ ?_
  have et0 := g7.T 28 0
  refine wp_ret ?_
  refine bodyPost_ret (v := .bool true) (by simp [results, Tryz.f11, go_sem, et0]) d7 ?_
  exact ⟨rfl, hU7⟩

end Go.Proofs.Klp
