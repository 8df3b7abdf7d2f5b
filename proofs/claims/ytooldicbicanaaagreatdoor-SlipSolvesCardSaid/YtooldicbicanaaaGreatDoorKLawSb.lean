/- The law SlipSolves: right numbers. -/
import Derived.Test.YtooldicbicanaaaGreatDoorKLawSa
namespace Go.Proofs.Klp
open Go.RowKit Go.Shelf
attribute [local go_sem ↓] Go.wp_at_zero Go.wp_at_succ

set_option maxRecDepth 100000 in
set_option maxHeartbeats 4000000 in
theorem solves_zero (f1 f2 f3 fo a1 a2 a3 ao b1 b2 b3 bo am bm : Rat) (w : World) (hE : Env w) (rf1 : rlen f1 ≤ 20) (rf2 : rlen f2 ≤ 20) (rf3 : rlen f3 ≤ 20) (rfo : rlen fo ≤ 20) (ra1 : rlen a1 ≤ 20) (ra2 : rlen a2 ≤ 20) (ra3 : rlen a3 ≤ 20) (rao : rlen ao ≤ 20) (rb1 : rlen b1 ≤ 20) (rb2 : rlen b2 ≤ 20) (rb3 : rlen b3 ≤ 20) (rbo : rlen bo ≤ 20) (ram : rlen am ≤ 20) (rbm : rlen bm ≤ 20) (hL : ([(rB f1, rB f2, rB f3), (rB a1, rB a2, rB a3), (rB b1, rB b2, rB b3)] : List Tri).any lgV = false) (hM : ¬ 8 < mx2 (mx2 (mx2 (mx2 ((rB fo).size : Int) ((rB ao).size : Int)) ((rB bo).size : Int)) ((rB am).size : Int)) ((rB bm).size : Int)) (hB : (([rB fo, rB ao, rB bo, rB am, rB bm] : List ByteArray).all okR && !(([(rB f1, rB f2, rB f3), (rB a1, rB a2, rB a3), (rB b1, rB b2, rB b3)] : List Tri).any badV)) = true) (hF : firstE [errN (okV (rB f1, rB f2, rB f3) && okR (rB fo)), errN (okV (rB a1, rB a2, rB a3) && okR (rB ao)), errN (([rB am] : List ByteArray).all okR), errN (okV (rB b1, rB b2, rB b3) && okR (rB bo)), errN (([rB bm] : List ByteArray).all okR)] = 0) (hZ : ([(rB f1, rB f2, rB f3), (rB a1, rB a2, rB a3), (rB b1, rB b2, rB b3)] : List Tri).any zV = true) :
    Calls Tryz.prog 3 #[.agg #[.string (rB f1), .string (rB f2), .string (rB f3), .string (rB fo), .string (rB a1), .string (rB a2), .string (rB a3), .string (rB ao), .string (rB b1), .string (rB b2), .string (rB b3), .string (rB bo)], .agg #[.string (rB am), .string (rB bm)]] w (Ret w (.bool true)) := by
  have HL := Lib.hid hL
  have HM := Lib.hid hM
  have HB := Lib.hid hB
  have HF := Lib.hid hF
  clear hL hM hB hF
  have HZ := Lib.hid hZ
  clear hZ
  go_enter Tryz.func3, Tryz.ntmps3
  refine enter_abs fun ac0 d0 z0 he0 => ?_
  have hU0 := Up.refl w
  have T0_0 := he0 0 _ rfl
  have T1_0 := he0 1 _ rfl
  replace z0 : ac0.tmps.size = 163 := z0
  clear he0
  refine wp_seq_k fun K0 hK0 => ?_
  refine region_line 163 (dso [2, 3, 4]) [0, 1, 999] [1, 1, 0] [] []
   [fun b => .pointer (some ⟨b, 0, none⟩), fun b => .pointer (some ⟨b, 0, none⟩), fun _ => .bool false]
   [Bw [.string (rB f1), .string (rB f2), .string (rB f3), .string (rB fo), .string (rB a1), .string (rB a2), .string (rB a3), .string (rB ao), .string (rB b1), .string (rB b2), .string (rB b3), .string (rB bo)], Bw [.string (rB am), .string (rB bm)], T0]
   [] ([] : List Nat) w z0 (by kernel_rfl) ⟨Bw.loc _, Bw.loc _, loc_true, trivial⟩ trivial (allB_of trivial) List.nodup_nil hU0 (allG_of trivial) (fun β hβ => ?_) ?_
  · refine sc ?_ (sc ?_ (sc ?_ (sn)))
    · refine sr rfl fun av wq hUw h K k => ?_
      have eh0 := h.B 0 T0_0
      clear h; go_simp
      exact k _ _ (PostN rfl rfl rfl rfl rfl)
    · refine sr rfl fun av wq hUw h K k => ?_
      have eh1 := h.B 1 T1_0
      clear h; go_simp
      exact k _ _ (PostN rfl rfl rfl rfl rfl)
    · refine sr rfl fun av wq hUw h K k => ?_
      clear h; go_simp
      exact k _ _ P0
  refine end_of fun bt1 ac1 wd1 d1 z1 hU1 v1 g1 => ?_
  replace d1 := d1.trans d0; replace z1 := z1.trans z0
  clear d0 z0
  refine hK0 _ _ ?_
  refine wp_seq_k fun K1 hK1 => ?_
  refine wp_seq_k fun K2 hK2 => ?_
  refine region_line 163 (dso [10, 11, 12, 13, 14, 15, 16, 17, 18, 19, 20, 21, 22, 23, 24, 25, 26, 27, 28, 29, 30, 31, 32, 33, 34, 35, 36, 37, 38, 39, 40, 41, 42, 43, 44, 45, 46, 47]) [999, 999, 999, 999, 999, 999, 999, 999, 999, 999, 999, 999, 12, 999, 999, 999, 999, 999, 999, 999, 999, 999, 999, 999, 999, 999, 999, 999, 999, 999, 999, 999, 999, 999, 999, 999, 999, 999] [0, 0, 0, 0, 0, 0, 0, 0, 0, 0, 0, 0, 1, 0, 0, 0, 0, 0, 0, 0, 0, 0, 0, 0, 0, 0, 0, 0, 0, 0, 0, 0, 0, 0, 0, 0, 0, 0] [] []
   [fun _ => .bool true, fun _ => .bool false, fun _ => .bool false, fun _ => .pointer (some ⟨(bt1 0), 0, none⟩), fun _ => .pointer (some ⟨(bt1 0), 0, none⟩), fun _ => .agg #[.string (rB f1), .string (rB f2), .string (rB f3)], fun _ => .pointer (some ⟨(bt1 0), 4, none⟩), fun _ => .pointer (some ⟨(bt1 0), 4, none⟩), fun _ => .agg #[.string (rB a1), .string (rB a2), .string (rB a3)], fun _ => .pointer (some ⟨(bt1 0), 8, none⟩), fun _ => .pointer (some ⟨(bt1 0), 8, none⟩), fun _ => .agg #[.string (rB b1), .string (rB b2), .string (rB b3)], fun b => .slice (some ⟨b, 0, none⟩) 3 3, fun _ => .bool true, fun _ => .bool false, fun _ => .bool false, fun _ => .bool false, fun _ => .pointer (some ⟨(bt1 0), 0, none⟩), fun _ => .pointer (some ⟨(bt1 0), 3, none⟩), fun _ => .string (rB fo), fun _ => .int .i64 ((rB fo).size : Int), fun _ => .pointer (some ⟨(bt1 0), 4, none⟩), fun _ => .pointer (some ⟨(bt1 0), 7, none⟩), fun _ => .string (rB ao), fun _ => .int .i64 ((rB ao).size : Int), fun _ => .pointer (some ⟨(bt1 0), 8, none⟩), fun _ => .pointer (some ⟨(bt1 0), 11, none⟩), fun _ => .string (rB bo), fun _ => .int .i64 ((rB bo).size : Int), fun _ => .pointer (some ⟨(bt1 1), 0, none⟩), fun _ => .string (rB am), fun _ => .int .i64 ((rB am).size : Int), fun _ => .pointer (some ⟨(bt1 1), 1, none⟩), fun _ => .string (rB bm), fun _ => .int .i64 ((rB bm).size : Int), fun _ => .int .i64 (mx2 (mx2 (mx2 (mx2 ((rB fo).size : Int) ((rB ao).size : Int)) ((rB bo).size : Int)) ((rB am).size : Int)) ((rB bm).size : Int)), fun _ => .bool false, fun _ => .bool false]
   [T0, T0, T0, T0, T0, T0, T0, T0, T0, T0, T0, T0, Bw [.string (rB f1), .string (rB f2), .string (rB f3), .string (rB a1), .string (rB a2), .string (rB a3), .string (rB b1), .string (rB b2), .string (rB b3)], T0, T0, T0, T0, T0, T0, T0, T0, T0, T0, T0, T0, T0, T0, T0, T0, T0, T0, T0, T0, T0, T0, T0, T0, T0]
   [] [(bt1 0), (bt1 1)] w z1 (by kernel_rfl) ⟨loc_true, loc_true, loc_true, loc_true, loc_true, loc_true, loc_true, loc_true, loc_true, loc_true, loc_true, loc_true, Bw.loc _, loc_true, loc_true, loc_true, loc_true, loc_true, loc_true, loc_true, loc_true, loc_true, loc_true, loc_true, loc_true, loc_true, loc_true, loc_true, loc_true, loc_true, loc_true, loc_true, loc_true, loc_true, loc_true, loc_true, loc_true, loc_true, trivial⟩ trivial g1.B g1.N hU1 (allG_of trivial) (fun β hβ => ?_) ?_
  · refine sc ?_ (sc ?_ (sc ?_ (sc ?_ (sc ?_ (sc ?_ (sc ?_ (sc ?_ (sc ?_ (sc ?_ (sc ?_ (sc ?_ (sc ?_ (sc ?_ (sc ?_ (sc ?_ (sc ?_ (sc ?_ (sc ?_ (sc ?_ (sc ?_ (sc ?_ (sc ?_ (sc ?_ (sc ?_ (sc ?_ (sc ?_ (sc ?_ (sc ?_ (sc ?_ (sc ?_ (sc ?_ (sc ?_ (sc ?_ (sc ?_ (sc ?_ (sc ?_ (sc ?_ (sn))))))))))))))))))))))))))))))))))))))
    · refine sr rfl fun av wq hUw h K k => ?_
      have hEw := hE.up hUw
      clear h; go_simp
      refine (law_known wq hEw).mono ?_
      rintro _ w2 ⟨rfl, hX⟩
      exact k _ _ (PD hX)
    · refine sr rfl fun av wq hUw h K k => ?_
      have eh10 := h.A 0 10
      clear h; go_simp
      exact k _ _ P0
    · refine sr rfl fun av wq hUw h K k => ?_
      have eh11 := h.A 1 11
      clear h; go_simp
      exact k _ _ P0
    · refine sg (t := 12) rfl rfl fun av wq hUw h => ⟨h.A 2 12, fun K k => ?_⟩
      have eh2 := h.B 2 (g1.T 0 2)
      clear h; go_simp
      exact k _ _ P0
    · refine sg (t := 12) rfl rfl fun av wq hUw h => ⟨h.A 2 12, fun K k => ?_⟩
      have eh13 := h.A 3 13
      clear h; go_simp
      exact k _ _ P0
    · refine sg (t := 12) rfl rfl fun av wq hUw h => ⟨h.A 2 12, fun K k => ?_⟩
      have eh14 := h.A 4 14
      have eb0 := (g1.f 0 rfl rfl rfl rfl).up (h.W rfl)
      obtain ⟨ec0, ec1, ec2⟩ := eb0.c3 0 1 2
      clear h; go_simp
      exact k _ _ P0
    · refine sg (t := 12) rfl rfl fun av wq hUw h => ⟨h.A 2 12, fun K k => ?_⟩
      have eh2 := h.B 2 (g1.T 0 2)
      clear h; go_simp
      exact k _ _ P0
    · refine sg (t := 12) rfl rfl fun av wq hUw h => ⟨h.A 2 12, fun K k => ?_⟩
      have eh16 := h.A 6 16
      clear h; go_simp
      exact k _ _ P0
    · refine sg (t := 12) rfl rfl fun av wq hUw h => ⟨h.A 2 12, fun K k => ?_⟩
      have eh17 := h.A 7 17
      have eb0 := (g1.f 0 rfl rfl rfl rfl).up (h.W rfl)
      obtain ⟨ec0, ec1, ec2⟩ := eb0.c3 4 5 6
      clear h; go_simp
      exact k _ _ P0
    · refine sg (t := 12) rfl rfl fun av wq hUw h => ⟨h.A 2 12, fun K k => ?_⟩
      have eh2 := h.B 2 (g1.T 0 2)
      clear h; go_simp
      exact k _ _ P0
    · refine sg (t := 12) rfl rfl fun av wq hUw h => ⟨h.A 2 12, fun K k => ?_⟩
      have eh19 := h.A 9 19
      clear h; go_simp
      exact k _ _ P0
    · refine sg (t := 12) rfl rfl fun av wq hUw h => ⟨h.A 2 12, fun K k => ?_⟩
      have eh20 := h.A 10 20
      have eb0 := (g1.f 0 rfl rfl rfl rfl).up (h.W rfl)
      obtain ⟨ec0, ec1, ec2⟩ := eb0.c3 8 9 10
      clear h; go_simp
      exact k _ _ P0
    · refine sg (t := 12) rfl rfl fun av wq hUw h => ⟨h.A 2 12, fun K k => ?_⟩
      have eh15 := h.A 5 15
      have eh18 := h.A 8 18
      have eh21 := h.A 11 21
      clear h; go_simp
      exact k _ _ (PostN rfl rfl rfl rfl rfl)
    · refine sg (t := 12) rfl rfl fun av wq hUw h => ⟨h.A 2 12, fun K k => ?_⟩
      have eh22 := h.A 12 22
      have hEw := hE.up hUw
      have eb1 := h.F 12
      have hmeb1 := Bw.slv (L := [(rB f1, rB f2, rB f3), (rB a1, rB a2, rB a3), (rB b1, rB b2, rB b3)]) eb1 rfl
      have hkn : ([(rB f1, rB f2, rB f3), (rB a1, rB a2, rB a3), (rB b1, rB b2, rB b3)] : List Tri).any lgV = false := HL.out
      have hcc := law_brief [(rB f1, rB f2, rB f3), (rB a1, rB a2, rB a3), (rB b1, rB b2, rB b3)] (β 12) 3 wq hEw hmeb1 rfl (by decide)
      rw [hkn] at hcc
      clear hkn
      clear h; go_simp
      refine (hcc).mono ?_
      rintro _ w2 ⟨rfl, hX⟩
      exact k _ _ (PD hX)
    · refine sg (t := 12) rfl rfl fun av wq hUw h => ⟨h.A 2 12, fun K k => ?_⟩
      have eh23 := h.A 13 23
      clear h; go_simp
      exact k _ _ P0
    · refine sr rfl fun av wq hUw h K k => ?_
      have eh12 := h.A 2 12
      have eh24 := h.A 14 24
      clear h; go_simp
      exact k _ _ P0
    · refine sr rfl fun av wq hUw h K k => ?_
      have eh25 := h.A 15 25
      clear h; go_simp
      exact k _ _ P0
    · refine sg (t := 26) rfl rfl fun av wq hUw h => ⟨h.A 16 26, fun K k => ?_⟩
      have eh2 := h.B 2 (g1.T 0 2)
      clear h; go_simp
      exact k _ _ P0
    · refine sg (t := 26) rfl rfl fun av wq hUw h => ⟨h.A 16 26, fun K k => ?_⟩
      have eh27 := h.A 17 27
      clear h; go_simp
      exact k _ _ P0
    · refine sg (t := 26) rfl rfl fun av wq hUw h => ⟨h.A 16 26, fun K k => ?_⟩
      have eh28 := h.A 18 28
      have eb0 := (g1.f 0 rfl rfl rfl rfl).up (h.W rfl)
      have ec0 := eb0.cell 3 rfl
      clear h; go_simp
      exact k _ _ P0
    · refine sg (t := 26) rfl rfl fun av wq hUw h => ⟨h.A 16 26, fun K k => ?_⟩
      have eh29 := h.A 19 29
      clear h; go_simp
      exact k _ _ P0
    · refine sg (t := 26) rfl rfl fun av wq hUw h => ⟨h.A 16 26, fun K k => ?_⟩
      have eh2 := h.B 2 (g1.T 0 2)
      clear h; go_simp
      exact k _ _ P0
    · refine sg (t := 26) rfl rfl fun av wq hUw h => ⟨h.A 16 26, fun K k => ?_⟩
      have eh31 := h.A 21 31
      clear h; go_simp
      exact k _ _ P0
    · refine sg (t := 26) rfl rfl fun av wq hUw h => ⟨h.A 16 26, fun K k => ?_⟩
      have eh32 := h.A 22 32
      have eb0 := (g1.f 0 rfl rfl rfl rfl).up (h.W rfl)
      have ec0 := eb0.cell 7 rfl
      clear h; go_simp
      exact k _ _ P0
    · refine sg (t := 26) rfl rfl fun av wq hUw h => ⟨h.A 16 26, fun K k => ?_⟩
      have eh33 := h.A 23 33
      clear h; go_simp
      exact k _ _ P0
    · refine sg (t := 26) rfl rfl fun av wq hUw h => ⟨h.A 16 26, fun K k => ?_⟩
      have eh2 := h.B 2 (g1.T 0 2)
      clear h; go_simp
      exact k _ _ P0
    · refine sg (t := 26) rfl rfl fun av wq hUw h => ⟨h.A 16 26, fun K k => ?_⟩
      have eh35 := h.A 25 35
      clear h; go_simp
      exact k _ _ P0
    · refine sg (t := 26) rfl rfl fun av wq hUw h => ⟨h.A 16 26, fun K k => ?_⟩
      have eh36 := h.A 26 36
      have eb0 := (g1.f 0 rfl rfl rfl rfl).up (h.W rfl)
      have ec0 := eb0.cell 11 rfl
      clear h; go_simp
      exact k _ _ P0
    · refine sg (t := 26) rfl rfl fun av wq hUw h => ⟨h.A 16 26, fun K k => ?_⟩
      have eh37 := h.A 27 37
      clear h; go_simp
      exact k _ _ P0
    · refine sg (t := 26) rfl rfl fun av wq hUw h => ⟨h.A 16 26, fun K k => ?_⟩
      have eh3 := h.B 3 (g1.T 1 3)
      clear h; go_simp
      exact k _ _ P0
    · refine sg (t := 26) rfl rfl fun av wq hUw h => ⟨h.A 16 26, fun K k => ?_⟩
      have eh39 := h.A 29 39
      have eb0 := (g1.f 1 rfl rfl rfl rfl).up (h.W rfl)
      have ec0 := eb0.cell 0 rfl
      clear h; go_simp
      exact k _ _ P0
    · refine sg (t := 26) rfl rfl fun av wq hUw h => ⟨h.A 16 26, fun K k => ?_⟩
      have eh40 := h.A 30 40
      clear h; go_simp
      exact k _ _ P0
    · refine sg (t := 26) rfl rfl fun av wq hUw h => ⟨h.A 16 26, fun K k => ?_⟩
      have eh3 := h.B 3 (g1.T 1 3)
      clear h; go_simp
      exact k _ _ P0
    · refine sg (t := 26) rfl rfl fun av wq hUw h => ⟨h.A 16 26, fun K k => ?_⟩
      have eh42 := h.A 32 42
      have eb0 := (g1.f 1 rfl rfl rfl rfl).up (h.W rfl)
      have ec0 := eb0.cell 1 rfl
      clear h; go_simp
      exact k _ _ P0
    · refine sg (t := 26) rfl rfl fun av wq hUw h => ⟨h.A 16 26, fun K k => ?_⟩
      have eh43 := h.A 33 43
      clear h; go_simp
      exact k _ _ P0
    · refine sg (t := 26) rfl rfl fun av wq hUw h => ⟨h.A 16 26, fun K k => ?_⟩
      have eh30 := h.A 20 30
      have eh34 := h.A 24 34
      have eh38 := h.A 28 38
      have eh41 := h.A 31 41
      have eh44 := h.A 34 44
      clear h; go_simp
      exact k _ _ P0
    · refine sg (t := 26) rfl rfl fun av wq hUw h => ⟨h.A 16 26, fun K k => ?_⟩
      have eh45 := h.A 35 45
      have hmx := HM.out; have hmy := decide_eq_false hmx
      clear h; go_simp
      exact k _ _ P0
    · refine sr rfl fun av wq hUw h K k => ?_
      have eh26 := h.A 16 26
      have eh46 := h.A 36 46
      clear h; go_simp
      exact k _ _ P0
  refine end_of fun bt2 ac2 wd2 d2 z2 hU2 v2 g2 => ?_
  replace d2 := d2.trans d1; replace z2 := z2.trans z1
  clear d1 z1
  refine hK2 _ _ ?_
  refine wp_cond_false (eval_of (g2.T 37 47)) ?_
  refine wp_skip ?_
  refine hK1 _ _ ?_
  refine wp_seq_k fun K3 hK3 => ?_
  refine region_line 163 (dso [50, 51, 52, 53, 54, 55, 56, 57, 58, 59, 60, 61, 62, 49, 63, 64, 5, 999, 6]) [999, 999, 999, 999, 999, 999, 999, 999, 999, 999, 999, 999, 999, 999, 999, 999, 16, 16, 999] [0, 0, 0, 0, 0, 0, 0, 0, 0, 0, 0, 0, 0, 0, 0, 0, 1, 2, 0] [999, 999, 999, 999, 999, 999, 999, 999, 999, 999, 999, 999, 999, 999, 999, 999, 17, 999, 999] []
   [fun _ => .pointer (some ⟨(bt1 0), 0, none⟩), fun _ => .agg #[.string (rB f1), .string (rB f2), .string (rB f3), .string (rB fo)], fun _ => .pointer (some ⟨(bt1 0), 4, none⟩), fun _ => .agg #[.string (rB a1), .string (rB a2), .string (rB a3), .string (rB ao)], fun _ => .pointer (some ⟨(bt1 1), 0, none⟩), fun _ => .string (rB am), fun _ => .agg #[.string (rB a1), .string (rB a2), .string (rB a3), .string (rB ao), .string (rB am)], fun _ => .pointer (some ⟨(bt1 0), 8, none⟩), fun _ => .agg #[.string (rB b1), .string (rB b2), .string (rB b3), .string (rB bo)], fun _ => .pointer (some ⟨(bt1 1), 1, none⟩), fun _ => .string (rB bm), fun _ => .agg #[.string (rB b1), .string (rB b2), .string (rB b3), .string (rB bo), .string (rB bm)], fun _ => .tuple #[.agg #[.string ⟨#[]⟩, .string ⟨#[]⟩, .string ⟨#[]⟩], .int .i64 17], fun _ => .tuple #[.agg #[.string ⟨#[]⟩, .string ⟨#[]⟩, .string ⟨#[]⟩], .int .i64 17], fun _ => .agg #[.string ⟨#[]⟩, .string ⟨#[]⟩, .string ⟨#[]⟩], fun _ => .int .i64 17, fun b => .pointer (some ⟨b, 0, none⟩), fun _ => undef, fun _ => .int .i64 17]
   [T0, T0, T0, T0, T0, T0, T0, T0, T0, T0, T0, T0, T0, T0, T0, T0, Bw [.string ⟨#[]⟩, .string ⟨#[]⟩, .string ⟨#[]⟩], Bw [.string ⟨#[]⟩, .string ⟨#[]⟩, .string ⟨#[]⟩], T0]
   [] [(bt1 0), (bt1 1), (bt2 12)] w z2 (by kernel_rfl) ⟨loc_true, loc_true, loc_true, loc_true, loc_true, loc_true, loc_true, loc_true, loc_true, loc_true, loc_true, loc_true, loc_true, loc_true, loc_true, loc_true, Bw.loc _, Bw.loc _, loc_true, trivial⟩ trivial g2.B g2.N hU2 (allG_of trivial) (fun β hβ => ?_) ?_
  · refine sc ?_ (sc ?_ (sc ?_ (sc ?_ (sc ?_ (sc ?_ (sc ?_ (sc ?_ (sc ?_ (sc ?_ (sc ?_ (sc ?_ (sc ?_ (sc ?_ (sc ?_ (sc ?_ (sc ?_ (sc ?_ (sc ?_ (sn)))))))))))))))))))
    · refine sr rfl fun av wq hUw h K k => ?_
      have eh2 := h.B 2 ((v2 2 rfl).trans (g1.T 0 2))
      clear h; go_simp
      exact k _ _ P0
    · refine sr rfl fun av wq hUw h K k => ?_
      have eh50 := h.A 0 50
      have eb0 := ((g1.f 0 rfl rfl rfl rfl).up (g2.W rfl)).up (h.W rfl)
      obtain ⟨ec0, ec1, ec2⟩ := eb0.c3 0 1 2
      have ec3 := eb0.cell 3 rfl
      clear h; go_simp
      exact k _ _ P0
    · refine sr rfl fun av wq hUw h K k => ?_
      have eh2 := h.B 2 ((v2 2 rfl).trans (g1.T 0 2))
      clear h; go_simp
      exact k _ _ P0
    · refine sr rfl fun av wq hUw h K k => ?_
      have eh52 := h.A 2 52
      have eb0 := ((g1.f 0 rfl rfl rfl rfl).up (g2.W rfl)).up (h.W rfl)
      obtain ⟨ec0, ec1, ec2⟩ := eb0.c3 4 5 6
      have ec3 := eb0.cell 7 rfl
      clear h; go_simp
      exact k _ _ P0
    · refine sr rfl fun av wq hUw h K k => ?_
      have eh3 := h.B 3 ((v2 3 rfl).trans (g1.T 1 3))
      clear h; go_simp
      exact k _ _ P0
    · refine sr rfl fun av wq hUw h K k => ?_
      have eh54 := h.A 4 54
      have eb0 := ((g1.f 1 rfl rfl rfl rfl).up (g2.W rfl)).up (h.W rfl)
      have ec0 := eb0.cell 0 rfl
      clear h; go_simp
      exact k _ _ P0
    · refine sr rfl fun av wq hUw h K k => ?_
      have eh53 := h.A 3 53
      have eh55 := h.A 5 55
      clear h; go_simp
      exact k _ _ P0
    · refine sr rfl fun av wq hUw h K k => ?_
      have eh2 := h.B 2 ((v2 2 rfl).trans (g1.T 0 2))
      clear h; go_simp
      exact k _ _ P0
    · refine sr rfl fun av wq hUw h K k => ?_
      have eh57 := h.A 7 57
      have eb0 := ((g1.f 0 rfl rfl rfl rfl).up (g2.W rfl)).up (h.W rfl)
      obtain ⟨ec0, ec1, ec2⟩ := eb0.c3 8 9 10
      have ec3 := eb0.cell 11 rfl
      clear h; go_simp
      exact k _ _ P0
    · refine sr rfl fun av wq hUw h K k => ?_
      have eh3 := h.B 3 ((v2 3 rfl).trans (g1.T 1 3))
      clear h; go_simp
      exact k _ _ P0
    · refine sr rfl fun av wq hUw h K k => ?_
      have eh59 := h.A 9 59
      have eb0 := ((g1.f 1 rfl rfl rfl rfl).up (g2.W rfl)).up (h.W rfl)
      have ec0 := eb0.cell 1 rfl
      clear h; go_simp
      exact k _ _ P0
    · refine sr rfl fun av wq hUw h K k => ?_
      have eh58 := h.A 8 58
      have eh60 := h.A 10 60
      clear h; go_simp
      exact k _ _ P0
    · refine sr rfl fun av wq hUw h K k => ?_
      have eh51 := h.A 1 51
      have eh56 := h.A 6 56
      have eh61 := h.A 11 61
      have hEw := hE.up hUw
      clear h; go_simp
      refine (slip_solve_zero f1 f2 f3 fo a1 a2 a3 ao b1 b2 b3 bo am bm wq hEw rf1 rf2 rf3 rfo ra1 ra2 ra3 rao rb1 rb2 rb3 rbo ram rbm HF.out HZ.out).mono ?_
      rintro _ w2 ⟨rfl, hX⟩
      exact k _ _ (PD hX)
    · refine sr rfl fun av wq hUw h K k => ?_
      have eh62 := h.A 12 62
      clear h; go_simp
      exact k _ _ P0
    · refine sr rfl fun av wq hUw h K k => ?_
      have eh49 := h.A 13 49
      clear h; go_simp
      exact k _ _ P0
    · refine sr rfl fun av wq hUw h K k => ?_
      have eh49 := h.A 13 49
      clear h; go_simp
      exact k _ _ P0
    · refine sr rfl fun av wq hUw h K k => ?_
      clear h; go_simp
      exact k _ _ (PostN rfl rfl rfl rfl rfl)
    · refine sr rfl fun av wq hUw h K k => ?_
      have eh5 := h.A 16 5
      have eh63 := h.A 14 63
      have eb0 := h.F 16
      obtain ⟨ec0, ec1, ec2⟩ := eb0.c3 0 1 2; obtain ⟨ef0, ef1, ef2⟩ := eb0.f3 0 1 2
      clear h; go_simp
      exact k _ _ (PostS rfl rfl rfl rfl rfl rfl ((((Sto.refl _ _).set 0 _).set 1 _).set 2 _) ((((eb0).set 0 rfl _).set 1 rfl _).set 2 rfl _))
    · refine sr rfl fun av wq hUw h K k => ?_
      have eh64 := h.A 15 64
      clear h; go_simp
      exact k _ _ P0
  refine end_of fun bt3 ac3 wd3 d3 z3 hU3 v3 g3 => ?_
  replace d3 := d3.trans d2; replace z3 := z3.trans z2
  clear d2 z2
  refine hK3 _ _ ?_
  refine wp_seq_k fun K4 hK4 => ?_
  refine region_line 163 (dso [65, 66, 67, 7]) [999, 999, 999, 999] [0, 0, 0, 0] [] []
   [fun _ => .agg #[.string ⟨#[]⟩, .string ⟨#[]⟩, .string ⟨#[]⟩], fun _ => .agg #[.string ⟨#[]⟩, .string ⟨#[]⟩, .string ⟨#[]⟩], fun _ => .bool true, fun _ => .bool true]
   [T0, T0, T0, T0]
   [] [(bt1 0), (bt1 1), (bt2 12), (bt3 16)] w z3 (by kernel_rfl) ⟨loc_true, loc_true, loc_true, loc_true, trivial⟩ trivial g3.B g3.N hU3 (allG_of trivial) (fun β hβ => ?_) ?_
  · refine sc ?_ (sc ?_ (sc ?_ (sc ?_ (sn))))
    · refine sr rfl fun av wq hUw h K k => ?_
      have eh5 := h.B 5 (g3.T 16 5)
      have eb0 := (g3.f 17 rfl rfl rfl rfl).up (h.W rfl)
      obtain ⟨ec0, ec1, ec2⟩ := eb0.c3 0 1 2
      clear h; go_simp
      exact k _ _ P0
    · refine sr rfl fun av wq hUw h K k => ?_
      clear h; go_simp
      exact k _ _ P0
    · refine sr rfl fun av wq hUw h K k => ?_
      have eh65 := h.A 0 65
      have eh66 := h.A 1 66
      clear h; go_simp
      exact k _ _ P0
    · refine sr rfl fun av wq hUw h K k => ?_
      have eh67 := h.A 2 67
      clear h; go_simp
      exact k _ _ P0
  refine end_of fun bt4 ac4 wd4 d4 z4 hU4 v4 g4 => ?_
  replace d4 := d4.trans d3; replace z4 := z4.trans z3
  clear d3 z3
  refine hK4 _ _ ?_
  refine wp_seq_k fun K5 hK5 => ?_
  refine region_line 163 (dso [68, 69, 70, 71, 72, 73, 74, 75, 76, 77, 8]) [999, 999, 999, 999, 999, 999, 999, 999, 999, 9, 9] [0, 0, 0, 0, 0, 0, 0, 0, 0, 1, 0] [] []
   [fun _ => .pointer (some ⟨(bt1 0), 0, none⟩), fun _ => .pointer (some ⟨(bt1 0), 0, none⟩), fun _ => .agg #[.string (rB f1), .string (rB f2), .string (rB f3)], fun _ => .pointer (some ⟨(bt1 0), 4, none⟩), fun _ => .pointer (some ⟨(bt1 0), 4, none⟩), fun _ => .agg #[.string (rB a1), .string (rB a2), .string (rB a3)], fun _ => .pointer (some ⟨(bt1 0), 8, none⟩), fun _ => .pointer (some ⟨(bt1 0), 8, none⟩), fun _ => .agg #[.string (rB b1), .string (rB b2), .string (rB b3)], fun b => .slice (some ⟨b, 0, none⟩) 3 3, fun b => .slice (some ⟨b, 0, none⟩) 3 3]
   [T0, T0, T0, T0, T0, T0, T0, T0, T0, Bw [.string (rB f1), .string (rB f2), .string (rB f3), .string (rB a1), .string (rB a2), .string (rB a3), .string (rB b1), .string (rB b2), .string (rB b3)], T0]
   [] [(bt1 0), (bt1 1), (bt2 12), (bt3 16)] w z4 (by kernel_rfl) ⟨loc_true, loc_true, loc_true, loc_true, loc_true, loc_true, loc_true, loc_true, loc_true, Bw.loc _, loc_true, trivial⟩ trivial g4.B g4.N hU4 (allG_of trivial) (fun β hβ => ?_) ?_
  · refine sc ?_ (sc ?_ (sc ?_ (sc ?_ (sc ?_ (sc ?_ (sc ?_ (sc ?_ (sc ?_ (sc ?_ (sc ?_ (sn)))))))))))
    · refine sr rfl fun av wq hUw h K k => ?_
      have eh2 := h.B 2 ((v4 2 rfl).trans ((v3 2 rfl).trans ((v2 2 rfl).trans (g1.T 0 2))))
      clear h; go_simp
      exact k _ _ P0
    · refine sr rfl fun av wq hUw h K k => ?_
      have eh68 := h.A 0 68
      clear h; go_simp
      exact k _ _ P0
    · refine sr rfl fun av wq hUw h K k => ?_
      have eh69 := h.A 1 69
      have eb0 := ((g1.f 0 rfl rfl rfl rfl).up (((g2.W rfl).trans (g3.W rfl)).trans (g4.W rfl))).up (h.W rfl)
      obtain ⟨ec0, ec1, ec2⟩ := eb0.c3 0 1 2
      clear h; go_simp
      exact k _ _ P0
    · refine sr rfl fun av wq hUw h K k => ?_
      have eh2 := h.B 2 ((v4 2 rfl).trans ((v3 2 rfl).trans ((v2 2 rfl).trans (g1.T 0 2))))
      clear h; go_simp
      exact k _ _ P0
    · refine sr rfl fun av wq hUw h K k => ?_
      have eh71 := h.A 3 71
      clear h; go_simp
      exact k _ _ P0
    · refine sr rfl fun av wq hUw h K k => ?_
      have eh72 := h.A 4 72
      have eb0 := ((g1.f 0 rfl rfl rfl rfl).up (((g2.W rfl).trans (g3.W rfl)).trans (g4.W rfl))).up (h.W rfl)
      obtain ⟨ec0, ec1, ec2⟩ := eb0.c3 4 5 6
      clear h; go_simp
      exact k _ _ P0
    · refine sr rfl fun av wq hUw h K k => ?_
      have eh2 := h.B 2 ((v4 2 rfl).trans ((v3 2 rfl).trans ((v2 2 rfl).trans (g1.T 0 2))))
      clear h; go_simp
      exact k _ _ P0
    · refine sr rfl fun av wq hUw h K k => ?_
      have eh74 := h.A 6 74
      clear h; go_simp
      exact k _ _ P0
    · refine sr rfl fun av wq hUw h K k => ?_
      have eh75 := h.A 7 75
      have eb0 := ((g1.f 0 rfl rfl rfl rfl).up (((g2.W rfl).trans (g3.W rfl)).trans (g4.W rfl))).up (h.W rfl)
      obtain ⟨ec0, ec1, ec2⟩ := eb0.c3 8 9 10
      clear h; go_simp
      exact k _ _ P0
    · refine sr rfl fun av wq hUw h K k => ?_
      have eh70 := h.A 2 70
      have eh73 := h.A 5 73
      have eh76 := h.A 8 76
      clear h; go_simp
      exact k _ _ (PostN rfl rfl rfl rfl rfl)
    · refine sr rfl fun av wq hUw h K k => ?_
      have eh77 := h.A 9 77
      clear h; go_simp
      exact k _ _ P0
  refine end_of fun bt5 ac5 wd5 d5 z5 hU5 v5 g5 => ?_
  replace d5 := d5.trans d4; replace z5 := z5.trans z4
  clear d4 z4
  refine hK5 _ _ ?_
  refine wp_seq_k fun K6 hK6 => ?_
  refine wp_block ?_
  refine wp_seq_k fun K7 hK7 => ?_
  refine region_line 163 (dso [79, 80, 81, 82, 83, 84, 85, 86, 87, 88, 89, 90, 91, 92, 93, 94, 95, 78]) [999, 999, 999, 999, 999, 999, 999, 999, 999, 999, 999, 999, 999, 999, 14, 999, 999, 999] [0, 0, 0, 0, 0, 0, 0, 0, 0, 0, 0, 0, 0, 0, 1, 0, 0, 0] [] []
   [fun _ => .slice (some ⟨(bt5 9), 0, none⟩) 3 3, fun _ => .pointer (some ⟨(bt1 0), 0, none⟩), fun _ => .pointer (some ⟨(bt1 0), 3, none⟩), fun _ => .string (rB fo), fun _ => .pointer (some ⟨(bt1 0), 4, none⟩), fun _ => .pointer (some ⟨(bt1 0), 7, none⟩), fun _ => .string (rB ao), fun _ => .pointer (some ⟨(bt1 0), 8, none⟩), fun _ => .pointer (some ⟨(bt1 0), 11, none⟩), fun _ => .string (rB bo), fun _ => .pointer (some ⟨(bt1 1), 0, none⟩), fun _ => .string (rB am), fun _ => .pointer (some ⟨(bt1 1), 1, none⟩), fun _ => .string (rB bm), fun b => .slice (some ⟨b, 0, none⟩) 5 5, fun _ => .bool true, fun _ => .bool false, fun _ => .bool false]
   [T0, T0, T0, T0, T0, T0, T0, T0, T0, T0, T0, T0, T0, T0, Bw [.string (rB fo), .string (rB ao), .string (rB bo), .string (rB am), .string (rB bm)], T0, T0, T0]
   [] [(bt1 0), (bt1 1), (bt2 12), (bt3 16), (bt5 9)] w z5 (by kernel_rfl) ⟨loc_true, loc_true, loc_true, loc_true, loc_true, loc_true, loc_true, loc_true, loc_true, loc_true, loc_true, loc_true, loc_true, loc_true, Bw.loc _, loc_true, loc_true, loc_true, trivial⟩ trivial g5.B g5.N hU5 (allG_of trivial) (fun β hβ => ?_) ?_
  · refine sc ?_ (sc ?_ (sc ?_ (sc ?_ (sc ?_ (sc ?_ (sc ?_ (sc ?_ (sc ?_ (sc ?_ (sc ?_ (sc ?_ (sc ?_ (sc ?_ (sc ?_ (sc ?_ (sc ?_ (sc ?_ (sn))))))))))))))))))
    · refine sr rfl fun av wq hUw h K k => ?_
      have eh8 := h.B 8 (g5.T 10 8)
      clear h; go_simp
      exact k _ _ P0
    · refine sr rfl fun av wq hUw h K k => ?_
      have eh2 := h.B 2 ((v5 2 rfl).trans ((v4 2 rfl).trans ((v3 2 rfl).trans ((v2 2 rfl).trans (g1.T 0 2)))))
      clear h; go_simp
      exact k _ _ P0
    · refine sr rfl fun av wq hUw h K k => ?_
      have eh80 := h.A 1 80
      clear h; go_simp
      exact k _ _ P0
    · refine sr rfl fun av wq hUw h K k => ?_
      have eh81 := h.A 2 81
      have eb0 := ((g1.f 0 rfl rfl rfl rfl).up ((((g2.W rfl).trans (g3.W rfl)).trans (g4.W rfl)).trans (g5.W rfl))).up (h.W rfl)
      have ec0 := eb0.cell 3 rfl
      clear h; go_simp
      exact k _ _ P0
    · refine sr rfl fun av wq hUw h K k => ?_
      have eh2 := h.B 2 ((v5 2 rfl).trans ((v4 2 rfl).trans ((v3 2 rfl).trans ((v2 2 rfl).trans (g1.T 0 2)))))
      clear h; go_simp
      exact k _ _ P0
    · refine sr rfl fun av wq hUw h K k => ?_
      have eh83 := h.A 4 83
      clear h; go_simp
      exact k _ _ P0
    · refine sr rfl fun av wq hUw h K k => ?_
      have eh84 := h.A 5 84
      have eb0 := ((g1.f 0 rfl rfl rfl rfl).up ((((g2.W rfl).trans (g3.W rfl)).trans (g4.W rfl)).trans (g5.W rfl))).up (h.W rfl)
      have ec0 := eb0.cell 7 rfl
      clear h; go_simp
      exact k _ _ P0
    · refine sr rfl fun av wq hUw h K k => ?_
      have eh2 := h.B 2 ((v5 2 rfl).trans ((v4 2 rfl).trans ((v3 2 rfl).trans ((v2 2 rfl).trans (g1.T 0 2)))))
      clear h; go_simp
      exact k _ _ P0
    · refine sr rfl fun av wq hUw h K k => ?_
      have eh86 := h.A 7 86
      clear h; go_simp
      exact k _ _ P0
    · refine sr rfl fun av wq hUw h K k => ?_
      have eh87 := h.A 8 87
      have eb0 := ((g1.f 0 rfl rfl rfl rfl).up ((((g2.W rfl).trans (g3.W rfl)).trans (g4.W rfl)).trans (g5.W rfl))).up (h.W rfl)
      have ec0 := eb0.cell 11 rfl
      clear h; go_simp
      exact k _ _ P0
    · refine sr rfl fun av wq hUw h K k => ?_
      have eh3 := h.B 3 ((v5 3 rfl).trans ((v4 3 rfl).trans ((v3 3 rfl).trans ((v2 3 rfl).trans (g1.T 1 3)))))
      clear h; go_simp
      exact k _ _ P0
    · refine sr rfl fun av wq hUw h K k => ?_
      have eh89 := h.A 10 89
      have eb0 := ((g1.f 1 rfl rfl rfl rfl).up ((((g2.W rfl).trans (g3.W rfl)).trans (g4.W rfl)).trans (g5.W rfl))).up (h.W rfl)
      have ec0 := eb0.cell 0 rfl
      clear h; go_simp
      exact k _ _ P0
    · refine sr rfl fun av wq hUw h K k => ?_
      have eh3 := h.B 3 ((v5 3 rfl).trans ((v4 3 rfl).trans ((v3 3 rfl).trans ((v2 3 rfl).trans (g1.T 1 3)))))
      clear h; go_simp
      exact k _ _ P0
    · refine sr rfl fun av wq hUw h K k => ?_
      have eh91 := h.A 12 91
      have eb0 := ((g1.f 1 rfl rfl rfl rfl).up ((((g2.W rfl).trans (g3.W rfl)).trans (g4.W rfl)).trans (g5.W rfl))).up (h.W rfl)
      have ec0 := eb0.cell 1 rfl
      clear h; go_simp
      exact k _ _ P0
    · refine sr rfl fun av wq hUw h K k => ?_
      have eh82 := h.A 3 82
      have eh85 := h.A 6 85
      have eh88 := h.A 9 88
      have eh90 := h.A 11 90
      have eh92 := h.A 13 92
      clear h; go_simp
      exact k _ _ (PostN rfl rfl rfl rfl rfl)
    · refine sr rfl fun av wq hUw h K k => ?_
      have eh79 := h.A 0 79
      have eh93 := h.A 14 93
      have hEw := hE.up hUw
      have eb1 := (g5.f 9 rfl rfl rfl rfl).up (h.W rfl)
      have hmeb1 := Bw.slv (L := [(rB f1, rB f2, rB f3), (rB a1, rB a2, rB a3), (rB b1, rB b2, rB b3)]) eb1 rfl
      have eb3 := h.F 14
      have hmeb3 := Bw.sls (L := [rB fo, rB ao, rB bo, rB am, rB bm]) eb3 rfl
      have hkn : (([rB fo, rB ao, rB bo, rB am, rB bm] : List ByteArray).all okR && !(([(rB f1, rB f2, rB f3), (rB a1, rB a2, rB a3), (rB b1, rB b2, rB b3)] : List Tri).any badV)) = true := HB.out
      have hcc := law_numbers [(rB f1, rB f2, rB f3), (rB a1, rB a2, rB a3), (rB b1, rB b2, rB b3)] [rB fo, rB ao, rB bo, rB am, rB bm] (bt5 9) (β 14) 3 5 wq hEw hmeb1 hmeb3 rfl rfl (mem_cons_of ⟨(rB_le (Nat.le_trans rf1 (by decide))), (rB_le (Nat.le_trans rf2 (by decide))), (rB_le (Nat.le_trans rf3 (by decide)))⟩ (mem_cons_of ⟨(rB_le (Nat.le_trans ra1 (by decide))), (rB_le (Nat.le_trans ra2 (by decide))), (rB_le (Nat.le_trans ra3 (by decide)))⟩ (mem_cons_of ⟨(rB_le (Nat.le_trans rb1 (by decide))), (rB_le (Nat.le_trans rb2 (by decide))), (rB_le (Nat.le_trans rb3 (by decide)))⟩ (fun _ h => absurd h List.not_mem_nil)))) (mem_cons_of (rB_le (Nat.le_trans rfo (by decide))) (mem_cons_of (rB_le (Nat.le_trans rao (by decide))) (mem_cons_of (rB_le (Nat.le_trans rbo (by decide))) (mem_cons_of (rB_le (Nat.le_trans ram (by decide))) (mem_cons_of (rB_le (Nat.le_trans rbm (by decide))) (fun _ h => absurd h List.not_mem_nil)))))) (by decide) (by decide)
      rw [hkn] at hcc
      clear hkn
      clear h; go_simp
      refine (hcc).mono ?_
      rintro _ w2 ⟨rfl, hX⟩
      exact k _ _ (PD hX)
    · refine sr rfl fun av wq hUw h K k => ?_
      have eh94 := h.A 15 94
      clear h; go_simp
      exact k _ _ P0
    · refine sr rfl fun av wq hUw h K k => ?_
      have eh95 := h.A 16 95
      clear h; go_simp
      exact k _ _ P0
  refine end_of fun bt6 ac6 wd6 d6 z6 hU6 v6 g6 => ?_
  replace d6 := d6.trans d5; replace z6 := z6.trans z5
  clear d5 z5
  refine hK7 _ _ ?_
  refine wp_cond_false (eval_of (g6.T 17 78)) ?_
  refine wp_seq_k fun K8 hK8 => ?_
  refine region_line 163 (dso [102, 103, 101]) [999, 999, 999] [0, 0, 0] [] []
   [fun _ => .slice (some ⟨(bt5 9), 0, none⟩) 3 3, fun _ => .bool true, fun _ => .bool true]
   [T0, T0, T0]
   [] [(bt1 0), (bt1 1), (bt2 12), (bt3 16), (bt5 9), (bt6 14)] w z6 (by kernel_rfl) ⟨loc_true, loc_true, loc_true, trivial⟩ trivial g6.B g6.N hU6 (allG_of trivial) (fun β hβ => ?_) ?_
  · refine sc ?_ (sc ?_ (sc ?_ (sn)))
    · refine sr rfl fun av wq hUw h K k => ?_
      have eh8 := h.B 8 ((v6 8 rfl).trans (g5.T 10 8))
      clear h; go_simp
      exact k _ _ P0
    · refine sr rfl fun av wq hUw h K k => ?_
      have eh102 := h.A 0 102
      have hEw := hE.up hUw
      have eb1 := ((g5.f 9 rfl rfl rfl rfl).up (g6.W rfl)).up (h.W rfl)
      have hmeb1 := Bw.slv (L := [(rB f1, rB f2, rB f3), (rB a1, rB a2, rB a3), (rB b1, rB b2, rB b3)]) eb1 rfl
      have hkn : ([(rB f1, rB f2, rB f3), (rB a1, rB a2, rB a3), (rB b1, rB b2, rB b3)] : List Tri).any zV = true := HZ.out
      have hcc := has_rzero [(rB f1, rB f2, rB f3), (rB a1, rB a2, rB a3), (rB b1, rB b2, rB b3)] (bt5 9) 3 wq hEw hmeb1 rfl (by decide)
      rw [hkn] at hcc
      clear hkn
      clear h; go_simp
      refine (hcc).mono ?_
      rintro _ w2 ⟨rfl, hX⟩
      exact k _ _ (PD hX)
    · refine sr rfl fun av wq hUw h K k => ?_
      have eh103 := h.A 1 103
      clear h; go_simp
      exact k _ _ P0
  refine end_of fun bt7 ac7 wd7 d7 z7 hU7 v7 g7 => ?_
  replace d7 := d7.trans d6; replace z7 := z7.trans z6
  clear d6 z6
  refine hK8 _ _ ?_
  refine wp_cond_true (eval_of (g7.T 2 101)) ?_
  refine wp_seq_k fun K9 hK9 => ?_
  refine region_line 163 (dso [104, 105, 106, 107, 108, 4]) [999, 999, 999, 999, 999, 999] [0, 0, 0, 0, 0, 0] [] []
   [fun _ => .int .i64 17, fun _ => .bool true, fun _ => .bool true, fun _ => .bool true, fun _ => .bool true, fun _ => .bool true]
   [T0, T0, T0, T0, T0, T0]
   [] [(bt1 0), (bt1 1), (bt2 12), (bt3 16), (bt5 9), (bt6 14)] w z7 (by kernel_rfl) ⟨loc_true, loc_true, loc_true, loc_true, loc_true, loc_true, trivial⟩ trivial g7.B g7.N hU7 (allG_of trivial) (fun β hβ => ?_) ?_
  · refine sc ?_ (sc ?_ (sc ?_ (sc ?_ (sc ?_ (sc ?_ (sn))))))
    · refine sr rfl fun av wq hUw h K k => ?_
      have eh6 := h.B 6 ((v7 6 rfl).trans ((v6 6 rfl).trans ((v5 6 rfl).trans ((v4 6 rfl).trans (g3.T 18 6)))))
      clear h; go_simp
      exact k _ _ P0
    · refine sr rfl fun av wq hUw h K k => ?_
      have eh104 := h.A 0 104
      clear h; go_simp
      exact k _ _ P0
    · refine sr rfl fun av wq hUw h K k => ?_
      have eh105 := h.A 1 105
      clear h; go_simp
      exact k _ _ P0
    · refine sg (t := 106) rfl rfl fun av wq hUw h => ⟨h.A 2 106, fun K k => ?_⟩
      have eh7 := h.B 7 ((v7 7 rfl).trans ((v6 7 rfl).trans ((v5 7 rfl).trans (g4.T 3 7))))
      clear h; go_simp
      exact k _ _ P0
    · refine sr rfl fun av wq hUw h K k => ?_
      have eh106 := h.A 2 106
      have eh107 := h.A 3 107
      clear h; go_simp
      exact k _ _ P0
    · refine sr rfl fun av wq hUw h K k => ?_
      have eh108 := h.A 4 108
      clear h; go_simp
      exact k _ _ P0
  refine end_of fun bt8 ac8 wd8 d8 z8 hU8 v8 g8 => ?_
  replace d8 := d8.trans d7; replace z8 := z8.trans z7
  clear d7 z7
  refine hK9 _ _ ?_
  have et4 := g8.T 5 4
  refine wp_ret ?_
  refine block_ret ?_
  refine then_ret ?_
  refine bodyPost_ret (v := .bool true) (by simp [results, Tryz.f3, go_sem, et4]) d8 ?_
  exact ⟨rfl, hU8⟩

set_option maxRecDepth 100000 in
set_option maxHeartbeats 4000000 in
theorem solves_dep (f1 f2 f3 fo a1 a2 a3 ao b1 b2 b3 bo am bm : Rat) (w : World) (hE : Env w) (rf1 : rlen f1 ≤ 20) (rf2 : rlen f2 ≤ 20) (rf3 : rlen f3 ≤ 20) (rfo : rlen fo ≤ 20) (ra1 : rlen a1 ≤ 20) (ra2 : rlen a2 ≤ 20) (ra3 : rlen a3 ≤ 20) (rao : rlen ao ≤ 20) (rb1 : rlen b1 ≤ 20) (rb2 : rlen b2 ≤ 20) (rb3 : rlen b3 ≤ 20) (rbo : rlen bo ≤ 20) (ram : rlen am ≤ 20) (rbm : rlen bm ≤ 20) (hL : ([(rB f1, rB f2, rB f3), (rB a1, rB a2, rB a3), (rB b1, rB b2, rB b3)] : List Tri).any lgV = false) (hM : ¬ 8 < mx2 (mx2 (mx2 (mx2 ((rB fo).size : Int) ((rB ao).size : Int)) ((rB bo).size : Int)) ((rB am).size : Int)) ((rB bm).size : Int)) (hB : (([rB fo, rB ao, rB bo, rB am, rB bm] : List ByteArray).all okR && !(([(rB f1, rB f2, rB f3), (rB a1, rB a2, rB a3), (rB b1, rB b2, rB b3)] : List Tri).any badV)) = true) (hF : firstE [errN (okV (rB f1, rB f2, rB f3) && okR (rB fo)), errN (okV (rB a1, rB a2, rB a3) && okR (rB ao)), errN (([rB am] : List ByteArray).all okR), errN (okV (rB b1, rB b2, rB b3) && okR (rB bo)), errN (([rB bm] : List ByteArray).all okR)] = 0) (hZ : ([(rB f1, rB f2, rB f3), (rB a1, rB a2, rB a3), (rB b1, rB b2, rB b3)] : List Tri).any zV = false) (hd : (((f1 * ((a2 * b3) - (a3 * b2))) + (f2 * ((a3 * b1) - (a1 * b3)))) + (f3 * ((a1 * b2) - (a2 * b1)))) = 0) :
    Calls Tryz.prog 3 #[.agg #[.string (rB f1), .string (rB f2), .string (rB f3), .string (rB fo), .string (rB a1), .string (rB a2), .string (rB a3), .string (rB ao), .string (rB b1), .string (rB b2), .string (rB b3), .string (rB bo)], .agg #[.string (rB am), .string (rB bm)]] w (Ret w (.bool true)) := by
  have HL := Lib.hid hL
  have HM := Lib.hid hM
  have HB := Lib.hid hB
  have HF := Lib.hid hF
  clear hL hM hB hF
  have HZ := Lib.hid hZ
  obtain ⟨x1, Hx1, rx1⟩ := nmul ra2 rb3
  obtain ⟨x2, Hx2, rx2⟩ := nmul ra3 rb2
  obtain ⟨x3, Hx3, rx3⟩ := nsub rx1.out rx2.out
  obtain ⟨x4, Hx4, rx4⟩ := nmul ra3 rb1
  obtain ⟨x5, Hx5, rx5⟩ := nmul ra1 rb3
  obtain ⟨x6, Hx6, rx6⟩ := nsub rx4.out rx5.out
  obtain ⟨x7, Hx7, rx7⟩ := nmul ra1 rb2
  obtain ⟨x8, Hx8, rx8⟩ := nmul ra2 rb1
  obtain ⟨x9, Hx9, rx9⟩ := nsub rx7.out rx8.out
  obtain ⟨x10, Hx10, rx10⟩ := nmul rf1 rx3.out
  obtain ⟨x11, Hx11, rx11⟩ := nmul rf2 rx6.out
  obtain ⟨x12, Hx12, rx12⟩ := nadd rx10.out rx11.out
  obtain ⟨x13, Hx13, rx13⟩ := nmul rf3 rx9.out
  obtain ⟨x14, Hx14, rx14⟩ := nadd rx12.out rx13.out
  have HDF := Lib.hid hd
  have HD := Lib.hid (show x14 = 0 from (by simp only [Hx14.out, Hx12.out, Hx10.out, Hx3.out, Hx1.out, Hx2.out, Hx11.out, Hx6.out, Hx4.out, Hx5.out, Hx13.out, Hx9.out, Hx7.out, Hx8.out]; exact hd))
  clear hZ hd
  go_enter Tryz.func3, Tryz.ntmps3
  refine enter_abs fun ac0 d0 z0 he0 => ?_
  have hU0 := Up.refl w
  have T0_0 := he0 0 _ rfl
  have T1_0 := he0 1 _ rfl
  replace z0 : ac0.tmps.size = 163 := z0
  clear he0
  refine wp_seq_k fun K0 hK0 => ?_
  refine region_line 163 (dso [2, 3, 4]) [0, 1, 999] [1, 1, 0] [] []
   [fun b => .pointer (some ⟨b, 0, none⟩), fun b => .pointer (some ⟨b, 0, none⟩), fun _ => .bool false]
   [Bw [.string (rB f1), .string (rB f2), .string (rB f3), .string (rB fo), .string (rB a1), .string (rB a2), .string (rB a3), .string (rB ao), .string (rB b1), .string (rB b2), .string (rB b3), .string (rB bo)], Bw [.string (rB am), .string (rB bm)], T0]
   [] ([] : List Nat) w z0 (by kernel_rfl) ⟨Bw.loc _, Bw.loc _, loc_true, trivial⟩ trivial (allB_of trivial) List.nodup_nil hU0 (allG_of trivial) (fun β hβ => ?_) ?_
  · refine sc ?_ (sc ?_ (sc ?_ (sn)))
    · refine sr rfl fun av wq hUw h K k => ?_
      have eh0 := h.B 0 T0_0
      clear h; go_simp
      exact k _ _ (PostN rfl rfl rfl rfl rfl)
    · refine sr rfl fun av wq hUw h K k => ?_
      have eh1 := h.B 1 T1_0
      clear h; go_simp
      exact k _ _ (PostN rfl rfl rfl rfl rfl)
    · refine sr rfl fun av wq hUw h K k => ?_
      clear h; go_simp
      exact k _ _ P0
  refine end_of fun bt1 ac1 wd1 d1 z1 hU1 v1 g1 => ?_
  replace d1 := d1.trans d0; replace z1 := z1.trans z0
  clear d0 z0
  refine hK0 _ _ ?_
  refine wp_seq_k fun K1 hK1 => ?_
  refine wp_seq_k fun K2 hK2 => ?_
  refine region_line 163 (dso [10, 11, 12, 13, 14, 15, 16, 17, 18, 19, 20, 21, 22, 23, 24, 25, 26, 27, 28, 29, 30, 31, 32, 33, 34, 35, 36, 37, 38, 39, 40, 41, 42, 43, 44, 45, 46, 47]) [999, 999, 999, 999, 999, 999, 999, 999, 999, 999, 999, 999, 12, 999, 999, 999, 999, 999, 999, 999, 999, 999, 999, 999, 999, 999, 999, 999, 999, 999, 999, 999, 999, 999, 999, 999, 999, 999] [0, 0, 0, 0, 0, 0, 0, 0, 0, 0, 0, 0, 1, 0, 0, 0, 0, 0, 0, 0, 0, 0, 0, 0, 0, 0, 0, 0, 0, 0, 0, 0, 0, 0, 0, 0, 0, 0] [] []
   [fun _ => .bool true, fun _ => .bool false, fun _ => .bool false, fun _ => .pointer (some ⟨(bt1 0), 0, none⟩), fun _ => .pointer (some ⟨(bt1 0), 0, none⟩), fun _ => .agg #[.string (rB f1), .string (rB f2), .string (rB f3)], fun _ => .pointer (some ⟨(bt1 0), 4, none⟩), fun _ => .pointer (some ⟨(bt1 0), 4, none⟩), fun _ => .agg #[.string (rB a1), .string (rB a2), .string (rB a3)], fun _ => .pointer (some ⟨(bt1 0), 8, none⟩), fun _ => .pointer (some ⟨(bt1 0), 8, none⟩), fun _ => .agg #[.string (rB b1), .string (rB b2), .string (rB b3)], fun b => .slice (some ⟨b, 0, none⟩) 3 3, fun _ => .bool true, fun _ => .bool false, fun _ => .bool false, fun _ => .bool false, fun _ => .pointer (some ⟨(bt1 0), 0, none⟩), fun _ => .pointer (some ⟨(bt1 0), 3, none⟩), fun _ => .string (rB fo), fun _ => .int .i64 ((rB fo).size : Int), fun _ => .pointer (some ⟨(bt1 0), 4, none⟩), fun _ => .pointer (some ⟨(bt1 0), 7, none⟩), fun _ => .string (rB ao), fun _ => .int .i64 ((rB ao).size : Int), fun _ => .pointer (some ⟨(bt1 0), 8, none⟩), fun _ => .pointer (some ⟨(bt1 0), 11, none⟩), fun _ => .string (rB bo), fun _ => .int .i64 ((rB bo).size : Int), fun _ => .pointer (some ⟨(bt1 1), 0, none⟩), fun _ => .string (rB am), fun _ => .int .i64 ((rB am).size : Int), fun _ => .pointer (some ⟨(bt1 1), 1, none⟩), fun _ => .string (rB bm), fun _ => .int .i64 ((rB bm).size : Int), fun _ => .int .i64 (mx2 (mx2 (mx2 (mx2 ((rB fo).size : Int) ((rB ao).size : Int)) ((rB bo).size : Int)) ((rB am).size : Int)) ((rB bm).size : Int)), fun _ => .bool false, fun _ => .bool false]
   [T0, T0, T0, T0, T0, T0, T0, T0, T0, T0, T0, T0, Bw [.string (rB f1), .string (rB f2), .string (rB f3), .string (rB a1), .string (rB a2), .string (rB a3), .string (rB b1), .string (rB b2), .string (rB b3)], T0, T0, T0, T0, T0, T0, T0, T0, T0, T0, T0, T0, T0, T0, T0, T0, T0, T0, T0, T0, T0, T0, T0, T0, T0]
   [] [(bt1 0), (bt1 1)] w z1 (by kernel_rfl) ⟨loc_true, loc_true, loc_true, loc_true, loc_true, loc_true, loc_true, loc_true, loc_true, loc_true, loc_true, loc_true, Bw.loc _, loc_true, loc_true, loc_true, loc_true, loc_true, loc_true, loc_true, loc_true, loc_true, loc_true, loc_true, loc_true, loc_true, loc_true, loc_true, loc_true, loc_true, loc_true, loc_true, loc_true, loc_true, loc_true, loc_true, loc_true, loc_true, trivial⟩ trivial g1.B g1.N hU1 (allG_of trivial) (fun β hβ => ?_) ?_
  · refine sc ?_ (sc ?_ (sc ?_ (sc ?_ (sc ?_ (sc ?_ (sc ?_ (sc ?_ (sc ?_ (sc ?_ (sc ?_ (sc ?_ (sc ?_ (sc ?_ (sc ?_ (sc ?_ (sc ?_ (sc ?_ (sc ?_ (sc ?_ (sc ?_ (sc ?_ (sc ?_ (sc ?_ (sc ?_ (sc ?_ (sc ?_ (sc ?_ (sc ?_ (sc ?_ (sc ?_ (sc ?_ (sc ?_ (sc ?_ (sc ?_ (sc ?_ (sc ?_ (sc ?_ (sn))))))))))))))))))))))))))))))))))))))
    · refine sr rfl fun av wq hUw h K k => ?_
      have hEw := hE.up hUw
      clear h; go_simp
      refine (law_known wq hEw).mono ?_
      rintro _ w2 ⟨rfl, hX⟩
      exact k _ _ (PD hX)
    · refine sr rfl fun av wq hUw h K k => ?_
      have eh10 := h.A 0 10
      clear h; go_simp
      exact k _ _ P0
    · refine sr rfl fun av wq hUw h K k => ?_
      have eh11 := h.A 1 11
      clear h; go_simp
      exact k _ _ P0
    · refine sg (t := 12) rfl rfl fun av wq hUw h => ⟨h.A 2 12, fun K k => ?_⟩
      have eh2 := h.B 2 (g1.T 0 2)
      clear h; go_simp
      exact k _ _ P0
    · refine sg (t := 12) rfl rfl fun av wq hUw h => ⟨h.A 2 12, fun K k => ?_⟩
      have eh13 := h.A 3 13
      clear h; go_simp
      exact k _ _ P0
    · refine sg (t := 12) rfl rfl fun av wq hUw h => ⟨h.A 2 12, fun K k => ?_⟩
      have eh14 := h.A 4 14
      have eb0 := (g1.f 0 rfl rfl rfl rfl).up (h.W rfl)
      obtain ⟨ec0, ec1, ec2⟩ := eb0.c3 0 1 2
      clear h; go_simp
      exact k _ _ P0
    · refine sg (t := 12) rfl rfl fun av wq hUw h => ⟨h.A 2 12, fun K k => ?_⟩
      have eh2 := h.B 2 (g1.T 0 2)
      clear h; go_simp
      exact k _ _ P0
    · refine sg (t := 12) rfl rfl fun av wq hUw h => ⟨h.A 2 12, fun K k => ?_⟩
      have eh16 := h.A 6 16
      clear h; go_simp
      exact k _ _ P0
    · refine sg (t := 12) rfl rfl fun av wq hUw h => ⟨h.A 2 12, fun K k => ?_⟩
      have eh17 := h.A 7 17
      have eb0 := (g1.f 0 rfl rfl rfl rfl).up (h.W rfl)
      obtain ⟨ec0, ec1, ec2⟩ := eb0.c3 4 5 6
      clear h; go_simp
      exact k _ _ P0
    · refine sg (t := 12) rfl rfl fun av wq hUw h => ⟨h.A 2 12, fun K k => ?_⟩
      have eh2 := h.B 2 (g1.T 0 2)
      clear h; go_simp
      exact k _ _ P0
    · refine sg (t := 12) rfl rfl fun av wq hUw h => ⟨h.A 2 12, fun K k => ?_⟩
      have eh19 := h.A 9 19
      clear h; go_simp
      exact k _ _ P0
    · refine sg (t := 12) rfl rfl fun av wq hUw h => ⟨h.A 2 12, fun K k => ?_⟩
      have eh20 := h.A 10 20
      have eb0 := (g1.f 0 rfl rfl rfl rfl).up (h.W rfl)
      obtain ⟨ec0, ec1, ec2⟩ := eb0.c3 8 9 10
      clear h; go_simp
      exact k _ _ P0
    · refine sg (t := 12) rfl rfl fun av wq hUw h => ⟨h.A 2 12, fun K k => ?_⟩
      have eh15 := h.A 5 15
      have eh18 := h.A 8 18
      have eh21 := h.A 11 21
      clear h; go_simp
      exact k _ _ (PostN rfl rfl rfl rfl rfl)
    · refine sg (t := 12) rfl rfl fun av wq hUw h => ⟨h.A 2 12, fun K k => ?_⟩
      have eh22 := h.A 12 22
      have hEw := hE.up hUw
      have eb1 := h.F 12
      have hmeb1 := Bw.slv (L := [(rB f1, rB f2, rB f3), (rB a1, rB a2, rB a3), (rB b1, rB b2, rB b3)]) eb1 rfl
      have hkn : ([(rB f1, rB f2, rB f3), (rB a1, rB a2, rB a3), (rB b1, rB b2, rB b3)] : List Tri).any lgV = false := HL.out
      have hcc := law_brief [(rB f1, rB f2, rB f3), (rB a1, rB a2, rB a3), (rB b1, rB b2, rB b3)] (β 12) 3 wq hEw hmeb1 rfl (by decide)
      rw [hkn] at hcc
      clear hkn
      clear h; go_simp
      refine (hcc).mono ?_
      rintro _ w2 ⟨rfl, hX⟩
      exact k _ _ (PD hX)
    · refine sg (t := 12) rfl rfl fun av wq hUw h => ⟨h.A 2 12, fun K k => ?_⟩
      have eh23 := h.A 13 23
      clear h; go_simp
      exact k _ _ P0
    · refine sr rfl fun av wq hUw h K k => ?_
      have eh12 := h.A 2 12
      have eh24 := h.A 14 24
      clear h; go_simp
      exact k _ _ P0
    · refine sr rfl fun av wq hUw h K k => ?_
      have eh25 := h.A 15 25
      clear h; go_simp
      exact k _ _ P0
    · refine sg (t := 26) rfl rfl fun av wq hUw h => ⟨h.A 16 26, fun K k => ?_⟩
      have eh2 := h.B 2 (g1.T 0 2)
      clear h; go_simp
      exact k _ _ P0
    · refine sg (t := 26) rfl rfl fun av wq hUw h => ⟨h.A 16 26, fun K k => ?_⟩
      have eh27 := h.A 17 27
      clear h; go_simp
      exact k _ _ P0
    · refine sg (t := 26) rfl rfl fun av wq hUw h => ⟨h.A 16 26, fun K k => ?_⟩
      have eh28 := h.A 18 28
      have eb0 := (g1.f 0 rfl rfl rfl rfl).up (h.W rfl)
      have ec0 := eb0.cell 3 rfl
      clear h; go_simp
      exact k _ _ P0
    · refine sg (t := 26) rfl rfl fun av wq hUw h => ⟨h.A 16 26, fun K k => ?_⟩
      have eh29 := h.A 19 29
      clear h; go_simp
      exact k _ _ P0
    · refine sg (t := 26) rfl rfl fun av wq hUw h => ⟨h.A 16 26, fun K k => ?_⟩
      have eh2 := h.B 2 (g1.T 0 2)
      clear h; go_simp
      exact k _ _ P0
    · refine sg (t := 26) rfl rfl fun av wq hUw h => ⟨h.A 16 26, fun K k => ?_⟩
      have eh31 := h.A 21 31
      clear h; go_simp
      exact k _ _ P0
    · refine sg (t := 26) rfl rfl fun av wq hUw h => ⟨h.A 16 26, fun K k => ?_⟩
      have eh32 := h.A 22 32
      have eb0 := (g1.f 0 rfl rfl rfl rfl).up (h.W rfl)
      have ec0 := eb0.cell 7 rfl
      clear h; go_simp
      exact k _ _ P0
    · refine sg (t := 26) rfl rfl fun av wq hUw h => ⟨h.A 16 26, fun K k => ?_⟩
      have eh33 := h.A 23 33
      clear h; go_simp
      exact k _ _ P0
    · refine sg (t := 26) rfl rfl fun av wq hUw h => ⟨h.A 16 26, fun K k => ?_⟩
      have eh2 := h.B 2 (g1.T 0 2)
      clear h; go_simp
      exact k _ _ P0
    · refine sg (t := 26) rfl rfl fun av wq hUw h => ⟨h.A 16 26, fun K k => ?_⟩
      have eh35 := h.A 25 35
      clear h; go_simp
      exact k _ _ P0
    · refine sg (t := 26) rfl rfl fun av wq hUw h => ⟨h.A 16 26, fun K k => ?_⟩
      have eh36 := h.A 26 36
      have eb0 := (g1.f 0 rfl rfl rfl rfl).up (h.W rfl)
      have ec0 := eb0.cell 11 rfl
      clear h; go_simp
      exact k _ _ P0
    · refine sg (t := 26) rfl rfl fun av wq hUw h => ⟨h.A 16 26, fun K k => ?_⟩
      have eh37 := h.A 27 37
      clear h; go_simp
      exact k _ _ P0
    · refine sg (t := 26) rfl rfl fun av wq hUw h => ⟨h.A 16 26, fun K k => ?_⟩
      have eh3 := h.B 3 (g1.T 1 3)
      clear h; go_simp
      exact k _ _ P0
    · refine sg (t := 26) rfl rfl fun av wq hUw h => ⟨h.A 16 26, fun K k => ?_⟩
      have eh39 := h.A 29 39
      have eb0 := (g1.f 1 rfl rfl rfl rfl).up (h.W rfl)
      have ec0 := eb0.cell 0 rfl
      clear h; go_simp
      exact k _ _ P0
    · refine sg (t := 26) rfl rfl fun av wq hUw h => ⟨h.A 16 26, fun K k => ?_⟩
      have eh40 := h.A 30 40
      clear h; go_simp
      exact k _ _ P0
    · refine sg (t := 26) rfl rfl fun av wq hUw h => ⟨h.A 16 26, fun K k => ?_⟩
      have eh3 := h.B 3 (g1.T 1 3)
      clear h; go_simp
      exact k _ _ P0
    · refine sg (t := 26) rfl rfl fun av wq hUw h => ⟨h.A 16 26, fun K k => ?_⟩
      have eh42 := h.A 32 42
      have eb0 := (g1.f 1 rfl rfl rfl rfl).up (h.W rfl)
      have ec0 := eb0.cell 1 rfl
      clear h; go_simp
      exact k _ _ P0
    · refine sg (t := 26) rfl rfl fun av wq hUw h => ⟨h.A 16 26, fun K k => ?_⟩
      have eh43 := h.A 33 43
      clear h; go_simp
      exact k _ _ P0
    · refine sg (t := 26) rfl rfl fun av wq hUw h => ⟨h.A 16 26, fun K k => ?_⟩
      have eh30 := h.A 20 30
      have eh34 := h.A 24 34
      have eh38 := h.A 28 38
      have eh41 := h.A 31 41
      have eh44 := h.A 34 44
      clear h; go_simp
      exact k _ _ P0
    · refine sg (t := 26) rfl rfl fun av wq hUw h => ⟨h.A 16 26, fun K k => ?_⟩
      have eh45 := h.A 35 45
      have hmx := HM.out; have hmy := decide_eq_false hmx
      clear h; go_simp
      exact k _ _ P0
    · refine sr rfl fun av wq hUw h K k => ?_
      have eh26 := h.A 16 26
      have eh46 := h.A 36 46
      clear h; go_simp
      exact k _ _ P0
  refine end_of fun bt2 ac2 wd2 d2 z2 hU2 v2 g2 => ?_
  replace d2 := d2.trans d1; replace z2 := z2.trans z1
  clear d1 z1
  refine hK2 _ _ ?_
  refine wp_cond_false (eval_of (g2.T 37 47)) ?_
  refine wp_skip ?_
  refine hK1 _ _ ?_
  refine wp_seq_k fun K3 hK3 => ?_
  refine region_line 163 (dso [50, 51, 52, 53, 54, 55, 56, 57, 58, 59, 60, 61, 62, 49, 63, 64, 5, 999, 6]) [999, 999, 999, 999, 999, 999, 999, 999, 999, 999, 999, 999, 999, 999, 999, 999, 16, 16, 999] [0, 0, 0, 0, 0, 0, 0, 0, 0, 0, 0, 0, 0, 0, 0, 0, 1, 2, 0] [999, 999, 999, 999, 999, 999, 999, 999, 999, 999, 999, 999, 999, 999, 999, 999, 17, 999, 999] []
   [fun _ => .pointer (some ⟨(bt1 0), 0, none⟩), fun _ => .agg #[.string (rB f1), .string (rB f2), .string (rB f3), .string (rB fo)], fun _ => .pointer (some ⟨(bt1 0), 4, none⟩), fun _ => .agg #[.string (rB a1), .string (rB a2), .string (rB a3), .string (rB ao)], fun _ => .pointer (some ⟨(bt1 1), 0, none⟩), fun _ => .string (rB am), fun _ => .agg #[.string (rB a1), .string (rB a2), .string (rB a3), .string (rB ao), .string (rB am)], fun _ => .pointer (some ⟨(bt1 0), 8, none⟩), fun _ => .agg #[.string (rB b1), .string (rB b2), .string (rB b3), .string (rB bo)], fun _ => .pointer (some ⟨(bt1 1), 1, none⟩), fun _ => .string (rB bm), fun _ => .agg #[.string (rB b1), .string (rB b2), .string (rB b3), .string (rB bo), .string (rB bm)], fun _ => .tuple #[.agg #[.string ⟨#[]⟩, .string ⟨#[]⟩, .string ⟨#[]⟩], .int .i64 18], fun _ => .tuple #[.agg #[.string ⟨#[]⟩, .string ⟨#[]⟩, .string ⟨#[]⟩], .int .i64 18], fun _ => .agg #[.string ⟨#[]⟩, .string ⟨#[]⟩, .string ⟨#[]⟩], fun _ => .int .i64 18, fun b => .pointer (some ⟨b, 0, none⟩), fun _ => undef, fun _ => .int .i64 18]
   [T0, T0, T0, T0, T0, T0, T0, T0, T0, T0, T0, T0, T0, T0, T0, T0, Bw [.string ⟨#[]⟩, .string ⟨#[]⟩, .string ⟨#[]⟩], Bw [.string ⟨#[]⟩, .string ⟨#[]⟩, .string ⟨#[]⟩], T0]
   [] [(bt1 0), (bt1 1), (bt2 12)] w z2 (by kernel_rfl) ⟨loc_true, loc_true, loc_true, loc_true, loc_true, loc_true, loc_true, loc_true, loc_true, loc_true, loc_true, loc_true, loc_true, loc_true, loc_true, loc_true, Bw.loc _, Bw.loc _, loc_true, trivial⟩ trivial g2.B g2.N hU2 (allG_of trivial) (fun β hβ => ?_) ?_
  · refine sc ?_ (sc ?_ (sc ?_ (sc ?_ (sc ?_ (sc ?_ (sc ?_ (sc ?_ (sc ?_ (sc ?_ (sc ?_ (sc ?_ (sc ?_ (sc ?_ (sc ?_ (sc ?_ (sc ?_ (sc ?_ (sc ?_ (sn)))))))))))))))))))
    · refine sr rfl fun av wq hUw h K k => ?_
      have eh2 := h.B 2 ((v2 2 rfl).trans (g1.T 0 2))
      clear h; go_simp
      exact k _ _ P0
    · refine sr rfl fun av wq hUw h K k => ?_
      have eh50 := h.A 0 50
      have eb0 := ((g1.f 0 rfl rfl rfl rfl).up (g2.W rfl)).up (h.W rfl)
      obtain ⟨ec0, ec1, ec2⟩ := eb0.c3 0 1 2
      have ec3 := eb0.cell 3 rfl
      clear h; go_simp
      exact k _ _ P0
    · refine sr rfl fun av wq hUw h K k => ?_
      have eh2 := h.B 2 ((v2 2 rfl).trans (g1.T 0 2))
      clear h; go_simp
      exact k _ _ P0
    · refine sr rfl fun av wq hUw h K k => ?_
      have eh52 := h.A 2 52
      have eb0 := ((g1.f 0 rfl rfl rfl rfl).up (g2.W rfl)).up (h.W rfl)
      obtain ⟨ec0, ec1, ec2⟩ := eb0.c3 4 5 6
      have ec3 := eb0.cell 7 rfl
      clear h; go_simp
      exact k _ _ P0
    · refine sr rfl fun av wq hUw h K k => ?_
      have eh3 := h.B 3 ((v2 3 rfl).trans (g1.T 1 3))
      clear h; go_simp
      exact k _ _ P0
    · refine sr rfl fun av wq hUw h K k => ?_
      have eh54 := h.A 4 54
      have eb0 := ((g1.f 1 rfl rfl rfl rfl).up (g2.W rfl)).up (h.W rfl)
      have ec0 := eb0.cell 0 rfl
      clear h; go_simp
      exact k _ _ P0
    · refine sr rfl fun av wq hUw h K k => ?_
      have eh53 := h.A 3 53
      have eh55 := h.A 5 55
      clear h; go_simp
      exact k _ _ P0
    · refine sr rfl fun av wq hUw h K k => ?_
      have eh2 := h.B 2 ((v2 2 rfl).trans (g1.T 0 2))
      clear h; go_simp
      exact k _ _ P0
    · refine sr rfl fun av wq hUw h K k => ?_
      have eh57 := h.A 7 57
      have eb0 := ((g1.f 0 rfl rfl rfl rfl).up (g2.W rfl)).up (h.W rfl)
      obtain ⟨ec0, ec1, ec2⟩ := eb0.c3 8 9 10
      have ec3 := eb0.cell 11 rfl
      clear h; go_simp
      exact k _ _ P0
    · refine sr rfl fun av wq hUw h K k => ?_
      have eh3 := h.B 3 ((v2 3 rfl).trans (g1.T 1 3))
      clear h; go_simp
      exact k _ _ P0
    · refine sr rfl fun av wq hUw h K k => ?_
      have eh59 := h.A 9 59
      have eb0 := ((g1.f 1 rfl rfl rfl rfl).up (g2.W rfl)).up (h.W rfl)
      have ec0 := eb0.cell 1 rfl
      clear h; go_simp
      exact k _ _ P0
    · refine sr rfl fun av wq hUw h K k => ?_
      have eh58 := h.A 8 58
      have eh60 := h.A 10 60
      clear h; go_simp
      exact k _ _ P0
    · refine sr rfl fun av wq hUw h K k => ?_
      have eh51 := h.A 1 51
      have eh56 := h.A 6 56
      have eh61 := h.A 11 61
      have hEw := hE.up hUw
      clear h; go_simp
      refine (slip_solve_dep f1 f2 f3 fo a1 a2 a3 ao b1 b2 b3 bo am bm wq hEw rf1 rf2 rf3 rfo ra1 ra2 ra3 rao rb1 rb2 rb3 rbo ram rbm HF.out HZ.out HDF.out).mono ?_
      rintro _ w2 ⟨rfl, hX⟩
      exact k _ _ (PD hX)
    · refine sr rfl fun av wq hUw h K k => ?_
      have eh62 := h.A 12 62
      clear h; go_simp
      exact k _ _ P0
    · refine sr rfl fun av wq hUw h K k => ?_
      have eh49 := h.A 13 49
      clear h; go_simp
      exact k _ _ P0
    · refine sr rfl fun av wq hUw h K k => ?_
      have eh49 := h.A 13 49
      clear h; go_simp
      exact k _ _ P0
    · refine sr rfl fun av wq hUw h K k => ?_
      clear h; go_simp
      exact k _ _ (PostN rfl rfl rfl rfl rfl)
    · refine sr rfl fun av wq hUw h K k => ?_
      have eh5 := h.A 16 5
      have eh63 := h.A 14 63
      have eb0 := h.F 16
      obtain ⟨ec0, ec1, ec2⟩ := eb0.c3 0 1 2; obtain ⟨ef0, ef1, ef2⟩ := eb0.f3 0 1 2
      clear h; go_simp
      exact k _ _ (PostS rfl rfl rfl rfl rfl rfl ((((Sto.refl _ _).set 0 _).set 1 _).set 2 _) ((((eb0).set 0 rfl _).set 1 rfl _).set 2 rfl _))
    · refine sr rfl fun av wq hUw h K k => ?_
      have eh64 := h.A 15 64
      clear h; go_simp
      exact k _ _ P0
  refine end_of fun bt3 ac3 wd3 d3 z3 hU3 v3 g3 => ?_
  replace d3 := d3.trans d2; replace z3 := z3.trans z2
  clear d2 z2
  refine hK3 _ _ ?_
  refine wp_seq_k fun K4 hK4 => ?_
  refine region_line 163 (dso [65, 66, 67, 7]) [999, 999, 999, 999] [0, 0, 0, 0] [] []
   [fun _ => .agg #[.string ⟨#[]⟩, .string ⟨#[]⟩, .string ⟨#[]⟩], fun _ => .agg #[.string ⟨#[]⟩, .string ⟨#[]⟩, .string ⟨#[]⟩], fun _ => .bool true, fun _ => .bool true]
   [T0, T0, T0, T0]
   [] [(bt1 0), (bt1 1), (bt2 12), (bt3 16)] w z3 (by kernel_rfl) ⟨loc_true, loc_true, loc_true, loc_true, trivial⟩ trivial g3.B g3.N hU3 (allG_of trivial) (fun β hβ => ?_) ?_
  · refine sc ?_ (sc ?_ (sc ?_ (sc ?_ (sn))))
    · refine sr rfl fun av wq hUw h K k => ?_
      have eh5 := h.B 5 (g3.T 16 5)
      have eb0 := (g3.f 17 rfl rfl rfl rfl).up (h.W rfl)
      obtain ⟨ec0, ec1, ec2⟩ := eb0.c3 0 1 2
      clear h; go_simp
      exact k _ _ P0
    · refine sr rfl fun av wq hUw h K k => ?_
      clear h; go_simp
      exact k _ _ P0
    · refine sr rfl fun av wq hUw h K k => ?_
      have eh65 := h.A 0 65
      have eh66 := h.A 1 66
      clear h; go_simp
      exact k _ _ P0
    · refine sr rfl fun av wq hUw h K k => ?_
      have eh67 := h.A 2 67
      clear h; go_simp
      exact k _ _ P0
  refine end_of fun bt4 ac4 wd4 d4 z4 hU4 v4 g4 => ?_
  replace d4 := d4.trans d3; replace z4 := z4.trans z3
  clear d3 z3
  refine hK4 _ _ ?_
  refine wp_seq_k fun K5 hK5 => ?_
  refine region_line 163 (dso [68, 69, 70, 71, 72, 73, 74, 75, 76, 77, 8]) [999, 999, 999, 999, 999, 999, 999, 999, 999, 9, 9] [0, 0, 0, 0, 0, 0, 0, 0, 0, 1, 0] [] []
   [fun _ => .pointer (some ⟨(bt1 0), 0, none⟩), fun _ => .pointer (some ⟨(bt1 0), 0, none⟩), fun _ => .agg #[.string (rB f1), .string (rB f2), .string (rB f3)], fun _ => .pointer (some ⟨(bt1 0), 4, none⟩), fun _ => .pointer (some ⟨(bt1 0), 4, none⟩), fun _ => .agg #[.string (rB a1), .string (rB a2), .string (rB a3)], fun _ => .pointer (some ⟨(bt1 0), 8, none⟩), fun _ => .pointer (some ⟨(bt1 0), 8, none⟩), fun _ => .agg #[.string (rB b1), .string (rB b2), .string (rB b3)], fun b => .slice (some ⟨b, 0, none⟩) 3 3, fun b => .slice (some ⟨b, 0, none⟩) 3 3]
   [T0, T0, T0, T0, T0, T0, T0, T0, T0, Bw [.string (rB f1), .string (rB f2), .string (rB f3), .string (rB a1), .string (rB a2), .string (rB a3), .string (rB b1), .string (rB b2), .string (rB b3)], T0]
   [] [(bt1 0), (bt1 1), (bt2 12), (bt3 16)] w z4 (by kernel_rfl) ⟨loc_true, loc_true, loc_true, loc_true, loc_true, loc_true, loc_true, loc_true, loc_true, Bw.loc _, loc_true, trivial⟩ trivial g4.B g4.N hU4 (allG_of trivial) (fun β hβ => ?_) ?_
  · refine sc ?_ (sc ?_ (sc ?_ (sc ?_ (sc ?_ (sc ?_ (sc ?_ (sc ?_ (sc ?_ (sc ?_ (sc ?_ (sn)))))))))))
    · refine sr rfl fun av wq hUw h K k => ?_
      have eh2 := h.B 2 ((v4 2 rfl).trans ((v3 2 rfl).trans ((v2 2 rfl).trans (g1.T 0 2))))
      clear h; go_simp
      exact k _ _ P0
    · refine sr rfl fun av wq hUw h K k => ?_
      have eh68 := h.A 0 68
      clear h; go_simp
      exact k _ _ P0
    · refine sr rfl fun av wq hUw h K k => ?_
      have eh69 := h.A 1 69
      have eb0 := ((g1.f 0 rfl rfl rfl rfl).up (((g2.W rfl).trans (g3.W rfl)).trans (g4.W rfl))).up (h.W rfl)
      obtain ⟨ec0, ec1, ec2⟩ := eb0.c3 0 1 2
      clear h; go_simp
      exact k _ _ P0
    · refine sr rfl fun av wq hUw h K k => ?_
      have eh2 := h.B 2 ((v4 2 rfl).trans ((v3 2 rfl).trans ((v2 2 rfl).trans (g1.T 0 2))))
      clear h; go_simp
      exact k _ _ P0
    · refine sr rfl fun av wq hUw h K k => ?_
      have eh71 := h.A 3 71
      clear h; go_simp
      exact k _ _ P0
    · refine sr rfl fun av wq hUw h K k => ?_
      have eh72 := h.A 4 72
      have eb0 := ((g1.f 0 rfl rfl rfl rfl).up (((g2.W rfl).trans (g3.W rfl)).trans (g4.W rfl))).up (h.W rfl)
      obtain ⟨ec0, ec1, ec2⟩ := eb0.c3 4 5 6
      clear h; go_simp
      exact k _ _ P0
    · refine sr rfl fun av wq hUw h K k => ?_
      have eh2 := h.B 2 ((v4 2 rfl).trans ((v3 2 rfl).trans ((v2 2 rfl).trans (g1.T 0 2))))
      clear h; go_simp
      exact k _ _ P0
    · refine sr rfl fun av wq hUw h K k => ?_
      have eh74 := h.A 6 74
      clear h; go_simp
      exact k _ _ P0
    · refine sr rfl fun av wq hUw h K k => ?_
      have eh75 := h.A 7 75
      have eb0 := ((g1.f 0 rfl rfl rfl rfl).up (((g2.W rfl).trans (g3.W rfl)).trans (g4.W rfl))).up (h.W rfl)
      obtain ⟨ec0, ec1, ec2⟩ := eb0.c3 8 9 10
      clear h; go_simp
      exact k _ _ P0
    · refine sr rfl fun av wq hUw h K k => ?_
      have eh70 := h.A 2 70
      have eh73 := h.A 5 73
      have eh76 := h.A 8 76
      clear h; go_simp
      exact k _ _ (PostN rfl rfl rfl rfl rfl)
    · refine sr rfl fun av wq hUw h K k => ?_
      have eh77 := h.A 9 77
      clear h; go_simp
      exact k _ _ P0
  refine end_of fun bt5 ac5 wd5 d5 z5 hU5 v5 g5 => ?_
  replace d5 := d5.trans d4; replace z5 := z5.trans z4
  clear d4 z4
  refine hK5 _ _ ?_
  refine wp_seq_k fun K6 hK6 => ?_
  refine wp_block ?_
  refine wp_seq_k fun K7 hK7 => ?_
  refine region_line 163 (dso [79, 80, 81, 82, 83, 84, 85, 86, 87, 88, 89, 90, 91, 92, 93, 94, 95, 78]) [999, 999, 999, 999, 999, 999, 999, 999, 999, 999, 999, 999, 999, 999, 14, 999, 999, 999] [0, 0, 0, 0, 0, 0, 0, 0, 0, 0, 0, 0, 0, 0, 1, 0, 0, 0] [] []
   [fun _ => .slice (some ⟨(bt5 9), 0, none⟩) 3 3, fun _ => .pointer (some ⟨(bt1 0), 0, none⟩), fun _ => .pointer (some ⟨(bt1 0), 3, none⟩), fun _ => .string (rB fo), fun _ => .pointer (some ⟨(bt1 0), 4, none⟩), fun _ => .pointer (some ⟨(bt1 0), 7, none⟩), fun _ => .string (rB ao), fun _ => .pointer (some ⟨(bt1 0), 8, none⟩), fun _ => .pointer (some ⟨(bt1 0), 11, none⟩), fun _ => .string (rB bo), fun _ => .pointer (some ⟨(bt1 1), 0, none⟩), fun _ => .string (rB am), fun _ => .pointer (some ⟨(bt1 1), 1, none⟩), fun _ => .string (rB bm), fun b => .slice (some ⟨b, 0, none⟩) 5 5, fun _ => .bool true, fun _ => .bool false, fun _ => .bool false]
   [T0, T0, T0, T0, T0, T0, T0, T0, T0, T0, T0, T0, T0, T0, Bw [.string (rB fo), .string (rB ao), .string (rB bo), .string (rB am), .string (rB bm)], T0, T0, T0]
   [] [(bt1 0), (bt1 1), (bt2 12), (bt3 16), (bt5 9)] w z5 (by kernel_rfl) ⟨loc_true, loc_true, loc_true, loc_true, loc_true, loc_true, loc_true, loc_true, loc_true, loc_true, loc_true, loc_true, loc_true, loc_true, Bw.loc _, loc_true, loc_true, loc_true, trivial⟩ trivial g5.B g5.N hU5 (allG_of trivial) (fun β hβ => ?_) ?_
  · refine sc ?_ (sc ?_ (sc ?_ (sc ?_ (sc ?_ (sc ?_ (sc ?_ (sc ?_ (sc ?_ (sc ?_ (sc ?_ (sc ?_ (sc ?_ (sc ?_ (sc ?_ (sc ?_ (sc ?_ (sc ?_ (sn))))))))))))))))))
    · refine sr rfl fun av wq hUw h K k => ?_
      have eh8 := h.B 8 (g5.T 10 8)
      clear h; go_simp
      exact k _ _ P0
    · refine sr rfl fun av wq hUw h K k => ?_
      have eh2 := h.B 2 ((v5 2 rfl).trans ((v4 2 rfl).trans ((v3 2 rfl).trans ((v2 2 rfl).trans (g1.T 0 2)))))
      clear h; go_simp
      exact k _ _ P0
    · refine sr rfl fun av wq hUw h K k => ?_
      have eh80 := h.A 1 80
      clear h; go_simp
      exact k _ _ P0
    · refine sr rfl fun av wq hUw h K k => ?_
      have eh81 := h.A 2 81
      have eb0 := ((g1.f 0 rfl rfl rfl rfl).up ((((g2.W rfl).trans (g3.W rfl)).trans (g4.W rfl)).trans (g5.W rfl))).up (h.W rfl)
      have ec0 := eb0.cell 3 rfl
      clear h; go_simp
      exact k _ _ P0
    · refine sr rfl fun av wq hUw h K k => ?_
      have eh2 := h.B 2 ((v5 2 rfl).trans ((v4 2 rfl).trans ((v3 2 rfl).trans ((v2 2 rfl).trans (g1.T 0 2)))))
      clear h; go_simp
      exact k _ _ P0
    · refine sr rfl fun av wq hUw h K k => ?_
      have eh83 := h.A 4 83
      clear h; go_simp
      exact k _ _ P0
    · refine sr rfl fun av wq hUw h K k => ?_
      have eh84 := h.A 5 84
      have eb0 := ((g1.f 0 rfl rfl rfl rfl).up ((((g2.W rfl).trans (g3.W rfl)).trans (g4.W rfl)).trans (g5.W rfl))).up (h.W rfl)
      have ec0 := eb0.cell 7 rfl
      clear h; go_simp
      exact k _ _ P0
    · refine sr rfl fun av wq hUw h K k => ?_
      have eh2 := h.B 2 ((v5 2 rfl).trans ((v4 2 rfl).trans ((v3 2 rfl).trans ((v2 2 rfl).trans (g1.T 0 2)))))
      clear h; go_simp
      exact k _ _ P0
    · refine sr rfl fun av wq hUw h K k => ?_
      have eh86 := h.A 7 86
      clear h; go_simp
      exact k _ _ P0
    · refine sr rfl fun av wq hUw h K k => ?_
      have eh87 := h.A 8 87
      have eb0 := ((g1.f 0 rfl rfl rfl rfl).up ((((g2.W rfl).trans (g3.W rfl)).trans (g4.W rfl)).trans (g5.W rfl))).up (h.W rfl)
      have ec0 := eb0.cell 11 rfl
      clear h; go_simp
      exact k _ _ P0
    · refine sr rfl fun av wq hUw h K k => ?_
      have eh3 := h.B 3 ((v5 3 rfl).trans ((v4 3 rfl).trans ((v3 3 rfl).trans ((v2 3 rfl).trans (g1.T 1 3)))))
      clear h; go_simp
      exact k _ _ P0
    · refine sr rfl fun av wq hUw h K k => ?_
      have eh89 := h.A 10 89
      have eb0 := ((g1.f 1 rfl rfl rfl rfl).up ((((g2.W rfl).trans (g3.W rfl)).trans (g4.W rfl)).trans (g5.W rfl))).up (h.W rfl)
      have ec0 := eb0.cell 0 rfl
      clear h; go_simp
      exact k _ _ P0
    · refine sr rfl fun av wq hUw h K k => ?_
      have eh3 := h.B 3 ((v5 3 rfl).trans ((v4 3 rfl).trans ((v3 3 rfl).trans ((v2 3 rfl).trans (g1.T 1 3)))))
      clear h; go_simp
      exact k _ _ P0
    · refine sr rfl fun av wq hUw h K k => ?_
      have eh91 := h.A 12 91
      have eb0 := ((g1.f 1 rfl rfl rfl rfl).up ((((g2.W rfl).trans (g3.W rfl)).trans (g4.W rfl)).trans (g5.W rfl))).up (h.W rfl)
      have ec0 := eb0.cell 1 rfl
      clear h; go_simp
      exact k _ _ P0
    · refine sr rfl fun av wq hUw h K k => ?_
      have eh82 := h.A 3 82
      have eh85 := h.A 6 85
      have eh88 := h.A 9 88
      have eh90 := h.A 11 90
      have eh92 := h.A 13 92
      clear h; go_simp
      exact k _ _ (PostN rfl rfl rfl rfl rfl)
    · refine sr rfl fun av wq hUw h K k => ?_
      have eh79 := h.A 0 79
      have eh93 := h.A 14 93
      have hEw := hE.up hUw
      have eb1 := (g5.f 9 rfl rfl rfl rfl).up (h.W rfl)
      have hmeb1 := Bw.slv (L := [(rB f1, rB f2, rB f3), (rB a1, rB a2, rB a3), (rB b1, rB b2, rB b3)]) eb1 rfl
      have eb3 := h.F 14
      have hmeb3 := Bw.sls (L := [rB fo, rB ao, rB bo, rB am, rB bm]) eb3 rfl
      have hkn : (([rB fo, rB ao, rB bo, rB am, rB bm] : List ByteArray).all okR && !(([(rB f1, rB f2, rB f3), (rB a1, rB a2, rB a3), (rB b1, rB b2, rB b3)] : List Tri).any badV)) = true := HB.out
      have hcc := law_numbers [(rB f1, rB f2, rB f3), (rB a1, rB a2, rB a3), (rB b1, rB b2, rB b3)] [rB fo, rB ao, rB bo, rB am, rB bm] (bt5 9) (β 14) 3 5 wq hEw hmeb1 hmeb3 rfl rfl (mem_cons_of ⟨(rB_le (Nat.le_trans rf1 (by decide))), (rB_le (Nat.le_trans rf2 (by decide))), (rB_le (Nat.le_trans rf3 (by decide)))⟩ (mem_cons_of ⟨(rB_le (Nat.le_trans ra1 (by decide))), (rB_le (Nat.le_trans ra2 (by decide))), (rB_le (Nat.le_trans ra3 (by decide)))⟩ (mem_cons_of ⟨(rB_le (Nat.le_trans rb1 (by decide))), (rB_le (Nat.le_trans rb2 (by decide))), (rB_le (Nat.le_trans rb3 (by decide)))⟩ (fun _ h => absurd h List.not_mem_nil)))) (mem_cons_of (rB_le (Nat.le_trans rfo (by decide))) (mem_cons_of (rB_le (Nat.le_trans rao (by decide))) (mem_cons_of (rB_le (Nat.le_trans rbo (by decide))) (mem_cons_of (rB_le (Nat.le_trans ram (by decide))) (mem_cons_of (rB_le (Nat.le_trans rbm (by decide))) (fun _ h => absurd h List.not_mem_nil)))))) (by decide) (by decide)
      rw [hkn] at hcc
      clear hkn
      clear h; go_simp
      refine (hcc).mono ?_
      rintro _ w2 ⟨rfl, hX⟩
      exact k _ _ (PD hX)
    · refine sr rfl fun av wq hUw h K k => ?_
      have eh94 := h.A 15 94
      clear h; go_simp
      exact k _ _ P0
    · refine sr rfl fun av wq hUw h K k => ?_
      have eh95 := h.A 16 95
      clear h; go_simp
      exact k _ _ P0
  refine end_of fun bt6 ac6 wd6 d6 z6 hU6 v6 g6 => ?_
  replace d6 := d6.trans d5; replace z6 := z6.trans z5
  clear d5 z5
  refine hK7 _ _ ?_
  refine wp_cond_false (eval_of (g6.T 17 78)) ?_
  refine wp_seq_k fun K8 hK8 => ?_
  refine region_line 163 (dso [102, 103, 101]) [999, 999, 999] [0, 0, 0] [] []
   [fun _ => .slice (some ⟨(bt5 9), 0, none⟩) 3 3, fun _ => .bool false, fun _ => .bool false]
   [T0, T0, T0]
   [] [(bt1 0), (bt1 1), (bt2 12), (bt3 16), (bt5 9), (bt6 14)] w z6 (by kernel_rfl) ⟨loc_true, loc_true, loc_true, trivial⟩ trivial g6.B g6.N hU6 (allG_of trivial) (fun β hβ => ?_) ?_
  · refine sc ?_ (sc ?_ (sc ?_ (sn)))
    · refine sr rfl fun av wq hUw h K k => ?_
      have eh8 := h.B 8 ((v6 8 rfl).trans (g5.T 10 8))
      clear h; go_simp
      exact k _ _ P0
    · refine sr rfl fun av wq hUw h K k => ?_
      have eh102 := h.A 0 102
      have hEw := hE.up hUw
      have eb1 := ((g5.f 9 rfl rfl rfl rfl).up (g6.W rfl)).up (h.W rfl)
      have hmeb1 := Bw.slv (L := [(rB f1, rB f2, rB f3), (rB a1, rB a2, rB a3), (rB b1, rB b2, rB b3)]) eb1 rfl
      have hkn : ([(rB f1, rB f2, rB f3), (rB a1, rB a2, rB a3), (rB b1, rB b2, rB b3)] : List Tri).any zV = false := HZ.out
      have hcc := has_rzero [(rB f1, rB f2, rB f3), (rB a1, rB a2, rB a3), (rB b1, rB b2, rB b3)] (bt5 9) 3 wq hEw hmeb1 rfl (by decide)
      rw [hkn] at hcc
      clear hkn
      clear h; go_simp
      refine (hcc).mono ?_
      rintro _ w2 ⟨rfl, hX⟩
      exact k _ _ (PD hX)
    · refine sr rfl fun av wq hUw h K k => ?_
      have eh103 := h.A 1 103
      clear h; go_simp
      exact k _ _ P0
  refine end_of fun bt7 ac7 wd7 d7 z7 hU7 v7 g7 => ?_
  replace d7 := d7.trans d6; replace z7 := z7.trans z6
  clear d6 z6
  refine hK8 _ _ ?_
  refine wp_cond_false (eval_of (g7.T 2 101)) ?_
  refine wp_seq_k fun K9 hK9 => ?_
  refine region_draw follows_mixed 163 (dso [110, 111, 112, 113, 114, 115, 116, 117, 118, 119, 120, 121, 109]) [999, 999, 999, 999, 999, 999, 999, 999, 999, 999, 999, 999, 999] [0, 0, 0, 0, 0, 0, 0, 0, 0, 0, 0, 0, 0] [] [] [[], [0], [0, 1], [], [3], [3, 4], [], [6], [6, 7], [3, 4, 5, 6, 7, 8], [0, 1, 2, 3, 4, 5, 6, 7, 8, 9], [0, 1, 2, 3, 4, 5, 6, 7, 8, 9, 10], [0, 1, 2, 3, 4, 5, 6, 7, 8, 9, 10, 11]]
   [fun _ => .slice (some ⟨(bt5 9), 0, none⟩) 3 3, fun _ => .pointer (some ⟨(bt5 9), 0, none⟩), fun _ => .agg #[.string (rB f1), .string (rB f2), .string (rB f3)], fun _ => .slice (some ⟨(bt5 9), 0, none⟩) 3 3, fun _ => .pointer (some ⟨(bt5 9), 3, none⟩), fun _ => .agg #[.string (rB a1), .string (rB a2), .string (rB a3)], fun _ => .slice (some ⟨(bt5 9), 0, none⟩) 3 3, fun _ => .pointer (some ⟨(bt5 9), 6, none⟩), fun _ => .agg #[.string (rB b1), .string (rB b2), .string (rB b3)], fun _ => .agg #[.string (rB x3), .string (rB x6), .string (rB x9)], fun _ => .string (rB x14), fun _ => .bool true, fun _ => .bool true]
   [T0, T0, T0, T0, T0, T0, T0, T0, T0, T0, T0, T0, T0]
   [] [(bt1 0), (bt1 1), (bt2 12), (bt3 16), (bt5 9), (bt6 14)] w z7 (by kernel_rfl) ⟨loc_true, loc_true, loc_true, loc_true, loc_true, loc_true, loc_true, loc_true, loc_true, loc_true, loc_true, loc_true, loc_true, trivial⟩ trivial g7.B g7.N hU7 (allG_of trivial) (fun β hβ => ?_) ?_
  · refine sc ?_ (sc ?_ (sc ?_ (sc ?_ (sc ?_ (sc ?_ (sc ?_ (sc ?_ (sc ?_ (sc ?_ (sc ?_ (sc ?_ (sc ?_ (sn)))))))))))))
    · refine sr rfl fun av wq hUw h K k => ?_
      have eh8 := h.B 8 ((v7 8 rfl).trans ((v6 8 rfl).trans (g5.T 10 8)))
      clear h; go_simp
      exact k _ _ P0
    · refine sr rfl fun av wq hUw h K k => ?_
      have eh110 := h.A 0 110
      clear h; go_simp
      exact k _ _ P0
    · refine sr rfl fun av wq hUw h K k => ?_
      have eh111 := h.A 1 111
      have eb0 := ((g5.f 9 rfl rfl rfl rfl).up ((g6.W rfl).trans (g7.W rfl))).up (h.W rfl)
      obtain ⟨ec0, ec1, ec2⟩ := eb0.c3 0 1 2
      clear h; go_simp
      exact k _ _ P0
    · refine sr rfl fun av wq hUw h K k => ?_
      have eh8 := h.B 8 ((v7 8 rfl).trans ((v6 8 rfl).trans (g5.T 10 8)))
      clear h; go_simp
      exact k _ _ P0
    · refine sr rfl fun av wq hUw h K k => ?_
      have eh113 := h.A 3 113
      clear h; go_simp
      exact k _ _ P0
    · refine sr rfl fun av wq hUw h K k => ?_
      have eh114 := h.A 4 114
      have eb0 := ((g5.f 9 rfl rfl rfl rfl).up ((g6.W rfl).trans (g7.W rfl))).up (h.W rfl)
      obtain ⟨ec0, ec1, ec2⟩ := eb0.c3 3 4 5
      clear h; go_simp
      exact k _ _ P0
    · refine sr rfl fun av wq hUw h K k => ?_
      have eh8 := h.B 8 ((v7 8 rfl).trans ((v6 8 rfl).trans (g5.T 10 8)))
      clear h; go_simp
      exact k _ _ P0
    · refine sr rfl fun av wq hUw h K k => ?_
      have eh116 := h.A 6 116
      clear h; go_simp
      exact k _ _ P0
    · refine sr rfl fun av wq hUw h K k => ?_
      have eh117 := h.A 7 117
      have eb0 := ((g5.f 9 rfl rfl rfl rfl).up ((g6.W rfl).trans (g7.W rfl))).up (h.W rfl)
      obtain ⟨ec0, ec1, ec2⟩ := eb0.c3 6 7 8
      clear h; go_simp
      exact k _ _ P0
    · refine sr rfl fun av wq hUw h K k => ?_
      have eh115 := h.A 5 115
      have eh118 := h.A 8 118
      have hEw := hE.up hUw
      have hcc := r10_cross a1 a2 a3 b1 b2 b3 wq hEw (Nat.le_trans ra1 (by decide)) (Nat.le_trans ra2 (by decide)) (Nat.le_trans ra3 (by decide)) (Nat.le_trans rb1 (by decide)) (Nat.le_trans rb2 (by decide)) (Nat.le_trans rb3 (by decide))
      rw [← Hx1.out, ← Hx2.out, ← Hx3.out, ← Hx4.out, ← Hx5.out, ← Hx6.out, ← Hx7.out, ← Hx8.out, ← Hx9.out] at hcc
      clear h; go_simp
      refine (hcc).mono ?_
      rintro _ w2 ⟨rfl, hX⟩
      exact k _ _ (PD hX)
    · refine sr rfl fun av wq hUw h K k => ?_
      have eh112 := h.A 2 112
      have eh119 := h.A 9 119
      have hEw := hE.up hUw
      have hcc := law_dot f1 f2 f3 x3 x6 x9 wq hEw (Nat.le_trans rf1 (by decide)) (Nat.le_trans rf2 (by decide)) (Nat.le_trans rf3 (by decide)) (Nat.le_trans rx3.out (by decide)) (Nat.le_trans rx6.out (by decide)) (Nat.le_trans rx9.out (by decide))
      rw [← Hx10.out, ← Hx11.out, ← Hx12.out, ← Hx13.out, ← Hx14.out] at hcc
      clear h; go_simp
      refine (hcc).mono ?_
      rintro _ w2 ⟨rfl, hX⟩
      exact k _ _ (PD hX)
    · refine sr rfl fun av wq hUw h K k => ?_
      have eh120 := h.A 10 120
      have hz0 : ((rB x14).toList == [48]) = true := by rw [rB_is0]; exact decide_eq_true HD.out
      clear h; go_simp
      exact k _ _ P0
    · refine sr rfl fun av wq hUw h K k => ?_
      have eh121 := h.A 11 121
      clear h; go_simp
      exact k _ _ P0
  refine end_of fun bt8 ac8 wd8 d8 z8 hU8 v8 g8 => ?_
  replace d8 := d8.trans d7; replace z8 := z8.trans z7
  clear d7 z7
  refine hK9 _ _ ?_
  refine wp_cond_true (eval_of (g8.T 12 109)) ?_
  refine wp_seq_k fun K10 hK10 => ?_
  refine region_line 163 (dso [122, 123, 124, 125, 126, 4]) [999, 999, 999, 999, 999, 999] [0, 0, 0, 0, 0, 0] [] []
   [fun _ => .int .i64 18, fun _ => .bool true, fun _ => .bool true, fun _ => .bool true, fun _ => .bool true, fun _ => .bool true]
   [T0, T0, T0, T0, T0, T0]
   [] [(bt1 0), (bt1 1), (bt2 12), (bt3 16), (bt5 9), (bt6 14)] w z8 (by kernel_rfl) ⟨loc_true, loc_true, loc_true, loc_true, loc_true, loc_true, trivial⟩ trivial g8.B g8.N hU8 (allG_of trivial) (fun β hβ => ?_) ?_
  · refine sc ?_ (sc ?_ (sc ?_ (sc ?_ (sc ?_ (sc ?_ (sn))))))
    · refine sr rfl fun av wq hUw h K k => ?_
      have eh6 := h.B 6 ((v8 6 rfl).trans ((v7 6 rfl).trans ((v6 6 rfl).trans ((v5 6 rfl).trans ((v4 6 rfl).trans (g3.T 18 6))))))
      clear h; go_simp
      exact k _ _ P0
    · refine sr rfl fun av wq hUw h K k => ?_
      have eh122 := h.A 0 122
      clear h; go_simp
      exact k _ _ P0
    · refine sr rfl fun av wq hUw h K k => ?_
      have eh123 := h.A 1 123
      clear h; go_simp
      exact k _ _ P0
    · refine sg (t := 124) rfl rfl fun av wq hUw h => ⟨h.A 2 124, fun K k => ?_⟩
      have eh7 := h.B 7 ((v8 7 rfl).trans ((v7 7 rfl).trans ((v6 7 rfl).trans ((v5 7 rfl).trans (g4.T 3 7)))))
      clear h; go_simp
      exact k _ _ P0
    · refine sr rfl fun av wq hUw h K k => ?_
      have eh124 := h.A 2 124
      have eh125 := h.A 3 125
      clear h; go_simp
      exact k _ _ P0
    · refine sr rfl fun av wq hUw h K k => ?_
      have eh126 := h.A 4 126
      clear h; go_simp
      exact k _ _ P0
  refine end_of fun bt9 ac9 wd9 d9 z9 hU9 v9 g9 => ?_
  replace d9 := d9.trans d8; replace z9 := z9.trans z8
  clear d8 z8
  refine hK10 _ _ ?_
  have et4 := g9.T 5 4
  refine wp_ret ?_
  refine block_ret ?_
  refine then_ret ?_
  refine bodyPost_ret (v := .bool true) (by simp [results, Tryz.f3, go_sem, et4]) d9 ?_
  exact ⟨rfl, hU9⟩

theorem solve_eq0 (f1 f2 f3 a1 a2 a3 b1 b2 b3 ao bo am bm : Rat) (hd : (((f1 * ((a2 * b3) - (a3 * b2))) + (f2 * ((a3 * b1) - (a1 * b3)))) + (f3 * ((a1 * b2) - (a2 * b1)))) ≠ 0) : (((f1 * ((((((a2 * b3) - (a3 * b2)) * 0) + (((b2 * f3) - (b3 * f2)) * (am - ao))) + (((f2 * a3) - (f3 * a2)) * (bm - bo))) * (1 / (((f1 * ((a2 * b3) - (a3 * b2))) + (f2 * ((a3 * b1) - (a1 * b3)))) + (f3 * ((a1 * b2) - (a2 * b1))))))) + (f2 * ((((((a3 * b1) - (a1 * b3)) * 0) + (((b3 * f1) - (b1 * f3)) * (am - ao))) + (((f3 * a1) - (f1 * a3)) * (bm - bo))) * (1 / (((f1 * ((a2 * b3) - (a3 * b2))) + (f2 * ((a3 * b1) - (a1 * b3)))) + (f3 * ((a1 * b2) - (a2 * b1)))))))) + (f3 * ((((((a1 * b2) - (a2 * b1)) * 0) + (((b1 * f2) - (b2 * f1)) * (am - ao))) + (((f1 * a2) - (f2 * a1)) * (bm - bo))) * (1 / (((f1 * ((a2 * b3) - (a3 * b2))) + (f2 * ((a3 * b1) - (a1 * b3)))) + (f3 * ((a1 * b2) - (a2 * b1)))))))) = 0 := by
  grind
theorem solve_eq1 (f1 f2 f3 a1 a2 a3 b1 b2 b3 ao bo am bm : Rat) (hd : (((f1 * ((a2 * b3) - (a3 * b2))) + (f2 * ((a3 * b1) - (a1 * b3)))) + (f3 * ((a1 * b2) - (a2 * b1)))) ≠ 0) : (((a1 * ((((((a2 * b3) - (a3 * b2)) * 0) + (((b2 * f3) - (b3 * f2)) * (am - ao))) + (((f2 * a3) - (f3 * a2)) * (bm - bo))) * (1 / (((f1 * ((a2 * b3) - (a3 * b2))) + (f2 * ((a3 * b1) - (a1 * b3)))) + (f3 * ((a1 * b2) - (a2 * b1))))))) + (a2 * ((((((a3 * b1) - (a1 * b3)) * 0) + (((b3 * f1) - (b1 * f3)) * (am - ao))) + (((f3 * a1) - (f1 * a3)) * (bm - bo))) * (1 / (((f1 * ((a2 * b3) - (a3 * b2))) + (f2 * ((a3 * b1) - (a1 * b3)))) + (f3 * ((a1 * b2) - (a2 * b1)))))))) + (a3 * ((((((a1 * b2) - (a2 * b1)) * 0) + (((b1 * f2) - (b2 * f1)) * (am - ao))) + (((f1 * a2) - (f2 * a1)) * (bm - bo))) * (1 / (((f1 * ((a2 * b3) - (a3 * b2))) + (f2 * ((a3 * b1) - (a1 * b3)))) + (f3 * ((a1 * b2) - (a2 * b1)))))))) = (am - ao) := by
  grind
theorem solve_eq2 (f1 f2 f3 a1 a2 a3 b1 b2 b3 ao bo am bm : Rat) (hd : (((f1 * ((a2 * b3) - (a3 * b2))) + (f2 * ((a3 * b1) - (a1 * b3)))) + (f3 * ((a1 * b2) - (a2 * b1)))) ≠ 0) : (((b1 * ((((((a2 * b3) - (a3 * b2)) * 0) + (((b2 * f3) - (b3 * f2)) * (am - ao))) + (((f2 * a3) - (f3 * a2)) * (bm - bo))) * (1 / (((f1 * ((a2 * b3) - (a3 * b2))) + (f2 * ((a3 * b1) - (a1 * b3)))) + (f3 * ((a1 * b2) - (a2 * b1))))))) + (b2 * ((((((a3 * b1) - (a1 * b3)) * 0) + (((b3 * f1) - (b1 * f3)) * (am - ao))) + (((f3 * a1) - (f1 * a3)) * (bm - bo))) * (1 / (((f1 * ((a2 * b3) - (a3 * b2))) + (f2 * ((a3 * b1) - (a1 * b3)))) + (f3 * ((a1 * b2) - (a2 * b1)))))))) + (b3 * ((((((a1 * b2) - (a2 * b1)) * 0) + (((b1 * f2) - (b2 * f1)) * (am - ao))) + (((f1 * a2) - (f2 * a1)) * (bm - bo))) * (1 / (((f1 * ((a2 * b3) - (a3 * b2))) + (f2 * ((a3 * b1) - (a1 * b3)))) + (f3 * ((a1 * b2) - (a2 * b1)))))))) = (bm - bo) := by
  grind
set_option maxRecDepth 100000 in
set_option maxHeartbeats 4000000 in
theorem solves_ok (f1 f2 f3 fo a1 a2 a3 ao b1 b2 b3 bo am bm : Rat) (w : World) (hE : Env w) (rf1 : rlen f1 ≤ 20) (rf2 : rlen f2 ≤ 20) (rf3 : rlen f3 ≤ 20) (rfo : rlen fo ≤ 20) (ra1 : rlen a1 ≤ 20) (ra2 : rlen a2 ≤ 20) (ra3 : rlen a3 ≤ 20) (rao : rlen ao ≤ 20) (rb1 : rlen b1 ≤ 20) (rb2 : rlen b2 ≤ 20) (rb3 : rlen b3 ≤ 20) (rbo : rlen bo ≤ 20) (ram : rlen am ≤ 20) (rbm : rlen bm ≤ 20) (hL : ([(rB f1, rB f2, rB f3), (rB a1, rB a2, rB a3), (rB b1, rB b2, rB b3)] : List Tri).any lgV = false) (hM : ¬ 8 < mx2 (mx2 (mx2 (mx2 ((rB fo).size : Int) ((rB ao).size : Int)) ((rB bo).size : Int)) ((rB am).size : Int)) ((rB bm).size : Int)) (hB : (([rB fo, rB ao, rB bo, rB am, rB bm] : List ByteArray).all okR && !(([(rB f1, rB f2, rB f3), (rB a1, rB a2, rB a3), (rB b1, rB b2, rB b3)] : List Tri).any badV)) = true) (hF : firstE [errN (okV (rB f1, rB f2, rB f3) && okR (rB fo)), errN (okV (rB a1, rB a2, rB a3) && okR (rB ao)), errN (([rB am] : List ByteArray).all okR), errN (okV (rB b1, rB b2, rB b3) && okR (rB bo)), errN (([rB bm] : List ByteArray).all okR)] = 0) (hZ : ([(rB f1, rB f2, rB f3), (rB a1, rB a2, rB a3), (rB b1, rB b2, rB b3)] : List Tri).any zV = false) (hd : (((f1 * ((a2 * b3) - (a3 * b2))) + (f2 * ((a3 * b1) - (a1 * b3)))) + (f3 * ((a1 * b2) - (a2 * b1)))) ≠ 0) (hO : okV (rB ((((((a2 * b3) - (a3 * b2)) * 0) + (((b2 * f3) - (b3 * f2)) * (am - ao))) + (((f2 * a3) - (f3 * a2)) * (bm - bo))) * (1 / (((f1 * ((a2 * b3) - (a3 * b2))) + (f2 * ((a3 * b1) - (a1 * b3)))) + (f3 * ((a1 * b2) - (a2 * b1)))))), rB ((((((a3 * b1) - (a1 * b3)) * 0) + (((b3 * f1) - (b1 * f3)) * (am - ao))) + (((f3 * a1) - (f1 * a3)) * (bm - bo))) * (1 / (((f1 * ((a2 * b3) - (a3 * b2))) + (f2 * ((a3 * b1) - (a1 * b3)))) + (f3 * ((a1 * b2) - (a2 * b1)))))), rB ((((((a1 * b2) - (a2 * b1)) * 0) + (((b1 * f2) - (b2 * f1)) * (am - ao))) + (((f1 * a2) - (f2 * a1)) * (bm - bo))) * (1 / (((f1 * ((a2 * b3) - (a3 * b2))) + (f2 * ((a3 * b1) - (a1 * b3)))) + (f3 * ((a1 * b2) - (a2 * b1))))))) = true) :
    Calls Tryz.prog 3 #[.agg #[.string (rB f1), .string (rB f2), .string (rB f3), .string (rB fo), .string (rB a1), .string (rB a2), .string (rB a3), .string (rB ao), .string (rB b1), .string (rB b2), .string (rB b3), .string (rB bo)], .agg #[.string (rB am), .string (rB bm)]] w (Ret w (.bool true)) := by
  have HL := Lib.hid hL
  have HM := Lib.hid hM
  have HB := Lib.hid hB
  have HF := Lib.hid hF
  clear hL hM hB hF
  have HZ := Lib.hid hZ
  obtain ⟨x1, Hx1, rx1⟩ := nmul ra2 rb3
  obtain ⟨x2, Hx2, rx2⟩ := nmul ra3 rb2
  obtain ⟨x3, Hx3, rx3⟩ := nsub rx1.out rx2.out
  obtain ⟨x4, Hx4, rx4⟩ := nmul ra3 rb1
  obtain ⟨x5, Hx5, rx5⟩ := nmul ra1 rb3
  obtain ⟨x6, Hx6, rx6⟩ := nsub rx4.out rx5.out
  obtain ⟨x7, Hx7, rx7⟩ := nmul ra1 rb2
  obtain ⟨x8, Hx8, rx8⟩ := nmul ra2 rb1
  obtain ⟨x9, Hx9, rx9⟩ := nsub rx7.out rx8.out
  obtain ⟨x10, Hx10, rx10⟩ := nmul rf1 rx3.out
  obtain ⟨x11, Hx11, rx11⟩ := nmul rf2 rx6.out
  obtain ⟨x12, Hx12, rx12⟩ := nadd rx10.out rx11.out
  obtain ⟨x13, Hx13, rx13⟩ := nmul rf3 rx9.out
  obtain ⟨x14, Hx14, rx14⟩ := nadd rx12.out rx13.out
  have HDF := Lib.hid hd
  have HD := Lib.hid (show x14 ≠ 0 from (by simp only [Hx14.out, Hx12.out, Hx10.out, Hx3.out, Hx1.out, Hx2.out, Hx11.out, Hx6.out, Hx4.out, Hx5.out, Hx13.out, Hx9.out, Hx7.out, Hx8.out]; exact hd))
  obtain ⟨x15, Hx15, rx15⟩ := nsub ram rao
  obtain ⟨x16, Hx16, rx16⟩ := nsub rbm rbo
  obtain ⟨x17, Hx17, rx17⟩ := nmul rb2 rf3
  obtain ⟨x18, Hx18, rx18⟩ := nmul rb3 rf2
  obtain ⟨x19, Hx19, rx19⟩ := nsub rx17.out rx18.out
  obtain ⟨x20, Hx20, rx20⟩ := nmul rb3 rf1
  obtain ⟨x21, Hx21, rx21⟩ := nmul rb1 rf3
  obtain ⟨x22, Hx22, rx22⟩ := nsub rx20.out rx21.out
  obtain ⟨x23, Hx23, rx23⟩ := nmul rb1 rf2
  obtain ⟨x24, Hx24, rx24⟩ := nmul rb2 rf1
  obtain ⟨x25, Hx25, rx25⟩ := nsub rx23.out rx24.out
  obtain ⟨x26, Hx26, rx26⟩ := nmul rf2 ra3
  obtain ⟨x27, Hx27, rx27⟩ := nmul rf3 ra2
  obtain ⟨x28, Hx28, rx28⟩ := nsub rx26.out rx27.out
  obtain ⟨x29, Hx29, rx29⟩ := nmul rf3 ra1
  obtain ⟨x30, Hx30, rx30⟩ := nmul rf1 ra3
  obtain ⟨x31, Hx31, rx31⟩ := nsub rx29.out rx30.out
  obtain ⟨x32, Hx32, rx32⟩ := nmul rf1 ra2
  obtain ⟨x33, Hx33, rx33⟩ := nmul rf2 ra1
  obtain ⟨x34, Hx34, rx34⟩ := nsub rx32.out rx33.out
  obtain ⟨x35, Hx35, rx35⟩ := ndiv rlen_c_1 rx14.out HD.out
  obtain ⟨x36, Hx36, rx36⟩ := nmul rx3.out rlen_c_0
  obtain ⟨x37, Hx37, rx37⟩ := nmul rx19.out rx15.out
  obtain ⟨x38, Hx38, rx38⟩ := nadd rx36.out rx37.out
  obtain ⟨x39, Hx39, rx39⟩ := nmul rx28.out rx16.out
  obtain ⟨x40, Hx40, rx40⟩ := nadd rx38.out rx39.out
  obtain ⟨x41, Hx41, rx41⟩ := nmul rx40.out rx35.out
  obtain ⟨x42, Hx42, rx42⟩ := nmul rx6.out rlen_c_0
  obtain ⟨x43, Hx43, rx43⟩ := nmul rx22.out rx15.out
  obtain ⟨x44, Hx44, rx44⟩ := nadd rx42.out rx43.out
  obtain ⟨x45, Hx45, rx45⟩ := nmul rx31.out rx16.out
  obtain ⟨x46, Hx46, rx46⟩ := nadd rx44.out rx45.out
  obtain ⟨x47, Hx47, rx47⟩ := nmul rx46.out rx35.out
  obtain ⟨x48, Hx48, rx48⟩ := nmul rx9.out rlen_c_0
  obtain ⟨x49, Hx49, rx49⟩ := nmul rx25.out rx15.out
  obtain ⟨x50, Hx50, rx50⟩ := nadd rx48.out rx49.out
  obtain ⟨x51, Hx51, rx51⟩ := nmul rx34.out rx16.out
  obtain ⟨x52, Hx52, rx52⟩ := nadd rx50.out rx51.out
  obtain ⟨x53, Hx53, rx53⟩ := nmul rx52.out rx35.out
  have HOF := Lib.hid hO
  have HO := Lib.hid (show okV (rB x41, rB x47, rB x53) = true from (by simp only [Hx41.out, Hx40.out, Hx38.out, Hx36.out, Hx3.out, Hx1.out, Hx2.out, Hx37.out, Hx19.out, Hx17.out, Hx18.out, Hx15.out, Hx39.out, Hx28.out, Hx26.out, Hx27.out, Hx16.out, Hx35.out, Hx14.out, Hx12.out, Hx10.out, Hx11.out, Hx6.out, Hx4.out, Hx5.out, Hx13.out, Hx9.out, Hx7.out, Hx8.out, Hx47.out, Hx46.out, Hx44.out, Hx42.out, Hx43.out, Hx22.out, Hx20.out, Hx21.out, Hx45.out, Hx31.out, Hx29.out, Hx30.out, Hx53.out, Hx52.out, Hx50.out, Hx48.out, Hx49.out, Hx25.out, Hx23.out, Hx24.out, Hx51.out, Hx34.out, Hx32.out, Hx33.out]; exact hO))
  obtain ⟨x54, Hx54, rx54⟩ := nmul rf1 rx41.out
  obtain ⟨x55, Hx55, rx55⟩ := nmul rf2 rx47.out
  obtain ⟨x56, Hx56, rx56⟩ := nadd rx54.out rx55.out
  obtain ⟨x57, Hx57, rx57⟩ := nmul rf3 rx53.out
  obtain ⟨x58, Hx58, rx58⟩ := nadd rx56.out rx57.out
  obtain ⟨x59, Hx59, rx59⟩ := nmul ra1 rx41.out
  obtain ⟨x60, Hx60, rx60⟩ := nmul ra2 rx47.out
  obtain ⟨x61, Hx61, rx61⟩ := nadd rx59.out rx60.out
  obtain ⟨x62, Hx62, rx62⟩ := nmul ra3 rx53.out
  obtain ⟨x63, Hx63, rx63⟩ := nadd rx61.out rx62.out
  obtain ⟨x64, Hx64, rx64⟩ := nmul rb1 rx41.out
  obtain ⟨x65, Hx65, rx65⟩ := nmul rb2 rx47.out
  obtain ⟨x66, Hx66, rx66⟩ := nadd rx64.out rx65.out
  obtain ⟨x67, Hx67, rx67⟩ := nmul rb3 rx53.out
  obtain ⟨x68, Hx68, rx68⟩ := nadd rx66.out rx67.out
  have HV0 := Lib.hid (show x58 = 0 from (by simp only [Hx58.out, Hx56.out, Hx54.out, Hx41.out, Hx40.out, Hx38.out, Hx36.out, Hx3.out, Hx1.out, Hx2.out, Hx37.out, Hx19.out, Hx17.out, Hx18.out, Hx15.out, Hx39.out, Hx28.out, Hx26.out, Hx27.out, Hx16.out, Hx35.out, Hx14.out, Hx12.out, Hx10.out, Hx11.out, Hx6.out, Hx4.out, Hx5.out, Hx13.out, Hx9.out, Hx7.out, Hx8.out, Hx55.out, Hx47.out, Hx46.out, Hx44.out, Hx42.out, Hx43.out, Hx22.out, Hx20.out, Hx21.out, Hx45.out, Hx31.out, Hx29.out, Hx30.out, Hx57.out, Hx53.out, Hx52.out, Hx50.out, Hx48.out, Hx49.out, Hx25.out, Hx23.out, Hx24.out, Hx51.out, Hx34.out, Hx32.out, Hx33.out]; exact solve_eq0 f1 f2 f3 a1 a2 a3 b1 b2 b3 ao bo am bm hd))
  have HV1 := Lib.hid (show x63 = x15 from (by simp only [Hx63.out, Hx61.out, Hx59.out, Hx41.out, Hx40.out, Hx38.out, Hx36.out, Hx3.out, Hx1.out, Hx2.out, Hx37.out, Hx19.out, Hx17.out, Hx18.out, Hx15.out, Hx39.out, Hx28.out, Hx26.out, Hx27.out, Hx16.out, Hx35.out, Hx14.out, Hx12.out, Hx10.out, Hx11.out, Hx6.out, Hx4.out, Hx5.out, Hx13.out, Hx9.out, Hx7.out, Hx8.out, Hx60.out, Hx47.out, Hx46.out, Hx44.out, Hx42.out, Hx43.out, Hx22.out, Hx20.out, Hx21.out, Hx45.out, Hx31.out, Hx29.out, Hx30.out, Hx62.out, Hx53.out, Hx52.out, Hx50.out, Hx48.out, Hx49.out, Hx25.out, Hx23.out, Hx24.out, Hx51.out, Hx34.out, Hx32.out, Hx33.out]; exact solve_eq1 f1 f2 f3 a1 a2 a3 b1 b2 b3 ao bo am bm hd))
  have HV2 := Lib.hid (show x68 = x16 from (by simp only [Hx68.out, Hx66.out, Hx64.out, Hx41.out, Hx40.out, Hx38.out, Hx36.out, Hx3.out, Hx1.out, Hx2.out, Hx37.out, Hx19.out, Hx17.out, Hx18.out, Hx15.out, Hx39.out, Hx28.out, Hx26.out, Hx27.out, Hx16.out, Hx35.out, Hx14.out, Hx12.out, Hx10.out, Hx11.out, Hx6.out, Hx4.out, Hx5.out, Hx13.out, Hx9.out, Hx7.out, Hx8.out, Hx65.out, Hx47.out, Hx46.out, Hx44.out, Hx42.out, Hx43.out, Hx22.out, Hx20.out, Hx21.out, Hx45.out, Hx31.out, Hx29.out, Hx30.out, Hx67.out, Hx53.out, Hx52.out, Hx50.out, Hx48.out, Hx49.out, Hx25.out, Hx23.out, Hx24.out, Hx51.out, Hx34.out, Hx32.out, Hx33.out]; exact solve_eq2 f1 f2 f3 a1 a2 a3 b1 b2 b3 ao bo am bm hd))
  clear hZ hd hO
  go_enter Tryz.func3, Tryz.ntmps3
  refine enter_abs fun ac0 d0 z0 he0 => ?_
  have hU0 := Up.refl w
  have T0_0 := he0 0 _ rfl
  have T1_0 := he0 1 _ rfl
  replace z0 : ac0.tmps.size = 163 := z0
  clear he0
  refine wp_seq_k fun K0 hK0 => ?_
  refine region_line 163 (dso [2, 3, 4]) [0, 1, 999] [1, 1, 0] [] []
   [fun b => .pointer (some ⟨b, 0, none⟩), fun b => .pointer (some ⟨b, 0, none⟩), fun _ => .bool false]
   [Bw [.string (rB f1), .string (rB f2), .string (rB f3), .string (rB fo), .string (rB a1), .string (rB a2), .string (rB a3), .string (rB ao), .string (rB b1), .string (rB b2), .string (rB b3), .string (rB bo)], Bw [.string (rB am), .string (rB bm)], T0]
   [] ([] : List Nat) w z0 (by kernel_rfl) ⟨Bw.loc _, Bw.loc _, loc_true, trivial⟩ trivial (allB_of trivial) List.nodup_nil hU0 (allG_of trivial) (fun β hβ => ?_) ?_
  · refine sc ?_ (sc ?_ (sc ?_ (sn)))
    · refine sr rfl fun av wq hUw h K k => ?_
      have eh0 := h.B 0 T0_0
      clear h; go_simp
      exact k _ _ (PostN rfl rfl rfl rfl rfl)
    · refine sr rfl fun av wq hUw h K k => ?_
      have eh1 := h.B 1 T1_0
      clear h; go_simp
      exact k _ _ (PostN rfl rfl rfl rfl rfl)
    · refine sr rfl fun av wq hUw h K k => ?_
      clear h; go_simp
      exact k _ _ P0
  refine end_of fun bt1 ac1 wd1 d1 z1 hU1 v1 g1 => ?_
  replace d1 := d1.trans d0; replace z1 := z1.trans z0
  clear d0 z0
  refine hK0 _ _ ?_
  refine wp_seq_k fun K1 hK1 => ?_
  refine wp_seq_k fun K2 hK2 => ?_
  refine region_line 163 (dso [10, 11, 12, 13, 14, 15, 16, 17, 18, 19, 20, 21, 22, 23, 24, 25, 26, 27, 28, 29, 30, 31, 32, 33, 34, 35, 36, 37, 38, 39, 40, 41, 42, 43, 44, 45, 46, 47]) [999, 999, 999, 999, 999, 999, 999, 999, 999, 999, 999, 999, 12, 999, 999, 999, 999, 999, 999, 999, 999, 999, 999, 999, 999, 999, 999, 999, 999, 999, 999, 999, 999, 999, 999, 999, 999, 999] [0, 0, 0, 0, 0, 0, 0, 0, 0, 0, 0, 0, 1, 0, 0, 0, 0, 0, 0, 0, 0, 0, 0, 0, 0, 0, 0, 0, 0, 0, 0, 0, 0, 0, 0, 0, 0, 0] [] []
   [fun _ => .bool true, fun _ => .bool false, fun _ => .bool false, fun _ => .pointer (some ⟨(bt1 0), 0, none⟩), fun _ => .pointer (some ⟨(bt1 0), 0, none⟩), fun _ => .agg #[.string (rB f1), .string (rB f2), .string (rB f3)], fun _ => .pointer (some ⟨(bt1 0), 4, none⟩), fun _ => .pointer (some ⟨(bt1 0), 4, none⟩), fun _ => .agg #[.string (rB a1), .string (rB a2), .string (rB a3)], fun _ => .pointer (some ⟨(bt1 0), 8, none⟩), fun _ => .pointer (some ⟨(bt1 0), 8, none⟩), fun _ => .agg #[.string (rB b1), .string (rB b2), .string (rB b3)], fun b => .slice (some ⟨b, 0, none⟩) 3 3, fun _ => .bool true, fun _ => .bool false, fun _ => .bool false, fun _ => .bool false, fun _ => .pointer (some ⟨(bt1 0), 0, none⟩), fun _ => .pointer (some ⟨(bt1 0), 3, none⟩), fun _ => .string (rB fo), fun _ => .int .i64 ((rB fo).size : Int), fun _ => .pointer (some ⟨(bt1 0), 4, none⟩), fun _ => .pointer (some ⟨(bt1 0), 7, none⟩), fun _ => .string (rB ao), fun _ => .int .i64 ((rB ao).size : Int), fun _ => .pointer (some ⟨(bt1 0), 8, none⟩), fun _ => .pointer (some ⟨(bt1 0), 11, none⟩), fun _ => .string (rB bo), fun _ => .int .i64 ((rB bo).size : Int), fun _ => .pointer (some ⟨(bt1 1), 0, none⟩), fun _ => .string (rB am), fun _ => .int .i64 ((rB am).size : Int), fun _ => .pointer (some ⟨(bt1 1), 1, none⟩), fun _ => .string (rB bm), fun _ => .int .i64 ((rB bm).size : Int), fun _ => .int .i64 (mx2 (mx2 (mx2 (mx2 ((rB fo).size : Int) ((rB ao).size : Int)) ((rB bo).size : Int)) ((rB am).size : Int)) ((rB bm).size : Int)), fun _ => .bool false, fun _ => .bool false]
   [T0, T0, T0, T0, T0, T0, T0, T0, T0, T0, T0, T0, Bw [.string (rB f1), .string (rB f2), .string (rB f3), .string (rB a1), .string (rB a2), .string (rB a3), .string (rB b1), .string (rB b2), .string (rB b3)], T0, T0, T0, T0, T0, T0, T0, T0, T0, T0, T0, T0, T0, T0, T0, T0, T0, T0, T0, T0, T0, T0, T0, T0, T0]
   [] [(bt1 0), (bt1 1)] w z1 (by kernel_rfl) ⟨loc_true, loc_true, loc_true, loc_true, loc_true, loc_true, loc_true, loc_true, loc_true, loc_true, loc_true, loc_true, Bw.loc _, loc_true, loc_true, loc_true, loc_true, loc_true, loc_true, loc_true, loc_true, loc_true, loc_true, loc_true, loc_true, loc_true, loc_true, loc_true, loc_true, loc_true, loc_true, loc_true, loc_true, loc_true, loc_true, loc_true, loc_true, loc_true, trivial⟩ trivial g1.B g1.N hU1 (allG_of trivial) (fun β hβ => ?_) ?_
  · refine sc ?_ (sc ?_ (sc ?_ (sc ?_ (sc ?_ (sc ?_ (sc ?_ (sc ?_ (sc ?_ (sc ?_ (sc ?_ (sc ?_ (sc ?_ (sc ?_ (sc ?_ (sc ?_ (sc ?_ (sc ?_ (sc ?_ (sc ?_ (sc ?_ (sc ?_ (sc ?_ (sc ?_ (sc ?_ (sc ?_ (sc ?_ (sc ?_ (sc ?_ (sc ?_ (sc ?_ (sc ?_ (sc ?_ (sc ?_ (sc ?_ (sc ?_ (sc ?_ (sc ?_ (sn))))))))))))))))))))))))))))))))))))))
    · refine sr rfl fun av wq hUw h K k => ?_
      have hEw := hE.up hUw
      clear h; go_simp
      refine (law_known wq hEw).mono ?_
      rintro _ w2 ⟨rfl, hX⟩
      exact k _ _ (PD hX)
    · refine sr rfl fun av wq hUw h K k => ?_
      have eh10 := h.A 0 10
      clear h; go_simp
      exact k _ _ P0
    · refine sr rfl fun av wq hUw h K k => ?_
      have eh11 := h.A 1 11
      clear h; go_simp
      exact k _ _ P0
    · refine sg (t := 12) rfl rfl fun av wq hUw h => ⟨h.A 2 12, fun K k => ?_⟩
      have eh2 := h.B 2 (g1.T 0 2)
      clear h; go_simp
      exact k _ _ P0
    · refine sg (t := 12) rfl rfl fun av wq hUw h => ⟨h.A 2 12, fun K k => ?_⟩
      have eh13 := h.A 3 13
      clear h; go_simp
      exact k _ _ P0
    · refine sg (t := 12) rfl rfl fun av wq hUw h => ⟨h.A 2 12, fun K k => ?_⟩
      have eh14 := h.A 4 14
      have eb0 := (g1.f 0 rfl rfl rfl rfl).up (h.W rfl)
      obtain ⟨ec0, ec1, ec2⟩ := eb0.c3 0 1 2
      clear h; go_simp
      exact k _ _ P0
    · refine sg (t := 12) rfl rfl fun av wq hUw h => ⟨h.A 2 12, fun K k => ?_⟩
      have eh2 := h.B 2 (g1.T 0 2)
      clear h; go_simp
      exact k _ _ P0
    · refine sg (t := 12) rfl rfl fun av wq hUw h => ⟨h.A 2 12, fun K k => ?_⟩
      have eh16 := h.A 6 16
      clear h; go_simp
      exact k _ _ P0
    · refine sg (t := 12) rfl rfl fun av wq hUw h => ⟨h.A 2 12, fun K k => ?_⟩
      have eh17 := h.A 7 17
      have eb0 := (g1.f 0 rfl rfl rfl rfl).up (h.W rfl)
      obtain ⟨ec0, ec1, ec2⟩ := eb0.c3 4 5 6
      clear h; go_simp
      exact k _ _ P0
    · refine sg (t := 12) rfl rfl fun av wq hUw h => ⟨h.A 2 12, fun K k => ?_⟩
      have eh2 := h.B 2 (g1.T 0 2)
      clear h; go_simp
      exact k _ _ P0
    · refine sg (t := 12) rfl rfl fun av wq hUw h => ⟨h.A 2 12, fun K k => ?_⟩
      have eh19 := h.A 9 19
      clear h; go_simp
      exact k _ _ P0
    · refine sg (t := 12) rfl rfl fun av wq hUw h => ⟨h.A 2 12, fun K k => ?_⟩
      have eh20 := h.A 10 20
      have eb0 := (g1.f 0 rfl rfl rfl rfl).up (h.W rfl)
      obtain ⟨ec0, ec1, ec2⟩ := eb0.c3 8 9 10
      clear h; go_simp
      exact k _ _ P0
    · refine sg (t := 12) rfl rfl fun av wq hUw h => ⟨h.A 2 12, fun K k => ?_⟩
      have eh15 := h.A 5 15
      have eh18 := h.A 8 18
      have eh21 := h.A 11 21
      clear h; go_simp
      exact k _ _ (PostN rfl rfl rfl rfl rfl)
    · refine sg (t := 12) rfl rfl fun av wq hUw h => ⟨h.A 2 12, fun K k => ?_⟩
      have eh22 := h.A 12 22
      have hEw := hE.up hUw
      have eb1 := h.F 12
      have hmeb1 := Bw.slv (L := [(rB f1, rB f2, rB f3), (rB a1, rB a2, rB a3), (rB b1, rB b2, rB b3)]) eb1 rfl
      have hkn : ([(rB f1, rB f2, rB f3), (rB a1, rB a2, rB a3), (rB b1, rB b2, rB b3)] : List Tri).any lgV = false := HL.out
      have hcc := law_brief [(rB f1, rB f2, rB f3), (rB a1, rB a2, rB a3), (rB b1, rB b2, rB b3)] (β 12) 3 wq hEw hmeb1 rfl (by decide)
      rw [hkn] at hcc
      clear hkn
      clear h; go_simp
      refine (hcc).mono ?_
      rintro _ w2 ⟨rfl, hX⟩
      exact k _ _ (PD hX)
    · refine sg (t := 12) rfl rfl fun av wq hUw h => ⟨h.A 2 12, fun K k => ?_⟩
      have eh23 := h.A 13 23
      clear h; go_simp
      exact k _ _ P0
    · refine sr rfl fun av wq hUw h K k => ?_
      have eh12 := h.A 2 12
      have eh24 := h.A 14 24
      clear h; go_simp
      exact k _ _ P0
    · refine sr rfl fun av wq hUw h K k => ?_
      have eh25 := h.A 15 25
      clear h; go_simp
      exact k _ _ P0
    · refine sg (t := 26) rfl rfl fun av wq hUw h => ⟨h.A 16 26, fun K k => ?_⟩
      have eh2 := h.B 2 (g1.T 0 2)
      clear h; go_simp
      exact k _ _ P0
    · refine sg (t := 26) rfl rfl fun av wq hUw h => ⟨h.A 16 26, fun K k => ?_⟩
      have eh27 := h.A 17 27
      clear h; go_simp
      exact k _ _ P0
    · refine sg (t := 26) rfl rfl fun av wq hUw h => ⟨h.A 16 26, fun K k => ?_⟩
      have eh28 := h.A 18 28
      have eb0 := (g1.f 0 rfl rfl rfl rfl).up (h.W rfl)
      have ec0 := eb0.cell 3 rfl
      clear h; go_simp
      exact k _ _ P0
    · refine sg (t := 26) rfl rfl fun av wq hUw h => ⟨h.A 16 26, fun K k => ?_⟩
      have eh29 := h.A 19 29
      clear h; go_simp
      exact k _ _ P0
    · refine sg (t := 26) rfl rfl fun av wq hUw h => ⟨h.A 16 26, fun K k => ?_⟩
      have eh2 := h.B 2 (g1.T 0 2)
      clear h; go_simp
      exact k _ _ P0
    · refine sg (t := 26) rfl rfl fun av wq hUw h => ⟨h.A 16 26, fun K k => ?_⟩
      have eh31 := h.A 21 31
      clear h; go_simp
      exact k _ _ P0
    · refine sg (t := 26) rfl rfl fun av wq hUw h => ⟨h.A 16 26, fun K k => ?_⟩
      have eh32 := h.A 22 32
      have eb0 := (g1.f 0 rfl rfl rfl rfl).up (h.W rfl)
      have ec0 := eb0.cell 7 rfl
      clear h; go_simp
      exact k _ _ P0
    · refine sg (t := 26) rfl rfl fun av wq hUw h => ⟨h.A 16 26, fun K k => ?_⟩
      have eh33 := h.A 23 33
      clear h; go_simp
      exact k _ _ P0
    · refine sg (t := 26) rfl rfl fun av wq hUw h => ⟨h.A 16 26, fun K k => ?_⟩
      have eh2 := h.B 2 (g1.T 0 2)
      clear h; go_simp
      exact k _ _ P0
    · refine sg (t := 26) rfl rfl fun av wq hUw h => ⟨h.A 16 26, fun K k => ?_⟩
      have eh35 := h.A 25 35
      clear h; go_simp
      exact k _ _ P0
    · refine sg (t := 26) rfl rfl fun av wq hUw h => ⟨h.A 16 26, fun K k => ?_⟩
      have eh36 := h.A 26 36
      have eb0 := (g1.f 0 rfl rfl rfl rfl).up (h.W rfl)
      have ec0 := eb0.cell 11 rfl
      clear h; go_simp
      exact k _ _ P0
    · refine sg (t := 26) rfl rfl fun av wq hUw h => ⟨h.A 16 26, fun K k => ?_⟩
      have eh37 := h.A 27 37
      clear h; go_simp
      exact k _ _ P0
    · refine sg (t := 26) rfl rfl fun av wq hUw h => ⟨h.A 16 26, fun K k => ?_⟩
      have eh3 := h.B 3 (g1.T 1 3)
      clear h; go_simp
      exact k _ _ P0
    · refine sg (t := 26) rfl rfl fun av wq hUw h => ⟨h.A 16 26, fun K k => ?_⟩
      have eh39 := h.A 29 39
      have eb0 := (g1.f 1 rfl rfl rfl rfl).up (h.W rfl)
      have ec0 := eb0.cell 0 rfl
      clear h; go_simp
      exact k _ _ P0
    · refine sg (t := 26) rfl rfl fun av wq hUw h => ⟨h.A 16 26, fun K k => ?_⟩
      have eh40 := h.A 30 40
      clear h; go_simp
      exact k _ _ P0
    · refine sg (t := 26) rfl rfl fun av wq hUw h => ⟨h.A 16 26, fun K k => ?_⟩
      have eh3 := h.B 3 (g1.T 1 3)
      clear h; go_simp
      exact k _ _ P0
    · refine sg (t := 26) rfl rfl fun av wq hUw h => ⟨h.A 16 26, fun K k => ?_⟩
      have eh42 := h.A 32 42
      have eb0 := (g1.f 1 rfl rfl rfl rfl).up (h.W rfl)
      have ec0 := eb0.cell 1 rfl
      clear h; go_simp
      exact k _ _ P0
    · refine sg (t := 26) rfl rfl fun av wq hUw h => ⟨h.A 16 26, fun K k => ?_⟩
      have eh43 := h.A 33 43
      clear h; go_simp
      exact k _ _ P0
    · refine sg (t := 26) rfl rfl fun av wq hUw h => ⟨h.A 16 26, fun K k => ?_⟩
      have eh30 := h.A 20 30
      have eh34 := h.A 24 34
      have eh38 := h.A 28 38
      have eh41 := h.A 31 41
      have eh44 := h.A 34 44
      clear h; go_simp
      exact k _ _ P0
    · refine sg (t := 26) rfl rfl fun av wq hUw h => ⟨h.A 16 26, fun K k => ?_⟩
      have eh45 := h.A 35 45
      have hmx := HM.out; have hmy := decide_eq_false hmx
      clear h; go_simp
      exact k _ _ P0
    · refine sr rfl fun av wq hUw h K k => ?_
      have eh26 := h.A 16 26
      have eh46 := h.A 36 46
      clear h; go_simp
      exact k _ _ P0
  refine end_of fun bt2 ac2 wd2 d2 z2 hU2 v2 g2 => ?_
  replace d2 := d2.trans d1; replace z2 := z2.trans z1
  clear d1 z1
  refine hK2 _ _ ?_
  refine wp_cond_false (eval_of (g2.T 37 47)) ?_
  refine wp_skip ?_
  refine hK1 _ _ ?_
  refine wp_seq_k fun K3 hK3 => ?_
  refine region_line 163 (dso [50, 51, 52, 53, 54, 55, 56, 57, 58, 59, 60, 61, 62, 49, 63, 64, 5, 999, 6]) [999, 999, 999, 999, 999, 999, 999, 999, 999, 999, 999, 999, 999, 999, 999, 999, 16, 16, 999] [0, 0, 0, 0, 0, 0, 0, 0, 0, 0, 0, 0, 0, 0, 0, 0, 1, 2, 0] [999, 999, 999, 999, 999, 999, 999, 999, 999, 999, 999, 999, 999, 999, 999, 999, 17, 999, 999] []
   [fun _ => .pointer (some ⟨(bt1 0), 0, none⟩), fun _ => .agg #[.string (rB f1), .string (rB f2), .string (rB f3), .string (rB fo)], fun _ => .pointer (some ⟨(bt1 0), 4, none⟩), fun _ => .agg #[.string (rB a1), .string (rB a2), .string (rB a3), .string (rB ao)], fun _ => .pointer (some ⟨(bt1 1), 0, none⟩), fun _ => .string (rB am), fun _ => .agg #[.string (rB a1), .string (rB a2), .string (rB a3), .string (rB ao), .string (rB am)], fun _ => .pointer (some ⟨(bt1 0), 8, none⟩), fun _ => .agg #[.string (rB b1), .string (rB b2), .string (rB b3), .string (rB bo)], fun _ => .pointer (some ⟨(bt1 1), 1, none⟩), fun _ => .string (rB bm), fun _ => .agg #[.string (rB b1), .string (rB b2), .string (rB b3), .string (rB bo), .string (rB bm)], fun _ => .tuple #[.agg #[.string (rB x41), .string (rB x47), .string (rB x53)], .int .i64 0], fun _ => .tuple #[.agg #[.string (rB x41), .string (rB x47), .string (rB x53)], .int .i64 0], fun _ => .agg #[.string (rB x41), .string (rB x47), .string (rB x53)], fun _ => .int .i64 0, fun b => .pointer (some ⟨b, 0, none⟩), fun _ => undef, fun _ => .int .i64 0]
   [T0, T0, T0, T0, T0, T0, T0, T0, T0, T0, T0, T0, T0, T0, T0, T0, Bw [.string ⟨#[]⟩, .string ⟨#[]⟩, .string ⟨#[]⟩], Bw [.string (rB x41), .string (rB x47), .string (rB x53)], T0]
   [] [(bt1 0), (bt1 1), (bt2 12)] w z2 (by kernel_rfl) ⟨loc_true, loc_true, loc_true, loc_true, loc_true, loc_true, loc_true, loc_true, loc_true, loc_true, loc_true, loc_true, loc_true, loc_true, loc_true, loc_true, Bw.loc _, Bw.loc _, loc_true, trivial⟩ trivial g2.B g2.N hU2 (allG_of trivial) (fun β hβ => ?_) ?_
  · refine sc ?_ (sc ?_ (sc ?_ (sc ?_ (sc ?_ (sc ?_ (sc ?_ (sc ?_ (sc ?_ (sc ?_ (sc ?_ (sc ?_ (sc ?_ (sc ?_ (sc ?_ (sc ?_ (sc ?_ (sc ?_ (sc ?_ (sn)))))))))))))))))))
    · refine sr rfl fun av wq hUw h K k => ?_
      have eh2 := h.B 2 ((v2 2 rfl).trans (g1.T 0 2))
      clear h; go_simp
      exact k _ _ P0
    · refine sr rfl fun av wq hUw h K k => ?_
      have eh50 := h.A 0 50
      have eb0 := ((g1.f 0 rfl rfl rfl rfl).up (g2.W rfl)).up (h.W rfl)
      obtain ⟨ec0, ec1, ec2⟩ := eb0.c3 0 1 2
      have ec3 := eb0.cell 3 rfl
      clear h; go_simp
      exact k _ _ P0
    · refine sr rfl fun av wq hUw h K k => ?_
      have eh2 := h.B 2 ((v2 2 rfl).trans (g1.T 0 2))
      clear h; go_simp
      exact k _ _ P0
    · refine sr rfl fun av wq hUw h K k => ?_
      have eh52 := h.A 2 52
      have eb0 := ((g1.f 0 rfl rfl rfl rfl).up (g2.W rfl)).up (h.W rfl)
      obtain ⟨ec0, ec1, ec2⟩ := eb0.c3 4 5 6
      have ec3 := eb0.cell 7 rfl
      clear h; go_simp
      exact k _ _ P0
    · refine sr rfl fun av wq hUw h K k => ?_
      have eh3 := h.B 3 ((v2 3 rfl).trans (g1.T 1 3))
      clear h; go_simp
      exact k _ _ P0
    · refine sr rfl fun av wq hUw h K k => ?_
      have eh54 := h.A 4 54
      have eb0 := ((g1.f 1 rfl rfl rfl rfl).up (g2.W rfl)).up (h.W rfl)
      have ec0 := eb0.cell 0 rfl
      clear h; go_simp
      exact k _ _ P0
    · refine sr rfl fun av wq hUw h K k => ?_
      have eh53 := h.A 3 53
      have eh55 := h.A 5 55
      clear h; go_simp
      exact k _ _ P0
    · refine sr rfl fun av wq hUw h K k => ?_
      have eh2 := h.B 2 ((v2 2 rfl).trans (g1.T 0 2))
      clear h; go_simp
      exact k _ _ P0
    · refine sr rfl fun av wq hUw h K k => ?_
      have eh57 := h.A 7 57
      have eb0 := ((g1.f 0 rfl rfl rfl rfl).up (g2.W rfl)).up (h.W rfl)
      obtain ⟨ec0, ec1, ec2⟩ := eb0.c3 8 9 10
      have ec3 := eb0.cell 11 rfl
      clear h; go_simp
      exact k _ _ P0
    · refine sr rfl fun av wq hUw h K k => ?_
      have eh3 := h.B 3 ((v2 3 rfl).trans (g1.T 1 3))
      clear h; go_simp
      exact k _ _ P0
    · refine sr rfl fun av wq hUw h K k => ?_
      have eh59 := h.A 9 59
      have eb0 := ((g1.f 1 rfl rfl rfl rfl).up (g2.W rfl)).up (h.W rfl)
      have ec0 := eb0.cell 1 rfl
      clear h; go_simp
      exact k _ _ P0
    · refine sr rfl fun av wq hUw h K k => ?_
      have eh58 := h.A 8 58
      have eh60 := h.A 10 60
      clear h; go_simp
      exact k _ _ P0
    · refine sr rfl fun av wq hUw h K k => ?_
      have eh51 := h.A 1 51
      have eh56 := h.A 6 56
      have eh61 := h.A 11 61
      have hEw := hE.up hUw
      have hcc := slip_solve_ok f1 f2 f3 fo a1 a2 a3 ao b1 b2 b3 bo am bm wq hEw rf1 rf2 rf3 rfo ra1 ra2 ra3 rao rb1 rb2 rb3 rbo ram rbm HF.out HZ.out HDF.out HOF.out
      rw [← Hx1.out, ← Hx2.out, ← Hx3.out, ← Hx36.out, ← Hx17.out, ← Hx18.out, ← Hx19.out, ← Hx15.out, ← Hx37.out, ← Hx38.out, ← Hx26.out, ← Hx27.out, ← Hx28.out, ← Hx16.out, ← Hx39.out, ← Hx40.out, ← Hx10.out, ← Hx4.out, ← Hx5.out, ← Hx6.out, ← Hx11.out, ← Hx12.out, ← Hx7.out, ← Hx8.out, ← Hx9.out, ← Hx13.out, ← Hx14.out, ← Hx35.out, ← Hx41.out, ← Hx42.out, ← Hx20.out, ← Hx21.out, ← Hx22.out, ← Hx43.out, ← Hx44.out, ← Hx29.out, ← Hx30.out, ← Hx31.out, ← Hx45.out, ← Hx46.out, ← Hx47.out, ← Hx48.out, ← Hx23.out, ← Hx24.out, ← Hx25.out, ← Hx49.out, ← Hx50.out, ← Hx32.out, ← Hx33.out, ← Hx34.out, ← Hx51.out, ← Hx52.out, ← Hx53.out] at hcc
      clear h; go_simp
      refine (hcc).mono ?_
      rintro _ w2 ⟨rfl, hX⟩
      exact k _ _ (PD hX)
    · refine sr rfl fun av wq hUw h K k => ?_
      have eh62 := h.A 12 62
      clear h; go_simp
      exact k _ _ P0
    · refine sr rfl fun av wq hUw h K k => ?_
      have eh49 := h.A 13 49
      clear h; go_simp
      exact k _ _ P0
    · refine sr rfl fun av wq hUw h K k => ?_
      have eh49 := h.A 13 49
      clear h; go_simp
      exact k _ _ P0
    · refine sr rfl fun av wq hUw h K k => ?_
      clear h; go_simp
      exact k _ _ (PostN rfl rfl rfl rfl rfl)
    · refine sr rfl fun av wq hUw h K k => ?_
      have eh5 := h.A 16 5
      have eh63 := h.A 14 63
      have eb0 := h.F 16
      obtain ⟨ec0, ec1, ec2⟩ := eb0.c3 0 1 2; obtain ⟨ef0, ef1, ef2⟩ := eb0.f3 0 1 2
      clear h; go_simp
      exact k _ _ (PostS rfl rfl rfl rfl rfl rfl ((((Sto.refl _ _).set 0 _).set 1 _).set 2 _) ((((eb0).set 0 rfl _).set 1 rfl _).set 2 rfl _))
    · refine sr rfl fun av wq hUw h K k => ?_
      have eh64 := h.A 15 64
      clear h; go_simp
      exact k _ _ P0
  refine end_of fun bt3 ac3 wd3 d3 z3 hU3 v3 g3 => ?_
  replace d3 := d3.trans d2; replace z3 := z3.trans z2
  clear d2 z2
  refine hK3 _ _ ?_
  refine wp_seq_k fun K4 hK4 => ?_
  refine region_line 163 (dso [65, 66, 67, 7]) [999, 999, 999, 999] [0, 0, 0, 0] [] []
   [fun _ => .agg #[.string (rB x41), .string (rB x47), .string (rB x53)], fun _ => .agg #[.string ⟨#[]⟩, .string ⟨#[]⟩, .string ⟨#[]⟩], fun _ => .bool false, fun _ => .bool false]
   [T0, T0, T0, T0]
   [] [(bt1 0), (bt1 1), (bt2 12), (bt3 16)] w z3 (by kernel_rfl) ⟨loc_true, loc_true, loc_true, loc_true, trivial⟩ trivial g3.B g3.N hU3 (allG_of trivial) (fun β hβ => ?_) ?_
  · refine sc ?_ (sc ?_ (sc ?_ (sc ?_ (sn))))
    · refine sr rfl fun av wq hUw h K k => ?_
      have eh5 := h.B 5 (g3.T 16 5)
      have eb0 := (g3.f 17 rfl rfl rfl rfl).up (h.W rfl)
      obtain ⟨ec0, ec1, ec2⟩ := eb0.c3 0 1 2
      clear h; go_simp
      exact k _ _ P0
    · refine sr rfl fun av wq hUw h K k => ?_
      clear h; go_simp
      exact k _ _ P0
    · refine sr rfl fun av wq hUw h K k => ?_
      have eh65 := h.A 0 65
      have eh66 := h.A 1 66
      have hn1 : ((rB x41).toList == []) = false := rB_nil x41; have hn2 : ¬ (rB x41).toList = [] := rB_nil' x41
      clear h; go_simp
      exact k _ _ P0
    · refine sr rfl fun av wq hUw h K k => ?_
      have eh67 := h.A 2 67
      clear h; go_simp
      exact k _ _ P0
  refine end_of fun bt4 ac4 wd4 d4 z4 hU4 v4 g4 => ?_
  replace d4 := d4.trans d3; replace z4 := z4.trans z3
  clear d3 z3
  refine hK4 _ _ ?_
  refine wp_seq_k fun K5 hK5 => ?_
  refine region_line 163 (dso [68, 69, 70, 71, 72, 73, 74, 75, 76, 77, 8]) [999, 999, 999, 999, 999, 999, 999, 999, 999, 9, 9] [0, 0, 0, 0, 0, 0, 0, 0, 0, 1, 0] [] []
   [fun _ => .pointer (some ⟨(bt1 0), 0, none⟩), fun _ => .pointer (some ⟨(bt1 0), 0, none⟩), fun _ => .agg #[.string (rB f1), .string (rB f2), .string (rB f3)], fun _ => .pointer (some ⟨(bt1 0), 4, none⟩), fun _ => .pointer (some ⟨(bt1 0), 4, none⟩), fun _ => .agg #[.string (rB a1), .string (rB a2), .string (rB a3)], fun _ => .pointer (some ⟨(bt1 0), 8, none⟩), fun _ => .pointer (some ⟨(bt1 0), 8, none⟩), fun _ => .agg #[.string (rB b1), .string (rB b2), .string (rB b3)], fun b => .slice (some ⟨b, 0, none⟩) 3 3, fun b => .slice (some ⟨b, 0, none⟩) 3 3]
   [T0, T0, T0, T0, T0, T0, T0, T0, T0, Bw [.string (rB f1), .string (rB f2), .string (rB f3), .string (rB a1), .string (rB a2), .string (rB a3), .string (rB b1), .string (rB b2), .string (rB b3)], T0]
   [] [(bt1 0), (bt1 1), (bt2 12), (bt3 16)] w z4 (by kernel_rfl) ⟨loc_true, loc_true, loc_true, loc_true, loc_true, loc_true, loc_true, loc_true, loc_true, Bw.loc _, loc_true, trivial⟩ trivial g4.B g4.N hU4 (allG_of trivial) (fun β hβ => ?_) ?_
  · refine sc ?_ (sc ?_ (sc ?_ (sc ?_ (sc ?_ (sc ?_ (sc ?_ (sc ?_ (sc ?_ (sc ?_ (sc ?_ (sn)))))))))))
    · refine sr rfl fun av wq hUw h K k => ?_
      have eh2 := h.B 2 ((v4 2 rfl).trans ((v3 2 rfl).trans ((v2 2 rfl).trans (g1.T 0 2))))
      clear h; go_simp
      exact k _ _ P0
    · refine sr rfl fun av wq hUw h K k => ?_
      have eh68 := h.A 0 68
      clear h; go_simp
      exact k _ _ P0
    · refine sr rfl fun av wq hUw h K k => ?_
      have eh69 := h.A 1 69
      have eb0 := ((g1.f 0 rfl rfl rfl rfl).up (((g2.W rfl).trans (g3.W rfl)).trans (g4.W rfl))).up (h.W rfl)
      obtain ⟨ec0, ec1, ec2⟩ := eb0.c3 0 1 2
      clear h; go_simp
      exact k _ _ P0
    · refine sr rfl fun av wq hUw h K k => ?_
      have eh2 := h.B 2 ((v4 2 rfl).trans ((v3 2 rfl).trans ((v2 2 rfl).trans (g1.T 0 2))))
      clear h; go_simp
      exact k _ _ P0
    · refine sr rfl fun av wq hUw h K k => ?_
      have eh71 := h.A 3 71
      clear h; go_simp
      exact k _ _ P0
    · refine sr rfl fun av wq hUw h K k => ?_
      have eh72 := h.A 4 72
      have eb0 := ((g1.f 0 rfl rfl rfl rfl).up (((g2.W rfl).trans (g3.W rfl)).trans (g4.W rfl))).up (h.W rfl)
      obtain ⟨ec0, ec1, ec2⟩ := eb0.c3 4 5 6
      clear h; go_simp
      exact k _ _ P0
    · refine sr rfl fun av wq hUw h K k => ?_
      have eh2 := h.B 2 ((v4 2 rfl).trans ((v3 2 rfl).trans ((v2 2 rfl).trans (g1.T 0 2))))
      clear h; go_simp
      exact k _ _ P0
    · refine sr rfl fun av wq hUw h K k => ?_
      have eh74 := h.A 6 74
      clear h; go_simp
      exact k _ _ P0
    · refine sr rfl fun av wq hUw h K k => ?_
      have eh75 := h.A 7 75
      have eb0 := ((g1.f 0 rfl rfl rfl rfl).up (((g2.W rfl).trans (g3.W rfl)).trans (g4.W rfl))).up (h.W rfl)
      obtain ⟨ec0, ec1, ec2⟩ := eb0.c3 8 9 10
      clear h; go_simp
      exact k _ _ P0
    · refine sr rfl fun av wq hUw h K k => ?_
      have eh70 := h.A 2 70
      have eh73 := h.A 5 73
      have eh76 := h.A 8 76
      clear h; go_simp
      exact k _ _ (PostN rfl rfl rfl rfl rfl)
    · refine sr rfl fun av wq hUw h K k => ?_
      have eh77 := h.A 9 77
      clear h; go_simp
      exact k _ _ P0
  refine end_of fun bt5 ac5 wd5 d5 z5 hU5 v5 g5 => ?_
  replace d5 := d5.trans d4; replace z5 := z5.trans z4
  clear d4 z4
  refine hK5 _ _ ?_
  refine wp_seq_k fun K6 hK6 => ?_
  refine wp_block ?_
  refine wp_seq_k fun K7 hK7 => ?_
  refine region_line 163 (dso [79, 80, 81, 82, 83, 84, 85, 86, 87, 88, 89, 90, 91, 92, 93, 94, 95, 78]) [999, 999, 999, 999, 999, 999, 999, 999, 999, 999, 999, 999, 999, 999, 14, 999, 999, 999] [0, 0, 0, 0, 0, 0, 0, 0, 0, 0, 0, 0, 0, 0, 1, 0, 0, 0] [] []
   [fun _ => .slice (some ⟨(bt5 9), 0, none⟩) 3 3, fun _ => .pointer (some ⟨(bt1 0), 0, none⟩), fun _ => .pointer (some ⟨(bt1 0), 3, none⟩), fun _ => .string (rB fo), fun _ => .pointer (some ⟨(bt1 0), 4, none⟩), fun _ => .pointer (some ⟨(bt1 0), 7, none⟩), fun _ => .string (rB ao), fun _ => .pointer (some ⟨(bt1 0), 8, none⟩), fun _ => .pointer (some ⟨(bt1 0), 11, none⟩), fun _ => .string (rB bo), fun _ => .pointer (some ⟨(bt1 1), 0, none⟩), fun _ => .string (rB am), fun _ => .pointer (some ⟨(bt1 1), 1, none⟩), fun _ => .string (rB bm), fun b => .slice (some ⟨b, 0, none⟩) 5 5, fun _ => .bool true, fun _ => .bool false, fun _ => .bool false]
   [T0, T0, T0, T0, T0, T0, T0, T0, T0, T0, T0, T0, T0, T0, Bw [.string (rB fo), .string (rB ao), .string (rB bo), .string (rB am), .string (rB bm)], T0, T0, T0]
   [] [(bt1 0), (bt1 1), (bt2 12), (bt3 16), (bt5 9)] w z5 (by kernel_rfl) ⟨loc_true, loc_true, loc_true, loc_true, loc_true, loc_true, loc_true, loc_true, loc_true, loc_true, loc_true, loc_true, loc_true, loc_true, Bw.loc _, loc_true, loc_true, loc_true, trivial⟩ trivial g5.B g5.N hU5 (allG_of trivial) (fun β hβ => ?_) ?_
  · refine sc ?_ (sc ?_ (sc ?_ (sc ?_ (sc ?_ (sc ?_ (sc ?_ (sc ?_ (sc ?_ (sc ?_ (sc ?_ (sc ?_ (sc ?_ (sc ?_ (sc ?_ (sc ?_ (sc ?_ (sc ?_ (sn))))))))))))))))))
    · refine sr rfl fun av wq hUw h K k => ?_
      have eh8 := h.B 8 (g5.T 10 8)
      clear h; go_simp
      exact k _ _ P0
    · refine sr rfl fun av wq hUw h K k => ?_
      have eh2 := h.B 2 ((v5 2 rfl).trans ((v4 2 rfl).trans ((v3 2 rfl).trans ((v2 2 rfl).trans (g1.T 0 2)))))
      clear h; go_simp
      exact k _ _ P0
    · refine sr rfl fun av wq hUw h K k => ?_
      have eh80 := h.A 1 80
      clear h; go_simp
      exact k _ _ P0
    · refine sr rfl fun av wq hUw h K k => ?_
      have eh81 := h.A 2 81
      have eb0 := ((g1.f 0 rfl rfl rfl rfl).up ((((g2.W rfl).trans (g3.W rfl)).trans (g4.W rfl)).trans (g5.W rfl))).up (h.W rfl)
      have ec0 := eb0.cell 3 rfl
      clear h; go_simp
      exact k _ _ P0
    · refine sr rfl fun av wq hUw h K k => ?_
      have eh2 := h.B 2 ((v5 2 rfl).trans ((v4 2 rfl).trans ((v3 2 rfl).trans ((v2 2 rfl).trans (g1.T 0 2)))))
      clear h; go_simp
      exact k _ _ P0
    · refine sr rfl fun av wq hUw h K k => ?_
      have eh83 := h.A 4 83
      clear h; go_simp
      exact k _ _ P0
    · refine sr rfl fun av wq hUw h K k => ?_
      have eh84 := h.A 5 84
      have eb0 := ((g1.f 0 rfl rfl rfl rfl).up ((((g2.W rfl).trans (g3.W rfl)).trans (g4.W rfl)).trans (g5.W rfl))).up (h.W rfl)
      have ec0 := eb0.cell 7 rfl
      clear h; go_simp
      exact k _ _ P0
    · refine sr rfl fun av wq hUw h K k => ?_
      have eh2 := h.B 2 ((v5 2 rfl).trans ((v4 2 rfl).trans ((v3 2 rfl).trans ((v2 2 rfl).trans (g1.T 0 2)))))
      clear h; go_simp
      exact k _ _ P0
    · refine sr rfl fun av wq hUw h K k => ?_
      have eh86 := h.A 7 86
      clear h; go_simp
      exact k _ _ P0
    · refine sr rfl fun av wq hUw h K k => ?_
      have eh87 := h.A 8 87
      have eb0 := ((g1.f 0 rfl rfl rfl rfl).up ((((g2.W rfl).trans (g3.W rfl)).trans (g4.W rfl)).trans (g5.W rfl))).up (h.W rfl)
      have ec0 := eb0.cell 11 rfl
      clear h; go_simp
      exact k _ _ P0
    · refine sr rfl fun av wq hUw h K k => ?_
      have eh3 := h.B 3 ((v5 3 rfl).trans ((v4 3 rfl).trans ((v3 3 rfl).trans ((v2 3 rfl).trans (g1.T 1 3)))))
      clear h; go_simp
      exact k _ _ P0
    · refine sr rfl fun av wq hUw h K k => ?_
      have eh89 := h.A 10 89
      have eb0 := ((g1.f 1 rfl rfl rfl rfl).up ((((g2.W rfl).trans (g3.W rfl)).trans (g4.W rfl)).trans (g5.W rfl))).up (h.W rfl)
      have ec0 := eb0.cell 0 rfl
      clear h; go_simp
      exact k _ _ P0
    · refine sr rfl fun av wq hUw h K k => ?_
      have eh3 := h.B 3 ((v5 3 rfl).trans ((v4 3 rfl).trans ((v3 3 rfl).trans ((v2 3 rfl).trans (g1.T 1 3)))))
      clear h; go_simp
      exact k _ _ P0
    · refine sr rfl fun av wq hUw h K k => ?_
      have eh91 := h.A 12 91
      have eb0 := ((g1.f 1 rfl rfl rfl rfl).up ((((g2.W rfl).trans (g3.W rfl)).trans (g4.W rfl)).trans (g5.W rfl))).up (h.W rfl)
      have ec0 := eb0.cell 1 rfl
      clear h; go_simp
      exact k _ _ P0
    · refine sr rfl fun av wq hUw h K k => ?_
      have eh82 := h.A 3 82
      have eh85 := h.A 6 85
      have eh88 := h.A 9 88
      have eh90 := h.A 11 90
      have eh92 := h.A 13 92
      clear h; go_simp
      exact k _ _ (PostN rfl rfl rfl rfl rfl)
    · refine sr rfl fun av wq hUw h K k => ?_
      have eh79 := h.A 0 79
      have eh93 := h.A 14 93
      have hEw := hE.up hUw
      have eb1 := (g5.f 9 rfl rfl rfl rfl).up (h.W rfl)
      have hmeb1 := Bw.slv (L := [(rB f1, rB f2, rB f3), (rB a1, rB a2, rB a3), (rB b1, rB b2, rB b3)]) eb1 rfl
      have eb3 := h.F 14
      have hmeb3 := Bw.sls (L := [rB fo, rB ao, rB bo, rB am, rB bm]) eb3 rfl
      have hkn : (([rB fo, rB ao, rB bo, rB am, rB bm] : List ByteArray).all okR && !(([(rB f1, rB f2, rB f3), (rB a1, rB a2, rB a3), (rB b1, rB b2, rB b3)] : List Tri).any badV)) = true := HB.out
      have hcc := law_numbers [(rB f1, rB f2, rB f3), (rB a1, rB a2, rB a3), (rB b1, rB b2, rB b3)] [rB fo, rB ao, rB bo, rB am, rB bm] (bt5 9) (β 14) 3 5 wq hEw hmeb1 hmeb3 rfl rfl (mem_cons_of ⟨(rB_le (Nat.le_trans rf1 (by decide))), (rB_le (Nat.le_trans rf2 (by decide))), (rB_le (Nat.le_trans rf3 (by decide)))⟩ (mem_cons_of ⟨(rB_le (Nat.le_trans ra1 (by decide))), (rB_le (Nat.le_trans ra2 (by decide))), (rB_le (Nat.le_trans ra3 (by decide)))⟩ (mem_cons_of ⟨(rB_le (Nat.le_trans rb1 (by decide))), (rB_le (Nat.le_trans rb2 (by decide))), (rB_le (Nat.le_trans rb3 (by decide)))⟩ (fun _ h => absurd h List.not_mem_nil)))) (mem_cons_of (rB_le (Nat.le_trans rfo (by decide))) (mem_cons_of (rB_le (Nat.le_trans rao (by decide))) (mem_cons_of (rB_le (Nat.le_trans rbo (by decide))) (mem_cons_of (rB_le (Nat.le_trans ram (by decide))) (mem_cons_of (rB_le (Nat.le_trans rbm (by decide))) (fun _ h => absurd h List.not_mem_nil)))))) (by decide) (by decide)
      rw [hkn] at hcc
      clear hkn
      clear h; go_simp
      refine (hcc).mono ?_
      rintro _ w2 ⟨rfl, hX⟩
      exact k _ _ (PD hX)
    · refine sr rfl fun av wq hUw h K k => ?_
      have eh94 := h.A 15 94
      clear h; go_simp
      exact k _ _ P0
    · refine sr rfl fun av wq hUw h K k => ?_
      have eh95 := h.A 16 95
      clear h; go_simp
      exact k _ _ P0
  refine end_of fun bt6 ac6 wd6 d6 z6 hU6 v6 g6 => ?_
  replace d6 := d6.trans d5; replace z6 := z6.trans z5
  clear d5 z5
  refine hK7 _ _ ?_
  refine wp_cond_false (eval_of (g6.T 17 78)) ?_
  refine wp_seq_k fun K8 hK8 => ?_
  refine region_line 163 (dso [102, 103, 101]) [999, 999, 999] [0, 0, 0] [] []
   [fun _ => .slice (some ⟨(bt5 9), 0, none⟩) 3 3, fun _ => .bool false, fun _ => .bool false]
   [T0, T0, T0]
   [] [(bt1 0), (bt1 1), (bt2 12), (bt3 16), (bt5 9), (bt6 14)] w z6 (by kernel_rfl) ⟨loc_true, loc_true, loc_true, trivial⟩ trivial g6.B g6.N hU6 (allG_of trivial) (fun β hβ => ?_) ?_
  · refine sc ?_ (sc ?_ (sc ?_ (sn)))
    · refine sr rfl fun av wq hUw h K k => ?_
      have eh8 := h.B 8 ((v6 8 rfl).trans (g5.T 10 8))
      clear h; go_simp
      exact k _ _ P0
    · refine sr rfl fun av wq hUw h K k => ?_
      have eh102 := h.A 0 102
      have hEw := hE.up hUw
      have eb1 := ((g5.f 9 rfl rfl rfl rfl).up (g6.W rfl)).up (h.W rfl)
      have hmeb1 := Bw.slv (L := [(rB f1, rB f2, rB f3), (rB a1, rB a2, rB a3), (rB b1, rB b2, rB b3)]) eb1 rfl
      have hkn : ([(rB f1, rB f2, rB f3), (rB a1, rB a2, rB a3), (rB b1, rB b2, rB b3)] : List Tri).any zV = false := HZ.out
      have hcc := has_rzero [(rB f1, rB f2, rB f3), (rB a1, rB a2, rB a3), (rB b1, rB b2, rB b3)] (bt5 9) 3 wq hEw hmeb1 rfl (by decide)
      rw [hkn] at hcc
      clear hkn
      clear h; go_simp
      refine (hcc).mono ?_
      rintro _ w2 ⟨rfl, hX⟩
      exact k _ _ (PD hX)
    · refine sr rfl fun av wq hUw h K k => ?_
      have eh103 := h.A 1 103
      clear h; go_simp
      exact k _ _ P0
  refine end_of fun bt7 ac7 wd7 d7 z7 hU7 v7 g7 => ?_
  replace d7 := d7.trans d6; replace z7 := z7.trans z6
  clear d6 z6
  refine hK8 _ _ ?_
  refine wp_cond_false (eval_of (g7.T 2 101)) ?_
  refine wp_seq_k fun K9 hK9 => ?_
  refine region_draw follows_mixed 163 (dso [110, 111, 112, 113, 114, 115, 116, 117, 118, 119, 120, 121, 109]) [999, 999, 999, 999, 999, 999, 999, 999, 999, 999, 999, 999, 999] [0, 0, 0, 0, 0, 0, 0, 0, 0, 0, 0, 0, 0] [] [] [[], [0], [0, 1], [], [3], [3, 4], [], [6], [6, 7], [3, 4, 5, 6, 7, 8], [0, 1, 2, 3, 4, 5, 6, 7, 8, 9], [0, 1, 2, 3, 4, 5, 6, 7, 8, 9, 10], [0, 1, 2, 3, 4, 5, 6, 7, 8, 9, 10, 11]]
   [fun _ => .slice (some ⟨(bt5 9), 0, none⟩) 3 3, fun _ => .pointer (some ⟨(bt5 9), 0, none⟩), fun _ => .agg #[.string (rB f1), .string (rB f2), .string (rB f3)], fun _ => .slice (some ⟨(bt5 9), 0, none⟩) 3 3, fun _ => .pointer (some ⟨(bt5 9), 3, none⟩), fun _ => .agg #[.string (rB a1), .string (rB a2), .string (rB a3)], fun _ => .slice (some ⟨(bt5 9), 0, none⟩) 3 3, fun _ => .pointer (some ⟨(bt5 9), 6, none⟩), fun _ => .agg #[.string (rB b1), .string (rB b2), .string (rB b3)], fun _ => .agg #[.string (rB x3), .string (rB x6), .string (rB x9)], fun _ => .string (rB x14), fun _ => .bool false, fun _ => .bool false]
   [T0, T0, T0, T0, T0, T0, T0, T0, T0, T0, T0, T0, T0]
   [] [(bt1 0), (bt1 1), (bt2 12), (bt3 16), (bt5 9), (bt6 14)] w z7 (by kernel_rfl) ⟨loc_true, loc_true, loc_true, loc_true, loc_true, loc_true, loc_true, loc_true, loc_true, loc_true, loc_true, loc_true, loc_true, trivial⟩ trivial g7.B g7.N hU7 (allG_of trivial) (fun β hβ => ?_) ?_
  · refine sc ?_ (sc ?_ (sc ?_ (sc ?_ (sc ?_ (sc ?_ (sc ?_ (sc ?_ (sc ?_ (sc ?_ (sc ?_ (sc ?_ (sc ?_ (sn)))))))))))))
    · refine sr rfl fun av wq hUw h K k => ?_
      have eh8 := h.B 8 ((v7 8 rfl).trans ((v6 8 rfl).trans (g5.T 10 8)))
      clear h; go_simp
      exact k _ _ P0
    · refine sr rfl fun av wq hUw h K k => ?_
      have eh110 := h.A 0 110
      clear h; go_simp
      exact k _ _ P0
    · refine sr rfl fun av wq hUw h K k => ?_
      have eh111 := h.A 1 111
      have eb0 := ((g5.f 9 rfl rfl rfl rfl).up ((g6.W rfl).trans (g7.W rfl))).up (h.W rfl)
      obtain ⟨ec0, ec1, ec2⟩ := eb0.c3 0 1 2
      clear h; go_simp
      exact k _ _ P0
    · refine sr rfl fun av wq hUw h K k => ?_
      have eh8 := h.B 8 ((v7 8 rfl).trans ((v6 8 rfl).trans (g5.T 10 8)))
      clear h; go_simp
      exact k _ _ P0
    · refine sr rfl fun av wq hUw h K k => ?_
      have eh113 := h.A 3 113
      clear h; go_simp
      exact k _ _ P0
    · refine sr rfl fun av wq hUw h K k => ?_
      have eh114 := h.A 4 114
      have eb0 := ((g5.f 9 rfl rfl rfl rfl).up ((g6.W rfl).trans (g7.W rfl))).up (h.W rfl)
      obtain ⟨ec0, ec1, ec2⟩ := eb0.c3 3 4 5
      clear h; go_simp
      exact k _ _ P0
    · refine sr rfl fun av wq hUw h K k => ?_
      have eh8 := h.B 8 ((v7 8 rfl).trans ((v6 8 rfl).trans (g5.T 10 8)))
      clear h; go_simp
      exact k _ _ P0
    · refine sr rfl fun av wq hUw h K k => ?_
      have eh116 := h.A 6 116
      clear h; go_simp
      exact k _ _ P0
    · refine sr rfl fun av wq hUw h K k => ?_
      have eh117 := h.A 7 117
      have eb0 := ((g5.f 9 rfl rfl rfl rfl).up ((g6.W rfl).trans (g7.W rfl))).up (h.W rfl)
      obtain ⟨ec0, ec1, ec2⟩ := eb0.c3 6 7 8
      clear h; go_simp
      exact k _ _ P0
    · refine sr rfl fun av wq hUw h K k => ?_
      have eh115 := h.A 5 115
      have eh118 := h.A 8 118
      have hEw := hE.up hUw
      have hcc := r10_cross a1 a2 a3 b1 b2 b3 wq hEw (Nat.le_trans ra1 (by decide)) (Nat.le_trans ra2 (by decide)) (Nat.le_trans ra3 (by decide)) (Nat.le_trans rb1 (by decide)) (Nat.le_trans rb2 (by decide)) (Nat.le_trans rb3 (by decide))
      rw [← Hx1.out, ← Hx2.out, ← Hx3.out, ← Hx4.out, ← Hx5.out, ← Hx6.out, ← Hx7.out, ← Hx8.out, ← Hx9.out] at hcc
      clear h; go_simp
      refine (hcc).mono ?_
      rintro _ w2 ⟨rfl, hX⟩
      exact k _ _ (PD hX)
    · refine sr rfl fun av wq hUw h K k => ?_
      have eh112 := h.A 2 112
      have eh119 := h.A 9 119
      have hEw := hE.up hUw
      have hcc := law_dot f1 f2 f3 x3 x6 x9 wq hEw (Nat.le_trans rf1 (by decide)) (Nat.le_trans rf2 (by decide)) (Nat.le_trans rf3 (by decide)) (Nat.le_trans rx3.out (by decide)) (Nat.le_trans rx6.out (by decide)) (Nat.le_trans rx9.out (by decide))
      rw [← Hx10.out, ← Hx11.out, ← Hx12.out, ← Hx13.out, ← Hx14.out] at hcc
      clear h; go_simp
      refine (hcc).mono ?_
      rintro _ w2 ⟨rfl, hX⟩
      exact k _ _ (PD hX)
    · refine sr rfl fun av wq hUw h K k => ?_
      have eh120 := h.A 10 120
      have hz0 : ((rB x14).toList == [48]) = false := by rw [rB_is0]; exact decide_eq_false HD.out
      clear h; go_simp
      exact k _ _ P0
    · refine sr rfl fun av wq hUw h K k => ?_
      have eh121 := h.A 11 121
      clear h; go_simp
      exact k _ _ P0
  refine end_of fun bt8 ac8 wd8 d8 z8 hU8 v8 g8 => ?_
  replace d8 := d8.trans d7; replace z8 := z8.trans z7
  clear d7 z7
  refine hK9 _ _ ?_
  refine wp_cond_false (eval_of (g8.T 12 109)) ?_
  refine wp_skip ?_
  refine hK6 _ _ ?_
  refine wp_seq_k fun K10 hK10 => ?_
  refine wp_seq_k fun K11 hK11 => ?_
  refine region_draw follows_mixed 163 (dso [127, 128, 129, 130, 131, 132, 133, 134, 135, 136, 137, 138, 139, 140, 141]) [999, 999, 999, 999, 999, 999, 999, 999, 999, 999, 999, 999, 999, 999, 999] [0, 0, 0, 0, 0, 0, 0, 0, 0, 0, 0, 0, 0, 0, 0] [] [] [[], [0], [0, 1], [0, 1, 2], [0, 1, 2, 3], [0, 1, 2, 3, 4], [0, 1, 2, 3, 4, 5], [0, 1, 2, 3, 4, 5, 6], [0, 1, 2, 3, 4, 5, 6, 7], [0, 1, 2, 3, 4, 5, 6, 7, 8], [0, 1, 2, 3, 4, 5, 6, 7, 8, 9], [0, 1, 2, 3, 4, 5, 6, 7], [0, 1, 2, 3, 4, 5, 6, 7, 8, 9, 10, 11], [0, 1, 2, 3, 4, 5, 6, 7, 8, 9, 10, 11, 12], [0, 1, 2, 3, 4, 5, 6, 7, 8, 9, 10, 11, 12, 13]]
   [fun _ => .int .i64 0, fun _ => .bool false, fun _ => .bool false, fun _ => .agg #[.string (rB x41), .string (rB x47), .string (rB x53)], fun _ => .bool true, fun _ => .bool false, fun _ => .bool false, fun _ => .bool false, fun _ => .slice (some ⟨(bt5 9), 0, none⟩) 3 3, fun _ => .pointer (some ⟨(bt5 9), 0, none⟩), fun _ => .agg #[.string (rB f1), .string (rB f2), .string (rB f3)], fun _ => .agg #[.string (rB x41), .string (rB x47), .string (rB x53)], fun _ => .string (rB x58), fun _ => .bool false, fun _ => .bool false]
   [T0, T0, T0, T0, T0, T0, T0, T0, T0, T0, T0, T0, T0, T0, T0]
   [] [(bt1 0), (bt1 1), (bt2 12), (bt3 16), (bt5 9), (bt6 14)] w z8 (by kernel_rfl) ⟨loc_true, loc_true, loc_true, loc_true, loc_true, loc_true, loc_true, loc_true, loc_true, loc_true, loc_true, loc_true, loc_true, loc_true, loc_true, trivial⟩ trivial g8.B g8.N hU8 (allG_of trivial) (fun β hβ => ?_) ?_
  · refine sc ?_ (sc ?_ (sc ?_ (sc ?_ (sc ?_ (sc ?_ (sc ?_ (sc ?_ (sc ?_ (sc ?_ (sc ?_ (sc ?_ (sc ?_ (sc ?_ (sc ?_ (sn)))))))))))))))
    · refine sr rfl fun av wq hUw h K k => ?_
      have eh6 := h.B 6 ((v8 6 rfl).trans ((v7 6 rfl).trans ((v6 6 rfl).trans ((v5 6 rfl).trans ((v4 6 rfl).trans (g3.T 18 6))))))
      clear h; go_simp
      exact k _ _ P0
    · refine sr rfl fun av wq hUw h K k => ?_
      have eh127 := h.A 0 127
      clear h; go_simp
      exact k _ _ P0
    · refine sr rfl fun av wq hUw h K k => ?_
      have eh128 := h.A 1 128
      clear h; go_simp
      exact k _ _ P0
    · refine sg (t := 129) rfl rfl fun av wq hUw h => ⟨h.A 2 129, fun K k => ?_⟩
      have eh5 := h.B 5 ((v8 5 rfl).trans ((v7 5 rfl).trans ((v6 5 rfl).trans ((v5 5 rfl).trans ((v4 5 rfl).trans (g3.T 16 5))))))
      have eb0 := ((g3.f 17 rfl rfl rfl rfl).up (((((g4.W rfl).trans (g5.W rfl)).trans (g6.W rfl)).trans (g7.W rfl)).trans (g8.W rfl))).up (h.W rfl)
      obtain ⟨ec0, ec1, ec2⟩ := eb0.c3 0 1 2
      clear h; go_simp
      exact k _ _ P0
    · refine sg (t := 129) rfl rfl fun av wq hUw h => ⟨h.A 2 129, fun K k => ?_⟩
      have eh130 := h.A 3 130
      have hEw := hE.up hUw
      have hcc := r10_right (rB x41, rB x47, rB x53) wq hEw ⟨(rB_le (Nat.le_trans rx41.out (by decide))), (rB_le (Nat.le_trans rx47.out (by decide))), (rB_le (Nat.le_trans rx53.out (by decide)))⟩
      rw [HO.out] at hcc
      clear h; go_simp
      refine (hcc).mono ?_
      rintro _ w2 ⟨rfl, hX⟩
      exact k _ _ (PD hX)
    · refine sg (t := 129) rfl rfl fun av wq hUw h => ⟨h.A 2 129, fun K k => ?_⟩
      have eh131 := h.A 4 131
      clear h; go_simp
      exact k _ _ P0
    · refine sr rfl fun av wq hUw h K k => ?_
      have eh129 := h.A 2 129
      have eh132 := h.A 5 132
      clear h; go_simp
      exact k _ _ P0
    · refine sr rfl fun av wq hUw h K k => ?_
      have eh133 := h.A 6 133
      clear h; go_simp
      exact k _ _ P0
    · refine sg (t := 134) rfl rfl fun av wq hUw h => ⟨h.A 7 134, fun K k => ?_⟩
      have eh8 := h.B 8 ((v8 8 rfl).trans ((v7 8 rfl).trans ((v6 8 rfl).trans (g5.T 10 8))))
      clear h; go_simp
      exact k _ _ P0
    · refine sg (t := 134) rfl rfl fun av wq hUw h => ⟨h.A 7 134, fun K k => ?_⟩
      have eh135 := h.A 8 135
      clear h; go_simp
      exact k _ _ P0
    · refine sg (t := 134) rfl rfl fun av wq hUw h => ⟨h.A 7 134, fun K k => ?_⟩
      have eh136 := h.A 9 136
      have eb0 := ((g5.f 9 rfl rfl rfl rfl).up (((g6.W rfl).trans (g7.W rfl)).trans (g8.W rfl))).up (h.W rfl)
      obtain ⟨ec0, ec1, ec2⟩ := eb0.c3 0 1 2
      clear h; go_simp
      exact k _ _ P0
    · refine sg (t := 134) rfl rfl fun av wq hUw h => ⟨h.A 7 134, fun K k => ?_⟩
      have eh5 := h.B 5 ((v8 5 rfl).trans ((v7 5 rfl).trans ((v6 5 rfl).trans ((v5 5 rfl).trans ((v4 5 rfl).trans (g3.T 16 5))))))
      have eb0 := ((g3.f 17 rfl rfl rfl rfl).up (((((g4.W rfl).trans (g5.W rfl)).trans (g6.W rfl)).trans (g7.W rfl)).trans (g8.W rfl))).up (h.W rfl)
      obtain ⟨ec0, ec1, ec2⟩ := eb0.c3 0 1 2
      clear h; go_simp
      exact k _ _ P0
    · refine sg (t := 134) rfl rfl fun av wq hUw h => ⟨h.A 7 134, fun K k => ?_⟩
      have eh137 := h.A 10 137
      have eh138 := h.A 11 138
      have hEw := hE.up hUw
      have hcc := law_dot f1 f2 f3 x41 x47 x53 wq hEw (Nat.le_trans rf1 (by decide)) (Nat.le_trans rf2 (by decide)) (Nat.le_trans rf3 (by decide)) (Nat.le_trans rx41.out (by decide)) (Nat.le_trans rx47.out (by decide)) (Nat.le_trans rx53.out (by decide))
      rw [← Hx54.out, ← Hx55.out, ← Hx56.out, ← Hx57.out, ← Hx58.out] at hcc
      clear h; go_simp
      refine (hcc).mono ?_
      rintro _ w2 ⟨rfl, hX⟩
      exact k _ _ (PD hX)
    · refine sg (t := 134) rfl rfl fun av wq hUw h => ⟨h.A 7 134, fun K k => ?_⟩
      have eh139 := h.A 12 139
      have hz0 : ((rB x58).toList == [48]) = true := by rw [rB_is0]; exact decide_eq_true HV0.out
      clear h; go_simp
      exact k _ _ P0
    · refine sr rfl fun av wq hUw h K k => ?_
      have eh134 := h.A 7 134
      have eh140 := h.A 13 140
      clear h; go_simp
      exact k _ _ P0
  refine end_of fun bt9 ac9 wd9 d9 z9 hU9 v9 g9 => ?_
  replace d9 := d9.trans d8; replace z9 := z9.trans z8
  clear d8 z8
  refine hK11 _ _ ?_
  refine wp_cond_false (eval_of (g9.T 14 141)) ?_
  refine wp_skip ?_
  refine hK10 _ _ ?_
  refine wp_seq_k fun K12 hK12 => ?_
  refine wp_seq_k fun K13 hK13 => ?_
  refine region_line 163 (dso [142]) [999] [0] [] []
   [fun _ => .int .i64 0]
   [T0]
   [] [(bt1 0), (bt1 1), (bt2 12), (bt3 16), (bt5 9), (bt6 14)] w z9 (by kernel_rfl) ⟨loc_true, trivial⟩ trivial g9.B g9.N hU9 (allG_of trivial) (fun β hβ => ?_) ?_
  · refine sc ?_ (sn)
    · refine sr rfl fun av wq hUw h K k => ?_
      clear h; go_simp
      exact k _ _ P0
  refine end_of fun bt10 ac10 wd10 d10 z10 hU10 v10 g10 => ?_
  replace d10 := d10.trans d9; replace z10 := z10.trans z9
  clear d9 z9
  refine hK13 _ _ ?_
  refine wp_block ?_
  refine wp_loop_rounds 3 ?_
  refine rounds_step ?_
  refine wp_seq_k fun K14 hK14 => ?_
  refine region_line 163 (dso [143]) [999] [0] [] []
   [fun _ => .bool true]
   [T0]
   [] [(bt1 0), (bt1 1), (bt2 12), (bt3 16), (bt5 9), (bt6 14)] w z10 (by kernel_rfl) ⟨loc_true, trivial⟩ trivial g10.B g10.N hU10 (allG_of trivial) (fun β hβ => ?_) ?_
  · refine sc ?_ (sn)
    · refine sr rfl fun av wq hUw h K k => ?_
      have eh142 := h.B 142 (g10.T 0 142)
      clear h; go_simp
      exact k _ _ P0
  refine end_of fun bt11 ac11 wd11 d11 z11 hU11 v11 g11 => ?_
  replace d11 := d11.trans d10; replace z11 := z11.trans z10
  clear d10 z10
  refine hK14 _ _ ?_
  refine wp_seq_k fun K15 hK15 => ?_
  refine wp_cond_true (eval_of (g11.T 0 143)) ?_
  refine wp_skip ?_
  refine hK15 _ _ ?_
  refine wp_seq_k fun K16 hK16 => ?_
  refine wp_block ?_
  refine wp_seq_k fun K17 hK17 => ?_
  refine region_line 163 (dso [144, 9]) [999, 999] [0, 0] [] []
   [fun _ => .int .i64 0, fun _ => .int .i64 0]
   [T0, T0]
   [] [(bt1 0), (bt1 1), (bt2 12), (bt3 16), (bt5 9), (bt6 14)] w z11 (by kernel_rfl) ⟨loc_true, loc_true, trivial⟩ trivial g11.B g11.N hU11 (allG_of trivial) (fun β hβ => ?_) ?_
  · refine sc ?_ (sc ?_ (sn))
    · refine sr rfl fun av wq hUw h K k => ?_
      have eh142 := h.B 142 ((v11 142 rfl).trans (g10.T 0 142))
      clear h; go_simp
      exact k _ _ P0
    · refine sr rfl fun av wq hUw h K k => ?_
      have eh144 := h.A 0 144
      clear h; go_simp
      exact k _ _ P0
  refine end_of fun bt12 ac12 wd12 d12 z12 hU12 v12 g12 => ?_
  replace d12 := d12.trans d11; replace z12 := z12.trans z11
  clear d11 z11
  refine hK17 _ _ ?_
  refine wp_seq_k fun K18 hK18 => ?_
  refine region_draw follows_mixed 163 (dso [145, 146, 147, 148, 149, 150, 151, 152, 153, 154, 155, 156, 157, 158, 159, 160, 161]) [999, 999, 999, 999, 999, 999, 999, 999, 999, 999, 999, 999, 999, 999, 999, 999, 999] [0, 0, 0, 0, 0, 0, 0, 0, 0, 0, 0, 0, 0, 0, 0, 0, 0] [] [] [[], [], [1], [0, 1, 2], [0, 1, 2, 3], [], [0, 1, 2, 3, 4, 5], [], [7], [7, 8], [], [10], [10, 11], [10, 11, 12], [10, 11, 12, 13], [0, 1, 2, 3, 4, 5, 6, 7, 8, 9, 10, 11, 12, 13, 14], [0, 1, 2, 3, 4, 5, 6, 7, 8, 9, 10, 11, 12, 13, 14, 15]]
   [fun _ => .slice (some ⟨(bt5 9), 0, none⟩) 3 3, fun _ => .int .i64 0, fun _ => .int .i64 1, fun _ => .pointer (some ⟨(bt5 9), 3, none⟩), fun _ => .agg #[.string (rB a1), .string (rB a2), .string (rB a3)], fun _ => .agg #[.string (rB x41), .string (rB x47), .string (rB x53)], fun _ => .string (rB x63), fun _ => .int .i64 0, fun _ => .pointer (some ⟨(bt1 1), 0, none⟩), fun _ => .string (rB am), fun _ => .int .i64 0, fun _ => .int .i64 1, fun _ => .pointer (some ⟨(bt1 0), 4, none⟩), fun _ => .pointer (some ⟨(bt1 0), 7, none⟩), fun _ => .string (rB ao), fun _ => .string (rB x15), fun _ => .bool false]
   [T0, T0, T0, T0, T0, T0, T0, T0, T0, T0, T0, T0, T0, T0, T0, T0, T0]
   [] [(bt1 0), (bt1 1), (bt2 12), (bt3 16), (bt5 9), (bt6 14)] w z12 (by kernel_rfl) ⟨loc_true, loc_true, loc_true, loc_true, loc_true, loc_true, loc_true, loc_true, loc_true, loc_true, loc_true, loc_true, loc_true, loc_true, loc_true, loc_true, loc_true, trivial⟩ trivial g12.B g12.N hU12 (allG_of trivial) (fun β hβ => ?_) ?_
  · refine sc ?_ (sc ?_ (sc ?_ (sc ?_ (sc ?_ (sc ?_ (sc ?_ (sc ?_ (sc ?_ (sc ?_ (sc ?_ (sc ?_ (sc ?_ (sc ?_ (sc ?_ (sc ?_ (sc ?_ (sn)))))))))))))))))
    · refine sr rfl fun av wq hUw h K k => ?_
      have eh8 := h.B 8 ((v12 8 rfl).trans ((v11 8 rfl).trans ((v10 8 rfl).trans ((v9 8 rfl).trans ((v8 8 rfl).trans ((v7 8 rfl).trans ((v6 8 rfl).trans (g5.T 10 8))))))))
      clear h; go_simp
      exact k _ _ P0
    · refine sr rfl fun av wq hUw h K k => ?_
      have eh9 := h.B 9 (g12.T 1 9)
      clear h; go_simp
      exact k _ _ P0
    · refine sr rfl fun av wq hUw h K k => ?_
      have eh146 := h.A 1 146
      clear h; go_simp
      exact k _ _ P0
    · refine sr rfl fun av wq hUw h K k => ?_
      have eh145 := h.A 0 145
      have eh147 := h.A 2 147
      clear h; go_simp
      exact k _ _ P0
    · refine sr rfl fun av wq hUw h K k => ?_
      have eh148 := h.A 3 148
      have eb0 := ((g5.f 9 rfl rfl rfl rfl).up (((((((g6.W rfl).trans (g7.W rfl)).trans (g8.W rfl)).trans (g9.W rfl)).trans (g10.W rfl)).trans (g11.W rfl)).trans (g12.W rfl))).up (h.W rfl)
      obtain ⟨ec0, ec1, ec2⟩ := eb0.c3 3 4 5
      clear h; go_simp
      exact k _ _ P0
    · refine sr rfl fun av wq hUw h K k => ?_
      have eh5 := h.B 5 ((v12 5 rfl).trans ((v11 5 rfl).trans ((v10 5 rfl).trans ((v9 5 rfl).trans ((v8 5 rfl).trans ((v7 5 rfl).trans ((v6 5 rfl).trans ((v5 5 rfl).trans ((v4 5 rfl).trans (g3.T 16 5))))))))))
      have eb0 := ((g3.f 17 rfl rfl rfl rfl).up (((((((((g4.W rfl).trans (g5.W rfl)).trans (g6.W rfl)).trans (g7.W rfl)).trans (g8.W rfl)).trans (g9.W rfl)).trans (g10.W rfl)).trans (g11.W rfl)).trans (g12.W rfl))).up (h.W rfl)
      obtain ⟨ec0, ec1, ec2⟩ := eb0.c3 0 1 2
      clear h; go_simp
      exact k _ _ P0
    · refine sr rfl fun av wq hUw h K k => ?_
      have eh149 := h.A 4 149
      have eh150 := h.A 5 150
      have hEw := hE.up hUw
      have hcc := law_dot a1 a2 a3 x41 x47 x53 wq hEw (Nat.le_trans ra1 (by decide)) (Nat.le_trans ra2 (by decide)) (Nat.le_trans ra3 (by decide)) (Nat.le_trans rx41.out (by decide)) (Nat.le_trans rx47.out (by decide)) (Nat.le_trans rx53.out (by decide))
      rw [← Hx59.out, ← Hx60.out, ← Hx61.out, ← Hx62.out, ← Hx63.out] at hcc
      clear h; go_simp
      refine (hcc).mono ?_
      rintro _ w2 ⟨rfl, hX⟩
      exact k _ _ (PD hX)
    · refine sr rfl fun av wq hUw h K k => ?_
      have eh9 := h.B 9 (g12.T 1 9)
      clear h; go_simp
      exact k _ _ P0
    · refine sr rfl fun av wq hUw h K k => ?_
      have eh3 := h.B 3 ((v12 3 rfl).trans ((v11 3 rfl).trans ((v10 3 rfl).trans ((v9 3 rfl).trans ((v8 3 rfl).trans ((v7 3 rfl).trans ((v6 3 rfl).trans ((v5 3 rfl).trans ((v4 3 rfl).trans ((v3 3 rfl).trans ((v2 3 rfl).trans (g1.T 1 3))))))))))))
      have eh152 := h.A 7 152
      clear h; go_simp
      exact k _ _ P0
    · refine sr rfl fun av wq hUw h K k => ?_
      have eh153 := h.A 8 153
      have eb0 := ((g1.f 1 rfl rfl rfl rfl).up (((((((((((g2.W rfl).trans (g3.W rfl)).trans (g4.W rfl)).trans (g5.W rfl)).trans (g6.W rfl)).trans (g7.W rfl)).trans (g8.W rfl)).trans (g9.W rfl)).trans (g10.W rfl)).trans (g11.W rfl)).trans (g12.W rfl))).up (h.W rfl)
      have ec0 := eb0.cell 0 rfl
      clear h; go_simp
      exact k _ _ P0
    · refine sr rfl fun av wq hUw h K k => ?_
      have eh9 := h.B 9 (g12.T 1 9)
      clear h; go_simp
      exact k _ _ P0
    · refine sr rfl fun av wq hUw h K k => ?_
      have eh155 := h.A 10 155
      clear h; go_simp
      exact k _ _ P0
    · refine sr rfl fun av wq hUw h K k => ?_
      have eh2 := h.B 2 ((v12 2 rfl).trans ((v11 2 rfl).trans ((v10 2 rfl).trans ((v9 2 rfl).trans ((v8 2 rfl).trans ((v7 2 rfl).trans ((v6 2 rfl).trans ((v5 2 rfl).trans ((v4 2 rfl).trans ((v3 2 rfl).trans ((v2 2 rfl).trans (g1.T 0 2))))))))))))
      have eh156 := h.A 11 156
      clear h; go_simp
      exact k _ _ P0
    · refine sr rfl fun av wq hUw h K k => ?_
      have eh157 := h.A 12 157
      clear h; go_simp
      exact k _ _ P0
    · refine sr rfl fun av wq hUw h K k => ?_
      have eh158 := h.A 13 158
      have eb0 := ((g1.f 0 rfl rfl rfl rfl).up (((((((((((g2.W rfl).trans (g3.W rfl)).trans (g4.W rfl)).trans (g5.W rfl)).trans (g6.W rfl)).trans (g7.W rfl)).trans (g8.W rfl)).trans (g9.W rfl)).trans (g10.W rfl)).trans (g11.W rfl)).trans (g12.W rfl))).up (h.W rfl)
      have ec0 := eb0.cell 7 rfl
      clear h; go_simp
      exact k _ _ P0
    · refine sr rfl fun av wq hUw h K k => ?_
      have eh154 := h.A 9 154
      have eh159 := h.A 14 159
      have hEw := hE.up hUw
      have hcc := r02_sub am ao wq hEw (Nat.le_trans ram (by decide)) (Nat.le_trans rao (by decide))
      rw [← Hx15.out] at hcc
      clear h; go_simp
      refine (hcc).mono ?_
      rintro _ w2 ⟨rfl, hX⟩
      exact k _ _ (PD hX)
    · refine sr rfl fun av wq hUw h K k => ?_
      have eh151 := h.A 6 151
      have eh160 := h.A 15 160
      have hz1 : ((rB x63).toList == (rB x15).toList) = true := by rw [rB_eq]; exact decide_eq_true HV1.out
      clear h; go_simp
      exact k _ _ P0
  refine end_of fun bt13 ac13 wd13 d13 z13 hU13 v13 g13 => ?_
  replace d13 := d13.trans d12; replace z13 := z13.trans z12
  clear d12 z12
  refine hK18 _ _ ?_
  refine wp_cond_false (eval_of (g13.T 16 161)) ?_
  refine wp_skip ?_
  refine hK16 _ _ ?_
  refine region_line 163 (dso [162, 142]) [999, 999] [0, 0] [] []
   [fun _ => .int .i64 1, fun _ => .int .i64 1]
   [T0, T0]
   [] [(bt1 0), (bt1 1), (bt2 12), (bt3 16), (bt5 9), (bt6 14)] w z13 (by kernel_rfl) ⟨loc_true, loc_true, trivial⟩ trivial g13.B g13.N hU13 (allG_of trivial) (fun β hβ => ?_) ?_
  · refine sc ?_ (sc ?_ (sn))
    · refine sr rfl fun av wq hUw h K k => ?_
      have eh142 := h.C 1 142 ((v13 142 rfl).trans ((v12 142 rfl).trans ((v11 142 rfl).trans (g10.T 0 142))))
      clear h; go_simp
      exact k _ _ P0
    · refine sr rfl fun av wq hUw h K k => ?_
      have eh162 := h.A 0 162
      clear h; go_simp
      exact k _ _ P0
  refine end_of fun bt14 ac14 wd14 d14 z14 hU14 v14 g14 => ?_
  replace d14 := d14.trans d13; replace z14 := z14.trans z13
  clear d13 z13
  refine then_norm ?_
  refine rounds_step ?_
  refine wp_seq_k fun K19 hK19 => ?_
  refine region_line 163 (dso [143]) [999] [0] [] []
   [fun _ => .bool true]
   [T0]
   [] [(bt1 0), (bt1 1), (bt2 12), (bt3 16), (bt5 9), (bt6 14)] w z14 (by kernel_rfl) ⟨loc_true, trivial⟩ trivial g14.B g14.N hU14 (allG_of trivial) (fun β hβ => ?_) ?_
  · refine sc ?_ (sn)
    · refine sr rfl fun av wq hUw h K k => ?_
      have eh142 := h.B 142 (g14.T 1 142)
      clear h; go_simp
      exact k _ _ P0
  refine end_of fun bt15 ac15 wd15 d15 z15 hU15 v15 g15 => ?_
  replace d15 := d15.trans d14; replace z15 := z15.trans z14
  clear d14 z14
  refine hK19 _ _ ?_
  refine wp_seq_k fun K20 hK20 => ?_
  refine wp_cond_true (eval_of (g15.T 0 143)) ?_
  refine wp_skip ?_
  refine hK20 _ _ ?_
  refine wp_seq_k fun K21 hK21 => ?_
  refine wp_block ?_
  refine wp_seq_k fun K22 hK22 => ?_
  refine region_line 163 (dso [144, 9]) [999, 999] [0, 0] [] []
   [fun _ => .int .i64 1, fun _ => .int .i64 1]
   [T0, T0]
   [] [(bt1 0), (bt1 1), (bt2 12), (bt3 16), (bt5 9), (bt6 14)] w z15 (by kernel_rfl) ⟨loc_true, loc_true, trivial⟩ trivial g15.B g15.N hU15 (allG_of trivial) (fun β hβ => ?_) ?_
  · refine sc ?_ (sc ?_ (sn))
    · refine sr rfl fun av wq hUw h K k => ?_
      have eh142 := h.B 142 ((v15 142 rfl).trans (g14.T 1 142))
      clear h; go_simp
      exact k _ _ P0
    · refine sr rfl fun av wq hUw h K k => ?_
      have eh144 := h.A 0 144
      clear h; go_simp
      exact k _ _ P0
  refine end_of fun bt16 ac16 wd16 d16 z16 hU16 v16 g16 => ?_
  replace d16 := d16.trans d15; replace z16 := z16.trans z15
  clear d15 z15
  refine hK22 _ _ ?_
  refine wp_seq_k fun K23 hK23 => ?_
  refine region_draw follows_mixed 163 (dso [145, 146, 147, 148, 149, 150, 151, 152, 153, 154, 155, 156, 157, 158, 159, 160, 161]) [999, 999, 999, 999, 999, 999, 999, 999, 999, 999, 999, 999, 999, 999, 999, 999, 999] [0, 0, 0, 0, 0, 0, 0, 0, 0, 0, 0, 0, 0, 0, 0, 0, 0] [] [] [[], [], [1], [0, 1, 2], [0, 1, 2, 3], [], [0, 1, 2, 3, 4, 5], [], [7], [7, 8], [], [10], [10, 11], [10, 11, 12], [10, 11, 12, 13], [0, 1, 2, 3, 4, 5, 6, 7, 8, 9, 10, 11, 12, 13, 14], [0, 1, 2, 3, 4, 5, 6, 7, 8, 9, 10, 11, 12, 13, 14, 15]]
   [fun _ => .slice (some ⟨(bt5 9), 0, none⟩) 3 3, fun _ => .int .i64 1, fun _ => .int .i64 2, fun _ => .pointer (some ⟨(bt5 9), 6, none⟩), fun _ => .agg #[.string (rB b1), .string (rB b2), .string (rB b3)], fun _ => .agg #[.string (rB x41), .string (rB x47), .string (rB x53)], fun _ => .string (rB x68), fun _ => .int .i64 1, fun _ => .pointer (some ⟨(bt1 1), 1, none⟩), fun _ => .string (rB bm), fun _ => .int .i64 1, fun _ => .int .i64 2, fun _ => .pointer (some ⟨(bt1 0), 8, none⟩), fun _ => .pointer (some ⟨(bt1 0), 11, none⟩), fun _ => .string (rB bo), fun _ => .string (rB x16), fun _ => .bool false]
   [T0, T0, T0, T0, T0, T0, T0, T0, T0, T0, T0, T0, T0, T0, T0, T0, T0]
   [] [(bt1 0), (bt1 1), (bt2 12), (bt3 16), (bt5 9), (bt6 14)] w z16 (by kernel_rfl) ⟨loc_true, loc_true, loc_true, loc_true, loc_true, loc_true, loc_true, loc_true, loc_true, loc_true, loc_true, loc_true, loc_true, loc_true, loc_true, loc_true, loc_true, trivial⟩ trivial g16.B g16.N hU16 (allG_of trivial) (fun β hβ => ?_) ?_
  · refine sc ?_ (sc ?_ (sc ?_ (sc ?_ (sc ?_ (sc ?_ (sc ?_ (sc ?_ (sc ?_ (sc ?_ (sc ?_ (sc ?_ (sc ?_ (sc ?_ (sc ?_ (sc ?_ (sc ?_ (sn)))))))))))))))))
    · refine sr rfl fun av wq hUw h K k => ?_
      have eh8 := h.B 8 ((v16 8 rfl).trans ((v15 8 rfl).trans ((v14 8 rfl).trans ((v13 8 rfl).trans ((v12 8 rfl).trans ((v11 8 rfl).trans ((v10 8 rfl).trans ((v9 8 rfl).trans ((v8 8 rfl).trans ((v7 8 rfl).trans ((v6 8 rfl).trans (g5.T 10 8))))))))))))
      clear h; go_simp
      exact k _ _ P0
    · refine sr rfl fun av wq hUw h K k => ?_
      have eh9 := h.B 9 (g16.T 1 9)
      clear h; go_simp
      exact k _ _ P0
    · refine sr rfl fun av wq hUw h K k => ?_
      have eh146 := h.A 1 146
      clear h; go_simp
      exact k _ _ P0
    · refine sr rfl fun av wq hUw h K k => ?_
      have eh145 := h.A 0 145
      have eh147 := h.A 2 147
      clear h; go_simp
      exact k _ _ P0
    · refine sr rfl fun av wq hUw h K k => ?_
      have eh148 := h.A 3 148
      have eb0 := ((g5.f 9 rfl rfl rfl rfl).up (((((((((((g6.W rfl).trans (g7.W rfl)).trans (g8.W rfl)).trans (g9.W rfl)).trans (g10.W rfl)).trans (g11.W rfl)).trans (g12.W rfl)).trans (g13.W rfl)).trans (g14.W rfl)).trans (g15.W rfl)).trans (g16.W rfl))).up (h.W rfl)
      obtain ⟨ec0, ec1, ec2⟩ := eb0.c3 6 7 8
      clear h; go_simp
      exact k _ _ P0
    · refine sr rfl fun av wq hUw h K k => ?_
      have eh5 := h.B 5 ((v16 5 rfl).trans ((v15 5 rfl).trans ((v14 5 rfl).trans ((v13 5 rfl).trans ((v12 5 rfl).trans ((v11 5 rfl).trans ((v10 5 rfl).trans ((v9 5 rfl).trans ((v8 5 rfl).trans ((v7 5 rfl).trans ((v6 5 rfl).trans ((v5 5 rfl).trans ((v4 5 rfl).trans (g3.T 16 5))))))))))))))
      have eb0 := ((g3.f 17 rfl rfl rfl rfl).up (((((((((((((g4.W rfl).trans (g5.W rfl)).trans (g6.W rfl)).trans (g7.W rfl)).trans (g8.W rfl)).trans (g9.W rfl)).trans (g10.W rfl)).trans (g11.W rfl)).trans (g12.W rfl)).trans (g13.W rfl)).trans (g14.W rfl)).trans (g15.W rfl)).trans (g16.W rfl))).up (h.W rfl)
      obtain ⟨ec0, ec1, ec2⟩ := eb0.c3 0 1 2
      clear h; go_simp
      exact k _ _ P0
    · refine sr rfl fun av wq hUw h K k => ?_
      have eh149 := h.A 4 149
      have eh150 := h.A 5 150
      have hEw := hE.up hUw
      have hcc := law_dot b1 b2 b3 x41 x47 x53 wq hEw (Nat.le_trans rb1 (by decide)) (Nat.le_trans rb2 (by decide)) (Nat.le_trans rb3 (by decide)) (Nat.le_trans rx41.out (by decide)) (Nat.le_trans rx47.out (by decide)) (Nat.le_trans rx53.out (by decide))
      rw [← Hx64.out, ← Hx65.out, ← Hx66.out, ← Hx67.out, ← Hx68.out] at hcc
      clear h; go_simp
      refine (hcc).mono ?_
      rintro _ w2 ⟨rfl, hX⟩
      exact k _ _ (PD hX)
    · refine sr rfl fun av wq hUw h K k => ?_
      have eh9 := h.B 9 (g16.T 1 9)
      clear h; go_simp
      exact k _ _ P0
    · refine sr rfl fun av wq hUw h K k => ?_
      have eh3 := h.B 3 ((v16 3 rfl).trans ((v15 3 rfl).trans ((v14 3 rfl).trans ((v13 3 rfl).trans ((v12 3 rfl).trans ((v11 3 rfl).trans ((v10 3 rfl).trans ((v9 3 rfl).trans ((v8 3 rfl).trans ((v7 3 rfl).trans ((v6 3 rfl).trans ((v5 3 rfl).trans ((v4 3 rfl).trans ((v3 3 rfl).trans ((v2 3 rfl).trans (g1.T 1 3))))))))))))))))
      have eh152 := h.A 7 152
      clear h; go_simp
      exact k _ _ P0
    · refine sr rfl fun av wq hUw h K k => ?_
      have eh153 := h.A 8 153
      have eb0 := ((g1.f 1 rfl rfl rfl rfl).up (((((((((((((((g2.W rfl).trans (g3.W rfl)).trans (g4.W rfl)).trans (g5.W rfl)).trans (g6.W rfl)).trans (g7.W rfl)).trans (g8.W rfl)).trans (g9.W rfl)).trans (g10.W rfl)).trans (g11.W rfl)).trans (g12.W rfl)).trans (g13.W rfl)).trans (g14.W rfl)).trans (g15.W rfl)).trans (g16.W rfl))).up (h.W rfl)
      have ec0 := eb0.cell 1 rfl
      clear h; go_simp
      exact k _ _ P0
    · refine sr rfl fun av wq hUw h K k => ?_
      have eh9 := h.B 9 (g16.T 1 9)
      clear h; go_simp
      exact k _ _ P0
    · refine sr rfl fun av wq hUw h K k => ?_
      have eh155 := h.A 10 155
      clear h; go_simp
      exact k _ _ P0
    · refine sr rfl fun av wq hUw h K k => ?_
      have eh2 := h.B 2 ((v16 2 rfl).trans ((v15 2 rfl).trans ((v14 2 rfl).trans ((v13 2 rfl).trans ((v12 2 rfl).trans ((v11 2 rfl).trans ((v10 2 rfl).trans ((v9 2 rfl).trans ((v8 2 rfl).trans ((v7 2 rfl).trans ((v6 2 rfl).trans ((v5 2 rfl).trans ((v4 2 rfl).trans ((v3 2 rfl).trans ((v2 2 rfl).trans (g1.T 0 2))))))))))))))))
      have eh156 := h.A 11 156
      clear h; go_simp
      exact k _ _ P0
    · refine sr rfl fun av wq hUw h K k => ?_
      have eh157 := h.A 12 157
      clear h; go_simp
      exact k _ _ P0
    · refine sr rfl fun av wq hUw h K k => ?_
      have eh158 := h.A 13 158
      have eb0 := ((g1.f 0 rfl rfl rfl rfl).up (((((((((((((((g2.W rfl).trans (g3.W rfl)).trans (g4.W rfl)).trans (g5.W rfl)).trans (g6.W rfl)).trans (g7.W rfl)).trans (g8.W rfl)).trans (g9.W rfl)).trans (g10.W rfl)).trans (g11.W rfl)).trans (g12.W rfl)).trans (g13.W rfl)).trans (g14.W rfl)).trans (g15.W rfl)).trans (g16.W rfl))).up (h.W rfl)
      have ec0 := eb0.cell 11 rfl
      clear h; go_simp
      exact k _ _ P0
    · refine sr rfl fun av wq hUw h K k => ?_
      have eh154 := h.A 9 154
      have eh159 := h.A 14 159
      have hEw := hE.up hUw
      have hcc := r02_sub bm bo wq hEw (Nat.le_trans rbm (by decide)) (Nat.le_trans rbo (by decide))
      rw [← Hx16.out] at hcc
      clear h; go_simp
      refine (hcc).mono ?_
      rintro _ w2 ⟨rfl, hX⟩
      exact k _ _ (PD hX)
    · refine sr rfl fun av wq hUw h K k => ?_
      have eh151 := h.A 6 151
      have eh160 := h.A 15 160
      have hz1 : ((rB x68).toList == (rB x16).toList) = true := by rw [rB_eq]; exact decide_eq_true HV2.out
      clear h; go_simp
      exact k _ _ P0
  refine end_of fun bt17 ac17 wd17 d17 z17 hU17 v17 g17 => ?_
  replace d17 := d17.trans d16; replace z17 := z17.trans z16
  clear d16 z16
  refine hK23 _ _ ?_
  refine wp_cond_false (eval_of (g17.T 16 161)) ?_
  refine wp_skip ?_
  refine hK21 _ _ ?_
  refine region_line 163 (dso [162, 142]) [999, 999] [0, 0] [] []
   [fun _ => .int .i64 2, fun _ => .int .i64 2]
   [T0, T0]
   [] [(bt1 0), (bt1 1), (bt2 12), (bt3 16), (bt5 9), (bt6 14)] w z17 (by kernel_rfl) ⟨loc_true, loc_true, trivial⟩ trivial g17.B g17.N hU17 (allG_of trivial) (fun β hβ => ?_) ?_
  · refine sc ?_ (sc ?_ (sn))
    · refine sr rfl fun av wq hUw h K k => ?_
      have eh142 := h.C 1 142 ((v17 142 rfl).trans ((v16 142 rfl).trans ((v15 142 rfl).trans (g14.T 1 142))))
      clear h; go_simp
      exact k _ _ P0
    · refine sr rfl fun av wq hUw h K k => ?_
      have eh162 := h.A 0 162
      clear h; go_simp
      exact k _ _ P0
  refine end_of fun bt18 ac18 wd18 d18 z18 hU18 v18 g18 => ?_
  replace d18 := d18.trans d17; replace z18 := z18.trans z17
  clear d17 z17
  refine then_norm ?_
  refine rounds_step ?_
  refine wp_seq_k fun K24 hK24 => ?_
  refine region_line 163 (dso [143]) [999] [0] [] []
   [fun _ => .bool false]
   [T0]
   [] [(bt1 0), (bt1 1), (bt2 12), (bt3 16), (bt5 9), (bt6 14)] w z18 (by kernel_rfl) ⟨loc_true, trivial⟩ trivial g18.B g18.N hU18 (allG_of trivial) (fun β hβ => ?_) ?_
  · refine sc ?_ (sn)
    · refine sr rfl fun av wq hUw h K k => ?_
      have eh142 := h.B 142 (g18.T 1 142)
      clear h; go_simp
      exact k _ _ P0
  refine end_of fun bt19 ac19 wd19 d19 z19 hU19 v19 g19 => ?_
  replace d19 := d19.trans d18; replace z19 := z19.trans z18
  clear d18 z18
  refine hK24 _ _ ?_
  refine wp_seq_k fun K25 hK25 => ?_
  refine wp_cond_false (eval_of (g19.T 0 143)) ?_
  refine wp_exit ?_
  refine then_exit ?_
  refine then_exit ?_
  refine block_hit ?_
  refine hK12 _ _ ?_
  refine wp_seq_k fun K26 hK26 => ?_
  refine region_line 163 (dso [4]) [999] [0] [] []
   [fun _ => .bool true]
   [T0]
   [] [(bt1 0), (bt1 1), (bt2 12), (bt3 16), (bt5 9), (bt6 14)] w z19 (by kernel_rfl) ⟨loc_true, trivial⟩ trivial g19.B g19.N hU19 (allG_of trivial) (fun β hβ => ?_) ?_
  · refine sc ?_ (sn)
    · refine sr rfl fun av wq hUw h K k => ?_
      clear h; go_simp
      exact k _ _ P0
  refine end_of fun bt20 ac20 wd20 d20 z20 hU20 v20 g20 => ?_
  replace d20 := d20.trans d19; replace z20 := z20.trans z19
  clear d19 z19
  refine hK26 _ _ ?_
  have et4 := g20.T 0 4
  refine wp_ret ?_
  refine bodyPost_ret (v := .bool true) (by simp [results, Tryz.f3, go_sem, et4]) d20 ?_
  exact ⟨rfl, hU20⟩

end Go.Proofs.Klp
