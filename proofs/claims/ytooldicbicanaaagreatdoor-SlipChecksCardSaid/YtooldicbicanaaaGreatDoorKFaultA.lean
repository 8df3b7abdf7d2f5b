/- The functions of a fault. -/
import Derived.Test.YtooldicbicanaaaGreatDoorKSolve
namespace Go.Proofs.Klp
open Go.RowKit Go.Shelf
attribute [local go_sem ↓] Go.wp_at_zero Go.wp_at_succ

set_option maxRecDepth 100000 in
set_option maxHeartbeats 4000000 in
theorem slip_check_bad (p1 p2 p3 po s1 s2 s3 : ByteArray) (w : World) (hE : Env w) (hzp1 : p1.size ≤ 1000000000) (hzp2 : p2.size ≤ 1000000000) (hzp3 : p3.size ≤ 1000000000) (hzpo : po.size ≤ 1000000000) (hzs1 : s1.size ≤ 1000000000) (hzs2 : s2.size ≤ 1000000000) (hzs3 : s3.size ≤ 1000000000) (hF : firstE [errN (okV (p1, p2, p3) && okR po), errN (([(s1, s2, s3)] : List Tri).all okV)] = 2) :
    Calls Tryz.prog 32 #[.agg #[.string p1, .string p2, .string p3, .string po, .string s1, .string s2, .string s3]] w (Ret w (.int .i64 2)) := by
  have HF := Lib.hid hF
  clear hF
  obtain ⟨n1, Hn1⟩ := nd (errN (okV (p1, p2, p3) && okR po) : Int)
  obtain ⟨n2, Hn2⟩ := nd (errN (([(s1, s2, s3)] : List Tri).all okV) : Int)
  go_enter Tryz.func32, Tryz.ntmps32
  refine enter_abs fun ac0 d0 z0 he0 => ?_
  have hU0 := Up.refl w
  have T0_0 := he0 0 _ rfl
  replace z0 : ac0.tmps.size = 25 := z0
  clear he0
  refine wp_seq_k fun K0 hK0 => ?_
  refine region_line 25 (dso [1, 2]) [0, 999] [1, 0] [] []
   [fun b => .pointer (some ⟨b, 0, none⟩), fun _ => .int .i64 0]
   [Bw [.string p1, .string p2, .string p3, .string po, .string s1, .string s2, .string s3], T0]
   [] ([] : List Nat) w z0 (by kernel_rfl) ⟨Bw.loc _, loc_true, trivial⟩ trivial (allB_of trivial) List.nodup_nil hU0 (allG_of trivial) (fun β hβ => ?_) ?_
  · refine sc ?_ (sc ?_ (sn))
    · refine sr rfl fun av wq hUw h K k => ?_
      have eh0 := h.B 0 T0_0
      clear h; go_simp
      exact k _ _ (PostN rfl rfl rfl rfl rfl)
    · refine sr rfl fun av wq hUw h K k => ?_
      clear h; go_simp
      exact k _ _ P0
  refine end_of fun bt1 ac1 wd1 d1 z1 hU1 v1 g1 => ?_
  replace d1 := d1.trans d0; replace z1 := z1.trans z0
  clear d0 z0
  refine hK0 _ _ ?_
  refine wp_seq_k fun K1 hK1 => ?_
  refine wp_seq_k fun K2 hK2 => ?_
  refine region_draw follows_mixed 25 (dso [4, 5, 6, 7, 8, 9, 10, 11, 12, 3]) [999, 999, 999, 999, 999, 5, 999, 7, 999, 999] [0, 0, 0, 0, 0, 1, 0, 1, 0, 0] [] [] [[], [0], [0, 1], [], [3], [3, 4], [0, 1, 2, 3, 4, 5], [0, 1, 2, 3, 4, 5, 6], [0, 1, 2, 3, 4, 5, 6, 7], [0, 1, 2, 3, 4, 5, 6, 7, 8]]
   [fun _ => .pointer (some ⟨(bt1 0), 0, none⟩), fun _ => .agg #[.string p1, .string p2, .string p3, .string po], fun _ => .int .i64 n1, fun _ => .pointer (some ⟨(bt1 0), 4, none⟩), fun _ => .agg #[.string s1, .string s2, .string s3], fun b => .slice (some ⟨b, 0, none⟩) 1 1, fun _ => .int .i64 n2, fun b => .slice (some ⟨b, 0, none⟩) 2 2, fun _ => .int .i64 2, fun _ => .int .i64 2]
   [T0, T0, T0, T0, T0, Bw [.string s1, .string s2, .string s3], T0, Bw [.int .i64 n1, .int .i64 n2], T0, T0]
   [] [(bt1 0)] w z1 (by kernel_rfl) ⟨loc_true, loc_true, loc_true, loc_true, loc_true, Bw.loc _, loc_true, Bw.loc _, loc_true, loc_true, trivial⟩ trivial g1.B g1.N hU1 (allG_of trivial) (fun β hβ => ?_) ?_
  · refine sc ?_ (sc ?_ (sc ?_ (sc ?_ (sc ?_ (sc ?_ (sc ?_ (sc ?_ (sc ?_ (sc ?_ (sn))))))))))
    · refine sr rfl fun av wq hUw h K k => ?_
      have eh1 := h.B 1 (g1.T 0 1)
      clear h; go_simp
      exact k _ _ P0
    · refine sr rfl fun av wq hUw h K k => ?_
      have eh4 := h.A 0 4
      have eb0 := (g1.f 0 rfl rfl rfl rfl).up (h.W rfl)
      obtain ⟨ec0, ec1, ec2⟩ := eb0.c3 0 1 2
      have ec3 := eb0.cell 3 rfl
      clear h; go_simp
      exact k _ _ P0
    · refine sr rfl fun av wq hUw h K k => ?_
      have eh5 := h.A 1 5
      have hEw := hE.up hUw
      have hcc := slip_plane p1 p2 p3 po wq hEw ⟨hzp1, hzp2, hzp3⟩ hzpo
      rw [← Hn1.out] at hcc
      clear h; go_simp
      refine (hcc).mono ?_
      rintro _ w2 ⟨rfl, hX⟩
      exact k _ _ (PD hX)
    · refine sr rfl fun av wq hUw h K k => ?_
      have eh1 := h.B 1 (g1.T 0 1)
      clear h; go_simp
      exact k _ _ P0
    · refine sr rfl fun av wq hUw h K k => ?_
      have eh7 := h.A 3 7
      have eb0 := (g1.f 0 rfl rfl rfl rfl).up (h.W rfl)
      obtain ⟨ec0, ec1, ec2⟩ := eb0.c3 4 5 6
      clear h; go_simp
      exact k _ _ P0
    · refine sr rfl fun av wq hUw h K k => ?_
      have eh8 := h.A 4 8
      clear h; go_simp
      exact k _ _ (PostN rfl rfl rfl rfl rfl)
    · refine sr rfl fun av wq hUw h K k => ?_
      have eh9 := h.A 5 9
      have hEw := hE.up hUw
      have eb1 := h.F 5
      have hmeb1 := Bw.slv (L := [(s1, s2, s3)]) eb1 rfl
      have hcc := slip_vectors [(s1, s2, s3)] (β 5) 1 wq hEw hmeb1 rfl (mem_cons_of ⟨hzs1, hzs2, hzs3⟩ (fun _ h => absurd h List.not_mem_nil)) (by decide)
      rw [← Hn2.out] at hcc
      clear h; go_simp
      refine (hcc).mono ?_
      rintro _ w2 ⟨rfl, hX⟩
      exact k _ _ (PD hX)
    · refine sr rfl fun av wq hUw h K k => ?_
      have eh6 := h.A 2 6
      have eh10 := h.A 6 10
      clear h; go_simp
      exact k _ _ (PostN rfl rfl rfl rfl rfl)
    · refine sr rfl fun av wq hUw h K k => ?_
      have eh11 := h.A 7 11
      have hEw := hE.up hUw
      have eb1 := h.F 7
      have hmeb1 := Bw.sli (L := [n1, n2]) eb1 rfl
      have hkn : firstE [n1, n2] = 2 := (by simp only [Hn1.out, Hn2.out]; exact HF.out)
      have hcc := slip_first [n1, n2] (β 7) 2 wq hmeb1 rfl (by decide)
      rw [hkn] at hcc
      clear hkn
      clear h; go_simp
      refine (hcc).mono ?_
      rintro _ w2 ⟨rfl, hX⟩
      exact k _ _ (PD hX)
    · refine sr rfl fun av wq hUw h K k => ?_
      have eh12 := h.A 8 12
      clear h; go_simp
      exact k _ _ P0
  refine end_of fun bt2 ac2 wd2 d2 z2 hU2 v2 g2 => ?_
  replace d2 := d2.trans d1; replace z2 := z2.trans z1
  clear d1 z1
  refine hK2 _ _ ?_
  refine wp_seq_k fun K3 hK3 => ?_
  refine region_line 25 (dso [13, 14]) [999, 999] [0, 0] [] []
   [fun _ => .int .i64 2, fun _ => .bool true]
   [T0, T0]
   [] [(bt1 0), (bt2 5), (bt2 7)] w z2 (by kernel_rfl) ⟨loc_true, loc_true, trivial⟩ trivial g2.B g2.N hU2 (allG_of trivial) (fun β hβ => ?_) ?_
  · refine sc ?_ (sc ?_ (sn))
    · refine sr rfl fun av wq hUw h K k => ?_
      have eh3 := h.B 3 (g2.T 9 3)
      clear h; go_simp
      exact k _ _ P0
    · refine sr rfl fun av wq hUw h K k => ?_
      have eh13 := h.A 0 13
      clear h; go_simp
      exact k _ _ P0
  refine end_of fun bt3 ac3 wd3 d3 z3 hU3 v3 g3 => ?_
  replace d3 := d3.trans d2; replace z3 := z3.trans z2
  clear d2 z2
  refine hK3 _ _ ?_
  refine wp_cond_true (eval_of (g3.T 1 14)) ?_
  refine wp_seq_k fun K4 hK4 => ?_
  refine region_line 25 (dso [15, 2]) [999, 999] [0, 0] [] []
   [fun _ => .int .i64 2, fun _ => .int .i64 2]
   [T0, T0]
   [] [(bt1 0), (bt2 5), (bt2 7)] w z3 (by kernel_rfl) ⟨loc_true, loc_true, trivial⟩ trivial g3.B g3.N hU3 (allG_of trivial) (fun β hβ => ?_) ?_
  · refine sc ?_ (sc ?_ (sn))
    · refine sr rfl fun av wq hUw h K k => ?_
      have eh3 := h.B 3 ((v3 3 rfl).trans (g2.T 9 3))
      clear h; go_simp
      exact k _ _ P0
    · refine sr rfl fun av wq hUw h K k => ?_
      have eh15 := h.A 0 15
      clear h; go_simp
      exact k _ _ P0
  refine end_of fun bt4 ac4 wd4 d4 z4 hU4 v4 g4 => ?_
  replace d4 := d4.trans d3; replace z4 := z4.trans z3
  clear d3 z3
  refine hK4 _ _ ?_
  have et2 := g4.T 1 2
  refine wp_ret ?_
  refine then_ret ?_
  refine bodyPost_ret (v := .int .i64 2) (by simp [results, Tryz.f32, go_sem, et2]) d4 ?_
  exact ⟨rfl, hU4⟩

set_option maxRecDepth 100000 in
set_option maxHeartbeats 4000000 in
theorem slip_check_rat (p1 p2 p3 po s1 s2 s3 : Rat) (w : World) (hE : Env w) (rp1 : rlen p1 ≤ 100) (rp2 : rlen p2 ≤ 100) (rp3 : rlen p3 ≤ 100) (rpo : rlen po ≤ 100) (rs1 : rlen s1 ≤ 100) (rs2 : rlen s2 ≤ 100) (rs3 : rlen s3 ≤ 100) (hF : firstE [errN (okV (rB p1, rB p2, rB p3) && okR (rB po)), errN (([(rB s1, rB s2, rB s3)] : List Tri).all okV)] = 0) :
    Calls Tryz.prog 32 #[.agg #[.string (rB p1), .string (rB p2), .string (rB p3), .string (rB po), .string (rB s1), .string (rB s2), .string (rB s3)]] w (Ret w (.int .i64 (firstE [(if ([(rB p1, rB p2, rB p3)] : List Tri).any zV then 17 else 0), (if (((p1 * s1) + (p2 * s2)) + (p3 * s3)) = 0 then 0 else 7)]))) := by
  have HF := Lib.hid hF
  clear hF
  obtain ⟨n1, Hn1⟩ := nd (errN (okV (rB p1, rB p2, rB p3) && okR (rB po)) : Int)
  obtain ⟨n2, Hn2⟩ := nd (errN (([(rB s1, rB s2, rB s3)] : List Tri).all okV) : Int)
  obtain ⟨n3, Hn3⟩ := nd (if ([(rB p1, rB p2, rB p3)] : List Tri).any zV then 17 else 0 : Int)
  obtain ⟨x4, Hx4, rx4⟩ := nmul rp1 rs1
  obtain ⟨x5, Hx5, rx5⟩ := nmul rp2 rs2
  obtain ⟨x6, Hx6, rx6⟩ := nadd rx4.out rx5.out
  obtain ⟨x7, Hx7, rx7⟩ := nmul rp3 rs3
  obtain ⟨x8, Hx8, rx8⟩ := nadd rx6.out rx7.out
  obtain ⟨n9, Hn9⟩ := nd (if x8 = 0 then 0 else 7 : Int)
  obtain ⟨n10, Hn10⟩ := nd (firstE [n3, n9] : Int)
  go_enter Tryz.func32, Tryz.ntmps32
  refine enter_abs fun ac0 d0 z0 he0 => ?_
  have hU0 := Up.refl w
  have T0_0 := he0 0 _ rfl
  replace z0 : ac0.tmps.size = 25 := z0
  clear he0
  refine wp_seq_k fun K0 hK0 => ?_
  refine region_line 25 (dso [1, 2]) [0, 999] [1, 0] [] []
   [fun b => .pointer (some ⟨b, 0, none⟩), fun _ => .int .i64 0]
   [Bw [.string (rB p1), .string (rB p2), .string (rB p3), .string (rB po), .string (rB s1), .string (rB s2), .string (rB s3)], T0]
   [] ([] : List Nat) w z0 (by kernel_rfl) ⟨Bw.loc _, loc_true, trivial⟩ trivial (allB_of trivial) List.nodup_nil hU0 (allG_of trivial) (fun β hβ => ?_) ?_
  · refine sc ?_ (sc ?_ (sn))
    · refine sr rfl fun av wq hUw h K k => ?_
      have eh0 := h.B 0 T0_0
      clear h; go_simp
      exact k _ _ (PostN rfl rfl rfl rfl rfl)
    · refine sr rfl fun av wq hUw h K k => ?_
      clear h; go_simp
      exact k _ _ P0
  refine end_of fun bt1 ac1 wd1 d1 z1 hU1 v1 g1 => ?_
  replace d1 := d1.trans d0; replace z1 := z1.trans z0
  clear d0 z0
  refine hK0 _ _ ?_
  refine wp_seq_k fun K1 hK1 => ?_
  refine wp_seq_k fun K2 hK2 => ?_
  refine region_draw follows_mixed 25 (dso [4, 5, 6, 7, 8, 9, 10, 11, 12, 3]) [999, 999, 999, 999, 999, 5, 999, 7, 999, 999] [0, 0, 0, 0, 0, 1, 0, 1, 0, 0] [] [] [[], [0], [0, 1], [], [3], [3, 4], [0, 1, 2, 3, 4, 5], [0, 1, 2, 3, 4, 5, 6], [0, 1, 2, 3, 4, 5, 6, 7], [0, 1, 2, 3, 4, 5, 6, 7, 8]]
   [fun _ => .pointer (some ⟨(bt1 0), 0, none⟩), fun _ => .agg #[.string (rB p1), .string (rB p2), .string (rB p3), .string (rB po)], fun _ => .int .i64 n1, fun _ => .pointer (some ⟨(bt1 0), 4, none⟩), fun _ => .agg #[.string (rB s1), .string (rB s2), .string (rB s3)], fun b => .slice (some ⟨b, 0, none⟩) 1 1, fun _ => .int .i64 n2, fun b => .slice (some ⟨b, 0, none⟩) 2 2, fun _ => .int .i64 0, fun _ => .int .i64 0]
   [T0, T0, T0, T0, T0, Bw [.string (rB s1), .string (rB s2), .string (rB s3)], T0, Bw [.int .i64 n1, .int .i64 n2], T0, T0]
   [] [(bt1 0)] w z1 (by kernel_rfl) ⟨loc_true, loc_true, loc_true, loc_true, loc_true, Bw.loc _, loc_true, Bw.loc _, loc_true, loc_true, trivial⟩ trivial g1.B g1.N hU1 (allG_of trivial) (fun β hβ => ?_) ?_
  · refine sc ?_ (sc ?_ (sc ?_ (sc ?_ (sc ?_ (sc ?_ (sc ?_ (sc ?_ (sc ?_ (sc ?_ (sn))))))))))
    · refine sr rfl fun av wq hUw h K k => ?_
      have eh1 := h.B 1 (g1.T 0 1)
      clear h; go_simp
      exact k _ _ P0
    · refine sr rfl fun av wq hUw h K k => ?_
      have eh4 := h.A 0 4
      have eb0 := (g1.f 0 rfl rfl rfl rfl).up (h.W rfl)
      obtain ⟨ec0, ec1, ec2⟩ := eb0.c3 0 1 2
      have ec3 := eb0.cell 3 rfl
      clear h; go_simp
      exact k _ _ P0
    · refine sr rfl fun av wq hUw h K k => ?_
      have eh5 := h.A 1 5
      have hEw := hE.up hUw
      have hcc := slip_plane (rB p1) (rB p2) (rB p3) (rB po) wq hEw ⟨(rB_le (Nat.le_trans rp1 (by decide))), (rB_le (Nat.le_trans rp2 (by decide))), (rB_le (Nat.le_trans rp3 (by decide)))⟩ (rB_le (Nat.le_trans rpo (by decide)))
      rw [← Hn1.out] at hcc
      clear h; go_simp
      refine (hcc).mono ?_
      rintro _ w2 ⟨rfl, hX⟩
      exact k _ _ (PD hX)
    · refine sr rfl fun av wq hUw h K k => ?_
      have eh1 := h.B 1 (g1.T 0 1)
      clear h; go_simp
      exact k _ _ P0
    · refine sr rfl fun av wq hUw h K k => ?_
      have eh7 := h.A 3 7
      have eb0 := (g1.f 0 rfl rfl rfl rfl).up (h.W rfl)
      obtain ⟨ec0, ec1, ec2⟩ := eb0.c3 4 5 6
      clear h; go_simp
      exact k _ _ P0
    · refine sr rfl fun av wq hUw h K k => ?_
      have eh8 := h.A 4 8
      clear h; go_simp
      exact k _ _ (PostN rfl rfl rfl rfl rfl)
    · refine sr rfl fun av wq hUw h K k => ?_
      have eh9 := h.A 5 9
      have hEw := hE.up hUw
      have eb1 := h.F 5
      have hmeb1 := Bw.slv (L := [(rB s1, rB s2, rB s3)]) eb1 rfl
      have hcc := slip_vectors [(rB s1, rB s2, rB s3)] (β 5) 1 wq hEw hmeb1 rfl (mem_cons_of ⟨(rB_le (Nat.le_trans rs1 (by decide))), (rB_le (Nat.le_trans rs2 (by decide))), (rB_le (Nat.le_trans rs3 (by decide)))⟩ (fun _ h => absurd h List.not_mem_nil)) (by decide)
      rw [← Hn2.out] at hcc
      clear h; go_simp
      refine (hcc).mono ?_
      rintro _ w2 ⟨rfl, hX⟩
      exact k _ _ (PD hX)
    · refine sr rfl fun av wq hUw h K k => ?_
      have eh6 := h.A 2 6
      have eh10 := h.A 6 10
      clear h; go_simp
      exact k _ _ (PostN rfl rfl rfl rfl rfl)
    · refine sr rfl fun av wq hUw h K k => ?_
      have eh11 := h.A 7 11
      have hEw := hE.up hUw
      have eb1 := h.F 7
      have hmeb1 := Bw.sli (L := [n1, n2]) eb1 rfl
      have hkn : firstE [n1, n2] = 0 := (by simp only [Hn1.out, Hn2.out]; exact HF.out)
      have hcc := slip_first [n1, n2] (β 7) 2 wq hmeb1 rfl (by decide)
      rw [hkn] at hcc
      clear hkn
      clear h; go_simp
      refine (hcc).mono ?_
      rintro _ w2 ⟨rfl, hX⟩
      exact k _ _ (PD hX)
    · refine sr rfl fun av wq hUw h K k => ?_
      have eh12 := h.A 8 12
      clear h; go_simp
      exact k _ _ P0
  refine end_of fun bt2 ac2 wd2 d2 z2 hU2 v2 g2 => ?_
  replace d2 := d2.trans d1; replace z2 := z2.trans z1
  clear d1 z1
  refine hK2 _ _ ?_
  refine wp_seq_k fun K3 hK3 => ?_
  refine region_line 25 (dso [13, 14]) [999, 999] [0, 0] [] []
   [fun _ => .int .i64 0, fun _ => .bool false]
   [T0, T0]
   [] [(bt1 0), (bt2 5), (bt2 7)] w z2 (by kernel_rfl) ⟨loc_true, loc_true, trivial⟩ trivial g2.B g2.N hU2 (allG_of trivial) (fun β hβ => ?_) ?_
  · refine sc ?_ (sc ?_ (sn))
    · refine sr rfl fun av wq hUw h K k => ?_
      have eh3 := h.B 3 (g2.T 9 3)
      clear h; go_simp
      exact k _ _ P0
    · refine sr rfl fun av wq hUw h K k => ?_
      have eh13 := h.A 0 13
      clear h; go_simp
      exact k _ _ P0
  refine end_of fun bt3 ac3 wd3 d3 z3 hU3 v3 g3 => ?_
  replace d3 := d3.trans d2; replace z3 := z3.trans z2
  clear d2 z2
  refine hK3 _ _ ?_
  refine wp_cond_false (eval_of (g3.T 1 14)) ?_
  refine wp_skip ?_
  refine hK1 _ _ ?_
  refine wp_seq_k fun K4 hK4 => ?_
  refine region_draw follows_mixed 25 (dso [16, 17, 18, 19, 20, 21, 22, 23, 24, 2]) [999, 999, 999, 3, 999, 999, 999, 7, 999, 999] [0, 0, 0, 1, 0, 0, 0, 1, 0, 0] [] [] [[], [0], [0, 1], [0, 1, 2], [0, 1, 2, 3], [], [0, 1, 2, 3, 4, 5], [0, 1, 2, 3, 4, 5, 6], [0, 1, 2, 3, 4, 5, 6, 7], [0, 1, 2, 3, 4, 5, 6, 7, 8]]
   [fun _ => .pointer (some ⟨(bt1 0), 0, none⟩), fun _ => .pointer (some ⟨(bt1 0), 0, none⟩), fun _ => .agg #[.string (rB p1), .string (rB p2), .string (rB p3)], fun b => .slice (some ⟨b, 0, none⟩) 1 1, fun _ => .int .i64 n3, fun _ => .agg #[.string (rB p1), .string (rB p2), .string (rB p3), .string (rB po), .string (rB s1), .string (rB s2), .string (rB s3)], fun _ => .int .i64 n9, fun b => .slice (some ⟨b, 0, none⟩) 2 2, fun _ => .int .i64 n10, fun _ => .int .i64 n10]
   [T0, T0, T0, Bw [.string (rB p1), .string (rB p2), .string (rB p3)], T0, T0, T0, Bw [.int .i64 n3, .int .i64 n9], T0, T0]
   [] [(bt1 0), (bt2 5), (bt2 7)] w z3 (by kernel_rfl) ⟨loc_true, loc_true, loc_true, Bw.loc _, loc_true, loc_true, loc_true, Bw.loc _, loc_true, loc_true, trivial⟩ trivial g3.B g3.N hU3 (allG_of trivial) (fun β hβ => ?_) ?_
  · refine sc ?_ (sc ?_ (sc ?_ (sc ?_ (sc ?_ (sc ?_ (sc ?_ (sc ?_ (sc ?_ (sc ?_ (sn))))))))))
    · refine sr rfl fun av wq hUw h K k => ?_
      have eh1 := h.B 1 ((v3 1 rfl).trans ((v2 1 rfl).trans (g1.T 0 1)))
      clear h; go_simp
      exact k _ _ P0
    · refine sr rfl fun av wq hUw h K k => ?_
      have eh16 := h.A 0 16
      clear h; go_simp
      exact k _ _ P0
    · refine sr rfl fun av wq hUw h K k => ?_
      have eh17 := h.A 1 17
      have eb0 := ((g1.f 0 rfl rfl rfl rfl).up ((g2.W rfl).trans (g3.W rfl))).up (h.W rfl)
      obtain ⟨ec0, ec1, ec2⟩ := eb0.c3 0 1 2
      clear h; go_simp
      exact k _ _ P0
    · refine sr rfl fun av wq hUw h K k => ?_
      have eh18 := h.A 2 18
      clear h; go_simp
      exact k _ _ (PostN rfl rfl rfl rfl rfl)
    · refine sr rfl fun av wq hUw h K k => ?_
      have eh19 := h.A 3 19
      have hEw := hE.up hUw
      have eb1 := h.F 3
      have hmeb1 := Bw.slv (L := [(rB p1, rB p2, rB p3)]) eb1 rfl
      have hcc := slip_zeros [(rB p1, rB p2, rB p3)] (β 3) 1 wq hEw hmeb1 rfl (by decide)
      rw [← Hn3.out] at hcc
      clear h; go_simp
      refine (hcc).mono ?_
      rintro _ w2 ⟨rfl, hX⟩
      exact k _ _ (PD hX)
    · refine sr rfl fun av wq hUw h K k => ?_
      have eh1 := h.B 1 ((v3 1 rfl).trans ((v2 1 rfl).trans (g1.T 0 1)))
      have eb0 := ((g1.f 0 rfl rfl rfl rfl).up ((g2.W rfl).trans (g3.W rfl))).up (h.W rfl)
      obtain ⟨ec0, ec1, ec2⟩ := eb0.c3 0 1 2
      obtain ⟨ec3, ec4, ec5⟩ := eb0.c3 3 4 5
      have ec6 := eb0.cell 6 rfl
      clear h; go_simp
      exact k _ _ P0
    · refine sr rfl fun av wq hUw h K k => ?_
      have eh21 := h.A 5 21
      have hEw := hE.up hUw
      have hcc := slip_form p1 p2 p3 s1 s2 s3 (rB po) wq hEw (Nat.le_trans rp1 (by decide)) (Nat.le_trans rp2 (by decide)) (Nat.le_trans rp3 (by decide)) (Nat.le_trans rs1 (by decide)) (Nat.le_trans rs2 (by decide)) (Nat.le_trans rs3 (by decide))
      rw [← Hx4.out, ← Hx5.out, ← Hx6.out, ← Hx7.out, ← Hx8.out, ← Hn9.out] at hcc
      clear h; go_simp
      refine (hcc).mono ?_
      rintro _ w2 ⟨rfl, hX⟩
      exact k _ _ (PD hX)
    · refine sr rfl fun av wq hUw h K k => ?_
      have eh20 := h.A 4 20
      have eh22 := h.A 6 22
      clear h; go_simp
      exact k _ _ (PostN rfl rfl rfl rfl rfl)
    · refine sr rfl fun av wq hUw h K k => ?_
      have eh23 := h.A 7 23
      have hEw := hE.up hUw
      have eb1 := h.F 7
      have hmeb1 := Bw.sli (L := [n3, n9]) eb1 rfl
      have hcc := slip_first [n3, n9] (β 7) 2 wq hmeb1 rfl (by decide)
      rw [← Hn10.out] at hcc
      clear h; go_simp
      refine (hcc).mono ?_
      rintro _ w2 ⟨rfl, hX⟩
      exact k _ _ (PD hX)
    · refine sr rfl fun av wq hUw h K k => ?_
      have eh24 := h.A 8 24
      clear h; go_simp
      exact k _ _ P0
  refine end_of fun bt4 ac4 wd4 d4 z4 hU4 v4 g4 => ?_
  replace d4 := d4.trans d3; replace z4 := z4.trans z3
  clear d3 z3
  refine hK4 _ _ ?_
  have et2 := g4.T 9 2
  refine wp_ret ?_
  refine bodyPost_ret (v := .int .i64 n10) (by simp [results, Tryz.f32, go_sem, et2]) d4 ?_
  exact ⟨by simp only [Hn10.out, Hn3.out, Hn9.out, Hx8.out, Hx6.out, Hx4.out, Hx5.out, Hx7.out], hU4⟩

set_option maxRecDepth 100000 in
set_option maxHeartbeats 4000000 in
theorem slip_kind_err (p1 p2 p3 po s1 s2 s3 : ByteArray) (e : Int) (w : World) (hE : Env w) (he : e ≠ 0) (hC : ∀ w, Env w → Calls Tryz.prog 32 #[.agg #[.string p1, .string p2, .string p3, .string po, .string s1, .string s2, .string s3]] w (Ret w (.int .i64 e))) :
    Calls Tryz.prog 34 #[.agg #[.string p1, .string p2, .string p3, .string po, .string s1, .string s2, .string s3]] w (Ret w (.tuple #[.int .i64 0, .int .i64 e])) := by
  have HC := Lib.hid hC
  have HE := Lib.hid he
  clear hC he
  go_enter Tryz.func34, Tryz.ntmps34
  refine enter_abs fun ac0 d0 z0 he0 => ?_
  have hU0 := Up.refl w
  have T0_0 := he0 0 _ rfl
  replace z0 : ac0.tmps.size = 49 := z0
  clear he0
  refine wp_seq_k fun K0 hK0 => ?_
  refine region_line 49 (dso [1, 2, 3]) [0, 999, 999] [1, 0, 0] [] []
   [fun b => .pointer (some ⟨b, 0, none⟩), fun _ => .int .i64 0, fun _ => .int .i64 0]
   [Bw [.string p1, .string p2, .string p3, .string po, .string s1, .string s2, .string s3], T0, T0]
   [] ([] : List Nat) w z0 (by kernel_rfl) ⟨Bw.loc _, loc_true, loc_true, trivial⟩ trivial (allB_of trivial) List.nodup_nil hU0 (allG_of trivial) (fun β hβ => ?_) ?_
  · refine sc ?_ (sc ?_ (sc ?_ (sn)))
    · refine sr rfl fun av wq hUw h K k => ?_
      have eh0 := h.B 0 T0_0
      clear h; go_simp
      exact k _ _ (PostN rfl rfl rfl rfl rfl)
    · refine sr rfl fun av wq hUw h K k => ?_
      clear h; go_simp
      exact k _ _ P0
    · refine sr rfl fun av wq hUw h K k => ?_
      clear h; go_simp
      exact k _ _ P0
  refine end_of fun bt1 ac1 wd1 d1 z1 hU1 v1 g1 => ?_
  replace d1 := d1.trans d0; replace z1 := z1.trans z0
  clear d0 z0
  refine hK0 _ _ ?_
  refine wp_seq_k fun K1 hK1 => ?_
  refine wp_seq_k fun K2 hK2 => ?_
  refine region_line 49 (dso [7, 8, 4]) [999, 999, 999] [0, 0, 0] [] []
   [fun _ => .agg #[.string p1, .string p2, .string p3, .string po, .string s1, .string s2, .string s3], fun _ => .int .i64 e, fun _ => .int .i64 e]
   [T0, T0, T0]
   [] [(bt1 0)] w z1 (by kernel_rfl) ⟨loc_true, loc_true, loc_true, trivial⟩ trivial g1.B g1.N hU1 (allG_of trivial) (fun β hβ => ?_) ?_
  · refine sc ?_ (sc ?_ (sc ?_ (sn)))
    · refine sr rfl fun av wq hUw h K k => ?_
      have eh1 := h.B 1 (g1.T 0 1)
      have eb0 := (g1.f 0 rfl rfl rfl rfl).up (h.W rfl)
      obtain ⟨ec0, ec1, ec2⟩ := eb0.c3 0 1 2
      obtain ⟨ec3, ec4, ec5⟩ := eb0.c3 3 4 5
      have ec6 := eb0.cell 6 rfl
      clear h; go_simp
      exact k _ _ P0
    · refine sr rfl fun av wq hUw h K k => ?_
      have eh7 := h.A 0 7
      have hEw := hE.up hUw
      clear h; go_simp
      refine (HC.out wq hEw).mono ?_
      rintro _ w2 ⟨rfl, hX⟩
      exact k _ _ (PD hX)
    · refine sr rfl fun av wq hUw h K k => ?_
      have eh8 := h.A 1 8
      clear h; go_simp
      exact k _ _ P0
  refine end_of fun bt2 ac2 wd2 d2 z2 hU2 v2 g2 => ?_
  replace d2 := d2.trans d1; replace z2 := z2.trans z1
  clear d1 z1
  refine hK2 _ _ ?_
  refine wp_seq_k fun K3 hK3 => ?_
  refine region_line 49 (dso [9, 10]) [999, 999] [0, 0] [] []
   [fun _ => .int .i64 e, fun _ => .bool true]
   [T0, T0]
   [] [(bt1 0)] w z2 (by kernel_rfl) ⟨loc_true, loc_true, trivial⟩ trivial g2.B g2.N hU2 (allG_of trivial) (fun β hβ => ?_) ?_
  · refine sc ?_ (sc ?_ (sn))
    · refine sr rfl fun av wq hUw h K k => ?_
      have eh4 := h.B 4 (g2.T 2 4)
      clear h; go_simp
      exact k _ _ P0
    · refine sr rfl fun av wq hUw h K k => ?_
      have eh9 := h.A 0 9
      have hi1 : (e != 0) = true := bne_iff_ne.2 HE.out; have hi2 : (e == 0) = false := beq_eq_false_iff_ne.2 HE.out
      clear h; go_simp
      exact k _ _ P0
  refine end_of fun bt3 ac3 wd3 d3 z3 hU3 v3 g3 => ?_
  replace d3 := d3.trans d2; replace z3 := z3.trans z2
  clear d2 z2
  refine hK3 _ _ ?_
  refine wp_cond_true (eval_of (g3.T 1 10)) ?_
  refine wp_seq_k fun K4 hK4 => ?_
  refine region_line 49 (dso [11, 2, 3]) [999, 999, 999] [0, 0, 0] [] []
   [fun _ => .int .i64 e, fun _ => .int .i64 0, fun _ => .int .i64 e]
   [T0, T0, T0]
   [] [(bt1 0)] w z3 (by kernel_rfl) ⟨loc_true, loc_true, loc_true, trivial⟩ trivial g3.B g3.N hU3 (allG_of trivial) (fun β hβ => ?_) ?_
  · refine sc ?_ (sc ?_ (sc ?_ (sn)))
    · refine sr rfl fun av wq hUw h K k => ?_
      have eh4 := h.B 4 ((v3 4 rfl).trans (g2.T 2 4))
      clear h; go_simp
      exact k _ _ P0
    · refine sr rfl fun av wq hUw h K k => ?_
      clear h; go_simp
      exact k _ _ P0
    · refine sr rfl fun av wq hUw h K k => ?_
      have eh11 := h.A 0 11
      clear h; go_simp
      exact k _ _ P0
  refine end_of fun bt4 ac4 wd4 d4 z4 hU4 v4 g4 => ?_
  replace d4 := d4.trans d3; replace z4 := z4.trans z3
  clear d3 z3
  refine hK4 _ _ ?_
  have et2 := g4.T 1 2
  have et3 := g4.T 2 3
  refine wp_ret ?_
  refine then_ret ?_
  refine bodyPost_ret (v := .tuple #[.int .i64 0, .int .i64 e]) (by simp [results, Tryz.f34, go_sem, et2, et3]) d4 ?_
  exact ⟨rfl, hU4⟩

set_option maxRecDepth 100000 in
set_option maxHeartbeats 4000000 in
theorem slip_parts_err (p1 p2 p3 po s1 s2 s3 : ByteArray) (e : Int) (w : World) (hE : Env w) (he : e ≠ 0) (hC : ∀ w, Env w → Calls Tryz.prog 32 #[.agg #[.string p1, .string p2, .string p3, .string po, .string s1, .string s2, .string s3]] w (Ret w (.int .i64 e))) :
    Calls Tryz.prog 33 #[.agg #[.string p1, .string p2, .string p3, .string po, .string s1, .string s2, .string s3]] w (Ret w (.tuple #[.string ⟨#[]⟩, .string ⟨#[]⟩, .int .i64 e])) := by
  have HC := Lib.hid hC
  have HE := Lib.hid he
  clear hC he
  go_enter Tryz.func33, Tryz.ntmps33
  refine enter_abs fun ac0 d0 z0 he0 => ?_
  have hU0 := Up.refl w
  have T0_0 := he0 0 _ rfl
  replace z0 : ac0.tmps.size = 63 := z0
  clear he0
  refine wp_seq_k fun K0 hK0 => ?_
  refine region_line 63 (dso [1, 2, 3, 4]) [0, 999, 999, 999] [1, 0, 0, 0] [] []
   [fun b => .pointer (some ⟨b, 0, none⟩), fun _ => .string ⟨#[]⟩, fun _ => .string ⟨#[]⟩, fun _ => .int .i64 0]
   [Bw [.string p1, .string p2, .string p3, .string po, .string s1, .string s2, .string s3], T0, T0, T0]
   [] ([] : List Nat) w z0 (by kernel_rfl) ⟨Bw.loc _, loc_true, loc_true, loc_true, trivial⟩ trivial (allB_of trivial) List.nodup_nil hU0 (allG_of trivial) (fun β hβ => ?_) ?_
  · refine sc ?_ (sc ?_ (sc ?_ (sc ?_ (sn))))
    · refine sr rfl fun av wq hUw h K k => ?_
      have eh0 := h.B 0 T0_0
      clear h; go_simp
      exact k _ _ (PostN rfl rfl rfl rfl rfl)
    · refine sr rfl fun av wq hUw h K k => ?_
      clear h; go_simp
      exact k _ _ P0
    · refine sr rfl fun av wq hUw h K k => ?_
      clear h; go_simp
      exact k _ _ P0
    · refine sr rfl fun av wq hUw h K k => ?_
      clear h; go_simp
      exact k _ _ P0
  refine end_of fun bt1 ac1 wd1 d1 z1 hU1 v1 g1 => ?_
  replace d1 := d1.trans d0; replace z1 := z1.trans z0
  clear d0 z0
  refine hK0 _ _ ?_
  refine wp_seq_k fun K1 hK1 => ?_
  refine wp_seq_k fun K2 hK2 => ?_
  refine region_line 63 (dso [9, 10, 5]) [999, 999, 999] [0, 0, 0] [] []
   [fun _ => .agg #[.string p1, .string p2, .string p3, .string po, .string s1, .string s2, .string s3], fun _ => .int .i64 e, fun _ => .int .i64 e]
   [T0, T0, T0]
   [] [(bt1 0)] w z1 (by kernel_rfl) ⟨loc_true, loc_true, loc_true, trivial⟩ trivial g1.B g1.N hU1 (allG_of trivial) (fun β hβ => ?_) ?_
  · refine sc ?_ (sc ?_ (sc ?_ (sn)))
    · refine sr rfl fun av wq hUw h K k => ?_
      have eh1 := h.B 1 (g1.T 0 1)
      have eb0 := (g1.f 0 rfl rfl rfl rfl).up (h.W rfl)
      obtain ⟨ec0, ec1, ec2⟩ := eb0.c3 0 1 2
      obtain ⟨ec3, ec4, ec5⟩ := eb0.c3 3 4 5
      have ec6 := eb0.cell 6 rfl
      clear h; go_simp
      exact k _ _ P0
    · refine sr rfl fun av wq hUw h K k => ?_
      have eh9 := h.A 0 9
      have hEw := hE.up hUw
      clear h; go_simp
      refine (HC.out wq hEw).mono ?_
      rintro _ w2 ⟨rfl, hX⟩
      exact k _ _ (PD hX)
    · refine sr rfl fun av wq hUw h K k => ?_
      have eh10 := h.A 1 10
      clear h; go_simp
      exact k _ _ P0
  refine end_of fun bt2 ac2 wd2 d2 z2 hU2 v2 g2 => ?_
  replace d2 := d2.trans d1; replace z2 := z2.trans z1
  clear d1 z1
  refine hK2 _ _ ?_
  refine wp_seq_k fun K3 hK3 => ?_
  refine region_line 63 (dso [11, 12]) [999, 999] [0, 0] [] []
   [fun _ => .int .i64 e, fun _ => .bool true]
   [T0, T0]
   [] [(bt1 0)] w z2 (by kernel_rfl) ⟨loc_true, loc_true, trivial⟩ trivial g2.B g2.N hU2 (allG_of trivial) (fun β hβ => ?_) ?_
  · refine sc ?_ (sc ?_ (sn))
    · refine sr rfl fun av wq hUw h K k => ?_
      have eh5 := h.B 5 (g2.T 2 5)
      clear h; go_simp
      exact k _ _ P0
    · refine sr rfl fun av wq hUw h K k => ?_
      have eh11 := h.A 0 11
      have hi1 : (e != 0) = true := bne_iff_ne.2 HE.out; have hi2 : (e == 0) = false := beq_eq_false_iff_ne.2 HE.out
      clear h; go_simp
      exact k _ _ P0
  refine end_of fun bt3 ac3 wd3 d3 z3 hU3 v3 g3 => ?_
  replace d3 := d3.trans d2; replace z3 := z3.trans z2
  clear d2 z2
  refine hK3 _ _ ?_
  refine wp_cond_true (eval_of (g3.T 1 12)) ?_
  refine wp_seq_k fun K4 hK4 => ?_
  refine region_line 63 (dso [13, 2, 3, 4]) [999, 999, 999, 999] [0, 0, 0, 0] [] []
   [fun _ => .int .i64 e, fun _ => .string ⟨#[]⟩, fun _ => .string ⟨#[]⟩, fun _ => .int .i64 e]
   [T0, T0, T0, T0]
   [] [(bt1 0)] w z3 (by kernel_rfl) ⟨loc_true, loc_true, loc_true, loc_true, trivial⟩ trivial g3.B g3.N hU3 (allG_of trivial) (fun β hβ => ?_) ?_
  · refine sc ?_ (sc ?_ (sc ?_ (sc ?_ (sn))))
    · refine sr rfl fun av wq hUw h K k => ?_
      have eh5 := h.B 5 ((v3 5 rfl).trans (g2.T 2 5))
      clear h; go_simp
      exact k _ _ P0
    · refine sr rfl fun av wq hUw h K k => ?_
      clear h; go_simp
      exact k _ _ P0
    · refine sr rfl fun av wq hUw h K k => ?_
      clear h; go_simp
      exact k _ _ P0
    · refine sr rfl fun av wq hUw h K k => ?_
      have eh13 := h.A 0 13
      clear h; go_simp
      exact k _ _ P0
  refine end_of fun bt4 ac4 wd4 d4 z4 hU4 v4 g4 => ?_
  replace d4 := d4.trans d3; replace z4 := z4.trans z3
  clear d3 z3
  refine hK4 _ _ ?_
  have et2 := g4.T 1 2
  have et3 := g4.T 2 3
  have et4 := g4.T 3 4
  refine wp_ret ?_
  refine then_ret ?_
  refine bodyPost_ret (v := .tuple #[.string ⟨#[]⟩, .string ⟨#[]⟩, .int .i64 e]) (by simp [results, Tryz.f33, go_sem, et2, et3, et4]) d4 ?_
  exact ⟨rfl, hU4⟩

set_option maxRecDepth 100000 in
set_option maxHeartbeats 4000000 in
theorem slip_throw_err (p1 p2 p3 po s1 s2 s3 : ByteArray) (e : Int) (w : World) (hE : Env w) (he : e ≠ 0) (hC : ∀ w, Env w → Calls Tryz.prog 32 #[.agg #[.string p1, .string p2, .string p3, .string po, .string s1, .string s2, .string s3]] w (Ret w (.int .i64 e))) :
    Calls Tryz.prog 35 #[.agg #[.string p1, .string p2, .string p3, .string po, .string s1, .string s2, .string s3]] w (Ret w (.tuple #[.string ⟨#[]⟩, .int .i64 e])) := by
  have HC := Lib.hid hC
  have HE := Lib.hid he
  clear hC he
  go_enter Tryz.func35, Tryz.ntmps35
  refine enter_abs fun ac0 d0 z0 he0 => ?_
  have hU0 := Up.refl w
  have T0_0 := he0 0 _ rfl
  replace z0 : ac0.tmps.size = 13 := z0
  clear he0
  refine wp_seq_k fun K0 hK0 => ?_
  refine region_line 13 (dso [1, 2, 3]) [0, 999, 999] [1, 0, 0] [] []
   [fun b => .pointer (some ⟨b, 0, none⟩), fun _ => .string ⟨#[]⟩, fun _ => .int .i64 0]
   [Bw [.string p1, .string p2, .string p3, .string po, .string s1, .string s2, .string s3], T0, T0]
   [] ([] : List Nat) w z0 (by kernel_rfl) ⟨Bw.loc _, loc_true, loc_true, trivial⟩ trivial (allB_of trivial) List.nodup_nil hU0 (allG_of trivial) (fun β hβ => ?_) ?_
  · refine sc ?_ (sc ?_ (sc ?_ (sn)))
    · refine sr rfl fun av wq hUw h K k => ?_
      have eh0 := h.B 0 T0_0
      clear h; go_simp
      exact k _ _ (PostN rfl rfl rfl rfl rfl)
    · refine sr rfl fun av wq hUw h K k => ?_
      clear h; go_simp
      exact k _ _ P0
    · refine sr rfl fun av wq hUw h K k => ?_
      clear h; go_simp
      exact k _ _ P0
  refine end_of fun bt1 ac1 wd1 d1 z1 hU1 v1 g1 => ?_
  replace d1 := d1.trans d0; replace z1 := z1.trans z0
  clear d0 z0
  refine hK0 _ _ ?_
  refine wp_seq_k fun K1 hK1 => ?_
  refine wp_seq_k fun K2 hK2 => ?_
  refine region_line 13 (dso [5, 6, 4]) [999, 999, 999] [0, 0, 0] [] []
   [fun _ => .agg #[.string p1, .string p2, .string p3, .string po, .string s1, .string s2, .string s3], fun _ => .int .i64 e, fun _ => .int .i64 e]
   [T0, T0, T0]
   [] [(bt1 0)] w z1 (by kernel_rfl) ⟨loc_true, loc_true, loc_true, trivial⟩ trivial g1.B g1.N hU1 (allG_of trivial) (fun β hβ => ?_) ?_
  · refine sc ?_ (sc ?_ (sc ?_ (sn)))
    · refine sr rfl fun av wq hUw h K k => ?_
      have eh1 := h.B 1 (g1.T 0 1)
      have eb0 := (g1.f 0 rfl rfl rfl rfl).up (h.W rfl)
      obtain ⟨ec0, ec1, ec2⟩ := eb0.c3 0 1 2
      obtain ⟨ec3, ec4, ec5⟩ := eb0.c3 3 4 5
      have ec6 := eb0.cell 6 rfl
      clear h; go_simp
      exact k _ _ P0
    · refine sr rfl fun av wq hUw h K k => ?_
      have eh5 := h.A 0 5
      have hEw := hE.up hUw
      clear h; go_simp
      refine (HC.out wq hEw).mono ?_
      rintro _ w2 ⟨rfl, hX⟩
      exact k _ _ (PD hX)
    · refine sr rfl fun av wq hUw h K k => ?_
      have eh6 := h.A 1 6
      clear h; go_simp
      exact k _ _ P0
  refine end_of fun bt2 ac2 wd2 d2 z2 hU2 v2 g2 => ?_
  replace d2 := d2.trans d1; replace z2 := z2.trans z1
  clear d1 z1
  refine hK2 _ _ ?_
  refine wp_seq_k fun K3 hK3 => ?_
  refine region_line 13 (dso [7, 8]) [999, 999] [0, 0] [] []
   [fun _ => .int .i64 e, fun _ => .bool true]
   [T0, T0]
   [] [(bt1 0)] w z2 (by kernel_rfl) ⟨loc_true, loc_true, trivial⟩ trivial g2.B g2.N hU2 (allG_of trivial) (fun β hβ => ?_) ?_
  · refine sc ?_ (sc ?_ (sn))
    · refine sr rfl fun av wq hUw h K k => ?_
      have eh4 := h.B 4 (g2.T 2 4)
      clear h; go_simp
      exact k _ _ P0
    · refine sr rfl fun av wq hUw h K k => ?_
      have eh7 := h.A 0 7
      have hi1 : (e != 0) = true := bne_iff_ne.2 HE.out; have hi2 : (e == 0) = false := beq_eq_false_iff_ne.2 HE.out
      clear h; go_simp
      exact k _ _ P0
  refine end_of fun bt3 ac3 wd3 d3 z3 hU3 v3 g3 => ?_
  replace d3 := d3.trans d2; replace z3 := z3.trans z2
  clear d2 z2
  refine hK3 _ _ ?_
  refine wp_cond_true (eval_of (g3.T 1 8)) ?_
  refine wp_seq_k fun K4 hK4 => ?_
  refine region_line 13 (dso [9, 2, 3]) [999, 999, 999] [0, 0, 0] [] []
   [fun _ => .int .i64 e, fun _ => .string ⟨#[]⟩, fun _ => .int .i64 e]
   [T0, T0, T0]
   [] [(bt1 0)] w z3 (by kernel_rfl) ⟨loc_true, loc_true, loc_true, trivial⟩ trivial g3.B g3.N hU3 (allG_of trivial) (fun β hβ => ?_) ?_
  · refine sc ?_ (sc ?_ (sc ?_ (sn)))
    · refine sr rfl fun av wq hUw h K k => ?_
      have eh4 := h.B 4 ((v3 4 rfl).trans (g2.T 2 4))
      clear h; go_simp
      exact k _ _ P0
    · refine sr rfl fun av wq hUw h K k => ?_
      clear h; go_simp
      exact k _ _ P0
    · refine sr rfl fun av wq hUw h K k => ?_
      have eh9 := h.A 0 9
      clear h; go_simp
      exact k _ _ P0
  refine end_of fun bt4 ac4 wd4 d4 z4 hU4 v4 g4 => ?_
  replace d4 := d4.trans d3; replace z4 := z4.trans z3
  clear d3 z3
  refine hK4 _ _ ?_
  have et2 := g4.T 1 2
  have et3 := g4.T 2 3
  refine wp_ret ?_
  refine then_ret ?_
  refine bodyPost_ret (v := .tuple #[.string ⟨#[]⟩, .int .i64 e]) (by simp [results, Tryz.f35, go_sem, et2, et3]) d4 ?_
  exact ⟨rfl, hU4⟩

set_option maxRecDepth 100000 in
set_option maxHeartbeats 4000000 in
theorem slip_heave_err (p1 p2 p3 po s1 s2 s3 : ByteArray) (e : Int) (w : World) (hE : Env w) (he : e ≠ 0) (hC : ∀ w, Env w → Calls Tryz.prog 32 #[.agg #[.string p1, .string p2, .string p3, .string po, .string s1, .string s2, .string s3]] w (Ret w (.int .i64 e))) :
    Calls Tryz.prog 36 #[.agg #[.string p1, .string p2, .string p3, .string po, .string s1, .string s2, .string s3]] w (Ret w (.tuple #[.string ⟨#[]⟩, .int .i64 e])) := by
  have HC := Lib.hid hC
  have HE := Lib.hid he
  clear hC he
  go_enter Tryz.func36, Tryz.ntmps36
  refine enter_abs fun ac0 d0 z0 he0 => ?_
  have hU0 := Up.refl w
  have T0_0 := he0 0 _ rfl
  replace z0 : ac0.tmps.size = 28 := z0
  clear he0
  refine wp_seq_k fun K0 hK0 => ?_
  refine region_line 28 (dso [1, 2, 3]) [0, 999, 999] [1, 0, 0] [] []
   [fun b => .pointer (some ⟨b, 0, none⟩), fun _ => .string ⟨#[]⟩, fun _ => .int .i64 0]
   [Bw [.string p1, .string p2, .string p3, .string po, .string s1, .string s2, .string s3], T0, T0]
   [] ([] : List Nat) w z0 (by kernel_rfl) ⟨Bw.loc _, loc_true, loc_true, trivial⟩ trivial (allB_of trivial) List.nodup_nil hU0 (allG_of trivial) (fun β hβ => ?_) ?_
  · refine sc ?_ (sc ?_ (sc ?_ (sn)))
    · refine sr rfl fun av wq hUw h K k => ?_
      have eh0 := h.B 0 T0_0
      clear h; go_simp
      exact k _ _ (PostN rfl rfl rfl rfl rfl)
    · refine sr rfl fun av wq hUw h K k => ?_
      clear h; go_simp
      exact k _ _ P0
    · refine sr rfl fun av wq hUw h K k => ?_
      clear h; go_simp
      exact k _ _ P0
  refine end_of fun bt1 ac1 wd1 d1 z1 hU1 v1 g1 => ?_
  replace d1 := d1.trans d0; replace z1 := z1.trans z0
  clear d0 z0
  refine hK0 _ _ ?_
  refine wp_seq_k fun K1 hK1 => ?_
  refine wp_seq_k fun K2 hK2 => ?_
  refine region_line 28 (dso [5, 6, 4]) [999, 999, 999] [0, 0, 0] [] []
   [fun _ => .agg #[.string p1, .string p2, .string p3, .string po, .string s1, .string s2, .string s3], fun _ => .int .i64 e, fun _ => .int .i64 e]
   [T0, T0, T0]
   [] [(bt1 0)] w z1 (by kernel_rfl) ⟨loc_true, loc_true, loc_true, trivial⟩ trivial g1.B g1.N hU1 (allG_of trivial) (fun β hβ => ?_) ?_
  · refine sc ?_ (sc ?_ (sc ?_ (sn)))
    · refine sr rfl fun av wq hUw h K k => ?_
      have eh1 := h.B 1 (g1.T 0 1)
      have eb0 := (g1.f 0 rfl rfl rfl rfl).up (h.W rfl)
      obtain ⟨ec0, ec1, ec2⟩ := eb0.c3 0 1 2
      obtain ⟨ec3, ec4, ec5⟩ := eb0.c3 3 4 5
      have ec6 := eb0.cell 6 rfl
      clear h; go_simp
      exact k _ _ P0
    · refine sr rfl fun av wq hUw h K k => ?_
      have eh5 := h.A 0 5
      have hEw := hE.up hUw
      clear h; go_simp
      refine (HC.out wq hEw).mono ?_
      rintro _ w2 ⟨rfl, hX⟩
      exact k _ _ (PD hX)
    · refine sr rfl fun av wq hUw h K k => ?_
      have eh6 := h.A 1 6
      clear h; go_simp
      exact k _ _ P0
  refine end_of fun bt2 ac2 wd2 d2 z2 hU2 v2 g2 => ?_
  replace d2 := d2.trans d1; replace z2 := z2.trans z1
  clear d1 z1
  refine hK2 _ _ ?_
  refine wp_seq_k fun K3 hK3 => ?_
  refine region_line 28 (dso [7, 8]) [999, 999] [0, 0] [] []
   [fun _ => .int .i64 e, fun _ => .bool true]
   [T0, T0]
   [] [(bt1 0)] w z2 (by kernel_rfl) ⟨loc_true, loc_true, trivial⟩ trivial g2.B g2.N hU2 (allG_of trivial) (fun β hβ => ?_) ?_
  · refine sc ?_ (sc ?_ (sn))
    · refine sr rfl fun av wq hUw h K k => ?_
      have eh4 := h.B 4 (g2.T 2 4)
      clear h; go_simp
      exact k _ _ P0
    · refine sr rfl fun av wq hUw h K k => ?_
      have eh7 := h.A 0 7
      have hi1 : (e != 0) = true := bne_iff_ne.2 HE.out; have hi2 : (e == 0) = false := beq_eq_false_iff_ne.2 HE.out
      clear h; go_simp
      exact k _ _ P0
  refine end_of fun bt3 ac3 wd3 d3 z3 hU3 v3 g3 => ?_
  replace d3 := d3.trans d2; replace z3 := z3.trans z2
  clear d2 z2
  refine hK3 _ _ ?_
  refine wp_cond_true (eval_of (g3.T 1 8)) ?_
  refine wp_seq_k fun K4 hK4 => ?_
  refine region_line 28 (dso [9, 2, 3]) [999, 999, 999] [0, 0, 0] [] []
   [fun _ => .int .i64 e, fun _ => .string ⟨#[]⟩, fun _ => .int .i64 e]
   [T0, T0, T0]
   [] [(bt1 0)] w z3 (by kernel_rfl) ⟨loc_true, loc_true, loc_true, trivial⟩ trivial g3.B g3.N hU3 (allG_of trivial) (fun β hβ => ?_) ?_
  · refine sc ?_ (sc ?_ (sc ?_ (sn)))
    · refine sr rfl fun av wq hUw h K k => ?_
      have eh4 := h.B 4 ((v3 4 rfl).trans (g2.T 2 4))
      clear h; go_simp
      exact k _ _ P0
    · refine sr rfl fun av wq hUw h K k => ?_
      clear h; go_simp
      exact k _ _ P0
    · refine sr rfl fun av wq hUw h K k => ?_
      have eh9 := h.A 0 9
      clear h; go_simp
      exact k _ _ P0
  refine end_of fun bt4 ac4 wd4 d4 z4 hU4 v4 g4 => ?_
  replace d4 := d4.trans d3; replace z4 := z4.trans z3
  clear d3 z3
  refine hK4 _ _ ?_
  have et2 := g4.T 1 2
  have et3 := g4.T 2 3
  refine wp_ret ?_
  refine then_ret ?_
  refine bodyPost_ret (v := .tuple #[.string ⟨#[]⟩, .int .i64 e]) (by simp [results, Tryz.f36, go_sem, et2, et3]) d4 ?_
  exact ⟨rfl, hU4⟩

set_option maxRecDepth 100000 in
set_option maxHeartbeats 4000000 in
theorem slip_kind_down1 (p1 p2 p3 po s1 s2 s3 : Rat) (w : World) (hE : Env w) (rp1 : rlen p1 ≤ 100) (rp2 : rlen p2 ≤ 100) (rp3 : rlen p3 ≤ 100) (rpo : rlen po ≤ 100) (rs1 : rlen s1 ≤ 100) (rs2 : rlen s2 ≤ 100) (rs3 : rlen s3 ≤ 100) (hC : ∀ w, Env w → Calls Tryz.prog 32 #[.agg #[.string (rB p1), .string (rB p2), .string (rB p3), .string (rB po), .string (rB s1), .string (rB s2), .string (rB s3)]] w (Ret w (.int .i64 0))) (hZ : zV (rB s1, rB s2, rB s3) = false) (hS : (decide (s3.num.sign < 0)) = true) (hT : (decide (0 < p3.num.sign)) = true) (h1 : p1 ≠ 0) (h3 : p3 ≠ 0) (h4 : s3 ≠ 0) :
    Calls Tryz.prog 34 #[.agg #[.string (rB p1), .string (rB p2), .string (rB p3), .string (rB po), .string (rB s1), .string (rB s2), .string (rB s3)]] w (Ret w (.tuple #[.int .i64 1, .int .i64 0])) := by
  have HC := Lib.hid hC
  clear hC
  have HZ := Lib.hid hZ
  obtain ⟨n1, Hn1⟩ := nd (s3.num.sign : Int)
  obtain ⟨n2, Hn2⟩ := nd (p3.num.sign : Int)
  have HS := Lib.hid (show (decide (n1 < 0)) = true from (by simp only [Hn1.out]; exact hS))
  have HT := Lib.hid (show (decide (0 < n2)) = true from (by simp only [Hn2.out]; exact hT))
  have Hh1 := Lib.hid h1
  have Hh3 := Lib.hid h3
  have Hh4 := Lib.hid h4
  clear hZ hS hT h1 h3 h4
  go_enter Tryz.func34, Tryz.ntmps34
  refine enter_abs fun ac0 d0 z0 he0 => ?_
  have hU0 := Up.refl w
  have T0_0 := he0 0 _ rfl
  replace z0 : ac0.tmps.size = 49 := z0
  clear he0
  refine wp_seq_k fun K0 hK0 => ?_
  refine region_line 49 (dso [1, 2, 3]) [0, 999, 999] [1, 0, 0] [] []
   [fun b => .pointer (some ⟨b, 0, none⟩), fun _ => .int .i64 0, fun _ => .int .i64 0]
   [Bw [.string (rB p1), .string (rB p2), .string (rB p3), .string (rB po), .string (rB s1), .string (rB s2), .string (rB s3)], T0, T0]
   [] ([] : List Nat) w z0 (by kernel_rfl) ⟨Bw.loc _, loc_true, loc_true, trivial⟩ trivial (allB_of trivial) List.nodup_nil hU0 (allG_of trivial) (fun β hβ => ?_) ?_
  · refine sc ?_ (sc ?_ (sc ?_ (sn)))
    · refine sr rfl fun av wq hUw h K k => ?_
      have eh0 := h.B 0 T0_0
      clear h; go_simp
      exact k _ _ (PostN rfl rfl rfl rfl rfl)
    · refine sr rfl fun av wq hUw h K k => ?_
      clear h; go_simp
      exact k _ _ P0
    · refine sr rfl fun av wq hUw h K k => ?_
      clear h; go_simp
      exact k _ _ P0
  refine end_of fun bt1 ac1 wd1 d1 z1 hU1 v1 g1 => ?_
  replace d1 := d1.trans d0; replace z1 := z1.trans z0
  clear d0 z0
  refine hK0 _ _ ?_
  refine wp_seq_k fun K1 hK1 => ?_
  refine wp_seq_k fun K2 hK2 => ?_
  refine region_line 49 (dso [7, 8, 4]) [999, 999, 999] [0, 0, 0] [] []
   [fun _ => .agg #[.string (rB p1), .string (rB p2), .string (rB p3), .string (rB po), .string (rB s1), .string (rB s2), .string (rB s3)], fun _ => .int .i64 0, fun _ => .int .i64 0]
   [T0, T0, T0]
   [] [(bt1 0)] w z1 (by kernel_rfl) ⟨loc_true, loc_true, loc_true, trivial⟩ trivial g1.B g1.N hU1 (allG_of trivial) (fun β hβ => ?_) ?_
  · refine sc ?_ (sc ?_ (sc ?_ (sn)))
    · refine sr rfl fun av wq hUw h K k => ?_
      have eh1 := h.B 1 (g1.T 0 1)
      have eb0 := (g1.f 0 rfl rfl rfl rfl).up (h.W rfl)
      obtain ⟨ec0, ec1, ec2⟩ := eb0.c3 0 1 2
      obtain ⟨ec3, ec4, ec5⟩ := eb0.c3 3 4 5
      have ec6 := eb0.cell 6 rfl
      clear h; go_simp
      exact k _ _ P0
    · refine sr rfl fun av wq hUw h K k => ?_
      have eh7 := h.A 0 7
      have hEw := hE.up hUw
      clear h; go_simp
      refine (HC.out wq hEw).mono ?_
      rintro _ w2 ⟨rfl, hX⟩
      exact k _ _ (PD hX)
    · refine sr rfl fun av wq hUw h K k => ?_
      have eh8 := h.A 1 8
      clear h; go_simp
      exact k _ _ P0
  refine end_of fun bt2 ac2 wd2 d2 z2 hU2 v2 g2 => ?_
  replace d2 := d2.trans d1; replace z2 := z2.trans z1
  clear d1 z1
  refine hK2 _ _ ?_
  refine wp_seq_k fun K3 hK3 => ?_
  refine region_line 49 (dso [9, 10]) [999, 999] [0, 0] [] []
   [fun _ => .int .i64 0, fun _ => .bool false]
   [T0, T0]
   [] [(bt1 0)] w z2 (by kernel_rfl) ⟨loc_true, loc_true, trivial⟩ trivial g2.B g2.N hU2 (allG_of trivial) (fun β hβ => ?_) ?_
  · refine sc ?_ (sc ?_ (sn))
    · refine sr rfl fun av wq hUw h K k => ?_
      have eh4 := h.B 4 (g2.T 2 4)
      clear h; go_simp
      exact k _ _ P0
    · refine sr rfl fun av wq hUw h K k => ?_
      have eh9 := h.A 0 9
      clear h; go_simp
      exact k _ _ P0
  refine end_of fun bt3 ac3 wd3 d3 z3 hU3 v3 g3 => ?_
  replace d3 := d3.trans d2; replace z3 := z3.trans z2
  clear d2 z2
  refine hK3 _ _ ?_
  refine wp_cond_false (eval_of (g3.T 1 10)) ?_
  refine wp_skip ?_
  refine hK1 _ _ ?_
  refine wp_seq_k fun K4 hK4 => ?_
  refine region_draw follows_mixed 49 (dso [12, 13, 14, 15, 16, 17, 18, 19, 5, 999, 6]) [999, 999, 999, 999, 999, 999, 999, 999, 8, 8, 999] [0, 0, 0, 0, 0, 0, 0, 0, 1, 2, 0] [999, 999, 999, 999, 999, 999, 999, 999, 9, 999, 999] [] [[], [0], [0, 1], [], [3], [3, 4], [3, 4, 5], [3, 4, 5, 6], [], [0, 1, 2, 3, 4, 5, 6, 8], [0, 1, 2, 3, 4, 5, 6, 7, 8, 9]]
   [fun _ => .pointer (some ⟨(bt1 0), 0, none⟩), fun _ => .pointer (some ⟨(bt1 0), 0, none⟩), fun _ => .agg #[.string (rB p1), .string (rB p2), .string (rB p3)], fun _ => .pointer (some ⟨(bt1 0), 4, none⟩), fun _ => .pointer (some ⟨(bt1 0), 6, none⟩), fun _ => .string (rB s3), fun _ => .int .i64 n1, fun _ => .bool true, fun b => .pointer (some ⟨b, 0, none⟩), fun _ => undef, fun _ => .bool true]
   [T0, T0, T0, T0, T0, T0, T0, T0, Bw [.string ⟨#[]⟩, .string ⟨#[]⟩, .string ⟨#[]⟩], Bw [.string (rB p1), .string (rB p2), .string (rB p3)], T0]
   [] [(bt1 0)] w z3 (by kernel_rfl) ⟨loc_true, loc_true, loc_true, loc_true, loc_true, loc_true, loc_true, loc_true, Bw.loc _, Bw.loc _, loc_true, trivial⟩ trivial g3.B g3.N hU3 (allG_of trivial) (fun β hβ => ?_) ?_
  · refine sc ?_ (sc ?_ (sc ?_ (sc ?_ (sc ?_ (sc ?_ (sc ?_ (sc ?_ (sc ?_ (sc ?_ (sc ?_ (sn)))))))))))
    · refine sr rfl fun av wq hUw h K k => ?_
      have eh1 := h.B 1 ((v3 1 rfl).trans ((v2 1 rfl).trans (g1.T 0 1)))
      clear h; go_simp
      exact k _ _ P0
    · refine sr rfl fun av wq hUw h K k => ?_
      have eh12 := h.A 0 12
      clear h; go_simp
      exact k _ _ P0
    · refine sr rfl fun av wq hUw h K k => ?_
      have eh13 := h.A 1 13
      have eb0 := ((g1.f 0 rfl rfl rfl rfl).up ((g2.W rfl).trans (g3.W rfl))).up (h.W rfl)
      obtain ⟨ec0, ec1, ec2⟩ := eb0.c3 0 1 2
      clear h; go_simp
      exact k _ _ P0
    · refine sr rfl fun av wq hUw h K k => ?_
      have eh1 := h.B 1 ((v3 1 rfl).trans ((v2 1 rfl).trans (g1.T 0 1)))
      clear h; go_simp
      exact k _ _ P0
    · refine sr rfl fun av wq hUw h K k => ?_
      have eh15 := h.A 3 15
      clear h; go_simp
      exact k _ _ P0
    · refine sr rfl fun av wq hUw h K k => ?_
      have eh16 := h.A 4 16
      have eb0 := ((g1.f 0 rfl rfl rfl rfl).up ((g2.W rfl).trans (g3.W rfl))).up (h.W rfl)
      have ec0 := eb0.cell 6 rfl
      clear h; go_simp
      exact k _ _ P0
    · refine sr rfl fun av wq hUw h K k => ?_
      have eh17 := h.A 5 17
      have hEw := hE.up hUw
      have hcc := rat_sign s3 wq (Nat.le_trans rs3 (by decide))
      rw [← Hn1.out] at hcc
      clear h; go_simp
      refine (ret_eq hcc).mono ?_
      rintro _ w2 ⟨rfl, hX⟩
      exact k _ _ (PD hX)
    · refine sr rfl fun av wq hUw h K k => ?_
      have eh18 := h.A 6 18
      have hd1 := HS.out
      clear h; go_simp
      exact k _ _ P0
    · refine sr rfl fun av wq hUw h K k => ?_
      clear h; go_simp
      exact k _ _ (PostN rfl rfl rfl rfl rfl)
    · refine sr rfl fun av wq hUw h K k => ?_
      have eh5 := h.A 8 5
      have eh14 := h.A 2 14
      have eb0 := h.F 8
      obtain ⟨ec0, ec1, ec2⟩ := eb0.c3 0 1 2; obtain ⟨ef0, ef1, ef2⟩ := eb0.f3 0 1 2
      clear h; go_simp
      exact k _ _ (PostS rfl rfl rfl rfl rfl rfl ((((Sto.refl _ _).set 0 _).set 1 _).set 2 _) ((((eb0).set 0 rfl _).set 1 rfl _).set 2 rfl _))
    · refine sr rfl fun av wq hUw h K k => ?_
      have eh19 := h.A 7 19
      clear h; go_simp
      exact k _ _ P0
  refine end_of fun bt4 ac4 wd4 d4 z4 hU4 v4 g4 => ?_
  replace d4 := d4.trans d3; replace z4 := z4.trans z3
  clear d3 z3
  refine hK4 _ _ ?_
  refine wp_seq_k fun K5 hK5 => ?_
  refine wp_block ?_
  refine wp_seq_k fun K6 hK6 => ?_
  refine region_line 49 (dso [21, 22, 23, 20]) [999, 999, 999, 999] [0, 0, 0, 0] [] []
   [fun _ => .pointer (some ⟨(bt1 0), 4, none⟩), fun _ => .agg #[.string (rB s1), .string (rB s2), .string (rB s3)], fun _ => .bool false, fun _ => .bool false]
   [T0, T0, T0, T0]
   [] [(bt1 0), (bt4 8)] w z4 (by kernel_rfl) ⟨loc_true, loc_true, loc_true, loc_true, trivial⟩ trivial g4.B g4.N hU4 (allG_of trivial) (fun β hβ => ?_) ?_
  · refine sc ?_ (sc ?_ (sc ?_ (sc ?_ (sn))))
    · refine sr rfl fun av wq hUw h K k => ?_
      have eh1 := h.B 1 ((v4 1 rfl).trans ((v3 1 rfl).trans ((v2 1 rfl).trans (g1.T 0 1))))
      clear h; go_simp
      exact k _ _ P0
    · refine sr rfl fun av wq hUw h K k => ?_
      have eh21 := h.A 0 21
      have eb0 := ((g1.f 0 rfl rfl rfl rfl).up (((g2.W rfl).trans (g3.W rfl)).trans (g4.W rfl))).up (h.W rfl)
      obtain ⟨ec0, ec1, ec2⟩ := eb0.c3 4 5 6
      clear h; go_simp
      exact k _ _ P0
    · refine sr rfl fun av wq hUw h K k => ?_
      have eh22 := h.A 1 22
      have hEw := hE.up hUw
      have hkn : zV (rB s1, rB s2, rB s3) = false := HZ.out
      have hcc := slip_zero (rB s1, rB s2, rB s3) wq
      rw [hkn] at hcc
      clear hkn
      clear h; go_simp
      refine (hcc).mono ?_
      rintro _ w2 ⟨rfl, hX⟩
      exact k _ _ (PD hX)
    · refine sr rfl fun av wq hUw h K k => ?_
      have eh23 := h.A 2 23
      clear h; go_simp
      exact k _ _ P0
  refine end_of fun bt5 ac5 wd5 d5 z5 hU5 v5 g5 => ?_
  replace d5 := d5.trans d4; replace z5 := z5.trans z4
  clear d4 z4
  refine hK6 _ _ ?_
  refine wp_cond_false (eval_of (g5.T 3 20)) ?_
  refine wp_seq_k fun K7 hK7 => ?_
  refine region_line 49 (dso [25, 26, 27, 28, 29, 30, 31, 32, 24]) [999, 999, 999, 999, 999, 999, 999, 999, 999] [0, 0, 0, 0, 0, 0, 0, 0, 0] [] []
   [fun _ => .pointer (some ⟨(bt4 8), 0, none⟩), fun _ => .string (rB p1), fun _ => .bool false, fun _ => .bool false, fun _ => undef, fun _ => undef, fun _ => undef, fun _ => .bool false, fun _ => .bool false]
   [T0, T0, T0, T0, T0, T0, T0, T0, T0]
   [] [(bt1 0), (bt4 8)] w z5 (by kernel_rfl) ⟨loc_true, loc_true, loc_true, loc_true, loc_true, loc_true, loc_true, loc_true, loc_true, trivial⟩ trivial g5.B g5.N hU5 (allG_of trivial) (fun β hβ => ?_) ?_
  · refine sc ?_ (sc ?_ (sc ?_ (sc ?_ (sc ?_ (sc ?_ (sc ?_ (sc ?_ (sc ?_ (sn)))))))))
    · refine sr rfl fun av wq hUw h K k => ?_
      have eh5 := h.B 5 ((v5 5 rfl).trans (g4.T 8 5))
      clear h; go_simp
      exact k _ _ P0
    · refine sr rfl fun av wq hUw h K k => ?_
      have eh25 := h.A 0 25
      have eb0 := ((g4.f 9 rfl rfl rfl rfl).up (g5.W rfl)).up (h.W rfl)
      have ec0 := eb0.cell 0 rfl
      clear h; go_simp
      exact k _ _ P0
    · refine sr rfl fun av wq hUw h K k => ?_
      have eh26 := h.A 1 26
      have hz0 : ((rB p1).toList == [48]) = false := by rw [rB_is0]; exact decide_eq_false Hh1.out
      clear h; go_simp
      exact k _ _ P0
    · refine sr rfl fun av wq hUw h K k => ?_
      have eh27 := h.A 2 27
      clear h; go_simp
      exact k _ _ P0
    · exact sk (t := 28) rfl rfl (c := false) rfl rfl rfl rfl fun _ h => h 3 28 rfl rfl rfl
    · exact sk (t := 28) rfl rfl (c := false) rfl rfl rfl rfl fun _ h => h 3 28 rfl rfl rfl
    · exact sk (t := 28) rfl rfl (c := false) rfl rfl rfl rfl fun _ h => h 3 28 rfl rfl rfl
    · refine sr rfl fun av wq hUw h K k => ?_
      have eh28 := h.A 3 28
      have eh31 := h.A 6 31
      clear h; go_simp
      exact k _ _ P0
    · refine sr rfl fun av wq hUw h K k => ?_
      have eh32 := h.A 7 32
      clear h; go_simp
      exact k _ _ P0
  refine end_of fun bt6 ac6 wd6 d6 z6 hU6 v6 g6 => ?_
  replace d6 := d6.trans d5; replace z6 := z6.trans z5
  clear d5 z5
  refine hK7 _ _ ?_
  refine wp_cond_false (eval_of (g6.T 8 24)) ?_
  refine wp_seq_k fun K8 hK8 => ?_
  refine region_line 49 (dso [34, 35, 36, 33]) [999, 999, 999, 999] [0, 0, 0, 0] [] []
   [fun _ => .pointer (some ⟨(bt4 8), 2, none⟩), fun _ => .string (rB p3), fun _ => .bool false, fun _ => .bool false]
   [T0, T0, T0, T0]
   [] [(bt1 0), (bt4 8)] w z6 (by kernel_rfl) ⟨loc_true, loc_true, loc_true, loc_true, trivial⟩ trivial g6.B g6.N hU6 (allG_of trivial) (fun β hβ => ?_) ?_
  · refine sc ?_ (sc ?_ (sc ?_ (sc ?_ (sn))))
    · refine sr rfl fun av wq hUw h K k => ?_
      have eh5 := h.B 5 ((v6 5 rfl).trans ((v5 5 rfl).trans (g4.T 8 5)))
      clear h; go_simp
      exact k _ _ P0
    · refine sr rfl fun av wq hUw h K k => ?_
      have eh34 := h.A 0 34
      have eb0 := ((g4.f 9 rfl rfl rfl rfl).up ((g5.W rfl).trans (g6.W rfl))).up (h.W rfl)
      have ec0 := eb0.cell 2 rfl
      clear h; go_simp
      exact k _ _ P0
    · refine sr rfl fun av wq hUw h K k => ?_
      have eh35 := h.A 1 35
      have hz0 : ((rB p3).toList == [48]) = false := by rw [rB_is0]; exact decide_eq_false Hh3.out
      clear h; go_simp
      exact k _ _ P0
    · refine sr rfl fun av wq hUw h K k => ?_
      have eh36 := h.A 2 36
      clear h; go_simp
      exact k _ _ P0
  refine end_of fun bt7 ac7 wd7 d7 z7 hU7 v7 g7 => ?_
  replace d7 := d7.trans d6; replace z7 := z7.trans z6
  clear d6 z6
  refine hK8 _ _ ?_
  refine wp_cond_false (eval_of (g7.T 3 33)) ?_
  refine wp_seq_k fun K9 hK9 => ?_
  refine region_line 49 (dso [38, 39, 40, 41, 37]) [999, 999, 999, 999, 999] [0, 0, 0, 0, 0] [] []
   [fun _ => .pointer (some ⟨(bt1 0), 4, none⟩), fun _ => .pointer (some ⟨(bt1 0), 6, none⟩), fun _ => .string (rB s3), fun _ => .bool false, fun _ => .bool false]
   [T0, T0, T0, T0, T0]
   [] [(bt1 0), (bt4 8)] w z7 (by kernel_rfl) ⟨loc_true, loc_true, loc_true, loc_true, loc_true, trivial⟩ trivial g7.B g7.N hU7 (allG_of trivial) (fun β hβ => ?_) ?_
  · refine sc ?_ (sc ?_ (sc ?_ (sc ?_ (sc ?_ (sn)))))
    · refine sr rfl fun av wq hUw h K k => ?_
      have eh1 := h.B 1 ((v7 1 rfl).trans ((v6 1 rfl).trans ((v5 1 rfl).trans ((v4 1 rfl).trans ((v3 1 rfl).trans ((v2 1 rfl).trans (g1.T 0 1)))))))
      clear h; go_simp
      exact k _ _ P0
    · refine sr rfl fun av wq hUw h K k => ?_
      have eh38 := h.A 0 38
      clear h; go_simp
      exact k _ _ P0
    · refine sr rfl fun av wq hUw h K k => ?_
      have eh39 := h.A 1 39
      have eb0 := ((g1.f 0 rfl rfl rfl rfl).up ((((((g2.W rfl).trans (g3.W rfl)).trans (g4.W rfl)).trans (g5.W rfl)).trans (g6.W rfl)).trans (g7.W rfl))).up (h.W rfl)
      have ec0 := eb0.cell 6 rfl
      clear h; go_simp
      exact k _ _ P0
    · refine sr rfl fun av wq hUw h K k => ?_
      have eh40 := h.A 2 40
      have hz0 : ((rB s3).toList == [48]) = false := by rw [rB_is0]; exact decide_eq_false Hh4.out
      clear h; go_simp
      exact k _ _ P0
    · refine sr rfl fun av wq hUw h K k => ?_
      have eh41 := h.A 3 41
      clear h; go_simp
      exact k _ _ P0
  refine end_of fun bt8 ac8 wd8 d8 z8 hU8 v8 g8 => ?_
  replace d8 := d8.trans d7; replace z8 := z8.trans z7
  clear d7 z7
  refine hK9 _ _ ?_
  refine wp_cond_false (eval_of (g8.T 4 37)) ?_
  refine wp_seq_k fun K10 hK10 => ?_
  refine region_line 49 (dso [43, 44, 45, 46, 47, 48, 42]) [999, 999, 999, 999, 999, 999, 999] [0, 0, 0, 0, 0, 0, 0] [] []
   [fun _ => .bool true, fun _ => .pointer (some ⟨(bt4 8), 2, none⟩), fun _ => .string (rB p3), fun _ => .int .i64 n2, fun _ => .bool true, fun _ => .bool true, fun _ => .bool true]
   [T0, T0, T0, T0, T0, T0, T0]
   [] [(bt1 0), (bt4 8)] w z8 (by kernel_rfl) ⟨loc_true, loc_true, loc_true, loc_true, loc_true, loc_true, loc_true, trivial⟩ trivial g8.B g8.N hU8 (allG_of trivial) (fun β hβ => ?_) ?_
  · refine sc ?_ (sc ?_ (sc ?_ (sc ?_ (sc ?_ (sc ?_ (sc ?_ (sn)))))))
    · refine sr rfl fun av wq hUw h K k => ?_
      have eh6 := h.B 6 ((v8 6 rfl).trans ((v7 6 rfl).trans ((v6 6 rfl).trans ((v5 6 rfl).trans (g4.T 10 6)))))
      clear h; go_simp
      exact k _ _ P0
    · refine sr rfl fun av wq hUw h K k => ?_
      have eh5 := h.B 5 ((v8 5 rfl).trans ((v7 5 rfl).trans ((v6 5 rfl).trans ((v5 5 rfl).trans (g4.T 8 5)))))
      clear h; go_simp
      exact k _ _ P0
    · refine sr rfl fun av wq hUw h K k => ?_
      have eh44 := h.A 1 44
      have eb0 := ((g4.f 9 rfl rfl rfl rfl).up ((((g5.W rfl).trans (g6.W rfl)).trans (g7.W rfl)).trans (g8.W rfl))).up (h.W rfl)
      have ec0 := eb0.cell 2 rfl
      clear h; go_simp
      exact k _ _ P0
    · refine sr rfl fun av wq hUw h K k => ?_
      have eh45 := h.A 2 45
      have hEw := hE.up hUw
      have hcc := rat_sign p3 wq (Nat.le_trans rp3 (by decide))
      rw [← Hn2.out] at hcc
      clear h; go_simp
      refine (ret_eq hcc).mono ?_
      rintro _ w2 ⟨rfl, hX⟩
      exact k _ _ (PD hX)
    · refine sr rfl fun av wq hUw h K k => ?_
      have eh46 := h.A 3 46
      have hd1 := HT.out
      clear h; go_simp
      exact k _ _ P0
    · refine sr rfl fun av wq hUw h K k => ?_
      have eh43 := h.A 0 43
      have eh47 := h.A 4 47
      clear h; go_simp
      exact k _ _ P0
    · refine sr rfl fun av wq hUw h K k => ?_
      have eh48 := h.A 5 48
      clear h; go_simp
      exact k _ _ P0
  refine end_of fun bt9 ac9 wd9 d9 z9 hU9 v9 g9 => ?_
  replace d9 := d9.trans d8; replace z9 := z9.trans z8
  clear d8 z8
  refine hK10 _ _ ?_
  refine wp_cond_true (eval_of (g9.T 6 42)) ?_
  refine wp_seq_k fun K11 hK11 => ?_
  refine region_line 49 (dso [2, 3]) [999, 999] [0, 0] [] []
   [fun _ => .int .i64 1, fun _ => .int .i64 0]
   [T0, T0]
   [] [(bt1 0), (bt4 8)] w z9 (by kernel_rfl) ⟨loc_true, loc_true, trivial⟩ trivial g9.B g9.N hU9 (allG_of trivial) (fun β hβ => ?_) ?_
  · refine sc ?_ (sc ?_ (sn))
    · refine sr rfl fun av wq hUw h K k => ?_
      clear h; go_simp
      exact k _ _ P0
    · refine sr rfl fun av wq hUw h K k => ?_
      clear h; go_simp
      exact k _ _ P0
  refine end_of fun bt10 ac10 wd10 d10 z10 hU10 v10 g10 => ?_
  replace d10 := d10.trans d9; replace z10 := z10.trans z9
  clear d9 z9
  refine hK11 _ _ ?_
  have et2 := g10.T 0 2
  have et3 := g10.T 1 3
  refine wp_ret ?_
  refine block_ret ?_
  refine then_ret ?_
  refine bodyPost_ret (v := .tuple #[.int .i64 1, .int .i64 0]) (by simp [results, Tryz.f34, go_sem, et2, et3]) d10 ?_
  exact ⟨rfl, hU10⟩

set_option maxRecDepth 100000 in
set_option maxHeartbeats 4000000 in
theorem slip_parts_ok1 (p1 p2 p3 po s1 s2 s3 : Rat) (w : World) (hE : Env w) (rp1 : rlen p1 ≤ 100) (rp2 : rlen p2 ≤ 100) (rp3 : rlen p3 ≤ 100) (rpo : rlen po ≤ 100) (rs1 : rlen s1 ≤ 100) (rs2 : rlen s2 ≤ 100) (rs3 : rlen s3 ≤ 100) (hC : ∀ w, Env w → Calls Tryz.prog 32 #[.agg #[.string (rB p1), .string (rB p2), .string (rB p3), .string (rB po), .string (rB s1), .string (rB s2), .string (rB s3)]] w (Ret w (.int .i64 0))) (h1 : p1 ≠ 0) (hd1 : ((((-p2) * (-p2)) + (p1 * p1)) + (0 * 0)) ≠ 0) (hd2 : (((((p2 * 0) - (p3 * p1)) * ((p2 * 0) - (p3 * p1))) + (((p3 * (-p2)) - (p1 * 0)) * ((p3 * (-p2)) - (p1 * 0)))) + (((p1 * p1) - (p2 * (-p2))) * ((p1 * p1) - (p2 * (-p2))))) ≠ 0) (hO : (errN (([rB ((((s1 * (-p2)) + (s2 * p1)) + (s3 * 0)) / ((((-p2) * (-p2)) + (p1 * p1)) + (0 * 0))), rB ((((s1 * ((p2 * 0) - (p3 * p1))) + (s2 * ((p3 * (-p2)) - (p1 * 0)))) + (s3 * ((p1 * p1) - (p2 * (-p2))))) / (((((p2 * 0) - (p3 * p1)) * ((p2 * 0) - (p3 * p1))) + (((p3 * (-p2)) - (p1 * 0)) * ((p3 * (-p2)) - (p1 * 0)))) + (((p1 * p1) - (p2 * (-p2))) * ((p1 * p1) - (p2 * (-p2))))))] : List ByteArray).all okR)) = 0) :
    Calls Tryz.prog 33 #[.agg #[.string (rB p1), .string (rB p2), .string (rB p3), .string (rB po), .string (rB s1), .string (rB s2), .string (rB s3)]] w (Ret w (.tuple #[.string (rB ((((s1 * (-p2)) + (s2 * p1)) + (s3 * 0)) / ((((-p2) * (-p2)) + (p1 * p1)) + (0 * 0)))), .string (rB ((((s1 * ((p2 * 0) - (p3 * p1))) + (s2 * ((p3 * (-p2)) - (p1 * 0)))) + (s3 * ((p1 * p1) - (p2 * (-p2))))) / (((((p2 * 0) - (p3 * p1)) * ((p2 * 0) - (p3 * p1))) + (((p3 * (-p2)) - (p1 * 0)) * ((p3 * (-p2)) - (p1 * 0)))) + (((p1 * p1) - (p2 * (-p2))) * ((p1 * p1) - (p2 * (-p2))))))), .int .i64 0])) := by
  have HC := Lib.hid hC
  clear hC
  have Hh1 := Lib.hid h1
  obtain ⟨x1, Hx1, rx1⟩ := nneg rp2
  obtain ⟨x2, Hx2, rx2⟩ := nmul rp2 rlen_c_0
  obtain ⟨x3, Hx3, rx3⟩ := nmul rp3 rp1
  obtain ⟨x4, Hx4, rx4⟩ := nsub rx2.out rx3.out
  obtain ⟨x5, Hx5, rx5⟩ := nmul rp3 rx1.out
  obtain ⟨x6, Hx6, rx6⟩ := nmul rp1 rlen_c_0
  obtain ⟨x7, Hx7, rx7⟩ := nsub rx5.out rx6.out
  obtain ⟨x8, Hx8, rx8⟩ := nmul rp1 rp1
  obtain ⟨x9, Hx9, rx9⟩ := nmul rp2 rx1.out
  obtain ⟨x10, Hx10, rx10⟩ := nsub rx8.out rx9.out
  obtain ⟨x11, Hx11, rx11⟩ := nmul rx1.out rx1.out
  obtain ⟨x12, Hx12, rx12⟩ := nadd rx11.out rx8.out
  obtain ⟨x13, Hx13, rx13⟩ := nmul rlen_c_0 rlen_c_0
  obtain ⟨x14, Hx14, rx14⟩ := nadd rx12.out rx13.out
  obtain ⟨x15, Hx15, rx15⟩ := nmul rx4.out rx4.out
  obtain ⟨x16, Hx16, rx16⟩ := nmul rx7.out rx7.out
  obtain ⟨x17, Hx17, rx17⟩ := nadd rx15.out rx16.out
  obtain ⟨x18, Hx18, rx18⟩ := nmul rx10.out rx10.out
  obtain ⟨x19, Hx19, rx19⟩ := nadd rx17.out rx18.out
  have HD1 := Lib.hid (show x14 ≠ 0 from (by simp only [Hx14.out, Hx12.out, Hx11.out, Hx1.out, Hx8.out, Hx13.out]; exact hd1))
  have HD2 := Lib.hid (show x19 ≠ 0 from (by simp only [Hx19.out, Hx17.out, Hx15.out, Hx4.out, Hx2.out, Hx3.out, Hx16.out, Hx7.out, Hx5.out, Hx1.out, Hx6.out, Hx18.out, Hx10.out, Hx8.out, Hx9.out]; exact hd2))
  obtain ⟨x20, Hx20, rx20⟩ := nmul rs1 rx1.out
  obtain ⟨x21, Hx21, rx21⟩ := nmul rs2 rp1
  obtain ⟨x22, Hx22, rx22⟩ := nadd rx20.out rx21.out
  obtain ⟨x23, Hx23, rx23⟩ := nmul rs3 rlen_c_0
  obtain ⟨x24, Hx24, rx24⟩ := nadd rx22.out rx23.out
  obtain ⟨x25, Hx25, rx25⟩ := ndiv rx24.out rx14.out HD1.out
  obtain ⟨x26, Hx26, rx26⟩ := nmul rs1 rx4.out
  obtain ⟨x27, Hx27, rx27⟩ := nmul rs2 rx7.out
  obtain ⟨x28, Hx28, rx28⟩ := nadd rx26.out rx27.out
  obtain ⟨x29, Hx29, rx29⟩ := nmul rs3 rx10.out
  obtain ⟨x30, Hx30, rx30⟩ := nadd rx28.out rx29.out
  obtain ⟨x31, Hx31, rx31⟩ := ndiv rx30.out rx19.out HD2.out
  obtain ⟨n32, Hn32⟩ := nd (errN (([rB x25, rB x31] : List ByteArray).all okR) : Int)
  have HO := Lib.hid (show n32 = 0 from (by simp only [Hn32.out, Hx25.out, Hx24.out, Hx22.out, Hx20.out, Hx1.out, Hx21.out, Hx23.out, Hx14.out, Hx12.out, Hx11.out, Hx8.out, Hx13.out, Hx31.out, Hx30.out, Hx28.out, Hx26.out, Hx4.out, Hx2.out, Hx3.out, Hx27.out, Hx7.out, Hx5.out, Hx6.out, Hx29.out, Hx10.out, Hx9.out, Hx19.out, Hx17.out, Hx15.out, Hx16.out, Hx18.out]; exact hO))
  clear h1 hd1 hd2 hO
  go_enter Tryz.func33, Tryz.ntmps33
  refine enter_abs fun ac0 d0 z0 he0 => ?_
  have hU0 := Up.refl w
  have T0_0 := he0 0 _ rfl
  replace z0 : ac0.tmps.size = 63 := z0
  clear he0
  refine wp_seq_k fun K0 hK0 => ?_
  refine region_line 63 (dso [1, 2, 3, 4]) [0, 999, 999, 999] [1, 0, 0, 0] [] []
   [fun b => .pointer (some ⟨b, 0, none⟩), fun _ => .string ⟨#[]⟩, fun _ => .string ⟨#[]⟩, fun _ => .int .i64 0]
   [Bw [.string (rB p1), .string (rB p2), .string (rB p3), .string (rB po), .string (rB s1), .string (rB s2), .string (rB s3)], T0, T0, T0]
   [] ([] : List Nat) w z0 (by kernel_rfl) ⟨Bw.loc _, loc_true, loc_true, loc_true, trivial⟩ trivial (allB_of trivial) List.nodup_nil hU0 (allG_of trivial) (fun β hβ => ?_) ?_
  · refine sc ?_ (sc ?_ (sc ?_ (sc ?_ (sn))))
    · refine sr rfl fun av wq hUw h K k => ?_
      have eh0 := h.B 0 T0_0
      clear h; go_simp
      exact k _ _ (PostN rfl rfl rfl rfl rfl)
    · refine sr rfl fun av wq hUw h K k => ?_
      clear h; go_simp
      exact k _ _ P0
    · refine sr rfl fun av wq hUw h K k => ?_
      clear h; go_simp
      exact k _ _ P0
    · refine sr rfl fun av wq hUw h K k => ?_
      clear h; go_simp
      exact k _ _ P0
  refine end_of fun bt1 ac1 wd1 d1 z1 hU1 v1 g1 => ?_
  replace d1 := d1.trans d0; replace z1 := z1.trans z0
  clear d0 z0
  refine hK0 _ _ ?_
  refine wp_seq_k fun K1 hK1 => ?_
  refine wp_seq_k fun K2 hK2 => ?_
  refine region_line 63 (dso [9, 10, 5]) [999, 999, 999] [0, 0, 0] [] []
   [fun _ => .agg #[.string (rB p1), .string (rB p2), .string (rB p3), .string (rB po), .string (rB s1), .string (rB s2), .string (rB s3)], fun _ => .int .i64 0, fun _ => .int .i64 0]
   [T0, T0, T0]
   [] [(bt1 0)] w z1 (by kernel_rfl) ⟨loc_true, loc_true, loc_true, trivial⟩ trivial g1.B g1.N hU1 (allG_of trivial) (fun β hβ => ?_) ?_
  · refine sc ?_ (sc ?_ (sc ?_ (sn)))
    · refine sr rfl fun av wq hUw h K k => ?_
      have eh1 := h.B 1 (g1.T 0 1)
      have eb0 := (g1.f 0 rfl rfl rfl rfl).up (h.W rfl)
      obtain ⟨ec0, ec1, ec2⟩ := eb0.c3 0 1 2
      obtain ⟨ec3, ec4, ec5⟩ := eb0.c3 3 4 5
      have ec6 := eb0.cell 6 rfl
      clear h; go_simp
      exact k _ _ P0
    · refine sr rfl fun av wq hUw h K k => ?_
      have eh9 := h.A 0 9
      have hEw := hE.up hUw
      clear h; go_simp
      refine (HC.out wq hEw).mono ?_
      rintro _ w2 ⟨rfl, hX⟩
      exact k _ _ (PD hX)
    · refine sr rfl fun av wq hUw h K k => ?_
      have eh10 := h.A 1 10
      clear h; go_simp
      exact k _ _ P0
  refine end_of fun bt2 ac2 wd2 d2 z2 hU2 v2 g2 => ?_
  replace d2 := d2.trans d1; replace z2 := z2.trans z1
  clear d1 z1
  refine hK2 _ _ ?_
  refine wp_seq_k fun K3 hK3 => ?_
  refine region_line 63 (dso [11, 12]) [999, 999] [0, 0] [] []
   [fun _ => .int .i64 0, fun _ => .bool false]
   [T0, T0]
   [] [(bt1 0)] w z2 (by kernel_rfl) ⟨loc_true, loc_true, trivial⟩ trivial g2.B g2.N hU2 (allG_of trivial) (fun β hβ => ?_) ?_
  · refine sc ?_ (sc ?_ (sn))
    · refine sr rfl fun av wq hUw h K k => ?_
      have eh5 := h.B 5 (g2.T 2 5)
      clear h; go_simp
      exact k _ _ P0
    · refine sr rfl fun av wq hUw h K k => ?_
      have eh11 := h.A 0 11
      clear h; go_simp
      exact k _ _ P0
  refine end_of fun bt3 ac3 wd3 d3 z3 hU3 v3 g3 => ?_
  replace d3 := d3.trans d2; replace z3 := z3.trans z2
  clear d2 z2
  refine hK3 _ _ ?_
  refine wp_cond_false (eval_of (g3.T 1 12)) ?_
  refine wp_skip ?_
  refine hK1 _ _ ?_
  refine wp_seq_k fun K4 hK4 => ?_
  refine region_line 63 (dso [14, 15, 16, 6, 999]) [999, 999, 999, 3, 3] [0, 0, 0, 1, 2] [999, 999, 999, 4, 999] []
   [fun _ => .pointer (some ⟨(bt1 0), 0, none⟩), fun _ => .pointer (some ⟨(bt1 0), 0, none⟩), fun _ => .agg #[.string (rB p1), .string (rB p2), .string (rB p3)], fun b => .pointer (some ⟨b, 0, none⟩), fun _ => undef]
   [T0, T0, T0, Bw [.string ⟨#[]⟩, .string ⟨#[]⟩, .string ⟨#[]⟩], Bw [.string (rB p1), .string (rB p2), .string (rB p3)]]
   [] [(bt1 0)] w z3 (by kernel_rfl) ⟨loc_true, loc_true, loc_true, Bw.loc _, Bw.loc _, trivial⟩ trivial g3.B g3.N hU3 (allG_of trivial) (fun β hβ => ?_) ?_
  · refine sc ?_ (sc ?_ (sc ?_ (sc ?_ (sc ?_ (sn)))))
    · refine sr rfl fun av wq hUw h K k => ?_
      have eh1 := h.B 1 ((v3 1 rfl).trans ((v2 1 rfl).trans (g1.T 0 1)))
      clear h; go_simp
      exact k _ _ P0
    · refine sr rfl fun av wq hUw h K k => ?_
      have eh14 := h.A 0 14
      clear h; go_simp
      exact k _ _ P0
    · refine sr rfl fun av wq hUw h K k => ?_
      have eh15 := h.A 1 15
      have eb0 := ((g1.f 0 rfl rfl rfl rfl).up ((g2.W rfl).trans (g3.W rfl))).up (h.W rfl)
      obtain ⟨ec0, ec1, ec2⟩ := eb0.c3 0 1 2
      clear h; go_simp
      exact k _ _ P0
    · refine sr rfl fun av wq hUw h K k => ?_
      clear h; go_simp
      exact k _ _ (PostN rfl rfl rfl rfl rfl)
    · refine sr rfl fun av wq hUw h K k => ?_
      have eh6 := h.A 3 6
      have eh16 := h.A 2 16
      have eb0 := h.F 3
      obtain ⟨ec0, ec1, ec2⟩ := eb0.c3 0 1 2; obtain ⟨ef0, ef1, ef2⟩ := eb0.f3 0 1 2
      clear h; go_simp
      exact k _ _ (PostS rfl rfl rfl rfl rfl rfl ((((Sto.refl _ _).set 0 _).set 1 _).set 2 _) ((((eb0).set 0 rfl _).set 1 rfl _).set 2 rfl _))
  refine end_of fun bt4 ac4 wd4 d4 z4 hU4 v4 g4 => ?_
  replace d4 := d4.trans d3; replace z4 := z4.trans z3
  clear d3 z3
  refine hK4 _ _ ?_
  refine wp_seq_k fun K5 hK5 => ?_
  refine wp_seq_k fun K6 hK6 => ?_
  refine region_line 63 (dso [17, 18, 19, 20, 21, 22, 23, 24]) [999, 999, 999, 999, 999, 999, 999, 999] [0, 0, 0, 0, 0, 0, 0, 0] [] []
   [fun _ => .pointer (some ⟨(bt4 3), 0, none⟩), fun _ => .string (rB p1), fun _ => .bool false, fun _ => .bool false, fun _ => undef, fun _ => undef, fun _ => undef, fun _ => .bool false]
   [T0, T0, T0, T0, T0, T0, T0, T0]
   [] [(bt1 0), (bt4 3)] w z4 (by kernel_rfl) ⟨loc_true, loc_true, loc_true, loc_true, loc_true, loc_true, loc_true, loc_true, trivial⟩ trivial g4.B g4.N hU4 (allG_of trivial) (fun β hβ => ?_) ?_
  · refine sc ?_ (sc ?_ (sc ?_ (sc ?_ (sc ?_ (sc ?_ (sc ?_ (sc ?_ (sn))))))))
    · refine sr rfl fun av wq hUw h K k => ?_
      have eh6 := h.B 6 (g4.T 3 6)
      clear h; go_simp
      exact k _ _ P0
    · refine sr rfl fun av wq hUw h K k => ?_
      have eh17 := h.A 0 17
      have eb0 := (g4.f 4 rfl rfl rfl rfl).up (h.W rfl)
      have ec0 := eb0.cell 0 rfl
      clear h; go_simp
      exact k _ _ P0
    · refine sr rfl fun av wq hUw h K k => ?_
      have eh18 := h.A 1 18
      have hz0 : ((rB p1).toList == [48]) = false := by rw [rB_is0]; exact decide_eq_false Hh1.out
      clear h; go_simp
      exact k _ _ P0
    · refine sr rfl fun av wq hUw h K k => ?_
      have eh19 := h.A 2 19
      clear h; go_simp
      exact k _ _ P0
    · exact sk (t := 20) rfl rfl (c := false) rfl rfl rfl rfl fun _ h => h 3 20 rfl rfl rfl
    · exact sk (t := 20) rfl rfl (c := false) rfl rfl rfl rfl fun _ h => h 3 20 rfl rfl rfl
    · exact sk (t := 20) rfl rfl (c := false) rfl rfl rfl rfl fun _ h => h 3 20 rfl rfl rfl
    · refine sr rfl fun av wq hUw h K k => ?_
      have eh20 := h.A 3 20
      have eh23 := h.A 6 23
      clear h; go_simp
      exact k _ _ P0
  refine end_of fun bt5 ac5 wd5 d5 z5 hU5 v5 g5 => ?_
  replace d5 := d5.trans d4; replace z5 := z5.trans z4
  clear d4 z4
  refine hK6 _ _ ?_
  refine wp_cond_false (eval_of (g5.T 7 24)) ?_
  refine wp_skip ?_
  refine hK5 _ _ ?_
  refine wp_seq_k fun K7 hK7 => ?_
  refine region_draw follows_mixed 63 (dso [25, 26, 27, 28, 29, 30, 7, 999]) [999, 999, 999, 999, 999, 999, 6, 6] [0, 0, 0, 0, 0, 0, 1, 2] [999, 999, 999, 999, 999, 999, 7, 999] [] [[], [0], [0, 1], [], [3], [0, 1, 2, 3, 4], [], [0, 1, 2, 3, 4, 5, 6]]
   [fun _ => .pointer (some ⟨(bt4 3), 1, none⟩), fun _ => .string (rB p2), fun _ => .string (rB x1), fun _ => .pointer (some ⟨(bt4 3), 0, none⟩), fun _ => .string (rB p1), fun _ => .agg #[.string (rB x1), .string (rB p1), .string ⟨#[48]⟩], fun b => .pointer (some ⟨b, 0, none⟩), fun _ => undef]
   [T0, T0, T0, T0, T0, T0, Bw [.string ⟨#[]⟩, .string ⟨#[]⟩, .string ⟨#[]⟩], Bw [.string (rB x1), .string (rB p1), .string ⟨#[48]⟩]]
   [] [(bt1 0), (bt4 3)] w z5 (by kernel_rfl) ⟨loc_true, loc_true, loc_true, loc_true, loc_true, loc_true, Bw.loc _, Bw.loc _, trivial⟩ trivial g5.B g5.N hU5 (allG_of trivial) (fun β hβ => ?_) ?_
  · refine sc ?_ (sc ?_ (sc ?_ (sc ?_ (sc ?_ (sc ?_ (sc ?_ (sc ?_ (sn))))))))
    · refine sr rfl fun av wq hUw h K k => ?_
      have eh6 := h.B 6 ((v5 6 rfl).trans (g4.T 3 6))
      clear h; go_simp
      exact k _ _ P0
    · refine sr rfl fun av wq hUw h K k => ?_
      have eh25 := h.A 0 25
      have eb0 := ((g4.f 4 rfl rfl rfl rfl).up (g5.W rfl)).up (h.W rfl)
      have ec0 := eb0.cell 1 rfl
      clear h; go_simp
      exact k _ _ P0
    · refine sr rfl fun av wq hUw h K k => ?_
      have eh26 := h.A 1 26
      have hEw := hE.up hUw
      have hcc := str_neg p2 wq (Nat.le_trans rp2 (by decide))
      rw [← Hx1.out] at hcc
      clear h; go_simp
      refine (hcc).mono ?_
      rintro _ w2 ⟨rfl, hX⟩
      exact k _ _ (PD hX)
    · refine sr rfl fun av wq hUw h K k => ?_
      have eh6 := h.B 6 ((v5 6 rfl).trans (g4.T 3 6))
      clear h; go_simp
      exact k _ _ P0
    · refine sr rfl fun av wq hUw h K k => ?_
      have eh28 := h.A 3 28
      have eb0 := ((g4.f 4 rfl rfl rfl rfl).up (g5.W rfl)).up (h.W rfl)
      have ec0 := eb0.cell 0 rfl
      clear h; go_simp
      exact k _ _ P0
    · refine sr rfl fun av wq hUw h K k => ?_
      have eh27 := h.A 2 27
      have eh29 := h.A 4 29
      clear h; go_simp
      exact k _ _ P0
    · refine sr rfl fun av wq hUw h K k => ?_
      clear h; go_simp
      exact k _ _ (PostN rfl rfl rfl rfl rfl)
    · refine sr rfl fun av wq hUw h K k => ?_
      have eh7 := h.A 6 7
      have eh30 := h.A 5 30
      have eb0 := h.F 6
      obtain ⟨ec0, ec1, ec2⟩ := eb0.c3 0 1 2; obtain ⟨ef0, ef1, ef2⟩ := eb0.f3 0 1 2
      clear h; go_simp
      exact k _ _ (PostS rfl rfl rfl rfl rfl rfl ((((Sto.refl _ _).set 0 _).set 1 _).set 2 _) ((((eb0).set 0 rfl _).set 1 rfl _).set 2 rfl _))
  refine end_of fun bt6 ac6 wd6 d6 z6 hU6 v6 g6 => ?_
  replace d6 := d6.trans d5; replace z6 := z6.trans z5
  clear d5 z5
  refine hK7 _ _ ?_
  refine wp_seq_k fun K8 hK8 => ?_
  refine region_line 63 (dso [31, 32, 33, 8, 999]) [999, 999, 999, 3, 3] [0, 0, 0, 1, 2] [999, 999, 999, 4, 999] []
   [fun _ => .agg #[.string (rB p1), .string (rB p2), .string (rB p3)], fun _ => .agg #[.string (rB x1), .string (rB p1), .string ⟨#[48]⟩], fun _ => .agg #[.string (rB x4), .string (rB x7), .string (rB x10)], fun b => .pointer (some ⟨b, 0, none⟩), fun _ => undef]
   [T0, T0, T0, Bw [.string ⟨#[]⟩, .string ⟨#[]⟩, .string ⟨#[]⟩], Bw [.string (rB x4), .string (rB x7), .string (rB x10)]]
   [] [(bt1 0), (bt4 3), (bt6 6)] w z6 (by kernel_rfl) ⟨loc_true, loc_true, loc_true, Bw.loc _, Bw.loc _, trivial⟩ trivial g6.B g6.N hU6 (allG_of trivial) (fun β hβ => ?_) ?_
  · refine sc ?_ (sc ?_ (sc ?_ (sc ?_ (sc ?_ (sn)))))
    · refine sr rfl fun av wq hUw h K k => ?_
      have eh6 := h.B 6 ((v6 6 rfl).trans ((v5 6 rfl).trans (g4.T 3 6)))
      have eb0 := ((g4.f 4 rfl rfl rfl rfl).up ((g5.W rfl).trans (g6.W rfl))).up (h.W rfl)
      obtain ⟨ec0, ec1, ec2⟩ := eb0.c3 0 1 2
      clear h; go_simp
      exact k _ _ P0
    · refine sr rfl fun av wq hUw h K k => ?_
      have eh7 := h.B 7 (g6.T 6 7)
      have eb0 := (g6.f 7 rfl rfl rfl rfl).up (h.W rfl)
      obtain ⟨ec0, ec1, ec2⟩ := eb0.c3 0 1 2
      clear h; go_simp
      exact k _ _ P0
    · refine sr rfl fun av wq hUw h K k => ?_
      have eh31 := h.A 0 31
      have eh32 := h.A 1 32
      have hEw := hE.up hUw
      have hcc := slip_cross p1 p2 p3 x1 p1 0 wq hEw (Nat.le_trans rp1 (by decide)) (Nat.le_trans rp2 (by decide)) (Nat.le_trans rp3 (by decide)) (Nat.le_trans rx1.out (by decide)) (Nat.le_trans rp1 (by decide)) (Nat.le_trans rlen_c_0 (by decide))
      rw [rB_zero, ← Hx2.out, ← Hx3.out, ← Hx4.out, ← Hx5.out, ← Hx6.out, ← Hx7.out, ← Hx8.out, ← Hx9.out, ← Hx10.out] at hcc
      clear h; go_simp
      refine (hcc).mono ?_
      rintro _ w2 ⟨rfl, hX⟩
      exact k _ _ (PD hX)
    · refine sr rfl fun av wq hUw h K k => ?_
      clear h; go_simp
      exact k _ _ (PostN rfl rfl rfl rfl rfl)
    · refine sr rfl fun av wq hUw h K k => ?_
      have eh8 := h.A 3 8
      have eh33 := h.A 2 33
      have eb0 := h.F 3
      obtain ⟨ec0, ec1, ec2⟩ := eb0.c3 0 1 2; obtain ⟨ef0, ef1, ef2⟩ := eb0.f3 0 1 2
      clear h; go_simp
      exact k _ _ (PostS rfl rfl rfl rfl rfl rfl ((((Sto.refl _ _).set 0 _).set 1 _).set 2 _) ((((eb0).set 0 rfl _).set 1 rfl _).set 2 rfl _))
  refine end_of fun bt7 ac7 wd7 d7 z7 hU7 v7 g7 => ?_
  replace d7 := d7.trans d6; replace z7 := z7.trans z6
  clear d6 z6
  refine hK8 _ _ ?_
  refine wp_seq_k fun K9 hK9 => ?_
  refine region_draw follows_mixed 63 (dso [35, 36, 37, 38, 39, 40, 41, 42, 34, 43, 44, 2]) [999, 999, 999, 999, 999, 999, 999, 999, 999, 999, 999, 999] [0, 0, 0, 0, 0, 0, 0, 0, 0, 0, 0, 0] [] [] [[], [0], [], [0, 1, 2], [], [], [0, 1, 2, 3, 4, 5], [0, 1, 2, 3, 4, 5, 6], [0, 1, 2, 3, 4, 5, 6, 7], [0, 1, 2, 3, 4, 5, 6, 7, 8], [0, 1, 2, 3, 4, 5, 6, 7, 8], [0, 1, 2, 3, 4, 5, 6, 7, 8, 9]]
   [fun _ => .pointer (some ⟨(bt1 0), 4, none⟩), fun _ => .agg #[.string (rB s1), .string (rB s2), .string (rB s3)], fun _ => .agg #[.string (rB x1), .string (rB p1), .string ⟨#[48]⟩], fun _ => .string (rB x24), fun _ => .agg #[.string (rB x1), .string (rB p1), .string ⟨#[48]⟩], fun _ => .agg #[.string (rB x1), .string (rB p1), .string ⟨#[48]⟩], fun _ => .string (rB x14), fun _ => .tuple #[.string (rB x25), .int .i64 0], fun _ => .tuple #[.string (rB x25), .int .i64 0], fun _ => .string (rB x25), fun _ => .int .i64 0, fun _ => .string (rB x25)]
   [T0, T0, T0, T0, T0, T0, T0, T0, T0, T0, T0, T0]
   [] [(bt1 0), (bt4 3), (bt6 6), (bt7 3)] w z7 (by kernel_rfl) ⟨loc_true, loc_true, loc_true, loc_true, loc_true, loc_true, loc_true, loc_true, loc_true, loc_true, loc_true, loc_true, trivial⟩ trivial g7.B g7.N hU7 (allG_of trivial) (fun β hβ => ?_) ?_
  · refine sc ?_ (sc ?_ (sc ?_ (sc ?_ (sc ?_ (sc ?_ (sc ?_ (sc ?_ (sc ?_ (sc ?_ (sc ?_ (sc ?_ (sn))))))))))))
    · refine sr rfl fun av wq hUw h K k => ?_
      have eh1 := h.B 1 ((v7 1 rfl).trans ((v6 1 rfl).trans ((v5 1 rfl).trans ((v4 1 rfl).trans ((v3 1 rfl).trans ((v2 1 rfl).trans (g1.T 0 1)))))))
      clear h; go_simp
      exact k _ _ P0
    · refine sr rfl fun av wq hUw h K k => ?_
      have eh35 := h.A 0 35
      have eb0 := ((g1.f 0 rfl rfl rfl rfl).up ((((((g2.W rfl).trans (g3.W rfl)).trans (g4.W rfl)).trans (g5.W rfl)).trans (g6.W rfl)).trans (g7.W rfl))).up (h.W rfl)
      obtain ⟨ec0, ec1, ec2⟩ := eb0.c3 4 5 6
      clear h; go_simp
      exact k _ _ P0
    · refine sr rfl fun av wq hUw h K k => ?_
      have eh7 := h.B 7 ((v7 7 rfl).trans (g6.T 6 7))
      have eb0 := ((g6.f 7 rfl rfl rfl rfl).up (g7.W rfl)).up (h.W rfl)
      obtain ⟨ec0, ec1, ec2⟩ := eb0.c3 0 1 2
      clear h; go_simp
      exact k _ _ P0
    · refine sr rfl fun av wq hUw h K k => ?_
      have eh36 := h.A 1 36
      have eh37 := h.A 2 37
      have hEw := hE.up hUw
      have hcc := slip_dot s1 s2 s3 x1 p1 0 wq hEw (Nat.le_trans rs1 (by decide)) (Nat.le_trans rs2 (by decide)) (Nat.le_trans rs3 (by decide)) (Nat.le_trans rx1.out (by decide)) (Nat.le_trans rp1 (by decide)) (Nat.le_trans rlen_c_0 (by decide))
      rw [rB_zero, ← Hx20.out, ← Hx21.out, ← Hx22.out, ← Hx23.out, ← Hx24.out] at hcc
      clear h; go_simp
      refine (hcc).mono ?_
      rintro _ w2 ⟨rfl, hX⟩
      exact k _ _ (PD hX)
    · refine sr rfl fun av wq hUw h K k => ?_
      have eh7 := h.B 7 ((v7 7 rfl).trans (g6.T 6 7))
      have eb0 := ((g6.f 7 rfl rfl rfl rfl).up (g7.W rfl)).up (h.W rfl)
      obtain ⟨ec0, ec1, ec2⟩ := eb0.c3 0 1 2
      clear h; go_simp
      exact k _ _ P0
    · refine sr rfl fun av wq hUw h K k => ?_
      have eh7 := h.B 7 ((v7 7 rfl).trans (g6.T 6 7))
      have eb0 := ((g6.f 7 rfl rfl rfl rfl).up (g7.W rfl)).up (h.W rfl)
      obtain ⟨ec0, ec1, ec2⟩ := eb0.c3 0 1 2
      clear h; go_simp
      exact k _ _ P0
    · refine sr rfl fun av wq hUw h K k => ?_
      have eh39 := h.A 4 39
      have eh40 := h.A 5 40
      have hEw := hE.up hUw
      have hcc := slip_dot x1 p1 0 x1 p1 0 wq hEw (Nat.le_trans rx1.out (by decide)) (Nat.le_trans rp1 (by decide)) (Nat.le_trans rlen_c_0 (by decide)) (Nat.le_trans rx1.out (by decide)) (Nat.le_trans rp1 (by decide)) (Nat.le_trans rlen_c_0 (by decide))
      rw [rB_zero, ← Hx11.out, ← Hx8.out, ← Hx12.out, ← Hx13.out, ← Hx14.out] at hcc
      clear h; go_simp
      refine (hcc).mono ?_
      rintro _ w2 ⟨rfl, hX⟩
      exact k _ _ (PD hX)
    · refine sr rfl fun av wq hUw h K k => ?_
      have eh38 := h.A 3 38
      have eh41 := h.A 6 41
      have hEw := hE.up hUw
      have hcc := rat_div x24 x14 wq hEw (Nat.le_trans rx24.out (by decide)) (Nat.le_trans rx14.out (by decide)) HD1.out
      rw [← Hx25.out] at hcc
      clear h; go_simp
      refine (hcc).mono ?_
      rintro _ w2 ⟨rfl, hX⟩
      exact k _ _ (PD hX)
    · refine sr rfl fun av wq hUw h K k => ?_
      have eh42 := h.A 7 42
      clear h; go_simp
      exact k _ _ P0
    · refine sr rfl fun av wq hUw h K k => ?_
      have eh34 := h.A 8 34
      clear h; go_simp
      exact k _ _ P0
    · refine sr rfl fun av wq hUw h K k => ?_
      have eh34 := h.A 8 34
      clear h; go_simp
      exact k _ _ P0
    · refine sr rfl fun av wq hUw h K k => ?_
      have eh43 := h.A 9 43
      clear h; go_simp
      exact k _ _ P0
  refine end_of fun bt8 ac8 wd8 d8 z8 hU8 v8 g8 => ?_
  replace d8 := d8.trans d7; replace z8 := z8.trans z7
  clear d7 z7
  refine hK9 _ _ ?_
  refine wp_seq_k fun K10 hK10 => ?_
  refine region_draw follows_mixed 63 (dso [46, 47, 48, 49, 50, 51, 52, 53, 45, 54, 55, 3]) [999, 999, 999, 999, 999, 999, 999, 999, 999, 999, 999, 999] [0, 0, 0, 0, 0, 0, 0, 0, 0, 0, 0, 0] [] [] [[], [0], [], [0, 1, 2], [], [], [0, 1, 2, 3, 4, 5], [0, 1, 2, 3, 4, 5, 6], [0, 1, 2, 3, 4, 5, 6, 7], [0, 1, 2, 3, 4, 5, 6, 7, 8], [0, 1, 2, 3, 4, 5, 6, 7, 8], [0, 1, 2, 3, 4, 5, 6, 7, 8, 9]]
   [fun _ => .pointer (some ⟨(bt1 0), 4, none⟩), fun _ => .agg #[.string (rB s1), .string (rB s2), .string (rB s3)], fun _ => .agg #[.string (rB x4), .string (rB x7), .string (rB x10)], fun _ => .string (rB x30), fun _ => .agg #[.string (rB x4), .string (rB x7), .string (rB x10)], fun _ => .agg #[.string (rB x4), .string (rB x7), .string (rB x10)], fun _ => .string (rB x19), fun _ => .tuple #[.string (rB x31), .int .i64 0], fun _ => .tuple #[.string (rB x31), .int .i64 0], fun _ => .string (rB x31), fun _ => .int .i64 0, fun _ => .string (rB x31)]
   [T0, T0, T0, T0, T0, T0, T0, T0, T0, T0, T0, T0]
   [] [(bt1 0), (bt4 3), (bt6 6), (bt7 3)] w z8 (by kernel_rfl) ⟨loc_true, loc_true, loc_true, loc_true, loc_true, loc_true, loc_true, loc_true, loc_true, loc_true, loc_true, loc_true, trivial⟩ trivial g8.B g8.N hU8 (allG_of trivial) (fun β hβ => ?_) ?_
  · refine sc ?_ (sc ?_ (sc ?_ (sc ?_ (sc ?_ (sc ?_ (sc ?_ (sc ?_ (sc ?_ (sc ?_ (sc ?_ (sc ?_ (sn))))))))))))
    · refine sr rfl fun av wq hUw h K k => ?_
      have eh1 := h.B 1 ((v8 1 rfl).trans ((v7 1 rfl).trans ((v6 1 rfl).trans ((v5 1 rfl).trans ((v4 1 rfl).trans ((v3 1 rfl).trans ((v2 1 rfl).trans (g1.T 0 1))))))))
      clear h; go_simp
      exact k _ _ P0
    · refine sr rfl fun av wq hUw h K k => ?_
      have eh46 := h.A 0 46
      have eb0 := ((g1.f 0 rfl rfl rfl rfl).up (((((((g2.W rfl).trans (g3.W rfl)).trans (g4.W rfl)).trans (g5.W rfl)).trans (g6.W rfl)).trans (g7.W rfl)).trans (g8.W rfl))).up (h.W rfl)
      obtain ⟨ec0, ec1, ec2⟩ := eb0.c3 4 5 6
      clear h; go_simp
      exact k _ _ P0
    · refine sr rfl fun av wq hUw h K k => ?_
      have eh8 := h.B 8 ((v8 8 rfl).trans (g7.T 3 8))
      have eb0 := ((g7.f 4 rfl rfl rfl rfl).up (g8.W rfl)).up (h.W rfl)
      obtain ⟨ec0, ec1, ec2⟩ := eb0.c3 0 1 2
      clear h; go_simp
      exact k _ _ P0
    · refine sr rfl fun av wq hUw h K k => ?_
      have eh47 := h.A 1 47
      have eh48 := h.A 2 48
      have hEw := hE.up hUw
      have hcc := slip_dot s1 s2 s3 x4 x7 x10 wq hEw (Nat.le_trans rs1 (by decide)) (Nat.le_trans rs2 (by decide)) (Nat.le_trans rs3 (by decide)) (Nat.le_trans rx4.out (by decide)) (Nat.le_trans rx7.out (by decide)) (Nat.le_trans rx10.out (by decide))
      rw [← Hx26.out, ← Hx27.out, ← Hx28.out, ← Hx29.out, ← Hx30.out] at hcc
      clear h; go_simp
      refine (hcc).mono ?_
      rintro _ w2 ⟨rfl, hX⟩
      exact k _ _ (PD hX)
    · refine sr rfl fun av wq hUw h K k => ?_
      have eh8 := h.B 8 ((v8 8 rfl).trans (g7.T 3 8))
      have eb0 := ((g7.f 4 rfl rfl rfl rfl).up (g8.W rfl)).up (h.W rfl)
      obtain ⟨ec0, ec1, ec2⟩ := eb0.c3 0 1 2
      clear h; go_simp
      exact k _ _ P0
    · refine sr rfl fun av wq hUw h K k => ?_
      have eh8 := h.B 8 ((v8 8 rfl).trans (g7.T 3 8))
      have eb0 := ((g7.f 4 rfl rfl rfl rfl).up (g8.W rfl)).up (h.W rfl)
      obtain ⟨ec0, ec1, ec2⟩ := eb0.c3 0 1 2
      clear h; go_simp
      exact k _ _ P0
    · refine sr rfl fun av wq hUw h K k => ?_
      have eh50 := h.A 4 50
      have eh51 := h.A 5 51
      have hEw := hE.up hUw
      have hcc := slip_dot x4 x7 x10 x4 x7 x10 wq hEw (Nat.le_trans rx4.out (by decide)) (Nat.le_trans rx7.out (by decide)) (Nat.le_trans rx10.out (by decide)) (Nat.le_trans rx4.out (by decide)) (Nat.le_trans rx7.out (by decide)) (Nat.le_trans rx10.out (by decide))
      rw [← Hx15.out, ← Hx16.out, ← Hx17.out, ← Hx18.out, ← Hx19.out] at hcc
      clear h; go_simp
      refine (hcc).mono ?_
      rintro _ w2 ⟨rfl, hX⟩
      exact k _ _ (PD hX)
    · refine sr rfl fun av wq hUw h K k => ?_
      have eh49 := h.A 3 49
      have eh52 := h.A 6 52
      have hEw := hE.up hUw
      have hcc := rat_div x30 x19 wq hEw (Nat.le_trans rx30.out (by decide)) (Nat.le_trans rx19.out (by decide)) HD2.out
      rw [← Hx31.out] at hcc
      clear h; go_simp
      refine (hcc).mono ?_
      rintro _ w2 ⟨rfl, hX⟩
      exact k _ _ (PD hX)
    · refine sr rfl fun av wq hUw h K k => ?_
      have eh53 := h.A 7 53
      clear h; go_simp
      exact k _ _ P0
    · refine sr rfl fun av wq hUw h K k => ?_
      have eh45 := h.A 8 45
      clear h; go_simp
      exact k _ _ P0
    · refine sr rfl fun av wq hUw h K k => ?_
      have eh45 := h.A 8 45
      clear h; go_simp
      exact k _ _ P0
    · refine sr rfl fun av wq hUw h K k => ?_
      have eh54 := h.A 9 54
      clear h; go_simp
      exact k _ _ P0
  refine end_of fun bt9 ac9 wd9 d9 z9 hU9 v9 g9 => ?_
  replace d9 := d9.trans d8; replace z9 := z9.trans z8
  clear d8 z8
  refine hK10 _ _ ?_
  refine wp_seq_k fun K11 hK11 => ?_
  refine wp_seq_k fun K12 hK12 => ?_
  refine region_line 63 (dso [56, 57, 58, 59, 60]) [999, 999, 2, 999, 999] [0, 0, 1, 0, 0] [] []
   [fun _ => .string (rB x25), fun _ => .string (rB x31), fun b => .slice (some ⟨b, 0, none⟩) 2 2, fun _ => .int .i64 0, fun _ => .bool false]
   [T0, T0, Bw [.string (rB x25), .string (rB x31)], T0, T0]
   [] [(bt1 0), (bt4 3), (bt6 6), (bt7 3)] w z9 (by kernel_rfl) ⟨loc_true, loc_true, Bw.loc _, loc_true, loc_true, trivial⟩ trivial g9.B g9.N hU9 (allG_of trivial) (fun β hβ => ?_) ?_
  · refine sc ?_ (sc ?_ (sc ?_ (sc ?_ (sc ?_ (sn)))))
    · refine sr rfl fun av wq hUw h K k => ?_
      have eh2 := h.B 2 ((v9 2 rfl).trans (g8.T 11 2))
      clear h; go_simp
      exact k _ _ P0
    · refine sr rfl fun av wq hUw h K k => ?_
      have eh3 := h.B 3 (g9.T 11 3)
      clear h; go_simp
      exact k _ _ P0
    · refine sr rfl fun av wq hUw h K k => ?_
      have eh56 := h.A 0 56
      have eh57 := h.A 1 57
      clear h; go_simp
      exact k _ _ (PostN rfl rfl rfl rfl rfl)
    · refine sr rfl fun av wq hUw h K k => ?_
      have eh58 := h.A 2 58
      have hEw := hE.up hUw
      have eb1 := h.F 2
      have hmeb1 := Bw.sls (L := [rB x25, rB x31]) eb1 rfl
      have hcc := slip_numbers [rB x25, rB x31] (β 2) 2 wq hEw hmeb1 rfl (mem_cons_of (rB_le (Nat.le_trans rx25.out (by decide))) (mem_cons_of (rB_le (Nat.le_trans rx31.out (by decide))) (fun _ h => absurd h List.not_mem_nil))) (by decide)
      rw [← Hn32.out] at hcc
      rw [HO.out] at hcc
      clear h; go_simp
      refine (hcc).mono ?_
      rintro _ w2 ⟨rfl, hX⟩
      exact k _ _ (PD hX)
    · refine sr rfl fun av wq hUw h K k => ?_
      have eh59 := h.A 3 59
      clear h; go_simp
      exact k _ _ P0
  refine end_of fun bt10 ac10 wd10 d10 z10 hU10 v10 g10 => ?_
  replace d10 := d10.trans d9; replace z10 := z10.trans z9
  clear d9 z9
  refine hK12 _ _ ?_
  refine wp_cond_false (eval_of (g10.T 4 60)) ?_
  refine wp_skip ?_
  refine hK11 _ _ ?_
  refine wp_seq_k fun K13 hK13 => ?_
  refine region_line 63 (dso [61, 62, 2, 3, 4]) [999, 999, 999, 999, 999] [0, 0, 0, 0, 0] [] []
   [fun _ => .string (rB x25), fun _ => .string (rB x31), fun _ => .string (rB x25), fun _ => .string (rB x31), fun _ => .int .i64 0]
   [T0, T0, T0, T0, T0]
   [] [(bt1 0), (bt4 3), (bt6 6), (bt7 3), (bt10 2)] w z10 (by kernel_rfl) ⟨loc_true, loc_true, loc_true, loc_true, loc_true, trivial⟩ trivial g10.B g10.N hU10 (allG_of trivial) (fun β hβ => ?_) ?_
  · refine sc ?_ (sc ?_ (sc ?_ (sc ?_ (sc ?_ (sn)))))
    · refine sr rfl fun av wq hUw h K k => ?_
      have eh2 := h.C 2 2 ((v10 2 rfl).trans ((v9 2 rfl).trans (g8.T 11 2)))
      clear h; go_simp
      exact k _ _ P0
    · refine sr rfl fun av wq hUw h K k => ?_
      have eh3 := h.C 3 3 ((v10 3 rfl).trans (g9.T 11 3))
      clear h; go_simp
      exact k _ _ P0
    · refine sr rfl fun av wq hUw h K k => ?_
      have eh61 := h.A 0 61
      clear h; go_simp
      exact k _ _ P0
    · refine sr rfl fun av wq hUw h K k => ?_
      have eh62 := h.A 1 62
      clear h; go_simp
      exact k _ _ P0
    · refine sr rfl fun av wq hUw h K k => ?_
      clear h; go_simp
      exact k _ _ P0
  refine end_of fun bt11 ac11 wd11 d11 z11 hU11 v11 g11 => ?_
  replace d11 := d11.trans d10; replace z11 := z11.trans z10
  clear d10 z10
  refine hK13 _ _ ?_
  have et2 := g11.T 2 2
  have et3 := g11.T 3 3
  have et4 := g11.T 4 4
  refine wp_ret ?_
  refine bodyPost_ret (v := .tuple #[.string (rB x25), .string (rB x31), .int .i64 0]) (by simp [results, Tryz.f33, go_sem, et2, et3, et4]) d11 ?_
  exact ⟨by simp only [Hx25.out, Hx24.out, Hx22.out, Hx20.out, Hx1.out, Hx21.out, Hx23.out, Hx14.out, Hx12.out, Hx11.out, Hx8.out, Hx13.out, Hx31.out, Hx30.out, Hx28.out, Hx26.out, Hx4.out, Hx2.out, Hx3.out, Hx27.out, Hx7.out, Hx5.out, Hx6.out, Hx29.out, Hx10.out, Hx9.out, Hx19.out, Hx17.out, Hx15.out, Hx16.out, Hx18.out], hU11⟩

end Go.Proofs.Klp
