/- The law SlipChecks. -/
import Derived.Test.YtooldicbicanaaaGreatDoorKSz
namespace Go.Proofs.Klp
open Go.RowKit Go.Shelf
attribute [local go_sem ↓] Go.wp_at_zero Go.wp_at_succ

set_option maxRecDepth 100000 in
set_option maxHeartbeats 4000000 in
theorem lcheck_bad (p1 p2 p3 po s1 s2 s3 : ByteArray) (w : World) (hE : Env w) (hzp1 : p1.size ≤ 1000000000) (hzp2 : p2.size ≤ 1000000000) (hzp3 : p3.size ≤ 1000000000) (hzpo : po.size ≤ 1000000000) (hzs1 : s1.size ≤ 1000000000) (hzs2 : s2.size ≤ 1000000000) (hzs3 : s3.size ≤ 1000000000) (hB : (([po] : List ByteArray).all okR && !(([(p1, p2, p3), (s1, s2, s3)] : List Tri).any badV)) = false) :
    Calls Tryz.prog 31 #[.agg #[.string p1, .string p2, .string p3, .string po, .string s1, .string s2, .string s3]] w (Ret w (.int .i64 2)) := by
  have HB := Lib.hid hB
  clear hB
  go_enter Tryz.func31, Tryz.ntmps31
  refine enter_abs fun ac0 d0 z0 he0 => ?_
  have hU0 := Up.refl w
  have T0_0 := he0 0 _ rfl
  replace z0 : ac0.tmps.size = 29 := z0
  clear he0
  refine wp_seq_k fun K0 hK0 => ?_
  refine region_line 29 (dso [1, 2]) [0, 999] [1, 0] [] []
   [fun b => .pointer (some ⟨b, 0, none⟩), fun _ => .int .i64 0]
   [Bw [.string p1, .string p2, .string p3, .string po, .string s1, .string s2, .string s3], T0]
   [] ([] : List Nat) w z0 (by kernel_rfl) ⟨Bw.loc _, loc_true, trivial⟩ trivial (allB_of trivial) List.nodup_nil hU0 (allG_of trivial) (fun β hβ => ?_) ?_
  · refine sc ?_ (sc ?_ (sn))
    · refine sr rfl fun av wq hUw h K k => ?_
      have eh0 := h.B 0 T0_0
      clear h; go_simp
      exact k _ _ (PostN rfl rfl rfl rfl rfl)
    · refine sr rfl fun av wq hUw h K k => ?_
      clear h; go_simp
      exact k _ _ P0
  refine end_of fun bt1 ac1 wd1 d1 z1 hU1 v1 g1 => ?_
  replace d1 := d1.trans d0; replace z1 := z1.trans z0
  clear d0 z0
  refine hK0 _ _ ?_
  refine wp_seq_k fun K1 hK1 => ?_
  refine wp_block ?_
  refine wp_seq_k fun K2 hK2 => ?_
  refine region_line 29 (dso [4, 5, 6, 7, 8, 9, 10, 11, 12, 13, 14, 15, 3]) [999, 999, 999, 999, 999, 5, 999, 999, 999, 9, 999, 999, 999] [0, 0, 0, 0, 0, 1, 0, 0, 0, 1, 0, 0, 0] [] []
   [fun _ => .pointer (some ⟨(bt1 0), 0, none⟩), fun _ => .pointer (some ⟨(bt1 0), 0, none⟩), fun _ => .agg #[.string p1, .string p2, .string p3], fun _ => .pointer (some ⟨(bt1 0), 4, none⟩), fun _ => .agg #[.string s1, .string s2, .string s3], fun b => .slice (some ⟨b, 0, none⟩) 2 2, fun _ => .pointer (some ⟨(bt1 0), 0, none⟩), fun _ => .pointer (some ⟨(bt1 0), 3, none⟩), fun _ => .string po, fun b => .slice (some ⟨b, 0, none⟩) 1 1, fun _ => .bool false, fun _ => .bool true, fun _ => .bool true]
   [T0, T0, T0, T0, T0, Bw [.string p1, .string p2, .string p3, .string s1, .string s2, .string s3], T0, T0, T0, Bw [.string po], T0, T0, T0]
   [] [(bt1 0)] w z1 (by kernel_rfl) ⟨loc_true, loc_true, loc_true, loc_true, loc_true, Bw.loc _, loc_true, loc_true, loc_true, Bw.loc _, loc_true, loc_true, loc_true, trivial⟩ trivial g1.B g1.N hU1 (allG_of trivial) (fun β hβ => ?_) ?_
  · refine sc ?_ (sc ?_ (sc ?_ (sc ?_ (sc ?_ (sc ?_ (sc ?_ (sc ?_ (sc ?_ (sc ?_ (sc ?_ (sc ?_ (sc ?_ (sn)))))))))))))
    · refine sr rfl fun av wq hUw h K k => ?_
      have eh1 := h.B 1 (g1.T 0 1)
      clear h; go_simp
      exact k _ _ P0
    · refine sr rfl fun av wq hUw h K k => ?_
      have eh4 := h.A 0 4
      clear h; go_simp
      exact k _ _ P0
    · refine sr rfl fun av wq hUw h K k => ?_
      have eh5 := h.A 1 5
      have eb0 := (g1.f 0 rfl rfl rfl rfl).up (h.W rfl)
      obtain ⟨ec0, ec1, ec2⟩ := eb0.c3 0 1 2
      clear h; go_simp
      exact k _ _ P0
    · refine sr rfl fun av wq hUw h K k => ?_
      have eh1 := h.B 1 (g1.T 0 1)
      clear h; go_simp
      exact k _ _ P0
    · refine sr rfl fun av wq hUw h K k => ?_
      have eh7 := h.A 3 7
      have eb0 := (g1.f 0 rfl rfl rfl rfl).up (h.W rfl)
      obtain ⟨ec0, ec1, ec2⟩ := eb0.c3 4 5 6
      clear h; go_simp
      exact k _ _ P0
    · refine sr rfl fun av wq hUw h K k => ?_
      have eh6 := h.A 2 6
      have eh8 := h.A 4 8
      clear h; go_simp
      exact k _ _ (PostN rfl rfl rfl rfl rfl)
    · refine sr rfl fun av wq hUw h K k => ?_
      have eh1 := h.B 1 (g1.T 0 1)
      clear h; go_simp
      exact k _ _ P0
    · refine sr rfl fun av wq hUw h K k => ?_
      have eh10 := h.A 6 10
      clear h; go_simp
      exact k _ _ P0
    · refine sr rfl fun av wq hUw h K k => ?_
      have eh11 := h.A 7 11
      have eb0 := (g1.f 0 rfl rfl rfl rfl).up (h.W rfl)
      have ec0 := eb0.cell 3 rfl
      clear h; go_simp
      exact k _ _ P0
    · refine sr rfl fun av wq hUw h K k => ?_
      have eh12 := h.A 8 12
      clear h; go_simp
      exact k _ _ (PostN rfl rfl rfl rfl rfl)
    · refine sr rfl fun av wq hUw h K k => ?_
      have eh9 := h.A 5 9
      have eh13 := h.A 9 13
      have hEw := hE.up hUw
      have eb1 := h.F 5
      have hmeb1 := Bw.slv (L := [(p1, p2, p3), (s1, s2, s3)]) eb1 rfl
      have eb3 := h.F 9
      have hmeb3 := Bw.sls (L := [po]) eb3 rfl
      have hkn : (([po] : List ByteArray).all okR && !(([(p1, p2, p3), (s1, s2, s3)] : List Tri).any badV)) = false := HB.out
      have hcc := law_numbers [(p1, p2, p3), (s1, s2, s3)] [po] (β 5) (β 9) 2 1 wq hEw hmeb1 hmeb3 rfl rfl (mem_cons_of ⟨hzp1, hzp2, hzp3⟩ (mem_cons_of ⟨hzs1, hzs2, hzs3⟩ (fun _ h => absurd h List.not_mem_nil))) (mem_cons_of hzpo (fun _ h => absurd h List.not_mem_nil)) (by decide) (by decide)
      rw [hkn] at hcc
      clear hkn
      clear h; go_simp
      refine (hcc).mono ?_
      rintro _ w2 ⟨rfl, hX⟩
      exact k _ _ (PD hX)
    · refine sr rfl fun av wq hUw h K k => ?_
      have eh14 := h.A 10 14
      clear h; go_simp
      exact k _ _ P0
    · refine sr rfl fun av wq hUw h K k => ?_
      have eh15 := h.A 11 15
      clear h; go_simp
      exact k _ _ P0
  refine end_of fun bt2 ac2 wd2 d2 z2 hU2 v2 g2 => ?_
  replace d2 := d2.trans d1; replace z2 := z2.trans z1
  clear d1 z1
  refine hK2 _ _ ?_
  refine wp_cond_true (eval_of (g2.T 12 3)) ?_
  refine wp_seq_k fun K3 hK3 => ?_
  refine region_line 29 (dso [2]) [999] [0] [] []
   [fun _ => .int .i64 2]
   [T0]
   [] [(bt1 0), (bt2 5), (bt2 9)] w z2 (by kernel_rfl) ⟨loc_true, trivial⟩ trivial g2.B g2.N hU2 (allG_of trivial) (fun β hβ => ?_) ?_
  · refine sc ?_ (sn)
    · refine sr rfl fun av wq hUw h K k => ?_
      clear h; go_simp
      exact k _ _ P0
  refine end_of fun bt3 ac3 wd3 d3 z3 hU3 v3 g3 => ?_
  replace d3 := d3.trans d2; replace z3 := z3.trans z2
  clear d2 z2
  refine hK3 _ _ ?_
  have et2 := g3.T 0 2
  refine wp_ret ?_
  refine block_ret ?_
  refine then_ret ?_
  refine bodyPost_ret (v := .int .i64 2) (by simp [results, Tryz.f31, go_sem, et2]) d3 ?_
  exact ⟨rfl, hU3⟩

set_option maxRecDepth 100000 in
set_option maxHeartbeats 4000000 in
theorem lcheck_zero (p1 p2 p3 po s1 s2 s3 : Rat) (w : World) (hE : Env w) (rp1 : rlen p1 ≤ 100) (rp2 : rlen p2 ≤ 100) (rp3 : rlen p3 ≤ 100) (rpo : rlen po ≤ 100) (rs1 : rlen s1 ≤ 100) (rs2 : rlen s2 ≤ 100) (rs3 : rlen s3 ≤ 100) (hB : (([rB po] : List ByteArray).all okR && !(([(rB p1, rB p2, rB p3), (rB s1, rB s2, rB s3)] : List Tri).any badV)) = true) (hZ : zV (rB p1, rB p2, rB p3) = true) :
    Calls Tryz.prog 31 #[.agg #[.string (rB p1), .string (rB p2), .string (rB p3), .string (rB po), .string (rB s1), .string (rB s2), .string (rB s3)]] w (Ret w (.int .i64 17)) := by
  have HB := Lib.hid hB
  clear hB
  have HZ := Lib.hid hZ
  clear hZ
  go_enter Tryz.func31, Tryz.ntmps31
  refine enter_abs fun ac0 d0 z0 he0 => ?_
  have hU0 := Up.refl w
  have T0_0 := he0 0 _ rfl
  replace z0 : ac0.tmps.size = 29 := z0
  clear he0
  refine wp_seq_k fun K0 hK0 => ?_
  refine region_line 29 (dso [1, 2]) [0, 999] [1, 0] [] []
   [fun b => .pointer (some ⟨b, 0, none⟩), fun _ => .int .i64 0]
   [Bw [.string (rB p1), .string (rB p2), .string (rB p3), .string (rB po), .string (rB s1), .string (rB s2), .string (rB s3)], T0]
   [] ([] : List Nat) w z0 (by kernel_rfl) ⟨Bw.loc _, loc_true, trivial⟩ trivial (allB_of trivial) List.nodup_nil hU0 (allG_of trivial) (fun β hβ => ?_) ?_
  · refine sc ?_ (sc ?_ (sn))
    · refine sr rfl fun av wq hUw h K k => ?_
      have eh0 := h.B 0 T0_0
      clear h; go_simp
      exact k _ _ (PostN rfl rfl rfl rfl rfl)
    · refine sr rfl fun av wq hUw h K k => ?_
      clear h; go_simp
      exact k _ _ P0
  refine end_of fun bt1 ac1 wd1 d1 z1 hU1 v1 g1 => ?_
  replace d1 := d1.trans d0; replace z1 := z1.trans z0
  clear d0 z0
  refine hK0 _ _ ?_
  refine wp_seq_k fun K1 hK1 => ?_
  refine wp_block ?_
  refine wp_seq_k fun K2 hK2 => ?_
  refine region_line 29 (dso [4, 5, 6, 7, 8, 9, 10, 11, 12, 13, 14, 15, 3]) [999, 999, 999, 999, 999, 5, 999, 999, 999, 9, 999, 999, 999] [0, 0, 0, 0, 0, 1, 0, 0, 0, 1, 0, 0, 0] [] []
   [fun _ => .pointer (some ⟨(bt1 0), 0, none⟩), fun _ => .pointer (some ⟨(bt1 0), 0, none⟩), fun _ => .agg #[.string (rB p1), .string (rB p2), .string (rB p3)], fun _ => .pointer (some ⟨(bt1 0), 4, none⟩), fun _ => .agg #[.string (rB s1), .string (rB s2), .string (rB s3)], fun b => .slice (some ⟨b, 0, none⟩) 2 2, fun _ => .pointer (some ⟨(bt1 0), 0, none⟩), fun _ => .pointer (some ⟨(bt1 0), 3, none⟩), fun _ => .string (rB po), fun b => .slice (some ⟨b, 0, none⟩) 1 1, fun _ => .bool true, fun _ => .bool false, fun _ => .bool false]
   [T0, T0, T0, T0, T0, Bw [.string (rB p1), .string (rB p2), .string (rB p3), .string (rB s1), .string (rB s2), .string (rB s3)], T0, T0, T0, Bw [.string (rB po)], T0, T0, T0]
   [] [(bt1 0)] w z1 (by kernel_rfl) ⟨loc_true, loc_true, loc_true, loc_true, loc_true, Bw.loc _, loc_true, loc_true, loc_true, Bw.loc _, loc_true, loc_true, loc_true, trivial⟩ trivial g1.B g1.N hU1 (allG_of trivial) (fun β hβ => ?_) ?_
  · refine sc ?_ (sc ?_ (sc ?_ (sc ?_ (sc ?_ (sc ?_ (sc ?_ (sc ?_ (sc ?_ (sc ?_ (sc ?_ (sc ?_ (sc ?_ (sn)))))))))))))
    · refine sr rfl fun av wq hUw h K k => ?_
      have eh1 := h.B 1 (g1.T 0 1)
      clear h; go_simp
      exact k _ _ P0
    · refine sr rfl fun av wq hUw h K k => ?_
      have eh4 := h.A 0 4
      clear h; go_simp
      exact k _ _ P0
    · refine sr rfl fun av wq hUw h K k => ?_
      have eh5 := h.A 1 5
      have eb0 := (g1.f 0 rfl rfl rfl rfl).up (h.W rfl)
      obtain ⟨ec0, ec1, ec2⟩ := eb0.c3 0 1 2
      clear h; go_simp
      exact k _ _ P0
    · refine sr rfl fun av wq hUw h K k => ?_
      have eh1 := h.B 1 (g1.T 0 1)
      clear h; go_simp
      exact k _ _ P0
    · refine sr rfl fun av wq hUw h K k => ?_
      have eh7 := h.A 3 7
      have eb0 := (g1.f 0 rfl rfl rfl rfl).up (h.W rfl)
      obtain ⟨ec0, ec1, ec2⟩ := eb0.c3 4 5 6
      clear h; go_simp
      exact k _ _ P0
    · refine sr rfl fun av wq hUw h K k => ?_
      have eh6 := h.A 2 6
      have eh8 := h.A 4 8
      clear h; go_simp
      exact k _ _ (PostN rfl rfl rfl rfl rfl)
    · refine sr rfl fun av wq hUw h K k => ?_
      have eh1 := h.B 1 (g1.T 0 1)
      clear h; go_simp
      exact k _ _ P0
    · refine sr rfl fun av wq hUw h K k => ?_
      have eh10 := h.A 6 10
      clear h; go_simp
      exact k _ _ P0
    · refine sr rfl fun av wq hUw h K k => ?_
      have eh11 := h.A 7 11
      have eb0 := (g1.f 0 rfl rfl rfl rfl).up (h.W rfl)
      have ec0 := eb0.cell 3 rfl
      clear h; go_simp
      exact k _ _ P0
    · refine sr rfl fun av wq hUw h K k => ?_
      have eh12 := h.A 8 12
      clear h; go_simp
      exact k _ _ (PostN rfl rfl rfl rfl rfl)
    · refine sr rfl fun av wq hUw h K k => ?_
      have eh9 := h.A 5 9
      have eh13 := h.A 9 13
      have hEw := hE.up hUw
      have eb1 := h.F 5
      have hmeb1 := Bw.slv (L := [(rB p1, rB p2, rB p3), (rB s1, rB s2, rB s3)]) eb1 rfl
      have eb3 := h.F 9
      have hmeb3 := Bw.sls (L := [rB po]) eb3 rfl
      have hkn : (([rB po] : List ByteArray).all okR && !(([(rB p1, rB p2, rB p3), (rB s1, rB s2, rB s3)] : List Tri).any badV)) = true := HB.out
      have hcc := law_numbers [(rB p1, rB p2, rB p3), (rB s1, rB s2, rB s3)] [rB po] (β 5) (β 9) 2 1 wq hEw hmeb1 hmeb3 rfl rfl (mem_cons_of ⟨(rB_le (Nat.le_trans rp1 (by decide))), (rB_le (Nat.le_trans rp2 (by decide))), (rB_le (Nat.le_trans rp3 (by decide)))⟩ (mem_cons_of ⟨(rB_le (Nat.le_trans rs1 (by decide))), (rB_le (Nat.le_trans rs2 (by decide))), (rB_le (Nat.le_trans rs3 (by decide)))⟩ (fun _ h => absurd h List.not_mem_nil))) (mem_cons_of (rB_le (Nat.le_trans rpo (by decide))) (fun _ h => absurd h List.not_mem_nil)) (by decide) (by decide)
      rw [hkn] at hcc
      clear hkn
      clear h; go_simp
      refine (hcc).mono ?_
      rintro _ w2 ⟨rfl, hX⟩
      exact k _ _ (PD hX)
    · refine sr rfl fun av wq hUw h K k => ?_
      have eh14 := h.A 10 14
      clear h; go_simp
      exact k _ _ P0
    · refine sr rfl fun av wq hUw h K k => ?_
      have eh15 := h.A 11 15
      clear h; go_simp
      exact k _ _ P0
  refine end_of fun bt2 ac2 wd2 d2 z2 hU2 v2 g2 => ?_
  replace d2 := d2.trans d1; replace z2 := z2.trans z1
  clear d1 z1
  refine hK2 _ _ ?_
  refine wp_cond_false (eval_of (g2.T 12 3)) ?_
  refine wp_seq_k fun K3 hK3 => ?_
  refine region_line 29 (dso [17, 18, 19, 20, 16]) [999, 999, 999, 999, 999] [0, 0, 0, 0, 0] [] []
   [fun _ => .pointer (some ⟨(bt1 0), 0, none⟩), fun _ => .pointer (some ⟨(bt1 0), 0, none⟩), fun _ => .agg #[.string (rB p1), .string (rB p2), .string (rB p3)], fun _ => .bool true, fun _ => .bool true]
   [T0, T0, T0, T0, T0]
   [] [(bt1 0), (bt2 5), (bt2 9)] w z2 (by kernel_rfl) ⟨loc_true, loc_true, loc_true, loc_true, loc_true, trivial⟩ trivial g2.B g2.N hU2 (allG_of trivial) (fun β hβ => ?_) ?_
  · refine sc ?_ (sc ?_ (sc ?_ (sc ?_ (sc ?_ (sn)))))
    · refine sr rfl fun av wq hUw h K k => ?_
      have eh1 := h.B 1 ((v2 1 rfl).trans (g1.T 0 1))
      clear h; go_simp
      exact k _ _ P0
    · refine sr rfl fun av wq hUw h K k => ?_
      have eh17 := h.A 0 17
      clear h; go_simp
      exact k _ _ P0
    · refine sr rfl fun av wq hUw h K k => ?_
      have eh18 := h.A 1 18
      have eb0 := ((g1.f 0 rfl rfl rfl rfl).up (g2.W rfl)).up (h.W rfl)
      obtain ⟨ec0, ec1, ec2⟩ := eb0.c3 0 1 2
      clear h; go_simp
      exact k _ _ P0
    · refine sr rfl fun av wq hUw h K k => ?_
      have eh19 := h.A 2 19
      have hEw := hE.up hUw
      have hkn : zV (rB p1, rB p2, rB p3) = true := HZ.out
      have hcc := r10_zero (rB p1, rB p2, rB p3) wq
      rw [hkn] at hcc
      clear hkn
      clear h; go_simp
      refine (hcc).mono ?_
      rintro _ w2 ⟨rfl, hX⟩
      exact k _ _ (PD hX)
    · refine sr rfl fun av wq hUw h K k => ?_
      have eh20 := h.A 3 20
      clear h; go_simp
      exact k _ _ P0
  refine end_of fun bt3 ac3 wd3 d3 z3 hU3 v3 g3 => ?_
  replace d3 := d3.trans d2; replace z3 := z3.trans z2
  clear d2 z2
  refine hK3 _ _ ?_
  refine wp_cond_true (eval_of (g3.T 4 16)) ?_
  refine wp_seq_k fun K4 hK4 => ?_
  refine region_line 29 (dso [2]) [999] [0] [] []
   [fun _ => .int .i64 17]
   [T0]
   [] [(bt1 0), (bt2 5), (bt2 9)] w z3 (by kernel_rfl) ⟨loc_true, trivial⟩ trivial g3.B g3.N hU3 (allG_of trivial) (fun β hβ => ?_) ?_
  · refine sc ?_ (sn)
    · refine sr rfl fun av wq hUw h K k => ?_
      clear h; go_simp
      exact k _ _ P0
  refine end_of fun bt4 ac4 wd4 d4 z4 hU4 v4 g4 => ?_
  replace d4 := d4.trans d3; replace z4 := z4.trans z3
  clear d3 z3
  refine hK4 _ _ ?_
  have et2 := g4.T 0 2
  refine wp_ret ?_
  refine block_ret ?_
  refine then_ret ?_
  refine bodyPost_ret (v := .int .i64 17) (by simp [results, Tryz.f31, go_sem, et2]) d4 ?_
  exact ⟨rfl, hU4⟩

set_option maxRecDepth 100000 in
set_option maxHeartbeats 4000000 in
theorem lcheck_form (p1 p2 p3 po s1 s2 s3 : Rat) (w : World) (hE : Env w) (rp1 : rlen p1 ≤ 100) (rp2 : rlen p2 ≤ 100) (rp3 : rlen p3 ≤ 100) (rpo : rlen po ≤ 100) (rs1 : rlen s1 ≤ 100) (rs2 : rlen s2 ≤ 100) (rs3 : rlen s3 ≤ 100) (hB : (([rB po] : List ByteArray).all okR && !(([(rB p1, rB p2, rB p3), (rB s1, rB s2, rB s3)] : List Tri).any badV)) = true) (hZ : zV (rB p1, rB p2, rB p3) = false) (hd : (((p1 * s1) + (p2 * s2)) + (p3 * s3)) ≠ 0) :
    Calls Tryz.prog 31 #[.agg #[.string (rB p1), .string (rB p2), .string (rB p3), .string (rB po), .string (rB s1), .string (rB s2), .string (rB s3)]] w (Ret w (.int .i64 7)) := by
  have HB := Lib.hid hB
  clear hB
  have HZ := Lib.hid hZ
  obtain ⟨x1, Hx1, rx1⟩ := nmul rp1 rs1
  obtain ⟨x2, Hx2, rx2⟩ := nmul rp2 rs2
  obtain ⟨x3, Hx3, rx3⟩ := nadd rx1.out rx2.out
  obtain ⟨x4, Hx4, rx4⟩ := nmul rp3 rs3
  obtain ⟨x5, Hx5, rx5⟩ := nadd rx3.out rx4.out
  have HD := Lib.hid (show x5 ≠ 0 from (by simp only [Hx5.out, Hx3.out, Hx1.out, Hx2.out, Hx4.out]; exact hd))
  clear hZ hd
  go_enter Tryz.func31, Tryz.ntmps31
  refine enter_abs fun ac0 d0 z0 he0 => ?_
  have hU0 := Up.refl w
  have T0_0 := he0 0 _ rfl
  replace z0 : ac0.tmps.size = 29 := z0
  clear he0
  refine wp_seq_k fun K0 hK0 => ?_
  refine region_line 29 (dso [1, 2]) [0, 999] [1, 0] [] []
   [fun b => .pointer (some ⟨b, 0, none⟩), fun _ => .int .i64 0]
   [Bw [.string (rB p1), .string (rB p2), .string (rB p3), .string (rB po), .string (rB s1), .string (rB s2), .string (rB s3)], T0]
   [] ([] : List Nat) w z0 (by kernel_rfl) ⟨Bw.loc _, loc_true, trivial⟩ trivial (allB_of trivial) List.nodup_nil hU0 (allG_of trivial) (fun β hβ => ?_) ?_
  · refine sc ?_ (sc ?_ (sn))
    · refine sr rfl fun av wq hUw h K k => ?_
      have eh0 := h.B 0 T0_0
      clear h; go_simp
      exact k _ _ (PostN rfl rfl rfl rfl rfl)
    · refine sr rfl fun av wq hUw h K k => ?_
      clear h; go_simp
      exact k _ _ P0
  refine end_of fun bt1 ac1 wd1 d1 z1 hU1 v1 g1 => ?_
  replace d1 := d1.trans d0; replace z1 := z1.trans z0
  clear d0 z0
  refine hK0 _ _ ?_
  refine wp_seq_k fun K1 hK1 => ?_
  refine wp_block ?_
  refine wp_seq_k fun K2 hK2 => ?_
  refine region_line 29 (dso [4, 5, 6, 7, 8, 9, 10, 11, 12, 13, 14, 15, 3]) [999, 999, 999, 999, 999, 5, 999, 999, 999, 9, 999, 999, 999] [0, 0, 0, 0, 0, 1, 0, 0, 0, 1, 0, 0, 0] [] []
   [fun _ => .pointer (some ⟨(bt1 0), 0, none⟩), fun _ => .pointer (some ⟨(bt1 0), 0, none⟩), fun _ => .agg #[.string (rB p1), .string (rB p2), .string (rB p3)], fun _ => .pointer (some ⟨(bt1 0), 4, none⟩), fun _ => .agg #[.string (rB s1), .string (rB s2), .string (rB s3)], fun b => .slice (some ⟨b, 0, none⟩) 2 2, fun _ => .pointer (some ⟨(bt1 0), 0, none⟩), fun _ => .pointer (some ⟨(bt1 0), 3, none⟩), fun _ => .string (rB po), fun b => .slice (some ⟨b, 0, none⟩) 1 1, fun _ => .bool true, fun _ => .bool false, fun _ => .bool false]
   [T0, T0, T0, T0, T0, Bw [.string (rB p1), .string (rB p2), .string (rB p3), .string (rB s1), .string (rB s2), .string (rB s3)], T0, T0, T0, Bw [.string (rB po)], T0, T0, T0]
   [] [(bt1 0)] w z1 (by kernel_rfl) ⟨loc_true, loc_true, loc_true, loc_true, loc_true, Bw.loc _, loc_true, loc_true, loc_true, Bw.loc _, loc_true, loc_true, loc_true, trivial⟩ trivial g1.B g1.N hU1 (allG_of trivial) (fun β hβ => ?_) ?_
  · refine sc ?_ (sc ?_ (sc ?_ (sc ?_ (sc ?_ (sc ?_ (sc ?_ (sc ?_ (sc ?_ (sc ?_ (sc ?_ (sc ?_ (sc ?_ (sn)))))))))))))
    · refine sr rfl fun av wq hUw h K k => ?_
      have eh1 := h.B 1 (g1.T 0 1)
      clear h; go_simp
      exact k _ _ P0
    · refine sr rfl fun av wq hUw h K k => ?_
      have eh4 := h.A 0 4
      clear h; go_simp
      exact k _ _ P0
    · refine sr rfl fun av wq hUw h K k => ?_
      have eh5 := h.A 1 5
      have eb0 := (g1.f 0 rfl rfl rfl rfl).up (h.W rfl)
      obtain ⟨ec0, ec1, ec2⟩ := eb0.c3 0 1 2
      clear h; go_simp
      exact k _ _ P0
    · refine sr rfl fun av wq hUw h K k => ?_
      have eh1 := h.B 1 (g1.T 0 1)
      clear h; go_simp
      exact k _ _ P0
    · refine sr rfl fun av wq hUw h K k => ?_
      have eh7 := h.A 3 7
      have eb0 := (g1.f 0 rfl rfl rfl rfl).up (h.W rfl)
      obtain ⟨ec0, ec1, ec2⟩ := eb0.c3 4 5 6
      clear h; go_simp
      exact k _ _ P0
    · refine sr rfl fun av wq hUw h K k => ?_
      have eh6 := h.A 2 6
      have eh8 := h.A 4 8
      clear h; go_simp
      exact k _ _ (PostN rfl rfl rfl rfl rfl)
    · refine sr rfl fun av wq hUw h K k => ?_
      have eh1 := h.B 1 (g1.T 0 1)
      clear h; go_simp
      exact k _ _ P0
    · refine sr rfl fun av wq hUw h K k => ?_
      have eh10 := h.A 6 10
      clear h; go_simp
      exact k _ _ P0
    · refine sr rfl fun av wq hUw h K k => ?_
      have eh11 := h.A 7 11
      have eb0 := (g1.f 0 rfl rfl rfl rfl).up (h.W rfl)
      have ec0 := eb0.cell 3 rfl
      clear h; go_simp
      exact k _ _ P0
    · refine sr rfl fun av wq hUw h K k => ?_
      have eh12 := h.A 8 12
      clear h; go_simp
      exact k _ _ (PostN rfl rfl rfl rfl rfl)
    · refine sr rfl fun av wq hUw h K k => ?_
      have eh9 := h.A 5 9
      have eh13 := h.A 9 13
      have hEw := hE.up hUw
      have eb1 := h.F 5
      have hmeb1 := Bw.slv (L := [(rB p1, rB p2, rB p3), (rB s1, rB s2, rB s3)]) eb1 rfl
      have eb3 := h.F 9
      have hmeb3 := Bw.sls (L := [rB po]) eb3 rfl
      have hkn : (([rB po] : List ByteArray).all okR && !(([(rB p1, rB p2, rB p3), (rB s1, rB s2, rB s3)] : List Tri).any badV)) = true := HB.out
      have hcc := law_numbers [(rB p1, rB p2, rB p3), (rB s1, rB s2, rB s3)] [rB po] (β 5) (β 9) 2 1 wq hEw hmeb1 hmeb3 rfl rfl (mem_cons_of ⟨(rB_le (Nat.le_trans rp1 (by decide))), (rB_le (Nat.le_trans rp2 (by decide))), (rB_le (Nat.le_trans rp3 (by decide)))⟩ (mem_cons_of ⟨(rB_le (Nat.le_trans rs1 (by decide))), (rB_le (Nat.le_trans rs2 (by decide))), (rB_le (Nat.le_trans rs3 (by decide)))⟩ (fun _ h => absurd h List.not_mem_nil))) (mem_cons_of (rB_le (Nat.le_trans rpo (by decide))) (fun _ h => absurd h List.not_mem_nil)) (by decide) (by decide)
      rw [hkn] at hcc
      clear hkn
      clear h; go_simp
      refine (hcc).mono ?_
      rintro _ w2 ⟨rfl, hX⟩
      exact k _ _ (PD hX)
    · refine sr rfl fun av wq hUw h K k => ?_
      have eh14 := h.A 10 14
      clear h; go_simp
      exact k _ _ P0
    · refine sr rfl fun av wq hUw h K k => ?_
      have eh15 := h.A 11 15
      clear h; go_simp
      exact k _ _ P0
  refine end_of fun bt2 ac2 wd2 d2 z2 hU2 v2 g2 => ?_
  replace d2 := d2.trans d1; replace z2 := z2.trans z1
  clear d1 z1
  refine hK2 _ _ ?_
  refine wp_cond_false (eval_of (g2.T 12 3)) ?_
  refine wp_seq_k fun K3 hK3 => ?_
  refine region_line 29 (dso [17, 18, 19, 20, 16]) [999, 999, 999, 999, 999] [0, 0, 0, 0, 0] [] []
   [fun _ => .pointer (some ⟨(bt1 0), 0, none⟩), fun _ => .pointer (some ⟨(bt1 0), 0, none⟩), fun _ => .agg #[.string (rB p1), .string (rB p2), .string (rB p3)], fun _ => .bool false, fun _ => .bool false]
   [T0, T0, T0, T0, T0]
   [] [(bt1 0), (bt2 5), (bt2 9)] w z2 (by kernel_rfl) ⟨loc_true, loc_true, loc_true, loc_true, loc_true, trivial⟩ trivial g2.B g2.N hU2 (allG_of trivial) (fun β hβ => ?_) ?_
  · refine sc ?_ (sc ?_ (sc ?_ (sc ?_ (sc ?_ (sn)))))
    · refine sr rfl fun av wq hUw h K k => ?_
      have eh1 := h.B 1 ((v2 1 rfl).trans (g1.T 0 1))
      clear h; go_simp
      exact k _ _ P0
    · refine sr rfl fun av wq hUw h K k => ?_
      have eh17 := h.A 0 17
      clear h; go_simp
      exact k _ _ P0
    · refine sr rfl fun av wq hUw h K k => ?_
      have eh18 := h.A 1 18
      have eb0 := ((g1.f 0 rfl rfl rfl rfl).up (g2.W rfl)).up (h.W rfl)
      obtain ⟨ec0, ec1, ec2⟩ := eb0.c3 0 1 2
      clear h; go_simp
      exact k _ _ P0
    · refine sr rfl fun av wq hUw h K k => ?_
      have eh19 := h.A 2 19
      have hEw := hE.up hUw
      have hkn : zV (rB p1, rB p2, rB p3) = false := HZ.out
      have hcc := r10_zero (rB p1, rB p2, rB p3) wq
      rw [hkn] at hcc
      clear hkn
      clear h; go_simp
      refine (hcc).mono ?_
      rintro _ w2 ⟨rfl, hX⟩
      exact k _ _ (PD hX)
    · refine sr rfl fun av wq hUw h K k => ?_
      have eh20 := h.A 3 20
      clear h; go_simp
      exact k _ _ P0
  refine end_of fun bt3 ac3 wd3 d3 z3 hU3 v3 g3 => ?_
  replace d3 := d3.trans d2; replace z3 := z3.trans z2
  clear d2 z2
  refine hK3 _ _ ?_
  refine wp_cond_false (eval_of (g3.T 4 16)) ?_
  refine wp_seq_k fun K4 hK4 => ?_
  refine region_line 29 (dso [22, 23, 24, 25, 26, 27, 28, 21]) [999, 999, 999, 999, 999, 999, 999, 999] [0, 0, 0, 0, 0, 0, 0, 0] [] []
   [fun _ => .pointer (some ⟨(bt1 0), 0, none⟩), fun _ => .pointer (some ⟨(bt1 0), 0, none⟩), fun _ => .agg #[.string (rB p1), .string (rB p2), .string (rB p3)], fun _ => .pointer (some ⟨(bt1 0), 4, none⟩), fun _ => .agg #[.string (rB s1), .string (rB s2), .string (rB s3)], fun _ => .string (rB x5), fun _ => .bool true, fun _ => .bool true]
   [T0, T0, T0, T0, T0, T0, T0, T0]
   [] [(bt1 0), (bt2 5), (bt2 9)] w z3 (by kernel_rfl) ⟨loc_true, loc_true, loc_true, loc_true, loc_true, loc_true, loc_true, loc_true, trivial⟩ trivial g3.B g3.N hU3 (allG_of trivial) (fun β hβ => ?_) ?_
  · refine sc ?_ (sc ?_ (sc ?_ (sc ?_ (sc ?_ (sc ?_ (sc ?_ (sc ?_ (sn))))))))
    · refine sr rfl fun av wq hUw h K k => ?_
      have eh1 := h.B 1 ((v3 1 rfl).trans ((v2 1 rfl).trans (g1.T 0 1)))
      clear h; go_simp
      exact k _ _ P0
    · refine sr rfl fun av wq hUw h K k => ?_
      have eh22 := h.A 0 22
      clear h; go_simp
      exact k _ _ P0
    · refine sr rfl fun av wq hUw h K k => ?_
      have eh23 := h.A 1 23
      have eb0 := ((g1.f 0 rfl rfl rfl rfl).up ((g2.W rfl).trans (g3.W rfl))).up (h.W rfl)
      obtain ⟨ec0, ec1, ec2⟩ := eb0.c3 0 1 2
      clear h; go_simp
      exact k _ _ P0
    · refine sr rfl fun av wq hUw h K k => ?_
      have eh1 := h.B 1 ((v3 1 rfl).trans ((v2 1 rfl).trans (g1.T 0 1)))
      clear h; go_simp
      exact k _ _ P0
    · refine sr rfl fun av wq hUw h K k => ?_
      have eh25 := h.A 3 25
      have eb0 := ((g1.f 0 rfl rfl rfl rfl).up ((g2.W rfl).trans (g3.W rfl))).up (h.W rfl)
      obtain ⟨ec0, ec1, ec2⟩ := eb0.c3 4 5 6
      clear h; go_simp
      exact k _ _ P0
    · refine sr rfl fun av wq hUw h K k => ?_
      have eh24 := h.A 2 24
      have eh26 := h.A 4 26
      have hEw := hE.up hUw
      have hcc := law_dot p1 p2 p3 s1 s2 s3 wq hEw (Nat.le_trans rp1 (by decide)) (Nat.le_trans rp2 (by decide)) (Nat.le_trans rp3 (by decide)) (Nat.le_trans rs1 (by decide)) (Nat.le_trans rs2 (by decide)) (Nat.le_trans rs3 (by decide))
      rw [← Hx1.out, ← Hx2.out, ← Hx3.out, ← Hx4.out, ← Hx5.out] at hcc
      clear h; go_simp
      refine (hcc).mono ?_
      rintro _ w2 ⟨rfl, hX⟩
      exact k _ _ (PD hX)
    · refine sr rfl fun av wq hUw h K k => ?_
      have eh27 := h.A 5 27
      have hz0 : ((rB x5).toList == [48]) = false := by rw [rB_is0]; exact decide_eq_false HD.out
      clear h; go_simp
      exact k _ _ P0
    · refine sr rfl fun av wq hUw h K k => ?_
      have eh28 := h.A 6 28
      clear h; go_simp
      exact k _ _ P0
  refine end_of fun bt4 ac4 wd4 d4 z4 hU4 v4 g4 => ?_
  replace d4 := d4.trans d3; replace z4 := z4.trans z3
  clear d3 z3
  refine hK4 _ _ ?_
  refine wp_cond_true (eval_of (g4.T 7 21)) ?_
  refine wp_seq_k fun K5 hK5 => ?_
  refine region_line 29 (dso [2]) [999] [0] [] []
   [fun _ => .int .i64 7]
   [T0]
   [] [(bt1 0), (bt2 5), (bt2 9)] w z4 (by kernel_rfl) ⟨loc_true, trivial⟩ trivial g4.B g4.N hU4 (allG_of trivial) (fun β hβ => ?_) ?_
  · refine sc ?_ (sn)
    · refine sr rfl fun av wq hUw h K k => ?_
      clear h; go_simp
      exact k _ _ P0
  refine end_of fun bt5 ac5 wd5 d5 z5 hU5 v5 g5 => ?_
  replace d5 := d5.trans d4; replace z5 := z5.trans z4
  clear d4 z4
  refine hK5 _ _ ?_
  have et2 := g5.T 0 2
  refine wp_ret ?_
  refine block_ret ?_
  refine then_ret ?_
  refine bodyPost_ret (v := .int .i64 7) (by simp [results, Tryz.f31, go_sem, et2]) d5 ?_
  exact ⟨rfl, hU5⟩

set_option maxRecDepth 100000 in
set_option maxHeartbeats 4000000 in
theorem lcheck_ok (p1 p2 p3 po s1 s2 s3 : Rat) (w : World) (hE : Env w) (rp1 : rlen p1 ≤ 100) (rp2 : rlen p2 ≤ 100) (rp3 : rlen p3 ≤ 100) (rpo : rlen po ≤ 100) (rs1 : rlen s1 ≤ 100) (rs2 : rlen s2 ≤ 100) (rs3 : rlen s3 ≤ 100) (hB : (([rB po] : List ByteArray).all okR && !(([(rB p1, rB p2, rB p3), (rB s1, rB s2, rB s3)] : List Tri).any badV)) = true) (hZ : zV (rB p1, rB p2, rB p3) = false) (hd : (((p1 * s1) + (p2 * s2)) + (p3 * s3)) = 0) :
    Calls Tryz.prog 31 #[.agg #[.string (rB p1), .string (rB p2), .string (rB p3), .string (rB po), .string (rB s1), .string (rB s2), .string (rB s3)]] w (Ret w (.int .i64 0)) := by
  have HB := Lib.hid hB
  clear hB
  have HZ := Lib.hid hZ
  obtain ⟨x1, Hx1, rx1⟩ := nmul rp1 rs1
  obtain ⟨x2, Hx2, rx2⟩ := nmul rp2 rs2
  obtain ⟨x3, Hx3, rx3⟩ := nadd rx1.out rx2.out
  obtain ⟨x4, Hx4, rx4⟩ := nmul rp3 rs3
  obtain ⟨x5, Hx5, rx5⟩ := nadd rx3.out rx4.out
  have HD := Lib.hid (show x5 = 0 from (by simp only [Hx5.out, Hx3.out, Hx1.out, Hx2.out, Hx4.out]; exact hd))
  clear hZ hd
  go_enter Tryz.func31, Tryz.ntmps31
  refine enter_abs fun ac0 d0 z0 he0 => ?_
  have hU0 := Up.refl w
  have T0_0 := he0 0 _ rfl
  replace z0 : ac0.tmps.size = 29 := z0
  clear he0
  refine wp_seq_k fun K0 hK0 => ?_
  refine region_line 29 (dso [1, 2]) [0, 999] [1, 0] [] []
   [fun b => .pointer (some ⟨b, 0, none⟩), fun _ => .int .i64 0]
   [Bw [.string (rB p1), .string (rB p2), .string (rB p3), .string (rB po), .string (rB s1), .string (rB s2), .string (rB s3)], T0]
   [] ([] : List Nat) w z0 (by kernel_rfl) ⟨Bw.loc _, loc_true, trivial⟩ trivial (allB_of trivial) List.nodup_nil hU0 (allG_of trivial) (fun β hβ => ?_) ?_
  · refine sc ?_ (sc ?_ (sn))
    · refine sr rfl fun av wq hUw h K k => ?_
      have eh0 := h.B 0 T0_0
      clear h; go_simp
      exact k _ _ (PostN rfl rfl rfl rfl rfl)
    · refine sr rfl fun av wq hUw h K k => ?_
      clear h; go_simp
      exact k _ _ P0
  refine end_of fun bt1 ac1 wd1 d1 z1 hU1 v1 g1 => ?_
  replace d1 := d1.trans d0; replace z1 := z1.trans z0
  clear d0 z0
  refine hK0 _ _ ?_
  refine wp_seq_k fun K1 hK1 => ?_
  refine wp_block ?_
  refine wp_seq_k fun K2 hK2 => ?_
  refine region_line 29 (dso [4, 5, 6, 7, 8, 9, 10, 11, 12, 13, 14, 15, 3]) [999, 999, 999, 999, 999, 5, 999, 999, 999, 9, 999, 999, 999] [0, 0, 0, 0, 0, 1, 0, 0, 0, 1, 0, 0, 0] [] []
   [fun _ => .pointer (some ⟨(bt1 0), 0, none⟩), fun _ => .pointer (some ⟨(bt1 0), 0, none⟩), fun _ => .agg #[.string (rB p1), .string (rB p2), .string (rB p3)], fun _ => .pointer (some ⟨(bt1 0), 4, none⟩), fun _ => .agg #[.string (rB s1), .string (rB s2), .string (rB s3)], fun b => .slice (some ⟨b, 0, none⟩) 2 2, fun _ => .pointer (some ⟨(bt1 0), 0, none⟩), fun _ => .pointer (some ⟨(bt1 0), 3, none⟩), fun _ => .string (rB po), fun b => .slice (some ⟨b, 0, none⟩) 1 1, fun _ => .bool true, fun _ => .bool false, fun _ => .bool false]
   [T0, T0, T0, T0, T0, Bw [.string (rB p1), .string (rB p2), .string (rB p3), .string (rB s1), .string (rB s2), .string (rB s3)], T0, T0, T0, Bw [.string (rB po)], T0, T0, T0]
   [] [(bt1 0)] w z1 (by kernel_rfl) ⟨loc_true, loc_true, loc_true, loc_true, loc_true, Bw.loc _, loc_true, loc_true, loc_true, Bw.loc _, loc_true, loc_true, loc_true, trivial⟩ trivial g1.B g1.N hU1 (allG_of trivial) (fun β hβ => ?_) ?_
  · refine sc ?_ (sc ?_ (sc ?_ (sc ?_ (sc ?_ (sc ?_ (sc ?_ (sc ?_ (sc ?_ (sc ?_ (sc ?_ (sc ?_ (sc ?_ (sn)))))))))))))
    · refine sr rfl fun av wq hUw h K k => ?_
      have eh1 := h.B 1 (g1.T 0 1)
      clear h; go_simp
      exact k _ _ P0
    · refine sr rfl fun av wq hUw h K k => ?_
      have eh4 := h.A 0 4
      clear h; go_simp
      exact k _ _ P0
    · refine sr rfl fun av wq hUw h K k => ?_
      have eh5 := h.A 1 5
      have eb0 := (g1.f 0 rfl rfl rfl rfl).up (h.W rfl)
      obtain ⟨ec0, ec1, ec2⟩ := eb0.c3 0 1 2
      clear h; go_simp
      exact k _ _ P0
    · refine sr rfl fun av wq hUw h K k => ?_
      have eh1 := h.B 1 (g1.T 0 1)
      clear h; go_simp
      exact k _ _ P0
    · refine sr rfl fun av wq hUw h K k => ?_
      have eh7 := h.A 3 7
      have eb0 := (g1.f 0 rfl rfl rfl rfl).up (h.W rfl)
      obtain ⟨ec0, ec1, ec2⟩ := eb0.c3 4 5 6
      clear h; go_simp
      exact k _ _ P0
    · refine sr rfl fun av wq hUw h K k => ?_
      have eh6 := h.A 2 6
      have eh8 := h.A 4 8
      clear h; go_simp
      exact k _ _ (PostN rfl rfl rfl rfl rfl)
    · refine sr rfl fun av wq hUw h K k => ?_
      have eh1 := h.B 1 (g1.T 0 1)
      clear h; go_simp
      exact k _ _ P0
    · refine sr rfl fun av wq hUw h K k => ?_
      have eh10 := h.A 6 10
      clear h; go_simp
      exact k _ _ P0
    · refine sr rfl fun av wq hUw h K k => ?_
      have eh11 := h.A 7 11
      have eb0 := (g1.f 0 rfl rfl rfl rfl).up (h.W rfl)
      have ec0 := eb0.cell 3 rfl
      clear h; go_simp
      exact k _ _ P0
    · refine sr rfl fun av wq hUw h K k => ?_
      have eh12 := h.A 8 12
      clear h; go_simp
      exact k _ _ (PostN rfl rfl rfl rfl rfl)
    · refine sr rfl fun av wq hUw h K k => ?_
      have eh9 := h.A 5 9
      have eh13 := h.A 9 13
      have hEw := hE.up hUw
      have eb1 := h.F 5
      have hmeb1 := Bw.slv (L := [(rB p1, rB p2, rB p3), (rB s1, rB s2, rB s3)]) eb1 rfl
      have eb3 := h.F 9
      have hmeb3 := Bw.sls (L := [rB po]) eb3 rfl
      have hkn : (([rB po] : List ByteArray).all okR && !(([(rB p1, rB p2, rB p3), (rB s1, rB s2, rB s3)] : List Tri).any badV)) = true := HB.out
      have hcc := law_numbers [(rB p1, rB p2, rB p3), (rB s1, rB s2, rB s3)] [rB po] (β 5) (β 9) 2 1 wq hEw hmeb1 hmeb3 rfl rfl (mem_cons_of ⟨(rB_le (Nat.le_trans rp1 (by decide))), (rB_le (Nat.le_trans rp2 (by decide))), (rB_le (Nat.le_trans rp3 (by decide)))⟩ (mem_cons_of ⟨(rB_le (Nat.le_trans rs1 (by decide))), (rB_le (Nat.le_trans rs2 (by decide))), (rB_le (Nat.le_trans rs3 (by decide)))⟩ (fun _ h => absurd h List.not_mem_nil))) (mem_cons_of (rB_le (Nat.le_trans rpo (by decide))) (fun _ h => absurd h List.not_mem_nil)) (by decide) (by decide)
      rw [hkn] at hcc
      clear hkn
      clear h; go_simp
      refine (hcc).mono ?_
      rintro _ w2 ⟨rfl, hX⟩
      exact k _ _ (PD hX)
    · refine sr rfl fun av wq hUw h K k => ?_
      have eh14 := h.A 10 14
      clear h; go_simp
      exact k _ _ P0
    · refine sr rfl fun av wq hUw h K k => ?_
      have eh15 := h.A 11 15
      clear h; go_simp
      exact k _ _ P0
  refine end_of fun bt2 ac2 wd2 d2 z2 hU2 v2 g2 => ?_
  replace d2 := d2.trans d1; replace z2 := z2.trans z1
  clear d1 z1
  refine hK2 _ _ ?_
  refine wp_cond_false (eval_of (g2.T 12 3)) ?_
  refine wp_seq_k fun K3 hK3 => ?_
  refine region_line 29 (dso [17, 18, 19, 20, 16]) [999, 999, 999, 999, 999] [0, 0, 0, 0, 0] [] []
   [fun _ => .pointer (some ⟨(bt1 0), 0, none⟩), fun _ => .pointer (some ⟨(bt1 0), 0, none⟩), fun _ => .agg #[.string (rB p1), .string (rB p2), .string (rB p3)], fun _ => .bool false, fun _ => .bool false]
   [T0, T0, T0, T0, T0]
   [] [(bt1 0), (bt2 5), (bt2 9)] w z2 (by kernel_rfl) ⟨loc_true, loc_true, loc_true, loc_true, loc_true, trivial⟩ trivial g2.B g2.N hU2 (allG_of trivial) (fun β hβ => ?_) ?_
  · refine sc ?_ (sc ?_ (sc ?_ (sc ?_ (sc ?_ (sn)))))
    · refine sr rfl fun av wq hUw h K k => ?_
      have eh1 := h.B 1 ((v2 1 rfl).trans (g1.T 0 1))
      clear h; go_simp
      exact k _ _ P0
    · refine sr rfl fun av wq hUw h K k => ?_
      have eh17 := h.A 0 17
      clear h; go_simp
      exact k _ _ P0
    · refine sr rfl fun av wq hUw h K k => ?_
      have eh18 := h.A 1 18
      have eb0 := ((g1.f 0 rfl rfl rfl rfl).up (g2.W rfl)).up (h.W rfl)
      obtain ⟨ec0, ec1, ec2⟩ := eb0.c3 0 1 2
      clear h; go_simp
      exact k _ _ P0
    · refine sr rfl fun av wq hUw h K k => ?_
      have eh19 := h.A 2 19
      have hEw := hE.up hUw
      have hkn : zV (rB p1, rB p2, rB p3) = false := HZ.out
      have hcc := r10_zero (rB p1, rB p2, rB p3) wq
      rw [hkn] at hcc
      clear hkn
      clear h; go_simp
      refine (hcc).mono ?_
      rintro _ w2 ⟨rfl, hX⟩
      exact k _ _ (PD hX)
    · refine sr rfl fun av wq hUw h K k => ?_
      have eh20 := h.A 3 20
      clear h; go_simp
      exact k _ _ P0
  refine end_of fun bt3 ac3 wd3 d3 z3 hU3 v3 g3 => ?_
  replace d3 := d3.trans d2; replace z3 := z3.trans z2
  clear d2 z2
  refine hK3 _ _ ?_
  refine wp_cond_false (eval_of (g3.T 4 16)) ?_
  refine wp_seq_k fun K4 hK4 => ?_
  refine region_line 29 (dso [22, 23, 24, 25, 26, 27, 28, 21]) [999, 999, 999, 999, 999, 999, 999, 999] [0, 0, 0, 0, 0, 0, 0, 0] [] []
   [fun _ => .pointer (some ⟨(bt1 0), 0, none⟩), fun _ => .pointer (some ⟨(bt1 0), 0, none⟩), fun _ => .agg #[.string (rB p1), .string (rB p2), .string (rB p3)], fun _ => .pointer (some ⟨(bt1 0), 4, none⟩), fun _ => .agg #[.string (rB s1), .string (rB s2), .string (rB s3)], fun _ => .string (rB x5), fun _ => .bool false, fun _ => .bool false]
   [T0, T0, T0, T0, T0, T0, T0, T0]
   [] [(bt1 0), (bt2 5), (bt2 9)] w z3 (by kernel_rfl) ⟨loc_true, loc_true, loc_true, loc_true, loc_true, loc_true, loc_true, loc_true, trivial⟩ trivial g3.B g3.N hU3 (allG_of trivial) (fun β hβ => ?_) ?_
  · refine sc ?_ (sc ?_ (sc ?_ (sc ?_ (sc ?_ (sc ?_ (sc ?_ (sc ?_ (sn))))))))
    · refine sr rfl fun av wq hUw h K k => ?_
      have eh1 := h.B 1 ((v3 1 rfl).trans ((v2 1 rfl).trans (g1.T 0 1)))
      clear h; go_simp
      exact k _ _ P0
    · refine sr rfl fun av wq hUw h K k => ?_
      have eh22 := h.A 0 22
      clear h; go_simp
      exact k _ _ P0
    · refine sr rfl fun av wq hUw h K k => ?_
      have eh23 := h.A 1 23
      have eb0 := ((g1.f 0 rfl rfl rfl rfl).up ((g2.W rfl).trans (g3.W rfl))).up (h.W rfl)
      obtain ⟨ec0, ec1, ec2⟩ := eb0.c3 0 1 2
      clear h; go_simp
      exact k _ _ P0
    · refine sr rfl fun av wq hUw h K k => ?_
      have eh1 := h.B 1 ((v3 1 rfl).trans ((v2 1 rfl).trans (g1.T 0 1)))
      clear h; go_simp
      exact k _ _ P0
    · refine sr rfl fun av wq hUw h K k => ?_
      have eh25 := h.A 3 25
      have eb0 := ((g1.f 0 rfl rfl rfl rfl).up ((g2.W rfl).trans (g3.W rfl))).up (h.W rfl)
      obtain ⟨ec0, ec1, ec2⟩ := eb0.c3 4 5 6
      clear h; go_simp
      exact k _ _ P0
    · refine sr rfl fun av wq hUw h K k => ?_
      have eh24 := h.A 2 24
      have eh26 := h.A 4 26
      have hEw := hE.up hUw
      have hcc := law_dot p1 p2 p3 s1 s2 s3 wq hEw (Nat.le_trans rp1 (by decide)) (Nat.le_trans rp2 (by decide)) (Nat.le_trans rp3 (by decide)) (Nat.le_trans rs1 (by decide)) (Nat.le_trans rs2 (by decide)) (Nat.le_trans rs3 (by decide))
      rw [← Hx1.out, ← Hx2.out, ← Hx3.out, ← Hx4.out, ← Hx5.out] at hcc
      clear h; go_simp
      refine (hcc).mono ?_
      rintro _ w2 ⟨rfl, hX⟩
      exact k _ _ (PD hX)
    · refine sr rfl fun av wq hUw h K k => ?_
      have eh27 := h.A 5 27
      have hz0 : ((rB x5).toList == [48]) = true := by rw [rB_is0]; exact decide_eq_true HD.out
      clear h; go_simp
      exact k _ _ P0
    · refine sr rfl fun av wq hUw h K k => ?_
      have eh28 := h.A 6 28
      clear h; go_simp
      exact k _ _ P0
  refine end_of fun bt4 ac4 wd4 d4 z4 hU4 v4 g4 => ?_
  replace d4 := d4.trans d3; replace z4 := z4.trans z3
  clear d3 z3
  refine hK4 _ _ ?_
  refine wp_cond_false (eval_of (g4.T 7 21)) ?_
  refine wp_skip ?_
  refine hK1 _ _ ?_
  refine wp_seq_k fun K5 hK5 => ?_
  refine region_line 29 (dso [2]) [999] [0] [] []
   [fun _ => .int .i64 0]
   [T0]
   [] [(bt1 0), (bt2 5), (bt2 9)] w z4 (by kernel_rfl) ⟨loc_true, trivial⟩ trivial g4.B g4.N hU4 (allG_of trivial) (fun β hβ => ?_) ?_
  · refine sc ?_ (sn)
    · refine sr rfl fun av wq hUw h K k => ?_
      clear h; go_simp
      exact k _ _ P0
  refine end_of fun bt5 ac5 wd5 d5 z5 hU5 v5 g5 => ?_
  replace d5 := d5.trans d4; replace z5 := z5.trans z4
  clear d4 z4
  refine hK5 _ _ ?_
  have et2 := g5.T 0 2
  refine wp_ret ?_
  refine bodyPost_ret (v := .int .i64 0) (by simp [results, Tryz.f31, go_sem, et2]) d5 ?_
  exact ⟨rfl, hU5⟩

set_option maxRecDepth 100000 in
set_option maxHeartbeats 4000000 in
theorem checks_long1 (p1 p2 p3 po s1 s2 s3 : ByteArray) (w : World) (hE : Env w) (hL : ([(p1, p2, p3), (s1, s2, s3)] : List Tri).any lgV = true) :
    Calls Tryz.prog 6 #[.agg #[.string p1, .string p2, .string p3, .string po, .string s1, .string s2, .string s3]] w (Ret w (.bool true)) := by
  have HL := Lib.hid hL
  clear hL
  go_enter Tryz.func6, Tryz.ntmps6
  refine enter_abs fun ac0 d0 z0 he0 => ?_
  have hU0 := Up.refl w
  have T0_0 := he0 0 _ rfl
  replace z0 : ac0.tmps.size = 100 := z0
  clear he0
  refine wp_seq_k fun K0 hK0 => ?_
  refine region_line 100 (dso [1, 2]) [0, 999] [1, 0] [] []
   [fun b => .pointer (some ⟨b, 0, none⟩), fun _ => .bool false]
   [Bw [.string p1, .string p2, .string p3, .string po, .string s1, .string s2, .string s3], T0]
   [] ([] : List Nat) w z0 (by kernel_rfl) ⟨Bw.loc _, loc_true, trivial⟩ trivial (allB_of trivial) List.nodup_nil hU0 (allG_of trivial) (fun β hβ => ?_) ?_
  · refine sc ?_ (sc ?_ (sn))
    · refine sr rfl fun av wq hUw h K k => ?_
      have eh0 := h.B 0 T0_0
      clear h; go_simp
      exact k _ _ (PostN rfl rfl rfl rfl rfl)
    · refine sr rfl fun av wq hUw h K k => ?_
      clear h; go_simp
      exact k _ _ P0
  refine end_of fun bt1 ac1 wd1 d1 z1 hU1 v1 g1 => ?_
  replace d1 := d1.trans d0; replace z1 := z1.trans z0
  clear d0 z0
  refine hK0 _ _ ?_
  refine wp_seq_k fun K1 hK1 => ?_
  refine wp_seq_k fun K2 hK2 => ?_
  refine region_line 100 (dso [13, 14, 15, 16, 17, 18, 19, 20, 21, 22, 23, 24, 25, 26, 27, 28, 29, 30, 31]) [999, 999, 999, 999, 999, 999, 999, 999, 8, 999, 999, 999, 999, 999, 999, 999, 999, 999, 999] [0, 0, 0, 0, 0, 0, 0, 0, 1, 0, 0, 0, 0, 0, 0, 0, 0, 0, 0] [] []
   [fun _ => .bool true, fun _ => .bool false, fun _ => .bool false, fun _ => .pointer (some ⟨(bt1 0), 0, none⟩), fun _ => .pointer (some ⟨(bt1 0), 0, none⟩), fun _ => .agg #[.string p1, .string p2, .string p3], fun _ => .pointer (some ⟨(bt1 0), 4, none⟩), fun _ => .agg #[.string s1, .string s2, .string s3], fun b => .slice (some ⟨b, 0, none⟩) 2 2, fun _ => .bool false, fun _ => .bool true, fun _ => .bool true, fun _ => .bool true, fun _ => undef, fun _ => undef, fun _ => undef, fun _ => undef, fun _ => undef, fun _ => .bool true]
   [T0, T0, T0, T0, T0, T0, T0, T0, Bw [.string p1, .string p2, .string p3, .string s1, .string s2, .string s3], T0, T0, T0, T0, T0, T0, T0, T0, T0, T0]
   [] [(bt1 0)] w z1 (by kernel_rfl) ⟨loc_true, loc_true, loc_true, loc_true, loc_true, loc_true, loc_true, loc_true, Bw.loc _, loc_true, loc_true, loc_true, loc_true, loc_true, loc_true, loc_true, loc_true, loc_true, loc_true, trivial⟩ trivial g1.B g1.N hU1 (allG_of trivial) (fun β hβ => ?_) ?_
  · refine sc ?_ (sc ?_ (sc ?_ (sc ?_ (sc ?_ (sc ?_ (sc ?_ (sc ?_ (sc ?_ (sc ?_ (sc ?_ (sc ?_ (sc ?_ (sc ?_ (sc ?_ (sc ?_ (sc ?_ (sc ?_ (sc ?_ (sn)))))))))))))))))))
    · refine sr rfl fun av wq hUw h K k => ?_
      have hEw := hE.up hUw
      clear h; go_simp
      refine (law_known wq hEw).mono ?_
      rintro _ w2 ⟨rfl, hX⟩
      exact k _ _ (PD hX)
    · refine sr rfl fun av wq hUw h K k => ?_
      have eh13 := h.A 0 13
      clear h; go_simp
      exact k _ _ P0
    · refine sr rfl fun av wq hUw h K k => ?_
      have eh14 := h.A 1 14
      clear h; go_simp
      exact k _ _ P0
    · refine sg (t := 15) rfl rfl fun av wq hUw h => ⟨h.A 2 15, fun K k => ?_⟩
      have eh1 := h.B 1 (g1.T 0 1)
      clear h; go_simp
      exact k _ _ P0
    · refine sg (t := 15) rfl rfl fun av wq hUw h => ⟨h.A 2 15, fun K k => ?_⟩
      have eh16 := h.A 3 16
      clear h; go_simp
      exact k _ _ P0
    · refine sg (t := 15) rfl rfl fun av wq hUw h => ⟨h.A 2 15, fun K k => ?_⟩
      have eh17 := h.A 4 17
      have eb0 := (g1.f 0 rfl rfl rfl rfl).up (h.W rfl)
      obtain ⟨ec0, ec1, ec2⟩ := eb0.c3 0 1 2
      clear h; go_simp
      exact k _ _ P0
    · refine sg (t := 15) rfl rfl fun av wq hUw h => ⟨h.A 2 15, fun K k => ?_⟩
      have eh1 := h.B 1 (g1.T 0 1)
      clear h; go_simp
      exact k _ _ P0
    · refine sg (t := 15) rfl rfl fun av wq hUw h => ⟨h.A 2 15, fun K k => ?_⟩
      have eh19 := h.A 6 19
      have eb0 := (g1.f 0 rfl rfl rfl rfl).up (h.W rfl)
      obtain ⟨ec0, ec1, ec2⟩ := eb0.c3 4 5 6
      clear h; go_simp
      exact k _ _ P0
    · refine sg (t := 15) rfl rfl fun av wq hUw h => ⟨h.A 2 15, fun K k => ?_⟩
      have eh18 := h.A 5 18
      have eh20 := h.A 7 20
      clear h; go_simp
      exact k _ _ (PostN rfl rfl rfl rfl rfl)
    · refine sg (t := 15) rfl rfl fun av wq hUw h => ⟨h.A 2 15, fun K k => ?_⟩
      have eh21 := h.A 8 21
      have hEw := hE.up hUw
      have eb1 := h.F 8
      have hmeb1 := Bw.slv (L := [(p1, p2, p3), (s1, s2, s3)]) eb1 rfl
      have hkn : ([(p1, p2, p3), (s1, s2, s3)] : List Tri).any lgV = true := HL.out
      have hcc := law_brief [(p1, p2, p3), (s1, s2, s3)] (β 8) 2 wq hEw hmeb1 rfl (by decide)
      rw [hkn] at hcc
      clear hkn
      clear h; go_simp
      refine (hcc).mono ?_
      rintro _ w2 ⟨rfl, hX⟩
      exact k _ _ (PD hX)
    · refine sg (t := 15) rfl rfl fun av wq hUw h => ⟨h.A 2 15, fun K k => ?_⟩
      have eh22 := h.A 9 22
      clear h; go_simp
      exact k _ _ P0
    · refine sr rfl fun av wq hUw h K k => ?_
      have eh15 := h.A 2 15
      have eh23 := h.A 10 23
      clear h; go_simp
      exact k _ _ P0
    · refine sr rfl fun av wq hUw h K k => ?_
      have eh24 := h.A 11 24
      clear h; go_simp
      exact k _ _ P0
    · exact sk (t := 25) rfl rfl (c := true) rfl rfl rfl rfl fun _ h => h 12 25 rfl rfl rfl
    · exact sk (t := 25) rfl rfl (c := true) rfl rfl rfl rfl fun _ h => h 12 25 rfl rfl rfl
    · exact sk (t := 25) rfl rfl (c := true) rfl rfl rfl rfl fun _ h => h 12 25 rfl rfl rfl
    · exact sk (t := 25) rfl rfl (c := true) rfl rfl rfl rfl fun _ h => h 12 25 rfl rfl rfl
    · exact sk (t := 25) rfl rfl (c := true) rfl rfl rfl rfl fun _ h => h 12 25 rfl rfl rfl
    · refine sr rfl fun av wq hUw h K k => ?_
      have eh25 := h.A 12 25
      have eh30 := h.A 17 30
      clear h; go_simp
      exact k _ _ P0
  refine end_of fun bt2 ac2 wd2 d2 z2 hU2 v2 g2 => ?_
  replace d2 := d2.trans d1; replace z2 := z2.trans z1
  clear d1 z1
  refine hK2 _ _ ?_
  refine wp_cond_true (eval_of (g2.T 18 31)) ?_
  refine wp_seq_k fun K3 hK3 => ?_
  refine region_line 100 (dso [32, 2]) [999, 999] [0, 0] [] []
   [fun _ => .bool true, fun _ => .bool true]
   [T0, T0]
   [] [(bt1 0), (bt2 8)] w z2 (by kernel_rfl) ⟨loc_true, loc_true, trivial⟩ trivial g2.B g2.N hU2 (allG_of trivial) (fun β hβ => ?_) ?_
  · refine sc ?_ (sc ?_ (sn))
    · refine sr rfl fun av wq hUw h K k => ?_
      have hEw := hE.up hUw
      clear h; go_simp
      refine (law_known wq hEw).mono ?_
      rintro _ w2 ⟨rfl, hX⟩
      exact k _ _ (PD hX)
    · refine sr rfl fun av wq hUw h K k => ?_
      have eh32 := h.A 0 32
      clear h; go_simp
      exact k _ _ P0
  refine end_of fun bt3 ac3 wd3 d3 z3 hU3 v3 g3 => ?_
  replace d3 := d3.trans d2; replace z3 := z3.trans z2
  clear d2 z2
  refine hK3 _ _ ?_
  have et2 := g3.T 1 2
  refine wp_ret ?_
  refine then_ret ?_
  refine bodyPost_ret (v := .bool true) (by simp [results, Tryz.f6, go_sem, et2]) d3 ?_
  exact ⟨rfl, hU3⟩

set_option maxRecDepth 100000 in
set_option maxHeartbeats 4000000 in
theorem checks_long2 (p1 p2 p3 po s1 s2 s3 : ByteArray) (w : World) (hE : Env w) (hL : ([(p1, p2, p3), (s1, s2, s3)] : List Tri).any lgV = false) (hM : 8 < (po.size : Int)) :
    Calls Tryz.prog 6 #[.agg #[.string p1, .string p2, .string p3, .string po, .string s1, .string s2, .string s3]] w (Ret w (.bool true)) := by
  have HL := Lib.hid hL
  have HM := Lib.hid hM
  clear hL hM
  go_enter Tryz.func6, Tryz.ntmps6
  refine enter_abs fun ac0 d0 z0 he0 => ?_
  have hU0 := Up.refl w
  have T0_0 := he0 0 _ rfl
  replace z0 : ac0.tmps.size = 100 := z0
  clear he0
  refine wp_seq_k fun K0 hK0 => ?_
  refine region_line 100 (dso [1, 2]) [0, 999] [1, 0] [] []
   [fun b => .pointer (some ⟨b, 0, none⟩), fun _ => .bool false]
   [Bw [.string p1, .string p2, .string p3, .string po, .string s1, .string s2, .string s3], T0]
   [] ([] : List Nat) w z0 (by kernel_rfl) ⟨Bw.loc _, loc_true, trivial⟩ trivial (allB_of trivial) List.nodup_nil hU0 (allG_of trivial) (fun β hβ => ?_) ?_
  · refine sc ?_ (sc ?_ (sn))
    · refine sr rfl fun av wq hUw h K k => ?_
      have eh0 := h.B 0 T0_0
      clear h; go_simp
      exact k _ _ (PostN rfl rfl rfl rfl rfl)
    · refine sr rfl fun av wq hUw h K k => ?_
      clear h; go_simp
      exact k _ _ P0
  refine end_of fun bt1 ac1 wd1 d1 z1 hU1 v1 g1 => ?_
  replace d1 := d1.trans d0; replace z1 := z1.trans z0
  clear d0 z0
  refine hK0 _ _ ?_
  refine wp_seq_k fun K1 hK1 => ?_
  refine wp_seq_k fun K2 hK2 => ?_
  refine region_line 100 (dso [13, 14, 15, 16, 17, 18, 19, 20, 21, 22, 23, 24, 25, 26, 27, 28, 29, 30, 31]) [999, 999, 999, 999, 999, 999, 999, 999, 8, 999, 999, 999, 999, 999, 999, 999, 999, 999, 999] [0, 0, 0, 0, 0, 0, 0, 0, 1, 0, 0, 0, 0, 0, 0, 0, 0, 0, 0] [] []
   [fun _ => .bool true, fun _ => .bool false, fun _ => .bool false, fun _ => .pointer (some ⟨(bt1 0), 0, none⟩), fun _ => .pointer (some ⟨(bt1 0), 0, none⟩), fun _ => .agg #[.string p1, .string p2, .string p3], fun _ => .pointer (some ⟨(bt1 0), 4, none⟩), fun _ => .agg #[.string s1, .string s2, .string s3], fun b => .slice (some ⟨b, 0, none⟩) 2 2, fun _ => .bool true, fun _ => .bool false, fun _ => .bool false, fun _ => .bool false, fun _ => .pointer (some ⟨(bt1 0), 0, none⟩), fun _ => .pointer (some ⟨(bt1 0), 3, none⟩), fun _ => .string po, fun _ => .int .i64 (po.size : Int), fun _ => .bool true, fun _ => .bool true]
   [T0, T0, T0, T0, T0, T0, T0, T0, Bw [.string p1, .string p2, .string p3, .string s1, .string s2, .string s3], T0, T0, T0, T0, T0, T0, T0, T0, T0, T0]
   [] [(bt1 0)] w z1 (by kernel_rfl) ⟨loc_true, loc_true, loc_true, loc_true, loc_true, loc_true, loc_true, loc_true, Bw.loc _, loc_true, loc_true, loc_true, loc_true, loc_true, loc_true, loc_true, loc_true, loc_true, loc_true, trivial⟩ trivial g1.B g1.N hU1 (allG_of trivial) (fun β hβ => ?_) ?_
  · refine sc ?_ (sc ?_ (sc ?_ (sc ?_ (sc ?_ (sc ?_ (sc ?_ (sc ?_ (sc ?_ (sc ?_ (sc ?_ (sc ?_ (sc ?_ (sc ?_ (sc ?_ (sc ?_ (sc ?_ (sc ?_ (sc ?_ (sn)))))))))))))))))))
    · refine sr rfl fun av wq hUw h K k => ?_
      have hEw := hE.up hUw
      clear h; go_simp
      refine (law_known wq hEw).mono ?_
      rintro _ w2 ⟨rfl, hX⟩
      exact k _ _ (PD hX)
    · refine sr rfl fun av wq hUw h K k => ?_
      have eh13 := h.A 0 13
      clear h; go_simp
      exact k _ _ P0
    · refine sr rfl fun av wq hUw h K k => ?_
      have eh14 := h.A 1 14
      clear h; go_simp
      exact k _ _ P0
    · refine sg (t := 15) rfl rfl fun av wq hUw h => ⟨h.A 2 15, fun K k => ?_⟩
      have eh1 := h.B 1 (g1.T 0 1)
      clear h; go_simp
      exact k _ _ P0
    · refine sg (t := 15) rfl rfl fun av wq hUw h => ⟨h.A 2 15, fun K k => ?_⟩
      have eh16 := h.A 3 16
      clear h; go_simp
      exact k _ _ P0
    · refine sg (t := 15) rfl rfl fun av wq hUw h => ⟨h.A 2 15, fun K k => ?_⟩
      have eh17 := h.A 4 17
      have eb0 := (g1.f 0 rfl rfl rfl rfl).up (h.W rfl)
      obtain ⟨ec0, ec1, ec2⟩ := eb0.c3 0 1 2
      clear h; go_simp
      exact k _ _ P0
    · refine sg (t := 15) rfl rfl fun av wq hUw h => ⟨h.A 2 15, fun K k => ?_⟩
      have eh1 := h.B 1 (g1.T 0 1)
      clear h; go_simp
      exact k _ _ P0
    · refine sg (t := 15) rfl rfl fun av wq hUw h => ⟨h.A 2 15, fun K k => ?_⟩
      have eh19 := h.A 6 19
      have eb0 := (g1.f 0 rfl rfl rfl rfl).up (h.W rfl)
      obtain ⟨ec0, ec1, ec2⟩ := eb0.c3 4 5 6
      clear h; go_simp
      exact k _ _ P0
    · refine sg (t := 15) rfl rfl fun av wq hUw h => ⟨h.A 2 15, fun K k => ?_⟩
      have eh18 := h.A 5 18
      have eh20 := h.A 7 20
      clear h; go_simp
      exact k _ _ (PostN rfl rfl rfl rfl rfl)
    · refine sg (t := 15) rfl rfl fun av wq hUw h => ⟨h.A 2 15, fun K k => ?_⟩
      have eh21 := h.A 8 21
      have hEw := hE.up hUw
      have eb1 := h.F 8
      have hmeb1 := Bw.slv (L := [(p1, p2, p3), (s1, s2, s3)]) eb1 rfl
      have hkn : ([(p1, p2, p3), (s1, s2, s3)] : List Tri).any lgV = false := HL.out
      have hcc := law_brief [(p1, p2, p3), (s1, s2, s3)] (β 8) 2 wq hEw hmeb1 rfl (by decide)
      rw [hkn] at hcc
      clear hkn
      clear h; go_simp
      refine (hcc).mono ?_
      rintro _ w2 ⟨rfl, hX⟩
      exact k _ _ (PD hX)
    · refine sg (t := 15) rfl rfl fun av wq hUw h => ⟨h.A 2 15, fun K k => ?_⟩
      have eh22 := h.A 9 22
      clear h; go_simp
      exact k _ _ P0
    · refine sr rfl fun av wq hUw h K k => ?_
      have eh15 := h.A 2 15
      have eh23 := h.A 10 23
      clear h; go_simp
      exact k _ _ P0
    · refine sr rfl fun av wq hUw h K k => ?_
      have eh24 := h.A 11 24
      clear h; go_simp
      exact k _ _ P0
    · refine sg (t := 25) rfl rfl fun av wq hUw h => ⟨h.A 12 25, fun K k => ?_⟩
      have eh1 := h.B 1 (g1.T 0 1)
      clear h; go_simp
      exact k _ _ P0
    · refine sg (t := 25) rfl rfl fun av wq hUw h => ⟨h.A 12 25, fun K k => ?_⟩
      have eh26 := h.A 13 26
      clear h; go_simp
      exact k _ _ P0
    · refine sg (t := 25) rfl rfl fun av wq hUw h => ⟨h.A 12 25, fun K k => ?_⟩
      have eh27 := h.A 14 27
      have eb0 := (g1.f 0 rfl rfl rfl rfl).up (h.W rfl)
      have ec0 := eb0.cell 3 rfl
      clear h; go_simp
      exact k _ _ P0
    · refine sg (t := 25) rfl rfl fun av wq hUw h => ⟨h.A 12 25, fun K k => ?_⟩
      have eh28 := h.A 15 28
      clear h; go_simp
      exact k _ _ P0
    · refine sg (t := 25) rfl rfl fun av wq hUw h => ⟨h.A 12 25, fun K k => ?_⟩
      have eh29 := h.A 16 29
      have hmx := HM.out; have hmy := decide_eq_true hmx
      clear h; go_simp
      exact k _ _ P0
    · refine sr rfl fun av wq hUw h K k => ?_
      have eh25 := h.A 12 25
      have eh30 := h.A 17 30
      clear h; go_simp
      exact k _ _ P0
  refine end_of fun bt2 ac2 wd2 d2 z2 hU2 v2 g2 => ?_
  replace d2 := d2.trans d1; replace z2 := z2.trans z1
  clear d1 z1
  refine hK2 _ _ ?_
  refine wp_cond_true (eval_of (g2.T 18 31)) ?_
  refine wp_seq_k fun K3 hK3 => ?_
  refine region_line 100 (dso [32, 2]) [999, 999] [0, 0] [] []
   [fun _ => .bool true, fun _ => .bool true]
   [T0, T0]
   [] [(bt1 0), (bt2 8)] w z2 (by kernel_rfl) ⟨loc_true, loc_true, trivial⟩ trivial g2.B g2.N hU2 (allG_of trivial) (fun β hβ => ?_) ?_
  · refine sc ?_ (sc ?_ (sn))
    · refine sr rfl fun av wq hUw h K k => ?_
      have hEw := hE.up hUw
      clear h; go_simp
      refine (law_known wq hEw).mono ?_
      rintro _ w2 ⟨rfl, hX⟩
      exact k _ _ (PD hX)
    · refine sr rfl fun av wq hUw h K k => ?_
      have eh32 := h.A 0 32
      clear h; go_simp
      exact k _ _ P0
  refine end_of fun bt3 ac3 wd3 d3 z3 hU3 v3 g3 => ?_
  replace d3 := d3.trans d2; replace z3 := z3.trans z2
  clear d2 z2
  refine hK3 _ _ ?_
  have et2 := g3.T 1 2
  refine wp_ret ?_
  refine then_ret ?_
  refine bodyPost_ret (v := .bool true) (by simp [results, Tryz.f6, go_sem, et2]) d3 ?_
  exact ⟨rfl, hU3⟩

set_option maxRecDepth 100000 in
set_option maxHeartbeats 4000000 in
theorem checks_ok (p1 p2 p3 po s1 s2 s3 : ByteArray) (w : World) (hE : Env w) (hL : ([(p1, p2, p3), (s1, s2, s3)] : List Tri).any lgV = false) (hM : ¬ 8 < (po.size : Int)) (hC : (∀ w, Env w → Calls Tryz.prog 32 #[.agg #[.string p1, .string p2, .string p3, .string po, .string s1, .string s2, .string s3]] w (Ret w (.int .i64 0)))) (hK : (∀ w, Env w → Calls Tryz.prog 31 #[.agg #[.string p1, .string p2, .string p3, .string po, .string s1, .string s2, .string s3]] w (Ret w (.int .i64 0)))) :
    Calls Tryz.prog 6 #[.agg #[.string p1, .string p2, .string p3, .string po, .string s1, .string s2, .string s3]] w (Ret w (.bool true)) := by
  have HL := Lib.hid hL
  have HM := Lib.hid hM
  have HC := Lib.hid hC
  have HK := Lib.hid hK
  clear hL hM hC hK
  go_enter Tryz.func6, Tryz.ntmps6
  refine enter_abs fun ac0 d0 z0 he0 => ?_
  have hU0 := Up.refl w
  have T0_0 := he0 0 _ rfl
  replace z0 : ac0.tmps.size = 100 := z0
  clear he0
  refine wp_seq_k fun K0 hK0 => ?_
  refine region_line 100 (dso [1, 2]) [0, 999] [1, 0] [] []
   [fun b => .pointer (some ⟨b, 0, none⟩), fun _ => .bool false]
   [Bw [.string p1, .string p2, .string p3, .string po, .string s1, .string s2, .string s3], T0]
   [] ([] : List Nat) w z0 (by kernel_rfl) ⟨Bw.loc _, loc_true, trivial⟩ trivial (allB_of trivial) List.nodup_nil hU0 (allG_of trivial) (fun β hβ => ?_) ?_
  · refine sc ?_ (sc ?_ (sn))
    · refine sr rfl fun av wq hUw h K k => ?_
      have eh0 := h.B 0 T0_0
      clear h; go_simp
      exact k _ _ (PostN rfl rfl rfl rfl rfl)
    · refine sr rfl fun av wq hUw h K k => ?_
      clear h; go_simp
      exact k _ _ P0
  refine end_of fun bt1 ac1 wd1 d1 z1 hU1 v1 g1 => ?_
  replace d1 := d1.trans d0; replace z1 := z1.trans z0
  clear d0 z0
  refine hK0 _ _ ?_
  refine wp_seq_k fun K1 hK1 => ?_
  refine wp_seq_k fun K2 hK2 => ?_
  refine region_line 100 (dso [13, 14, 15, 16, 17, 18, 19, 20, 21, 22, 23, 24, 25, 26, 27, 28, 29, 30, 31]) [999, 999, 999, 999, 999, 999, 999, 999, 8, 999, 999, 999, 999, 999, 999, 999, 999, 999, 999] [0, 0, 0, 0, 0, 0, 0, 0, 1, 0, 0, 0, 0, 0, 0, 0, 0, 0, 0] [] []
   [fun _ => .bool true, fun _ => .bool false, fun _ => .bool false, fun _ => .pointer (some ⟨(bt1 0), 0, none⟩), fun _ => .pointer (some ⟨(bt1 0), 0, none⟩), fun _ => .agg #[.string p1, .string p2, .string p3], fun _ => .pointer (some ⟨(bt1 0), 4, none⟩), fun _ => .agg #[.string s1, .string s2, .string s3], fun b => .slice (some ⟨b, 0, none⟩) 2 2, fun _ => .bool true, fun _ => .bool false, fun _ => .bool false, fun _ => .bool false, fun _ => .pointer (some ⟨(bt1 0), 0, none⟩), fun _ => .pointer (some ⟨(bt1 0), 3, none⟩), fun _ => .string po, fun _ => .int .i64 (po.size : Int), fun _ => .bool false, fun _ => .bool false]
   [T0, T0, T0, T0, T0, T0, T0, T0, Bw [.string p1, .string p2, .string p3, .string s1, .string s2, .string s3], T0, T0, T0, T0, T0, T0, T0, T0, T0, T0]
   [] [(bt1 0)] w z1 (by kernel_rfl) ⟨loc_true, loc_true, loc_true, loc_true, loc_true, loc_true, loc_true, loc_true, Bw.loc _, loc_true, loc_true, loc_true, loc_true, loc_true, loc_true, loc_true, loc_true, loc_true, loc_true, trivial⟩ trivial g1.B g1.N hU1 (allG_of trivial) (fun β hβ => ?_) ?_
  · refine sc ?_ (sc ?_ (sc ?_ (sc ?_ (sc ?_ (sc ?_ (sc ?_ (sc ?_ (sc ?_ (sc ?_ (sc ?_ (sc ?_ (sc ?_ (sc ?_ (sc ?_ (sc ?_ (sc ?_ (sc ?_ (sc ?_ (sn)))))))))))))))))))
    · refine sr rfl fun av wq hUw h K k => ?_
      have hEw := hE.up hUw
      clear h; go_simp
      refine (law_known wq hEw).mono ?_
      rintro _ w2 ⟨rfl, hX⟩
      exact k _ _ (PD hX)
    · refine sr rfl fun av wq hUw h K k => ?_
      have eh13 := h.A 0 13
      clear h; go_simp
      exact k _ _ P0
    · refine sr rfl fun av wq hUw h K k => ?_
      have eh14 := h.A 1 14
      clear h; go_simp
      exact k _ _ P0
    · refine sg (t := 15) rfl rfl fun av wq hUw h => ⟨h.A 2 15, fun K k => ?_⟩
      have eh1 := h.B 1 (g1.T 0 1)
      clear h; go_simp
      exact k _ _ P0
    · refine sg (t := 15) rfl rfl fun av wq hUw h => ⟨h.A 2 15, fun K k => ?_⟩
      have eh16 := h.A 3 16
      clear h; go_simp
      exact k _ _ P0
    · refine sg (t := 15) rfl rfl fun av wq hUw h => ⟨h.A 2 15, fun K k => ?_⟩
      have eh17 := h.A 4 17
      have eb0 := (g1.f 0 rfl rfl rfl rfl).up (h.W rfl)
      obtain ⟨ec0, ec1, ec2⟩ := eb0.c3 0 1 2
      clear h; go_simp
      exact k _ _ P0
    · refine sg (t := 15) rfl rfl fun av wq hUw h => ⟨h.A 2 15, fun K k => ?_⟩
      have eh1 := h.B 1 (g1.T 0 1)
      clear h; go_simp
      exact k _ _ P0
    · refine sg (t := 15) rfl rfl fun av wq hUw h => ⟨h.A 2 15, fun K k => ?_⟩
      have eh19 := h.A 6 19
      have eb0 := (g1.f 0 rfl rfl rfl rfl).up (h.W rfl)
      obtain ⟨ec0, ec1, ec2⟩ := eb0.c3 4 5 6
      clear h; go_simp
      exact k _ _ P0
    · refine sg (t := 15) rfl rfl fun av wq hUw h => ⟨h.A 2 15, fun K k => ?_⟩
      have eh18 := h.A 5 18
      have eh20 := h.A 7 20
      clear h; go_simp
      exact k _ _ (PostN rfl rfl rfl rfl rfl)
    · refine sg (t := 15) rfl rfl fun av wq hUw h => ⟨h.A 2 15, fun K k => ?_⟩
      have eh21 := h.A 8 21
      have hEw := hE.up hUw
      have eb1 := h.F 8
      have hmeb1 := Bw.slv (L := [(p1, p2, p3), (s1, s2, s3)]) eb1 rfl
      have hkn : ([(p1, p2, p3), (s1, s2, s3)] : List Tri).any lgV = false := HL.out
      have hcc := law_brief [(p1, p2, p3), (s1, s2, s3)] (β 8) 2 wq hEw hmeb1 rfl (by decide)
      rw [hkn] at hcc
      clear hkn
      clear h; go_simp
      refine (hcc).mono ?_
      rintro _ w2 ⟨rfl, hX⟩
      exact k _ _ (PD hX)
    · refine sg (t := 15) rfl rfl fun av wq hUw h => ⟨h.A 2 15, fun K k => ?_⟩
      have eh22 := h.A 9 22
      clear h; go_simp
      exact k _ _ P0
    · refine sr rfl fun av wq hUw h K k => ?_
      have eh15 := h.A 2 15
      have eh23 := h.A 10 23
      clear h; go_simp
      exact k _ _ P0
    · refine sr rfl fun av wq hUw h K k => ?_
      have eh24 := h.A 11 24
      clear h; go_simp
      exact k _ _ P0
    · refine sg (t := 25) rfl rfl fun av wq hUw h => ⟨h.A 12 25, fun K k => ?_⟩
      have eh1 := h.B 1 (g1.T 0 1)
      clear h; go_simp
      exact k _ _ P0
    · refine sg (t := 25) rfl rfl fun av wq hUw h => ⟨h.A 12 25, fun K k => ?_⟩
      have eh26 := h.A 13 26
      clear h; go_simp
      exact k _ _ P0
    · refine sg (t := 25) rfl rfl fun av wq hUw h => ⟨h.A 12 25, fun K k => ?_⟩
      have eh27 := h.A 14 27
      have eb0 := (g1.f 0 rfl rfl rfl rfl).up (h.W rfl)
      have ec0 := eb0.cell 3 rfl
      clear h; go_simp
      exact k _ _ P0
    · refine sg (t := 25) rfl rfl fun av wq hUw h => ⟨h.A 12 25, fun K k => ?_⟩
      have eh28 := h.A 15 28
      clear h; go_simp
      exact k _ _ P0
    · refine sg (t := 25) rfl rfl fun av wq hUw h => ⟨h.A 12 25, fun K k => ?_⟩
      have eh29 := h.A 16 29
      have hmx := HM.out; have hmy := decide_eq_false hmx
      clear h; go_simp
      exact k _ _ P0
    · refine sr rfl fun av wq hUw h K k => ?_
      have eh25 := h.A 12 25
      have eh30 := h.A 17 30
      clear h; go_simp
      exact k _ _ P0
  refine end_of fun bt2 ac2 wd2 d2 z2 hU2 v2 g2 => ?_
  replace d2 := d2.trans d1; replace z2 := z2.trans z1
  clear d1 z1
  refine hK2 _ _ ?_
  refine wp_cond_false (eval_of (g2.T 18 31)) ?_
  refine wp_skip ?_
  refine hK1 _ _ ?_
  refine wp_seq_k fun K3 hK3 => ?_
  refine region_line 100 (dso [33, 34, 3]) [999, 999, 999] [0, 0, 0] [] []
   [fun _ => .agg #[.string p1, .string p2, .string p3, .string po, .string s1, .string s2, .string s3], fun _ => .int .i64 0, fun _ => .int .i64 0]
   [T0, T0, T0]
   [] [(bt1 0), (bt2 8)] w z2 (by kernel_rfl) ⟨loc_true, loc_true, loc_true, trivial⟩ trivial g2.B g2.N hU2 (allG_of trivial) (fun β hβ => ?_) ?_
  · refine sc ?_ (sc ?_ (sc ?_ (sn)))
    · refine sr rfl fun av wq hUw h K k => ?_
      have eh1 := h.B 1 ((v2 1 rfl).trans (g1.T 0 1))
      have eb0 := ((g1.f 0 rfl rfl rfl rfl).up (g2.W rfl)).up (h.W rfl)
      obtain ⟨ec0, ec1, ec2⟩ := eb0.c3 0 1 2
      obtain ⟨ec3, ec4, ec5⟩ := eb0.c3 3 4 5
      have ec6 := eb0.cell 6 rfl
      clear h; go_simp
      exact k _ _ P0
    · refine sr rfl fun av wq hUw h K k => ?_
      have eh33 := h.A 0 33
      have hEw := hE.up hUw
      clear h; go_simp
      refine (HK.out wq hEw).mono ?_
      rintro _ w2 ⟨rfl, hX⟩
      exact k _ _ (PD hX)
    · refine sr rfl fun av wq hUw h K k => ?_
      have eh34 := h.A 1 34
      clear h; go_simp
      exact k _ _ P0
  refine end_of fun bt3 ac3 wd3 d3 z3 hU3 v3 g3 => ?_
  replace d3 := d3.trans d2; replace z3 := z3.trans z2
  clear d2 z2
  refine hK3 _ _ ?_
  refine wp_seq_k fun K4 hK4 => ?_
  refine wp_seq_k fun K5 hK5 => ?_
  refine region_line 100 (dso [35, 36, 37, 38]) [999, 999, 999, 999] [0, 0, 0, 0] [] []
   [fun _ => .agg #[.string p1, .string p2, .string p3, .string po, .string s1, .string s2, .string s3], fun _ => .int .i64 0, fun _ => .int .i64 0, fun _ => .bool false]
   [T0, T0, T0, T0]
   [] [(bt1 0), (bt2 8)] w z3 (by kernel_rfl) ⟨loc_true, loc_true, loc_true, loc_true, trivial⟩ trivial g3.B g3.N hU3 (allG_of trivial) (fun β hβ => ?_) ?_
  · refine sc ?_ (sc ?_ (sc ?_ (sc ?_ (sn))))
    · refine sr rfl fun av wq hUw h K k => ?_
      have eh1 := h.B 1 ((v3 1 rfl).trans ((v2 1 rfl).trans (g1.T 0 1)))
      have eb0 := ((g1.f 0 rfl rfl rfl rfl).up ((g2.W rfl).trans (g3.W rfl))).up (h.W rfl)
      obtain ⟨ec0, ec1, ec2⟩ := eb0.c3 0 1 2
      obtain ⟨ec3, ec4, ec5⟩ := eb0.c3 3 4 5
      have ec6 := eb0.cell 6 rfl
      clear h; go_simp
      exact k _ _ P0
    · refine sr rfl fun av wq hUw h K k => ?_
      have eh35 := h.A 0 35
      have hEw := hE.up hUw
      clear h; go_simp
      refine (HC.out wq hEw).mono ?_
      rintro _ w2 ⟨rfl, hX⟩
      exact k _ _ (PD hX)
    · refine sr rfl fun av wq hUw h K k => ?_
      have eh3 := h.B 3 (g3.T 2 3)
      clear h; go_simp
      exact k _ _ P0
    · refine sr rfl fun av wq hUw h K k => ?_
      have eh36 := h.A 1 36
      have eh37 := h.A 2 37
      clear h; go_simp
      exact k _ _ P0
  refine end_of fun bt4 ac4 wd4 d4 z4 hU4 v4 g4 => ?_
  replace d4 := d4.trans d3; replace z4 := z4.trans z3
  clear d3 z3
  refine hK5 _ _ ?_
  refine wp_cond_false (eval_of (g4.T 3 38)) ?_
  refine wp_skip ?_
  refine hK4 _ _ ?_
  refine wp_seq_k fun K6 hK6 => ?_
  refine wp_seq_k fun K7 hK7 => ?_
  refine region_line 100 (dso [39, 40]) [999, 999] [0, 0] [] []
   [fun _ => .int .i64 0, fun _ => .bool true]
   [T0, T0]
   [] [(bt1 0), (bt2 8)] w z4 (by kernel_rfl) ⟨loc_true, loc_true, trivial⟩ trivial g4.B g4.N hU4 (allG_of trivial) (fun β hβ => ?_) ?_
  · refine sc ?_ (sc ?_ (sn))
    · refine sr rfl fun av wq hUw h K k => ?_
      have eh3 := h.B 3 ((v4 3 rfl).trans (g3.T 2 3))
      clear h; go_simp
      exact k _ _ P0
    · refine sr rfl fun av wq hUw h K k => ?_
      have eh39 := h.A 0 39
      clear h; go_simp
      exact k _ _ P0
  refine end_of fun bt5 ac5 wd5 d5 z5 hU5 v5 g5 => ?_
  replace d5 := d5.trans d4; replace z5 := z5.trans z4
  clear d4 z4
  refine hK7 _ _ ?_
  refine wp_cond_true (eval_of (g5.T 1 40)) ?_
  refine wp_seq_k fun K8 hK8 => ?_
  refine region_line 100 (dso [2]) [999] [0] [] []
   [fun _ => .bool true]
   [T0]
   [] [(bt1 0), (bt2 8)] w z5 (by kernel_rfl) ⟨loc_true, trivial⟩ trivial g5.B g5.N hU5 (allG_of trivial) (fun β hβ => ?_) ?_
  · refine sc ?_ (sn)
    · refine sr rfl fun av wq hUw h K k => ?_
      clear h; go_simp
      exact k _ _ P0
  refine end_of fun bt6 ac6 wd6 d6 z6 hU6 v6 g6 => ?_
  replace d6 := d6.trans d5; replace z6 := z6.trans z5
  clear d5 z5
  refine hK8 _ _ ?_
  have et2 := g6.T 0 2
  refine wp_ret ?_
  refine then_ret ?_
  refine bodyPost_ret (v := .bool true) (by simp [results, Tryz.f6, go_sem, et2]) d6 ?_
  exact ⟨rfl, hU6⟩

set_option maxRecDepth 100000 in
set_option maxHeartbeats 4000000 in
theorem checks_err (p1 p2 p3 po s1 s2 s3 : ByteArray) (e : Int) (w : World) (hE : Env w) (hL : ([(p1, p2, p3), (s1, s2, s3)] : List Tri).any lgV = false) (hM : ¬ 8 < (po.size : Int)) (he : e ≠ 0) (hC : (∀ w, Env w → Calls Tryz.prog 32 #[.agg #[.string p1, .string p2, .string p3, .string po, .string s1, .string s2, .string s3]] w (Ret w (.int .i64 e)))) (hK : (∀ w, Env w → Calls Tryz.prog 31 #[.agg #[.string p1, .string p2, .string p3, .string po, .string s1, .string s2, .string s3]] w (Ret w (.int .i64 e)))) :
    Calls Tryz.prog 6 #[.agg #[.string p1, .string p2, .string p3, .string po, .string s1, .string s2, .string s3]] w (Ret w (.bool true)) := by
  have HL := Lib.hid hL
  have HM := Lib.hid hM
  have HC := Lib.hid hC
  have HK := Lib.hid hK
  have HE := Lib.hid he
  clear he
  clear hL hM hC hK
  go_enter Tryz.func6, Tryz.ntmps6
  refine enter_abs fun ac0 d0 z0 he0 => ?_
  have hU0 := Up.refl w
  have T0_0 := he0 0 _ rfl
  replace z0 : ac0.tmps.size = 100 := z0
  clear he0
  refine wp_seq_k fun K0 hK0 => ?_
  refine region_line 100 (dso [1, 2]) [0, 999] [1, 0] [] []
   [fun b => .pointer (some ⟨b, 0, none⟩), fun _ => .bool false]
   [Bw [.string p1, .string p2, .string p3, .string po, .string s1, .string s2, .string s3], T0]
   [] ([] : List Nat) w z0 (by kernel_rfl) ⟨Bw.loc _, loc_true, trivial⟩ trivial (allB_of trivial) List.nodup_nil hU0 (allG_of trivial) (fun β hβ => ?_) ?_
  · refine sc ?_ (sc ?_ (sn))
    · refine sr rfl fun av wq hUw h K k => ?_
      have eh0 := h.B 0 T0_0
      clear h; go_simp
      exact k _ _ (PostN rfl rfl rfl rfl rfl)
    · refine sr rfl fun av wq hUw h K k => ?_
      clear h; go_simp
      exact k _ _ P0
  refine end_of fun bt1 ac1 wd1 d1 z1 hU1 v1 g1 => ?_
  replace d1 := d1.trans d0; replace z1 := z1.trans z0
  clear d0 z0
  refine hK0 _ _ ?_
  refine wp_seq_k fun K1 hK1 => ?_
  refine wp_seq_k fun K2 hK2 => ?_
  refine region_line 100 (dso [13, 14, 15, 16, 17, 18, 19, 20, 21, 22, 23, 24, 25, 26, 27, 28, 29, 30, 31]) [999, 999, 999, 999, 999, 999, 999, 999, 8, 999, 999, 999, 999, 999, 999, 999, 999, 999, 999] [0, 0, 0, 0, 0, 0, 0, 0, 1, 0, 0, 0, 0, 0, 0, 0, 0, 0, 0] [] []
   [fun _ => .bool true, fun _ => .bool false, fun _ => .bool false, fun _ => .pointer (some ⟨(bt1 0), 0, none⟩), fun _ => .pointer (some ⟨(bt1 0), 0, none⟩), fun _ => .agg #[.string p1, .string p2, .string p3], fun _ => .pointer (some ⟨(bt1 0), 4, none⟩), fun _ => .agg #[.string s1, .string s2, .string s3], fun b => .slice (some ⟨b, 0, none⟩) 2 2, fun _ => .bool true, fun _ => .bool false, fun _ => .bool false, fun _ => .bool false, fun _ => .pointer (some ⟨(bt1 0), 0, none⟩), fun _ => .pointer (some ⟨(bt1 0), 3, none⟩), fun _ => .string po, fun _ => .int .i64 (po.size : Int), fun _ => .bool false, fun _ => .bool false]
   [T0, T0, T0, T0, T0, T0, T0, T0, Bw [.string p1, .string p2, .string p3, .string s1, .string s2, .string s3], T0, T0, T0, T0, T0, T0, T0, T0, T0, T0]
   [] [(bt1 0)] w z1 (by kernel_rfl) ⟨loc_true, loc_true, loc_true, loc_true, loc_true, loc_true, loc_true, loc_true, Bw.loc _, loc_true, loc_true, loc_true, loc_true, loc_true, loc_true, loc_true, loc_true, loc_true, loc_true, trivial⟩ trivial g1.B g1.N hU1 (allG_of trivial) (fun β hβ => ?_) ?_
  · refine sc ?_ (sc ?_ (sc ?_ (sc ?_ (sc ?_ (sc ?_ (sc ?_ (sc ?_ (sc ?_ (sc ?_ (sc ?_ (sc ?_ (sc ?_ (sc ?_ (sc ?_ (sc ?_ (sc ?_ (sc ?_ (sc ?_ (sn)))))))))))))))))))
    · refine sr rfl fun av wq hUw h K k => ?_
      have hEw := hE.up hUw
      clear h; go_simp
      refine (law_known wq hEw).mono ?_
      rintro _ w2 ⟨rfl, hX⟩
      exact k _ _ (PD hX)
    · refine sr rfl fun av wq hUw h K k => ?_
      have eh13 := h.A 0 13
      clear h; go_simp
      exact k _ _ P0
    · refine sr rfl fun av wq hUw h K k => ?_
      have eh14 := h.A 1 14
      clear h; go_simp
      exact k _ _ P0
    · refine sg (t := 15) rfl rfl fun av wq hUw h => ⟨h.A 2 15, fun K k => ?_⟩
      have eh1 := h.B 1 (g1.T 0 1)
      clear h; go_simp
      exact k _ _ P0
    · refine sg (t := 15) rfl rfl fun av wq hUw h => ⟨h.A 2 15, fun K k => ?_⟩
      have eh16 := h.A 3 16
      clear h; go_simp
      exact k _ _ P0
    · refine sg (t := 15) rfl rfl fun av wq hUw h => ⟨h.A 2 15, fun K k => ?_⟩
      have eh17 := h.A 4 17
      have eb0 := (g1.f 0 rfl rfl rfl rfl).up (h.W rfl)
      obtain ⟨ec0, ec1, ec2⟩ := eb0.c3 0 1 2
      clear h; go_simp
      exact k _ _ P0
    · refine sg (t := 15) rfl rfl fun av wq hUw h => ⟨h.A 2 15, fun K k => ?_⟩
      have eh1 := h.B 1 (g1.T 0 1)
      clear h; go_simp
      exact k _ _ P0
    · refine sg (t := 15) rfl rfl fun av wq hUw h => ⟨h.A 2 15, fun K k => ?_⟩
      have eh19 := h.A 6 19
      have eb0 := (g1.f 0 rfl rfl rfl rfl).up (h.W rfl)
      obtain ⟨ec0, ec1, ec2⟩ := eb0.c3 4 5 6
      clear h; go_simp
      exact k _ _ P0
    · refine sg (t := 15) rfl rfl fun av wq hUw h => ⟨h.A 2 15, fun K k => ?_⟩
      have eh18 := h.A 5 18
      have eh20 := h.A 7 20
      clear h; go_simp
      exact k _ _ (PostN rfl rfl rfl rfl rfl)
    · refine sg (t := 15) rfl rfl fun av wq hUw h => ⟨h.A 2 15, fun K k => ?_⟩
      have eh21 := h.A 8 21
      have hEw := hE.up hUw
      have eb1 := h.F 8
      have hmeb1 := Bw.slv (L := [(p1, p2, p3), (s1, s2, s3)]) eb1 rfl
      have hkn : ([(p1, p2, p3), (s1, s2, s3)] : List Tri).any lgV = false := HL.out
      have hcc := law_brief [(p1, p2, p3), (s1, s2, s3)] (β 8) 2 wq hEw hmeb1 rfl (by decide)
      rw [hkn] at hcc
      clear hkn
      clear h; go_simp
      refine (hcc).mono ?_
      rintro _ w2 ⟨rfl, hX⟩
      exact k _ _ (PD hX)
    · refine sg (t := 15) rfl rfl fun av wq hUw h => ⟨h.A 2 15, fun K k => ?_⟩
      have eh22 := h.A 9 22
      clear h; go_simp
      exact k _ _ P0
    · refine sr rfl fun av wq hUw h K k => ?_
      have eh15 := h.A 2 15
      have eh23 := h.A 10 23
      clear h; go_simp
      exact k _ _ P0
    · refine sr rfl fun av wq hUw h K k => ?_
      have eh24 := h.A 11 24
      clear h; go_simp
      exact k _ _ P0
    · refine sg (t := 25) rfl rfl fun av wq hUw h => ⟨h.A 12 25, fun K k => ?_⟩
      have eh1 := h.B 1 (g1.T 0 1)
      clear h; go_simp
      exact k _ _ P0
    · refine sg (t := 25) rfl rfl fun av wq hUw h => ⟨h.A 12 25, fun K k => ?_⟩
      have eh26 := h.A 13 26
      clear h; go_simp
      exact k _ _ P0
    · refine sg (t := 25) rfl rfl fun av wq hUw h => ⟨h.A 12 25, fun K k => ?_⟩
      have eh27 := h.A 14 27
      have eb0 := (g1.f 0 rfl rfl rfl rfl).up (h.W rfl)
      have ec0 := eb0.cell 3 rfl
      clear h; go_simp
      exact k _ _ P0
    · refine sg (t := 25) rfl rfl fun av wq hUw h => ⟨h.A 12 25, fun K k => ?_⟩
      have eh28 := h.A 15 28
      clear h; go_simp
      exact k _ _ P0
    · refine sg (t := 25) rfl rfl fun av wq hUw h => ⟨h.A 12 25, fun K k => ?_⟩
      have eh29 := h.A 16 29
      have hmx := HM.out; have hmy := decide_eq_false hmx
      clear h; go_simp
      exact k _ _ P0
    · refine sr rfl fun av wq hUw h K k => ?_
      have eh25 := h.A 12 25
      have eh30 := h.A 17 30
      clear h; go_simp
      exact k _ _ P0
  refine end_of fun bt2 ac2 wd2 d2 z2 hU2 v2 g2 => ?_
  replace d2 := d2.trans d1; replace z2 := z2.trans z1
  clear d1 z1
  refine hK2 _ _ ?_
  refine wp_cond_false (eval_of (g2.T 18 31)) ?_
  refine wp_skip ?_
  refine hK1 _ _ ?_
  refine wp_seq_k fun K3 hK3 => ?_
  refine region_line 100 (dso [33, 34, 3]) [999, 999, 999] [0, 0, 0] [] []
   [fun _ => .agg #[.string p1, .string p2, .string p3, .string po, .string s1, .string s2, .string s3], fun _ => .int .i64 e, fun _ => .int .i64 e]
   [T0, T0, T0]
   [] [(bt1 0), (bt2 8)] w z2 (by kernel_rfl) ⟨loc_true, loc_true, loc_true, trivial⟩ trivial g2.B g2.N hU2 (allG_of trivial) (fun β hβ => ?_) ?_
  · refine sc ?_ (sc ?_ (sc ?_ (sn)))
    · refine sr rfl fun av wq hUw h K k => ?_
      have eh1 := h.B 1 ((v2 1 rfl).trans (g1.T 0 1))
      have eb0 := ((g1.f 0 rfl rfl rfl rfl).up (g2.W rfl)).up (h.W rfl)
      obtain ⟨ec0, ec1, ec2⟩ := eb0.c3 0 1 2
      obtain ⟨ec3, ec4, ec5⟩ := eb0.c3 3 4 5
      have ec6 := eb0.cell 6 rfl
      clear h; go_simp
      exact k _ _ P0
    · refine sr rfl fun av wq hUw h K k => ?_
      have eh33 := h.A 0 33
      have hEw := hE.up hUw
      clear h; go_simp
      refine (HK.out wq hEw).mono ?_
      rintro _ w2 ⟨rfl, hX⟩
      exact k _ _ (PD hX)
    · refine sr rfl fun av wq hUw h K k => ?_
      have eh34 := h.A 1 34
      clear h; go_simp
      exact k _ _ P0
  refine end_of fun bt3 ac3 wd3 d3 z3 hU3 v3 g3 => ?_
  replace d3 := d3.trans d2; replace z3 := z3.trans z2
  clear d2 z2
  refine hK3 _ _ ?_
  refine wp_seq_k fun K4 hK4 => ?_
  refine wp_seq_k fun K5 hK5 => ?_
  refine region_line 100 (dso [35, 36, 37, 38]) [999, 999, 999, 999] [0, 0, 0, 0] [] []
   [fun _ => .agg #[.string p1, .string p2, .string p3, .string po, .string s1, .string s2, .string s3], fun _ => .int .i64 e, fun _ => .int .i64 e, fun _ => .bool false]
   [T0, T0, T0, T0]
   [] [(bt1 0), (bt2 8)] w z3 (by kernel_rfl) ⟨loc_true, loc_true, loc_true, loc_true, trivial⟩ trivial g3.B g3.N hU3 (allG_of trivial) (fun β hβ => ?_) ?_
  · refine sc ?_ (sc ?_ (sc ?_ (sc ?_ (sn))))
    · refine sr rfl fun av wq hUw h K k => ?_
      have eh1 := h.B 1 ((v3 1 rfl).trans ((v2 1 rfl).trans (g1.T 0 1)))
      have eb0 := ((g1.f 0 rfl rfl rfl rfl).up ((g2.W rfl).trans (g3.W rfl))).up (h.W rfl)
      obtain ⟨ec0, ec1, ec2⟩ := eb0.c3 0 1 2
      obtain ⟨ec3, ec4, ec5⟩ := eb0.c3 3 4 5
      have ec6 := eb0.cell 6 rfl
      clear h; go_simp
      exact k _ _ P0
    · refine sr rfl fun av wq hUw h K k => ?_
      have eh35 := h.A 0 35
      have hEw := hE.up hUw
      clear h; go_simp
      refine (HC.out wq hEw).mono ?_
      rintro _ w2 ⟨rfl, hX⟩
      exact k _ _ (PD hX)
    · refine sr rfl fun av wq hUw h K k => ?_
      have eh3 := h.B 3 (g3.T 2 3)
      clear h; go_simp
      exact k _ _ P0
    · refine sr rfl fun av wq hUw h K k => ?_
      have eh36 := h.A 1 36
      have eh37 := h.A 2 37
      clear h; go_simp
      exact k _ _ P0
  refine end_of fun bt4 ac4 wd4 d4 z4 hU4 v4 g4 => ?_
  replace d4 := d4.trans d3; replace z4 := z4.trans z3
  clear d3 z3
  refine hK5 _ _ ?_
  refine wp_cond_false (eval_of (g4.T 3 38)) ?_
  refine wp_skip ?_
  refine hK4 _ _ ?_
  refine wp_seq_k fun K6 hK6 => ?_
  refine wp_seq_k fun K7 hK7 => ?_
  refine region_line 100 (dso [39, 40]) [999, 999] [0, 0] [] []
   [fun _ => .int .i64 e, fun _ => .bool false]
   [T0, T0]
   [] [(bt1 0), (bt2 8)] w z4 (by kernel_rfl) ⟨loc_true, loc_true, trivial⟩ trivial g4.B g4.N hU4 (allG_of trivial) (fun β hβ => ?_) ?_
  · refine sc ?_ (sc ?_ (sn))
    · refine sr rfl fun av wq hUw h K k => ?_
      have eh3 := h.B 3 ((v4 3 rfl).trans (g3.T 2 3))
      clear h; go_simp
      exact k _ _ P0
    · refine sr rfl fun av wq hUw h K k => ?_
      have eh39 := h.A 0 39
      have hi1 : (e != 0) = true := bne_iff_ne.2 HE.out; have hi2 : (e == 0) = false := beq_eq_false_iff_ne.2 HE.out
      clear h; go_simp
      exact k _ _ P0
  refine end_of fun bt5 ac5 wd5 d5 z5 hU5 v5 g5 => ?_
  replace d5 := d5.trans d4; replace z5 := z5.trans z4
  clear d4 z4
  refine hK7 _ _ ?_
  refine wp_cond_false (eval_of (g5.T 1 40)) ?_
  refine wp_skip ?_
  refine hK6 _ _ ?_
  refine wp_seq_k fun K8 hK8 => ?_
  refine region_line 100 (dso [42, 43, 41, 44, 45, 46, 4, 5, 6]) [999, 999, 999, 999, 999, 999, 999, 999, 999] [0, 0, 0, 0, 0, 0, 0, 0, 0] [] []
   [fun _ => .agg #[.string p1, .string p2, .string p3, .string po, .string s1, .string s2, .string s3], fun _ => .tuple #[.string ⟨#[]⟩, .string ⟨#[]⟩, .int .i64 e], fun _ => .tuple #[.string ⟨#[]⟩, .string ⟨#[]⟩, .int .i64 e], fun _ => .string ⟨#[]⟩, fun _ => .string ⟨#[]⟩, fun _ => .int .i64 e, fun _ => .string ⟨#[]⟩, fun _ => .string ⟨#[]⟩, fun _ => .int .i64 e]
   [T0, T0, T0, T0, T0, T0, T0, T0, T0]
   [] [(bt1 0), (bt2 8)] w z5 (by kernel_rfl) ⟨loc_true, loc_true, loc_true, loc_true, loc_true, loc_true, loc_true, loc_true, loc_true, trivial⟩ trivial g5.B g5.N hU5 (allG_of trivial) (fun β hβ => ?_) ?_
  · refine sc ?_ (sc ?_ (sc ?_ (sc ?_ (sc ?_ (sc ?_ (sc ?_ (sc ?_ (sc ?_ (sn)))))))))
    · refine sr rfl fun av wq hUw h K k => ?_
      have eh1 := h.B 1 ((v5 1 rfl).trans ((v4 1 rfl).trans ((v3 1 rfl).trans ((v2 1 rfl).trans (g1.T 0 1)))))
      have eb0 := ((g1.f 0 rfl rfl rfl rfl).up ((((g2.W rfl).trans (g3.W rfl)).trans (g4.W rfl)).trans (g5.W rfl))).up (h.W rfl)
      obtain ⟨ec0, ec1, ec2⟩ := eb0.c3 0 1 2
      obtain ⟨ec3, ec4, ec5⟩ := eb0.c3 3 4 5
      have ec6 := eb0.cell 6 rfl
      clear h; go_simp
      exact k _ _ P0
    · refine sr rfl fun av wq hUw h K k => ?_
      have eh42 := h.A 0 42
      have hEw := hE.up hUw
      clear h; go_simp
      refine (slip_parts_err p1 p2 p3 po s1 s2 s3 e wq hEw HE.out HC.out).mono ?_
      rintro _ w2 ⟨rfl, hX⟩
      exact k _ _ (PD hX)
    · refine sr rfl fun av wq hUw h K k => ?_
      have eh43 := h.A 1 43
      clear h; go_simp
      exact k _ _ P0
    · refine sr rfl fun av wq hUw h K k => ?_
      have eh41 := h.A 2 41
      clear h; go_simp
      exact k _ _ P0
    · refine sr rfl fun av wq hUw h K k => ?_
      have eh41 := h.A 2 41
      clear h; go_simp
      exact k _ _ P0
    · refine sr rfl fun av wq hUw h K k => ?_
      have eh41 := h.A 2 41
      clear h; go_simp
      exact k _ _ P0
    · refine sr rfl fun av wq hUw h K k => ?_
      have eh44 := h.A 3 44
      clear h; go_simp
      exact k _ _ P0
    · refine sr rfl fun av wq hUw h K k => ?_
      have eh45 := h.A 4 45
      clear h; go_simp
      exact k _ _ P0
    · refine sr rfl fun av wq hUw h K k => ?_
      have eh46 := h.A 5 46
      clear h; go_simp
      exact k _ _ P0
  refine end_of fun bt6 ac6 wd6 d6 z6 hU6 v6 g6 => ?_
  replace d6 := d6.trans d5; replace z6 := z6.trans z5
  clear d5 z5
  refine hK8 _ _ ?_
  refine wp_seq_k fun K9 hK9 => ?_
  refine region_line 100 (dso [48, 49, 47, 50, 51, 7, 8]) [999, 999, 999, 999, 999, 999, 999] [0, 0, 0, 0, 0, 0, 0] [] []
   [fun _ => .agg #[.string p1, .string p2, .string p3, .string po, .string s1, .string s2, .string s3], fun _ => .tuple #[.int .i64 0, .int .i64 e], fun _ => .tuple #[.int .i64 0, .int .i64 e], fun _ => .int .i64 0, fun _ => .int .i64 e, fun _ => .int .i64 0, fun _ => .int .i64 e]
   [T0, T0, T0, T0, T0, T0, T0]
   [] [(bt1 0), (bt2 8)] w z6 (by kernel_rfl) ⟨loc_true, loc_true, loc_true, loc_true, loc_true, loc_true, loc_true, trivial⟩ trivial g6.B g6.N hU6 (allG_of trivial) (fun β hβ => ?_) ?_
  · refine sc ?_ (sc ?_ (sc ?_ (sc ?_ (sc ?_ (sc ?_ (sc ?_ (sn)))))))
    · refine sr rfl fun av wq hUw h K k => ?_
      have eh1 := h.B 1 ((v6 1 rfl).trans ((v5 1 rfl).trans ((v4 1 rfl).trans ((v3 1 rfl).trans ((v2 1 rfl).trans (g1.T 0 1))))))
      have eb0 := ((g1.f 0 rfl rfl rfl rfl).up (((((g2.W rfl).trans (g3.W rfl)).trans (g4.W rfl)).trans (g5.W rfl)).trans (g6.W rfl))).up (h.W rfl)
      obtain ⟨ec0, ec1, ec2⟩ := eb0.c3 0 1 2
      obtain ⟨ec3, ec4, ec5⟩ := eb0.c3 3 4 5
      have ec6 := eb0.cell 6 rfl
      clear h; go_simp
      exact k _ _ P0
    · refine sr rfl fun av wq hUw h K k => ?_
      have eh48 := h.A 0 48
      have hEw := hE.up hUw
      clear h; go_simp
      refine (slip_kind_err p1 p2 p3 po s1 s2 s3 e wq hEw HE.out HC.out).mono ?_
      rintro _ w2 ⟨rfl, hX⟩
      exact k _ _ (PD hX)
    · refine sr rfl fun av wq hUw h K k => ?_
      have eh49 := h.A 1 49
      clear h; go_simp
      exact k _ _ P0
    · refine sr rfl fun av wq hUw h K k => ?_
      have eh47 := h.A 2 47
      clear h; go_simp
      exact k _ _ P0
    · refine sr rfl fun av wq hUw h K k => ?_
      have eh47 := h.A 2 47
      clear h; go_simp
      exact k _ _ P0
    · refine sr rfl fun av wq hUw h K k => ?_
      have eh50 := h.A 3 50
      clear h; go_simp
      exact k _ _ P0
    · refine sr rfl fun av wq hUw h K k => ?_
      have eh51 := h.A 4 51
      clear h; go_simp
      exact k _ _ P0
  refine end_of fun bt7 ac7 wd7 d7 z7 hU7 v7 g7 => ?_
  replace d7 := d7.trans d6; replace z7 := z7.trans z6
  clear d6 z6
  refine hK9 _ _ ?_
  refine wp_seq_k fun K10 hK10 => ?_
  refine region_line 100 (dso [53, 54, 52, 55, 56, 9, 10]) [999, 999, 999, 999, 999, 999, 999] [0, 0, 0, 0, 0, 0, 0] [] []
   [fun _ => .agg #[.string p1, .string p2, .string p3, .string po, .string s1, .string s2, .string s3], fun _ => .tuple #[.string ⟨#[]⟩, .int .i64 e], fun _ => .tuple #[.string ⟨#[]⟩, .int .i64 e], fun _ => .string ⟨#[]⟩, fun _ => .int .i64 e, fun _ => .string ⟨#[]⟩, fun _ => .int .i64 e]
   [T0, T0, T0, T0, T0, T0, T0]
   [] [(bt1 0), (bt2 8)] w z7 (by kernel_rfl) ⟨loc_true, loc_true, loc_true, loc_true, loc_true, loc_true, loc_true, trivial⟩ trivial g7.B g7.N hU7 (allG_of trivial) (fun β hβ => ?_) ?_
  · refine sc ?_ (sc ?_ (sc ?_ (sc ?_ (sc ?_ (sc ?_ (sc ?_ (sn)))))))
    · refine sr rfl fun av wq hUw h K k => ?_
      have eh1 := h.B 1 ((v7 1 rfl).trans ((v6 1 rfl).trans ((v5 1 rfl).trans ((v4 1 rfl).trans ((v3 1 rfl).trans ((v2 1 rfl).trans (g1.T 0 1)))))))
      have eb0 := ((g1.f 0 rfl rfl rfl rfl).up ((((((g2.W rfl).trans (g3.W rfl)).trans (g4.W rfl)).trans (g5.W rfl)).trans (g6.W rfl)).trans (g7.W rfl))).up (h.W rfl)
      obtain ⟨ec0, ec1, ec2⟩ := eb0.c3 0 1 2
      obtain ⟨ec3, ec4, ec5⟩ := eb0.c3 3 4 5
      have ec6 := eb0.cell 6 rfl
      clear h; go_simp
      exact k _ _ P0
    · refine sr rfl fun av wq hUw h K k => ?_
      have eh53 := h.A 0 53
      have hEw := hE.up hUw
      clear h; go_simp
      refine (slip_throw_err p1 p2 p3 po s1 s2 s3 e wq hEw HE.out HC.out).mono ?_
      rintro _ w2 ⟨rfl, hX⟩
      exact k _ _ (PD hX)
    · refine sr rfl fun av wq hUw h K k => ?_
      have eh54 := h.A 1 54
      clear h; go_simp
      exact k _ _ P0
    · refine sr rfl fun av wq hUw h K k => ?_
      have eh52 := h.A 2 52
      clear h; go_simp
      exact k _ _ P0
    · refine sr rfl fun av wq hUw h K k => ?_
      have eh52 := h.A 2 52
      clear h; go_simp
      exact k _ _ P0
    · refine sr rfl fun av wq hUw h K k => ?_
      have eh55 := h.A 3 55
      clear h; go_simp
      exact k _ _ P0
    · refine sr rfl fun av wq hUw h K k => ?_
      have eh56 := h.A 4 56
      clear h; go_simp
      exact k _ _ P0
  refine end_of fun bt8 ac8 wd8 d8 z8 hU8 v8 g8 => ?_
  replace d8 := d8.trans d7; replace z8 := z8.trans z7
  clear d7 z7
  refine hK10 _ _ ?_
  refine wp_seq_k fun K11 hK11 => ?_
  refine region_line 100 (dso [58, 59, 57, 60, 61, 11, 12]) [999, 999, 999, 999, 999, 999, 999] [0, 0, 0, 0, 0, 0, 0] [] []
   [fun _ => .agg #[.string p1, .string p2, .string p3, .string po, .string s1, .string s2, .string s3], fun _ => .tuple #[.string ⟨#[]⟩, .int .i64 e], fun _ => .tuple #[.string ⟨#[]⟩, .int .i64 e], fun _ => .string ⟨#[]⟩, fun _ => .int .i64 e, fun _ => .string ⟨#[]⟩, fun _ => .int .i64 e]
   [T0, T0, T0, T0, T0, T0, T0]
   [] [(bt1 0), (bt2 8)] w z8 (by kernel_rfl) ⟨loc_true, loc_true, loc_true, loc_true, loc_true, loc_true, loc_true, trivial⟩ trivial g8.B g8.N hU8 (allG_of trivial) (fun β hβ => ?_) ?_
  · refine sc ?_ (sc ?_ (sc ?_ (sc ?_ (sc ?_ (sc ?_ (sc ?_ (sn)))))))
    · refine sr rfl fun av wq hUw h K k => ?_
      have eh1 := h.B 1 ((v8 1 rfl).trans ((v7 1 rfl).trans ((v6 1 rfl).trans ((v5 1 rfl).trans ((v4 1 rfl).trans ((v3 1 rfl).trans ((v2 1 rfl).trans (g1.T 0 1))))))))
      have eb0 := ((g1.f 0 rfl rfl rfl rfl).up (((((((g2.W rfl).trans (g3.W rfl)).trans (g4.W rfl)).trans (g5.W rfl)).trans (g6.W rfl)).trans (g7.W rfl)).trans (g8.W rfl))).up (h.W rfl)
      obtain ⟨ec0, ec1, ec2⟩ := eb0.c3 0 1 2
      obtain ⟨ec3, ec4, ec5⟩ := eb0.c3 3 4 5
      have ec6 := eb0.cell 6 rfl
      clear h; go_simp
      exact k _ _ P0
    · refine sr rfl fun av wq hUw h K k => ?_
      have eh58 := h.A 0 58
      have hEw := hE.up hUw
      clear h; go_simp
      refine (slip_heave_err p1 p2 p3 po s1 s2 s3 e wq hEw HE.out HC.out).mono ?_
      rintro _ w2 ⟨rfl, hX⟩
      exact k _ _ (PD hX)
    · refine sr rfl fun av wq hUw h K k => ?_
      have eh59 := h.A 1 59
      clear h; go_simp
      exact k _ _ P0
    · refine sr rfl fun av wq hUw h K k => ?_
      have eh57 := h.A 2 57
      clear h; go_simp
      exact k _ _ P0
    · refine sr rfl fun av wq hUw h K k => ?_
      have eh57 := h.A 2 57
      clear h; go_simp
      exact k _ _ P0
    · refine sr rfl fun av wq hUw h K k => ?_
      have eh60 := h.A 3 60
      clear h; go_simp
      exact k _ _ P0
    · refine sr rfl fun av wq hUw h K k => ?_
      have eh61 := h.A 4 61
      clear h; go_simp
      exact k _ _ P0
  refine end_of fun bt9 ac9 wd9 d9 z9 hU9 v9 g9 => ?_
  replace d9 := d9.trans d8; replace z9 := z9.trans z8
  clear d8 z8
  refine hK11 _ _ ?_
  refine wp_seq_k fun K12 hK12 => ?_
  refine region_line 100 (dso [62, 63, 64, 65, 66, 67, 68, 69, 70, 71, 72, 73, 74, 75, 76, 77, 78, 79, 80, 81, 82, 83, 84, 85, 86, 87, 88, 89, 90, 91, 92, 93, 94, 95, 96, 97, 98, 99, 2]) [999, 999, 999, 999, 999, 999, 999, 999, 999, 999, 999, 999, 999, 999, 999, 999, 999, 999, 999, 999, 999, 999, 999, 999, 999, 999, 999, 999, 999, 999, 999, 999, 999, 999, 999, 999, 999, 999, 999] [0, 0, 0, 0, 0, 0, 0, 0, 0, 0, 0, 0, 0, 0, 0, 0, 0, 0, 0, 0, 0, 0, 0, 0, 0, 0, 0, 0, 0, 0, 0, 0, 0, 0, 0, 0, 0, 0, 0] [] []
   [fun _ => .int .i64 e, fun _ => .int .i64 e, fun _ => .bool true, fun _ => .bool true, fun _ => .int .i64 e, fun _ => .int .i64 e, fun _ => .bool true, fun _ => .bool true, fun _ => .bool true, fun _ => .int .i64 e, fun _ => .int .i64 e, fun _ => .bool true, fun _ => .bool true, fun _ => .bool true, fun _ => .int .i64 e, fun _ => .int .i64 e, fun _ => .bool true, fun _ => .bool true, fun _ => .bool true, fun _ => .string ⟨#[]⟩, fun _ => .bool true, fun _ => .bool true, fun _ => .bool true, fun _ => .string ⟨#[]⟩, fun _ => .bool true, fun _ => .bool true, fun _ => .bool true, fun _ => .string ⟨#[]⟩, fun _ => .bool true, fun _ => .bool true, fun _ => .bool true, fun _ => .string ⟨#[]⟩, fun _ => .bool true, fun _ => .bool true, fun _ => .bool true, fun _ => .int .i64 0, fun _ => .bool true, fun _ => .bool true, fun _ => .bool true]
   [T0, T0, T0, T0, T0, T0, T0, T0, T0, T0, T0, T0, T0, T0, T0, T0, T0, T0, T0, T0, T0, T0, T0, T0, T0, T0, T0, T0, T0, T0, T0, T0, T0, T0, T0, T0, T0, T0, T0]
   [] [(bt1 0), (bt2 8)] w z9 (by kernel_rfl) ⟨loc_true, loc_true, loc_true, loc_true, loc_true, loc_true, loc_true, loc_true, loc_true, loc_true, loc_true, loc_true, loc_true, loc_true, loc_true, loc_true, loc_true, loc_true, loc_true, loc_true, loc_true, loc_true, loc_true, loc_true, loc_true, loc_true, loc_true, loc_true, loc_true, loc_true, loc_true, loc_true, loc_true, loc_true, loc_true, loc_true, loc_true, loc_true, loc_true, trivial⟩ trivial g9.B g9.N hU9 (allG_of trivial) (fun β hβ => ?_) ?_
  · refine sc ?_ (sc ?_ (sc ?_ (sc ?_ (sc ?_ (sc ?_ (sc ?_ (sc ?_ (sc ?_ (sc ?_ (sc ?_ (sc ?_ (sc ?_ (sc ?_ (sc ?_ (sc ?_ (sc ?_ (sc ?_ (sc ?_ (sc ?_ (sc ?_ (sc ?_ (sc ?_ (sc ?_ (sc ?_ (sc ?_ (sc ?_ (sc ?_ (sc ?_ (sc ?_ (sc ?_ (sc ?_ (sc ?_ (sc ?_ (sc ?_ (sc ?_ (sc ?_ (sc ?_ (sc ?_ (sn)))))))))))))))))))))))))))))))))))))))
    · refine sr rfl fun av wq hUw h K k => ?_
      have eh6 := h.B 6 ((v9 6 rfl).trans ((v8 6 rfl).trans ((v7 6 rfl).trans (g6.T 8 6))))
      clear h; go_simp
      exact k _ _ P0
    · refine sr rfl fun av wq hUw h K k => ?_
      have eh3 := h.B 3 ((v9 3 rfl).trans ((v8 3 rfl).trans ((v7 3 rfl).trans ((v6 3 rfl).trans ((v5 3 rfl).trans ((v4 3 rfl).trans (g3.T 2 3)))))))
      clear h; go_simp
      exact k _ _ P0
    · refine sr rfl fun av wq hUw h K k => ?_
      have eh62 := h.A 0 62
      have eh63 := h.A 1 63
      clear h; go_simp
      exact k _ _ P0
    · refine sr rfl fun av wq hUw h K k => ?_
      have eh64 := h.A 2 64
      clear h; go_simp
      exact k _ _ P0
    · refine sg (t := 65) rfl rfl fun av wq hUw h => ⟨h.A 3 65, fun K k => ?_⟩
      have eh8 := h.B 8 ((v9 8 rfl).trans ((v8 8 rfl).trans (g7.T 6 8)))
      clear h; go_simp
      exact k _ _ P0
    · refine sg (t := 65) rfl rfl fun av wq hUw h => ⟨h.A 3 65, fun K k => ?_⟩
      have eh3 := h.B 3 ((v9 3 rfl).trans ((v8 3 rfl).trans ((v7 3 rfl).trans ((v6 3 rfl).trans ((v5 3 rfl).trans ((v4 3 rfl).trans (g3.T 2 3)))))))
      clear h; go_simp
      exact k _ _ P0
    · refine sg (t := 65) rfl rfl fun av wq hUw h => ⟨h.A 3 65, fun K k => ?_⟩
      have eh66 := h.A 4 66
      have eh67 := h.A 5 67
      clear h; go_simp
      exact k _ _ P0
    · refine sr rfl fun av wq hUw h K k => ?_
      have eh65 := h.A 3 65
      have eh68 := h.A 6 68
      clear h; go_simp
      exact k _ _ P0
    · refine sr rfl fun av wq hUw h K k => ?_
      have eh69 := h.A 7 69
      clear h; go_simp
      exact k _ _ P0
    · refine sg (t := 70) rfl rfl fun av wq hUw h => ⟨h.A 8 70, fun K k => ?_⟩
      have eh10 := h.B 10 ((v9 10 rfl).trans (g8.T 6 10))
      clear h; go_simp
      exact k _ _ P0
    · refine sg (t := 70) rfl rfl fun av wq hUw h => ⟨h.A 8 70, fun K k => ?_⟩
      have eh3 := h.B 3 ((v9 3 rfl).trans ((v8 3 rfl).trans ((v7 3 rfl).trans ((v6 3 rfl).trans ((v5 3 rfl).trans ((v4 3 rfl).trans (g3.T 2 3)))))))
      clear h; go_simp
      exact k _ _ P0
    · refine sg (t := 70) rfl rfl fun av wq hUw h => ⟨h.A 8 70, fun K k => ?_⟩
      have eh71 := h.A 9 71
      have eh72 := h.A 10 72
      clear h; go_simp
      exact k _ _ P0
    · refine sr rfl fun av wq hUw h K k => ?_
      have eh70 := h.A 8 70
      have eh73 := h.A 11 73
      clear h; go_simp
      exact k _ _ P0
    · refine sr rfl fun av wq hUw h K k => ?_
      have eh74 := h.A 12 74
      clear h; go_simp
      exact k _ _ P0
    · refine sg (t := 75) rfl rfl fun av wq hUw h => ⟨h.A 13 75, fun K k => ?_⟩
      have eh12 := h.B 12 (g9.T 6 12)
      clear h; go_simp
      exact k _ _ P0
    · refine sg (t := 75) rfl rfl fun av wq hUw h => ⟨h.A 13 75, fun K k => ?_⟩
      have eh3 := h.B 3 ((v9 3 rfl).trans ((v8 3 rfl).trans ((v7 3 rfl).trans ((v6 3 rfl).trans ((v5 3 rfl).trans ((v4 3 rfl).trans (g3.T 2 3)))))))
      clear h; go_simp
      exact k _ _ P0
    · refine sg (t := 75) rfl rfl fun av wq hUw h => ⟨h.A 13 75, fun K k => ?_⟩
      have eh76 := h.A 14 76
      have eh77 := h.A 15 77
      clear h; go_simp
      exact k _ _ P0
    · refine sr rfl fun av wq hUw h K k => ?_
      have eh75 := h.A 13 75
      have eh78 := h.A 16 78
      clear h; go_simp
      exact k _ _ P0
    · refine sr rfl fun av wq hUw h K k => ?_
      have eh79 := h.A 17 79
      clear h; go_simp
      exact k _ _ P0
    · refine sg (t := 80) rfl rfl fun av wq hUw h => ⟨h.A 18 80, fun K k => ?_⟩
      have eh4 := h.B 4 ((v9 4 rfl).trans ((v8 4 rfl).trans ((v7 4 rfl).trans (g6.T 6 4))))
      clear h; go_simp
      exact k _ _ P0
    · refine sg (t := 80) rfl rfl fun av wq hUw h => ⟨h.A 18 80, fun K k => ?_⟩
      have eh81 := h.A 19 81
      clear h; go_simp
      exact k _ _ P0
    · refine sr rfl fun av wq hUw h K k => ?_
      have eh80 := h.A 18 80
      have eh82 := h.A 20 82
      clear h; go_simp
      exact k _ _ P0
    · refine sr rfl fun av wq hUw h K k => ?_
      have eh83 := h.A 21 83
      clear h; go_simp
      exact k _ _ P0
    · refine sg (t := 84) rfl rfl fun av wq hUw h => ⟨h.A 22 84, fun K k => ?_⟩
      have eh5 := h.B 5 ((v9 5 rfl).trans ((v8 5 rfl).trans ((v7 5 rfl).trans (g6.T 7 5))))
      clear h; go_simp
      exact k _ _ P0
    · refine sg (t := 84) rfl rfl fun av wq hUw h => ⟨h.A 22 84, fun K k => ?_⟩
      have eh85 := h.A 23 85
      clear h; go_simp
      exact k _ _ P0
    · refine sr rfl fun av wq hUw h K k => ?_
      have eh84 := h.A 22 84
      have eh86 := h.A 24 86
      clear h; go_simp
      exact k _ _ P0
    · refine sr rfl fun av wq hUw h K k => ?_
      have eh87 := h.A 25 87
      clear h; go_simp
      exact k _ _ P0
    · refine sg (t := 88) rfl rfl fun av wq hUw h => ⟨h.A 26 88, fun K k => ?_⟩
      have eh9 := h.B 9 ((v9 9 rfl).trans (g8.T 5 9))
      clear h; go_simp
      exact k _ _ P0
    · refine sg (t := 88) rfl rfl fun av wq hUw h => ⟨h.A 26 88, fun K k => ?_⟩
      have eh89 := h.A 27 89
      clear h; go_simp
      exact k _ _ P0
    · refine sr rfl fun av wq hUw h K k => ?_
      have eh88 := h.A 26 88
      have eh90 := h.A 28 90
      clear h; go_simp
      exact k _ _ P0
    · refine sr rfl fun av wq hUw h K k => ?_
      have eh91 := h.A 29 91
      clear h; go_simp
      exact k _ _ P0
    · refine sg (t := 92) rfl rfl fun av wq hUw h => ⟨h.A 30 92, fun K k => ?_⟩
      have eh11 := h.B 11 (g9.T 5 11)
      clear h; go_simp
      exact k _ _ P0
    · refine sg (t := 92) rfl rfl fun av wq hUw h => ⟨h.A 30 92, fun K k => ?_⟩
      have eh93 := h.A 31 93
      clear h; go_simp
      exact k _ _ P0
    · refine sr rfl fun av wq hUw h K k => ?_
      have eh92 := h.A 30 92
      have eh94 := h.A 32 94
      clear h; go_simp
      exact k _ _ P0
    · refine sr rfl fun av wq hUw h K k => ?_
      have eh95 := h.A 33 95
      clear h; go_simp
      exact k _ _ P0
    · refine sg (t := 96) rfl rfl fun av wq hUw h => ⟨h.A 34 96, fun K k => ?_⟩
      have eh7 := h.B 7 ((v9 7 rfl).trans ((v8 7 rfl).trans (g7.T 5 7)))
      clear h; go_simp
      exact k _ _ P0
    · refine sg (t := 96) rfl rfl fun av wq hUw h => ⟨h.A 34 96, fun K k => ?_⟩
      have eh97 := h.A 35 97
      clear h; go_simp
      exact k _ _ P0
    · refine sr rfl fun av wq hUw h K k => ?_
      have eh96 := h.A 34 96
      have eh98 := h.A 36 98
      clear h; go_simp
      exact k _ _ P0
    · refine sr rfl fun av wq hUw h K k => ?_
      have eh99 := h.A 37 99
      clear h; go_simp
      exact k _ _ P0
  refine end_of fun bt10 ac10 wd10 d10 z10 hU10 v10 g10 => ?_
  replace d10 := d10.trans d9; replace z10 := z10.trans z9
  clear d9 z9
  refine hK12 _ _ ?_
  have et2 := g10.T 38 2
  refine wp_ret ?_
  refine bodyPost_ret (v := .bool true) (by simp [results, Tryz.f6, go_sem, et2]) d10 ?_
  exact ⟨rfl, hU10⟩

theorem checks_first2 {p1 p2 p3 po s1 s2 s3 : ByteArray} (hB : (([po] : List ByteArray).all okR && !(([(p1, p2, p3), (s1, s2, s3)] : List Tri).any badV)) = false) : firstE [errN (okV (p1, p2, p3) && okR po), errN (([(s1, s2, s3)] : List Tri).all okV)] = 2 := by
  simp only [List.all_cons, List.all_nil, List.any_cons, List.any_nil, badV] at hB ⊢
  generalize okR po = q0 at *
  generalize okV (p1, p2, p3) = q1 at *
  generalize okV (s1, s2, s3) = q2 at *
  revert q0 q1 q2
  decide
theorem checks_first0 {p1 p2 p3 po s1 s2 s3 : ByteArray} (hB : (([po] : List ByteArray).all okR && !(([(p1, p2, p3), (s1, s2, s3)] : List Tri).any badV)) = true) : firstE [errN (okV (p1, p2, p3) && okR po), errN (([(s1, s2, s3)] : List Tri).all okV)] = 0 := by
  simp only [List.all_cons, List.all_nil, List.any_cons, List.any_nil, badV] at hB ⊢
  generalize okR po = q0 at *
  generalize okV (p1, p2, p3) = q1 at *
  generalize okV (s1, s2, s3) = q2 at *
  revert q0 q1 q2
  decide
theorem checks_right {p1 p2 p3 po s1 s2 s3 : ByteArray} (hB : (([po] : List ByteArray).all okR && !(([(p1, p2, p3), (s1, s2, s3)] : List Tri).any badV)) = true) : okR po = true ∧ okV (p1, p2, p3) = true ∧ okV (s1, s2, s3) = true := by
  simp only [List.all_cons, List.all_nil, List.any_cons, List.any_nil, badV] at hB
  generalize okR po = q0 at *
  generalize okV (p1, p2, p3) = q1 at *
  generalize okV (s1, s2, s3) = q2 at *
  simp at hB
  simp [hB]
theorem law_slip_checks (p1 p2 p3 po s1 s2 s3 : ByteArray) (w : World) (hE : Env w) : Calls Tryz.prog 6 #[.agg #[.string p1, .string p2, .string p3, .string po, .string s1, .string s2, .string s3]] w (Ret w (.bool true)) := by
  cases hL : ([(p1, p2, p3), (s1, s2, s3)] : List Tri).any lgV with
  | true => exact checks_long1 p1 p2 p3 po s1 s2 s3 w hE hL
  | false =>
  by_cases hM : 8 < (po.size : Int)
  · exact checks_long2 p1 p2 p3 po s1 s2 s3 w hE hL hM
  have hL2 := hL
  simp only [List.any_cons, List.any_nil, Bool.or_false, Bool.or_eq_false_iff] at hL2
  obtain ⟨g1, g2⟩ := hL2
  obtain ⟨zp1, zp2, zp3⟩ := lgV_false g1
  obtain ⟨zs1, zs2, zs3⟩ := lgV_false g2
  dsimp only at zp1 zp2 zp3 zs1 zs2 zs3
  have zpo : po.size ≤ 8 := by omega
  cases hB : (([po] : List ByteArray).all okR && !(([(p1, p2, p3), (s1, s2, s3)] : List Tri).any badV)) with
  | false =>
    exact checks_err p1 p2 p3 po s1 s2 s3 2 w hE hL hM (by decide) (fun w hE => slip_check_bad p1 p2 p3 po s1 s2 s3 w hE (by omega) (by omega) (by omega) (by omega) (by omega) (by omega) (by omega) (checks_first2 hB)) (fun w hE => lcheck_bad p1 p2 p3 po s1 s2 s3 w hE (by omega) (by omega) (by omega) (by omega) (by omega) (by omega) (by omega) hB)
  | true =>
  have hF := checks_first0 hB
  obtain ⟨ko, k1, k2⟩ := checks_right hB
  obtain ⟨p1, p2, p3, rfl, rfl, rfl⟩ := okV_rB k1
  obtain ⟨s1, s2, s3, rfl, rfl, rfl⟩ := okV_rB k2
  obtain ⟨po, rfl, _⟩ := okR_rB ko
  have hch := fun w hE => slip_check_rat p1 p2 p3 po s1 s2 s3 w hE (Nat.le_trans (rlen_of8 zp1) (by decide)) (Nat.le_trans (rlen_of8 zp2) (by decide)) (Nat.le_trans (rlen_of8 zp3) (by decide)) (Nat.le_trans (rlen_of8 zpo) (by decide)) (Nat.le_trans (rlen_of8 zs1) (by decide)) (Nat.le_trans (rlen_of8 zs2) (by decide)) (Nat.le_trans (rlen_of8 zs3) (by decide)) hF
  cases hZ : zV (rB p1, rB p2, rB p3) with
  | true =>
    have hA : ([(rB p1, rB p2, rB p3)] : List Tri).any zV = true := by simp only [List.any_cons, List.any_nil, hZ]; rfl
    refine checks_err (rB p1) (rB p2) (rB p3) (rB po) (rB s1) (rB s2) (rB s3) 17 w hE hL hM (by decide) (fun w hE => ?_) (fun w hE => lcheck_zero p1 p2 p3 po s1 s2 s3 w hE (Nat.le_trans (rlen_of8 zp1) (by decide)) (Nat.le_trans (rlen_of8 zp2) (by decide)) (Nat.le_trans (rlen_of8 zp3) (by decide)) (Nat.le_trans (rlen_of8 zpo) (by decide)) (Nat.le_trans (rlen_of8 zs1) (by decide)) (Nat.le_trans (rlen_of8 zs2) (by decide)) (Nat.le_trans (rlen_of8 zs3) (by decide)) hB hZ)
    have h := hch w hE
    rw [hA] at h
    exact h
  | false =>
  have hA : ([(rB p1, rB p2, rB p3)] : List Tri).any zV = false := by simp only [List.any_cons, List.any_nil, hZ]; rfl
  by_cases hd : p1 * s1 + p2 * s2 + p3 * s3 = 0
  · refine checks_ok (rB p1) (rB p2) (rB p3) (rB po) (rB s1) (rB s2) (rB s3) w hE hL hM (fun w hE => ?_) (fun w hE => lcheck_ok p1 p2 p3 po s1 s2 s3 w hE (Nat.le_trans (rlen_of8 zp1) (by decide)) (Nat.le_trans (rlen_of8 zp2) (by decide)) (Nat.le_trans (rlen_of8 zp3) (by decide)) (Nat.le_trans (rlen_of8 zpo) (by decide)) (Nat.le_trans (rlen_of8 zs1) (by decide)) (Nat.le_trans (rlen_of8 zs2) (by decide)) (Nat.le_trans (rlen_of8 zs3) (by decide)) hB hZ hd)
    have h := hch w hE
    rw [hA, if_pos hd] at h
    exact h
  · refine checks_err (rB p1) (rB p2) (rB p3) (rB po) (rB s1) (rB s2) (rB s3) 7 w hE hL hM (by decide) (fun w hE => ?_) (fun w hE => lcheck_form p1 p2 p3 po s1 s2 s3 w hE (Nat.le_trans (rlen_of8 zp1) (by decide)) (Nat.le_trans (rlen_of8 zp2) (by decide)) (Nat.le_trans (rlen_of8 zp3) (by decide)) (Nat.le_trans (rlen_of8 zpo) (by decide)) (Nat.le_trans (rlen_of8 zs1) (by decide)) (Nat.le_trans (rlen_of8 zs2) (by decide)) (Nat.le_trans (rlen_of8 zs3) (by decide)) hB hZ hd)
    have h := hch w hE
    rw [hA, if_neg hd] at h
    exact h
end Go.Proofs.Klp
