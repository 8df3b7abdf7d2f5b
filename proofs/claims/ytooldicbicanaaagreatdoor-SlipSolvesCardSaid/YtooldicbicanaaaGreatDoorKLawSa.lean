/- The law SlipSolves: long texts. -/
import Derived.Test.YtooldicbicanaaaGreatDoorKKnown
namespace Go.Proofs.Klp
open Go.RowKit Go.Shelf
attribute [local go_sem ↓] Go.wp_at_zero Go.wp_at_succ

/-- the greater number, as max is reckoned -/
def mx2 (a b : Int) : Int := if b > a then b else a
theorem mx2_le {a b c : Int} : ¬ c < mx2 a b ↔ ¬ c < a ∧ ¬ c < b := by unfold mx2; split <;> omega

set_option maxRecDepth 100000 in
set_option maxHeartbeats 4000000 in
theorem law_dot (a1 a2 a3 b1 b2 b3 : Rat) (w : World) (hE : Env w) (ra1 : rlen a1 ≤ 1000) (ra2 : rlen a2 ≤ 1000) (ra3 : rlen a3 ≤ 1000) (rb1 : rlen b1 ≤ 1000) (rb2 : rlen b2 ≤ 1000) (rb3 : rlen b3 ≤ 1000) :
    Calls Tryz.prog 17 #[.agg #[.string (rB a1), .string (rB a2), .string (rB a3)], .agg #[.string (rB b1), .string (rB b2), .string (rB b3)]] w (Ret w (.string (rB (((a1 * b1) + (a2 * b2)) + (a3 * b3))))) := by
  obtain ⟨x1, Hx1, rx1⟩ := nmul ra1 rb1
  obtain ⟨x2, Hx2, rx2⟩ := nmul ra2 rb2
  obtain ⟨x3, Hx3, rx3⟩ := nadd rx1.out rx2.out
  obtain ⟨x4, Hx4, rx4⟩ := nmul ra3 rb3
  obtain ⟨x5, Hx5, rx5⟩ := nadd rx3.out rx4.out
  go_enter Tryz.func17, Tryz.ntmps17
  refine enter_abs fun ac0 d0 z0 he0 => ?_
  have hU0 := Up.refl w
  have T0_0 := he0 0 _ rfl
  have T1_0 := he0 1 _ rfl
  replace z0 : ac0.tmps.size = 8 := z0
  clear he0
  refine wp_seq_k fun K0 hK0 => ?_
  refine region_line 8 (dso [2, 3, 4]) [0, 1, 999] [1, 1, 0] [] []
   [fun b => .pointer (some ⟨b, 0, none⟩), fun b => .pointer (some ⟨b, 0, none⟩), fun _ => .string ⟨#[]⟩]
   [Bw [.string (rB a1), .string (rB a2), .string (rB a3)], Bw [.string (rB b1), .string (rB b2), .string (rB b3)], T0]
   [] ([] : List Nat) w z0 (by kernel_rfl) ⟨Bw.loc _, Bw.loc _, loc_true, trivial⟩ trivial (allB_of trivial) List.nodup_nil hU0 (allG_of trivial) (fun β hβ => ?_) ?_
  · refine sc ?_ (sc ?_ (sc ?_ (sn)))
    · refine sr rfl fun av wq hUw h K k => ?_
      have eh0 := h.B 0 T0_0
      clear h; go_simp
      exact k _ _ (PostN rfl rfl rfl rfl rfl)
    · refine sr rfl fun av wq hUw h K k => ?_
      have eh1 := h.B 1 T1_0
      clear h; go_simp
      exact k _ _ (PostN rfl rfl rfl rfl rfl)
    · refine sr rfl fun av wq hUw h K k => ?_
      clear h; go_simp
      exact k _ _ P0
  refine end_of fun bt1 ac1 wd1 d1 z1 hU1 v1 g1 => ?_
  replace d1 := d1.trans d0; replace z1 := z1.trans z0
  clear d0 z0
  refine hK0 _ _ ?_
  refine wp_seq_k fun K1 hK1 => ?_
  refine region_line 8 (dso [5, 6, 7, 4]) [999, 999, 999, 999] [0, 0, 0, 0] [] []
   [fun _ => .agg #[.string (rB a1), .string (rB a2), .string (rB a3)], fun _ => .agg #[.string (rB b1), .string (rB b2), .string (rB b3)], fun _ => .string (rB x5), fun _ => .string (rB x5)]
   [T0, T0, T0, T0]
   [] [(bt1 0), (bt1 1)] w z1 (by kernel_rfl) ⟨loc_true, loc_true, loc_true, loc_true, trivial⟩ trivial g1.B g1.N hU1 (allG_of trivial) (fun β hβ => ?_) ?_
  · refine sc ?_ (sc ?_ (sc ?_ (sc ?_ (sn))))
    · refine sr rfl fun av wq hUw h K k => ?_
      have eh2 := h.B 2 (g1.T 0 2)
      have eb0 := (g1.f 0 rfl rfl rfl rfl).up (h.W rfl)
      obtain ⟨ec0, ec1, ec2⟩ := eb0.c3 0 1 2
      clear h; go_simp
      exact k _ _ P0
    · refine sr rfl fun av wq hUw h K k => ?_
      have eh3 := h.B 3 (g1.T 1 3)
      have eb0 := (g1.f 1 rfl rfl rfl rfl).up (h.W rfl)
      obtain ⟨ec0, ec1, ec2⟩ := eb0.c3 0 1 2
      clear h; go_simp
      exact k _ _ P0
    · refine sr rfl fun av wq hUw h K k => ?_
      have eh5 := h.A 0 5
      have eh6 := h.A 1 6
      have hEw := hE.up hUw
      have hcc := r10_dot a1 a2 a3 b1 b2 b3 wq hEw ⟨(Nat.le_trans ra1 (by decide)), (Nat.le_trans ra2 (by decide)), (Nat.le_trans ra3 (by decide))⟩ ⟨(Nat.le_trans rb1 (by decide)), (Nat.le_trans rb2 (by decide)), (Nat.le_trans rb3 (by decide))⟩
      rw [← Hx1.out, ← Hx2.out, ← Hx3.out, ← Hx4.out, ← Hx5.out] at hcc
      clear h; go_simp
      refine (hcc).mono ?_
      rintro _ w2 ⟨rfl, hX⟩
      exact k _ _ (PD hX)
    · refine sr rfl fun av wq hUw h K k => ?_
      have eh7 := h.A 2 7
      clear h; go_simp
      exact k _ _ P0
  refine end_of fun bt2 ac2 wd2 d2 z2 hU2 v2 g2 => ?_
  replace d2 := d2.trans d1; replace z2 := z2.trans z1
  clear d1 z1
  refine hK1 _ _ ?_
  have et4 := g2.T 3 4
  refine wp_ret ?_
  refine bodyPost_ret (v := .string (rB x5)) (by simp [results, Tryz.f17, go_sem, et4]) d2 ?_
  exact ⟨by simp only [Hx5.out, Hx3.out, Hx1.out, Hx2.out, Hx4.out], hU2⟩

set_option maxRecDepth 100000 in
set_option maxHeartbeats 4000000 in
theorem solves_long1 (f1 f2 f3 fo a1 a2 a3 ao b1 b2 b3 bo am bm : ByteArray) (w : World) (hE : Env w) (hL : ([(f1, f2, f3), (a1, a2, a3), (b1, b2, b3)] : List Tri).any lgV = true) :
    Calls Tryz.prog 3 #[.agg #[.string f1, .string f2, .string f3, .string fo, .string a1, .string a2, .string a3, .string ao, .string b1, .string b2, .string b3, .string bo], .agg #[.string am, .string bm]] w (Ret w (.bool true)) := by
  have HL := Lib.hid hL
  clear hL
  go_enter Tryz.func3, Tryz.ntmps3
  refine enter_abs fun ac0 d0 z0 he0 => ?_
  have hU0 := Up.refl w
  have T0_0 := he0 0 _ rfl
  have T1_0 := he0 1 _ rfl
  replace z0 : ac0.tmps.size = 163 := z0
  clear he0
  refine wp_seq_k fun K0 hK0 => ?_
  refine region_line 163 (dso [2, 3, 4]) [0, 1, 999] [1, 1, 0] [] []
   [fun b => .pointer (some ⟨b, 0, none⟩), fun b => .pointer (some ⟨b, 0, none⟩), fun _ => .bool false]
   [Bw [.string f1, .string f2, .string f3, .string fo, .string a1, .string a2, .string a3, .string ao, .string b1, .string b2, .string b3, .string bo], Bw [.string am, .string bm], T0]
   [] ([] : List Nat) w z0 (by kernel_rfl) ⟨Bw.loc _, Bw.loc _, loc_true, trivial⟩ trivial (allB_of trivial) List.nodup_nil hU0 (allG_of trivial) (fun β hβ => ?_) ?_
  · refine sc ?_ (sc ?_ (sc ?_ (sn)))
    · refine sr rfl fun av wq hUw h K k => ?_
      have eh0 := h.B 0 T0_0
      clear h; go_simp
      exact k _ _ (PostN rfl rfl rfl rfl rfl)
    · refine sr rfl fun av wq hUw h K k => ?_
      have eh1 := h.B 1 T1_0
      clear h; go_simp
      exact k _ _ (PostN rfl rfl rfl rfl rfl)
    · refine sr rfl fun av wq hUw h K k => ?_
      clear h; go_simp
      exact k _ _ P0
  refine end_of fun bt1 ac1 wd1 d1 z1 hU1 v1 g1 => ?_
  replace d1 := d1.trans d0; replace z1 := z1.trans z0
  clear d0 z0
  refine hK0 _ _ ?_
  refine wp_seq_k fun K1 hK1 => ?_
  refine wp_seq_k fun K2 hK2 => ?_
  refine region_line 163 (dso [10, 11, 12, 13, 14, 15, 16, 17, 18, 19, 20, 21, 22, 23, 24, 25, 26, 27, 28, 29, 30, 31, 32, 33, 34, 35, 36, 37, 38, 39, 40, 41, 42, 43, 44, 45, 46, 47]) [999, 999, 999, 999, 999, 999, 999, 999, 999, 999, 999, 999, 12, 999, 999, 999, 999, 999, 999, 999, 999, 999, 999, 999, 999, 999, 999, 999, 999, 999, 999, 999, 999, 999, 999, 999, 999, 999] [0, 0, 0, 0, 0, 0, 0, 0, 0, 0, 0, 0, 1, 0, 0, 0, 0, 0, 0, 0, 0, 0, 0, 0, 0, 0, 0, 0, 0, 0, 0, 0, 0, 0, 0, 0, 0, 0] [] []
   [fun _ => .bool true, fun _ => .bool false, fun _ => .bool false, fun _ => .pointer (some ⟨(bt1 0), 0, none⟩), fun _ => .pointer (some ⟨(bt1 0), 0, none⟩), fun _ => .agg #[.string f1, .string f2, .string f3], fun _ => .pointer (some ⟨(bt1 0), 4, none⟩), fun _ => .pointer (some ⟨(bt1 0), 4, none⟩), fun _ => .agg #[.string a1, .string a2, .string a3], fun _ => .pointer (some ⟨(bt1 0), 8, none⟩), fun _ => .pointer (some ⟨(bt1 0), 8, none⟩), fun _ => .agg #[.string b1, .string b2, .string b3], fun b => .slice (some ⟨b, 0, none⟩) 3 3, fun _ => .bool false, fun _ => .bool true, fun _ => .bool true, fun _ => .bool true, fun _ => undef, fun _ => undef, fun _ => undef, fun _ => undef, fun _ => undef, fun _ => undef, fun _ => undef, fun _ => undef, fun _ => undef, fun _ => undef, fun _ => undef, fun _ => undef, fun _ => undef, fun _ => undef, fun _ => undef, fun _ => undef, fun _ => undef, fun _ => undef, fun _ => undef, fun _ => undef, fun _ => .bool true]
   [T0, T0, T0, T0, T0, T0, T0, T0, T0, T0, T0, T0, Bw [.string f1, .string f2, .string f3, .string a1, .string a2, .string a3, .string b1, .string b2, .string b3], T0, T0, T0, T0, T0, T0, T0, T0, T0, T0, T0, T0, T0, T0, T0, T0, T0, T0, T0, T0, T0, T0, T0, T0, T0]
   [] [(bt1 0), (bt1 1)] w z1 (by kernel_rfl) ⟨loc_true, loc_true, loc_true, loc_true, loc_true, loc_true, loc_true, loc_true, loc_true, loc_true, loc_true, loc_true, Bw.loc _, loc_true, loc_true, loc_true, loc_true, loc_true, loc_true, loc_true, loc_true, loc_true, loc_true, loc_true, loc_true, loc_true, loc_true, loc_true, loc_true, loc_true, loc_true, loc_true, loc_true, loc_true, loc_true, loc_true, loc_true, loc_true, trivial⟩ trivial g1.B g1.N hU1 (allG_of trivial) (fun β hβ => ?_) ?_
  · refine sc ?_ (sc ?_ (sc ?_ (sc ?_ (sc ?_ (sc ?_ (sc ?_ (sc ?_ (sc ?_ (sc ?_ (sc ?_ (sc ?_ (sc ?_ (sc ?_ (sc ?_ (sc ?_ (sc ?_ (sc ?_ (sc ?_ (sc ?_ (sc ?_ (sc ?_ (sc ?_ (sc ?_ (sc ?_ (sc ?_ (sc ?_ (sc ?_ (sc ?_ (sc ?_ (sc ?_ (sc ?_ (sc ?_ (sc ?_ (sc ?_ (sc ?_ (sc ?_ (sc ?_ (sn))))))))))))))))))))))))))))))))))))))
    · refine sr rfl fun av wq hUw h K k => ?_
      have hEw := hE.up hUw
      clear h; go_simp
      refine (law_known wq hEw).mono ?_
      rintro _ w2 ⟨rfl, hX⟩
      exact k _ _ (PD hX)
    · refine sr rfl fun av wq hUw h K k => ?_
      have eh10 := h.A 0 10
      clear h; go_simp
      exact k _ _ P0
    · refine sr rfl fun av wq hUw h K k => ?_
      have eh11 := h.A 1 11
      clear h; go_simp
      exact k _ _ P0
    · refine sg (t := 12) rfl rfl fun av wq hUw h => ⟨h.A 2 12, fun K k => ?_⟩
      have eh2 := h.B 2 (g1.T 0 2)
      clear h; go_simp
      exact k _ _ P0
    · refine sg (t := 12) rfl rfl fun av wq hUw h => ⟨h.A 2 12, fun K k => ?_⟩
      have eh13 := h.A 3 13
      clear h; go_simp
      exact k _ _ P0
    · refine sg (t := 12) rfl rfl fun av wq hUw h => ⟨h.A 2 12, fun K k => ?_⟩
      have eh14 := h.A 4 14
      have eb0 := (g1.f 0 rfl rfl rfl rfl).up (h.W rfl)
      obtain ⟨ec0, ec1, ec2⟩ := eb0.c3 0 1 2
      clear h; go_simp
      exact k _ _ P0
    · refine sg (t := 12) rfl rfl fun av wq hUw h => ⟨h.A 2 12, fun K k => ?_⟩
      have eh2 := h.B 2 (g1.T 0 2)
      clear h; go_simp
      exact k _ _ P0
    · refine sg (t := 12) rfl rfl fun av wq hUw h => ⟨h.A 2 12, fun K k => ?_⟩
      have eh16 := h.A 6 16
      clear h; go_simp
      exact k _ _ P0
    · refine sg (t := 12) rfl rfl fun av wq hUw h => ⟨h.A 2 12, fun K k => ?_⟩
      have eh17 := h.A 7 17
      have eb0 := (g1.f 0 rfl rfl rfl rfl).up (h.W rfl)
      obtain ⟨ec0, ec1, ec2⟩ := eb0.c3 4 5 6
      clear h; go_simp
      exact k _ _ P0
    · refine sg (t := 12) rfl rfl fun av wq hUw h => ⟨h.A 2 12, fun K k => ?_⟩
      have eh2 := h.B 2 (g1.T 0 2)
      clear h; go_simp
      exact k _ _ P0
    · refine sg (t := 12) rfl rfl fun av wq hUw h => ⟨h.A 2 12, fun K k => ?_⟩
      have eh19 := h.A 9 19
      clear h; go_simp
      exact k _ _ P0
    · refine sg (t := 12) rfl rfl fun av wq hUw h => ⟨h.A 2 12, fun K k => ?_⟩
      have eh20 := h.A 10 20
      have eb0 := (g1.f 0 rfl rfl rfl rfl).up (h.W rfl)
      obtain ⟨ec0, ec1, ec2⟩ := eb0.c3 8 9 10
      clear h; go_simp
      exact k _ _ P0
    · refine sg (t := 12) rfl rfl fun av wq hUw h => ⟨h.A 2 12, fun K k => ?_⟩
      have eh15 := h.A 5 15
      have eh18 := h.A 8 18
      have eh21 := h.A 11 21
      clear h; go_simp
      exact k _ _ (PostN rfl rfl rfl rfl rfl)
    · refine sg (t := 12) rfl rfl fun av wq hUw h => ⟨h.A 2 12, fun K k => ?_⟩
      have eh22 := h.A 12 22
      have hEw := hE.up hUw
      have eb1 := h.F 12
      have hmeb1 := Bw.slv (L := [(f1, f2, f3), (a1, a2, a3), (b1, b2, b3)]) eb1 rfl
      have hkn : ([(f1, f2, f3), (a1, a2, a3), (b1, b2, b3)] : List Tri).any lgV = true := HL.out
      have hcc := law_brief [(f1, f2, f3), (a1, a2, a3), (b1, b2, b3)] (β 12) 3 wq hEw hmeb1 rfl (by decide)
      rw [hkn] at hcc
      clear hkn
      clear h; go_simp
      refine (hcc).mono ?_
      rintro _ w2 ⟨rfl, hX⟩
      exact k _ _ (PD hX)
    · refine sg (t := 12) rfl rfl fun av wq hUw h => ⟨h.A 2 12, fun K k => ?_⟩
      have eh23 := h.A 13 23
      clear h; go_simp
      exact k _ _ P0
    · refine sr rfl fun av wq hUw h K k => ?_
      have eh12 := h.A 2 12
      have eh24 := h.A 14 24
      clear h; go_simp
      exact k _ _ P0
    · refine sr rfl fun av wq hUw h K k => ?_
      have eh25 := h.A 15 25
      clear h; go_simp
      exact k _ _ P0
    · exact sk (t := 26) rfl rfl (c := true) rfl rfl rfl rfl fun _ h => h 16 26 rfl rfl rfl
    · exact sk (t := 26) rfl rfl (c := true) rfl rfl rfl rfl fun _ h => h 16 26 rfl rfl rfl
    · exact sk (t := 26) rfl rfl (c := true) rfl rfl rfl rfl fun _ h => h 16 26 rfl rfl rfl
    · exact sk (t := 26) rfl rfl (c := true) rfl rfl rfl rfl fun _ h => h 16 26 rfl rfl rfl
    · exact sk (t := 26) rfl rfl (c := true) rfl rfl rfl rfl fun _ h => h 16 26 rfl rfl rfl
    · exact sk (t := 26) rfl rfl (c := true) rfl rfl rfl rfl fun _ h => h 16 26 rfl rfl rfl
    · exact sk (t := 26) rfl rfl (c := true) rfl rfl rfl rfl fun _ h => h 16 26 rfl rfl rfl
    · exact sk (t := 26) rfl rfl (c := true) rfl rfl rfl rfl fun _ h => h 16 26 rfl rfl rfl
    · exact sk (t := 26) rfl rfl (c := true) rfl rfl rfl rfl fun _ h => h 16 26 rfl rfl rfl
    · exact sk (t := 26) rfl rfl (c := true) rfl rfl rfl rfl fun _ h => h 16 26 rfl rfl rfl
    · exact sk (t := 26) rfl rfl (c := true) rfl rfl rfl rfl fun _ h => h 16 26 rfl rfl rfl
    · exact sk (t := 26) rfl rfl (c := true) rfl rfl rfl rfl fun _ h => h 16 26 rfl rfl rfl
    · exact sk (t := 26) rfl rfl (c := true) rfl rfl rfl rfl fun _ h => h 16 26 rfl rfl rfl
    · exact sk (t := 26) rfl rfl (c := true) rfl rfl rfl rfl fun _ h => h 16 26 rfl rfl rfl
    · exact sk (t := 26) rfl rfl (c := true) rfl rfl rfl rfl fun _ h => h 16 26 rfl rfl rfl
    · exact sk (t := 26) rfl rfl (c := true) rfl rfl rfl rfl fun _ h => h 16 26 rfl rfl rfl
    · exact sk (t := 26) rfl rfl (c := true) rfl rfl rfl rfl fun _ h => h 16 26 rfl rfl rfl
    · exact sk (t := 26) rfl rfl (c := true) rfl rfl rfl rfl fun _ h => h 16 26 rfl rfl rfl
    · exact sk (t := 26) rfl rfl (c := true) rfl rfl rfl rfl fun _ h => h 16 26 rfl rfl rfl
    · exact sk (t := 26) rfl rfl (c := true) rfl rfl rfl rfl fun _ h => h 16 26 rfl rfl rfl
    · refine sr rfl fun av wq hUw h K k => ?_
      have eh26 := h.A 16 26
      have eh46 := h.A 36 46
      clear h; go_simp
      exact k _ _ P0
  refine end_of fun bt2 ac2 wd2 d2 z2 hU2 v2 g2 => ?_
  replace d2 := d2.trans d1; replace z2 := z2.trans z1
  clear d1 z1
  refine hK2 _ _ ?_
  refine wp_cond_true (eval_of (g2.T 37 47)) ?_
  refine wp_seq_k fun K3 hK3 => ?_
  refine region_line 163 (dso [48, 4]) [999, 999] [0, 0] [] []
   [fun _ => .bool true, fun _ => .bool true]
   [T0, T0]
   [] [(bt1 0), (bt1 1), (bt2 12)] w z2 (by kernel_rfl) ⟨loc_true, loc_true, trivial⟩ trivial g2.B g2.N hU2 (allG_of trivial) (fun β hβ => ?_) ?_
  · refine sc ?_ (sc ?_ (sn))
    · refine sr rfl fun av wq hUw h K k => ?_
      have hEw := hE.up hUw
      clear h; go_simp
      refine (law_known wq hEw).mono ?_
      rintro _ w2 ⟨rfl, hX⟩
      exact k _ _ (PD hX)
    · refine sr rfl fun av wq hUw h K k => ?_
      have eh48 := h.A 0 48
      clear h; go_simp
      exact k _ _ P0
  refine end_of fun bt3 ac3 wd3 d3 z3 hU3 v3 g3 => ?_
  replace d3 := d3.trans d2; replace z3 := z3.trans z2
  clear d2 z2
  refine hK3 _ _ ?_
  have et4 := g3.T 1 4
  refine wp_ret ?_
  refine then_ret ?_
  refine bodyPost_ret (v := .bool true) (by simp [results, Tryz.f3, go_sem, et4]) d3 ?_
  exact ⟨rfl, hU3⟩

set_option maxRecDepth 100000 in
set_option maxHeartbeats 4000000 in
theorem solves_long2 (f1 f2 f3 fo a1 a2 a3 ao b1 b2 b3 bo am bm : ByteArray) (w : World) (hE : Env w) (hL : ([(f1, f2, f3), (a1, a2, a3), (b1, b2, b3)] : List Tri).any lgV = false) (hM : 8 < mx2 (mx2 (mx2 (mx2 ((fo).size : Int) ((ao).size : Int)) ((bo).size : Int)) ((am).size : Int)) ((bm).size : Int)) :
    Calls Tryz.prog 3 #[.agg #[.string f1, .string f2, .string f3, .string fo, .string a1, .string a2, .string a3, .string ao, .string b1, .string b2, .string b3, .string bo], .agg #[.string am, .string bm]] w (Ret w (.bool true)) := by
  have HL := Lib.hid hL
  have HM := Lib.hid hM
  clear hL hM
  go_enter Tryz.func3, Tryz.ntmps3
  refine enter_abs fun ac0 d0 z0 he0 => ?_
  have hU0 := Up.refl w
  have T0_0 := he0 0 _ rfl
  have T1_0 := he0 1 _ rfl
  replace z0 : ac0.tmps.size = 163 := z0
  clear he0
  refine wp_seq_k fun K0 hK0 => ?_
  refine region_line 163 (dso [2, 3, 4]) [0, 1, 999] [1, 1, 0] [] []
   [fun b => .pointer (some ⟨b, 0, none⟩), fun b => .pointer (some ⟨b, 0, none⟩), fun _ => .bool false]
   [Bw [.string f1, .string f2, .string f3, .string fo, .string a1, .string a2, .string a3, .string ao, .string b1, .string b2, .string b3, .string bo], Bw [.string am, .string bm], T0]
   [] ([] : List Nat) w z0 (by kernel_rfl) ⟨Bw.loc _, Bw.loc _, loc_true, trivial⟩ trivial (allB_of trivial) List.nodup_nil hU0 (allG_of trivial) (fun β hβ => ?_) ?_
  · refine sc ?_ (sc ?_ (sc ?_ (sn)))
    · refine sr rfl fun av wq hUw h K k => ?_
      have eh0 := h.B 0 T0_0
      clear h; go_simp
      exact k _ _ (PostN rfl rfl rfl rfl rfl)
    · refine sr rfl fun av wq hUw h K k => ?_
      have eh1 := h.B 1 T1_0
      clear h; go_simp
      exact k _ _ (PostN rfl rfl rfl rfl rfl)
    · refine sr rfl fun av wq hUw h K k => ?_
      clear h; go_simp
      exact k _ _ P0
  refine end_of fun bt1 ac1 wd1 d1 z1 hU1 v1 g1 => ?_
  replace d1 := d1.trans d0; replace z1 := z1.trans z0
  clear d0 z0
  refine hK0 _ _ ?_
  refine wp_seq_k fun K1 hK1 => ?_
  refine wp_seq_k fun K2 hK2 => ?_
  refine region_line 163 (dso [10, 11, 12, 13, 14, 15, 16, 17, 18, 19, 20, 21, 22, 23, 24, 25, 26, 27, 28, 29, 30, 31, 32, 33, 34, 35, 36, 37, 38, 39, 40, 41, 42, 43, 44, 45, 46, 47]) [999, 999, 999, 999, 999, 999, 999, 999, 999, 999, 999, 999, 12, 999, 999, 999, 999, 999, 999, 999, 999, 999, 999, 999, 999, 999, 999, 999, 999, 999, 999, 999, 999, 999, 999, 999, 999, 999] [0, 0, 0, 0, 0, 0, 0, 0, 0, 0, 0, 0, 1, 0, 0, 0, 0, 0, 0, 0, 0, 0, 0, 0, 0, 0, 0, 0, 0, 0, 0, 0, 0, 0, 0, 0, 0, 0] [] []
   [fun _ => .bool true, fun _ => .bool false, fun _ => .bool false, fun _ => .pointer (some ⟨(bt1 0), 0, none⟩), fun _ => .pointer (some ⟨(bt1 0), 0, none⟩), fun _ => .agg #[.string f1, .string f2, .string f3], fun _ => .pointer (some ⟨(bt1 0), 4, none⟩), fun _ => .pointer (some ⟨(bt1 0), 4, none⟩), fun _ => .agg #[.string a1, .string a2, .string a3], fun _ => .pointer (some ⟨(bt1 0), 8, none⟩), fun _ => .pointer (some ⟨(bt1 0), 8, none⟩), fun _ => .agg #[.string b1, .string b2, .string b3], fun b => .slice (some ⟨b, 0, none⟩) 3 3, fun _ => .bool true, fun _ => .bool false, fun _ => .bool false, fun _ => .bool false, fun _ => .pointer (some ⟨(bt1 0), 0, none⟩), fun _ => .pointer (some ⟨(bt1 0), 3, none⟩), fun _ => .string fo, fun _ => .int .i64 (fo.size : Int), fun _ => .pointer (some ⟨(bt1 0), 4, none⟩), fun _ => .pointer (some ⟨(bt1 0), 7, none⟩), fun _ => .string ao, fun _ => .int .i64 (ao.size : Int), fun _ => .pointer (some ⟨(bt1 0), 8, none⟩), fun _ => .pointer (some ⟨(bt1 0), 11, none⟩), fun _ => .string bo, fun _ => .int .i64 (bo.size : Int), fun _ => .pointer (some ⟨(bt1 1), 0, none⟩), fun _ => .string am, fun _ => .int .i64 (am.size : Int), fun _ => .pointer (some ⟨(bt1 1), 1, none⟩), fun _ => .string bm, fun _ => .int .i64 (bm.size : Int), fun _ => .int .i64 (mx2 (mx2 (mx2 (mx2 (fo.size : Int) (ao.size : Int)) (bo.size : Int)) (am.size : Int)) (bm.size : Int)), fun _ => .bool true, fun _ => .bool true]
   [T0, T0, T0, T0, T0, T0, T0, T0, T0, T0, T0, T0, Bw [.string f1, .string f2, .string f3, .string a1, .string a2, .string a3, .string b1, .string b2, .string b3], T0, T0, T0, T0, T0, T0, T0, T0, T0, T0, T0, T0, T0, T0, T0, T0, T0, T0, T0, T0, T0, T0, T0, T0, T0]
   [] [(bt1 0), (bt1 1)] w z1 (by kernel_rfl) ⟨loc_true, loc_true, loc_true, loc_true, loc_true, loc_true, loc_true, loc_true, loc_true, loc_true, loc_true, loc_true, Bw.loc _, loc_true, loc_true, loc_true, loc_true, loc_true, loc_true, loc_true, loc_true, loc_true, loc_true, loc_true, loc_true, loc_true, loc_true, loc_true, loc_true, loc_true, loc_true, loc_true, loc_true, loc_true, loc_true, loc_true, loc_true, loc_true, trivial⟩ trivial g1.B g1.N hU1 (allG_of trivial) (fun β hβ => ?_) ?_
  · refine sc ?_ (sc ?_ (sc ?_ (sc ?_ (sc ?_ (sc ?_ (sc ?_ (sc ?_ (sc ?_ (sc ?_ (sc ?_ (sc ?_ (sc ?_ (sc ?_ (sc ?_ (sc ?_ (sc ?_ (sc ?_ (sc ?_ (sc ?_ (sc ?_ (sc ?_ (sc ?_ (sc ?_ (sc ?_ (sc ?_ (sc ?_ (sc ?_ (sc ?_ (sc ?_ (sc ?_ (sc ?_ (sc ?_ (sc ?_ (sc ?_ (sc ?_ (sc ?_ (sc ?_ (sn))))))))))))))))))))))))))))))))))))))
    · refine sr rfl fun av wq hUw h K k => ?_
      have hEw := hE.up hUw
      clear h; go_simp
      refine (law_known wq hEw).mono ?_
      rintro _ w2 ⟨rfl, hX⟩
      exact k _ _ (PD hX)
    · refine sr rfl fun av wq hUw h K k => ?_
      have eh10 := h.A 0 10
      clear h; go_simp
      exact k _ _ P0
    · refine sr rfl fun av wq hUw h K k => ?_
      have eh11 := h.A 1 11
      clear h; go_simp
      exact k _ _ P0
    · refine sg (t := 12) rfl rfl fun av wq hUw h => ⟨h.A 2 12, fun K k => ?_⟩
      have eh2 := h.B 2 (g1.T 0 2)
      clear h; go_simp
      exact k _ _ P0
    · refine sg (t := 12) rfl rfl fun av wq hUw h => ⟨h.A 2 12, fun K k => ?_⟩
      have eh13 := h.A 3 13
      clear h; go_simp
      exact k _ _ P0
    · refine sg (t := 12) rfl rfl fun av wq hUw h => ⟨h.A 2 12, fun K k => ?_⟩
      have eh14 := h.A 4 14
      have eb0 := (g1.f 0 rfl rfl rfl rfl).up (h.W rfl)
      obtain ⟨ec0, ec1, ec2⟩ := eb0.c3 0 1 2
      clear h; go_simp
      exact k _ _ P0
    · refine sg (t := 12) rfl rfl fun av wq hUw h => ⟨h.A 2 12, fun K k => ?_⟩
      have eh2 := h.B 2 (g1.T 0 2)
      clear h; go_simp
      exact k _ _ P0
    · refine sg (t := 12) rfl rfl fun av wq hUw h => ⟨h.A 2 12, fun K k => ?_⟩
      have eh16 := h.A 6 16
      clear h; go_simp
      exact k _ _ P0
    · refine sg (t := 12) rfl rfl fun av wq hUw h => ⟨h.A 2 12, fun K k => ?_⟩
      have eh17 := h.A 7 17
      have eb0 := (g1.f 0 rfl rfl rfl rfl).up (h.W rfl)
      obtain ⟨ec0, ec1, ec2⟩ := eb0.c3 4 5 6
      clear h; go_simp
      exact k _ _ P0
    · refine sg (t := 12) rfl rfl fun av wq hUw h => ⟨h.A 2 12, fun K k => ?_⟩
      have eh2 := h.B 2 (g1.T 0 2)
      clear h; go_simp
      exact k _ _ P0
    · refine sg (t := 12) rfl rfl fun av wq hUw h => ⟨h.A 2 12, fun K k => ?_⟩
      have eh19 := h.A 9 19
      clear h; go_simp
      exact k _ _ P0
    · refine sg (t := 12) rfl rfl fun av wq hUw h => ⟨h.A 2 12, fun K k => ?_⟩
      have eh20 := h.A 10 20
      have eb0 := (g1.f 0 rfl rfl rfl rfl).up (h.W rfl)
      obtain ⟨ec0, ec1, ec2⟩ := eb0.c3 8 9 10
      clear h; go_simp
      exact k _ _ P0
    · refine sg (t := 12) rfl rfl fun av wq hUw h => ⟨h.A 2 12, fun K k => ?_⟩
      have eh15 := h.A 5 15
      have eh18 := h.A 8 18
      have eh21 := h.A 11 21
      clear h; go_simp
      exact k _ _ (PostN rfl rfl rfl rfl rfl)
    · refine sg (t := 12) rfl rfl fun av wq hUw h => ⟨h.A 2 12, fun K k => ?_⟩
      have eh22 := h.A 12 22
      have hEw := hE.up hUw
      have eb1 := h.F 12
      have hmeb1 := Bw.slv (L := [(f1, f2, f3), (a1, a2, a3), (b1, b2, b3)]) eb1 rfl
      have hkn : ([(f1, f2, f3), (a1, a2, a3), (b1, b2, b3)] : List Tri).any lgV = false := HL.out
      have hcc := law_brief [(f1, f2, f3), (a1, a2, a3), (b1, b2, b3)] (β 12) 3 wq hEw hmeb1 rfl (by decide)
      rw [hkn] at hcc
      clear hkn
      clear h; go_simp
      refine (hcc).mono ?_
      rintro _ w2 ⟨rfl, hX⟩
      exact k _ _ (PD hX)
    · refine sg (t := 12) rfl rfl fun av wq hUw h => ⟨h.A 2 12, fun K k => ?_⟩
      have eh23 := h.A 13 23
      clear h; go_simp
      exact k _ _ P0
    · refine sr rfl fun av wq hUw h K k => ?_
      have eh12 := h.A 2 12
      have eh24 := h.A 14 24
      clear h; go_simp
      exact k _ _ P0
    · refine sr rfl fun av wq hUw h K k => ?_
      have eh25 := h.A 15 25
      clear h; go_simp
      exact k _ _ P0
    · refine sg (t := 26) rfl rfl fun av wq hUw h => ⟨h.A 16 26, fun K k => ?_⟩
      have eh2 := h.B 2 (g1.T 0 2)
      clear h; go_simp
      exact k _ _ P0
    · refine sg (t := 26) rfl rfl fun av wq hUw h => ⟨h.A 16 26, fun K k => ?_⟩
      have eh27 := h.A 17 27
      clear h; go_simp
      exact k _ _ P0
    · refine sg (t := 26) rfl rfl fun av wq hUw h => ⟨h.A 16 26, fun K k => ?_⟩
      have eh28 := h.A 18 28
      have eb0 := (g1.f 0 rfl rfl rfl rfl).up (h.W rfl)
      have ec0 := eb0.cell 3 rfl
      clear h; go_simp
      exact k _ _ P0
    · refine sg (t := 26) rfl rfl fun av wq hUw h => ⟨h.A 16 26, fun K k => ?_⟩
      have eh29 := h.A 19 29
      clear h; go_simp
      exact k _ _ P0
    · refine sg (t := 26) rfl rfl fun av wq hUw h => ⟨h.A 16 26, fun K k => ?_⟩
      have eh2 := h.B 2 (g1.T 0 2)
      clear h; go_simp
      exact k _ _ P0
    · refine sg (t := 26) rfl rfl fun av wq hUw h => ⟨h.A 16 26, fun K k => ?_⟩
      have eh31 := h.A 21 31
      clear h; go_simp
      exact k _ _ P0
    · refine sg (t := 26) rfl rfl fun av wq hUw h => ⟨h.A 16 26, fun K k => ?_⟩
      have eh32 := h.A 22 32
      have eb0 := (g1.f 0 rfl rfl rfl rfl).up (h.W rfl)
      have ec0 := eb0.cell 7 rfl
      clear h; go_simp
      exact k _ _ P0
    · refine sg (t := 26) rfl rfl fun av wq hUw h => ⟨h.A 16 26, fun K k => ?_⟩
      have eh33 := h.A 23 33
      clear h; go_simp
      exact k _ _ P0
    · refine sg (t := 26) rfl rfl fun av wq hUw h => ⟨h.A 16 26, fun K k => ?_⟩
      have eh2 := h.B 2 (g1.T 0 2)
      clear h; go_simp
      exact k _ _ P0
    · refine sg (t := 26) rfl rfl fun av wq hUw h => ⟨h.A 16 26, fun K k => ?_⟩
      have eh35 := h.A 25 35
      clear h; go_simp
      exact k _ _ P0
    · refine sg (t := 26) rfl rfl fun av wq hUw h => ⟨h.A 16 26, fun K k => ?_⟩
      have eh36 := h.A 26 36
      have eb0 := (g1.f 0 rfl rfl rfl rfl).up (h.W rfl)
      have ec0 := eb0.cell 11 rfl
      clear h; go_simp
      exact k _ _ P0
    · refine sg (t := 26) rfl rfl fun av wq hUw h => ⟨h.A 16 26, fun K k => ?_⟩
      have eh37 := h.A 27 37
      clear h; go_simp
      exact k _ _ P0
    · refine sg (t := 26) rfl rfl fun av wq hUw h => ⟨h.A 16 26, fun K k => ?_⟩
      have eh3 := h.B 3 (g1.T 1 3)
      clear h; go_simp
      exact k _ _ P0
    · refine sg (t := 26) rfl rfl fun av wq hUw h => ⟨h.A 16 26, fun K k => ?_⟩
      have eh39 := h.A 29 39
      have eb0 := (g1.f 1 rfl rfl rfl rfl).up (h.W rfl)
      have ec0 := eb0.cell 0 rfl
      clear h; go_simp
      exact k _ _ P0
    · refine sg (t := 26) rfl rfl fun av wq hUw h => ⟨h.A 16 26, fun K k => ?_⟩
      have eh40 := h.A 30 40
      clear h; go_simp
      exact k _ _ P0
    · refine sg (t := 26) rfl rfl fun av wq hUw h => ⟨h.A 16 26, fun K k => ?_⟩
      have eh3 := h.B 3 (g1.T 1 3)
      clear h; go_simp
      exact k _ _ P0
    · refine sg (t := 26) rfl rfl fun av wq hUw h => ⟨h.A 16 26, fun K k => ?_⟩
      have eh42 := h.A 32 42
      have eb0 := (g1.f 1 rfl rfl rfl rfl).up (h.W rfl)
      have ec0 := eb0.cell 1 rfl
      clear h; go_simp
      exact k _ _ P0
    · refine sg (t := 26) rfl rfl fun av wq hUw h => ⟨h.A 16 26, fun K k => ?_⟩
      have eh43 := h.A 33 43
      clear h; go_simp
      exact k _ _ P0
    · refine sg (t := 26) rfl rfl fun av wq hUw h => ⟨h.A 16 26, fun K k => ?_⟩
      have eh30 := h.A 20 30
      have eh34 := h.A 24 34
      have eh38 := h.A 28 38
      have eh41 := h.A 31 41
      have eh44 := h.A 34 44
      clear h; go_simp
      exact k _ _ P0
    · refine sg (t := 26) rfl rfl fun av wq hUw h => ⟨h.A 16 26, fun K k => ?_⟩
      have eh45 := h.A 35 45
      have hmx := HM.out; have hmy := decide_eq_true hmx
      clear h; go_simp
      exact k _ _ P0
    · refine sr rfl fun av wq hUw h K k => ?_
      have eh26 := h.A 16 26
      have eh46 := h.A 36 46
      clear h; go_simp
      exact k _ _ P0
  refine end_of fun bt2 ac2 wd2 d2 z2 hU2 v2 g2 => ?_
  replace d2 := d2.trans d1; replace z2 := z2.trans z1
  clear d1 z1
  refine hK2 _ _ ?_
  refine wp_cond_true (eval_of (g2.T 37 47)) ?_
  refine wp_seq_k fun K3 hK3 => ?_
  refine region_line 163 (dso [48, 4]) [999, 999] [0, 0] [] []
   [fun _ => .bool true, fun _ => .bool true]
   [T0, T0]
   [] [(bt1 0), (bt1 1), (bt2 12)] w z2 (by kernel_rfl) ⟨loc_true, loc_true, trivial⟩ trivial g2.B g2.N hU2 (allG_of trivial) (fun β hβ => ?_) ?_
  · refine sc ?_ (sc ?_ (sn))
    · refine sr rfl fun av wq hUw h K k => ?_
      have hEw := hE.up hUw
      clear h; go_simp
      refine (law_known wq hEw).mono ?_
      rintro _ w2 ⟨rfl, hX⟩
      exact k _ _ (PD hX)
    · refine sr rfl fun av wq hUw h K k => ?_
      have eh48 := h.A 0 48
      clear h; go_simp
      exact k _ _ P0
  refine end_of fun bt3 ac3 wd3 d3 z3 hU3 v3 g3 => ?_
  replace d3 := d3.trans d2; replace z3 := z3.trans z2
  clear d2 z2
  refine hK3 _ _ ?_
  have et4 := g3.T 1 4
  refine wp_ret ?_
  refine then_ret ?_
  refine bodyPost_ret (v := .bool true) (by simp [results, Tryz.f3, go_sem, et4]) d3 ?_
  exact ⟨rfl, hU3⟩

set_option maxRecDepth 100000 in
set_option maxHeartbeats 4000000 in
theorem solves_bad (f1 f2 f3 fo a1 a2 a3 ao b1 b2 b3 bo am bm : ByteArray) (w : World) (hE : Env w) (hzf1 : f1.size ≤ 1000000000) (hzf2 : f2.size ≤ 1000000000) (hzf3 : f3.size ≤ 1000000000) (hzfo : fo.size ≤ 1000000000) (hza1 : a1.size ≤ 1000000000) (hza2 : a2.size ≤ 1000000000) (hza3 : a3.size ≤ 1000000000) (hzao : ao.size ≤ 1000000000) (hzb1 : b1.size ≤ 1000000000) (hzb2 : b2.size ≤ 1000000000) (hzb3 : b3.size ≤ 1000000000) (hzbo : bo.size ≤ 1000000000) (hzam : am.size ≤ 1000000000) (hzbm : bm.size ≤ 1000000000) (hL : ([(f1, f2, f3), (a1, a2, a3), (b1, b2, b3)] : List Tri).any lgV = false) (hM : ¬ 8 < mx2 (mx2 (mx2 (mx2 ((fo).size : Int) ((ao).size : Int)) ((bo).size : Int)) ((am).size : Int)) ((bm).size : Int)) (hB : (([fo, ao, bo, am, bm] : List ByteArray).all okR && !(([(f1, f2, f3), (a1, a2, a3), (b1, b2, b3)] : List Tri).any badV)) = false) (hF : firstE [errN (okV (f1, f2, f3) && okR fo), errN (okV (a1, a2, a3) && okR ao), errN (([am] : List ByteArray).all okR), errN (okV (b1, b2, b3) && okR bo), errN (([bm] : List ByteArray).all okR)] = 2) :
    Calls Tryz.prog 3 #[.agg #[.string f1, .string f2, .string f3, .string fo, .string a1, .string a2, .string a3, .string ao, .string b1, .string b2, .string b3, .string bo], .agg #[.string am, .string bm]] w (Ret w (.bool true)) := by
  have HL := Lib.hid hL
  have HM := Lib.hid hM
  have HB := Lib.hid hB
  have HF := Lib.hid hF
  clear hL hM hB hF
  go_enter Tryz.func3, Tryz.ntmps3
  refine enter_abs fun ac0 d0 z0 he0 => ?_
  have hU0 := Up.refl w
  have T0_0 := he0 0 _ rfl
  have T1_0 := he0 1 _ rfl
  replace z0 : ac0.tmps.size = 163 := z0
  clear he0
  refine wp_seq_k fun K0 hK0 => ?_
  refine region_line 163 (dso [2, 3, 4]) [0, 1, 999] [1, 1, 0] [] []
   [fun b => .pointer (some ⟨b, 0, none⟩), fun b => .pointer (some ⟨b, 0, none⟩), fun _ => .bool false]
   [Bw [.string f1, .string f2, .string f3, .string fo, .string a1, .string a2, .string a3, .string ao, .string b1, .string b2, .string b3, .string bo], Bw [.string am, .string bm], T0]
   [] ([] : List Nat) w z0 (by kernel_rfl) ⟨Bw.loc _, Bw.loc _, loc_true, trivial⟩ trivial (allB_of trivial) List.nodup_nil hU0 (allG_of trivial) (fun β hβ => ?_) ?_
  · refine sc ?_ (sc ?_ (sc ?_ (sn)))
    · refine sr rfl fun av wq hUw h K k => ?_
      have eh0 := h.B 0 T0_0
      clear h; go_simp
      exact k _ _ (PostN rfl rfl rfl rfl rfl)
    · refine sr rfl fun av wq hUw h K k => ?_
      have eh1 := h.B 1 T1_0
      clear h; go_simp
      exact k _ _ (PostN rfl rfl rfl rfl rfl)
    · refine sr rfl fun av wq hUw h K k => ?_
      clear h; go_simp
      exact k _ _ P0
  refine end_of fun bt1 ac1 wd1 d1 z1 hU1 v1 g1 => ?_
  replace d1 := d1.trans d0; replace z1 := z1.trans z0
  clear d0 z0
  refine hK0 _ _ ?_
  refine wp_seq_k fun K1 hK1 => ?_
  refine wp_seq_k fun K2 hK2 => ?_
  refine region_line 163 (dso [10, 11, 12, 13, 14, 15, 16, 17, 18, 19, 20, 21, 22, 23, 24, 25, 26, 27, 28, 29, 30, 31, 32, 33, 34, 35, 36, 37, 38, 39, 40, 41, 42, 43, 44, 45, 46, 47]) [999, 999, 999, 999, 999, 999, 999, 999, 999, 999, 999, 999, 12, 999, 999, 999, 999, 999, 999, 999, 999, 999, 999, 999, 999, 999, 999, 999, 999, 999, 999, 999, 999, 999, 999, 999, 999, 999] [0, 0, 0, 0, 0, 0, 0, 0, 0, 0, 0, 0, 1, 0, 0, 0, 0, 0, 0, 0, 0, 0, 0, 0, 0, 0, 0, 0, 0, 0, 0, 0, 0, 0, 0, 0, 0, 0] [] []
   [fun _ => .bool true, fun _ => .bool false, fun _ => .bool false, fun _ => .pointer (some ⟨(bt1 0), 0, none⟩), fun _ => .pointer (some ⟨(bt1 0), 0, none⟩), fun _ => .agg #[.string f1, .string f2, .string f3], fun _ => .pointer (some ⟨(bt1 0), 4, none⟩), fun _ => .pointer (some ⟨(bt1 0), 4, none⟩), fun _ => .agg #[.string a1, .string a2, .string a3], fun _ => .pointer (some ⟨(bt1 0), 8, none⟩), fun _ => .pointer (some ⟨(bt1 0), 8, none⟩), fun _ => .agg #[.string b1, .string b2, .string b3], fun b => .slice (some ⟨b, 0, none⟩) 3 3, fun _ => .bool true, fun _ => .bool false, fun _ => .bool false, fun _ => .bool false, fun _ => .pointer (some ⟨(bt1 0), 0, none⟩), fun _ => .pointer (some ⟨(bt1 0), 3, none⟩), fun _ => .string fo, fun _ => .int .i64 (fo.size : Int), fun _ => .pointer (some ⟨(bt1 0), 4, none⟩), fun _ => .pointer (some ⟨(bt1 0), 7, none⟩), fun _ => .string ao, fun _ => .int .i64 (ao.size : Int), fun _ => .pointer (some ⟨(bt1 0), 8, none⟩), fun _ => .pointer (some ⟨(bt1 0), 11, none⟩), fun _ => .string bo, fun _ => .int .i64 (bo.size : Int), fun _ => .pointer (some ⟨(bt1 1), 0, none⟩), fun _ => .string am, fun _ => .int .i64 (am.size : Int), fun _ => .pointer (some ⟨(bt1 1), 1, none⟩), fun _ => .string bm, fun _ => .int .i64 (bm.size : Int), fun _ => .int .i64 (mx2 (mx2 (mx2 (mx2 (fo.size : Int) (ao.size : Int)) (bo.size : Int)) (am.size : Int)) (bm.size : Int)), fun _ => .bool false, fun _ => .bool false]
   [T0, T0, T0, T0, T0, T0, T0, T0, T0, T0, T0, T0, Bw [.string f1, .string f2, .string f3, .string a1, .string a2, .string a3, .string b1, .string b2, .string b3], T0, T0, T0, T0, T0, T0, T0, T0, T0, T0, T0, T0, T0, T0, T0, T0, T0, T0, T0, T0, T0, T0, T0, T0, T0]
   [] [(bt1 0), (bt1 1)] w z1 (by kernel_rfl) ⟨loc_true, loc_true, loc_true, loc_true, loc_true, loc_true, loc_true, loc_true, loc_true, loc_true, loc_true, loc_true, Bw.loc _, loc_true, loc_true, loc_true, loc_true, loc_true, loc_true, loc_true, loc_true, loc_true, loc_true, loc_true, loc_true, loc_true, loc_true, loc_true, loc_true, loc_true, loc_true, loc_true, loc_true, loc_true, loc_true, loc_true, loc_true, loc_true, trivial⟩ trivial g1.B g1.N hU1 (allG_of trivial) (fun β hβ => ?_) ?_
  · refine sc ?_ (sc ?_ (sc ?_ (sc ?_ (sc ?_ (sc ?_ (sc ?_ (sc ?_ (sc ?_ (sc ?_ (sc ?_ (sc ?_ (sc ?_ (sc ?_ (sc ?_ (sc ?_ (sc ?_ (sc ?_ (sc ?_ (sc ?_ (sc ?_ (sc ?_ (sc ?_ (sc ?_ (sc ?_ (sc ?_ (sc ?_ (sc ?_ (sc ?_ (sc ?_ (sc ?_ (sc ?_ (sc ?_ (sc ?_ (sc ?_ (sc ?_ (sc ?_ (sc ?_ (sn))))))))))))))))))))))))))))))))))))))
    · refine sr rfl fun av wq hUw h K k => ?_
      have hEw := hE.up hUw
      clear h; go_simp
      refine (law_known wq hEw).mono ?_
      rintro _ w2 ⟨rfl, hX⟩
      exact k _ _ (PD hX)
    · refine sr rfl fun av wq hUw h K k => ?_
      have eh10 := h.A 0 10
      clear h; go_simp
      exact k _ _ P0
    · refine sr rfl fun av wq hUw h K k => ?_
      have eh11 := h.A 1 11
      clear h; go_simp
      exact k _ _ P0
    · refine sg (t := 12) rfl rfl fun av wq hUw h => ⟨h.A 2 12, fun K k => ?_⟩
      have eh2 := h.B 2 (g1.T 0 2)
      clear h; go_simp
      exact k _ _ P0
    · refine sg (t := 12) rfl rfl fun av wq hUw h => ⟨h.A 2 12, fun K k => ?_⟩
      have eh13 := h.A 3 13
      clear h; go_simp
      exact k _ _ P0
    · refine sg (t := 12) rfl rfl fun av wq hUw h => ⟨h.A 2 12, fun K k => ?_⟩
      have eh14 := h.A 4 14
      have eb0 := (g1.f 0 rfl rfl rfl rfl).up (h.W rfl)
      obtain ⟨ec0, ec1, ec2⟩ := eb0.c3 0 1 2
      clear h; go_simp
      exact k _ _ P0
    · refine sg (t := 12) rfl rfl fun av wq hUw h => ⟨h.A 2 12, fun K k => ?_⟩
      have eh2 := h.B 2 (g1.T 0 2)
      clear h; go_simp
      exact k _ _ P0
    · refine sg (t := 12) rfl rfl fun av wq hUw h => ⟨h.A 2 12, fun K k => ?_⟩
      have eh16 := h.A 6 16
      clear h; go_simp
      exact k _ _ P0
    · refine sg (t := 12) rfl rfl fun av wq hUw h => ⟨h.A 2 12, fun K k => ?_⟩
      have eh17 := h.A 7 17
      have eb0 := (g1.f 0 rfl rfl rfl rfl).up (h.W rfl)
      obtain ⟨ec0, ec1, ec2⟩ := eb0.c3 4 5 6
      clear h; go_simp
      exact k _ _ P0
    · refine sg (t := 12) rfl rfl fun av wq hUw h => ⟨h.A 2 12, fun K k => ?_⟩
      have eh2 := h.B 2 (g1.T 0 2)
      clear h; go_simp
      exact k _ _ P0
    · refine sg (t := 12) rfl rfl fun av wq hUw h => ⟨h.A 2 12, fun K k => ?_⟩
      have eh19 := h.A 9 19
      clear h; go_simp
      exact k _ _ P0
    · refine sg (t := 12) rfl rfl fun av wq hUw h => ⟨h.A 2 12, fun K k => ?_⟩
      have eh20 := h.A 10 20
      have eb0 := (g1.f 0 rfl rfl rfl rfl).up (h.W rfl)
      obtain ⟨ec0, ec1, ec2⟩ := eb0.c3 8 9 10
      clear h; go_simp
      exact k _ _ P0
    · refine sg (t := 12) rfl rfl fun av wq hUw h => ⟨h.A 2 12, fun K k => ?_⟩
      have eh15 := h.A 5 15
      have eh18 := h.A 8 18
      have eh21 := h.A 11 21
      clear h; go_simp
      exact k _ _ (PostN rfl rfl rfl rfl rfl)
    · refine sg (t := 12) rfl rfl fun av wq hUw h => ⟨h.A 2 12, fun K k => ?_⟩
      have eh22 := h.A 12 22
      have hEw := hE.up hUw
      have eb1 := h.F 12
      have hmeb1 := Bw.slv (L := [(f1, f2, f3), (a1, a2, a3), (b1, b2, b3)]) eb1 rfl
      have hkn : ([(f1, f2, f3), (a1, a2, a3), (b1, b2, b3)] : List Tri).any lgV = false := HL.out
      have hcc := law_brief [(f1, f2, f3), (a1, a2, a3), (b1, b2, b3)] (β 12) 3 wq hEw hmeb1 rfl (by decide)
      rw [hkn] at hcc
      clear hkn
      clear h; go_simp
      refine (hcc).mono ?_
      rintro _ w2 ⟨rfl, hX⟩
      exact k _ _ (PD hX)
    · refine sg (t := 12) rfl rfl fun av wq hUw h => ⟨h.A 2 12, fun K k => ?_⟩
      have eh23 := h.A 13 23
      clear h; go_simp
      exact k _ _ P0
    · refine sr rfl fun av wq hUw h K k => ?_
      have eh12 := h.A 2 12
      have eh24 := h.A 14 24
      clear h; go_simp
      exact k _ _ P0
    · refine sr rfl fun av wq hUw h K k => ?_
      have eh25 := h.A 15 25
      clear h; go_simp
      exact k _ _ P0
    · refine sg (t := 26) rfl rfl fun av wq hUw h => ⟨h.A 16 26, fun K k => ?_⟩
      have eh2 := h.B 2 (g1.T 0 2)
      clear h; go_simp
      exact k _ _ P0
    · refine sg (t := 26) rfl rfl fun av wq hUw h => ⟨h.A 16 26, fun K k => ?_⟩
      have eh27 := h.A 17 27
      clear h; go_simp
      exact k _ _ P0
    · refine sg (t := 26) rfl rfl fun av wq hUw h => ⟨h.A 16 26, fun K k => ?_⟩
      have eh28 := h.A 18 28
      have eb0 := (g1.f 0 rfl rfl rfl rfl).up (h.W rfl)
      have ec0 := eb0.cell 3 rfl
      clear h; go_simp
      exact k _ _ P0
    · refine sg (t := 26) rfl rfl fun av wq hUw h => ⟨h.A 16 26, fun K k => ?_⟩
      have eh29 := h.A 19 29
      clear h; go_simp
      exact k _ _ P0
    · refine sg (t := 26) rfl rfl fun av wq hUw h => ⟨h.A 16 26, fun K k => ?_⟩
      have eh2 := h.B 2 (g1.T 0 2)
      clear h; go_simp
      exact k _ _ P0
    · refine sg (t := 26) rfl rfl fun av wq hUw h => ⟨h.A 16 26, fun K k => ?_⟩
      have eh31 := h.A 21 31
      clear h; go_simp
      exact k _ _ P0
    · refine sg (t := 26) rfl rfl fun av wq hUw h => ⟨h.A 16 26, fun K k => ?_⟩
      have eh32 := h.A 22 32
      have eb0 := (g1.f 0 rfl rfl rfl rfl).up (h.W rfl)
      have ec0 := eb0.cell 7 rfl
      clear h; go_simp
      exact k _ _ P0
    · refine sg (t := 26) rfl rfl fun av wq hUw h => ⟨h.A 16 26, fun K k => ?_⟩
      have eh33 := h.A 23 33
      clear h; go_simp
      exact k _ _ P0
    · refine sg (t := 26) rfl rfl fun av wq hUw h => ⟨h.A 16 26, fun K k => ?_⟩
      have eh2 := h.B 2 (g1.T 0 2)
      clear h; go_simp
      exact k _ _ P0
    · refine sg (t := 26) rfl rfl fun av wq hUw h => ⟨h.A 16 26, fun K k => ?_⟩
      have eh35 := h.A 25 35
      clear h; go_simp
      exact k _ _ P0
    · refine sg (t := 26) rfl rfl fun av wq hUw h => ⟨h.A 16 26, fun K k => ?_⟩
      have eh36 := h.A 26 36
      have eb0 := (g1.f 0 rfl rfl rfl rfl).up (h.W rfl)
      have ec0 := eb0.cell 11 rfl
      clear h; go_simp
      exact k _ _ P0
    · refine sg (t := 26) rfl rfl fun av wq hUw h => ⟨h.A 16 26, fun K k => ?_⟩
      have eh37 := h.A 27 37
      clear h; go_simp
      exact k _ _ P0
    · refine sg (t := 26) rfl rfl fun av wq hUw h => ⟨h.A 16 26, fun K k => ?_⟩
      have eh3 := h.B 3 (g1.T 1 3)
      clear h; go_simp
      exact k _ _ P0
    · refine sg (t := 26) rfl rfl fun av wq hUw h => ⟨h.A 16 26, fun K k => ?_⟩
      have eh39 := h.A 29 39
      have eb0 := (g1.f 1 rfl rfl rfl rfl).up (h.W rfl)
      have ec0 := eb0.cell 0 rfl
      clear h; go_simp
      exact k _ _ P0
    · refine sg (t := 26) rfl rfl fun av wq hUw h => ⟨h.A 16 26, fun K k => ?_⟩
      have eh40 := h.A 30 40
      clear h; go_simp
      exact k _ _ P0
    · refine sg (t := 26) rfl rfl fun av wq hUw h => ⟨h.A 16 26, fun K k => ?_⟩
      have eh3 := h.B 3 (g1.T 1 3)
      clear h; go_simp
      exact k _ _ P0
    · refine sg (t := 26) rfl rfl fun av wq hUw h => ⟨h.A 16 26, fun K k => ?_⟩
      have eh42 := h.A 32 42
      have eb0 := (g1.f 1 rfl rfl rfl rfl).up (h.W rfl)
      have ec0 := eb0.cell 1 rfl
      clear h; go_simp
      exact k _ _ P0
    · refine sg (t := 26) rfl rfl fun av wq hUw h => ⟨h.A 16 26, fun K k => ?_⟩
      have eh43 := h.A 33 43
      clear h; go_simp
      exact k _ _ P0
    · refine sg (t := 26) rfl rfl fun av wq hUw h => ⟨h.A 16 26, fun K k => ?_⟩
      have eh30 := h.A 20 30
      have eh34 := h.A 24 34
      have eh38 := h.A 28 38
      have eh41 := h.A 31 41
      have eh44 := h.A 34 44
      clear h; go_simp
      exact k _ _ P0
    · refine sg (t := 26) rfl rfl fun av wq hUw h => ⟨h.A 16 26, fun K k => ?_⟩
      have eh45 := h.A 35 45
      have hmx := HM.out; have hmy := decide_eq_false hmx
      clear h; go_simp
      exact k _ _ P0
    · refine sr rfl fun av wq hUw h K k => ?_
      have eh26 := h.A 16 26
      have eh46 := h.A 36 46
      clear h; go_simp
      exact k _ _ P0
  refine end_of fun bt2 ac2 wd2 d2 z2 hU2 v2 g2 => ?_
  replace d2 := d2.trans d1; replace z2 := z2.trans z1
  clear d1 z1
  refine hK2 _ _ ?_
  refine wp_cond_false (eval_of (g2.T 37 47)) ?_
  refine wp_skip ?_
  refine hK1 _ _ ?_
  refine wp_seq_k fun K3 hK3 => ?_
  refine region_line 163 (dso [50, 51, 52, 53, 54, 55, 56, 57, 58, 59, 60, 61, 62, 49, 63, 64, 5, 999, 6]) [999, 999, 999, 999, 999, 999, 999, 999, 999, 999, 999, 999, 999, 999, 999, 999, 16, 16, 999] [0, 0, 0, 0, 0, 0, 0, 0, 0, 0, 0, 0, 0, 0, 0, 0, 1, 2, 0] [999, 999, 999, 999, 999, 999, 999, 999, 999, 999, 999, 999, 999, 999, 999, 999, 17, 999, 999] []
   [fun _ => .pointer (some ⟨(bt1 0), 0, none⟩), fun _ => .agg #[.string f1, .string f2, .string f3, .string fo], fun _ => .pointer (some ⟨(bt1 0), 4, none⟩), fun _ => .agg #[.string a1, .string a2, .string a3, .string ao], fun _ => .pointer (some ⟨(bt1 1), 0, none⟩), fun _ => .string am, fun _ => .agg #[.string a1, .string a2, .string a3, .string ao, .string am], fun _ => .pointer (some ⟨(bt1 0), 8, none⟩), fun _ => .agg #[.string b1, .string b2, .string b3, .string bo], fun _ => .pointer (some ⟨(bt1 1), 1, none⟩), fun _ => .string bm, fun _ => .agg #[.string b1, .string b2, .string b3, .string bo, .string bm], fun _ => .tuple #[.agg #[.string ⟨#[]⟩, .string ⟨#[]⟩, .string ⟨#[]⟩], .int .i64 2], fun _ => .tuple #[.agg #[.string ⟨#[]⟩, .string ⟨#[]⟩, .string ⟨#[]⟩], .int .i64 2], fun _ => .agg #[.string ⟨#[]⟩, .string ⟨#[]⟩, .string ⟨#[]⟩], fun _ => .int .i64 2, fun b => .pointer (some ⟨b, 0, none⟩), fun _ => undef, fun _ => .int .i64 2]
   [T0, T0, T0, T0, T0, T0, T0, T0, T0, T0, T0, T0, T0, T0, T0, T0, Bw [.string ⟨#[]⟩, .string ⟨#[]⟩, .string ⟨#[]⟩], Bw [.string ⟨#[]⟩, .string ⟨#[]⟩, .string ⟨#[]⟩], T0]
   [] [(bt1 0), (bt1 1), (bt2 12)] w z2 (by kernel_rfl) ⟨loc_true, loc_true, loc_true, loc_true, loc_true, loc_true, loc_true, loc_true, loc_true, loc_true, loc_true, loc_true, loc_true, loc_true, loc_true, loc_true, Bw.loc _, Bw.loc _, loc_true, trivial⟩ trivial g2.B g2.N hU2 (allG_of trivial) (fun β hβ => ?_) ?_
  · refine sc ?_ (sc ?_ (sc ?_ (sc ?_ (sc ?_ (sc ?_ (sc ?_ (sc ?_ (sc ?_ (sc ?_ (sc ?_ (sc ?_ (sc ?_ (sc ?_ (sc ?_ (sc ?_ (sc ?_ (sc ?_ (sc ?_ (sn)))))))))))))))))))
    · refine sr rfl fun av wq hUw h K k => ?_
      have eh2 := h.B 2 ((v2 2 rfl).trans (g1.T 0 2))
      clear h; go_simp
      exact k _ _ P0
    · refine sr rfl fun av wq hUw h K k => ?_
      have eh50 := h.A 0 50
      have eb0 := ((g1.f 0 rfl rfl rfl rfl).up (g2.W rfl)).up (h.W rfl)
      obtain ⟨ec0, ec1, ec2⟩ := eb0.c3 0 1 2
      have ec3 := eb0.cell 3 rfl
      clear h; go_simp
      exact k _ _ P0
    · refine sr rfl fun av wq hUw h K k => ?_
      have eh2 := h.B 2 ((v2 2 rfl).trans (g1.T 0 2))
      clear h; go_simp
      exact k _ _ P0
    · refine sr rfl fun av wq hUw h K k => ?_
      have eh52 := h.A 2 52
      have eb0 := ((g1.f 0 rfl rfl rfl rfl).up (g2.W rfl)).up (h.W rfl)
      obtain ⟨ec0, ec1, ec2⟩ := eb0.c3 4 5 6
      have ec3 := eb0.cell 7 rfl
      clear h; go_simp
      exact k _ _ P0
    · refine sr rfl fun av wq hUw h K k => ?_
      have eh3 := h.B 3 ((v2 3 rfl).trans (g1.T 1 3))
      clear h; go_simp
      exact k _ _ P0
    · refine sr rfl fun av wq hUw h K k => ?_
      have eh54 := h.A 4 54
      have eb0 := ((g1.f 1 rfl rfl rfl rfl).up (g2.W rfl)).up (h.W rfl)
      have ec0 := eb0.cell 0 rfl
      clear h; go_simp
      exact k _ _ P0
    · refine sr rfl fun av wq hUw h K k => ?_
      have eh53 := h.A 3 53
      have eh55 := h.A 5 55
      clear h; go_simp
      exact k _ _ P0
    · refine sr rfl fun av wq hUw h K k => ?_
      have eh2 := h.B 2 ((v2 2 rfl).trans (g1.T 0 2))
      clear h; go_simp
      exact k _ _ P0
    · refine sr rfl fun av wq hUw h K k => ?_
      have eh57 := h.A 7 57
      have eb0 := ((g1.f 0 rfl rfl rfl rfl).up (g2.W rfl)).up (h.W rfl)
      obtain ⟨ec0, ec1, ec2⟩ := eb0.c3 8 9 10
      have ec3 := eb0.cell 11 rfl
      clear h; go_simp
      exact k _ _ P0
    · refine sr rfl fun av wq hUw h K k => ?_
      have eh3 := h.B 3 ((v2 3 rfl).trans (g1.T 1 3))
      clear h; go_simp
      exact k _ _ P0
    · refine sr rfl fun av wq hUw h K k => ?_
      have eh59 := h.A 9 59
      have eb0 := ((g1.f 1 rfl rfl rfl rfl).up (g2.W rfl)).up (h.W rfl)
      have ec0 := eb0.cell 1 rfl
      clear h; go_simp
      exact k _ _ P0
    · refine sr rfl fun av wq hUw h K k => ?_
      have eh58 := h.A 8 58
      have eh60 := h.A 10 60
      clear h; go_simp
      exact k _ _ P0
    · refine sr rfl fun av wq hUw h K k => ?_
      have eh51 := h.A 1 51
      have eh56 := h.A 6 56
      have eh61 := h.A 11 61
      have hEw := hE.up hUw
      clear h; go_simp
      refine (slip_solve_bad f1 f2 f3 fo a1 a2 a3 ao b1 b2 b3 bo am bm wq hEw hzf1 hzf2 hzf3 hzfo hza1 hza2 hza3 hzao hzb1 hzb2 hzb3 hzbo hzam hzbm HF.out).mono ?_
      rintro _ w2 ⟨rfl, hX⟩
      exact k _ _ (PD hX)
    · refine sr rfl fun av wq hUw h K k => ?_
      have eh62 := h.A 12 62
      clear h; go_simp
      exact k _ _ P0
    · refine sr rfl fun av wq hUw h K k => ?_
      have eh49 := h.A 13 49
      clear h; go_simp
      exact k _ _ P0
    · refine sr rfl fun av wq hUw h K k => ?_
      have eh49 := h.A 13 49
      clear h; go_simp
      exact k _ _ P0
    · refine sr rfl fun av wq hUw h K k => ?_
      clear h; go_simp
      exact k _ _ (PostN rfl rfl rfl rfl rfl)
    · refine sr rfl fun av wq hUw h K k => ?_
      have eh5 := h.A 16 5
      have eh63 := h.A 14 63
      have eb0 := h.F 16
      obtain ⟨ec0, ec1, ec2⟩ := eb0.c3 0 1 2; obtain ⟨ef0, ef1, ef2⟩ := eb0.f3 0 1 2
      clear h; go_simp
      exact k _ _ (PostS rfl rfl rfl rfl rfl rfl ((((Sto.refl _ _).set 0 _).set 1 _).set 2 _) ((((eb0).set 0 rfl _).set 1 rfl _).set 2 rfl _))
    · refine sr rfl fun av wq hUw h K k => ?_
      have eh64 := h.A 15 64
      clear h; go_simp
      exact k _ _ P0
  refine end_of fun bt3 ac3 wd3 d3 z3 hU3 v3 g3 => ?_
  replace d3 := d3.trans d2; replace z3 := z3.trans z2
  clear d2 z2
  refine hK3 _ _ ?_
  refine wp_seq_k fun K4 hK4 => ?_
  refine region_line 163 (dso [65, 66, 67, 7]) [999, 999, 999, 999] [0, 0, 0, 0] [] []
   [fun _ => .agg #[.string ⟨#[]⟩, .string ⟨#[]⟩, .string ⟨#[]⟩], fun _ => .agg #[.string ⟨#[]⟩, .string ⟨#[]⟩, .string ⟨#[]⟩], fun _ => .bool true, fun _ => .bool true]
   [T0, T0, T0, T0]
   [] [(bt1 0), (bt1 1), (bt2 12), (bt3 16)] w z3 (by kernel_rfl) ⟨loc_true, loc_true, loc_true, loc_true, trivial⟩ trivial g3.B g3.N hU3 (allG_of trivial) (fun β hβ => ?_) ?_
  · refine sc ?_ (sc ?_ (sc ?_ (sc ?_ (sn))))
    · refine sr rfl fun av wq hUw h K k => ?_
      have eh5 := h.B 5 (g3.T 16 5)
      have eb0 := (g3.f 17 rfl rfl rfl rfl).up (h.W rfl)
      obtain ⟨ec0, ec1, ec2⟩ := eb0.c3 0 1 2
      clear h; go_simp
      exact k _ _ P0
    · refine sr rfl fun av wq hUw h K k => ?_
      clear h; go_simp
      exact k _ _ P0
    · refine sr rfl fun av wq hUw h K k => ?_
      have eh65 := h.A 0 65
      have eh66 := h.A 1 66
      clear h; go_simp
      exact k _ _ P0
    · refine sr rfl fun av wq hUw h K k => ?_
      have eh67 := h.A 2 67
      clear h; go_simp
      exact k _ _ P0
  refine end_of fun bt4 ac4 wd4 d4 z4 hU4 v4 g4 => ?_
  replace d4 := d4.trans d3; replace z4 := z4.trans z3
  clear d3 z3
  refine hK4 _ _ ?_
  refine wp_seq_k fun K5 hK5 => ?_
  refine region_line 163 (dso [68, 69, 70, 71, 72, 73, 74, 75, 76, 77, 8]) [999, 999, 999, 999, 999, 999, 999, 999, 999, 9, 9] [0, 0, 0, 0, 0, 0, 0, 0, 0, 1, 0] [] []
   [fun _ => .pointer (some ⟨(bt1 0), 0, none⟩), fun _ => .pointer (some ⟨(bt1 0), 0, none⟩), fun _ => .agg #[.string f1, .string f2, .string f3], fun _ => .pointer (some ⟨(bt1 0), 4, none⟩), fun _ => .pointer (some ⟨(bt1 0), 4, none⟩), fun _ => .agg #[.string a1, .string a2, .string a3], fun _ => .pointer (some ⟨(bt1 0), 8, none⟩), fun _ => .pointer (some ⟨(bt1 0), 8, none⟩), fun _ => .agg #[.string b1, .string b2, .string b3], fun b => .slice (some ⟨b, 0, none⟩) 3 3, fun b => .slice (some ⟨b, 0, none⟩) 3 3]
   [T0, T0, T0, T0, T0, T0, T0, T0, T0, Bw [.string f1, .string f2, .string f3, .string a1, .string a2, .string a3, .string b1, .string b2, .string b3], T0]
   [] [(bt1 0), (bt1 1), (bt2 12), (bt3 16)] w z4 (by kernel_rfl) ⟨loc_true, loc_true, loc_true, loc_true, loc_true, loc_true, loc_true, loc_true, loc_true, Bw.loc _, loc_true, trivial⟩ trivial g4.B g4.N hU4 (allG_of trivial) (fun β hβ => ?_) ?_
  · refine sc ?_ (sc ?_ (sc ?_ (sc ?_ (sc ?_ (sc ?_ (sc ?_ (sc ?_ (sc ?_ (sc ?_ (sc ?_ (sn)))))))))))
    · refine sr rfl fun av wq hUw h K k => ?_
      have eh2 := h.B 2 ((v4 2 rfl).trans ((v3 2 rfl).trans ((v2 2 rfl).trans (g1.T 0 2))))
      clear h; go_simp
      exact k _ _ P0
    · refine sr rfl fun av wq hUw h K k => ?_
      have eh68 := h.A 0 68
      clear h; go_simp
      exact k _ _ P0
    · refine sr rfl fun av wq hUw h K k => ?_
      have eh69 := h.A 1 69
      have eb0 := ((g1.f 0 rfl rfl rfl rfl).up (((g2.W rfl).trans (g3.W rfl)).trans (g4.W rfl))).up (h.W rfl)
      obtain ⟨ec0, ec1, ec2⟩ := eb0.c3 0 1 2
      clear h; go_simp
      exact k _ _ P0
    · refine sr rfl fun av wq hUw h K k => ?_
      have eh2 := h.B 2 ((v4 2 rfl).trans ((v3 2 rfl).trans ((v2 2 rfl).trans (g1.T 0 2))))
      clear h; go_simp
      exact k _ _ P0
    · refine sr rfl fun av wq hUw h K k => ?_
      have eh71 := h.A 3 71
      clear h; go_simp
      exact k _ _ P0
    · refine sr rfl fun av wq hUw h K k => ?_
      have eh72 := h.A 4 72
      have eb0 := ((g1.f 0 rfl rfl rfl rfl).up (((g2.W rfl).trans (g3.W rfl)).trans (g4.W rfl))).up (h.W rfl)
      obtain ⟨ec0, ec1, ec2⟩ := eb0.c3 4 5 6
      clear h; go_simp
      exact k _ _ P0
    · refine sr rfl fun av wq hUw h K k => ?_
      have eh2 := h.B 2 ((v4 2 rfl).trans ((v3 2 rfl).trans ((v2 2 rfl).trans (g1.T 0 2))))
      clear h; go_simp
      exact k _ _ P0
    · refine sr rfl fun av wq hUw h K k => ?_
      have eh74 := h.A 6 74
      clear h; go_simp
      exact k _ _ P0
    · refine sr rfl fun av wq hUw h K k => ?_
      have eh75 := h.A 7 75
      have eb0 := ((g1.f 0 rfl rfl rfl rfl).up (((g2.W rfl).trans (g3.W rfl)).trans (g4.W rfl))).up (h.W rfl)
      obtain ⟨ec0, ec1, ec2⟩ := eb0.c3 8 9 10
      clear h; go_simp
      exact k _ _ P0
    · refine sr rfl fun av wq hUw h K k => ?_
      have eh70 := h.A 2 70
      have eh73 := h.A 5 73
      have eh76 := h.A 8 76
      clear h; go_simp
      exact k _ _ (PostN rfl rfl rfl rfl rfl)
    · refine sr rfl fun av wq hUw h K k => ?_
      have eh77 := h.A 9 77
      clear h; go_simp
      exact k _ _ P0
  refine end_of fun bt5 ac5 wd5 d5 z5 hU5 v5 g5 => ?_
  replace d5 := d5.trans d4; replace z5 := z5.trans z4
  clear d4 z4
  refine hK5 _ _ ?_
  refine wp_seq_k fun K6 hK6 => ?_
  refine wp_block ?_
  refine wp_seq_k fun K7 hK7 => ?_
  refine region_line 163 (dso [79, 80, 81, 82, 83, 84, 85, 86, 87, 88, 89, 90, 91, 92, 93, 94, 95, 78]) [999, 999, 999, 999, 999, 999, 999, 999, 999, 999, 999, 999, 999, 999, 14, 999, 999, 999] [0, 0, 0, 0, 0, 0, 0, 0, 0, 0, 0, 0, 0, 0, 1, 0, 0, 0] [] []
   [fun _ => .slice (some ⟨(bt5 9), 0, none⟩) 3 3, fun _ => .pointer (some ⟨(bt1 0), 0, none⟩), fun _ => .pointer (some ⟨(bt1 0), 3, none⟩), fun _ => .string fo, fun _ => .pointer (some ⟨(bt1 0), 4, none⟩), fun _ => .pointer (some ⟨(bt1 0), 7, none⟩), fun _ => .string ao, fun _ => .pointer (some ⟨(bt1 0), 8, none⟩), fun _ => .pointer (some ⟨(bt1 0), 11, none⟩), fun _ => .string bo, fun _ => .pointer (some ⟨(bt1 1), 0, none⟩), fun _ => .string am, fun _ => .pointer (some ⟨(bt1 1), 1, none⟩), fun _ => .string bm, fun b => .slice (some ⟨b, 0, none⟩) 5 5, fun _ => .bool false, fun _ => .bool true, fun _ => .bool true]
   [T0, T0, T0, T0, T0, T0, T0, T0, T0, T0, T0, T0, T0, T0, Bw [.string fo, .string ao, .string bo, .string am, .string bm], T0, T0, T0]
   [] [(bt1 0), (bt1 1), (bt2 12), (bt3 16), (bt5 9)] w z5 (by kernel_rfl) ⟨loc_true, loc_true, loc_true, loc_true, loc_true, loc_true, loc_true, loc_true, loc_true, loc_true, loc_true, loc_true, loc_true, loc_true, Bw.loc _, loc_true, loc_true, loc_true, trivial⟩ trivial g5.B g5.N hU5 (allG_of trivial) (fun β hβ => ?_) ?_
  · refine sc ?_ (sc ?_ (sc ?_ (sc ?_ (sc ?_ (sc ?_ (sc ?_ (sc ?_ (sc ?_ (sc ?_ (sc ?_ (sc ?_ (sc ?_ (sc ?_ (sc ?_ (sc ?_ (sc ?_ (sc ?_ (sn))))))))))))))))))
    · refine sr rfl fun av wq hUw h K k => ?_
      have eh8 := h.B 8 (g5.T 10 8)
      clear h; go_simp
      exact k _ _ P0
    · refine sr rfl fun av wq hUw h K k => ?_
      have eh2 := h.B 2 ((v5 2 rfl).trans ((v4 2 rfl).trans ((v3 2 rfl).trans ((v2 2 rfl).trans (g1.T 0 2)))))
      clear h; go_simp
      exact k _ _ P0
    · refine sr rfl fun av wq hUw h K k => ?_
      have eh80 := h.A 1 80
      clear h; go_simp
      exact k _ _ P0
    · refine sr rfl fun av wq hUw h K k => ?_
      have eh81 := h.A 2 81
      have eb0 := ((g1.f 0 rfl rfl rfl rfl).up ((((g2.W rfl).trans (g3.W rfl)).trans (g4.W rfl)).trans (g5.W rfl))).up (h.W rfl)
      have ec0 := eb0.cell 3 rfl
      clear h; go_simp
      exact k _ _ P0
    · refine sr rfl fun av wq hUw h K k => ?_
      have eh2 := h.B 2 ((v5 2 rfl).trans ((v4 2 rfl).trans ((v3 2 rfl).trans ((v2 2 rfl).trans (g1.T 0 2)))))
      clear h; go_simp
      exact k _ _ P0
    · refine sr rfl fun av wq hUw h K k => ?_
      have eh83 := h.A 4 83
      clear h; go_simp
      exact k _ _ P0
    · refine sr rfl fun av wq hUw h K k => ?_
      have eh84 := h.A 5 84
      have eb0 := ((g1.f 0 rfl rfl rfl rfl).up ((((g2.W rfl).trans (g3.W rfl)).trans (g4.W rfl)).trans (g5.W rfl))).up (h.W rfl)
      have ec0 := eb0.cell 7 rfl
      clear h; go_simp
      exact k _ _ P0
    · refine sr rfl fun av wq hUw h K k => ?_
      have eh2 := h.B 2 ((v5 2 rfl).trans ((v4 2 rfl).trans ((v3 2 rfl).trans ((v2 2 rfl).trans (g1.T 0 2)))))
      clear h; go_simp
      exact k _ _ P0
    · refine sr rfl fun av wq hUw h K k => ?_
      have eh86 := h.A 7 86
      clear h; go_simp
      exact k _ _ P0
    · refine sr rfl fun av wq hUw h K k => ?_
      have eh87 := h.A 8 87
      have eb0 := ((g1.f 0 rfl rfl rfl rfl).up ((((g2.W rfl).trans (g3.W rfl)).trans (g4.W rfl)).trans (g5.W rfl))).up (h.W rfl)
      have ec0 := eb0.cell 11 rfl
      clear h; go_simp
      exact k _ _ P0
    · refine sr rfl fun av wq hUw h K k => ?_
      have eh3 := h.B 3 ((v5 3 rfl).trans ((v4 3 rfl).trans ((v3 3 rfl).trans ((v2 3 rfl).trans (g1.T 1 3)))))
      clear h; go_simp
      exact k _ _ P0
    · refine sr rfl fun av wq hUw h K k => ?_
      have eh89 := h.A 10 89
      have eb0 := ((g1.f 1 rfl rfl rfl rfl).up ((((g2.W rfl).trans (g3.W rfl)).trans (g4.W rfl)).trans (g5.W rfl))).up (h.W rfl)
      have ec0 := eb0.cell 0 rfl
      clear h; go_simp
      exact k _ _ P0
    · refine sr rfl fun av wq hUw h K k => ?_
      have eh3 := h.B 3 ((v5 3 rfl).trans ((v4 3 rfl).trans ((v3 3 rfl).trans ((v2 3 rfl).trans (g1.T 1 3)))))
      clear h; go_simp
      exact k _ _ P0
    · refine sr rfl fun av wq hUw h K k => ?_
      have eh91 := h.A 12 91
      have eb0 := ((g1.f 1 rfl rfl rfl rfl).up ((((g2.W rfl).trans (g3.W rfl)).trans (g4.W rfl)).trans (g5.W rfl))).up (h.W rfl)
      have ec0 := eb0.cell 1 rfl
      clear h; go_simp
      exact k _ _ P0
    · refine sr rfl fun av wq hUw h K k => ?_
      have eh82 := h.A 3 82
      have eh85 := h.A 6 85
      have eh88 := h.A 9 88
      have eh90 := h.A 11 90
      have eh92 := h.A 13 92
      clear h; go_simp
      exact k _ _ (PostN rfl rfl rfl rfl rfl)
    · refine sr rfl fun av wq hUw h K k => ?_
      have eh79 := h.A 0 79
      have eh93 := h.A 14 93
      have hEw := hE.up hUw
      have eb1 := (g5.f 9 rfl rfl rfl rfl).up (h.W rfl)
      have hmeb1 := Bw.slv (L := [(f1, f2, f3), (a1, a2, a3), (b1, b2, b3)]) eb1 rfl
      have eb3 := h.F 14
      have hmeb3 := Bw.sls (L := [fo, ao, bo, am, bm]) eb3 rfl
      have hkn : (([fo, ao, bo, am, bm] : List ByteArray).all okR && !(([(f1, f2, f3), (a1, a2, a3), (b1, b2, b3)] : List Tri).any badV)) = false := HB.out
      have hcc := law_numbers [(f1, f2, f3), (a1, a2, a3), (b1, b2, b3)] [fo, ao, bo, am, bm] (bt5 9) (β 14) 3 5 wq hEw hmeb1 hmeb3 rfl rfl (mem_cons_of ⟨hzf1, hzf2, hzf3⟩ (mem_cons_of ⟨hza1, hza2, hza3⟩ (mem_cons_of ⟨hzb1, hzb2, hzb3⟩ (fun _ h => absurd h List.not_mem_nil)))) (mem_cons_of hzfo (mem_cons_of hzao (mem_cons_of hzbo (mem_cons_of hzam (mem_cons_of hzbm (fun _ h => absurd h List.not_mem_nil)))))) (by decide) (by decide)
      rw [hkn] at hcc
      clear hkn
      clear h; go_simp
      refine (hcc).mono ?_
      rintro _ w2 ⟨rfl, hX⟩
      exact k _ _ (PD hX)
    · refine sr rfl fun av wq hUw h K k => ?_
      have eh94 := h.A 15 94
      clear h; go_simp
      exact k _ _ P0
    · refine sr rfl fun av wq hUw h K k => ?_
      have eh95 := h.A 16 95
      clear h; go_simp
      exact k _ _ P0
  refine end_of fun bt6 ac6 wd6 d6 z6 hU6 v6 g6 => ?_
  replace d6 := d6.trans d5; replace z6 := z6.trans z5
  clear d5 z5
  refine hK7 _ _ ?_
  refine wp_cond_true (eval_of (g6.T 17 78)) ?_
  refine wp_seq_k fun K8 hK8 => ?_
  refine region_line 163 (dso [96, 97, 98, 99, 100, 4]) [999, 999, 999, 999, 999, 999] [0, 0, 0, 0, 0, 0] [] []
   [fun _ => .int .i64 2, fun _ => .bool true, fun _ => .bool true, fun _ => .bool true, fun _ => .bool true, fun _ => .bool true]
   [T0, T0, T0, T0, T0, T0]
   [] [(bt1 0), (bt1 1), (bt2 12), (bt3 16), (bt5 9), (bt6 14)] w z6 (by kernel_rfl) ⟨loc_true, loc_true, loc_true, loc_true, loc_true, loc_true, trivial⟩ trivial g6.B g6.N hU6 (allG_of trivial) (fun β hβ => ?_) ?_
  · refine sc ?_ (sc ?_ (sc ?_ (sc ?_ (sc ?_ (sc ?_ (sn))))))
    · refine sr rfl fun av wq hUw h K k => ?_
      have eh6 := h.B 6 ((v6 6 rfl).trans ((v5 6 rfl).trans ((v4 6 rfl).trans (g3.T 18 6))))
      clear h; go_simp
      exact k _ _ P0
    · refine sr rfl fun av wq hUw h K k => ?_
      have eh96 := h.A 0 96
      clear h; go_simp
      exact k _ _ P0
    · refine sr rfl fun av wq hUw h K k => ?_
      have eh97 := h.A 1 97
      clear h; go_simp
      exact k _ _ P0
    · refine sg (t := 98) rfl rfl fun av wq hUw h => ⟨h.A 2 98, fun K k => ?_⟩
      have eh7 := h.B 7 ((v6 7 rfl).trans ((v5 7 rfl).trans (g4.T 3 7)))
      clear h; go_simp
      exact k _ _ P0
    · refine sr rfl fun av wq hUw h K k => ?_
      have eh98 := h.A 2 98
      have eh99 := h.A 3 99
      clear h; go_simp
      exact k _ _ P0
    · refine sr rfl fun av wq hUw h K k => ?_
      have eh100 := h.A 4 100
      clear h; go_simp
      exact k _ _ P0
  refine end_of fun bt7 ac7 wd7 d7 z7 hU7 v7 g7 => ?_
  replace d7 := d7.trans d6; replace z7 := z7.trans z6
  clear d6 z6
  refine hK8 _ _ ?_
  have et4 := g7.T 5 4
  refine wp_ret ?_
  refine block_ret ?_
  refine then_ret ?_
  refine bodyPost_ret (v := .bool true) (by simp [results, Tryz.f3, go_sem, et4]) d7 ?_
  exact ⟨rfl, hU7⟩

end Go.Proofs.Klp
