/- Where three planes meet. -/
import Derived.Test.YtooldicbicanaaaGreatDoorKSeq
namespace Go.Proofs.Klp
open Go.RowKit Go.Shelf
attribute [local go_sem ↓] Go.wp_at_zero Go.wp_at_succ

set_option maxRecDepth 100000 in
set_option maxHeartbeats 4000000 in
theorem slip_meet1 (a1 a2 a3 b1 b2 b3 c1 c2 c3 d1 d2 d3 : Rat) (w : World) (hE : Env w) (ra1 : rlen a1 ≤ 50) (ra2 : rlen a2 ≤ 50) (ra3 : rlen a3 ≤ 50) (rb1 : rlen b1 ≤ 50) (rb2 : rlen b2 ≤ 50) (rb3 : rlen b3 ≤ 50) (rc1 : rlen c1 ≤ 50) (rc2 : rlen c2 ≤ 50) (rc3 : rlen c3 ≤ 50) (rd1 : rlen d1 ≤ 50) (rd2 : rlen d2 ≤ 50) (rd3 : rlen d3 ≤ 50) (hd : (((a1 * ((b2 * c3) - (b3 * c2))) + (a2 * ((b3 * c1) - (b1 * c3)))) + (a3 * ((b1 * c2) - (b2 * c1)))) ≠ 0) :
    Calls Tryz.prog 54 #[.agg #[.string (rB a1), .string (rB a2), .string (rB a3), .string (rB b1), .string (rB b2), .string (rB b3), .string (rB c1), .string (rB c2), .string (rB c3)], .agg #[.string (rB d1), .string (rB d2), .string (rB d3)]] w (Ret w (.tuple #[.agg #[.string (rB ((((((b2 * c3) - (b3 * c2)) * d1) + (((c2 * a3) - (c3 * a2)) * d2)) + (((a2 * b3) - (a3 * b2)) * d3)) * (1 / (((a1 * ((b2 * c3) - (b3 * c2))) + (a2 * ((b3 * c1) - (b1 * c3)))) + (a3 * ((b1 * c2) - (b2 * c1))))))), .string (rB ((((((b3 * c1) - (b1 * c3)) * d1) + (((c3 * a1) - (c1 * a3)) * d2)) + (((a3 * b1) - (a1 * b3)) * d3)) * (1 / (((a1 * ((b2 * c3) - (b3 * c2))) + (a2 * ((b3 * c1) - (b1 * c3)))) + (a3 * ((b1 * c2) - (b2 * c1))))))), .string (rB ((((((b1 * c2) - (b2 * c1)) * d1) + (((c1 * a2) - (c2 * a1)) * d2)) + (((a1 * b2) - (a2 * b1)) * d3)) * (1 / (((a1 * ((b2 * c3) - (b3 * c2))) + (a2 * ((b3 * c1) - (b1 * c3)))) + (a3 * ((b1 * c2) - (b2 * c1)))))))], .bool true])) := by
  obtain ⟨x1, Hx1, rx1⟩ := nmul rb2 rc3
  obtain ⟨x2, Hx2, rx2⟩ := nmul rb3 rc2
  obtain ⟨x3, Hx3, rx3⟩ := nsub rx1.out rx2.out
  obtain ⟨x4, Hx4, rx4⟩ := nmul rb3 rc1
  obtain ⟨x5, Hx5, rx5⟩ := nmul rb1 rc3
  obtain ⟨x6, Hx6, rx6⟩ := nsub rx4.out rx5.out
  obtain ⟨x7, Hx7, rx7⟩ := nmul rb1 rc2
  obtain ⟨x8, Hx8, rx8⟩ := nmul rb2 rc1
  obtain ⟨x9, Hx9, rx9⟩ := nsub rx7.out rx8.out
  obtain ⟨x10, Hx10, rx10⟩ := nmul ra1 rx3.out
  obtain ⟨x11, Hx11, rx11⟩ := nmul ra2 rx6.out
  obtain ⟨x12, Hx12, rx12⟩ := nadd rx10.out rx11.out
  obtain ⟨x13, Hx13, rx13⟩ := nmul ra3 rx9.out
  obtain ⟨x14, Hx14, rx14⟩ := nadd rx12.out rx13.out
  have HD := Lib.hid (show x14 ≠ 0 from (by simp only [Hx14.out, Hx12.out, Hx10.out, Hx3.out, Hx1.out, Hx2.out, Hx11.out, Hx6.out, Hx4.out, Hx5.out, Hx13.out, Hx9.out, Hx7.out, Hx8.out]; exact hd))
  obtain ⟨x15, Hx15, rx15⟩ := nmul rc2 ra3
  obtain ⟨x16, Hx16, rx16⟩ := nmul rc3 ra2
  obtain ⟨x17, Hx17, rx17⟩ := nsub rx15.out rx16.out
  obtain ⟨x18, Hx18, rx18⟩ := nmul rc3 ra1
  obtain ⟨x19, Hx19, rx19⟩ := nmul rc1 ra3
  obtain ⟨x20, Hx20, rx20⟩ := nsub rx18.out rx19.out
  obtain ⟨x21, Hx21, rx21⟩ := nmul rc1 ra2
  obtain ⟨x22, Hx22, rx22⟩ := nmul rc2 ra1
  obtain ⟨x23, Hx23, rx23⟩ := nsub rx21.out rx22.out
  obtain ⟨x24, Hx24, rx24⟩ := nmul ra2 rb3
  obtain ⟨x25, Hx25, rx25⟩ := nmul ra3 rb2
  obtain ⟨x26, Hx26, rx26⟩ := nsub rx24.out rx25.out
  obtain ⟨x27, Hx27, rx27⟩ := nmul ra3 rb1
  obtain ⟨x28, Hx28, rx28⟩ := nmul ra1 rb3
  obtain ⟨x29, Hx29, rx29⟩ := nsub rx27.out rx28.out
  obtain ⟨x30, Hx30, rx30⟩ := nmul ra1 rb2
  obtain ⟨x31, Hx31, rx31⟩ := nmul ra2 rb1
  obtain ⟨x32, Hx32, rx32⟩ := nsub rx30.out rx31.out
  obtain ⟨x33, Hx33, rx33⟩ := ndiv rlen_c_1 rx14.out HD.out
  obtain ⟨x34, Hx34, rx34⟩ := nmul rx3.out rd1
  obtain ⟨x35, Hx35, rx35⟩ := nmul rx6.out rd1
  obtain ⟨x36, Hx36, rx36⟩ := nmul rx9.out rd1
  obtain ⟨x37, Hx37, rx37⟩ := nmul rx17.out rd2
  obtain ⟨x38, Hx38, rx38⟩ := nmul rx20.out rd2
  obtain ⟨x39, Hx39, rx39⟩ := nmul rx23.out rd2
  obtain ⟨x40, Hx40, rx40⟩ := nadd rx34.out rx37.out
  obtain ⟨x41, Hx41, rx41⟩ := nadd rx35.out rx38.out
  obtain ⟨x42, Hx42, rx42⟩ := nadd rx36.out rx39.out
  obtain ⟨x43, Hx43, rx43⟩ := nmul rx26.out rd3
  obtain ⟨x44, Hx44, rx44⟩ := nmul rx29.out rd3
  obtain ⟨x45, Hx45, rx45⟩ := nmul rx32.out rd3
  obtain ⟨x46, Hx46, rx46⟩ := nadd rx40.out rx43.out
  obtain ⟨x47, Hx47, rx47⟩ := nadd rx41.out rx44.out
  obtain ⟨x48, Hx48, rx48⟩ := nadd rx42.out rx45.out
  obtain ⟨x49, Hx49, rx49⟩ := nmul rx46.out rx33.out
  obtain ⟨x50, Hx50, rx50⟩ := nmul rx47.out rx33.out
  obtain ⟨x51, Hx51, rx51⟩ := nmul rx48.out rx33.out
  clear hd
  go_enter Tryz.func54, Tryz.ntmps54
  refine enter_abs fun ac0 d0 z0 he0 => ?_
  have hU0 := Up.refl w
  have T0_0 := he0 0 _ rfl
  have T1_0 := he0 1 _ rfl
  replace z0 : ac0.tmps.size = 53 := z0
  clear he0
  refine wp_seq_k fun K0 hK0 => ?_
  refine region_line 53 (dso [2, 3, 4, 5]) [0, 1, 2, 999] [1, 1, 1, 0] [] []
   [fun b => .pointer (some ⟨b, 0, none⟩), fun b => .pointer (some ⟨b, 0, none⟩), fun b => .pointer (some ⟨b, 0, none⟩), fun _ => .bool false]
   [Bw [.string (rB a1), .string (rB a2), .string (rB a3), .string (rB b1), .string (rB b2), .string (rB b3), .string (rB c1), .string (rB c2), .string (rB c3)], Bw [.string (rB d1), .string (rB d2), .string (rB d3)], Bw [.string ⟨#[]⟩, .string ⟨#[]⟩, .string ⟨#[]⟩], T0]
   [] ([] : List Nat) w z0 (by kernel_rfl) ⟨Bw.loc _, Bw.loc _, Bw.loc _, loc_true, trivial⟩ trivial (allB_of trivial) List.nodup_nil hU0 (allG_of trivial) (fun β hβ => ?_) ?_
  · refine sc ?_ (sc ?_ (sc ?_ (sc ?_ (sn))))
    · refine sr rfl fun av wq hUw h K k => ?_
      have eh0 := h.B 0 T0_0
      clear h; go_simp
      exact k _ _ (PostN rfl rfl rfl rfl rfl)
    · refine sr rfl fun av wq hUw h K k => ?_
      have eh1 := h.B 1 T1_0
      clear h; go_simp
      exact k _ _ (PostN rfl rfl rfl rfl rfl)
    · refine sr rfl fun av wq hUw h K k => ?_
      clear h; go_simp
      exact k _ _ (PostN rfl rfl rfl rfl rfl)
    · refine sr rfl fun av wq hUw h K k => ?_
      clear h; go_simp
      exact k _ _ P0
  refine end_of fun bt1 ac1 wd1 d1 z1 hU1 v1 g1 => ?_
  replace d1 := d1.trans d0; replace z1 := z1.trans z0
  clear d0 z0
  refine hK0 _ _ ?_
  refine wp_seq_k fun K1 hK1 => ?_
  refine region_draw follows_mixed 53 (dso [11, 12, 13, 14, 15, 16, 17, 18, 19, 20, 21, 22, 23, 24, 25, 6, 7, 8, 999, 999, 999]) [999, 999, 999, 999, 999, 999, 999, 999, 999, 999, 999, 999, 999, 999, 999, 15, 16, 17, 15, 16, 17] [0, 0, 0, 0, 0, 0, 0, 0, 0, 0, 0, 0, 0, 0, 0, 1, 1, 1, 2, 2, 2] [999, 999, 999, 999, 999, 999, 999, 999, 999, 999, 999, 999, 999, 999, 999, 18, 19, 20, 999, 999, 999] [] [[], [0], [], [2], [0, 1, 2, 3], [], [5], [], [7], [0, 1, 2, 3, 4, 5, 6, 7, 8], [], [10], [], [12], [0, 1, 2, 3, 4, 5, 6, 7, 8, 9, 10, 11, 12, 13], [], [], [], [0, 1, 2, 3, 4, 5, 6, 7, 8, 9, 10, 11, 12, 13, 14, 15, 16, 17], [0, 1, 2, 3, 4, 5, 6, 7, 8, 9, 10, 11, 12, 13, 14, 15, 16, 17, 18], [0, 1, 2, 3, 4, 5, 6, 7, 8, 9, 10, 11, 12, 13, 14, 15, 16, 17, 18, 19]]
   [fun _ => .pointer (some ⟨(bt1 0), 3, none⟩), fun _ => .agg #[.string (rB b1), .string (rB b2), .string (rB b3)], fun _ => .pointer (some ⟨(bt1 0), 6, none⟩), fun _ => .agg #[.string (rB c1), .string (rB c2), .string (rB c3)], fun _ => .agg #[.string (rB x3), .string (rB x6), .string (rB x9)], fun _ => .pointer (some ⟨(bt1 0), 6, none⟩), fun _ => .agg #[.string (rB c1), .string (rB c2), .string (rB c3)], fun _ => .pointer (some ⟨(bt1 0), 0, none⟩), fun _ => .agg #[.string (rB a1), .string (rB a2), .string (rB a3)], fun _ => .agg #[.string (rB x17), .string (rB x20), .string (rB x23)], fun _ => .pointer (some ⟨(bt1 0), 0, none⟩), fun _ => .agg #[.string (rB a1), .string (rB a2), .string (rB a3)], fun _ => .pointer (some ⟨(bt1 0), 3, none⟩), fun _ => .agg #[.string (rB b1), .string (rB b2), .string (rB b3)], fun _ => .agg #[.string (rB x26), .string (rB x29), .string (rB x32)], fun b => .pointer (some ⟨b, 0, none⟩), fun b => .pointer (some ⟨b, 0, none⟩), fun b => .pointer (some ⟨b, 0, none⟩), fun _ => undef, fun _ => undef, fun _ => undef]
   [T0, T0, T0, T0, T0, T0, T0, T0, T0, T0, T0, T0, T0, T0, T0, Bw [.string ⟨#[]⟩, .string ⟨#[]⟩, .string ⟨#[]⟩], Bw [.string ⟨#[]⟩, .string ⟨#[]⟩, .string ⟨#[]⟩], Bw [.string ⟨#[]⟩, .string ⟨#[]⟩, .string ⟨#[]⟩], Bw [.string (rB x3), .string (rB x6), .string (rB x9)], Bw [.string (rB x17), .string (rB x20), .string (rB x23)], Bw [.string (rB x26), .string (rB x29), .string (rB x32)]]
   [] [(bt1 0), (bt1 1), (bt1 2)] w z1 (by kernel_rfl) ⟨loc_true, loc_true, loc_true, loc_true, loc_true, loc_true, loc_true, loc_true, loc_true, loc_true, loc_true, loc_true, loc_true, loc_true, loc_true, Bw.loc _, Bw.loc _, Bw.loc _, Bw.loc _, Bw.loc _, Bw.loc _, trivial⟩ trivial g1.B g1.N hU1 (allG_of trivial) (fun β hβ => ?_) ?_
  · refine sc ?_ (sc ?_ (sc ?_ (sc ?_ (sc ?_ (sc ?_ (sc ?_ (sc ?_ (sc ?_ (sc ?_ (sc ?_ (sc ?_ (sc ?_ (sc ?_ (sc ?_ (sc ?_ (sc ?_ (sc ?_ (sc ?_ (sc ?_ (sc ?_ (sn)))))))))))))))))))))
    · refine sr rfl fun av wq hUw h K k => ?_
      have eh2 := h.B 2 (g1.T 0 2)
      clear h; go_simp
      exact k _ _ P0
    · refine sr rfl fun av wq hUw h K k => ?_
      have eh11 := h.A 0 11
      have eb0 := (g1.f 0 rfl rfl rfl rfl).up (h.W rfl)
      obtain ⟨ec0, ec1, ec2⟩ := eb0.c3 3 4 5
      clear h; go_simp
      exact k _ _ P0
    · refine sr rfl fun av wq hUw h K k => ?_
      have eh2 := h.B 2 (g1.T 0 2)
      clear h; go_simp
      exact k _ _ P0
    · refine sr rfl fun av wq hUw h K k => ?_
      have eh13 := h.A 2 13
      have eb0 := (g1.f 0 rfl rfl rfl rfl).up (h.W rfl)
      obtain ⟨ec0, ec1, ec2⟩ := eb0.c3 6 7 8
      clear h; go_simp
      exact k _ _ P0
    · refine sr rfl fun av wq hUw h K k => ?_
      have eh12 := h.A 1 12
      have eh14 := h.A 3 14
      have hEw := hE.up hUw
      have hcc := slip_cross b1 b2 b3 c1 c2 c3 wq hEw (Nat.le_trans rb1 (by decide)) (Nat.le_trans rb2 (by decide)) (Nat.le_trans rb3 (by decide)) (Nat.le_trans rc1 (by decide)) (Nat.le_trans rc2 (by decide)) (Nat.le_trans rc3 (by decide))
      rw [← Hx1.out, ← Hx2.out, ← Hx3.out, ← Hx4.out, ← Hx5.out, ← Hx6.out, ← Hx7.out, ← Hx8.out, ← Hx9.out] at hcc
      clear h; go_simp
      refine (hcc).mono ?_
      rintro _ w2 ⟨rfl, hX⟩
      exact k _ _ (PD hX)
    · refine sr rfl fun av wq hUw h K k => ?_
      have eh2 := h.B 2 (g1.T 0 2)
      clear h; go_simp
      exact k _ _ P0
    · refine sr rfl fun av wq hUw h K k => ?_
      have eh16 := h.A 5 16
      have eb0 := (g1.f 0 rfl rfl rfl rfl).up (h.W rfl)
      obtain ⟨ec0, ec1, ec2⟩ := eb0.c3 6 7 8
      clear h; go_simp
      exact k _ _ P0
    · refine sr rfl fun av wq hUw h K k => ?_
      have eh2 := h.B 2 (g1.T 0 2)
      clear h; go_simp
      exact k _ _ P0
    · refine sr rfl fun av wq hUw h K k => ?_
      have eh18 := h.A 7 18
      have eb0 := (g1.f 0 rfl rfl rfl rfl).up (h.W rfl)
      obtain ⟨ec0, ec1, ec2⟩ := eb0.c3 0 1 2
      clear h; go_simp
      exact k _ _ P0
    · refine sr rfl fun av wq hUw h K k => ?_
      have eh17 := h.A 6 17
      have eh19 := h.A 8 19
      have hEw := hE.up hUw
      have hcc := slip_cross c1 c2 c3 a1 a2 a3 wq hEw (Nat.le_trans rc1 (by decide)) (Nat.le_trans rc2 (by decide)) (Nat.le_trans rc3 (by decide)) (Nat.le_trans ra1 (by decide)) (Nat.le_trans ra2 (by decide)) (Nat.le_trans ra3 (by decide))
      rw [← Hx15.out, ← Hx16.out, ← Hx17.out, ← Hx18.out, ← Hx19.out, ← Hx20.out, ← Hx21.out, ← Hx22.out, ← Hx23.out] at hcc
      clear h; go_simp
      refine (hcc).mono ?_
      rintro _ w2 ⟨rfl, hX⟩
      exact k _ _ (PD hX)
    · refine sr rfl fun av wq hUw h K k => ?_
      have eh2 := h.B 2 (g1.T 0 2)
      clear h; go_simp
      exact k _ _ P0
    · refine sr rfl fun av wq hUw h K k => ?_
      have eh21 := h.A 10 21
      have eb0 := (g1.f 0 rfl rfl rfl rfl).up (h.W rfl)
      obtain ⟨ec0, ec1, ec2⟩ := eb0.c3 0 1 2
      clear h; go_simp
      exact k _ _ P0
    · refine sr rfl fun av wq hUw h K k => ?_
      have eh2 := h.B 2 (g1.T 0 2)
      clear h; go_simp
      exact k _ _ P0
    · refine sr rfl fun av wq hUw h K k => ?_
      have eh23 := h.A 12 23
      have eb0 := (g1.f 0 rfl rfl rfl rfl).up (h.W rfl)
      obtain ⟨ec0, ec1, ec2⟩ := eb0.c3 3 4 5
      clear h; go_simp
      exact k _ _ P0
    · refine sr rfl fun av wq hUw h K k => ?_
      have eh22 := h.A 11 22
      have eh24 := h.A 13 24
      have hEw := hE.up hUw
      have hcc := slip_cross a1 a2 a3 b1 b2 b3 wq hEw (Nat.le_trans ra1 (by decide)) (Nat.le_trans ra2 (by decide)) (Nat.le_trans ra3 (by decide)) (Nat.le_trans rb1 (by decide)) (Nat.le_trans rb2 (by decide)) (Nat.le_trans rb3 (by decide))
      rw [← Hx24.out, ← Hx25.out, ← Hx26.out, ← Hx27.out, ← Hx28.out, ← Hx29.out, ← Hx30.out, ← Hx31.out, ← Hx32.out] at hcc
      clear h; go_simp
      refine (hcc).mono ?_
      rintro _ w2 ⟨rfl, hX⟩
      exact k _ _ (PD hX)
    · refine sr rfl fun av wq hUw h K k => ?_
      clear h; go_simp
      exact k _ _ (PostN rfl rfl rfl rfl rfl)
    · refine sr rfl fun av wq hUw h K k => ?_
      clear h; go_simp
      exact k _ _ (PostN rfl rfl rfl rfl rfl)
    · refine sr rfl fun av wq hUw h K k => ?_
      clear h; go_simp
      exact k _ _ (PostN rfl rfl rfl rfl rfl)
    · refine sr rfl fun av wq hUw h K k => ?_
      have eh6 := h.A 15 6
      have eh15 := h.A 4 15
      have eb0 := h.F 15
      obtain ⟨ec0, ec1, ec2⟩ := eb0.c3 0 1 2; obtain ⟨ef0, ef1, ef2⟩ := eb0.f3 0 1 2
      clear h; go_simp
      exact k _ _ (PostS rfl rfl rfl rfl rfl rfl ((((Sto.refl _ _).set 0 _).set 1 _).set 2 _) ((((eb0).set 0 rfl _).set 1 rfl _).set 2 rfl _))
    · refine sr rfl fun av wq hUw h K k => ?_
      have eh7 := h.A 16 7
      have eh20 := h.A 9 20
      have eb0 := h.F 16
      obtain ⟨ec0, ec1, ec2⟩ := eb0.c3 0 1 2; obtain ⟨ef0, ef1, ef2⟩ := eb0.f3 0 1 2
      clear h; go_simp
      exact k _ _ (PostS rfl rfl rfl rfl rfl rfl ((((Sto.refl _ _).set 0 _).set 1 _).set 2 _) ((((eb0).set 0 rfl _).set 1 rfl _).set 2 rfl _))
    · refine sr rfl fun av wq hUw h K k => ?_
      have eh8 := h.A 17 8
      have eh25 := h.A 14 25
      have eb0 := h.F 17
      obtain ⟨ec0, ec1, ec2⟩ := eb0.c3 0 1 2; obtain ⟨ef0, ef1, ef2⟩ := eb0.f3 0 1 2
      clear h; go_simp
      exact k _ _ (PostS rfl rfl rfl rfl rfl rfl ((((Sto.refl _ _).set 0 _).set 1 _).set 2 _) ((((eb0).set 0 rfl _).set 1 rfl _).set 2 rfl _))
  refine end_of fun bt2 ac2 wd2 d2 z2 hU2 v2 g2 => ?_
  replace d2 := d2.trans d1; replace z2 := z2.trans z1
  clear d1 z1
  refine hK1 _ _ ?_
  refine wp_seq_k fun K2 hK2 => ?_
  refine region_line 53 (dso [27, 28, 29, 30, 31, 26, 32, 33, 9, 10]) [999, 999, 999, 999, 999, 999, 999, 999, 999, 999] [0, 0, 0, 0, 0, 0, 0, 0, 0, 0] [] []
   [fun _ => .pointer (some ⟨(bt1 0), 0, none⟩), fun _ => .agg #[.string (rB a1), .string (rB a2), .string (rB a3)], fun _ => .agg #[.string (rB x3), .string (rB x6), .string (rB x9)], fun _ => .string (rB x14), fun _ => .tuple #[.string (rB x33), .int .i64 0], fun _ => .tuple #[.string (rB x33), .int .i64 0], fun _ => .string (rB x33), fun _ => .int .i64 0, fun _ => .string (rB x33), fun _ => .int .i64 0]
   [T0, T0, T0, T0, T0, T0, T0, T0, T0, T0]
   [] [(bt1 0), (bt1 1), (bt1 2), (bt2 15), (bt2 16), (bt2 17)] w z2 (by kernel_rfl) ⟨loc_true, loc_true, loc_true, loc_true, loc_true, loc_true, loc_true, loc_true, loc_true, loc_true, trivial⟩ trivial g2.B g2.N hU2 (allG_of trivial) (fun β hβ => ?_) ?_
  · refine sc ?_ (sc ?_ (sc ?_ (sc ?_ (sc ?_ (sc ?_ (sc ?_ (sc ?_ (sc ?_ (sc ?_ (sn))))))))))
    · refine sr rfl fun av wq hUw h K k => ?_
      have eh2 := h.B 2 ((v2 2 rfl).trans (g1.T 0 2))
      clear h; go_simp
      exact k _ _ P0
    · refine sr rfl fun av wq hUw h K k => ?_
      have eh27 := h.A 0 27
      have eb0 := ((g1.f 0 rfl rfl rfl rfl).up (g2.W rfl)).up (h.W rfl)
      obtain ⟨ec0, ec1, ec2⟩ := eb0.c3 0 1 2
      clear h; go_simp
      exact k _ _ P0
    · refine sr rfl fun av wq hUw h K k => ?_
      have eh6 := h.B 6 (g2.T 15 6)
      have eb0 := (g2.f 18 rfl rfl rfl rfl).up (h.W rfl)
      obtain ⟨ec0, ec1, ec2⟩ := eb0.c3 0 1 2
      clear h; go_simp
      exact k _ _ P0
    · refine sr rfl fun av wq hUw h K k => ?_
      have eh28 := h.A 1 28
      have eh29 := h.A 2 29
      have hEw := hE.up hUw
      have hcc := slip_dot a1 a2 a3 x3 x6 x9 wq hEw (Nat.le_trans ra1 (by decide)) (Nat.le_trans ra2 (by decide)) (Nat.le_trans ra3 (by decide)) (Nat.le_trans rx3.out (by decide)) (Nat.le_trans rx6.out (by decide)) (Nat.le_trans rx9.out (by decide))
      rw [← Hx10.out, ← Hx11.out, ← Hx12.out, ← Hx13.out, ← Hx14.out] at hcc
      clear h; go_simp
      refine (hcc).mono ?_
      rintro _ w2 ⟨rfl, hX⟩
      exact k _ _ (PD hX)
    · refine sr rfl fun av wq hUw h K k => ?_
      have eh30 := h.A 3 30
      have hEw := hE.up hUw
      have hcc := rat_div 1 x14 wq hEw (Nat.le_trans rlen_c_1 (by decide)) (Nat.le_trans rx14.out (by decide)) HD.out
      rw [rB_one, ← Hx33.out] at hcc
      clear h; go_simp
      refine (hcc).mono ?_
      rintro _ w2 ⟨rfl, hX⟩
      exact k _ _ (PD hX)
    · refine sr rfl fun av wq hUw h K k => ?_
      have eh31 := h.A 4 31
      clear h; go_simp
      exact k _ _ P0
    · refine sr rfl fun av wq hUw h K k => ?_
      have eh26 := h.A 5 26
      clear h; go_simp
      exact k _ _ P0
    · refine sr rfl fun av wq hUw h K k => ?_
      have eh26 := h.A 5 26
      clear h; go_simp
      exact k _ _ P0
    · refine sr rfl fun av wq hUw h K k => ?_
      have eh32 := h.A 6 32
      clear h; go_simp
      exact k _ _ P0
    · refine sr rfl fun av wq hUw h K k => ?_
      have eh33 := h.A 7 33
      clear h; go_simp
      exact k _ _ P0
  refine end_of fun bt3 ac3 wd3 d3 z3 hU3 v3 g3 => ?_
  replace d3 := d3.trans d2; replace z3 := z3.trans z2
  clear d2 z2
  refine hK2 _ _ ?_
  refine wp_seq_k fun K3 hK3 => ?_
  refine wp_seq_k fun K4 hK4 => ?_
  refine region_line 53 (dso [34, 35]) [999, 999] [0, 0] [] []
   [fun _ => .int .i64 0, fun _ => .bool false]
   [T0, T0]
   [] [(bt1 0), (bt1 1), (bt1 2), (bt2 15), (bt2 16), (bt2 17)] w z3 (by kernel_rfl) ⟨loc_true, loc_true, trivial⟩ trivial g3.B g3.N hU3 (allG_of trivial) (fun β hβ => ?_) ?_
  · refine sc ?_ (sc ?_ (sn))
    · refine sr rfl fun av wq hUw h K k => ?_
      have eh10 := h.B 10 (g3.T 9 10)
      clear h; go_simp
      exact k _ _ P0
    · refine sr rfl fun av wq hUw h K k => ?_
      have eh34 := h.A 0 34
      clear h; go_simp
      exact k _ _ P0
  refine end_of fun bt4 ac4 wd4 d4 z4 hU4 v4 g4 => ?_
  replace d4 := d4.trans d3; replace z4 := z4.trans z3
  clear d3 z3
  refine hK4 _ _ ?_
  refine wp_cond_false (eval_of (g4.T 1 35)) ?_
  refine wp_skip ?_
  refine hK3 _ _ ?_
  refine wp_seq_k fun K5 hK5 => ?_
  refine region_draw follows_mixed 53 (dso [37, 38, 39, 40, 41, 42, 43, 44, 45, 46, 47, 48, 49, 50, 51, 52, 999, 5]) [999, 999, 999, 999, 999, 999, 999, 999, 999, 999, 999, 999, 999, 999, 999, 999, 20, 999] [0, 0, 0, 0, 0, 0, 0, 0, 0, 0, 0, 0, 0, 0, 0, 0, 2, 0] [] [999, 999, 16, 999, 999, 999] [[], [], [1], [0, 1, 2], [], [], [5], [0, 1, 2, 3, 4, 5, 6], [0, 1, 2, 3, 4, 5, 6, 7], [], [], [10], [0, 1, 2, 3, 4, 5, 6, 7, 8, 9, 10, 11], [0, 1, 2, 3, 4, 5, 6, 7, 8, 9, 10, 11, 12], [], [0, 1, 2, 3, 4, 5, 6, 7, 8, 9, 10, 11, 12, 13, 14], [0, 1, 2, 3, 4, 5, 6, 7, 8, 9, 10, 11, 12, 13, 14, 15], [0, 1, 2, 3, 4, 5, 6, 7, 8, 9, 10, 11, 12, 13, 14, 15, 16]]
   [fun _ => .agg #[.string (rB x3), .string (rB x6), .string (rB x9)], fun _ => .pointer (some ⟨(bt1 1), 0, none⟩), fun _ => .string (rB d1), fun _ => .agg #[.string (rB x34), .string (rB x35), .string (rB x36)], fun _ => .agg #[.string (rB x17), .string (rB x20), .string (rB x23)], fun _ => .pointer (some ⟨(bt1 1), 1, none⟩), fun _ => .string (rB d2), fun _ => .agg #[.string (rB x37), .string (rB x38), .string (rB x39)], fun _ => .agg #[.string (rB x40), .string (rB x41), .string (rB x42)], fun _ => .agg #[.string (rB x26), .string (rB x29), .string (rB x32)], fun _ => .pointer (some ⟨(bt1 1), 2, none⟩), fun _ => .string (rB d3), fun _ => .agg #[.string (rB x43), .string (rB x44), .string (rB x45)], fun _ => .agg #[.string (rB x46), .string (rB x47), .string (rB x48)], fun _ => .string (rB x33), fun _ => .agg #[.string (rB x49), .string (rB x50), .string (rB x51)], fun _ => undef, fun _ => .bool true]
   [T0, T0, T0, T0, T0, T0, T0, T0, T0, T0, T0, T0, T0, T0, T0, T0, Bw [.string (rB x49), .string (rB x50), .string (rB x51)], T0]
   [Bw [.string (rB a1), .string (rB a2), .string (rB a3), .string (rB b1), .string (rB b2), .string (rB b3), .string (rB c1), .string (rB c2), .string (rB c3)], Bw [.string (rB d1), .string (rB d2), .string (rB d3)], Bw [.string ⟨#[]⟩, .string ⟨#[]⟩, .string ⟨#[]⟩], Bw [.string (rB x3), .string (rB x6), .string (rB x9)], Bw [.string (rB x17), .string (rB x20), .string (rB x23)], Bw [.string (rB x26), .string (rB x29), .string (rB x32)]] [(bt1 0), (bt1 1), (bt1 2), (bt2 15), (bt2 16), (bt2 17)] w z4 (by kernel_rfl) ⟨loc_true, loc_true, loc_true, loc_true, loc_true, loc_true, loc_true, loc_true, loc_true, loc_true, loc_true, loc_true, loc_true, loc_true, loc_true, loc_true, Bw.loc _, loc_true, trivial⟩ ⟨Bw.loc _, Bw.loc _, Bw.loc _, Bw.loc _, Bw.loc _, Bw.loc _, trivial⟩ g4.B g4.N hU4 (allG_of ⟨(g1.f 0 rfl rfl rfl rfl).up (((g2.W rfl).trans (g3.W rfl)).trans (g4.W rfl)), (g1.f 1 rfl rfl rfl rfl).up (((g2.W rfl).trans (g3.W rfl)).trans (g4.W rfl)), (g1.f 2 rfl rfl rfl rfl).up (((g2.W rfl).trans (g3.W rfl)).trans (g4.W rfl)), (g2.f 18 rfl rfl rfl rfl).up ((g3.W rfl).trans (g4.W rfl)), (g2.f 19 rfl rfl rfl rfl).up ((g3.W rfl).trans (g4.W rfl)), (g2.f 20 rfl rfl rfl rfl).up ((g3.W rfl).trans (g4.W rfl)), trivial⟩) (fun β hβ => ?_) ?_
  · refine sc ?_ (sc ?_ (sc ?_ (sc ?_ (sc ?_ (sc ?_ (sc ?_ (sc ?_ (sc ?_ (sc ?_ (sc ?_ (sc ?_ (sc ?_ (sc ?_ (sc ?_ (sc ?_ (sc ?_ (sc ?_ (sn))))))))))))))))))
    · refine sr rfl fun av wq hUw h K k => ?_
      have eh6 := h.B 6 ((v4 6 rfl).trans ((v3 6 rfl).trans (g2.T 15 6)))
      have eb0 := h.R 3
      obtain ⟨ec0, ec1, ec2⟩ := eb0.c3 0 1 2
      clear h; go_simp
      exact k _ _ P0
    · refine sr rfl fun av wq hUw h K k => ?_
      have eh3 := h.B 3 ((v4 3 rfl).trans ((v3 3 rfl).trans ((v2 3 rfl).trans (g1.T 1 3))))
      clear h; go_simp
      exact k _ _ P0
    · refine sr rfl fun av wq hUw h K k => ?_
      have eh38 := h.A 1 38
      have eb0 := h.R 1
      have ec0 := eb0.cell 0 rfl
      clear h; go_simp
      exact k _ _ P0
    · refine sr rfl fun av wq hUw h K k => ?_
      have eh37 := h.A 0 37
      have eh39 := h.A 2 39
      have hEw := hE.up hUw
      have hcc := slip_scale x3 x6 x9 d1 wq hEw (Nat.le_trans rx3.out (by decide)) (Nat.le_trans rx6.out (by decide)) (Nat.le_trans rx9.out (by decide)) (Nat.le_trans rd1 (by decide))
      rw [← Hx34.out, ← Hx35.out, ← Hx36.out] at hcc
      clear h; go_simp
      refine (hcc).mono ?_
      rintro _ w2 ⟨rfl, hX⟩
      exact k _ _ (PD hX)
    · refine sr rfl fun av wq hUw h K k => ?_
      have eh7 := h.B 7 ((v4 7 rfl).trans ((v3 7 rfl).trans (g2.T 16 7)))
      have eb0 := h.R 4
      obtain ⟨ec0, ec1, ec2⟩ := eb0.c3 0 1 2
      clear h; go_simp
      exact k _ _ P0
    · refine sr rfl fun av wq hUw h K k => ?_
      have eh3 := h.B 3 ((v4 3 rfl).trans ((v3 3 rfl).trans ((v2 3 rfl).trans (g1.T 1 3))))
      clear h; go_simp
      exact k _ _ P0
    · refine sr rfl fun av wq hUw h K k => ?_
      have eh42 := h.A 5 42
      have eb0 := h.R 1
      have ec0 := eb0.cell 1 rfl
      clear h; go_simp
      exact k _ _ P0
    · refine sr rfl fun av wq hUw h K k => ?_
      have eh41 := h.A 4 41
      have eh43 := h.A 6 43
      have hEw := hE.up hUw
      have hcc := slip_scale x17 x20 x23 d2 wq hEw (Nat.le_trans rx17.out (by decide)) (Nat.le_trans rx20.out (by decide)) (Nat.le_trans rx23.out (by decide)) (Nat.le_trans rd2 (by decide))
      rw [← Hx37.out, ← Hx38.out, ← Hx39.out] at hcc
      clear h; go_simp
      refine (hcc).mono ?_
      rintro _ w2 ⟨rfl, hX⟩
      exact k _ _ (PD hX)
    · refine sr rfl fun av wq hUw h K k => ?_
      have eh40 := h.A 3 40
      have eh44 := h.A 7 44
      have hEw := hE.up hUw
      have hcc := slip_add x34 x35 x36 x37 x38 x39 wq hEw (Nat.le_trans rx34.out (by decide)) (Nat.le_trans rx35.out (by decide)) (Nat.le_trans rx36.out (by decide)) (Nat.le_trans rx37.out (by decide)) (Nat.le_trans rx38.out (by decide)) (Nat.le_trans rx39.out (by decide))
      rw [← Hx40.out, ← Hx41.out, ← Hx42.out] at hcc
      clear h; go_simp
      refine (hcc).mono ?_
      rintro _ w2 ⟨rfl, hX⟩
      exact k _ _ (PD hX)
    · refine sr rfl fun av wq hUw h K k => ?_
      have eh8 := h.B 8 ((v4 8 rfl).trans ((v3 8 rfl).trans (g2.T 17 8)))
      have eb0 := h.R 5
      obtain ⟨ec0, ec1, ec2⟩ := eb0.c3 0 1 2
      clear h; go_simp
      exact k _ _ P0
    · refine sr rfl fun av wq hUw h K k => ?_
      have eh3 := h.B 3 ((v4 3 rfl).trans ((v3 3 rfl).trans ((v2 3 rfl).trans (g1.T 1 3))))
      clear h; go_simp
      exact k _ _ P0
    · refine sr rfl fun av wq hUw h K k => ?_
      have eh47 := h.A 10 47
      have eb0 := h.R 1
      have ec0 := eb0.cell 2 rfl
      clear h; go_simp
      exact k _ _ P0
    · refine sr rfl fun av wq hUw h K k => ?_
      have eh46 := h.A 9 46
      have eh48 := h.A 11 48
      have hEw := hE.up hUw
      have hcc := slip_scale x26 x29 x32 d3 wq hEw (Nat.le_trans rx26.out (by decide)) (Nat.le_trans rx29.out (by decide)) (Nat.le_trans rx32.out (by decide)) (Nat.le_trans rd3 (by decide))
      rw [← Hx43.out, ← Hx44.out, ← Hx45.out] at hcc
      clear h; go_simp
      refine (hcc).mono ?_
      rintro _ w2 ⟨rfl, hX⟩
      exact k _ _ (PD hX)
    · refine sr rfl fun av wq hUw h K k => ?_
      have eh45 := h.A 8 45
      have eh49 := h.A 12 49
      have hEw := hE.up hUw
      have hcc := slip_add x40 x41 x42 x43 x44 x45 wq hEw (Nat.le_trans rx40.out (by decide)) (Nat.le_trans rx41.out (by decide)) (Nat.le_trans rx42.out (by decide)) (Nat.le_trans rx43.out (by decide)) (Nat.le_trans rx44.out (by decide)) (Nat.le_trans rx45.out (by decide))
      rw [← Hx46.out, ← Hx47.out, ← Hx48.out] at hcc
      clear h; go_simp
      refine (hcc).mono ?_
      rintro _ w2 ⟨rfl, hX⟩
      exact k _ _ (PD hX)
    · refine sr rfl fun av wq hUw h K k => ?_
      have eh9 := h.B 9 ((v4 9 rfl).trans (g3.T 8 9))
      clear h; go_simp
      exact k _ _ P0
    · refine sr rfl fun av wq hUw h K k => ?_
      have eh50 := h.A 13 50
      have eh51 := h.A 14 51
      have hEw := hE.up hUw
      have hcc := slip_scale x46 x47 x48 x33 wq hEw (Nat.le_trans rx46.out (by decide)) (Nat.le_trans rx47.out (by decide)) (Nat.le_trans rx48.out (by decide)) (Nat.le_trans rx33.out (by decide))
      rw [← Hx49.out, ← Hx50.out, ← Hx51.out] at hcc
      clear h; go_simp
      refine (hcc).mono ?_
      rintro _ w2 ⟨rfl, hX⟩
      exact k _ _ (PD hX)
    · refine sr rfl fun av wq hUw h K k => ?_
      have hb2 : β 20 = (bt1 2) := hβ 2 (by simp)
      have eh4 := h.B 4 ((v4 4 rfl).trans ((v3 4 rfl).trans ((v2 4 rfl).trans (g1.T 2 4))))
      have eh52 := h.A 15 52
      have eb0 := h.R 2
      obtain ⟨ec0, ec1, ec2⟩ := eb0.c3 0 1 2; obtain ⟨ef0, ef1, ef2⟩ := eb0.f3 0 1 2
      clear h; go_simp
      exact k _ _ (PostS rfl rfl rfl rfl hb2 rfl ((((Sto.refl _ _).set 0 _).set 1 _).set 2 _) ((((eb0).set 0 rfl _).set 1 rfl _).set 2 rfl _))
    · refine sr rfl fun av wq hUw h K k => ?_
      clear h; go_simp
      exact k _ _ P0
  refine end_of fun bt5 ac5 wd5 d5 z5 hU5 v5 g5 => ?_
  replace d5 := d5.trans d4; replace z5 := z5.trans z4
  clear d4 z4
  have B2_5 := g5.F 16
  rw [show bt5 20 = (bt1 2) from g5.β 2 (by simp)] at B2_5
  refine hK5 _ _ ?_
  have et4 := (v5 4 rfl).trans ((v4 4 rfl).trans ((v3 4 rfl).trans ((v2 4 rfl).trans (g1.T 2 4))))
  have eb4 := B2_5
  have ec1 := eb4.cell 0 rfl
  have ec2 := eb4.cell 1 rfl
  have ec3 := eb4.cell 2 rfl
  have et5 := g5.T 17 5
  refine wp_ret ?_
  refine bodyPost_ret (v := .tuple #[.agg #[.string (rB x49), .string (rB x50), .string (rB x51)], .bool true]) (by simp [results, Tryz.f54, go_sem, et4, ec1, ec2, ec3, et5]) d5 ?_
  exact ⟨by simp only [Hx49.out, Hx46.out, Hx40.out, Hx34.out, Hx3.out, Hx1.out, Hx2.out, Hx37.out, Hx17.out, Hx15.out, Hx16.out, Hx43.out, Hx26.out, Hx24.out, Hx25.out, Hx33.out, Hx14.out, Hx12.out, Hx10.out, Hx11.out, Hx6.out, Hx4.out, Hx5.out, Hx13.out, Hx9.out, Hx7.out, Hx8.out, Hx50.out, Hx47.out, Hx41.out, Hx35.out, Hx38.out, Hx20.out, Hx18.out, Hx19.out, Hx44.out, Hx29.out, Hx27.out, Hx28.out, Hx51.out, Hx48.out, Hx42.out, Hx36.out, Hx39.out, Hx23.out, Hx21.out, Hx22.out, Hx45.out, Hx32.out, Hx30.out, Hx31.out], hU5⟩

end Go.Proofs.Klp
