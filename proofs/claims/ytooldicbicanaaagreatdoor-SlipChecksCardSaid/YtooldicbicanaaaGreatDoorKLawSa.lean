/- The law SlipSolves: long texts. -/
import Derived.Test.YtooldicbicanaaaGreatDoorKKnown
namespace Go.Proofs.Klp
open Go.RowKit Go.Shelf
attribute [local go_sem ↓] Go.wp_at_zero Go.wp_at_succ

/-- the greater number, as max is reckoned -/
def mx2 (a b : Int) : Int := if b > a then b else a
set_option maxRecDepth 100000 in
set_option maxHeartbeats 4000000 in
theorem law_dot (a1 a2 a3 b1 b2 b3 : Rat) (w : World) (hE : Env w) (ra1 : rlen a1 ≤ 1000) (ra2 : rlen a2 ≤ 1000) (ra3 : rlen a3 ≤ 1000) (rb1 : rlen b1 ≤ 1000) (rb2 : rlen b2 ≤ 1000) (rb3 : rlen b3 ≤ 1000) :
    Calls Tryz.prog 17 #[.agg #[.string (rB a1), .string (rB a2), .string (rB a3)], .agg #[.string (rB b1), .string (rB b2), .string (rB b3)]] w (Ret w (.string (rB (((a1 * b1) + (a2 * b2)) + (a3 * b3))))) := by
  obtain ⟨x1, Hx1, rx1⟩ := nmul ra1 rb1
  obtain ⟨x2, Hx2, rx2⟩ := nmul ra2 rb2
  obtain ⟨x3, Hx3, rx3⟩ := nadd rx1.out rx2.out
  obtain ⟨x4, Hx4, rx4⟩ := nmul ra3 rb3
  obtain ⟨x5, Hx5, rx5⟩ := nadd rx3.out rx4.out
  go_enter Tryz.func17, Tryz.ntmps17
  refine enter_abs fun ac0 d0 z0 he0 => ?_
  have hU0 := Up.refl w
  have T0_0 := he0 0 _ rfl
  have T1_0 := he0 1 _ rfl
  replace z0 : ac0.tmps.size = 8 := z0
  clear he0
  refine wp_seq_k fun K0 hK0 => ?_
  refine region_line 8 (dso [2, 3, 4]) [0, 1, 999] [1, 1, 0] [] []
   [fun b => .pointer (some ⟨b, 0, none⟩), fun b => .pointer (some ⟨b, 0, none⟩), fun _ => .string ⟨#[]⟩]
   [Bw [.string (rB a1), .string (rB a2), .string (rB a3)], Bw [.string (rB b1), .string (rB b2), .string (rB b3)], T0]
   [] ([] : List Nat) w z0 (by kernel_rfl) ⟨Bw.loc _, Bw.loc _, loc_true, trivial⟩ trivial (allB_of trivial) List.nodup_nil hU0 (allG_of trivial) (fun β hβ => ?_) ?_
  · refine sc ?_ (sc ?_ (sc ?_ (sn)))
    · refine sr rfl fun av wq hUw h K k => ?_
      have eh0 := h.B 0 T0_0
      clear h; go_simp
      exact k _ _ (PostN rfl rfl rfl rfl rfl)
    · refine sr rfl fun av wq hUw h K k => ?_
      have eh1 := h.B 1 T1_0
      clear h; go_simp
      exact k _ _ (PostN rfl rfl rfl rfl rfl)
    · refine sr rfl fun av wq hUw h K k => ?_
      clear h; go_simp
      exact k _ _ P0
  refine end_of fun bt1 ac1 wd1 d1 z1 hU1 v1 g1 => ?_
  replace d1 := d1.trans d0; replace z1 := z1.trans z0
  clear d0 z0
  refine hK0 _ _ ?_
  refine wp_seq_k fun K1 hK1 => ?_
  refine region_line 8 (dso [5, 6, 7, 4]) [999, 999, 999, 999] [0, 0, 0, 0] [] []
   [fun _ => .agg #[.string (rB a1), .string (rB a2), .string (rB a3)], fun _ => .agg #[.string (rB b1), .string (rB b2), .string (rB b3)], fun _ => .string (rB x5), fun _ => .string (rB x5)]
   [T0, T0, T0, T0]
   [] [(bt1 0), (bt1 1)] w z1 (by kernel_rfl) ⟨loc_true, loc_true, loc_true, loc_true, trivial⟩ trivial g1.B g1.N hU1 (allG_of trivial) (fun β hβ => ?_) ?_
  · refine sc ?_ (sc ?_ (sc ?_ (sc ?_ (sn))))
    · refine sr rfl fun av wq hUw h K k => ?_
      have eh2 := h.B 2 (g1.T 0 2)
      have eb0 := (g1.f 0 rfl rfl rfl rfl).up (h.W rfl)
      obtain ⟨ec0, ec1, ec2⟩ := eb0.c3 0 1 2
      clear h; go_simp
      exact k _ _ P0
    · refine sr rfl fun av wq hUw h K k => ?_
      have eh3 := h.B 3 (g1.T 1 3)
      have eb0 := (g1.f 1 rfl rfl rfl rfl).up (h.W rfl)
      obtain ⟨ec0, ec1, ec2⟩ := eb0.c3 0 1 2
      clear h; go_simp
      exact k _ _ P0
    · refine sr rfl fun av wq hUw h K k => ?_
      have eh5 := h.A 0 5
      have eh6 := h.A 1 6
      have hEw := hE.up hUw
      have hcc := r10_dot a1 a2 a3 b1 b2 b3 wq hEw ⟨(Nat.le_trans ra1 (by decide)), (Nat.le_trans ra2 (by decide)), (Nat.le_trans ra3 (by decide))⟩ ⟨(Nat.le_trans rb1 (by decide)), (Nat.le_trans rb2 (by decide)), (Nat.le_trans rb3 (by decide))⟩
      rw [← Hx1.out, ← Hx2.out, ← Hx3.out, ← Hx4.out, ← Hx5.out] at hcc
      clear h; go_simp
      refine (hcc).mono ?_
      rintro _ w2 ⟨rfl, hX⟩
      exact k _ _ (PD hX)
    · refine sr rfl fun av wq hUw h K k => ?_
      have eh7 := h.A 2 7
      clear h; go_simp
      exact k _ _ P0
  refine end_of fun bt2 ac2 wd2 d2 z2 hU2 v2 g2 => ?_
  replace d2 := d2.trans d1; replace z2 := z2.trans z1
  clear d1 z1
  refine hK1 _ _ ?_
  have et4 := g2.T 3 4
  refine wp_ret ?_
  refine bodyPost_ret (v := .string (rB x5)) (by simp [results, Tryz.f17, go_sem, et4]) d2 ?_
  exact ⟨by simp only [Hx5.out, Hx3.out, Hx1.out, Hx2.out, Hx4.out], hU2⟩

end Go.Proofs.Klp
