/- The vector that explains two shifts. -/
import Derived.Test.YtooldicbicanaaaGreatDoorKMeet
namespace Go.Proofs.Klp
open Go.RowKit Go.Shelf
attribute [local go_sem ↓] Go.wp_at_zero Go.wp_at_succ

set_option maxRecDepth 100000 in
set_option maxHeartbeats 4000000 in
theorem slip_solve_ok (f1 f2 f3 fo a1 a2 a3 ao b1 b2 b3 bo am bm : Rat) (w : World) (hE : Env w) (rf1 : rlen f1 ≤ 20) (rf2 : rlen f2 ≤ 20) (rf3 : rlen f3 ≤ 20) (rfo : rlen fo ≤ 20) (ra1 : rlen a1 ≤ 20) (ra2 : rlen a2 ≤ 20) (ra3 : rlen a3 ≤ 20) (rao : rlen ao ≤ 20) (rb1 : rlen b1 ≤ 20) (rb2 : rlen b2 ≤ 20) (rb3 : rlen b3 ≤ 20) (rbo : rlen bo ≤ 20) (ram : rlen am ≤ 20) (rbm : rlen bm ≤ 20) (hF : firstE [errN (okV (rB f1, rB f2, rB f3) && okR (rB fo)), errN (okV (rB a1, rB a2, rB a3) && okR (rB ao)), errN (([rB am] : List ByteArray).all okR), errN (okV (rB b1, rB b2, rB b3) && okR (rB bo)), errN (([rB bm] : List ByteArray).all okR)] = 0) (hZ : ([(rB f1, rB f2, rB f3), (rB a1, rB a2, rB a3), (rB b1, rB b2, rB b3)] : List Tri).any zV = false) (hd : (((f1 * ((a2 * b3) - (a3 * b2))) + (f2 * ((a3 * b1) - (a1 * b3)))) + (f3 * ((a1 * b2) - (a2 * b1)))) ≠ 0) (hO : okV (rB ((((((a2 * b3) - (a3 * b2)) * 0) + (((b2 * f3) - (b3 * f2)) * (am - ao))) + (((f2 * a3) - (f3 * a2)) * (bm - bo))) * (1 / (((f1 * ((a2 * b3) - (a3 * b2))) + (f2 * ((a3 * b1) - (a1 * b3)))) + (f3 * ((a1 * b2) - (a2 * b1)))))), rB ((((((a3 * b1) - (a1 * b3)) * 0) + (((b3 * f1) - (b1 * f3)) * (am - ao))) + (((f3 * a1) - (f1 * a3)) * (bm - bo))) * (1 / (((f1 * ((a2 * b3) - (a3 * b2))) + (f2 * ((a3 * b1) - (a1 * b3)))) + (f3 * ((a1 * b2) - (a2 * b1)))))), rB ((((((a1 * b2) - (a2 * b1)) * 0) + (((b1 * f2) - (b2 * f1)) * (am - ao))) + (((f1 * a2) - (f2 * a1)) * (bm - bo))) * (1 / (((f1 * ((a2 * b3) - (a3 * b2))) + (f2 * ((a3 * b1) - (a1 * b3)))) + (f3 * ((a1 * b2) - (a2 * b1))))))) = true) :
    Calls Tryz.prog 13 #[.agg #[.string (rB f1), .string (rB f2), .string (rB f3), .string (rB fo)], .agg #[.string (rB a1), .string (rB a2), .string (rB a3), .string (rB ao), .string (rB am)], .agg #[.string (rB b1), .string (rB b2), .string (rB b3), .string (rB bo), .string (rB bm)]] w (Ret w (.tuple #[.agg #[.string (rB ((((((a2 * b3) - (a3 * b2)) * 0) + (((b2 * f3) - (b3 * f2)) * (am - ao))) + (((f2 * a3) - (f3 * a2)) * (bm - bo))) * (1 / (((f1 * ((a2 * b3) - (a3 * b2))) + (f2 * ((a3 * b1) - (a1 * b3)))) + (f3 * ((a1 * b2) - (a2 * b1))))))), .string (rB ((((((a3 * b1) - (a1 * b3)) * 0) + (((b3 * f1) - (b1 * f3)) * (am - ao))) + (((f3 * a1) - (f1 * a3)) * (bm - bo))) * (1 / (((f1 * ((a2 * b3) - (a3 * b2))) + (f2 * ((a3 * b1) - (a1 * b3)))) + (f3 * ((a1 * b2) - (a2 * b1))))))), .string (rB ((((((a1 * b2) - (a2 * b1)) * 0) + (((b1 * f2) - (b2 * f1)) * (am - ao))) + (((f1 * a2) - (f2 * a1)) * (bm - bo))) * (1 / (((f1 * ((a2 * b3) - (a3 * b2))) + (f2 * ((a3 * b1) - (a1 * b3)))) + (f3 * ((a1 * b2) - (a2 * b1)))))))], .int .i64 0])) := by
  have HF := Lib.hid hF
  clear hF
  have HZ := Lib.hid hZ
  obtain ⟨x1, Hx1, rx1⟩ := nmul ra2 rb3
  obtain ⟨x2, Hx2, rx2⟩ := nmul ra3 rb2
  obtain ⟨x3, Hx3, rx3⟩ := nsub rx1.out rx2.out
  obtain ⟨x4, Hx4, rx4⟩ := nmul ra3 rb1
  obtain ⟨x5, Hx5, rx5⟩ := nmul ra1 rb3
  obtain ⟨x6, Hx6, rx6⟩ := nsub rx4.out rx5.out
  obtain ⟨x7, Hx7, rx7⟩ := nmul ra1 rb2
  obtain ⟨x8, Hx8, rx8⟩ := nmul ra2 rb1
  obtain ⟨x9, Hx9, rx9⟩ := nsub rx7.out rx8.out
  obtain ⟨x10, Hx10, rx10⟩ := nmul rf1 rx3.out
  obtain ⟨x11, Hx11, rx11⟩ := nmul rf2 rx6.out
  obtain ⟨x12, Hx12, rx12⟩ := nadd rx10.out rx11.out
  obtain ⟨x13, Hx13, rx13⟩ := nmul rf3 rx9.out
  obtain ⟨x14, Hx14, rx14⟩ := nadd rx12.out rx13.out
  have HD := Lib.hid (show x14 ≠ 0 from (by simp only [Hx14.out, Hx12.out, Hx10.out, Hx3.out, Hx1.out, Hx2.out, Hx11.out, Hx6.out, Hx4.out, Hx5.out, Hx13.out, Hx9.out, Hx7.out, Hx8.out]; exact hd))
  obtain ⟨x15, Hx15, rx15⟩ := nsub ram rao
  obtain ⟨x16, Hx16, rx16⟩ := nsub rbm rbo
  obtain ⟨x17, Hx17, rx17⟩ := nmul rb2 rf3
  obtain ⟨x18, Hx18, rx18⟩ := nmul rb3 rf2
  obtain ⟨x19, Hx19, rx19⟩ := nsub rx17.out rx18.out
  obtain ⟨x20, Hx20, rx20⟩ := nmul rb3 rf1
  obtain ⟨x21, Hx21, rx21⟩ := nmul rb1 rf3
  obtain ⟨x22, Hx22, rx22⟩ := nsub rx20.out rx21.out
  obtain ⟨x23, Hx23, rx23⟩ := nmul rb1 rf2
  obtain ⟨x24, Hx24, rx24⟩ := nmul rb2 rf1
  obtain ⟨x25, Hx25, rx25⟩ := nsub rx23.out rx24.out
  obtain ⟨x26, Hx26, rx26⟩ := nmul rf2 ra3
  obtain ⟨x27, Hx27, rx27⟩ := nmul rf3 ra2
  obtain ⟨x28, Hx28, rx28⟩ := nsub rx26.out rx27.out
  obtain ⟨x29, Hx29, rx29⟩ := nmul rf3 ra1
  obtain ⟨x30, Hx30, rx30⟩ := nmul rf1 ra3
  obtain ⟨x31, Hx31, rx31⟩ := nsub rx29.out rx30.out
  obtain ⟨x32, Hx32, rx32⟩ := nmul rf1 ra2
  obtain ⟨x33, Hx33, rx33⟩ := nmul rf2 ra1
  obtain ⟨x34, Hx34, rx34⟩ := nsub rx32.out rx33.out
  obtain ⟨x35, Hx35, rx35⟩ := ndiv rlen_c_1 rx14.out HD.out
  obtain ⟨x36, Hx36, rx36⟩ := nmul rx3.out rlen_c_0
  obtain ⟨x37, Hx37, rx37⟩ := nmul rx19.out rx15.out
  obtain ⟨x38, Hx38, rx38⟩ := nadd rx36.out rx37.out
  obtain ⟨x39, Hx39, rx39⟩ := nmul rx28.out rx16.out
  obtain ⟨x40, Hx40, rx40⟩ := nadd rx38.out rx39.out
  obtain ⟨x41, Hx41, rx41⟩ := nmul rx40.out rx35.out
  obtain ⟨x42, Hx42, rx42⟩ := nmul rx6.out rlen_c_0
  obtain ⟨x43, Hx43, rx43⟩ := nmul rx22.out rx15.out
  obtain ⟨x44, Hx44, rx44⟩ := nadd rx42.out rx43.out
  obtain ⟨x45, Hx45, rx45⟩ := nmul rx31.out rx16.out
  obtain ⟨x46, Hx46, rx46⟩ := nadd rx44.out rx45.out
  obtain ⟨x47, Hx47, rx47⟩ := nmul rx46.out rx35.out
  obtain ⟨x48, Hx48, rx48⟩ := nmul rx9.out rlen_c_0
  obtain ⟨x49, Hx49, rx49⟩ := nmul rx25.out rx15.out
  obtain ⟨x50, Hx50, rx50⟩ := nadd rx48.out rx49.out
  obtain ⟨x51, Hx51, rx51⟩ := nmul rx34.out rx16.out
  obtain ⟨x52, Hx52, rx52⟩ := nadd rx50.out rx51.out
  obtain ⟨x53, Hx53, rx53⟩ := nmul rx52.out rx35.out
  have HO := Lib.hid (show okV (rB x41, rB x47, rB x53) = true from (by simp only [Hx41.out, Hx40.out, Hx38.out, Hx36.out, Hx3.out, Hx1.out, Hx2.out, Hx37.out, Hx19.out, Hx17.out, Hx18.out, Hx15.out, Hx39.out, Hx28.out, Hx26.out, Hx27.out, Hx16.out, Hx35.out, Hx14.out, Hx12.out, Hx10.out, Hx11.out, Hx6.out, Hx4.out, Hx5.out, Hx13.out, Hx9.out, Hx7.out, Hx8.out, Hx47.out, Hx46.out, Hx44.out, Hx42.out, Hx43.out, Hx22.out, Hx20.out, Hx21.out, Hx45.out, Hx31.out, Hx29.out, Hx30.out, Hx53.out, Hx52.out, Hx50.out, Hx48.out, Hx49.out, Hx25.out, Hx23.out, Hx24.out, Hx51.out, Hx34.out, Hx32.out, Hx33.out]; exact hO))
  obtain ⟨n54, Hn54⟩ := nd (errN (okV (rB f1, rB f2, rB f3) && okR (rB fo)) : Int)
  obtain ⟨n55, Hn55⟩ := nd (errN (okV (rB a1, rB a2, rB a3) && okR (rB ao)) : Int)
  obtain ⟨n56, Hn56⟩ := nd (errN (([rB am] : List ByteArray).all okR) : Int)
  obtain ⟨n57, Hn57⟩ := nd (errN (okV (rB b1, rB b2, rB b3) && okR (rB bo)) : Int)
  obtain ⟨n58, Hn58⟩ := nd (errN (([rB bm] : List ByteArray).all okR) : Int)
  clear hZ hd hO
  go_enter Tryz.func13, Tryz.ntmps13
  refine enter_abs fun ac0 d0 z0 he0 => ?_
  have hU0 := Up.refl w
  have T0_0 := he0 0 _ rfl
  have T1_0 := he0 1 _ rfl
  have T2_0 := he0 2 _ rfl
  replace z0 : ac0.tmps.size = 83 := z0
  clear he0
  refine wp_seq_k fun K0 hK0 => ?_
  refine region_line 83 (dso [3, 4, 5, 6, 7]) [0, 1, 2, 3, 999] [1, 1, 1, 1, 0] [] []
   [fun b => .pointer (some ⟨b, 0, none⟩), fun b => .pointer (some ⟨b, 0, none⟩), fun b => .pointer (some ⟨b, 0, none⟩), fun b => .pointer (some ⟨b, 0, none⟩), fun _ => .int .i64 0]
   [Bw [.string (rB f1), .string (rB f2), .string (rB f3), .string (rB fo)], Bw [.string (rB a1), .string (rB a2), .string (rB a3), .string (rB ao), .string (rB am)], Bw [.string (rB b1), .string (rB b2), .string (rB b3), .string (rB bo), .string (rB bm)], Bw [.string ⟨#[]⟩, .string ⟨#[]⟩, .string ⟨#[]⟩], T0]
   [] ([] : List Nat) w z0 (by kernel_rfl) ⟨Bw.loc _, Bw.loc _, Bw.loc _, Bw.loc _, loc_true, trivial⟩ trivial (allB_of trivial) List.nodup_nil hU0 (allG_of trivial) (fun β hβ => ?_) ?_
  · refine sc ?_ (sc ?_ (sc ?_ (sc ?_ (sc ?_ (sn)))))
    · refine sr rfl fun av wq hUw h K k => ?_
      have eh0 := h.B 0 T0_0
      clear h; go_simp
      exact k _ _ (PostN rfl rfl rfl rfl rfl)
    · refine sr rfl fun av wq hUw h K k => ?_
      have eh1 := h.B 1 T1_0
      clear h; go_simp
      exact k _ _ (PostN rfl rfl rfl rfl rfl)
    · refine sr rfl fun av wq hUw h K k => ?_
      have eh2 := h.B 2 T2_0
      clear h; go_simp
      exact k _ _ (PostN rfl rfl rfl rfl rfl)
    · refine sr rfl fun av wq hUw h K k => ?_
      clear h; go_simp
      exact k _ _ (PostN rfl rfl rfl rfl rfl)
    · refine sr rfl fun av wq hUw h K k => ?_
      clear h; go_simp
      exact k _ _ P0
  refine end_of fun bt1 ac1 wd1 d1 z1 hU1 v1 g1 => ?_
  replace d1 := d1.trans d0; replace z1 := z1.trans z0
  clear d0 z0
  refine hK0 _ _ ?_
  refine wp_seq_k fun K1 hK1 => ?_
  refine wp_seq_k fun K2 hK2 => ?_
  refine region_draw follows_mixed 83 (dso [13, 14, 15, 16, 17, 18, 19, 20, 21, 22, 23, 24, 25, 26, 27, 28, 29, 30, 8]) [999, 999, 999, 999, 999, 999, 999, 7, 999, 999, 999, 999, 999, 999, 14, 999, 16, 999, 999] [0, 0, 0, 0, 0, 0, 0, 1, 0, 0, 0, 0, 0, 0, 1, 0, 1, 0, 0] [] [] [[], [0], [], [2], [0, 1, 2, 3], [], [5], [5, 6], [0, 1, 2, 3, 4, 5, 6, 7], [], [9], [0, 1, 2, 3, 4, 5, 6, 7, 8, 9, 10], [], [12], [12, 13], [0, 1, 2, 3, 4, 5, 6, 7, 8, 9, 10, 11, 12, 13, 14], [0, 1, 2, 3, 4, 5, 6, 7, 8, 9, 10, 11, 12, 13, 14, 15], [0, 1, 2, 3, 4, 5, 6, 7, 8, 9, 10, 11, 12, 13, 14, 15, 16], [0, 1, 2, 3, 4, 5, 6, 7, 8, 9, 10, 11, 12, 13, 14, 15, 16, 17]]
   [fun _ => .agg #[.string (rB f1), .string (rB f2), .string (rB f3), .string (rB fo)], fun _ => .int .i64 n54, fun _ => .pointer (some ⟨(bt1 1), 0, none⟩), fun _ => .agg #[.string (rB a1), .string (rB a2), .string (rB a3), .string (rB ao)], fun _ => .int .i64 n55, fun _ => .pointer (some ⟨(bt1 1), 4, none⟩), fun _ => .string (rB am), fun b => .slice (some ⟨b, 0, none⟩) 1 1, fun _ => .int .i64 n56, fun _ => .pointer (some ⟨(bt1 2), 0, none⟩), fun _ => .agg #[.string (rB b1), .string (rB b2), .string (rB b3), .string (rB bo)], fun _ => .int .i64 n57, fun _ => .pointer (some ⟨(bt1 2), 4, none⟩), fun _ => .string (rB bm), fun b => .slice (some ⟨b, 0, none⟩) 1 1, fun _ => .int .i64 n58, fun b => .slice (some ⟨b, 0, none⟩) 5 5, fun _ => .int .i64 0, fun _ => .int .i64 0]
   [T0, T0, T0, T0, T0, T0, T0, Bw [.string (rB am)], T0, T0, T0, T0, T0, T0, Bw [.string (rB bm)], T0, Bw [.int .i64 n54, .int .i64 n55, .int .i64 n56, .int .i64 n57, .int .i64 n58], T0, T0]
   [] [(bt1 0), (bt1 1), (bt1 2), (bt1 3)] w z1 (by kernel_rfl) ⟨loc_true, loc_true, loc_true, loc_true, loc_true, loc_true, loc_true, Bw.loc _, loc_true, loc_true, loc_true, loc_true, loc_true, loc_true, Bw.loc _, loc_true, Bw.loc _, loc_true, loc_true, trivial⟩ trivial g1.B g1.N hU1 (allG_of trivial) (fun β hβ => ?_) ?_
  · refine sc ?_ (sc ?_ (sc ?_ (sc ?_ (sc ?_ (sc ?_ (sc ?_ (sc ?_ (sc ?_ (sc ?_ (sc ?_ (sc ?_ (sc ?_ (sc ?_ (sc ?_ (sc ?_ (sc ?_ (sc ?_ (sc ?_ (sn)))))))))))))))))))
    · refine sr rfl fun av wq hUw h K k => ?_
      have eh3 := h.B 3 (g1.T 0 3)
      have eb0 := (g1.f 0 rfl rfl rfl rfl).up (h.W rfl)
      obtain ⟨ec0, ec1, ec2⟩ := eb0.c3 0 1 2
      have ec3 := eb0.cell 3 rfl
      clear h; go_simp
      exact k _ _ P0
    · refine sr rfl fun av wq hUw h K k => ?_
      have eh13 := h.A 0 13
      have hEw := hE.up hUw
      have hcc := slip_plane (rB f1) (rB f2) (rB f3) (rB fo) wq hEw ⟨(rB_le (Nat.le_trans rf1 (by decide))), (rB_le (Nat.le_trans rf2 (by decide))), (rB_le (Nat.le_trans rf3 (by decide)))⟩ (rB_le (Nat.le_trans rfo (by decide)))
      rw [← Hn54.out] at hcc
      clear h; go_simp
      refine (hcc).mono ?_
      rintro _ w2 ⟨rfl, hX⟩
      exact k _ _ (PD hX)
    · refine sr rfl fun av wq hUw h K k => ?_
      have eh4 := h.B 4 (g1.T 1 4)
      clear h; go_simp
      exact k _ _ P0
    · refine sr rfl fun av wq hUw h K k => ?_
      have eh15 := h.A 2 15
      have eb0 := (g1.f 1 rfl rfl rfl rfl).up (h.W rfl)
      obtain ⟨ec0, ec1, ec2⟩ := eb0.c3 0 1 2
      have ec3 := eb0.cell 3 rfl
      clear h; go_simp
      exact k _ _ P0
    · refine sr rfl fun av wq hUw h K k => ?_
      have eh16 := h.A 3 16
      have hEw := hE.up hUw
      have hcc := slip_plane (rB a1) (rB a2) (rB a3) (rB ao) wq hEw ⟨(rB_le (Nat.le_trans ra1 (by decide))), (rB_le (Nat.le_trans ra2 (by decide))), (rB_le (Nat.le_trans ra3 (by decide)))⟩ (rB_le (Nat.le_trans rao (by decide)))
      rw [← Hn55.out] at hcc
      clear h; go_simp
      refine (hcc).mono ?_
      rintro _ w2 ⟨rfl, hX⟩
      exact k _ _ (PD hX)
    · refine sr rfl fun av wq hUw h K k => ?_
      have eh4 := h.B 4 (g1.T 1 4)
      clear h; go_simp
      exact k _ _ P0
    · refine sr rfl fun av wq hUw h K k => ?_
      have eh18 := h.A 5 18
      have eb0 := (g1.f 1 rfl rfl rfl rfl).up (h.W rfl)
      have ec0 := eb0.cell 4 rfl
      clear h; go_simp
      exact k _ _ P0
    · refine sr rfl fun av wq hUw h K k => ?_
      have eh19 := h.A 6 19
      clear h; go_simp
      exact k _ _ (PostN rfl rfl rfl rfl rfl)
    · refine sr rfl fun av wq hUw h K k => ?_
      have eh20 := h.A 7 20
      have hEw := hE.up hUw
      have eb1 := h.F 7
      have hmeb1 := Bw.sls (L := [rB am]) eb1 rfl
      have hcc := slip_numbers [rB am] (β 7) 1 wq hEw hmeb1 rfl (mem_cons_of (rB_le (Nat.le_trans ram (by decide))) (fun _ h => absurd h List.not_mem_nil)) (by decide)
      rw [← Hn56.out] at hcc
      clear h; go_simp
      refine (hcc).mono ?_
      rintro _ w2 ⟨rfl, hX⟩
      exact k _ _ (PD hX)
    · refine sr rfl fun av wq hUw h K k => ?_
      have eh5 := h.B 5 (g1.T 2 5)
      clear h; go_simp
      exact k _ _ P0
    · refine sr rfl fun av wq hUw h K k => ?_
      have eh22 := h.A 9 22
      have eb0 := (g1.f 2 rfl rfl rfl rfl).up (h.W rfl)
      obtain ⟨ec0, ec1, ec2⟩ := eb0.c3 0 1 2
      have ec3 := eb0.cell 3 rfl
      clear h; go_simp
      exact k _ _ P0
    · refine sr rfl fun av wq hUw h K k => ?_
      have eh23 := h.A 10 23
      have hEw := hE.up hUw
      have hcc := slip_plane (rB b1) (rB b2) (rB b3) (rB bo) wq hEw ⟨(rB_le (Nat.le_trans rb1 (by decide))), (rB_le (Nat.le_trans rb2 (by decide))), (rB_le (Nat.le_trans rb3 (by decide)))⟩ (rB_le (Nat.le_trans rbo (by decide)))
      rw [← Hn57.out] at hcc
      clear h; go_simp
      refine (hcc).mono ?_
      rintro _ w2 ⟨rfl, hX⟩
      exact k _ _ (PD hX)
    · refine sr rfl fun av wq hUw h K k => ?_
      have eh5 := h.B 5 (g1.T 2 5)
      clear h; go_simp
      exact k _ _ P0
    · refine sr rfl fun av wq hUw h K k => ?_
      have eh25 := h.A 12 25
      have eb0 := (g1.f 2 rfl rfl rfl rfl).up (h.W rfl)
      have ec0 := eb0.cell 4 rfl
      clear h; go_simp
      exact k _ _ P0
    · refine sr rfl fun av wq hUw h K k => ?_
      have eh26 := h.A 13 26
      clear h; go_simp
      exact k _ _ (PostN rfl rfl rfl rfl rfl)
    · refine sr rfl fun av wq hUw h K k => ?_
      have eh27 := h.A 14 27
      have hEw := hE.up hUw
      have eb1 := h.F 14
      have hmeb1 := Bw.sls (L := [rB bm]) eb1 rfl
      have hcc := slip_numbers [rB bm] (β 14) 1 wq hEw hmeb1 rfl (mem_cons_of (rB_le (Nat.le_trans rbm (by decide))) (fun _ h => absurd h List.not_mem_nil)) (by decide)
      rw [← Hn58.out] at hcc
      clear h; go_simp
      refine (hcc).mono ?_
      rintro _ w2 ⟨rfl, hX⟩
      exact k _ _ (PD hX)
    · refine sr rfl fun av wq hUw h K k => ?_
      have eh14 := h.A 1 14
      have eh17 := h.A 4 17
      have eh21 := h.A 8 21
      have eh24 := h.A 11 24
      have eh28 := h.A 15 28
      clear h; go_simp
      exact k _ _ (PostN rfl rfl rfl rfl rfl)
    · refine sr rfl fun av wq hUw h K k => ?_
      have eh29 := h.A 16 29
      have hEw := hE.up hUw
      have eb1 := h.F 16
      have hmeb1 := Bw.sli (L := [n54, n55, n56, n57, n58]) eb1 rfl
      have hkn : firstE [n54, n55, n56, n57, n58] = 0 := (by simp only [Hn54.out, Hn55.out, Hn56.out, Hn57.out, Hn58.out]; exact HF.out)
      have hcc := slip_first [n54, n55, n56, n57, n58] (β 16) 5 wq hmeb1 rfl (by decide)
      rw [hkn] at hcc
      clear hkn
      clear h; go_simp
      refine (hcc).mono ?_
      rintro _ w2 ⟨rfl, hX⟩
      exact k _ _ (PD hX)
    · refine sr rfl fun av wq hUw h K k => ?_
      have eh30 := h.A 17 30
      clear h; go_simp
      exact k _ _ P0
  refine end_of fun bt2 ac2 wd2 d2 z2 hU2 v2 g2 => ?_
  replace d2 := d2.trans d1; replace z2 := z2.trans z1
  clear d1 z1
  refine hK2 _ _ ?_
  refine wp_seq_k fun K3 hK3 => ?_
  refine region_line 83 (dso [31, 32]) [999, 999] [0, 0] [] []
   [fun _ => .int .i64 0, fun _ => .bool false]
   [T0, T0]
   [] [(bt1 0), (bt1 1), (bt1 2), (bt1 3), (bt2 7), (bt2 14), (bt2 16)] w z2 (by kernel_rfl) ⟨loc_true, loc_true, trivial⟩ trivial g2.B g2.N hU2 (allG_of trivial) (fun β hβ => ?_) ?_
  · refine sc ?_ (sc ?_ (sn))
    · refine sr rfl fun av wq hUw h K k => ?_
      have eh8 := h.B 8 (g2.T 18 8)
      clear h; go_simp
      exact k _ _ P0
    · refine sr rfl fun av wq hUw h K k => ?_
      have eh31 := h.A 0 31
      clear h; go_simp
      exact k _ _ P0
  refine end_of fun bt3 ac3 wd3 d3 z3 hU3 v3 g3 => ?_
  replace d3 := d3.trans d2; replace z3 := z3.trans z2
  clear d2 z2
  refine hK3 _ _ ?_
  refine wp_cond_false (eval_of (g3.T 1 32)) ?_
  refine wp_skip ?_
  refine hK1 _ _ ?_
  refine wp_seq_k fun K4 hK4 => ?_
  refine wp_seq_k fun K5 hK5 => ?_
  refine region_line 83 (dso [35, 36, 37, 38, 39, 40, 41, 42, 43, 44, 9]) [999, 999, 999, 999, 999, 999, 999, 999, 8, 999, 999] [0, 0, 0, 0, 0, 0, 0, 0, 1, 0, 0] [] []
   [fun _ => .pointer (some ⟨(bt1 0), 0, none⟩), fun _ => .agg #[.string (rB f1), .string (rB f2), .string (rB f3)], fun _ => .pointer (some ⟨(bt1 1), 0, none⟩), fun _ => .pointer (some ⟨(bt1 1), 0, none⟩), fun _ => .agg #[.string (rB a1), .string (rB a2), .string (rB a3)], fun _ => .pointer (some ⟨(bt1 2), 0, none⟩), fun _ => .pointer (some ⟨(bt1 2), 0, none⟩), fun _ => .agg #[.string (rB b1), .string (rB b2), .string (rB b3)], fun b => .slice (some ⟨b, 0, none⟩) 3 3, fun _ => .int .i64 0, fun _ => .int .i64 0]
   [T0, T0, T0, T0, T0, T0, T0, T0, Bw [.string (rB f1), .string (rB f2), .string (rB f3), .string (rB a1), .string (rB a2), .string (rB a3), .string (rB b1), .string (rB b2), .string (rB b3)], T0, T0]
   [] [(bt1 0), (bt1 1), (bt1 2), (bt1 3), (bt2 7), (bt2 14), (bt2 16)] w z3 (by kernel_rfl) ⟨loc_true, loc_true, loc_true, loc_true, loc_true, loc_true, loc_true, loc_true, Bw.loc _, loc_true, loc_true, trivial⟩ trivial g3.B g3.N hU3 (allG_of trivial) (fun β hβ => ?_) ?_
  · refine sc ?_ (sc ?_ (sc ?_ (sc ?_ (sc ?_ (sc ?_ (sc ?_ (sc ?_ (sc ?_ (sc ?_ (sc ?_ (sn)))))))))))
    · refine sr rfl fun av wq hUw h K k => ?_
      have eh3 := h.B 3 ((v3 3 rfl).trans ((v2 3 rfl).trans (g1.T 0 3)))
      clear h; go_simp
      exact k _ _ P0
    · refine sr rfl fun av wq hUw h K k => ?_
      have eh35 := h.A 0 35
      have eb0 := ((g1.f 0 rfl rfl rfl rfl).up ((g2.W rfl).trans (g3.W rfl))).up (h.W rfl)
      obtain ⟨ec0, ec1, ec2⟩ := eb0.c3 0 1 2
      clear h; go_simp
      exact k _ _ P0
    · refine sr rfl fun av wq hUw h K k => ?_
      have eh4 := h.B 4 ((v3 4 rfl).trans ((v2 4 rfl).trans (g1.T 1 4)))
      clear h; go_simp
      exact k _ _ P0
    · refine sr rfl fun av wq hUw h K k => ?_
      have eh37 := h.A 2 37
      clear h; go_simp
      exact k _ _ P0
    · refine sr rfl fun av wq hUw h K k => ?_
      have eh38 := h.A 3 38
      have eb0 := ((g1.f 1 rfl rfl rfl rfl).up ((g2.W rfl).trans (g3.W rfl))).up (h.W rfl)
      obtain ⟨ec0, ec1, ec2⟩ := eb0.c3 0 1 2
      clear h; go_simp
      exact k _ _ P0
    · refine sr rfl fun av wq hUw h K k => ?_
      have eh5 := h.B 5 ((v3 5 rfl).trans ((v2 5 rfl).trans (g1.T 2 5)))
      clear h; go_simp
      exact k _ _ P0
    · refine sr rfl fun av wq hUw h K k => ?_
      have eh40 := h.A 5 40
      clear h; go_simp
      exact k _ _ P0
    · refine sr rfl fun av wq hUw h K k => ?_
      have eh41 := h.A 6 41
      have eb0 := ((g1.f 2 rfl rfl rfl rfl).up ((g2.W rfl).trans (g3.W rfl))).up (h.W rfl)
      obtain ⟨ec0, ec1, ec2⟩ := eb0.c3 0 1 2
      clear h; go_simp
      exact k _ _ P0
    · refine sr rfl fun av wq hUw h K k => ?_
      have eh36 := h.A 1 36
      have eh39 := h.A 4 39
      have eh42 := h.A 7 42
      clear h; go_simp
      exact k _ _ (PostN rfl rfl rfl rfl rfl)
    · refine sr rfl fun av wq hUw h K k => ?_
      have eh43 := h.A 8 43
      have hEw := hE.up hUw
      have eb1 := h.F 8
      have hmeb1 := Bw.slv (L := [(rB f1, rB f2, rB f3), (rB a1, rB a2, rB a3), (rB b1, rB b2, rB b3)]) eb1 rfl
      have hkn : ([(rB f1, rB f2, rB f3), (rB a1, rB a2, rB a3), (rB b1, rB b2, rB b3)] : List Tri).any zV = false := HZ.out
      have hcc := slip_zeros [(rB f1, rB f2, rB f3), (rB a1, rB a2, rB a3), (rB b1, rB b2, rB b3)] (β 8) 3 wq hEw hmeb1 rfl (by decide)
      rw [hkn] at hcc
      clear hkn
      clear h; go_simp
      refine (hcc).mono ?_
      rintro _ w2 ⟨rfl, hX⟩
      exact k _ _ (PD hX)
    · refine sr rfl fun av wq hUw h K k => ?_
      have eh44 := h.A 9 44
      clear h; go_simp
      exact k _ _ P0
  refine end_of fun bt4 ac4 wd4 d4 z4 hU4 v4 g4 => ?_
  replace d4 := d4.trans d3; replace z4 := z4.trans z3
  clear d3 z3
  refine hK5 _ _ ?_
  refine wp_seq_k fun K6 hK6 => ?_
  refine region_line 83 (dso [45, 46]) [999, 999] [0, 0] [] []
   [fun _ => .int .i64 0, fun _ => .bool false]
   [T0, T0]
   [] [(bt1 0), (bt1 1), (bt1 2), (bt1 3), (bt2 7), (bt2 14), (bt2 16), (bt4 8)] w z4 (by kernel_rfl) ⟨loc_true, loc_true, trivial⟩ trivial g4.B g4.N hU4 (allG_of trivial) (fun β hβ => ?_) ?_
  · refine sc ?_ (sc ?_ (sn))
    · refine sr rfl fun av wq hUw h K k => ?_
      have eh9 := h.B 9 (g4.T 10 9)
      clear h; go_simp
      exact k _ _ P0
    · refine sr rfl fun av wq hUw h K k => ?_
      have eh45 := h.A 0 45
      clear h; go_simp
      exact k _ _ P0
  refine end_of fun bt5 ac5 wd5 d5 z5 hU5 v5 g5 => ?_
  replace d5 := d5.trans d4; replace z5 := z5.trans z4
  clear d4 z4
  refine hK6 _ _ ?_
  refine wp_cond_false (eval_of (g5.T 1 46)) ?_
  refine wp_skip ?_
  refine hK4 _ _ ?_
  refine wp_seq_k fun K7 hK7 => ?_
  refine region_draw follows_mixed 83 (dso [49, 50, 51, 52, 53, 54, 55, 56, 57, 58, 59, 60, 61, 10, 999]) [999, 999, 999, 999, 999, 999, 999, 999, 999, 999, 999, 999, 999, 13, 13] [0, 0, 0, 0, 0, 0, 0, 0, 0, 0, 0, 0, 0, 1, 2] [999, 999, 999, 999, 999, 999, 999, 999, 999, 999, 999, 999, 999, 14, 999] [] [[], [0], [], [2], [2, 3], [0, 1, 2, 3, 4], [], [6], [], [8], [8, 9], [0, 1, 2, 3, 4, 5, 6, 7, 8, 9, 10], [0, 1, 2, 3, 4, 5, 6, 7, 8, 9, 10, 11], [], [0, 1, 2, 3, 4, 5, 6, 7, 8, 9, 10, 11, 12, 13]]
   [fun _ => .pointer (some ⟨(bt1 1), 4, none⟩), fun _ => .string (rB am), fun _ => .pointer (some ⟨(bt1 1), 0, none⟩), fun _ => .pointer (some ⟨(bt1 1), 3, none⟩), fun _ => .string (rB ao), fun _ => .string (rB x15), fun _ => .pointer (some ⟨(bt1 2), 4, none⟩), fun _ => .string (rB bm), fun _ => .pointer (some ⟨(bt1 2), 0, none⟩), fun _ => .pointer (some ⟨(bt1 2), 3, none⟩), fun _ => .string (rB bo), fun _ => .string (rB x16), fun _ => .agg #[.string ⟨#[48]⟩, .string (rB x15), .string (rB x16)], fun b => .pointer (some ⟨b, 0, none⟩), fun _ => undef]
   [T0, T0, T0, T0, T0, T0, T0, T0, T0, T0, T0, T0, T0, Bw [.string ⟨#[]⟩, .string ⟨#[]⟩, .string ⟨#[]⟩], Bw [.string ⟨#[48]⟩, .string (rB x15), .string (rB x16)]]
   [] [(bt1 0), (bt1 1), (bt1 2), (bt1 3), (bt2 7), (bt2 14), (bt2 16), (bt4 8)] w z5 (by kernel_rfl) ⟨loc_true, loc_true, loc_true, loc_true, loc_true, loc_true, loc_true, loc_true, loc_true, loc_true, loc_true, loc_true, loc_true, Bw.loc _, Bw.loc _, trivial⟩ trivial g5.B g5.N hU5 (allG_of trivial) (fun β hβ => ?_) ?_
  · refine sc ?_ (sc ?_ (sc ?_ (sc ?_ (sc ?_ (sc ?_ (sc ?_ (sc ?_ (sc ?_ (sc ?_ (sc ?_ (sc ?_ (sc ?_ (sc ?_ (sc ?_ (sn)))))))))))))))
    · refine sr rfl fun av wq hUw h K k => ?_
      have eh4 := h.B 4 ((v5 4 rfl).trans ((v4 4 rfl).trans ((v3 4 rfl).trans ((v2 4 rfl).trans (g1.T 1 4)))))
      clear h; go_simp
      exact k _ _ P0
    · refine sr rfl fun av wq hUw h K k => ?_
      have eh49 := h.A 0 49
      have eb0 := ((g1.f 1 rfl rfl rfl rfl).up ((((g2.W rfl).trans (g3.W rfl)).trans (g4.W rfl)).trans (g5.W rfl))).up (h.W rfl)
      have ec0 := eb0.cell 4 rfl
      clear h; go_simp
      exact k _ _ P0
    · refine sr rfl fun av wq hUw h K k => ?_
      have eh4 := h.B 4 ((v5 4 rfl).trans ((v4 4 rfl).trans ((v3 4 rfl).trans ((v2 4 rfl).trans (g1.T 1 4)))))
      clear h; go_simp
      exact k _ _ P0
    · refine sr rfl fun av wq hUw h K k => ?_
      have eh51 := h.A 2 51
      clear h; go_simp
      exact k _ _ P0
    · refine sr rfl fun av wq hUw h K k => ?_
      have eh52 := h.A 3 52
      have eb0 := ((g1.f 1 rfl rfl rfl rfl).up ((((g2.W rfl).trans (g3.W rfl)).trans (g4.W rfl)).trans (g5.W rfl))).up (h.W rfl)
      have ec0 := eb0.cell 3 rfl
      clear h; go_simp
      exact k _ _ P0
    · refine sr rfl fun av wq hUw h K k => ?_
      have eh50 := h.A 1 50
      have eh53 := h.A 4 53
      have hEw := hE.up hUw
      have hcc := rat_sub am ao wq hEw (Nat.le_trans ram (by decide)) (Nat.le_trans rao (by decide))
      rw [← Hx15.out] at hcc
      clear h; go_simp
      refine (hcc).mono ?_
      rintro _ w2 ⟨rfl, hX⟩
      exact k _ _ (PD hX)
    · refine sr rfl fun av wq hUw h K k => ?_
      have eh5 := h.B 5 ((v5 5 rfl).trans ((v4 5 rfl).trans ((v3 5 rfl).trans ((v2 5 rfl).trans (g1.T 2 5)))))
      clear h; go_simp
      exact k _ _ P0
    · refine sr rfl fun av wq hUw h K k => ?_
      have eh55 := h.A 6 55
      have eb0 := ((g1.f 2 rfl rfl rfl rfl).up ((((g2.W rfl).trans (g3.W rfl)).trans (g4.W rfl)).trans (g5.W rfl))).up (h.W rfl)
      have ec0 := eb0.cell 4 rfl
      clear h; go_simp
      exact k _ _ P0
    · refine sr rfl fun av wq hUw h K k => ?_
      have eh5 := h.B 5 ((v5 5 rfl).trans ((v4 5 rfl).trans ((v3 5 rfl).trans ((v2 5 rfl).trans (g1.T 2 5)))))
      clear h; go_simp
      exact k _ _ P0
    · refine sr rfl fun av wq hUw h K k => ?_
      have eh57 := h.A 8 57
      clear h; go_simp
      exact k _ _ P0
    · refine sr rfl fun av wq hUw h K k => ?_
      have eh58 := h.A 9 58
      have eb0 := ((g1.f 2 rfl rfl rfl rfl).up ((((g2.W rfl).trans (g3.W rfl)).trans (g4.W rfl)).trans (g5.W rfl))).up (h.W rfl)
      have ec0 := eb0.cell 3 rfl
      clear h; go_simp
      exact k _ _ P0
    · refine sr rfl fun av wq hUw h K k => ?_
      have eh56 := h.A 7 56
      have eh59 := h.A 10 59
      have hEw := hE.up hUw
      have hcc := rat_sub bm bo wq hEw (Nat.le_trans rbm (by decide)) (Nat.le_trans rbo (by decide))
      rw [← Hx16.out] at hcc
      clear h; go_simp
      refine (hcc).mono ?_
      rintro _ w2 ⟨rfl, hX⟩
      exact k _ _ (PD hX)
    · refine sr rfl fun av wq hUw h K k => ?_
      have eh54 := h.A 5 54
      have eh60 := h.A 11 60
      clear h; go_simp
      exact k _ _ P0
    · refine sr rfl fun av wq hUw h K k => ?_
      clear h; go_simp
      exact k _ _ (PostN rfl rfl rfl rfl rfl)
    · refine sr rfl fun av wq hUw h K k => ?_
      have eh10 := h.A 13 10
      have eh61 := h.A 12 61
      have eb0 := h.F 13
      obtain ⟨ec0, ec1, ec2⟩ := eb0.c3 0 1 2; obtain ⟨ef0, ef1, ef2⟩ := eb0.f3 0 1 2
      clear h; go_simp
      exact k _ _ (PostS rfl rfl rfl rfl rfl rfl ((((Sto.refl _ _).set 0 _).set 1 _).set 2 _) ((((eb0).set 0 rfl _).set 1 rfl _).set 2 rfl _))
  refine end_of fun bt6 ac6 wd6 d6 z6 hU6 v6 g6 => ?_
  replace d6 := d6.trans d5; replace z6 := z6.trans z5
  clear d5 z5
  refine hK7 _ _ ?_
  refine wp_seq_k fun K8 hK8 => ?_
  refine region_line 83 (dso [63, 64, 65, 66, 67, 68, 69, 70, 71, 72, 73, 62, 74, 75, 11, 999, 12]) [999, 999, 999, 999, 999, 999, 999, 999, 999, 999, 999, 999, 999, 999, 14, 14, 999] [0, 0, 0, 0, 0, 0, 0, 0, 0, 0, 0, 0, 0, 0, 1, 2, 0] [999, 999, 999, 999, 999, 999, 999, 999, 999, 999, 999, 999, 999, 999, 15, 999, 999] []
   [fun _ => .pointer (some ⟨(bt1 0), 0, none⟩), fun _ => .agg #[.string (rB f1), .string (rB f2), .string (rB f3)], fun _ => .pointer (some ⟨(bt1 1), 0, none⟩), fun _ => .pointer (some ⟨(bt1 1), 0, none⟩), fun _ => .agg #[.string (rB a1), .string (rB a2), .string (rB a3)], fun _ => .pointer (some ⟨(bt1 2), 0, none⟩), fun _ => .pointer (some ⟨(bt1 2), 0, none⟩), fun _ => .agg #[.string (rB b1), .string (rB b2), .string (rB b3)], fun _ => .agg #[.string (rB f1), .string (rB f2), .string (rB f3), .string (rB a1), .string (rB a2), .string (rB a3), .string (rB b1), .string (rB b2), .string (rB b3)], fun _ => .agg #[.string ⟨#[48]⟩, .string (rB x15), .string (rB x16)], fun _ => .tuple #[.agg #[.string (rB x41), .string (rB x47), .string (rB x53)], .bool true], fun _ => .tuple #[.agg #[.string (rB x41), .string (rB x47), .string (rB x53)], .bool true], fun _ => .agg #[.string (rB x41), .string (rB x47), .string (rB x53)], fun _ => .bool true, fun b => .pointer (some ⟨b, 0, none⟩), fun _ => undef, fun _ => .bool true]
   [T0, T0, T0, T0, T0, T0, T0, T0, T0, T0, T0, T0, T0, T0, Bw [.string ⟨#[]⟩, .string ⟨#[]⟩, .string ⟨#[]⟩], Bw [.string (rB x41), .string (rB x47), .string (rB x53)], T0]
   [] [(bt1 0), (bt1 1), (bt1 2), (bt1 3), (bt2 7), (bt2 14), (bt2 16), (bt4 8), (bt6 13)] w z6 (by kernel_rfl) ⟨loc_true, loc_true, loc_true, loc_true, loc_true, loc_true, loc_true, loc_true, loc_true, loc_true, loc_true, loc_true, loc_true, loc_true, Bw.loc _, Bw.loc _, loc_true, trivial⟩ trivial g6.B g6.N hU6 (allG_of trivial) (fun β hβ => ?_) ?_
  · refine sc ?_ (sc ?_ (sc ?_ (sc ?_ (sc ?_ (sc ?_ (sc ?_ (sc ?_ (sc ?_ (sc ?_ (sc ?_ (sc ?_ (sc ?_ (sc ?_ (sc ?_ (sc ?_ (sc ?_ (sn)))))))))))))))))
    · refine sr rfl fun av wq hUw h K k => ?_
      have eh3 := h.B 3 ((v6 3 rfl).trans ((v5 3 rfl).trans ((v4 3 rfl).trans ((v3 3 rfl).trans ((v2 3 rfl).trans (g1.T 0 3))))))
      clear h; go_simp
      exact k _ _ P0
    · refine sr rfl fun av wq hUw h K k => ?_
      have eh63 := h.A 0 63
      have eb0 := ((g1.f 0 rfl rfl rfl rfl).up (((((g2.W rfl).trans (g3.W rfl)).trans (g4.W rfl)).trans (g5.W rfl)).trans (g6.W rfl))).up (h.W rfl)
      obtain ⟨ec0, ec1, ec2⟩ := eb0.c3 0 1 2
      clear h; go_simp
      exact k _ _ P0
    · refine sr rfl fun av wq hUw h K k => ?_
      have eh4 := h.B 4 ((v6 4 rfl).trans ((v5 4 rfl).trans ((v4 4 rfl).trans ((v3 4 rfl).trans ((v2 4 rfl).trans (g1.T 1 4))))))
      clear h; go_simp
      exact k _ _ P0
    · refine sr rfl fun av wq hUw h K k => ?_
      have eh65 := h.A 2 65
      clear h; go_simp
      exact k _ _ P0
    · refine sr rfl fun av wq hUw h K k => ?_
      have eh66 := h.A 3 66
      have eb0 := ((g1.f 1 rfl rfl rfl rfl).up (((((g2.W rfl).trans (g3.W rfl)).trans (g4.W rfl)).trans (g5.W rfl)).trans (g6.W rfl))).up (h.W rfl)
      obtain ⟨ec0, ec1, ec2⟩ := eb0.c3 0 1 2
      clear h; go_simp
      exact k _ _ P0
    · refine sr rfl fun av wq hUw h K k => ?_
      have eh5 := h.B 5 ((v6 5 rfl).trans ((v5 5 rfl).trans ((v4 5 rfl).trans ((v3 5 rfl).trans ((v2 5 rfl).trans (g1.T 2 5))))))
      clear h; go_simp
      exact k _ _ P0
    · refine sr rfl fun av wq hUw h K k => ?_
      have eh68 := h.A 5 68
      clear h; go_simp
      exact k _ _ P0
    · refine sr rfl fun av wq hUw h K k => ?_
      have eh69 := h.A 6 69
      have eb0 := ((g1.f 2 rfl rfl rfl rfl).up (((((g2.W rfl).trans (g3.W rfl)).trans (g4.W rfl)).trans (g5.W rfl)).trans (g6.W rfl))).up (h.W rfl)
      obtain ⟨ec0, ec1, ec2⟩ := eb0.c3 0 1 2
      clear h; go_simp
      exact k _ _ P0
    · refine sr rfl fun av wq hUw h K k => ?_
      have eh64 := h.A 1 64
      have eh67 := h.A 4 67
      have eh70 := h.A 7 70
      clear h; go_simp
      exact k _ _ P0
    · refine sr rfl fun av wq hUw h K k => ?_
      have eh10 := h.B 10 (g6.T 13 10)
      have eb0 := (g6.f 14 rfl rfl rfl rfl).up (h.W rfl)
      obtain ⟨ec0, ec1, ec2⟩ := eb0.c3 0 1 2
      clear h; go_simp
      exact k _ _ P0
    · refine sr rfl fun av wq hUw h K k => ?_
      have eh71 := h.A 8 71
      have eh72 := h.A 9 72
      have hEw := hE.up hUw
      have hcc := slip_meet1 f1 f2 f3 a1 a2 a3 b1 b2 b3 0 x15 x16 wq hEw (Nat.le_trans rf1 (by decide)) (Nat.le_trans rf2 (by decide)) (Nat.le_trans rf3 (by decide)) (Nat.le_trans ra1 (by decide)) (Nat.le_trans ra2 (by decide)) (Nat.le_trans ra3 (by decide)) (Nat.le_trans rb1 (by decide)) (Nat.le_trans rb2 (by decide)) (Nat.le_trans rb3 (by decide)) (Nat.le_trans rlen_c_0 (by decide)) (Nat.le_trans rx15.out (by decide)) (Nat.le_trans rx16.out (by decide)) (by have hby := HD.out; simp only [Hx14.out, Hx12.out, Hx10.out, Hx3.out, Hx1.out, Hx2.out, Hx11.out, Hx6.out, Hx4.out, Hx5.out, Hx13.out, Hx9.out, Hx7.out, Hx8.out] at hby; exact hby)
      rw [rB_zero, ← Hx1.out, ← Hx2.out, ← Hx3.out, ← Hx4.out, ← Hx5.out, ← Hx6.out, ← Hx7.out, ← Hx8.out, ← Hx9.out, ← Hx10.out, ← Hx11.out, ← Hx12.out, ← Hx13.out, ← Hx14.out, ← Hx17.out, ← Hx18.out, ← Hx19.out, ← Hx20.out, ← Hx21.out, ← Hx22.out, ← Hx23.out, ← Hx24.out, ← Hx25.out, ← Hx26.out, ← Hx27.out, ← Hx28.out, ← Hx29.out, ← Hx30.out, ← Hx31.out, ← Hx32.out, ← Hx33.out, ← Hx34.out, ← Hx35.out, ← Hx36.out, ← Hx37.out, ← Hx38.out, ← Hx39.out, ← Hx40.out, ← Hx41.out, ← Hx42.out, ← Hx43.out, ← Hx44.out, ← Hx45.out, ← Hx46.out, ← Hx47.out, ← Hx48.out, ← Hx49.out, ← Hx50.out, ← Hx51.out, ← Hx52.out, ← Hx53.out] at hcc
      clear h; go_simp
      refine (hcc).mono ?_
      rintro _ w2 ⟨rfl, hX⟩
      exact k _ _ (PD hX)
    · refine sr rfl fun av wq hUw h K k => ?_
      have eh73 := h.A 10 73
      clear h; go_simp
      exact k _ _ P0
    · refine sr rfl fun av wq hUw h K k => ?_
      have eh62 := h.A 11 62
      clear h; go_simp
      exact k _ _ P0
    · refine sr rfl fun av wq hUw h K k => ?_
      have eh62 := h.A 11 62
      clear h; go_simp
      exact k _ _ P0
    · refine sr rfl fun av wq hUw h K k => ?_
      clear h; go_simp
      exact k _ _ (PostN rfl rfl rfl rfl rfl)
    · refine sr rfl fun av wq hUw h K k => ?_
      have eh11 := h.A 14 11
      have eh74 := h.A 12 74
      have eb0 := h.F 14
      obtain ⟨ec0, ec1, ec2⟩ := eb0.c3 0 1 2; obtain ⟨ef0, ef1, ef2⟩ := eb0.f3 0 1 2
      clear h; go_simp
      exact k _ _ (PostS rfl rfl rfl rfl rfl rfl ((((Sto.refl _ _).set 0 _).set 1 _).set 2 _) ((((eb0).set 0 rfl _).set 1 rfl _).set 2 rfl _))
    · refine sr rfl fun av wq hUw h K k => ?_
      have eh75 := h.A 13 75
      clear h; go_simp
      exact k _ _ P0
  refine end_of fun bt7 ac7 wd7 d7 z7 hU7 v7 g7 => ?_
  replace d7 := d7.trans d6; replace z7 := z7.trans z6
  clear d6 z6
  refine hK8 _ _ ?_
  refine wp_seq_k fun K9 hK9 => ?_
  refine wp_seq_k fun K10 hK10 => ?_
  refine region_line 83 (dso [76, 77]) [999, 999] [0, 0] [] []
   [fun _ => .bool true, fun _ => .bool false]
   [T0, T0]
   [] [(bt1 0), (bt1 1), (bt1 2), (bt1 3), (bt2 7), (bt2 14), (bt2 16), (bt4 8), (bt6 13), (bt7 14)] w z7 (by kernel_rfl) ⟨loc_true, loc_true, trivial⟩ trivial g7.B g7.N hU7 (allG_of trivial) (fun β hβ => ?_) ?_
  · refine sc ?_ (sc ?_ (sn))
    · refine sr rfl fun av wq hUw h K k => ?_
      have eh12 := h.B 12 (g7.T 16 12)
      clear h; go_simp
      exact k _ _ P0
    · refine sr rfl fun av wq hUw h K k => ?_
      have eh76 := h.A 0 76
      clear h; go_simp
      exact k _ _ P0
  refine end_of fun bt8 ac8 wd8 d8 z8 hU8 v8 g8 => ?_
  replace d8 := d8.trans d7; replace z8 := z8.trans z7
  clear d7 z7
  refine hK10 _ _ ?_
  refine wp_cond_false (eval_of (g8.T 1 77)) ?_
  refine wp_skip ?_
  refine hK9 _ _ ?_
  refine wp_seq_k fun K11 hK11 => ?_
  refine region_line 83 (dso [79, 80, 81, 82, 999, 7]) [999, 999, 999, 999, 9, 999] [0, 0, 0, 0, 2, 0] [] [999, 999, 999, 4, 999, 999, 999, 999, 999, 999]
   [fun _ => .agg #[.string (rB x41), .string (rB x47), .string (rB x53)], fun _ => .tuple #[.agg #[.string (rB x41), .string (rB x47), .string (rB x53)], .int .i64 0], fun _ => .agg #[.string (rB x41), .string (rB x47), .string (rB x53)], fun _ => .int .i64 0, fun _ => undef, fun _ => .int .i64 0]
   [T0, T0, T0, T0, Bw [.string (rB x41), .string (rB x47), .string (rB x53)], T0]
   [Bw [.string (rB f1), .string (rB f2), .string (rB f3), .string (rB fo)], Bw [.string (rB a1), .string (rB a2), .string (rB a3), .string (rB ao), .string (rB am)], Bw [.string (rB b1), .string (rB b2), .string (rB b3), .string (rB bo), .string (rB bm)], Bw [.string ⟨#[]⟩, .string ⟨#[]⟩, .string ⟨#[]⟩], Bw [.string (rB am)], Bw [.string (rB bm)], Bw [.int .i64 n54, .int .i64 n55, .int .i64 n56, .int .i64 n57, .int .i64 n58], Bw [.string (rB f1), .string (rB f2), .string (rB f3), .string (rB a1), .string (rB a2), .string (rB a3), .string (rB b1), .string (rB b2), .string (rB b3)], Bw [.string ⟨#[48]⟩, .string (rB x15), .string (rB x16)], Bw [.string (rB x41), .string (rB x47), .string (rB x53)]] [(bt1 0), (bt1 1), (bt1 2), (bt1 3), (bt2 7), (bt2 14), (bt2 16), (bt4 8), (bt6 13), (bt7 14)] w z8 (by kernel_rfl) ⟨loc_true, loc_true, loc_true, loc_true, Bw.loc _, loc_true, trivial⟩ ⟨Bw.loc _, Bw.loc _, Bw.loc _, Bw.loc _, Bw.loc _, Bw.loc _, Bw.loc _, Bw.loc _, Bw.loc _, Bw.loc _, trivial⟩ g8.B g8.N hU8 (allG_of ⟨(g1.f 0 rfl rfl rfl rfl).up (((((((g2.W rfl).trans (g3.W rfl)).trans (g4.W rfl)).trans (g5.W rfl)).trans (g6.W rfl)).trans (g7.W rfl)).trans (g8.W rfl)), (g1.f 1 rfl rfl rfl rfl).up (((((((g2.W rfl).trans (g3.W rfl)).trans (g4.W rfl)).trans (g5.W rfl)).trans (g6.W rfl)).trans (g7.W rfl)).trans (g8.W rfl)), (g1.f 2 rfl rfl rfl rfl).up (((((((g2.W rfl).trans (g3.W rfl)).trans (g4.W rfl)).trans (g5.W rfl)).trans (g6.W rfl)).trans (g7.W rfl)).trans (g8.W rfl)), (g1.f 3 rfl rfl rfl rfl).up (((((((g2.W rfl).trans (g3.W rfl)).trans (g4.W rfl)).trans (g5.W rfl)).trans (g6.W rfl)).trans (g7.W rfl)).trans (g8.W rfl)), (g2.f 7 rfl rfl rfl rfl).up ((((((g3.W rfl).trans (g4.W rfl)).trans (g5.W rfl)).trans (g6.W rfl)).trans (g7.W rfl)).trans (g8.W rfl)), (g2.f 14 rfl rfl rfl rfl).up ((((((g3.W rfl).trans (g4.W rfl)).trans (g5.W rfl)).trans (g6.W rfl)).trans (g7.W rfl)).trans (g8.W rfl)), (g2.f 16 rfl rfl rfl rfl).up ((((((g3.W rfl).trans (g4.W rfl)).trans (g5.W rfl)).trans (g6.W rfl)).trans (g7.W rfl)).trans (g8.W rfl)), (g4.f 8 rfl rfl rfl rfl).up ((((g5.W rfl).trans (g6.W rfl)).trans (g7.W rfl)).trans (g8.W rfl)), (g6.f 14 rfl rfl rfl rfl).up ((g7.W rfl).trans (g8.W rfl)), (g7.f 15 rfl rfl rfl rfl).up (g8.W rfl), trivial⟩) (fun β hβ => ?_) ?_
  · refine sc ?_ (sc ?_ (sc ?_ (sc ?_ (sc ?_ (sc ?_ (sn))))))
    · refine sr rfl fun av wq hUw h K k => ?_
      have eh11 := h.B 11 ((v8 11 rfl).trans (g7.T 14 11))
      have eb0 := h.R 9
      obtain ⟨ec0, ec1, ec2⟩ := eb0.c3 0 1 2
      clear h; go_simp
      exact k _ _ P0
    · refine sr rfl fun av wq hUw h K k => ?_
      have eh79 := h.A 0 79
      have hEw := hE.up hUw
      have hcc := slip_short (rB x41, rB x47, rB x53) wq hEw ⟨(rB_le (Nat.le_trans rx41.out (by decide))), (rB_le (Nat.le_trans rx47.out (by decide))), (rB_le (Nat.le_trans rx53.out (by decide)))⟩
      rw [HO.out] at hcc
      clear h; go_simp
      refine (hcc).mono ?_
      rintro _ w2 ⟨rfl, hX⟩
      exact k _ _ (PD hX)
    · refine sr rfl fun av wq hUw h K k => ?_
      have eh80 := h.A 1 80
      clear h; go_simp
      exact k _ _ P0
    · refine sr rfl fun av wq hUw h K k => ?_
      have eh80 := h.A 1 80
      clear h; go_simp
      exact k _ _ P0
    · refine sr rfl fun av wq hUw h K k => ?_
      have hb3 : β 9 = (bt1 3) := hβ 3 (by simp)
      have eh6 := h.B 6 ((v8 6 rfl).trans ((v7 6 rfl).trans ((v6 6 rfl).trans ((v5 6 rfl).trans ((v4 6 rfl).trans ((v3 6 rfl).trans ((v2 6 rfl).trans (g1.T 3 6))))))))
      have eh81 := h.A 2 81
      have eb0 := h.R 3
      obtain ⟨ec0, ec1, ec2⟩ := eb0.c3 0 1 2; obtain ⟨ef0, ef1, ef2⟩ := eb0.f3 0 1 2
      clear h; go_simp
      exact k _ _ (PostS rfl rfl rfl rfl hb3 rfl ((((Sto.refl _ _).set 0 _).set 1 _).set 2 _) ((((eb0).set 0 rfl _).set 1 rfl _).set 2 rfl _))
    · refine sr rfl fun av wq hUw h K k => ?_
      have eh82 := h.A 3 82
      clear h; go_simp
      exact k _ _ P0
  refine end_of fun bt9 ac9 wd9 d9 z9 hU9 v9 g9 => ?_
  replace d9 := d9.trans d8; replace z9 := z9.trans z8
  clear d8 z8
  have B3_9 := g9.F 4
  rw [show bt9 9 = (bt1 3) from g9.β 3 (by simp)] at B3_9
  refine hK11 _ _ ?_
  have et6 := (v9 6 rfl).trans ((v8 6 rfl).trans ((v7 6 rfl).trans ((v6 6 rfl).trans ((v5 6 rfl).trans ((v4 6 rfl).trans ((v3 6 rfl).trans ((v2 6 rfl).trans (g1.T 3 6))))))))
  have eb6 := B3_9
  have ec1 := eb6.cell 0 rfl
  have ec2 := eb6.cell 1 rfl
  have ec3 := eb6.cell 2 rfl
  have et7 := g9.T 5 7
  refine wp_ret ?_
  refine bodyPost_ret (v := .tuple #[.agg #[.string (rB x41), .string (rB x47), .string (rB x53)], .int .i64 0]) (by simp [results, Tryz.f13, go_sem, et6, ec1, ec2, ec3, et7]) d9 ?_
  exact ⟨by simp only [Hx41.out, Hx40.out, Hx38.out, Hx36.out, Hx3.out, Hx1.out, Hx2.out, Hx37.out, Hx19.out, Hx17.out, Hx18.out, Hx15.out, Hx39.out, Hx28.out, Hx26.out, Hx27.out, Hx16.out, Hx35.out, Hx14.out, Hx12.out, Hx10.out, Hx11.out, Hx6.out, Hx4.out, Hx5.out, Hx13.out, Hx9.out, Hx7.out, Hx8.out, Hx47.out, Hx46.out, Hx44.out, Hx42.out, Hx43.out, Hx22.out, Hx20.out, Hx21.out, Hx45.out, Hx31.out, Hx29.out, Hx30.out, Hx53.out, Hx52.out, Hx50.out, Hx48.out, Hx49.out, Hx25.out, Hx23.out, Hx24.out, Hx51.out, Hx34.out, Hx32.out, Hx33.out], hU9⟩

end Go.Proofs.Klp
