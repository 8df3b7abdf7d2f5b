/- The law SlipSolves. -/
import Derived.Test.YtooldicbicanaaaGreatDoorKSz
namespace Go.Proofs.Klp
open Go.RowKit Go.Shelf
attribute [local go_sem ↓] Go.wp_at_zero Go.wp_at_succ

theorem solves_first2 {f1 f2 f3 fo a1 a2 a3 ao b1 b2 b3 bo am bm : ByteArray} (hB : (([fo, ao, bo, am, bm] : List ByteArray).all okR && !(([(f1, f2, f3), (a1, a2, a3), (b1, b2, b3)] : List Tri).any badV)) = false) : firstE [errN (okV (f1, f2, f3) && okR fo), errN (okV (a1, a2, a3) && okR ao), errN (([am] : List ByteArray).all okR), errN (okV (b1, b2, b3) && okR bo), errN (([bm] : List ByteArray).all okR)] = 2 := by
  simp only [List.all_cons, List.all_nil, List.any_cons, List.any_nil, badV] at hB ⊢
  generalize okR fo = q0 at *
  generalize okR ao = q1 at *
  generalize okR bo = q2 at *
  generalize okR am = q3 at *
  generalize okR bm = q4 at *
  generalize okV (f1, f2, f3) = q5 at *
  generalize okV (a1, a2, a3) = q6 at *
  generalize okV (b1, b2, b3) = q7 at *
  revert q0 q1 q2 q3 q4 q5 q6 q7
  decide
theorem solves_first0 {f1 f2 f3 fo a1 a2 a3 ao b1 b2 b3 bo am bm : ByteArray} (hB : (([fo, ao, bo, am, bm] : List ByteArray).all okR && !(([(f1, f2, f3), (a1, a2, a3), (b1, b2, b3)] : List Tri).any badV)) = true) : firstE [errN (okV (f1, f2, f3) && okR fo), errN (okV (a1, a2, a3) && okR ao), errN (([am] : List ByteArray).all okR), errN (okV (b1, b2, b3) && okR bo), errN (([bm] : List ByteArray).all okR)] = 0 := by
  simp only [List.all_cons, List.all_nil, List.any_cons, List.any_nil, badV] at hB ⊢
  generalize okR fo = q0 at *
  generalize okR ao = q1 at *
  generalize okR bo = q2 at *
  generalize okR am = q3 at *
  generalize okR bm = q4 at *
  generalize okV (f1, f2, f3) = q5 at *
  generalize okV (a1, a2, a3) = q6 at *
  generalize okV (b1, b2, b3) = q7 at *
  revert q0 q1 q2 q3 q4 q5 q6 q7
  decide
theorem solves_right {f1 f2 f3 fo a1 a2 a3 ao b1 b2 b3 bo am bm : ByteArray} (hB : (([fo, ao, bo, am, bm] : List ByteArray).all okR && !(([(f1, f2, f3), (a1, a2, a3), (b1, b2, b3)] : List Tri).any badV)) = true) : okR fo = true ∧ okR ao = true ∧ okR bo = true ∧ okR am = true ∧ okR bm = true ∧ okV (f1, f2, f3) = true ∧ okV (a1, a2, a3) = true ∧ okV (b1, b2, b3) = true := by
  simp only [List.all_cons, List.all_nil, List.any_cons, List.any_nil, badV] at hB
  generalize okR fo = q0 at *
  generalize okR ao = q1 at *
  generalize okR bo = q2 at *
  generalize okR am = q3 at *
  generalize okR bm = q4 at *
  generalize okV (f1, f2, f3) = q5 at *
  generalize okV (a1, a2, a3) = q6 at *
  generalize okV (b1, b2, b3) = q7 at *
  simp at hB
  simp [hB]
theorem law_slip_solves (f1 f2 f3 fo a1 a2 a3 ao b1 b2 b3 bo am bm : ByteArray) (w : World) (hE : Env w) : Calls Tryz.prog 3 #[.agg #[.string f1, .string f2, .string f3, .string fo, .string a1, .string a2, .string a3, .string ao, .string b1, .string b2, .string b3, .string bo], .agg #[.string am, .string bm]] w (Ret w (.bool true)) := by
  cases hL : ([(f1, f2, f3), (a1, a2, a3), (b1, b2, b3)] : List Tri).any lgV with
  | true => exact solves_long1 f1 f2 f3 fo a1 a2 a3 ao b1 b2 b3 bo am bm w hE hL
  | false =>
  by_cases hM : 8 < mx2 (mx2 (mx2 (mx2 ((fo).size : Int) ((ao).size : Int)) ((bo).size : Int)) ((am).size : Int)) ((bm).size : Int)
  · exact solves_long2 f1 f2 f3 fo a1 a2 a3 ao b1 b2 b3 bo am bm w hE hL hM
  have hL2 := hL
  simp only [List.any_cons, List.any_nil, Bool.or_false, Bool.or_eq_false_iff] at hL2
  obtain ⟨g1, g2, g3⟩ := hL2
  obtain ⟨sf1, sf2, sf3⟩ := lgV_false g1
  obtain ⟨sa1, sa2, sa3⟩ := lgV_false g2
  obtain ⟨sb1, sb2, sb3⟩ := lgV_false g3
  have hM2 := hM
  rw [mx2_le, mx2_le, mx2_le, mx2_le] at hM2
  obtain ⟨⟨⟨⟨sfo, sao⟩, sbo⟩, sam⟩, sbm⟩ := hM2
  dsimp only at sf1 sf2 sf3 sfo sa1 sa2 sa3 sao sb1 sb2 sb3 sbo sam sbm
  replace sfo : fo.size ≤ 8 := by omega
  replace sao : ao.size ≤ 8 := by omega
  replace sbo : bo.size ≤ 8 := by omega
  replace sam : am.size ≤ 8 := by omega
  replace sbm : bm.size ≤ 8 := by omega
  cases hB : (([fo, ao, bo, am, bm] : List ByteArray).all okR && !(([(f1, f2, f3), (a1, a2, a3), (b1, b2, b3)] : List Tri).any badV)) with
  | false => exact solves_bad f1 f2 f3 fo a1 a2 a3 ao b1 b2 b3 bo am bm w hE (by omega) (by omega) (by omega) (by omega) (by omega) (by omega) (by omega) (by omega) (by omega) (by omega) (by omega) (by omega) (by omega) (by omega) hL hM hB (solves_first2 hB)
  | true =>
  have hF := solves_first0 hB
  obtain ⟨kfo, kao, kbo, kam, kbm, k1, k2, k3⟩ := solves_right hB
  obtain ⟨f1, f2, f3, rfl, rfl, rfl⟩ := okV_rB k1
  obtain ⟨a1, a2, a3, rfl, rfl, rfl⟩ := okV_rB k2
  obtain ⟨b1, b2, b3, rfl, rfl, rfl⟩ := okV_rB k3
  obtain ⟨fo, rfl, _⟩ := okR_rB kfo
  obtain ⟨ao, rfl, _⟩ := okR_rB kao
  obtain ⟨bo, rfl, _⟩ := okR_rB kbo
  obtain ⟨am, rfl, _⟩ := okR_rB kam
  obtain ⟨bm, rfl, _⟩ := okR_rB kbm
  cases hZ : ([(rB f1, rB f2, rB f3), (rB a1, rB a2, rB a3), (rB b1, rB b2, rB b3)] : List Tri).any zV with
  | true => exact solves_zero f1 f2 f3 fo a1 a2 a3 ao b1 b2 b3 bo am bm w hE (rlen_of8 sf1) (rlen_of8 sf2) (rlen_of8 sf3) (rlen_of8 sfo) (rlen_of8 sa1) (rlen_of8 sa2) (rlen_of8 sa3) (rlen_of8 sao) (rlen_of8 sb1) (rlen_of8 sb2) (rlen_of8 sb3) (rlen_of8 sbo) (rlen_of8 sam) (rlen_of8 sbm) hL hM hB hF hZ
  | false =>
  by_cases hd : (((f1 * ((a2 * b3) - (a3 * b2))) + (f2 * ((a3 * b1) - (a1 * b3)))) + (f3 * ((a1 * b2) - (a2 * b1)))) = 0
  · exact solves_dep f1 f2 f3 fo a1 a2 a3 ao b1 b2 b3 bo am bm w hE (rlen_of8 sf1) (rlen_of8 sf2) (rlen_of8 sf3) (rlen_of8 sfo) (rlen_of8 sa1) (rlen_of8 sa2) (rlen_of8 sa3) (rlen_of8 sao) (rlen_of8 sb1) (rlen_of8 sb2) (rlen_of8 sb3) (rlen_of8 sbo) (rlen_of8 sam) (rlen_of8 sbm) hL hM hB hF hZ hd
  refine solves_ok f1 f2 f3 fo a1 a2 a3 ao b1 b2 b3 bo am bm w hE (rlen_of8 sf1) (rlen_of8 sf2) (rlen_of8 sf3) (rlen_of8 sfo) (rlen_of8 sa1) (rlen_of8 sa2) (rlen_of8 sa3) (rlen_of8 sao) (rlen_of8 sb1) (rlen_of8 sb2) (rlen_of8 sb3) (rlen_of8 sbo) (rlen_of8 sam) (rlen_of8 sbm) hL hM hB hF hZ hd ?_
  have zf1 := sz_of sf1
  have zf2 := sz_of sf2
  have zf3 := sz_of sf3
  have zfo := sz_of sfo
  have za1 := sz_of sa1
  have za2 := sz_of sa2
  have za3 := sz_of sa3
  have zao := sz_of sao
  have zb1 := sz_of sb1
  have zb2 := sz_of sb2
  have zb3 := sz_of sb3
  have zbo := sz_of sbo
  have zam := sz_of sam
  have zbm := sz_of sbm
  unfold okV
  rw [Sz.ok (Sz.mul (Sz.add (Sz.add (Sz.mul0 _) (Sz.mul (Sz.sub (Sz.mul zb2 zf3) (Sz.mul zb3 zf2)) (Sz.sub zam zao))) (Sz.mul (Sz.sub (Sz.mul zf2 za3) (Sz.mul zf3 za2)) (Sz.sub zbm zbo))) (Sz.div Sz.one (Sz.add (Sz.add (Sz.mul zf1 (Sz.sub (Sz.mul za2 zb3) (Sz.mul za3 zb2))) (Sz.mul zf2 (Sz.sub (Sz.mul za3 zb1) (Sz.mul za1 zb3)))) (Sz.mul zf3 (Sz.sub (Sz.mul za1 zb2) (Sz.mul za2 zb1)))) hd)) (by decide) (by decide), Sz.ok (Sz.mul (Sz.add (Sz.add (Sz.mul0 _) (Sz.mul (Sz.sub (Sz.mul zb3 zf1) (Sz.mul zb1 zf3)) (Sz.sub zam zao))) (Sz.mul (Sz.sub (Sz.mul zf3 za1) (Sz.mul zf1 za3)) (Sz.sub zbm zbo))) (Sz.div Sz.one (Sz.add (Sz.add (Sz.mul zf1 (Sz.sub (Sz.mul za2 zb3) (Sz.mul za3 zb2))) (Sz.mul zf2 (Sz.sub (Sz.mul za3 zb1) (Sz.mul za1 zb3)))) (Sz.mul zf3 (Sz.sub (Sz.mul za1 zb2) (Sz.mul za2 zb1)))) hd)) (by decide) (by decide), Sz.ok (Sz.mul (Sz.add (Sz.add (Sz.mul0 _) (Sz.mul (Sz.sub (Sz.mul zb1 zf2) (Sz.mul zb2 zf1)) (Sz.sub zam zao))) (Sz.mul (Sz.sub (Sz.mul zf1 za2) (Sz.mul zf2 za1)) (Sz.sub zbm zbo))) (Sz.div Sz.one (Sz.add (Sz.add (Sz.mul zf1 (Sz.sub (Sz.mul za2 zb3) (Sz.mul za3 zb2))) (Sz.mul zf2 (Sz.sub (Sz.mul za3 zb1) (Sz.mul za1 zb3)))) (Sz.mul zf3 (Sz.sub (Sz.mul za1 zb2) (Sz.mul za2 zb1)))) hd)) (by decide) (by decide)]
  rfl
end Go.Proofs.Klp
