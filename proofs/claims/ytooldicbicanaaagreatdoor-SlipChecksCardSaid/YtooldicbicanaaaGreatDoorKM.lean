/- The reference's vectors: dot products, tests. -/
import Derived.Test.YtooldicbicanaaaGreatDoorKL
namespace Go.Proofs.Klp
open Go.RowKit Go.Shelf
open Go.Lib (decDigits itoa)

/-- a vector of strings -/
abbrev vS (x y z : ByteArray) : Value := .agg #[.string x, .string y, .string z]
theorem r10_list (x y z : ByteArray) (w : World) : Calls Tryz.prog 60 #[vS x y z] w fun e w' => ∃ g, e = .returned (sl g 3) ∧ SlS w' g [x, y, z] ∧ Up w w' := by
  go_enter Tryz.func60, Tryz.ntmps60
  go_wp2
  go_ret
  have e := sls_new (w.alloc (.cells #[.string x, .string y, .string z] 24)) [x, y, z] 22 rfl
  rw [size_alloc] at e
  exact ⟨_, rfl, e, ((Up.refl _).alloc _).alloc _⟩

theorem r06_dot (L M : List Rat) (g h n : Nat) (w : World) (hE : Env w) (hL : SlS w g (L.map rB)) (hM : SlS w h (M.map rB)) (hn : n = L.length) (hm : n = M.length) (hb : ∀ x ∈ L, rlen x ≤ 1000) (hc : ∀ x ∈ M, rlen x ≤ 1000) (hl : n ≤ 3) :
    Calls Tryz.prog 89 #[sl g n, sl h n] w (Ret w (.string (rB (sumR (List.zipWith (· * ·) L M))))) := by
  have hU := Up.refl w
  have hN : (List.zipWith (· * ·) L M).length = n := by rw [List.length_zipWith]; omega
  go_enter Tryz.func89, Tryz.ntmps89
  go_wp2_with fail
  have hE0 := Lib.hid hE
  have hU0 := Lib.hid hU
  have HN := Lib.hid hN
  have Hn := Lib.hid hn
  have Hm := Lib.hid hm
  clear hE hU hN hn hm
  go_loopw [5, 6] (fun s i wr => ∃ (k : Nat) (q : Rat), k ≤ n ∧ i = .int .i64 k ∧ s = .string (rB q) ∧ Hid (q = sumR ((List.zipWith (· * ·) L M).take k)) ∧ rlen q ≤ k * 2001 + 1 ∧ Env wr ∧ Up w wr) (fun _ i _ => n - (intOf i).toNat)
  case atStart => exact ⟨0, 0, Nat.zero_le _, rfl, by rw [rB_zero]; rfl, Lib.hid rfl, by have := rlen_zero; omega, hE0.out, hU0.out⟩
  case round =>
    obtain ⟨k, q, hk, rfl, rfl, hq, hr, hEr, hUr⟩ := hrel
    by_cases hlt : k < n
    · have kL : k < L.length := by rw [← Hn.out]; exact hlt
      have kM : k < M.length := by rw [← Hm.out]; exact hlt
      have c1 := (hL.up hUr).2 k (by simpa using kL)
      have c2 := (hM.up hUr).2 k (by simpa using kM)
      rw [List.getElem_map] at c1 c2
      have hx := hb _ (List.getElem_mem kL)
      have hy := hc _ (List.getElem_mem kM)
      have hq2 : q + L[k] * M[k] = sumR ((List.zipWith (· * ·) L M).take (k + 1)) := by rw [sumR_take (by rw [HN.out]; exact hlt), hq.out, List.getElem_zipWith]
      have hr2 := rlen_add q (L[k] * M[k])
      have hr3 := rlen_mul L[k] M[k]
      have s1 := fun W' (h : Up wr W') => (hL.up (hUr.trans h)).2 k (by simpa using kL)
      have s2 := fun W' (h : Up wr W') => (hM.up (hUr.trans h)).2 k (by simpa using kM)
      simp only [List.getElem_map] at s1 s2
      generalize L[k] = x at *
      generalize M[k] = y at *
      have HQ2 := Lib.hid hq2
      have z0 : (0 : Int) ≤ (k : Int) := by omega
      have z1 : (k : Int) < (n : Int) := by omega
      clear hq2 c1 c2
      go_wp2_with fail
      have hE := hEr
      have hU := hUr
      have hS : ∀ W', Up wr W' → W'.cell? ⟨g, k, none⟩ = some (.string (rB x)) ∧ W'.cell? ⟨h, k, none⟩ = some (.string (rB y)) := fun W' h => ⟨s1 W' h, s2 W' h⟩
      have hV : Up wr wr.drew := (Up.refl _).drewN 1
      replace hE := hE.up hV
      replace hU := hU.trans hV
      clear s1 s2
      refine wp_region_noPanic ?_
      go_region_held3 (fun W' => W'.cell? ⟨g, k, none⟩ = some (.string (rB x)) ∧ W'.cell? ⟨h, k, none⟩ = some (.string (rB y))) (first | exact hS _ hV)
        (first | (go_at_call 37; refine (r02_mul _ _ _ hE (by omega) (by omega)).mono ?_; rintro _ _ ⟨rfl, hX⟩; replace hE := hE.up hX; replace hU := hU.trans hX; replace hV := hV.trans hX; clear hX) | (go_at_call 29; refine (r02_add _ _ _ hE (by omega) (by omega)).mono ?_; rintro _ _ ⟨rfl, hX⟩; replace hE := hE.up hX; replace hU := hU.trans hX; replace hV := hV.trans hX; clear hX))
      refine NoPanic.normal ?_
      go_wp2_with fail
      go_roundw
      case rel => exact ⟨k + 1, q + x * y, by omega, by go_num, rfl, HQ2, by omega, hE, hU⟩
      case measure => simp [intOf]; omega
    · obtain rfl : k = n := by omega
      rw [List.take_of_length_le (by rw [HN.out]; exact Nat.le_refl _)] at hq
      go_wp2
      go_ret
      exact ⟨by rw [hq.out]; rfl, hUr⟩

theorem dot3 (a1 a2 a3 b1 b2 b3 : Rat) : sumR (List.zipWith (· * ·) [a1, a2, a3] [b1, b2, b3]) = a1 * b1 + a2 * b2 + a3 * b3 := by
  show 0 + a1 * b1 + a2 * b2 + a3 * b3 = _
  rw [Rat.zero_add]

set_option maxRecDepth 100000 in
set_option maxHeartbeats 2000000 in
theorem r10_dot (a1 a2 a3 b1 b2 b3 : Rat) (w : World) (hE : Env w) (ha : rlen a1 ≤ 1000 ∧ rlen a2 ≤ 1000 ∧ rlen a3 ≤ 1000) (hb : rlen b1 ≤ 1000 ∧ rlen b2 ≤ 1000 ∧ rlen b3 ≤ 1000) : Calls Tryz.prog 58 #[vS (rB a1) (rB a2) (rB a3), vS (rB b1) (rB b2) (rB b3)] w (Ret w (.string (rB (a1 * b1 + a2 * b2 + a3 * b3)))) := by
  have hU := Up.refl w
  have hd := r06_dot [a1, a2, a3] [b1, b2, b3]
  rw [dot3] at hd
  have ha' : ∀ x ∈ [a1, a2, a3], rlen x ≤ 1000 := by simpa using ha
  have hb' : ∀ x ∈ [b1, b2, b3], rlen x ≤ 1000 := by simpa using hb
  have HA := Lib.hid ha'
  have HB := Lib.hid hb'
  clear ha' hb'
  go_enter Tryz.func58, Tryz.ntmps58
  go_wp2_with fail
  have X1 := (Bx.new w [.string (rB a1), .string (rB a2), .string (rB a3)] 24).up ((Up.refl _).alloc (.cells #[.string (rB b1), .string (rB b2), .string (rB b3)] 24))
  have X2 := (Bx.new (w.alloc (.cells #[.string (rB a1), .string (rB a2), .string (rB a3)] 24)) [.string (rB b1), .string (rB b2), .string (rB b3)] 24).up (Up.refl _)
  replace hU := ((hU.alloc (.cells #[.string (rB a1), .string (rB a2), .string (rB a3)] 24)).alloc (.cells #[.string (rB b1), .string (rB b2), .string (rB b3)] 24))
  replace hE := hE.up hU
  simp only [size_alloc] at X2
  generalize hWW : ((w.alloc (.cells #[.string (rB a1), .string (rB a2), .string (rB a3)] 24)).alloc (.cells #[.string (rB b1), .string (rB b2), .string (rB b3)] 24)) = W at *
  clear hWW
  have hp : w.heap.size ≤ w.heap.size := Nat.le_refl _
  generalize hpp : w.heap.size = p at X1 X2 ⊢
  replace hp : w.heap.size ≤ p := by omega
  clear hpp
  have hS : ∀ W', Up W W' → W'.cell? ⟨p, 0, none⟩ = some (.string (rB a1)) ∧ W'.cell? ⟨p, 1, none⟩ = some (.string (rB a2)) ∧ W'.cell? ⟨p, 2, none⟩ = some (.string (rB a3)) ∧ W'.cell? ⟨p + 1, 0, none⟩ = some (.string (rB b1)) ∧ W'.cell? ⟨p + 1, 1, none⟩ = some (.string (rB b2)) ∧ W'.cell? ⟨p + 1, 2, none⟩ = some (.string (rB b3)) := fun W' h =>
    ⟨(X1.up h).c0, (X1.up h).c1, (X1.up h).c2, (X2.up h).c0, (X2.up h).c1, (X2.up h).c2⟩
  have hV : Up W W.drew := (Up.refl _).drewN 1
  replace hE := hE.up hV
  replace hU := hU.trans hV
  refine wp_region_noPanic ?_
  go_region_held3 (fun W' => W'.cell? ⟨p, 0, none⟩ = some (.string (rB a1)) ∧ W'.cell? ⟨p, 1, none⟩ = some (.string (rB a2)) ∧ W'.cell? ⟨p, 2, none⟩ = some (.string (rB a3)) ∧ W'.cell? ⟨p + 1, 0, none⟩ = some (.string (rB b1)) ∧ W'.cell? ⟨p + 1, 1, none⟩ = some (.string (rB b2)) ∧ W'.cell? ⟨p + 1, 2, none⟩ = some (.string (rB b3))) (first | exact hS _ hV)
    (first | (go_at_call 60; refine (r10_list (rB a1) (rB a2) (rB a3) _).mono ?_; rintro _ _ ⟨g1, rfl, hg1, hX⟩; replace hE := hE.up hX; replace hU := hU.trans hX; replace hV := hV.trans hX; clear hX) | (go_at_call 60; refine (r10_list (rB b1) (rB b2) (rB b3) _).mono ?_; rintro _ _ ⟨g2, rfl, hg2, hX⟩; replace hE := hE.up hX; replace hU := hU.trans hX; replace hV := hV.trans hX; replace hg1 := hg1.up hX; clear hX) | (go_at_call 89; refine (hd _ _ 3 _ hE hg1 hg2 rfl rfl HA.out HB.out (by decide)).mono ?_; rintro _ _ ⟨rfl, hX⟩; replace hE := hE.up hX; replace hU := hU.trans hX; replace hV := hV.trans hX; clear hX))
  refine NoPanic.normal ?_
  go_wp2
  go_ret
  exact ⟨rfl, hU⟩
end Go.Proofs.Klp
/- Which texts are numbers: the reference's test. -/
namespace Go.Proofs.Klp
open Go.RowKit Go.Shelf
open Go.Lib (decDigits itoa indexByte)

theorem okI_one : okI (mkB [49]) = true := okI_true (s := mkB [49]) ⟨1, by rw [← iB_one]; rfl, by
  have : ilen 1 ≤ 1 := big_of_lt (by omega) (by decide)
  omega⟩
theorem ib_c (s : ByteArray) (w : World) (k : Int) (h : indexByte s.data.toList 47 = k) : Calls Tryz.prog 95 #[.string s, .int .u8 47] w (Ret w (.int .i64 k)) := by
  have hi := Tryz.strings_IndexByte s 47 w
  rw [show ((47 : Int).toNat.toUInt8) = 47 from rfl, h] at hi
  exact hi.mono fun e w' ⟨h1, h2⟩ => ⟨h1, h2 ▸ Up.refl _⟩

set_option maxRecDepth 100000 in
set_option maxHeartbeats 4000000 in
theorem r02_right (s : ByteArray) (w : World) (hE : Env w) (hs : s.size ≤ 1000000000) : Calls Tryz.prog 83 #[.string s] w (Ret w (.bool (okR s))) := by
  have hU := Up.refl w
  rcases slash_cases 47 s.data.toList with hno | ⟨a, b, hl, ha⟩
  · have hok := okI_congr (s := s) (t := s) (okR_no hno).symm
    have hp := fun w => parts_no s w hno
    have hi := fun w => ib_c s w _ (indexByte_no _ _ hno)
    have h1 := r01_right s
    have h2 := r01_right (mkB [49])
    rw [hok] at h1
    rw [okI_one] at h2
    clear hok
    cases hb : okR s with
    | true =>
      rw [hb] at h1
      clear hb
      go_enter Tryz.func83, Tryz.ntmps83
      go_wp2_with fail
      refine (hp _).mono ?_
      rintro _ _ ⟨rfl, hX⟩; replace hU := Up.trans hU hX; clear hX
      go_wp2_with fail
      refine (h1 _ hs).mono ?_
      rintro _ _ ⟨rfl, hX⟩; replace hU := Up.trans hU hX; clear hX
      go_wp2_with fail
      refine (h2 _ (by decide)).mono ?_
      rintro _ _ ⟨rfl, hX⟩; replace hU := Up.trans hU hX; clear hX
      go_wp2_with fail
      refine (hi _).mono ?_
      rintro _ _ ⟨rfl, hX⟩; replace hU := Up.trans hU hX; clear hX
      go_wp2
      go_ret
      exact ⟨rfl, hU⟩
    | false =>
      rw [hb] at h1
      clear hb
      go_enter Tryz.func83, Tryz.ntmps83
      go_wp2_with fail
      refine (hp _).mono ?_
      rintro _ _ ⟨rfl, hX⟩; replace hU := Up.trans hU hX; clear hX
      go_wp2_with fail
      refine (h1 _ hs).mono ?_
      rintro _ _ ⟨rfl, hX⟩; replace hU := Up.trans hU hX; clear hX
      go_wp2
      go_ret
      exact ⟨rfl, hU⟩
  · have hse : s = mkB (a ++ 47 :: b) := mkB_ext (by rw [hl]; rfl)
    have hsz : s.size = a.length + (b.length + 1) := by rw [hse, mkB_size, List.length_append, List.length_cons]
    have hp := fun w => parts_at s a b w ha hse (by omega)
    have e47 : indexByte s.data.toList 47 = (a.length : Int) := by rw [hl]; exact indexByte_at _ _ _ ha
    have hi := fun w => ib_c s w _ e47
    clear e47
    have hiff := okR_at (b := b) ha
    rw [← hl] at hiff
    have hca := fun w => r01_right (mkB a) w (by rw [mkB_size]; omega)
    have hcb := fun w => r01_right (mkB b) w (by rw [mkB_size]; omega)
    clear hl hse
    by_cases h1 : OkI a
    · have e1 : okI (mkB a) = true := okI_true (s := mkB a) h1
      rw [e1] at hca
      by_cases h2 : OkI b
      · have e2 : okI (mkB b) = true := okI_true (s := mkB b) h2
        rw [e2] at hcb
        obtain ⟨m, rfl, hm⟩ := h1
        obtain ⟨n, rfl, hn⟩ := h2
        change ∀ w, Calls Tryz.prog 67 _ w (Ret w (.tuple #[.string (iB m), .string (iB n)])) at hp
        change ∀ w, Calls Tryz.prog 116 #[.string (iB m)] w _ at hca
        change ∀ w, Calls Tryz.prog 116 #[.string (iB n)] w _ at hcb
        have hcmp := r01_compare n 1
        rw [iB_one] at hcmp
        have hi1 : ilen 1 ≤ 1 := big_of_lt (by omega) (by decide)
        have sm := iB_size m
        have sn := iB_size n
        have hm0 := iB_is0 m
        have hg1 := iB_is1 (Int.gcd m n : Int)
        clear e1 e2
        by_cases h3 : n ≤ 1
        · have hr := okR_false (s := s) (fun h => by
            obtain ⟨m', n', _, _, e, _, h, _⟩ := hiff.1 h
            rw [← itoa_inj e] at h; omega)
          have HR := Lib.hid hr
          have hle : ¬ 0 < (n - 1).sign := fun h => by have := Int.sign_pos_iff.1 h; omega
          clear hr
          go_enter Tryz.func83, Tryz.ntmps83
          go_wp2_with fail
          refine (hp _).mono ?_
          rintro _ _ ⟨rfl, hX⟩; replace hU := Up.trans hU hX; replace hE := Env.up hE hX; clear hX
          go_wp2_with fail
          refine (hca _).mono ?_
          rintro _ _ ⟨rfl, hX⟩; replace hU := Up.trans hU hX; replace hE := Env.up hE hX; clear hX
          go_wp2_with fail
          refine (hcb _).mono ?_
          rintro _ _ ⟨rfl, hX⟩; replace hU := Up.trans hU hX; replace hE := Env.up hE hX; clear hX
          go_wp2_with fail
          refine (hi _).mono ?_
          rintro _ _ ⟨rfl, hX⟩; replace hU := Up.trans hU hX; replace hE := Env.up hE hX; clear hX
          go_wp2_with fail
          refine (hcmp _ hE (by omega) (by omega)).mono ?_
          rintro _ _ ⟨rfl, hX⟩; replace hU := Up.trans hU hX; replace hE := Env.up hE hX; clear hX
          go_wp2
          all_goals first
            | (exfalso; omega)
            | (go_ret; exact ⟨by rw [HR.out]; rfl, hU⟩)
        · have hgt : 0 < (n - 1).sign := Int.sign_pos_iff.2 (by omega)
          by_cases h4 : m = 0
          · have hr := okR_false (s := s) (fun h => by
              obtain ⟨m', n', e, _, _, _, _, h, _⟩ := hiff.1 h
              rw [← itoa_inj e] at h; exact h h4)
            have HR := Lib.hid hr
            rw [decide_eq_true h4] at hm0
            clear hr h4
            go_enter Tryz.func83, Tryz.ntmps83
            go_wp2_with fail
            refine (hp _).mono ?_
            rintro _ _ ⟨rfl, hX⟩; replace hU := Up.trans hU hX; replace hE := Env.up hE hX; clear hX
            go_wp2_with fail
            refine (hca _).mono ?_
            rintro _ _ ⟨rfl, hX⟩; replace hU := Up.trans hU hX; replace hE := Env.up hE hX; clear hX
            go_wp2_with fail
            refine (hcb _).mono ?_
            rintro _ _ ⟨rfl, hX⟩; replace hU := Up.trans hU hX; replace hE := Env.up hE hX; clear hX
            go_wp2_with fail
            refine (hi _).mono ?_
            rintro _ _ ⟨rfl, hX⟩; replace hU := Up.trans hU hX; replace hE := Env.up hE hX; clear hX
            go_wp2_with fail
            refine (hcmp _ hE (by omega) (by omega)).mono ?_
            rintro _ _ ⟨rfl, hX⟩; replace hU := Up.trans hU hX; replace hE := Env.up hE hX; clear hX
            go_wp2
            all_goals first
              | (exfalso; omega)
              | (go_ret; exact ⟨by rw [HR.out]; rfl, hU⟩)
          · rw [decide_eq_false h4] at hm0
            have hgc := r01_gcd m n
            by_cases h5 : Int.gcd m n = 1
            · have hr := okR_true (s := s) (hiff.2 ⟨m, n, rfl, hm, rfl, hn, by omega, h4, h5⟩)
              have HR := Lib.hid hr
              rw [decide_eq_true (by omega)] at hg1
              clear hr h4 h5
              go_enter Tryz.func83, Tryz.ntmps83
              go_wp2_with fail
              refine (hp _).mono ?_
              rintro _ _ ⟨rfl, hX⟩; replace hU := Up.trans hU hX; replace hE := Env.up hE hX; clear hX
              go_wp2_with fail
              refine (hca _).mono ?_
              rintro _ _ ⟨rfl, hX⟩; replace hU := Up.trans hU hX; replace hE := Env.up hE hX; clear hX
              go_wp2_with fail
              refine (hcb _).mono ?_
              rintro _ _ ⟨rfl, hX⟩; replace hU := Up.trans hU hX; replace hE := Env.up hE hX; clear hX
              go_wp2_with fail
              refine (hi _).mono ?_
              rintro _ _ ⟨rfl, hX⟩; replace hU := Up.trans hU hX; replace hE := Env.up hE hX; clear hX
              go_wp2_with fail
              refine (hcmp _ hE (by omega) (by omega)).mono ?_
              rintro _ _ ⟨rfl, hX⟩; replace hU := Up.trans hU hX; replace hE := Env.up hE hX; clear hX
              go_wp2_with fail
              refine (hgc _ hE (by omega) (by omega)).mono ?_
              rintro _ _ ⟨rfl, hX⟩; replace hU := Up.trans hU hX; clear hX
              go_wp2
              all_goals first
                | (exfalso; omega)
                | (go_ret; exact ⟨by rw [HR.out]; rfl, hU⟩)
            · have hr := okR_false (s := s) (fun h => by
                obtain ⟨m', n', e, _, e', _, _, _, h⟩ := hiff.1 h
                rw [← itoa_inj e, ← itoa_inj e'] at h; exact h5 h)
              have HR := Lib.hid hr
              rw [decide_eq_false (by omega)] at hg1
              clear hr h4 h5
              go_enter Tryz.func83, Tryz.ntmps83
              go_wp2_with fail
              refine (hp _).mono ?_
              rintro _ _ ⟨rfl, hX⟩; replace hU := Up.trans hU hX; replace hE := Env.up hE hX; clear hX
              go_wp2_with fail
              refine (hca _).mono ?_
              rintro _ _ ⟨rfl, hX⟩; replace hU := Up.trans hU hX; replace hE := Env.up hE hX; clear hX
              go_wp2_with fail
              refine (hcb _).mono ?_
              rintro _ _ ⟨rfl, hX⟩; replace hU := Up.trans hU hX; replace hE := Env.up hE hX; clear hX
              go_wp2_with fail
              refine (hi _).mono ?_
              rintro _ _ ⟨rfl, hX⟩; replace hU := Up.trans hU hX; replace hE := Env.up hE hX; clear hX
              go_wp2_with fail
              refine (hcmp _ hE (by omega) (by omega)).mono ?_
              rintro _ _ ⟨rfl, hX⟩; replace hU := Up.trans hU hX; replace hE := Env.up hE hX; clear hX
              go_wp2_with fail
              refine (hgc _ hE (by omega) (by omega)).mono ?_
              rintro _ _ ⟨rfl, hX⟩; replace hU := Up.trans hU hX; clear hX
              go_wp2
              all_goals first
                | (exfalso; omega)
                | (go_ret; exact ⟨by rw [HR.out]; rfl, hU⟩)
      · have hr := okR_false (s := s) (fun h => by
          obtain ⟨m, n, _, _, e, hn, _⟩ := hiff.1 h
          exact h2 ⟨n, e, hn⟩)
        have HR := Lib.hid hr
        have e2 : okI (mkB b) = false := okI_false (s := mkB b) h2
        rw [e2] at hcb
        clear hr e2 e1
        go_enter Tryz.func83, Tryz.ntmps83
        go_wp2_with fail
        refine (hp _).mono ?_
        rintro _ _ ⟨rfl, hX⟩; replace hU := Up.trans hU hX; clear hX
        go_wp2_with fail
        refine (hca _).mono ?_
        rintro _ _ ⟨rfl, hX⟩; replace hU := Up.trans hU hX; clear hX
        go_wp2_with fail
        refine (hcb _).mono ?_
        rintro _ _ ⟨rfl, hX⟩; replace hU := Up.trans hU hX; clear hX
        go_wp2
        go_ret
        exact ⟨by rw [HR.out]; rfl, hU⟩
    · have hr := okR_false (s := s) (fun h => by
        obtain ⟨m, n, e, hm, _⟩ := hiff.1 h
        exact h1 ⟨m, e, hm⟩)
      have HR := Lib.hid hr
      have e1 : okI (mkB a) = false := okI_false (s := mkB a) h1
      rw [e1] at hca
      clear hr e1
      go_enter Tryz.func83, Tryz.ntmps83
      go_wp2_with fail
      refine (hp _).mono ?_
      rintro _ _ ⟨rfl, hX⟩; replace hU := Up.trans hU hX; clear hX
      go_wp2_with fail
      refine (hca _).mono ?_
      rintro _ _ ⟨rfl, hX⟩; replace hU := Up.trans hU hX; clear hX
      go_wp2
      go_ret
      exact ⟨by rw [HR.out]; rfl, hU⟩
end Go.Proofs.Klp
/- Lists of numbers and vectors: tests. -/
namespace Go.Proofs.Klp
open Go.RowKit Go.Shelf
open Go.Lib (decDigits itoa)

theorem all_take {α : Type} {p : α → Bool} {L : List α} {k : Nat} (h : k < L.length) (ha : (L.take k).all p = true) : (L.take (k + 1)).all p = p L[k] := by
  rw [List.take_succ_eq_append_getElem h, List.all_append, ha]; simp
theorem all_bad {α : Type} {p : α → Bool} {L : List α} {k : Nat} (h : k < L.length) (hp : p L[k] = false) : L.all p = false := by
  rw [List.all_eq_false]; exact ⟨_, List.getElem_mem h, by simp [hp]⟩

set_option maxHeartbeats 1000000 in
theorem slip_numbers (L : List ByteArray) (g n : Nat) (w : World) (hE : Env w) (hL : SlS w g L) (hn : n = L.length) (hs : ∀ s ∈ L, s.size ≤ 1000000000) (hl : n ≤ 100) :
    Calls Tryz.prog 51 #[sl g n] w (Ret w (.int .i64 (errN (L.all okR)))) := by
  subst hn
  have hU := Up.refl w
  go_enter Tryz.func51, Tryz.ntmps51
  go_wp2_with fail
  have hE0 := Lib.hid hE
  have hU0 := Lib.hid hU
  clear hE hU
  go_loopw [4, 5, 8] (fun _ _ i wr => ∃ (k : Nat), k ≤ L.length ∧ i = .int .i64 k ∧ Hid ((L.take k).all okR = true) ∧ Env wr ∧ Up w wr) (fun _ _ i _ => L.length - (intOf i).toNat)
  case atStart => exact ⟨0, Nat.zero_le _, rfl, Lib.hid rfl, hE0.out, hU0.out⟩
  case round =>
    obtain ⟨k, hk, rfl, hq, hEr, hUr⟩ := hrel
    by_cases hlt : k < L.length
    · have hc := (hL.up hUr).2 k hlt
      have hx := hs _ (List.getElem_mem hlt)
      have ht := all_take hlt hq.out
      have hf := fun h => all_bad (p := okR) hlt h
      have hck := rat_check L[k]
      generalize L[k] = x at *
      cases hb : okR x with
      | true =>
        rw [hb] at hck ht
        have HT := Lib.hid ht
        clear ht hf hb
        go_wp2_with fail
        refine (hck _ hEr hx).mono ?_
        rintro _ w2 ⟨rfl, hX⟩
        go_wp2_with fail
        go_roundw
        case rel => exact ⟨k + 1, by omega, by go_num, HT, hEr.up hX, hUr.trans hX⟩
        case measure => simp [intOf]; omega
      | false =>
        rw [hb] at hck
        have HF := Lib.hid (hf hb)
        clear ht hf hb
        go_wp2_with fail
        refine (hck _ hEr hx).mono ?_
        rintro _ w2 ⟨rfl, hX⟩
        go_wp2
        go_ret
        exact ⟨by rw [HF.out]; rfl, hUr.trans hX⟩
    · obtain rfl : k = L.length := by omega
      rw [List.take_length] at hq
      go_wp2
      go_ret
      exact ⟨by rw [hq.out]; rfl, hUr⟩

set_option maxHeartbeats 1000000 in
theorem vec_numbers (L : List ByteArray) (g n : Nat) (w : World) (hE : Env w) (hL : SlS w g L) (hn : n = L.length) (hs : ∀ s ∈ L, s.size ≤ 1000000000) (hl : n ≤ 100) :
    Calls Tryz.prog 122 #[sl g n] w (Ret w (.int .i64 (errN (L.all okR)))) := by
  subst hn
  have hU := Up.refl w
  go_enter Tryz.func122, Tryz.ntmps122
  go_wp2_with fail
  have hE0 := Lib.hid hE
  have hU0 := Lib.hid hU
  clear hE hU
  go_loopw [4, 5, 8] (fun _ _ i wr => ∃ (k : Nat), k ≤ L.length ∧ i = .int .i64 k ∧ Hid ((L.take k).all okR = true) ∧ Env wr ∧ Up w wr) (fun _ _ i _ => L.length - (intOf i).toNat)
  case atStart => exact ⟨0, Nat.zero_le _, rfl, Lib.hid rfl, hE0.out, hU0.out⟩
  case round =>
    obtain ⟨k, hk, rfl, hq, hEr, hUr⟩ := hrel
    by_cases hlt : k < L.length
    · have hc := (hL.up hUr).2 k hlt
      have hx := hs _ (List.getElem_mem hlt)
      have ht := all_take hlt hq.out
      have hf := fun h => all_bad (p := okR) hlt h
      have hck := rat_check L[k]
      generalize L[k] = x at *
      cases hb : okR x with
      | true =>
        rw [hb] at hck ht
        have HT := Lib.hid ht
        clear ht hf hb
        go_wp2_with fail
        refine (hck _ hEr hx).mono ?_
        rintro _ w2 ⟨rfl, hX⟩
        go_wp2_with fail
        go_roundw
        case rel => exact ⟨k + 1, by omega, by go_num, HT, hEr.up hX, hUr.trans hX⟩
        case measure => simp [intOf]; omega
      | false =>
        rw [hb] at hck
        have HF := Lib.hid (hf hb)
        clear ht hf hb
        go_wp2_with fail
        refine (hck _ hEr hx).mono ?_
        rintro _ w2 ⟨rfl, hX⟩
        go_wp2
        go_ret
        exact ⟨by rw [HF.out]; rfl, hUr.trans hX⟩
    · obtain rfl : k = L.length := by omega
      rw [List.take_length] at hq
      go_wp2
      go_ret
      exact ⟨by rw [hq.out]; rfl, hUr⟩

set_option maxHeartbeats 1000000 in
theorem r06_numbers (L : List ByteArray) (g n : Nat) (w : World) (hE : Env w) (hL : SlS w g L) (hn : n = L.length) (hs : ∀ s ∈ L, s.size ≤ 1000000000) (hl : n ≤ 100) :
    Calls Tryz.prog 39 #[sl g n] w (Ret w (.bool (L.all okR))) := by
  subst hn
  have hU := Up.refl w
  go_enter Tryz.func39, Tryz.ntmps39
  go_wp2_with fail
  have hE0 := Lib.hid hE
  have hU0 := Lib.hid hU
  clear hE hU
  go_loopw [3] (fun i wr => ∃ (k : Nat), k ≤ L.length ∧ i = .int .i64 k ∧ Hid ((L.take k).all okR = true) ∧ Env wr ∧ Up w wr) (fun i _ => L.length - (intOf i).toNat)
  case atStart => exact ⟨0, Nat.zero_le _, rfl, Lib.hid rfl, hE0.out, hU0.out⟩
  case round =>
    obtain ⟨k, hk, rfl, hq, hEr, hUr⟩ := hrel
    by_cases hlt : k < L.length
    · have hc := (hL.up hUr).2 k hlt
      have hx := hs _ (List.getElem_mem hlt)
      have ht := all_take hlt hq.out
      have hf := fun h => all_bad (p := okR) hlt h
      have hck := r02_right L[k]
      generalize L[k] = x at *
      cases hb : okR x with
      | true =>
        rw [hb] at hck ht
        have HT := Lib.hid ht
        clear ht hf hb
        go_wp2_with fail
        refine (hck _ hEr hx).mono ?_
        rintro _ w2 ⟨rfl, hX⟩
        go_wp2_with fail
        go_roundw
        case rel => exact ⟨k + 1, by omega, by go_num, HT, hEr.up hX, hUr.trans hX⟩
        case measure => simp [intOf]; omega
      | false =>
        rw [hb] at hck
        have HF := Lib.hid (hf hb)
        clear ht hf hb
        go_wp2_with fail
        refine (hck _ hEr hx).mono ?_
        rintro _ w2 ⟨rfl, hX⟩
        go_wp2
        go_ret
        exact ⟨by rw [HF.out]; rfl, hUr.trans hX⟩
    · obtain rfl : k = L.length := by omega
      rw [List.take_length] at hq
      go_wp2
      go_ret
      exact ⟨by rw [hq.out]; rfl, hUr⟩

/-- whether the strings of a vector are numbers -/
noncomputable def okV (v : ByteArray × ByteArray × ByteArray) : Bool := okR v.1 && (okR v.2.1 && okR v.2.2)
/-- a vector of strings -/
abbrev vT (v : ByteArray × ByteArray × ByteArray) : Value := .agg #[.string v.1, .string v.2.1, .string v.2.2]
def szV (m : Nat) (v : ByteArray × ByteArray × ByteArray) : Prop := v.1.size ≤ m ∧ v.2.1.size ≤ m ∧ v.2.2.size ≤ m

theorem vec_check (v : ByteArray × ByteArray × ByteArray) (w : World) (hE : Env w) (hs : szV 1000000000 v) : Calls Tryz.prog 90 #[vT v] w (Ret w (.int .i64 (errN (okV v)))) := by
  have hU := Up.refl w
  obtain ⟨x, y, z⟩ := v
  have hn := vec_numbers [x, y, z]
  have hz : ∀ s ∈ [x, y, z], s.size ≤ 1000000000 := by simpa [szV] using hs
  have HZ := Lib.hid hz
  clear hz
  unfold okV
  go_enter Tryz.func90, Tryz.ntmps90
  go_wp2_with fail
  have e := sls_new (w.alloc (.cells #[.string x, .string y, .string z] 24)) [x, y, z] 22 rfl
  rw [size_alloc] at e
  have hV : Up w ((w.alloc (.cells #[.string x, .string y, .string z] 24)).alloc (.cells #[.string x, .string y, .string z] 22)) := ((Up.refl _).alloc _).alloc _
  refine (hn _ 3 _ (hE.up hV) e rfl HZ.out (by decide)).mono ?_
  rintro _ _ ⟨rfl, hX⟩
  go_wp2
  go_ret
  exact ⟨rfl, hV.trans hX⟩

theorem r10_right (v : ByteArray × ByteArray × ByteArray) (w : World) (hE : Env w) (hs : szV 1000000000 v) : Calls Tryz.prog 19 #[vT v] w (Ret w (.bool (okV v))) := by
  have hU := Up.refl w
  obtain ⟨x, y, z⟩ := v
  have hn := r06_numbers [x, y, z]
  have hz : ∀ s ∈ [x, y, z], s.size ≤ 1000000000 := by simpa [szV] using hs
  have HZ := Lib.hid hz
  clear hz
  unfold okV
  have hV : Up w (w.alloc (.cells #[.string x, .string y, .string z] 24)) := (Up.refl _).alloc _
  go_enter Tryz.func19, Tryz.ntmps19
  go_wp2_with fail
  refine (r10_list x y z _).mono ?_
  rintro _ _ ⟨g, rfl, hg, hX⟩
  go_wp2_with fail
  refine (hn g 3 _ ((hE.up hV).up hX) hg rfl HZ.out (by decide)).mono ?_
  rintro _ _ ⟨rfl, hX2⟩
  go_wp2
  go_ret
  exact ⟨rfl, (hV.trans hX).trans hX2⟩

/-- whether the strings of a vector are zeros -/
def zV (v : ByteArray × ByteArray × ByteArray) : Bool := (v.1.toList == [48]) && ((v.2.1.toList == [48]) && (v.2.2.toList == [48]))
theorem slip_zero (v : ByteArray × ByteArray × ByteArray) (w : World) : Calls Tryz.prog 79 #[vT v] w (Ret w (.bool (zV v))) := by
  obtain ⟨x, y, z⟩ := v
  unfold zV
  cases h1 : (x.toList == [48]) <;> cases h2 : (y.toList == [48]) <;> cases h3 : (z.toList == [48])
  all_goals
    go_enter Tryz.func79, Tryz.ntmps79
    go_wp2
    go_ret
    exact ⟨rfl, (Up.refl _).alloc _⟩

theorem r10_zero (v : ByteArray × ByteArray × ByteArray) (w : World) : Calls Tryz.prog 16 #[vT v] w (Ret w (.bool (zV v))) := by
  obtain ⟨x, y, z⟩ := v
  unfold zV
  cases h1 : (x.toList == [48]) <;> cases h2 : (y.toList == [48]) <;> cases h3 : (z.toList == [48])
  all_goals
    go_enter Tryz.func16, Tryz.ntmps16
    go_wp2
    go_ret
    exact ⟨rfl, (Up.refl _).alloc _⟩

end Go.Proofs.Klp
/- Lists of vectors: tests. -/
namespace Go.Proofs.Klp
open Go.RowKit Go.Shelf
open Go.Lib (decDigits itoa)

abbrev Tri := ByteArray × ByteArray × ByteArray
/-- block g begins with these vectors -/
def SlV (w : World) (g : Nat) (L : List Tri) : Prop := g < w.heap.size ∧ ∀ k (h : k < L.length), w.cell? ⟨g, k * 3, none⟩ = some (.string L[k].1) ∧ w.cell? ⟨g, k * 3 + 1, none⟩ = some (.string L[k].2.1) ∧ w.cell? ⟨g, k * 3 + 2, none⟩ = some (.string L[k].2.2)
theorem SlV.up {w w' : World} {g : Nat} {L : List Tri} (h : SlV w g L) (k : Up w w') : SlV w' g L :=
  ⟨Nat.lt_of_lt_of_le h.1 k.size, fun i hi => by
    obtain ⟨h1, h2, h3⟩ := h.2 i hi
    exact ⟨(Below.cell k h.1).trans h1, (Below.cell k h.1).trans h2, (Below.cell k h.1).trans h3⟩⟩
def flatV (L : List Tri) : List Value := L.flatMap fun v => [.string v.1, .string v.2.1, .string v.2.2]
theorem flatV_cons (v : Tri) (L : List Tri) : flatV (v :: L) = .string v.1 :: .string v.2.1 :: .string v.2.2 :: flatV L := rfl
theorem flatV_get : ∀ (L : List Tri) (k : Nat) (h : k < L.length), (flatV L)[k * 3]? = some (.string L[k].1) ∧ (flatV L)[k * 3 + 1]? = some (.string L[k].2.1) ∧ (flatV L)[k * 3 + 2]? = some (.string L[k].2.2) := by
  intro L
  induction L with
  | nil => intro k h; simp at h
  | cons v L ih =>
    intro k h
    rw [flatV_cons]
    cases k with
    | zero => exact ⟨rfl, rfl, rfl⟩
    | succ k =>
      have i := ih k (by simpa using h)
      rw [show (k + 1) * 3 = k * 3 + 3 by omega]
      simpa using i
theorem slv_new (w : World) (L : List Tri) (t : TypeId) {vs : List Value} (h : vs = flatV L) : SlV (w.alloc (.cells vs.toArray t)) w.heap.size L := by
  subst h
  obtain ⟨h1, h2⟩ := Bx.new w (flatV L) t
  refine ⟨h1, fun k hk => ?_⟩
  obtain ⟨e1, e2, e3⟩ := flatV_get L k hk
  obtain ⟨l1, e1⟩ := List.getElem?_eq_some_iff.1 e1
  obtain ⟨l2, e2⟩ := List.getElem?_eq_some_iff.1 e2
  obtain ⟨l3, e3⟩ := List.getElem?_eq_some_iff.1 e3
  exact ⟨by rw [h2 _ l1, e1], by rw [h2 _ l2, e2], by rw [h2 _ l3, e3]⟩

theorem any_take {α : Type} {p : α → Bool} {L : List α} {k : Nat} (h : k < L.length) (ha : (L.take k).any p = false) : (L.take (k + 1)).any p = p L[k] := by
  rw [List.take_succ_eq_append_getElem h, List.any_append, ha]; simp
theorem any_good {α : Type} {p : α → Bool} {L : List α} {k : Nat} (h : k < L.length) (hp : p L[k] = true) : L.any p = true := by
  rw [List.any_eq_true]; exact ⟨_, List.getElem_mem h, hp⟩

set_option maxRecDepth 100000 in
set_option maxHeartbeats 1000000 in
theorem idx_zero (L : List Tri) (g n : Nat) (w : World) (hE : Env w) (hL : SlV w g L) (hn : n = L.length) (hl : n ≤ 100) :
    Calls Tryz.prog 57 #[sl g n, .func (.func 79) #[] #[]] w fun e w' => ((∃ k : Nat, e = .returned (.int .i64 (k : Int)) ∧ L.any zV = true) ∨ (e = .returned (.int .i64 (-1)) ∧ L.any zV = false)) ∧ Up w w' := by
  subst hn
  have hU := Up.refl w
  go_enter Tryz.func57, Tryz.ntmps57
  go_wp2_with fail
  have hE0 := Lib.hid hE
  have hU0 := Lib.hid hU
  clear hE hU
  go_loopw [5, 8] (fun _ i wr => ∃ (k : Nat), k ≤ L.length ∧ i = .int .i64 k ∧ Hid ((L.take k).any zV = false) ∧ Env wr ∧ Up w wr) (fun _ i _ => L.length - (intOf i).toNat)
  case atStart => exact ⟨0, Nat.zero_le _, rfl, Lib.hid rfl, hE0.out, hU0.out⟩
  case round =>
    obtain ⟨k, hk, rfl, hq, hEr, hUr⟩ := hrel
    by_cases hlt : k < L.length
    · obtain ⟨c0, c1, c2⟩ := (hL.up hUr).2 k hlt
      have ht := any_take hlt hq.out
      have hg := fun h => any_good (p := zV) hlt h
      have hck := fun w (_ : Env w) => slip_zero L[k] w
      generalize L[k] = x at *
      obtain ⟨x, y, z⟩ := x
      dsimp only at c0 c1 c2
      cases hb : zV (x, y, z) with
      | false =>
        rw [hb] at hck ht
        have HT := Lib.hid ht
        clear ht hg hb
        go_wp2_with fail
        refine (hck _ hEr).mono ?_
        rintro _ w2 ⟨rfl, hX⟩
        go_wp2_with fail
        go_roundw
        case rel => exact ⟨k + 1, by omega, by go_num, HT, hEr.up hX, hUr.trans hX⟩
        case measure => simp [intOf]; omega
      | true =>
        rw [hb] at hck
        have HG := Lib.hid (hg hb)
        clear ht hg hb
        go_wp2_with fail
        refine (hck _ hEr).mono ?_
        rintro _ w2 ⟨rfl, hX⟩
        go_wp2
        go_ret
        exact ⟨.inl ⟨k, rfl, HG.out⟩, hUr.trans hX⟩
    · obtain rfl : k = L.length := by omega
      rw [List.take_length] at hq
      go_wp2
      go_ret
      exact ⟨.inr ⟨rfl, hq.out⟩, hUr⟩

set_option maxRecDepth 100000 in
theorem has_zero (L : List Tri) (g n : Nat) (w : World) (hE : Env w) (hL : SlV w g L) (hn : n = L.length) (hl : n ≤ 100) :
    Calls Tryz.prog 15 #[sl g n, .func (.func 79) #[] #[]] w (Ret w (.bool (L.any zV))) := by
  subst hn
  have hi := idx_zero L g L.length w hE hL rfl hl
  go_enter Tryz.func15, Tryz.ntmps15
  go_wp2_with fail
  refine hi.mono ?_
  rintro _ w2 ⟨⟨k, rfl, hk⟩ | ⟨rfl, hk⟩, hX⟩
  all_goals
    have HK := Lib.hid hk
    clear hi hL hl hk
    go_wp2
    go_ret
    exact ⟨by rw [HK.out]; rfl, hX⟩

set_option maxRecDepth 100000 in
set_option maxHeartbeats 1000000 in
theorem idx_rzero (L : List Tri) (g n : Nat) (w : World) (hE : Env w) (hL : SlV w g L) (hn : n = L.length) (hl : n ≤ 100) :
    Calls Tryz.prog 57 #[sl g n, .func (.func 16) #[] #[]] w fun e w' => ((∃ k : Nat, e = .returned (.int .i64 (k : Int)) ∧ L.any zV = true) ∨ (e = .returned (.int .i64 (-1)) ∧ L.any zV = false)) ∧ Up w w' := by
  subst hn
  have hU := Up.refl w
  go_enter Tryz.func57, Tryz.ntmps57
  go_wp2_with fail
  have hE0 := Lib.hid hE
  have hU0 := Lib.hid hU
  clear hE hU
  go_loopw [5, 8] (fun _ i wr => ∃ (k : Nat), k ≤ L.length ∧ i = .int .i64 k ∧ Hid ((L.take k).any zV = false) ∧ Env wr ∧ Up w wr) (fun _ i _ => L.length - (intOf i).toNat)
  case atStart => exact ⟨0, Nat.zero_le _, rfl, Lib.hid rfl, hE0.out, hU0.out⟩
  case round =>
    obtain ⟨k, hk, rfl, hq, hEr, hUr⟩ := hrel
    by_cases hlt : k < L.length
    · obtain ⟨c0, c1, c2⟩ := (hL.up hUr).2 k hlt
      have ht := any_take hlt hq.out
      have hg := fun h => any_good (p := zV) hlt h
      have hck := fun w (_ : Env w) => r10_zero L[k] w
      generalize L[k] = x at *
      obtain ⟨x, y, z⟩ := x
      dsimp only at c0 c1 c2
      cases hb : zV (x, y, z) with
      | false =>
        rw [hb] at hck ht
        have HT := Lib.hid ht
        clear ht hg hb
        go_wp2_with fail
        refine (hck _ hEr).mono ?_
        rintro _ w2 ⟨rfl, hX⟩
        go_wp2_with fail
        go_roundw
        case rel => exact ⟨k + 1, by omega, by go_num, HT, hEr.up hX, hUr.trans hX⟩
        case measure => simp [intOf]; omega
      | true =>
        rw [hb] at hck
        have HG := Lib.hid (hg hb)
        clear ht hg hb
        go_wp2_with fail
        refine (hck _ hEr).mono ?_
        rintro _ w2 ⟨rfl, hX⟩
        go_wp2
        go_ret
        exact ⟨.inl ⟨k, rfl, HG.out⟩, hUr.trans hX⟩
    · obtain rfl : k = L.length := by omega
      rw [List.take_length] at hq
      go_wp2
      go_ret
      exact ⟨.inr ⟨rfl, hq.out⟩, hUr⟩

set_option maxRecDepth 100000 in
theorem has_rzero (L : List Tri) (g n : Nat) (w : World) (hE : Env w) (hL : SlV w g L) (hn : n = L.length) (hl : n ≤ 100) :
    Calls Tryz.prog 15 #[sl g n, .func (.func 16) #[] #[]] w (Ret w (.bool (L.any zV))) := by
  subst hn
  have hi := idx_rzero L g L.length w hE hL rfl hl
  go_enter Tryz.func15, Tryz.ntmps15
  go_wp2_with fail
  refine hi.mono ?_
  rintro _ w2 ⟨⟨k, rfl, hk⟩ | ⟨rfl, hk⟩, hX⟩
  all_goals
    have HK := Lib.hid hk
    clear hi hL hl hk
    go_wp2
    go_ret
    exact ⟨by rw [HK.out]; rfl, hX⟩

set_option maxRecDepth 100000 in
theorem slip_zeros (L : List Tri) (g n : Nat) (w : World) (hE : Env w) (hL : SlV w g L) (hn : n = L.length) (hl : n ≤ 100) :
    Calls Tryz.prog 52 #[sl g n] w (Ret w (.int .i64 (if L.any zV then 17 else 0))) := by
  subst hn
  have hi := has_zero L g L.length w hE hL rfl hl
  cases h : L.any zV
  all_goals
    rw [h] at hi
    clear h
    go_enter Tryz.func52, Tryz.ntmps52
    go_wp2_with fail
    refine hi.mono ?_
    rintro _ w2 ⟨rfl, hX⟩
    go_wp2
    go_ret
    exact ⟨rfl, hX⟩

/-- whether a vector has a number of more than 8 bytes -/
def lgV (v : Tri) : Bool := decide (8 < max (max v.1.size v.2.1.size) v.2.2.size)
noncomputable def badV (v : Tri) : Bool := !okV v
theorem law_brief1 (v : Tri) (w : World) : Calls Tryz.prog 48 #[vT v] w (Ret w (.bool (lgV v))) := by
  obtain ⟨x, y, z⟩ := v
  have hlg : lgV (x, y, z) = decide (8 < max (max x.size y.size) z.size) := rfl
  have HLG := Lib.hid hlg
  clear hlg
  by_cases h1 : x.size < y.size
  all_goals
    go_enter Tryz.func48, Tryz.ntmps48
    go_wp2
    all_goals
      go_ret
      refine ⟨?_, (Up.refl _).alloc _⟩
      rw [HLG.out]
      refine congrArg (fun b => Ending.returned (.bool b)) (decide_eq_decide.2 ?_)
      omega
theorem law_numbers1 (v : Tri) (w : World) (hE : Env w) (hs : szV 1000000000 v) : Calls Tryz.prog 56 #[vT v] w (Ret w (.bool (badV v))) := by
  have hr := r10_right v
  obtain ⟨x, y, z⟩ := v
  unfold badV
  have hV : Up w (w.alloc (.cells #[.string x, .string y, .string z] 24)) := (Up.refl _).alloc _
  go_enter Tryz.func56, Tryz.ntmps56
  go_wp2_with fail
  refine (hr _ (hE.up hV) hs).mono ?_
  rintro _ w2 ⟨rfl, hX⟩
  go_wp2
  go_ret
  exact ⟨rfl, hV.trans hX⟩

set_option maxRecDepth 100000 in
set_option maxHeartbeats 1000000 in
theorem idx_brief (L : List Tri) (g n : Nat) (w : World) (hE : Env w) (hL : SlV w g L) (hn : n = L.length) (hl : n ≤ 100) :
    Calls Tryz.prog 57 #[sl g n, .func (.func 48) #[] #[]] w fun e w' => ((∃ k : Nat, e = .returned (.int .i64 (k : Int)) ∧ L.any lgV = true) ∨ (e = .returned (.int .i64 (-1)) ∧ L.any lgV = false)) ∧ Up w w' := by
  subst hn
  have hU := Up.refl w
  go_enter Tryz.func57, Tryz.ntmps57
  go_wp2_with fail
  have hE0 := Lib.hid hE
  have hU0 := Lib.hid hU
  clear hE hU
  go_loopw [5, 8] (fun _ i wr => ∃ (k : Nat), k ≤ L.length ∧ i = .int .i64 k ∧ Hid ((L.take k).any lgV = false) ∧ Env wr ∧ Up w wr) (fun _ i _ => L.length - (intOf i).toNat)
  case atStart => exact ⟨0, Nat.zero_le _, rfl, Lib.hid rfl, hE0.out, hU0.out⟩
  case round =>
    obtain ⟨k, hk, rfl, hq, hEr, hUr⟩ := hrel
    by_cases hlt : k < L.length
    · obtain ⟨c0, c1, c2⟩ := (hL.up hUr).2 k hlt
      have ht := any_take hlt hq.out
      have hg := fun h => any_good (p := lgV) hlt h
      have hck := fun w (_ : Env w) => law_brief1 L[k] w
      generalize L[k] = x at *
      obtain ⟨x, y, z⟩ := x
      dsimp only at c0 c1 c2
      cases hb : lgV (x, y, z) with
      | false =>
        rw [hb] at hck ht
        have HT := Lib.hid ht
        clear ht hg hb
        go_wp2_with fail
        refine (hck _ hEr).mono ?_
        rintro _ w2 ⟨rfl, hX⟩
        go_wp2_with fail
        go_roundw
        case rel => exact ⟨k + 1, by omega, by go_num, HT, hEr.up hX, hUr.trans hX⟩
        case measure => simp [intOf]; omega
      | true =>
        rw [hb] at hck
        have HG := Lib.hid (hg hb)
        clear ht hg hb
        go_wp2_with fail
        refine (hck _ hEr).mono ?_
        rintro _ w2 ⟨rfl, hX⟩
        go_wp2
        go_ret
        exact ⟨.inl ⟨k, rfl, HG.out⟩, hUr.trans hX⟩
    · obtain rfl : k = L.length := by omega
      rw [List.take_length] at hq
      go_wp2
      go_ret
      exact ⟨.inr ⟨rfl, hq.out⟩, hUr⟩

set_option maxRecDepth 100000 in
theorem has_brief (L : List Tri) (g n : Nat) (w : World) (hE : Env w) (hL : SlV w g L) (hn : n = L.length) (hl : n ≤ 100) :
    Calls Tryz.prog 15 #[sl g n, .func (.func 48) #[] #[]] w (Ret w (.bool (L.any lgV))) := by
  subst hn
  have hi := idx_brief L g L.length w hE hL rfl hl
  go_enter Tryz.func15, Tryz.ntmps15
  go_wp2_with fail
  refine hi.mono ?_
  rintro _ w2 ⟨⟨k, rfl, hk⟩ | ⟨rfl, hk⟩, hX⟩
  all_goals
    have HK := Lib.hid hk
    clear hi hL hl hk
    go_wp2
    go_ret
    exact ⟨by rw [HK.out]; rfl, hX⟩

set_option maxRecDepth 100000 in
set_option maxHeartbeats 1000000 in
theorem idx_numbers (L : List Tri) (g n : Nat) (w : World) (hE : Env w) (hL : SlV w g L) (hn : n = L.length) (hl : n ≤ 100) (hs : ∀ v ∈ L, szV 1000000000 v) :
    Calls Tryz.prog 57 #[sl g n, .func (.func 56) #[] #[]] w fun e w' => ((∃ k : Nat, e = .returned (.int .i64 (k : Int)) ∧ L.any badV = true) ∨ (e = .returned (.int .i64 (-1)) ∧ L.any badV = false)) ∧ Up w w' := by
  subst hn
  have hU := Up.refl w
  go_enter Tryz.func57, Tryz.ntmps57
  go_wp2_with fail
  have hE0 := Lib.hid hE
  have hU0 := Lib.hid hU
  have HS := Lib.hid hs
  clear hE hU hs
  go_loopw [5, 8] (fun _ i wr => ∃ (k : Nat), k ≤ L.length ∧ i = .int .i64 k ∧ Hid ((L.take k).any badV = false) ∧ Env wr ∧ Up w wr) (fun _ i _ => L.length - (intOf i).toNat)
  case atStart => exact ⟨0, Nat.zero_le _, rfl, Lib.hid rfl, hE0.out, hU0.out⟩
  case round =>
    obtain ⟨k, hk, rfl, hq, hEr, hUr⟩ := hrel
    by_cases hlt : k < L.length
    · obtain ⟨c0, c1, c2⟩ := (hL.up hUr).2 k hlt
      have ht := any_take hlt hq.out
      have hg := fun h => any_good (p := badV) hlt h
      have hck := fun w (h : Env w) => law_numbers1 L[k] w h (HS.out _ (List.getElem_mem hlt))
      generalize L[k] = x at *
      obtain ⟨x, y, z⟩ := x
      dsimp only at c0 c1 c2
      cases hb : badV (x, y, z) with
      | false =>
        rw [hb] at hck ht
        have HT := Lib.hid ht
        clear ht hg hb
        go_wp2_with fail
        refine (hck _ hEr).mono ?_
        rintro _ w2 ⟨rfl, hX⟩
        go_wp2_with fail
        go_roundw
        case rel => exact ⟨k + 1, by omega, by go_num, HT, hEr.up hX, hUr.trans hX⟩
        case measure => simp [intOf]; omega
      | true =>
        rw [hb] at hck
        have HG := Lib.hid (hg hb)
        clear ht hg hb
        go_wp2_with fail
        refine (hck _ hEr).mono ?_
        rintro _ w2 ⟨rfl, hX⟩
        go_wp2
        go_ret
        exact ⟨.inl ⟨k, rfl, HG.out⟩, hUr.trans hX⟩
    · obtain rfl : k = L.length := by omega
      rw [List.take_length] at hq
      go_wp2
      go_ret
      exact ⟨.inr ⟨rfl, hq.out⟩, hUr⟩

set_option maxRecDepth 100000 in
theorem has_numbers (L : List Tri) (g n : Nat) (w : World) (hE : Env w) (hL : SlV w g L) (hn : n = L.length) (hl : n ≤ 100) (hs : ∀ v ∈ L, szV 1000000000 v) :
    Calls Tryz.prog 15 #[sl g n, .func (.func 56) #[] #[]] w (Ret w (.bool (L.any badV))) := by
  subst hn
  have hi := idx_numbers L g L.length w hE hL rfl hl hs
  go_enter Tryz.func15, Tryz.ntmps15
  go_wp2_with fail
  refine hi.mono ?_
  rintro _ w2 ⟨⟨k, rfl, hk⟩ | ⟨rfl, hk⟩, hX⟩
  all_goals
    have HK := Lib.hid hk
    clear hi hL hl hk
    go_wp2
    go_ret
    exact ⟨by rw [HK.out]; rfl, hX⟩

end Go.Proofs.Klp
