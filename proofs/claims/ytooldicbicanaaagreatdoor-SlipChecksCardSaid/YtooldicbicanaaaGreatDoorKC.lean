/- Division of magnitudes. -/
import Derived.Test.YtooldicbicanaaaGreatDoorKB
import Derived.Deep.DeepCutAuto
namespace Go.Proofs.Klp
open Go.RowKit Go.Shelf

theorem grown_below {w w1 : World} (h : Below w.heap.size w w1) (row : Option Nat) : w.grownBy w1 row := ⟨h.os, h.tape, h.output, h.size, fun i hi _ => h.block i hi⟩
theorem row_below {w w1 : World} {base : Nat} {e : TypeId} {size : Nat} {v : Value} {n : Nat} {xs : List Value} (h : w.ownsRow base e size v n xs) (hb : Below w.heap.size w w1) : w1.ownsRow base e size v n xs := by
  rcases h.2 with ⟨rfl, h0⟩ | ⟨g, cap, cur, rfl, _⟩
  · exact h.kept (grown_below hb none) (.inl rfl)
  · exact h.kept (grown_below hb none) (.inr (by simp [Value.ownBlock]))
theorem box_below {W W' : World} {B : Nat} {t : TypeId} {v : Value} (h : Boxed W B t v) (hb : Below W.heap.size W W') : Boxed W' B t v := (hb.block B h.lt).trans h
theorem below_wide {B : Nat} {w w1 w2 : World} (h : Below B w w1) (hB : B ≤ w1.heap.size) (k : Below w1.heap.size w1 w2) : Below B w w2 := h.trans (k.mono hB)

theorem rd_not_box {k : IntKind} {W : World} {A : Option Addr} {n c : Nat} {zs : List Int} {B : Nat} {T : TypeId} {v : Value} (h : Rd k W A n c zs) (hB : Boxed W B T v) (hv : ∀ x, v ≠ .int k x) (hn : 0 < n) {b off : Nat} (hA : A = some ⟨b, off, none⟩) : b ≠ B := by
  obtain ⟨b', off', e, hlt, hc⟩ := h.cell hn
  rw [hA] at e; cases e
  intro e
  subst e
  have h0 := hc 0 hn
  have hB' : W.heap[b]? = some (.cells #[v] T (0, 0)) := hB
  unfold World.cell? at h0
  rw [hB'] at h0
  by_cases ho : off = 0
  · subst ho; simp at h0; exact hv _ h0
  · rw [Nat.add_zero] at h0
    have h1 : (#[v] : Array Value)[off]? = none := Array.getElem?_eq_none (by simp; omega)
    simp [h1] at h0
theorem rd_news {k : IntKind} {w : World} {ad : Addr} {n c : Nat} {zs : List Int} (h : Rd k w (some ad) n c zs) : ∀ j u, (zs.map (Value.int k))[j]? = some u → w.cell? (ad.add j) = some u := by
  intro j u hu
  rw [List.getElem?_map] at hu
  have hj : j < zs.length := by
    rcases Nat.lt_or_ge j zs.length with h' | h'
    · exact h'
    · rw [List.getElem?_eq_none h'] at hu; simp at hu
  rw [List.getElem?_eq_getElem hj] at hu
  obtain ⟨b, off, e, _, hc⟩ := h.cell (by rw [← h.len]; omega)
  cases e
  have h1 := hc j (by rw [← h.len]; exact hj)
  have h2 : dt zs j = zs[j] := getD_in hj
  rw [h2] at h1
  have h3 : (⟨b, off, none⟩ : Addr).add j = ⟨b, off + j, none⟩ := by unfold Addr.add; split <;> simp_all
  rw [h3, h1]; simpa using hu
theorem cmpI_neg {x y : Int} (h : cmpI x y < 0) : x < y := by
  unfold cmpI at h
  split at h
  · assumption
  · split at h <;> omega
theorem cmpI_nneg {x y : Int} (h : ¬ cmpI x y < 0) : y ≤ x := by
  unfold cmpI at h
  split at h <;> omega
theorem len_le_of_val {xs ys : List Int} (hx : Can 1000000000 xs) (hy : Dg 1000000000 ys) (h : val 1000000000 xs ≤ val 1000000000 ys) : xs.length ≤ ys.length := by
  rcases Nat.lt_or_ge ys.length xs.length with h1 | h1
  · have := hx.lt_of_len (by omega) hy h1
    omega
  · exact h1
theorem div_skip {us vs zs ts rs : List Int} {m : Nat} (h1 : m < us.length) (h2 : m < zs.length) (h3 : dt zs m = 0) (h4 : val 1000000000 (us.drop (m + 1)) = val 1000000000 vs * val 1000000000 (zs.drop (m + 1)) + val 1000000000 rs) (h5 : val 1000000000 ts = dt us m + 1000000000 * val 1000000000 rs) :
    val 1000000000 (us.drop m) = val 1000000000 vs * val 1000000000 (zs.drop m) + val 1000000000 ts := by
  have e1 : zs.getD m 0 = 0 := h3
  have e2 : us.getD m 0 = dt us m := rfl
  rw [val_drop _ us _ h1, val_drop _ zs _ h2, h4, h5, e1, e2]
  grind
theorem rd_store {k : IntKind} {W : World} {A : Option Addr} {n c : Nat} {zs : List Int} {B : Nat} (h : Rd k W A n c zs) (hne : ∀ a n' c', Value.slice A n c = .slice (some a) n' c' → B < a.block) (m : Nat) (u : Value) : Rd k (W.setCell ⟨B, m, none⟩ u) A n c zs where
  len := h.len
  cap := h.cap
  cmax := h.cmax
  nilc := h.nilc
  cell := fun hn => by
    obtain ⟨b, off, e, hlt, hc⟩ := h.cell hn
    have hb := hne ⟨b, off, none⟩ n c (by rw [e])
    exact ⟨b, off, e, by simpa using hlt, fun j hj => (World.cell?_of_block (heap_setCell_other W ⟨B, m, none⟩ b u (by simp at hb ⊢; omega))).trans (hc j hj)⟩
theorem div_quo {V D dd Q : Int} (hv : 1 ≤ V) (h : V * dd ≤ D) (hQ : D / V = Q) (h2 : Q ≤ dd) : dd = Q := by
  have : dd ≤ Q := by rw [← hQ]; exact (Int.le_ediv_iff_mul_le (by omega)).2 (by rw [Int.mul_comm]; exact h)
  omega
theorem div_rem_lt {V D : Int} (hv : 1 ≤ V) : D - V * (D / V) < V := by
  have e := Int.emod_add_mul_ediv D V
  have l := Int.emod_lt_of_pos D (show 0 < V by omega)
  omega
theorem dt_set_ne {zs : List Int} {m j : Nat} {d : Int} (h : j ≠ m) : dt (zs.set m d) j = dt zs j := by
  unfold dt; simp [List.getD, List.getElem?_set_ne (Ne.symm h)]
theorem div_take {us vs zs ts rs ps : List Int} {m : Nat} {dd : Int} (h1 : m < us.length) (h2 : m < zs.length) (h4 : val 1000000000 (us.drop (m + 1)) = val 1000000000 vs * val 1000000000 (zs.drop (m + 1)) + val 1000000000 rs) (h5 : val 1000000000 ts = dt us m + 1000000000 * val 1000000000 rs)
    (h6 : val 1000000000 ps = val 1000000000 ts - val 1000000000 vs * dd) : val 1000000000 (us.drop m) = val 1000000000 vs * val 1000000000 ((zs.set m dd).drop m) + val 1000000000 ps := by
  have e2 : us.getD m 0 = dt us m := rfl
  have e3 : (zs.set m dd).getD m 0 = dd := by rw [getD_in (by simpa using h2)]; simp
  rw [val_drop _ us _ h1, val_drop _ (zs.set m dd) _ (by simpa using h2), List.drop_set_of_lt (by omega), h4, h6, h5, e2, e3]
  grind
theorem cmpI_npos {x y : Int} (h : ¬ 0 < cmpI x y) : x ≤ y := by
  unfold cmpI at h
  split at h
  · omega
  · split at h <;> omega
theorem cmpI_pos {x y : Int} (h : 0 < cmpI x y) : y < x := by
  unfold cmpI at h
  split at h
  · omega
  · split at h <;> omega
theorem top_split {ts : List Int} {n : Nat} (hl : ts.length = n) (hn : 0 < n) (h : Dg 1000000000 ts) : val 1000000000 ts < (dt ts (n - 1) + 1) * 1000000000 ^ (n - 1) ∧ dt ts (n - 1) * 1000000000 ^ (n - 1) ≤ val 1000000000 ts := by
  have e := val_take_succ' 1000000000 ts (n - 1)
  rw [show n - 1 + 1 = n by omega, val_take_over _ _ _ (by omega)] at e
  have b := val_bounds (by omega) (h.take (n - 1))
  rw [List.length_take, Nat.min_eq_left (by omega)] at b
  have e2 : ts.getD (n - 1) 0 = dt ts (n - 1) := rfl
  rw [e2] at e
  rw [Int.add_mul, Int.one_mul, Int.mul_comm (dt ts (n - 1))]
  omega
theorem est_one {ts vs : List Int} {n6 n4 : Nat} (ht : Can 1000000000 ts) (hv : Can 1000000000 vs) (h6 : ts.length = n6) (h4 : vs.length = n4) (hn : n6 = n4) (hp : 0 < n4) (htp : 1 ≤ dt vs (n4 - 1)) (hge : val 1000000000 vs ≤ val 1000000000 ts) :
    val 1000000000 ts / val 1000000000 vs ≤ dt ts (n6 - 1) / dt vs (n4 - 1) := by
  subst hn
  have t1 := top_split h6 hp ht.1
  have t2 := top_split h4 hp hv.1
  have hP := pow_pos' (show (0 : Int) < 1000000000 by omega) (n6 - 1)
  have hvp : 0 < val 1000000000 vs := by
    have : 1 * 1 ≤ dt vs (n6 - 1) * 1000000000 ^ (n6 - 1) := Int.mul_le_mul htp (by omega) (by omega) (by omega)
    omega
  exact div_est (by omega) hP t2.2 t1.1 (Int.ediv_nonneg (by omega) (by omega)) (Int.ediv_mul_le _ (by omega))
theorem est_two {ts vs : List Int} {n6 n4 : Nat} (ht : Can 1000000000 ts) (hv : Can 1000000000 vs) (h6 : ts.length = n6) (h4 : vs.length = n4) (hn : n6 = n4 + 1) (hp : 0 < n4) (htp : 1 ≤ dt vs (n4 - 1)) (hge : val 1000000000 vs ≤ val 1000000000 ts) :
    val 1000000000 ts / val 1000000000 vs ≤ (dt ts (n6 - 1) * 1000000000 + dt ts (n6 - 2)) / dt vs (n4 - 1) := by
  subst hn
  have t2 := top_split h4 hp hv.1
  have hP := pow_pos' (show (0 : Int) < 1000000000 by omega) (n4 - 1)
  have hvp : 0 < val 1000000000 vs := by
    have : 1 * 1 ≤ dt vs (n4 - 1) * 1000000000 ^ (n4 - 1) := Int.mul_le_mul htp (by omega) (by omega) (by omega)
    omega
  have e1 := val_take_succ' 1000000000 ts n4
  rw [val_take_over _ _ _ (by omega)] at e1
  have e2 := val_take_succ' 1000000000 ts (n4 - 1)
  rw [show n4 - 1 + 1 = n4 by omega] at e2
  have b := val_bounds (by omega) (ht.1.take (n4 - 1))
  rw [List.length_take, Nat.min_eq_left (by omega)] at b
  have g1 : ts.getD n4 0 = dt ts n4 := rfl
  have g2 : ts.getD (n4 - 1) 0 = dt ts (n4 - 1) := rfl
  rw [g1] at e1
  rw [g2] at e2
  have e3 : (1000000000 : Int) ^ n4 = 1000000000 ^ (n4 - 1) * 1000000000 := by rw [← Int.pow_succ]; congr 1; omega
  rw [e3, e2] at e1
  rw [show n4 + 1 - 1 = n4 by omega, show n4 + 1 - 2 = n4 - 1 by omega]
  refine div_est (by omega) hP t2.2 ?_ (Int.ediv_nonneg (by omega) (by omega)) (Int.ediv_mul_le _ (by omega))
  generalize (1000000000 : Int) ^ (n4 - 1) = P at *
  have : (dt ts n4 * 1000000000 + dt ts (n4 - 1) + 1) * P = P * dt ts (n4 - 1) + P * 1000000000 * dt ts n4 + P := by grind
  omega
theorem quo_lt {vs ts rs : List Int} {x : Int} (hv : 1 ≤ val 1000000000 vs) (h : val 1000000000 rs < val 1000000000 vs) (ht : val 1000000000 ts = x + 1000000000 * val 1000000000 rs) (hx : x ≤ 999999999) : val 1000000000 ts / val 1000000000 vs ≤ 999999999 := by
  have h1 : val 1000000000 ts / val 1000000000 vs < 1000000000 := Int.ediv_lt_of_lt_mul (by omega) (by omega)
  omega
theorem down_step {vs ts : List Int} {dd Q : Int} (hv : 1 ≤ val 1000000000 vs) (h : val 1000000000 ts < val 1000000000 vs * dd) (hQ : val 1000000000 ts / val 1000000000 vs = Q) : Q ≤ dd - 1 ∧ val 1000000000 vs * dd - val 1000000000 vs = val 1000000000 vs * (dd - 1) := by
  have h1 : Q < dd := by rw [← hQ]; exact Int.ediv_lt_of_lt_mul (by omega) (by rw [Int.mul_comm]; exact h)
  refine ⟨by omega, by grind⟩
theorem Rd.setBox {k : IntKind} {W : World} {A : Option Addr} {n c : Nat} {zs : List Int} {B : Nat} {T : TypeId} {v : Value} (h : Rd k W A n c zs) (hB : Boxed W B T v) (hv : ∀ x, v ≠ .int k x) (u : Value) : Rd k (W.setCell ⟨B, 0, none⟩ u) A n c zs where
  len := h.len
  cap := h.cap
  cmax := h.cmax
  nilc := h.nilc
  cell := fun hn => by
    obtain ⟨b, off, e, hlt, hc⟩ := h.cell hn
    have hne : b ≠ B := by
      intro e
      subst e
      have h0 := hc 0 hn
      have hB' : W.heap[b]? = some (.cells #[v] T (0, 0)) := hB
      unfold World.cell? at h0
      rw [hB'] at h0
      by_cases ho : off = 0
      · subst ho; simp at h0; exact hv _ h0
      · rw [Nat.add_zero] at h0
        have h1 : (#[v] : Array Value)[off]? = none := Array.getElem?_eq_none (by simp; omega)
        simp [h1] at h0
    exact ⟨b, off, e, by simpa using hlt, fun j hj => (World.cell?_of_block (heap_setCell_other W ⟨B, 0, none⟩ b u hne)).trans (hc j hj)⟩

theorem top_pos {vs : List Int} {n : Nat} (h : Can 1000000000 vs) (hl : vs.length = n) (hn : 0 < n) : 1 ≤ dt vs (n - 1) := by
  have h2 := h.2
  rw [List.getLast?_eq_getElem?, hl, List.getElem?_eq_getElem (by omega)] at h2
  have e : dt vs (n - 1) = vs[n - 1]'(by omega) := getD_in _
  have h3 := h.1.at (n - 1) (by omega)
  have h4 : vs[n - 1]'(by omega) ≠ 0 := fun e => h2 (by rw [e])
  omega
/-- the first number is the less: nothing, and itself -/
theorem divless_any (A1 : Option Addr) (n1 c1 : Nat) (xs : List Int) (A2 : Option Addr) (n2 c2 : Nat) (ys : List Int) (w : World) (hx : Rd .u64 w A1 n1 c1 xs) (hy : Rd .u64 w A2 n2 c2 ys)
    (hxc : Can 1000000000 xs) (hyc : Can 1000000000 ys) (hn1 : n1 ≤ 100000000) (hn2 : n2 ≤ 100000000) (hlt : Hid (val 1000000000 xs < val 1000000000 ys)) :
    Calls Tryz.prog 147 #[.slice A1 n1 c1, .slice A2 n2 c2] w fun e w' => e = .returned (.tuple #[.slice none 0 0, .slice A1 n1 c1]) ∧ Below w.heap.size w w' := by
  have b1 := Boxed.new w 162 (.slice A2 n2 c2)
  have b2 := Boxed.new (w.alloc (.cells #[.slice A2 n2 c2] 162)) 162 (.slice none 0 0)
  rw [World.size_alloc] at b2
  have hb1 := b1.alloc (.cells #[.slice none 0 0] 162)
  have hB2 : Below w.heap.size w ((w.alloc (.cells #[.slice A2 n2 c2] 162)).alloc (.cells #[.slice none 0 0] 162)) := ((Below.refl _ w).alloc (Nat.le_refl _) _).alloc (by simp) _
  have c2' := b2.cell
  have f2' := b2.frozen
  have c3' := hb1.cell
  have hxw := hx.below hB2
  have hyw := hy.below hB2
  have hlt' : cmpI (val 1000000000 xs) (val 1000000000 ys) < 0 := by rw [cmpI_lt hlt.out]; omega
  clear b1
  go_enter Tryz.func147, Tryz.ntmps147
  go_wp2_with (go_at_call 138; refine (order_any _ _ _ _ _ _ _ _ _ hxw hyw hxc hyc (by omega) (by omega)).mono ?_; rintro e w' ⟨rfl, nd, rfl⟩)
  refine bodyPost_ret (v := .tuple #[.slice none 0 0, .slice A1 n1 c1]) (by simp [results, Tryz.f147, go_sem]) rfl ⟨rfl, ?_⟩
  exact (below_drewN hB2 nd).setCell (p := ⟨w.heap.size + 1, 0, none⟩) (by simp) _

/-- division by one piece, whatever is divided -/
theorem divsmall_any (A1 : Option Addr) (n1 c1 : Nat) (xs : List Int) (A2 : Option Addr) (c2 : Nat) (d : Int) (w : World) (hx : Rd .u64 w A1 n1 c1 xs) (hy : Rd .u64 w A2 1 c2 [d])
    (hxc : Can 1000000000 xs) (hd0 : 1 ≤ d) (hd1 : d ≤ 999999999) (hn1 : n1 ≤ 100000000) :
    Calls Tryz.prog 147 #[.slice A1 n1 c1, .slice A2 1 c2] w fun e w' => ∃ v1 v2, e = .returned (.tuple #[v1, v2]) ∧ BigV n1 w' v1 (val 1000000000 xs / d) ∧ BigV (n1 + 1) w' v2 (val 1000000000 xs % d) ∧ Below w.heap.size w w' := by
  have e1 : val 1000000000 [d] = d := by simp [val_cons, val_nil]
  have hx0 := (val_bounds (show (0 : Int) < 1000000000 by omega) hxc.1).1
  by_cases h : d ≤ val 1000000000 xs
  · refine (divone_any A1 n1 c1 xs A2 c2 d w hx hy hxc hd0 hd1 hn1 (Lib.hid h)).mono ?_
    rintro e w' ⟨v1, v2, rfl, h1, h2, hb⟩
    exact ⟨v1, v2, rfl, h1, h2.mono (by omega), hb⟩
  · refine (divless_any A1 n1 c1 xs A2 1 c2 [d] w hx hy hxc ⟨by simp [Dg]; omega, by simp; omega⟩ hn1 (by omega) (Lib.hid (by rw [e1]; omega))).mono ?_
    rintro e w' ⟨rfl, hb⟩
    refine ⟨_, _, rfl, ⟨none, 0, 0, [], rfl, ⟨rfl, Nat.le_refl _, by omega, fun _ => rfl, fun h => by omega⟩, Can.nil _, ?_, by omega⟩, ⟨A1, n1, c1, xs, rfl, hx.below hb, hxc, ?_, by omega⟩, hb⟩
    · rw [val_nil, Int.ediv_eq_zero_of_lt hx0 (by omega)]
    · rw [Int.emod_eq_of_lt hx0 (by omega)]
theorem div_fin {X Y F U V Z R : Int} (hF : 1 ≤ F) (hY : 1 ≤ Y) (hU : U = X * F) (hV : V = Y * F) (h : U = V * Z + R) (h0 : 0 ≤ R) (h1 : R < V) : Z = X / Y ∧ R / F = X % Y := by
  have e1 : R = F * (X - Y * Z) := by rw [hU, hV] at h; grind
  have e2 : R / F = X - Y * Z := by rw [e1]; exact Int.mul_ediv_cancel_left _ (by omega)
  have g0 : 0 ≤ X - Y * Z := by rw [← e2]; exact Int.ediv_nonneg h0 (by omega)
  have g1 : X - Y * Z < Y := by
    have : F * (X - Y * Z) < F * Y := by rw [← e1, Int.mul_comm F Y, ← hV]; exact h1
    exact Int.lt_of_mul_lt_mul_left this (by omega)
  have e3 : X = (X - Y * Z) + Y * Z := by omega
  constructor
  · rw [e3, Int.add_mul_ediv_left _ _ (by omega), Int.ediv_eq_zero_of_lt g0 g1]; omega
  · rw [e2]; conv => rhs; rw [e3]
    rw [Int.add_mul_emod_self_left, Int.emod_eq_of_lt g0 g1]

set_option maxRecDepth 100000 in
set_option maxHeartbeats 4000000 in
theorem divbig_any (A1 : Option Addr) (n1 c1 : Nat) (xs : List Int) (A2 : Option Addr) (n2 c2 : Nat) (ys : List Int) (w : World) (hx : Rd .u64 w A1 n1 c1 xs) (hy : Rd .u64 w A2 n2 c2 ys)
    (hxc : Can 1000000000 xs) (hyc : Can 1000000000 ys) (hn1 : n1 ≤ 10000000) (hn2 : n2 ≤ 10000000) (hn3 : 2 ≤ n2) (hle : Hid (val 1000000000 ys ≤ val 1000000000 xs)) :
    Calls Tryz.prog 147 #[.slice A1 n1 c1, .slice A2 n2 c2] w fun e w' => ∃ v1 v2, e = .returned (.tuple #[v1, v2]) ∧ BigV (n1 + 2) w' v1 (val 1000000000 xs / val 1000000000 ys) ∧ BigV (n2 + 2) w' v2 (val 1000000000 xs % val 1000000000 ys) ∧ Below w.heap.size w w' := by
  have b1 := Boxed.new w 162 (.slice A2 n2 c2)
  have b2 := Boxed.new (w.alloc (.cells #[.slice A2 n2 c2] 162)) 162 (.slice none 0 0)
  rw [World.size_alloc] at b2
  have hb1 := b1.alloc (.cells #[.slice none 0 0] 162)
  have hB2 : Below w.heap.size w ((w.alloc (.cells #[.slice A2 n2 c2] 162)).alloc (.cells #[.slice none 0 0] 162)) := ((Below.refl _ w).alloc (Nat.le_refl _) _).alloc (by simp) _
  have c2' := b2.cell
  have f2' := b2.frozen
  have c3' := hb1.cell
  have hxw := hx.below hB2
  have hyw := hy.below hB2
  have hgeq : ¬ cmpI (val 1000000000 xs) (val 1000000000 ys) < 0 := by have := hle.out; unfold cmpI; rw [if_neg (by omega)]; split <;> omega
  have hne1 : ((n2 : Int) == 1) = false := beq_eq_false_iff_ne.2 (by omega)
  obtain ⟨b, off, hA, hb, hcell⟩ := hyw.cell (by omega)
  subst hA
  have htop := hcell (n2 - 1) (by omega)
  have hbd := dt_bd hyc.1 (n2 - 1)
  have htop1 : 1 ≤ dt ys (n2 - 1) := by
    have hne : ys ≠ [] := by intro e; have := hy.len; rw [e] at this; simp at this; omega
    have h := hyc.2
    rw [List.getLast?_eq_getElem?, hy.len, List.getElem?_eq_getElem (by rw [hy.len]; omega)] at h
    have h2 : dt ys (n2 - 1) = ys[n2 - 1]'(by rw [hy.len]; omega) := getD_in _
    rw [h2]
    have h3 := hyc.1.at (n2 - 1) (by rw [hy.len]; omega)
    have h4 : ys[n2 - 1]'(by rw [hy.len]; omega) ≠ 0 := fun e => h (by rw [e])
    omega
  have hf0 : 1 ≤ 1000000000 / (dt ys (n2 - 1) + 1) := (Int.le_ediv_iff_mul_le (by omega)).2 (by omega)
  have hf1 : 1000000000 / (dt ys (n2 - 1) + 1) ≤ 999999999 := by
    have : 1000000000 / (dt ys (n2 - 1) + 1) < 1000000000 := Int.ediv_lt_of_lt_mul (by omega) (by omega)
    omega
  clear b1 hcell
  go_enter Tryz.func147, Tryz.ntmps147
  go_upto_region 13 with (go_at_call 138; refine (order_any _ _ _ _ _ _ _ _ _ hxw hyw hxc hyc (by omega) (by omega)).mono ?_; rintro e w' ⟨rfl, nd, rfl⟩; obtain ⟨W0, hW0⟩ : ∃ W0, ((w.alloc (.cells #[.slice (some ⟨b, off, none⟩) n2 c2] 162)).alloc (.cells #[.slice none 0 0] 162)).drewN nd = W0 := ⟨_, rfl⟩; have B1 : Boxed W0 w.heap.size 162 (.slice (some ⟨b, off, none⟩) n2 c2) := (by rw [← hW0]; exact hb1); have B2 : Boxed W0 (w.heap.size + 1) 162 (.slice none 0 0) := (by rw [← hW0]; exact b2); have hBW : Below w.heap.size w W0 := (by rw [← hW0]; exact below_drewN hB2 nd); have k1 := B1.cell; have k2 := B1.frozen; have k0 : W0.cell? ⟨b, off + (n2 - 1), none⟩ = some (.int .u64 (dt ys (n2 - 1))) := (by rw [← hW0]; exact htop); clear c2' f2' c3' htop b2 hb1)
  have hmx : Tryz.prog.follows .mixedOrders = true := by kernel_rfl
  clear hW0 hxw hyw hB2 k0
  have hxW := (hx.below hBW).drew
  have hyW := (hy.below hBW).drew
  have hf00 : 0 ≤ 1000000000 / (dt ys (n2 - 1) + 1) := by omega
  go_cut [0] (fun s0 wx => ∃ (A3 : Option Addr) (n3 c3 : Nat) (us : List Int) (A4 : Option Addr) (n4 c4 : Nat) (vs : List Int), s0 = .slice A3 n3 c3 ∧ Boxed wx w.heap.size 162 (.slice A4 n4 c4) ∧ Boxed wx (w.heap.size + 1) 162 (.slice none 0 0) ∧ Rd .u64 wx A3 n3 c3 us ∧ Rd .u64 wx A4 n4 c4 vs ∧ Below w.heap.size w wx ∧ n3 ≤ n1 + 2 ∧ n4 ≤ n2 + 2 ∧ Hid (Can 1000000000 us ∧ Can 1000000000 vs ∧ val 1000000000 us = val 1000000000 xs * (1000000000 / (dt ys (n2 - 1) + 1)) ∧ val 1000000000 vs = val 1000000000 ys * (1000000000 / (dt ys (n2 - 1) + 1))))
  case first =>
    refine wp_region_noPanic ?_
    go_region_with (go_at_call 164; first | ((with_reducible refine (small_any A1 n1 c1 xs _ _ hxW hxc hf00 hf1 (by omega)).mono ?_); rintro e w1 ⟨_, rfl, ⟨A3, n3, c3, us, rfl, hr3, hcn3, hv3, hn3'⟩, hb1⟩; have k3 := (box_below (W := W0.drew) B1 hb1).cell; have k4 := (box_below (W := W0.drew) B1 hb1).frozen) | ((with_reducible refine (small_any (some ⟨b, off, none⟩) n2 c2 ys _ _ (hyW.below hb1) hyc hf00 hf1 (by omega)).mono ?_); rintro e w2 ⟨_, rfl, ⟨A4, n4, c4, vs, rfl, hr4, hcn4, hv4, hn4⟩, hb2⟩; have k5 := (box_below (box_below (W := W0.drew) B1 hb1) hb2).cell; have k6 := (box_below (box_below (W := W0.drew) B1 hb1) hb2).frozen))
    all_goals refine NoPanic.normal ?_
    all_goals (go_wp2_with fail; go_meet)
    all_goals
      have q1 := box_below (box_below (W := W0.drew) B1 hb1) hb2
      have q2 := box_below (box_below (W := W0.drew) B2 hb1) hb2
      exact ⟨A3, n3, c3, us, A4, n4, c4, vs, rfl, q1.set _, box_other q2 0 _ (by omega), (hr3.below hb2).setBox q1 (by simp) _, hr4.setBox q1 (by simp) _, (((below_drewN hBW 1).trans (hb1.mono hBW.size)).trans (hb2.mono (by have := hBW.size; have := hb1.size; simp at this; omega))).setCell (p := ⟨w.heap.size, 0, none⟩) (by simp) _, hn3', hn4, Lib.hid ⟨hcn3, hcn4, hv3, hv4⟩⟩
  case rest =>
    obtain ⟨wx, rfl⟩ : ∃ wx, wx = wc := ⟨_, rfl⟩
    obtain ⟨A3, n3, c3, us, A4, n4, c4, vs, rfl, q1, q2, hr3, hr4, hBx, hn3', hn4, HV⟩ := hcut
    clear hxW hyW k1 k2 B1 B2 hBW
    have hBpos : (1 : Int) ≤ 1000000000 := by omega
    have hvys : 1 ≤ val 1000000000 ys := by
      have hne : ys ≠ [] := by intro e; have := hy.len; rw [e] at this; simp at this; omega
      have := hyc.low (by omega) hne
      have := pow_pos' (show (0 : Int) < 1000000000 by omega) (ys.length - 1)
      omega
    have hn4p : 0 < n4 := by
      rcases Nat.eq_zero_or_pos n4 with h | h
      · have e : vs = [] := List.eq_nil_of_length_eq_zero (by rw [hr4.len, h])
        have h4 := HV.out.2.2.2
        rw [e, val_nil] at h4
        have : 1 * 1 ≤ val 1000000000 ys * (1000000000 / (dt ys (n2 - 1) + 1)) := Int.mul_le_mul hvys hf0 (by omega) (by omega)
        omega
      · exact h
    obtain ⟨b4, off4, hA4, hb4, hcell4⟩ := hr4.cell hn4p
    subst hA4
    have htp := top_pos HV.out.2.1 hr4.len hn4p
    have htb := dt_bd HV.out.2.1.1 (n4 - 1)
    have hcap3 := hr3.cap
    have hcm3 := hr3.cmax
    obtain ⟨wm, hmk, hown, hg⟩ := run_make_full (P := Tryz.prog) wx wx.heap.size 162 178 iU64 (.int .u64 0) 1 uSU64 iU64_at iU64_zero iU64_size .i64 .i64 n3 (by rw [iU64_bytes]; omega) (by unfold maxLen; omega) (Nat.le_refl _)
    have p1 := q1.kept hg (by simp)
    have p2 := q2.kept hg (by simp)
    have k1 := p1.cell
    have k2 := p2.cell
    have k3 := p2.frozen
    obtain ⟨wS, hwS⟩ : ∃ wS, wm.setCell ⟨w.heap.size + 1, 0, none⟩ (.slice (some ⟨wx.heap.size, 0, none⟩) n3 n3) = wS := ⟨_, rfl⟩
    have hcS : Below w.heap.size w wS := by rw [← hwS]; exact (hBx.grown hg (by have := q1.lt; omega) (fun k e => by cases e)).setCell (p := ⟨w.heap.size + 1, 0, none⟩) (by simp) _
    have s1 : Boxed wS w.heap.size 162 (.slice (some ⟨b4, off4, none⟩) n4 c4) := by rw [← hwS]; exact box_other p1 0 _ (by omega)
    have s2 : Boxed wS (w.heap.size + 1) 162 (.slice (some ⟨wx.heap.size, 0, none⟩) n3 n3) := by rw [← hwS]; exact p2.set _
    have hgS : ∀ b o v, b < wx.heap.size → b ≠ w.heap.size + 1 → wx.cell? ⟨b, o, none⟩ = some v → wS.cell? ⟨b, o, none⟩ = some v := fun b o v hb hne hc => by
      rw [← hwS]
      exact (World.cell?_of_block (heap_setCell_other wm ⟨w.heap.size + 1, 0, none⟩ b _ hne)).trans (hg.cell hc (by simp))
    have hnb : ∀ {A : Option Addr} {n c : Nat} {zs : List Int}, Rd .u64 wx A n c zs → 0 < n → ∃ b off, A = some ⟨b, off, none⟩ ∧ b < wx.heap.size ∧ ∀ j, j < n → wS.cell? ⟨b, off + j, none⟩ = some (.int .u64 (dt zs j)) := fun h hn => by
      obtain ⟨b, off, e, hlt, hc⟩ := h.cell hn
      have hne := rd_not_box h q2 (by simp) hn e
      exact ⟨b, off, e, hlt, fun j hj => hgS b _ _ hlt hne (hc j hj)⟩
    have s5 : wS.ownsRow wx.heap.size 178 1 (.slice (some ⟨wx.heap.size, 0, none⟩) n3 n3) n3 ((List.replicate n3 (0 : Int)).map (Value.int .u64)) := by
      rw [← hwS, List.map_replicate, ← toList_madeCells_one]
      rw [Nat.mul_one] at hown
      exact row_other hown _ _ (by simp [Value.ownBlock]; have := q2.lt; omega)
    have htop4 : wS.cell? ⟨b4, off4 + (n4 - 1), none⟩ = some (.int .u64 (dt vs (n4 - 1))) := by
      obtain ⟨b', off', e, _, hc⟩ := hnb hr4 hn4p
      cases e; exact hc _ (by omega)
    have hsS : wx.heap.size < wS.heap.size := (s5.lt wx.heap.size rfl).2
    have kS := s1.cell
    go_wp2_with fail
    clear hwS hmk hown k1 k2 k3 kS htop4 p1 p2 hcell4 hg
    go_loopw [5, 11] (fun r i wr => ∃ (k : Nat) (A5 : Option Addr) (n5 c5 : Nat) (rs zs : List Int), k ≤ n3 ∧ r = .slice A5 n5 c5 ∧ i = .int .i64 ((k : Int) - 1) ∧ Rd .u64 wr A5 n5 c5 rs ∧ n5 ≤ n4 ∧ Hid (Can 1000000000 rs ∧ val 1000000000 rs < val 1000000000 vs ∧ zs.length = n3 ∧ Dg 1000000000 zs ∧ (∀ j, j < k → dt zs j = 0) ∧ val 1000000000 (us.drop k) = val 1000000000 vs * val 1000000000 (zs.drop k) + val 1000000000 rs) ∧ wr.ownsRow wx.heap.size 178 1 (.slice (some ⟨wx.heap.size, 0, none⟩) n3 n3) n3 (zs.map (Value.int .u64)) ∧ Below wx.heap.size wS wr ∧ wx.heap.size < wr.heap.size) (fun _ i _ => (intOf i + 1).toNat)
    case atStart =>
      refine ⟨n3, none, 0, 0, [], List.replicate n3 0, Nat.le_refl _, rfl, rfl, ⟨rfl, Nat.le_refl _, by omega, fun _ => rfl, fun h => by omega⟩, by omega, Lib.hid ⟨Can.nil _, ?_, by simp, Dg.zeros (by omega) _, fun j _ => ?_, ?_⟩, s5, Below.refl _ _, hsS⟩
      · rw [val_nil, HV.out.2.2.2]
        have : 1 * 1 ≤ val 1000000000 ys * (1000000000 / (dt ys (n2 - 1) + 1)) := Int.mul_le_mul hvys hf0 (by omega) (by omega)
        omega
      · unfold dt; rw [List.getD_eq_getElem?_getD, List.getElem?_replicate]; split <;> rfl
      · rw [List.drop_of_length_le (by rw [hr3.len]; omega), List.drop_of_length_le (by simp)]; simp [val_nil]
    case round =>
      obtain ⟨k, A5, n5, c5, rs, zs, hk, rfl, rfl, hr5, hn5, hI, hrow, hB, hszr⟩ := hrel
      by_cases hk0 : 0 < k
      · obtain ⟨m, rfl⟩ : ∃ m, k = m + 1 := ⟨k - 1, by omega⟩
        rw [show (((m + 1 : Nat) : Int) - 1) = (m : Int) from by omega]
        obtain ⟨b3, off3, hA3, hb3, hc3⟩ := hnb hr3 (by omega)
        subst hA3
        have hxk := (hB.cell (p := ⟨b3, off3 + m, none⟩) hb3).trans (hc3 m (by omega))
        have bx := dt_bd HV.out.1.1 m
        clear hc3
        obtain ⟨wa, hwa⟩ : ∃ wa, wr.alloc (.cells #[.int .u64 (dt us m)] 178) = wa := ⟨_, rfl⟩
        have o1 : wa.ownsRow wr.heap.size 178 1 (.slice (some ⟨wr.heap.size, 0, none⟩) 1 1) 1 [.int .u64 (dt us m)] := by
          rw [← hwa]; exact World.ownsRow_lit wr #[.int .u64 (dt us m)] 1 (Nat.le_refl _) (by unfold maxLen; omega) rfl
        have hba : Below wr.heap.size wr wa := by rw [← hwa]; exact (Below.refl _ _).alloc (Nat.le_refl _) _
        have hsa : wa.heap.size = wr.heap.size + 1 := by rw [← hwa]; simp
        have hrl := hr5.len
        have HRL := Lib.hid hrl
        have hra := hr5.below hba
        clear hrl
        have hvr : Rd .u64 wr (some ⟨b4, off4, none⟩) n4 c4 vs := ⟨hr4.len, hr4.cap, hr4.cmax, hr4.nilc, fun hn => by
          obtain ⟨b', off', e, hlt', hc'⟩ := hnb hr4 hn
          cases e
          exact ⟨b4, off4, rfl, by omega, fun j hj => (hB.cell (p := ⟨b4, off4 + j, none⟩) hlt').trans (hc' j hj)⟩⟩
        have q5 : Boxed wr w.heap.size 162 (.slice (some ⟨b4, off4, none⟩) n4 c4) := (hB.block w.heap.size (by have := q1.lt; omega)).trans s1
        have q5' : Boxed wr (w.heap.size + 1) 162 (.slice (some ⟨wx.heap.size, 0, none⟩) n3 n3) := (hB.block (w.heap.size + 1) q2.lt).trans s2
        go_upto_region 19 with fail
        go_cut [5] (fun s5 wx => ∃ (A6 : Option Addr) (n6 c6 : Nat) (ts : List Int), s5 = .slice A6 n6 c6 ∧ Rd .u64 wx A6 n6 c6 ts ∧ Below wr.heap.size wr wx ∧ n6 ≤ n4 + 1 ∧ Hid (Can 1000000000 ts ∧ val 1000000000 ts = dt us m + 1000000000 * val 1000000000 rs))
        case first =>
          cases A5 with
          | none =>
            obtain rfl : c5 = 0 := hr5.nilc rfl
            obtain rfl : n5 = 0 := by have := hr5.cap; omega
            have hrs : rs = [] := List.eq_nil_of_length_eq_zero hr5.len
            subst hrs
            have hb6 := hba
            obtain ⟨A6, c6, hv6, hr6⟩ := Rd.of_own (zs := [dt us m]) o1
            simp only [Value.slice.injEq] at hv6
            obtain ⟨rfl, _, rfl⟩ := hv6
            go_wp2_with fail
            refine (trim_any _ _ _ _ _ hr6).mono ?_
            rintro e w' ⟨n7, hn7, rfl, hv7, hc7, rfl⟩
            go_wp2_with fail
            go_meet
            exact ⟨_, n7, _, _, rfl, hr6.take hn7, hb6, by omega, Lib.hid ⟨can_take (Dg.cons.2 ⟨by omega, Dg.nil _⟩) n7 (by rw [hr6.len]; exact hn7) hc7, hv7⟩⟩
          | some ad =>
            obtain ⟨ab, ao, asp⟩ := ad
            go_wp2_with (at_builtin; refine wpList_append_own _ rfl _ _ 162 rfl wr.heap.size 178 iU64 (.int .u64 0) 1 8 uSU64 iU64_at iU64_zero iU64_size iU64_bytes rfl (by decide) _ _ _ rfl o1 ⟨ab, ao, asp⟩ n5 c5 (rs.map (Value.int .u64)) rfl (by simp [HRL.out]) (rd_news hra) (by simp [Value.oneCell']) (by unfold maxLen; omega) (by omega) (by omega) ?_; intro v6 w6 hrow6' hg6 _; have hrow6 : w6.ownsRow wr.heap.size 178 1 v6 (1 + n5) ((dt us m :: rs).map (Value.int .u64)) := hrow6'; have hg6' : wa.grownBy w6 (some wr.heap.size) := hg6; obtain ⟨A6, c6, hv6, hr6⟩ := Rd.of_own hrow6; subst hv6; clear hg6 hrow6')
            have hb6 : Below wr.heap.size wr w6 := hba.grown hg6' (by omega) (fun k e => by cases e; omega)
            go_wp2_with fail
            refine (trim_any _ _ _ _ _ hr6).mono ?_
            rintro e w' ⟨n7, hn7, rfl, hv7, hc7, rfl⟩
            go_wp2_with fail
            go_meet
            exact ⟨_, n7, _, _, rfl, hr6.take hn7, hb6, by omega, Lib.hid ⟨can_take (Dg.cons.2 ⟨by omega, hI.out.1.1⟩) n7 (by rw [hr6.len]; exact hn7) hc7, hv7⟩⟩
        case rest =>
          obtain ⟨A6, n6, c6, ts, rfl, hr6, hb6, hn6, HT⟩ := hcut
          have q6 := box_below q5 hb6
          have q6' := box_below q5' hb6
          have k6 := q6.cell
          have hv6 := hvr.below hb6
          go_wp2_with fail
          refine (order_any _ _ _ _ _ _ _ _ _ hr6 hv6 HT.out.1 HV.out.2.1 (by omega) (by omega)).mono ?_
          rintro e w7 ⟨rfl, nd, rfl⟩
          by_cases hlt : cmpI (val 1000000000 ts) (val 1000000000 vs) < 0
          · go_wp2_with fail
            go_roundw
            case rel =>
              have hlt' := cmpI_neg hlt
              exact ⟨m, A6, n6, c6, ts, zs, by omega, rfl, by go_num, hr6.below (below_drewN (Below.refl _ _) nd), by have := len_le_of_val HT.out.1 HV.out.2.1.1 (Int.le_of_lt hlt'); rw [hr6.len, hr4.len] at this; exact this, Lib.hid ⟨HT.out.1, hlt', hI.out.2.2.1, hI.out.2.2.2.1, fun j hj => hI.out.2.2.2.2.1 j (by omega), div_skip (by rw [hr3.len]; omega) (by rw [hI.out.2.2.1]; omega) (hI.out.2.2.2.2.1 m (by omega)) hI.out.2.2.2.2.2 HT.out.2⟩, row_below hrow (below_drewN hb6 nd), below_drewN (below_wide hB (by omega) hb6) nd, by have := hb6.size; simp; omega⟩
            case measure => simp [intOf]
          · have hge : val 1000000000 vs ≤ val 1000000000 ts := cmpI_nneg hlt
            have hn64 : n4 ≤ n6 := by have := len_le_of_val HV.out.2.1 HT.out.1.1 hge; rw [hr6.len, hr4.len] at this; exact this
            obtain ⟨b6, off6, hA6, hlt6, hc6⟩ := hr6.cell (by omega)
            subst hA6
            have hx1 := hc6 (n6 - 1) (by omega)
            have hx2 : n4 < n6 → wc.cell? ⟨b6, off6 + (n6 - 2), none⟩ = some (.int .u64 (dt ts (n6 - 2))) := fun h => hc6 (n6 - 2) (by omega)
            have bx1 := dt_bd HT.out.1.1 (n6 - 1)
            have bx2 := dt_bd HT.out.1.1 (n6 - 2)
            clear hc6
            have hvs1 : 1 ≤ val 1000000000 vs := by
              have := HV.out.2.1.low (by omega) (show vs ≠ [] by intro e; have := hr4.len; rw [e] at this; simp at this; omega)
              have := pow_pos' (show (0 : Int) < 1000000000 by omega) (vs.length - 1)
              omega
            obtain ⟨Qd, hQd⟩ : ∃ Qd, val 1000000000 ts / val 1000000000 vs = Qd := ⟨_, rfl⟩
            have HQ := Lib.hid hQd
            clear hQd
            go_upto_if 103 with fail
            go_cut [12] (fun s12 wx' => ∃ d0 : Int, s12 = .int .u64 d0 ∧ 0 ≤ d0 ∧ d0 ≤ 999999999999999999 ∧ Hid (Qd ≤ d0 / dt vs (n4 - 1)) ∧ wx' = wc.drewN nd)
            case first =>
              by_cases hn : n4 < n6
              · have hx3 := hx2 hn
                go_wp2_with fail
                go_meet
                exact ⟨_, rfl, by omega, by omega, Lib.hid (by rw [← HQ.out]; exact est_two HT.out.1 HV.out.2.1 hr6.len hr4.len (by omega) (by omega) htp hge), rfl⟩
              · go_wp2_with fail
                go_meet
                exact ⟨_, rfl, by omega, by omega, Lib.hid (by rw [← HQ.out]; exact est_one HT.out.1 HV.out.2.1 hr6.len hr4.len (by omega) (by omega) htp hge), rfl⟩
            case rest =>
              obtain ⟨d0, rfl, hd0, hd1, HE, hwx⟩ := hcut
              subst hwx
              have hQ9 : Qd ≤ 999999999 := by rw [← HQ.out]; exact quo_lt hvs1 hI.out.2.1 HT.out.2 (by omega)
              have hQ0 : 1 ≤ Qd := by rw [← HQ.out]; exact (Int.le_ediv_iff_mul_le (by omega)).2 (by omega)
              have HE' := HE.out
              go_upto_region 24 with fail
              go_cut [12] (fun s12 wx' => ∃ dd : Int, s12 = .int .u64 dd ∧ 0 ≤ dd ∧ dd ≤ 999999999 ∧ Qd ≤ dd ∧ wx' = wc.drewN nd)
              case first =>
                by_cases hmn : d0 / dt vs (n4 - 1) ≤ 999999999
                · go_wp2_with fail
                  go_meet
                  exact ⟨_, rfl, by omega, by omega, by omega, rfl⟩
                · go_wp2_with fail
                  go_meet
                  exact ⟨_, rfl, by omega, by omega, by omega, rfl⟩
              case rest =>
                obtain ⟨dd, rfl, hdd0, hdd1, hdd2, hwx⟩ := hcut
                subst hwx
                go_wp2_with fail
                clear HE' HE hx1 hx2
                refine (small_any _ _ _ _ _ _ (hv6.below (below_drewN (Below.refl _ _) nd)) HV.out.2.1 hdd0 hdd1 (by omega)).mono ?_
                rintro e w8 ⟨_, rfl, ⟨A8, n8, c8, ps, rfl, hr8, hcn8, hv8, hn8⟩, hb8⟩
                have hb8' : Below wc.heap.size wc w8 := (below_drewN (Below.refl _ _) nd).trans hb8
                have H8 : Hid (Can 1000000000 ps ∧ val 1000000000 ps = val 1000000000 vs * dd) := Lib.hid ⟨hcn8, hv8⟩
                clear hcn8 hv8
                go_wp2_with fail
                go_loopw [12, 13] (fun sd sp wq => ∃ (dd : Int) (A8 : Option Addr) (n8 c8 : Nat) (ps : List Int), sd = .int .u64 dd ∧ sp = .slice A8 n8 c8 ∧ Rd .u64 wq A8 n8 c8 ps ∧ n8 ≤ n4 + 2 ∧ 0 ≤ dd ∧ dd ≤ 999999999 ∧ Qd ≤ dd ∧ Hid (Can 1000000000 ps ∧ val 1000000000 ps = val 1000000000 vs * dd) ∧ Below wc.heap.size wc wq) (fun sd _ _ => (intOf sd).toNat)
                case atStart => exact ⟨dd, A8, n8, c8, ps, rfl, rfl, hr8, hn8, hdd0, hdd1, hdd2, H8, hb8'⟩
                case round =>
                  obtain ⟨dd, A8, n8, c8, ps, rfl, rfl, hr8, hn8, hdd0, hdd1, hdd2, H8, hb9⟩ := hrel
                  have q9 := box_below q6 hb9
                  have k9 := q9.cell
                  have hr9 := hr6.below hb9
                  have hv9 := hv6.below hb9
                  go_wp2_with fail
                  refine (order_any _ _ _ _ _ _ _ _ _ hr8 hr9 H8.out.1 HT.out.1 (by omega) (by omega)).mono ?_
                  rintro e w10 ⟨rfl, nd2, rfl⟩
                  by_cases hc0 : 0 < cmpI (val 1000000000 ps) (val 1000000000 ts)
                  · have hgt := cmpI_pos hc0
                    have hstep := down_step (vs := vs) (ts := ts) hvs1 (by rw [← H8.out.2]; exact hgt) (by rw [HQ.out])
                    have hle8 : val 1000000000 vs ≤ val 1000000000 ps := by omega
                    have hn48 : n4 ≤ n8 := by have := len_le_of_val HV.out.2.1 H8.out.1.1 hle8; rw [hr8.len, hr4.len] at this; exact this
                    have hdd3 : 1 ≤ dd := by omega
                    go_wp2_with fail
                    refine (minus_any A8 n8 c8 ps (some ⟨b4, off4, none⟩) n4 c4 vs _ (hr8.below (below_drewN (Below.refl _ _) nd2)) (hv9.below (below_drewN (Below.refl _ _) nd2)) hn48 (dt_bd H8.out.1.1) (dt_bd HV.out.2.1.1) (by omega) (Lib.hid hle8)).mono ?_
                    rintro e w11 ⟨_, rfl, ⟨A9, n9, c9, ps2, rfl, hr9', hcn9, hv9', hn9⟩, _, hb11⟩
                    have H9 : Hid (Can 1000000000 ps2 ∧ val 1000000000 ps2 = val 1000000000 vs * (dd - 1)) := Lib.hid ⟨hcn9, by rw [hv9', H8.out.2]; exact hstep.2⟩
                    have hs1 := hstep.1
                    clear hcn9 hv9' hstep
                    go_wp2_with fail
                    go_roundw
                    case rel => exact ⟨dd - 1, A9, n9, c9, ps2, rfl, rfl, hr9', by omega, by omega, by omega, hs1, H9, below_wide hb9 (by have := hb9.size; omega) ((below_drewN (Below.refl _ _) nd2).trans hb11)⟩
                    case measure => simp [intOf]; omega
                  · have hle9 := cmpI_npos hc0
                    have hn86 : n8 ≤ n6 := by have := len_le_of_val H8.out.1 HT.out.1.1 hle9; rw [hr8.len, hr6.len] at this; exact this
                    go_wp2_with fail
                    have qq := box_below q6' hb9
                    have kq := qq.cell
                    have rq := row_below (row_below hrow hb6) hb9
                    have gq1 := own_cell rq m (by omega)
                    have gq2 := rq.frozenAt m
                    have hm3 : m < n3 := by omega
                    have HLE := Lib.hid hle9
                    have hrA := hr9.below (below_drewN (Below.refl _ _) (nd2 + 1))
                    have hrB := hr8.below (below_drewN (Below.refl _ _) (nd2 + 1))
                    have HD1 := Lib.hid (dt_bd HT.out.1.1)
                    have HD2 := Lib.hid (dt_bd H8.out.1.1)
                    have hn69 : n6 ≤ 1000000000 := by omega
                    refine wp_region_noPanic ?_
                    go_region_with (go_at_call 139; (with_reducible refine (minus_any (some ⟨b6, off6, none⟩) n6 c6 ts A8 n8 c8 ps _ hrA hrB hn86 HD1.out HD2.out hn69 HLE).mono ?_); rintro e w11 ⟨_, rfl, ⟨A9, n9, c9, ps2, rfl, hr9', hcn9, hv9', hn9⟩, hnw, hb11⟩; have kq2 := (box_below (W := wr.drewN (nd2 + 1)) qq hb11).cell; have rr := row_below (w := wr.drewN (nd2 + 1)) rq hb11; have g3 := own_cell rr m hm3; have g4 := rr.frozenAt m)
                    all_goals refine NoPanic.normal ?_
                    all_goals go_wp2_with fail
                    all_goals
                      go_roundw
                      case rel =>
                        have hb12 : Below wc.heap.size wc w11 := below_wide hb9 (by have := hb9.size; omega) ((below_drewN (Below.refl _ _) (nd2 + 1)).trans hb11)
                        have hb13 : Below wx.heap.size wS w11 := below_wide (below_wide hB (by omega) hb6) (by have := hb6.size; omega) hb12
                        have hdq : dd = Qd := div_quo hvs1 (by rw [← H8.out.2]; exact hle9) HQ.out hdd2
                        have hrl : val 1000000000 ps2 < val 1000000000 vs := by rw [hv9', H8.out.2, hdq, ← HQ.out]; exact div_rem_lt hvs1
                        refine ⟨m, A9, n9, c9, ps2, zs.set m dd, by omega, rfl, by go_num, rd_store hr9' (fun a n c e => by have h1 := hnw a n c e; have h2 := hb9.size; have h3 := hb6.size; simp at h1; omega) m _, ?_, Lib.hid ⟨hcn9, ?_, by simp [hI.out.2.2.1], hI.out.2.2.2.1.set m (by omega) (by omega), fun j hj => ?_, ?_⟩, own_set rr m dd, hb13.setCell (p := ⟨wx.heap.size, m, none⟩) (Nat.le_refl _) _, by have := hb13.size; simp; omega⟩
                        · have := len_le_of_val hcn9 HV.out.2.1.1 (Int.le_of_lt hrl); rw [hr9'.len, hr4.len] at this; exact this
                        · exact hrl
                        · rw [dt_set_ne (by omega)]; exact hI.out.2.2.2.2.1 j (by omega)
                        · exact div_take (by rw [hr3.len]; omega) (by rw [hI.out.2.2.1]; omega) hI.out.2.2.2.2.2 HT.out.2 (by rw [hv9', H8.out.2])
                      case measure => simp [intOf]
      · obtain rfl : k = 0 := by omega
        have hI1 := hI.out.2.2.2.2.2
        rw [List.drop_zero, List.drop_zero] at hI1
        have FIN := Lib.hid (div_fin (show 1 ≤ 1000000000 / (dt ys (n2 - 1) + 1) by omega) hvys HV.out.2.2.1 HV.out.2.2.2 hI1 (val_bounds (by omega) hI.out.1.1).1 hI.out.2.1)
        clear hI1
        have q5 : Boxed wr (w.heap.size + 1) 162 (.slice (some ⟨wx.heap.size, 0, none⟩) n3 n3) := (hB.block (w.heap.size + 1) q2.lt).trans s2
        have hd0 : 1 ≤ 1000000000 / (dt ys (n2 - 1) + 1) := by omega
        have hba : Below wr.heap.size wr (wr.alloc (.cells #[.int .u64 (1000000000 / (dt ys (n2 - 1) + 1))] 178)) := (Below.refl _ _).alloc (Nat.le_refl _) _
        have hrf := rd_one (k := .u64) wr (1000000000 / (dt ys (n2 - 1) + 1)) 178
        go_wp2_with fail
        refine (divsmall_any A5 n5 c5 rs _ 1 _ _ (hr5.below hba) hrf hI.out.1 hd0 hf1 (by omega)).mono ?_
        rintro e w6 ⟨_, v2, rfl, ⟨A7, n7, c7, os, rfl, hr7, hcn7, hv7, hn7⟩, _, hb6⟩
        have hb6' : Below wr.heap.size wr w6 := hba.trans (hb6.mono (by simp))
        have q6 := box_below q5 hb6'
        have k6 := q6.cell
        have g6 := q6.frozen
        have row6 := row_below hrow hb6'
        obtain ⟨AA, CC, hAA, hrq⟩ := Rd.of_own row6
        simp only [Value.slice.injEq] at hAA
        obtain ⟨rfl, _, rfl⟩ := hAA
        have hrqd := hrq.drew
        have H7 := Lib.hid hv7
        clear hv7
        go_wp2_with fail
        refine (trim_any _ _ _ _ _ hrq).mono ?_
        rintro e w' ⟨mq, hmq, rfl, hvq, hcq, rfl⟩
        have HQ := Lib.hid hvq
        have HC := Lib.hid hcq
        clear hvq hcq
        go_wp2_with fail
        have hqv : ∀ v, (w6.setCell ⟨w.heap.size + 1, 0, none⟩ v).cell? ⟨w.heap.size + 1, 0, none⟩ = some v := fun v => (q6.set v).cell
        refine bodyPost_ret (v := .tuple #[.slice (some ⟨wx.heap.size, 0, none⟩) mq n3, .slice A7 n7 c7]) (by simp [results, Tryz.f147, go_sem, hqv]) rfl ⟨_, _, rfl, ?_, ?_, ?_⟩
        · obtain ⟨A8, C8, h8, hr8⟩ := Rd.of_own (row_other row6 (w.heap.size + 1) (.slice (some ⟨wx.heap.size, 0, none⟩) mq n3) (by simp [Value.ownBlock]; have := q2.lt; omega))
          simp only [Value.slice.injEq] at h8
          obtain ⟨rfl, _, rfl⟩ := h8
          exact ⟨_, mq, _, _, rfl, hr8.take hmq, can_take hI.out.2.2.2.1 mq (by rw [hr8.len]; exact hmq) HC.out, by rw [HQ.out, FIN.out.1], by omega⟩
        · exact ⟨A7, n7, c7, os, rfl, hr7.setBox q6 (by simp) _, hcn7, by rw [H7.out, FIN.out.2], by omega⟩
        · exact (hcS.trans ((below_wide hB (by omega) hb6').mono (by have := hBx.size; omega))).setCell (p := ⟨w.heap.size + 1, 0, none⟩) (by simp) _
end Go.Proofs.Klp
