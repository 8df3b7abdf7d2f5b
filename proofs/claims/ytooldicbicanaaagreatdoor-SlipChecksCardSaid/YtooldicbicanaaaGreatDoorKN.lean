/- The program's checks. -/
import Derived.Test.YtooldicbicanaaaGreatDoorKM
namespace Go.Proofs.Klp
open Go.RowKit Go.Shelf
open Go.Lib (decDigits itoa)

set_option maxRecDepth 100000 in
set_option maxHeartbeats 1000000 in
theorem slip_vectors (L : List Tri) (g n : Nat) (w : World) (hE : Env w) (hL : SlV w g L) (hn : n = L.length) (hs : ∀ v ∈ L, szV 1000000000 v) (hl : n ≤ 100) :
    Calls Tryz.prog 62 #[sl g n] w (Ret w (.int .i64 (errN (L.all okV)))) := by
  subst hn
  have hU := Up.refl w
  go_enter Tryz.func62, Tryz.ntmps62
  go_wp2_with fail
  have hE0 := Lib.hid hE
  have hU0 := Lib.hid hU
  clear hE hU
  go_loopw [4, 5, 8] (fun _ _ i wr => ∃ (k : Nat), k ≤ L.length ∧ i = .int .i64 k ∧ Hid ((L.take k).all okV = true) ∧ Env wr ∧ Up w wr) (fun _ _ i _ => L.length - (intOf i).toNat)
  case atStart => exact ⟨0, Nat.zero_le _, rfl, Lib.hid rfl, hE0.out, hU0.out⟩
  case round =>
    obtain ⟨k, hk, rfl, hq, hEr, hUr⟩ := hrel
    by_cases hlt : k < L.length
    · obtain ⟨c0, c1, c2⟩ := (hL.up hUr).2 k hlt
      have hx := hs _ (List.getElem_mem hlt)
      have ht := all_take hlt hq.out
      have hf := fun h => all_bad (p := okV) hlt h
      have hck := vec_check L[k]
      generalize L[k] = x at *
      obtain ⟨x, y, z⟩ := x
      dsimp only at c0 c1 c2
      have hU2 := hUr.alloc (.cells #[.string x, .string y, .string z] 24)
      have hE2 := hEr.up ((Up.refl wr).alloc (.cells #[.string x, .string y, .string z] 24))
      cases hb : okV (x, y, z) with
      | true =>
        rw [hb] at hck ht
        have HT := Lib.hid ht
        clear ht hf hb
        go_wp2_with fail
        refine (hck _ (hEr.up (by first | exact Up.refl _ | exact (Up.refl _).alloc _ | exact (((Up.refl _).alloc _).set (by omega)).trans (Up.refl _))) hx).mono ?_
        rintro _ w2 ⟨rfl, hX⟩
        go_wp2_with fail
        go_roundw
        case rel => exact ⟨k + 1, by omega, by go_num, HT, hE2.up hX, hU2.trans hX⟩
        case measure => simp [intOf]; omega
      | false =>
        rw [hb] at hck
        have HF := Lib.hid (hf hb)
        clear ht hf hb
        go_wp2_with fail
        refine (hck _ hE2 hx).mono ?_
        rintro _ w2 ⟨rfl, hX⟩
        go_wp2
        go_ret
        exact ⟨by rw [HF.out]; rfl, hU2.trans hX⟩
    · obtain rfl : k = L.length := by omega
      rw [List.take_length] at hq
      go_wp2
      go_ret
      exact ⟨by rw [hq.out]; rfl, hUr⟩
end Go.Proofs.Klp
/- The first error. -/
namespace Go.Proofs.Klp
open Go.RowKit Go.Shelf
open Go.Lib (decDigits itoa)

/-- block g begins with these errors -/
def SlI (w : World) (g : Nat) (L : List Int) : Prop := g < w.heap.size ∧ ∀ k (h : k < L.length), w.cell? ⟨g, k, none⟩ = some (.int .i64 L[k])
theorem SlI.up {w w' : World} {g : Nat} {L : List Int} (h : SlI w g L) (k : Up w w') : SlI w' g L :=
  ⟨Nat.lt_of_lt_of_le h.1 k.size, fun i hi => (Below.cell k h.1).trans (h.2 i hi)⟩
theorem sli_new (w : World) (L : List Int) (t : TypeId) {vs : List Value} (h : vs = L.map (Value.int .i64)) : SlI (w.alloc (.cells vs.toArray t)) w.heap.size L := by
  subst h
  obtain ⟨h1, h2⟩ := Bx.new w (L.map (Value.int .i64)) t
  exact ⟨h1, fun k hk => by rw [h2 k (by simpa using hk), List.getElem_map]⟩
/-- the first error of some -/
def firstE : List Int → Int
  | [] => 0
  | e :: l => if e = 0 then firstE l else e
theorem firstE_at : ∀ (L : List Int) (k : Nat) (h : k < L.length), (∀ e ∈ L.take k, e = 0) → L[k] ≠ 0 → firstE L = L[k] := by
  intro L
  induction L with
  | nil => intro k h; simp at h
  | cons e l ih =>
    intro k h h0 h1
    cases k with
    | zero => exact if_neg h1
    | succ k =>
      have he : e = 0 := h0 e (by simp)
      have i := ih k (by simpa using h) (fun x hx => h0 x (by simp [hx])) (by simpa using h1)
      show (if e = 0 then firstE l else e) = _
      rw [if_pos he, i]; rfl
theorem firstE_none : ∀ (L : List Int), (∀ e ∈ L, e = 0) → firstE L = 0 := by
  intro L
  induction L with
  | nil => intro _; rfl
  | cons e l ih =>
    intro h
    show (if e = 0 then firstE l else e) = _
    rw [if_pos (h e (by simp))]
    exact ih fun x hx => h x (by simp [hx])
theorem firstE_ok (b c : Bool) : firstE [errN b, errN c] = errN (b && c) := by cases b <;> cases c <;> rfl

theorem first1 (e : Int) (w : World) : Calls Tryz.prog 87 #[.int .i64 e] w (Ret w (.bool (e != 0))) := by
  go_enter Tryz.func87, Tryz.ntmps87
  go_wp2
  go_ret
  exact ⟨rfl, Up.refl _⟩

theorem zeros_take {L : List Int} {k : Nat} (h : k < L.length) (h0 : ∀ e ∈ L.take k, e = 0) (h1 : L[k] = 0) : ∀ e ∈ L.take (k + 1), e = 0 := by
  rw [List.take_succ_eq_append_getElem h]
  intro e he
  rcases List.mem_append.1 he with h | h
  · exact h0 e h
  · rw [List.mem_singleton.1 h]; exact h1

set_option maxRecDepth 100000 in
set_option maxHeartbeats 1000000 in
theorem idx_err (L : List Int) (g : Nat) (w : World) (hL : SlI w g L) (hl : L.length ≤ 100) :
    Calls Tryz.prog 86 #[sl g L.length, .func (.func 87) #[] #[]] w fun e w' => ((∃ k, ∃ h : k < L.length, e = .returned (.int .i64 (k : Int)) ∧ firstE L = L[k]) ∨ (e = .returned (.int .i64 (-1)) ∧ firstE L = 0)) ∧ Up w w' := by
  have hU := Up.refl w
  go_enter Tryz.func86, Tryz.ntmps86
  go_wp2_with fail
  have hU0 := Lib.hid hU
  clear hU
  go_loopw [5, 8] (fun _ i wr => ∃ (k : Nat), k ≤ L.length ∧ i = .int .i64 k ∧ Hid (∀ e ∈ L.take k, e = 0) ∧ Up w wr) (fun _ i _ => L.length - (intOf i).toNat)
  case atStart => exact ⟨0, Nat.zero_le _, rfl, Lib.hid (by simp), hU0.out⟩
  case round =>
    obtain ⟨k, hk, rfl, hq, hUr⟩ := hrel
    by_cases hlt : k < L.length
    · have c0 := (hL.up hUr).2 k hlt
      have ht := zeros_take hlt hq.out
      have hg := firstE_at L k hlt hq.out
      have HLT := Lib.hid hlt
      generalize hx : L[k] = x at c0 ht hg
      have HX := Lib.hid hx
      clear hx
      by_cases h0 : x = 0
      · have HT := Lib.hid (ht h0)
        subst h0
        clear ht hg
        go_wp2_with fail
        refine (first1 _ _).mono ?_
        rintro _ w2 ⟨rfl, hX⟩
        go_wp2_with fail
        go_roundw
        case rel => exact ⟨k + 1, by omega, by go_num, HT, hUr.trans hX⟩
        case measure => simp [intOf]; omega
      · have HG := Lib.hid (hg h0)
        have hne : (x != 0) = true := bne_iff_ne.2 h0
        clear ht hg
        go_wp2_with fail
        refine (first1 _ _).mono ?_
        rintro _ w2 ⟨rfl, hX⟩
        go_wp2
        go_ret
        exact ⟨.inl ⟨k, HLT.out, rfl, HG.out.trans HX.out.symm⟩, hUr.trans hX⟩
    · obtain rfl : k = L.length := by omega
      rw [List.take_length] at hq
      go_wp2
      go_ret
      exact ⟨.inr ⟨rfl, firstE_none _ hq.out⟩, hUr⟩

set_option maxRecDepth 100000 in
set_option maxHeartbeats 1000000 in
theorem slip_first (L : List Int) (g n : Nat) (w : World) (hL : SlI w g L) (hn : n = L.length) (hl : n ≤ 100) :
    Calls Tryz.prog 49 #[sl g n] w (Ret w (.int .i64 (firstE L))) := by
  subst hn
  have hi := idx_err L g w hL hl
  go_enter Tryz.func49, Tryz.ntmps49
  go_wp2_with fail
  refine hi.mono ?_
  rintro _ w2 ⟨⟨k, h, rfl, hk⟩ | ⟨rfl, hk⟩, hX⟩
  · have c0 := (hL.up hX).2 k h
    rw [← hk] at c0
    clear hi hk
    go_wp2
    go_ret
    exact ⟨rfl, hX⟩
  · have HK := Lib.hid hk
    clear hi hk
    go_wp2
    go_ret
    exact ⟨by rw [HK.out]; rfl, hX⟩
end Go.Proofs.Klp
/- The law's tests; short vectors. -/
namespace Go.Proofs.Klp
open Go.RowKit Go.Shelf
open Go.Lib (decDigits itoa)

theorem law_brief (L : List Tri) (g n : Nat) (w : World) (hE : Env w) (hL : SlV w g L) (hn : n = L.length) (hl : n ≤ 100) :
    Calls Tryz.prog 12 #[sl g n] w (Ret w (.bool (!(L.any lgV)))) := by
  subst hn
  have hU := Up.refl w
  have hi := has_brief L g L.length w hE hL rfl hl
  go_enter Tryz.func12, Tryz.ntmps12
  go_wp2_with fail
  refine (hi).mono ?_
  rintro _ _ ⟨rfl, hX⟩; replace hU := Up.trans hU hX; clear hX
  go_wp2
  go_ret
  exact ⟨rfl, hU⟩

theorem law_numbers (L : List Tri) (M : List ByteArray) (g h n m : Nat) (w : World) (hE : Env w) (hL : SlV w g L) (hM : SlS w h M) (hn : n = L.length) (hm : m = M.length) (hs : ∀ v ∈ L, szV 1000000000 v) (ht : ∀ s ∈ M, s.size ≤ 1000000000) (hl : n ≤ 100) (hl2 : m ≤ 100) :
    Calls Tryz.prog 14 #[sl g n, sl h m] w (Ret w (.bool (M.all okR && !(L.any badV)))) := by
  subst hn hm
  have hU := Up.refl w
  have hi := r06_numbers M h M.length w hE hM rfl ht hl2
  have hj := fun w' (hX : Up w w') => has_numbers L g L.length w' (hE.up hX) (hL.up hX) rfl hl hs
  have HU := Lib.hid hU
  cases hb : M.all okR with
  | true =>
    rw [hb] at hi
    clear hs ht hL hM hb
    go_enter Tryz.func14, Tryz.ntmps14
    go_wp2_with fail
    refine (hi).mono ?_
    rintro _ _ ⟨rfl, hX⟩; replace hU := Up.trans hU hX; clear hX
    go_wp2_with fail
    refine (hj _ hU).mono ?_
    rintro _ _ ⟨rfl, hX⟩; replace hU := Up.trans hU hX; clear hX
    go_wp2
    go_ret
    exact ⟨rfl, hU⟩
  | false =>
    rw [hb] at hi
    clear hs ht hL hM hb hj
    go_enter Tryz.func14, Tryz.ntmps14
    go_wp2_with fail
    refine (hi).mono ?_
    rintro _ _ ⟨rfl, hX⟩; replace hU := Up.trans hU hX; clear hX
    go_wp2
    go_ret
    exact ⟨rfl, hU⟩

theorem slip_short (v : Tri) (w : World) (hE : Env w) (hs : szV 1000000000 v) : Calls Tryz.prog 55 #[vT v] w (Ret w (.tuple #[if okV v then vT v else vT (mkB [], mkB [], mkB []), .int .i64 (if okV v then 0 else 4)])) := by
  have hU := Up.refl w
  obtain ⟨x, y, z⟩ := v
  have hv := slip_vectors [(x, y, z)]
  have hs' : ∀ v ∈ [(x, y, z)], szV 1000000000 v := by simpa using hs
  have HS := Lib.hid hs'
  clear hs'
  have e := slv_new ((w.alloc (.cells #[.string x, .string y, .string z] 24)).alloc (.cells #[.string ⟨#[]⟩, .string ⟨#[]⟩, .string ⟨#[]⟩] 24)) [(x, y, z)] 24 rfl
  simp only [size_alloc] at e
  have hb : [(x, y, z)].all okV = okV (x, y, z) := by simp
  rw [hb] at hv
  clear hb
  have X1 := (Bx.new w [.string x, .string y, .string z] 24).up (((Up.refl _).alloc (.cells #[.string ⟨#[]⟩, .string ⟨#[]⟩, .string ⟨#[]⟩] 24)).alloc (.cells (flatV [(x, y, z)]).toArray 24))
  have F2 := (Fz.new (w.alloc (.cells #[.string x, .string y, .string z] 24)) #[.string ⟨#[]⟩, .string ⟨#[]⟩, .string ⟨#[]⟩] 24 3 rfl).up ((Up.refl _).alloc (.cells (flatV [(x, y, z)]).toArray 24))
  simp only [size_alloc] at F2
  cases hb : okV (x, y, z) with
  | true =>
    rw [hb] at hv
    clear hb
    go_enter Tryz.func55, Tryz.ntmps55
    go_wp2_with fail
    refine (hv _ 1 _ (hE.up ((((Up.refl _).alloc _).alloc _).alloc _)) e rfl HS.out (by decide)).mono ?_
    rintro _ w2 ⟨rfl, hX⟩
    have x1 := X1.up hX
    have f2 := F2.up hX
    have hU2 := ((((Up.refl w).alloc _).alloc _).alloc _).trans hX
    have HE := Lib.hid e
    have a0 := x1.c0
    have a1 := x1.c1
    have a2 := x1.c2
    have b0 := f2.cl 0 (by decide)
    have b1 := f2.cl 1 (by decide)
    have b2 := f2.cl 2 (by decide)
    have g0 := (f2.2 0 (by decide)).2
    have g1 := (f2.2 1 (by decide)).2
    have g2 := (f2.2 2 (by decide)).2
    clear e hv X1 F2 x1 hX
    go_wp2
    obtain ⟨d0, d1, d2⟩ := set3_cells f2 (.string x) (.string y) (.string z)
    refine bodyPost_ret (v := .tuple #[.agg #[.string x, .string y, .string z], .int .i64 0]) (by simp [results, Tryz.f55, go_sem, d0, d1, d2]) rfl ⟨rfl, ?_⟩
    exact ((hU2.set (by omega)).set (by omega)).set (by omega)
  | false =>
    rw [hb] at hv
    clear hb
    go_enter Tryz.func55, Tryz.ntmps55
    go_wp2_with fail
    refine (hv _ 1 _ (hE.up ((((Up.refl _).alloc _).alloc _).alloc _)) e rfl HS.out (by decide)).mono ?_
    rintro _ w2 ⟨rfl, hX⟩
    have x1 := X1.up hX
    have f2 := F2.up hX
    have hU2 := ((((Up.refl w).alloc _).alloc _).alloc _).trans hX
    have HE := Lib.hid e
    have a0 := x1.c0
    have a1 := x1.c1
    have a2 := x1.c2
    have b0 := f2.cl 0 (by decide)
    have b1 := f2.cl 1 (by decide)
    have b2 := f2.cl 2 (by decide)
    have g0 := (f2.2 0 (by decide)).2
    have g1 := (f2.2 1 (by decide)).2
    have g2 := (f2.2 2 (by decide)).2
    clear e hv X1 F2 x1 hX
    go_wp2
    obtain ⟨d0, d1, d2⟩ := set3_cells f2 (.string ⟨#[]⟩) (.string ⟨#[]⟩) (.string ⟨#[]⟩)
    refine bodyPost_ret (v := .tuple #[.agg #[.string ⟨#[]⟩, .string ⟨#[]⟩, .string ⟨#[]⟩], .int .i64 4]) (by simp [results, Tryz.f55, go_sem, d0, d1, d2]) rfl ⟨rfl, ?_⟩
    exact ((hU2.set (by omega)).set (by omega)).set (by omega)
end Go.Proofs.Klp
/- The program's check of a plane. -/
namespace Go.Proofs.Klp
open Go.RowKit Go.Shelf
open Go.Lib (decDigits itoa)

theorem Up.drew {a b : World} (h : Up a b) : Up a b.drew := h.drewN 1
theorem slvA (w : World) (L : List Tri) (t : TypeId) {g : Nat} {vs : Array Value} (hg : g = w.heap.size) (h : vs = (flatV L).toArray) : SlV (w.alloc (.cells vs t)) g L := by
  subst hg h; exact slv_new w L t rfl
theorem slsA (w : World) (L : List ByteArray) (t : TypeId) {g : Nat} {vs : Array Value} (hg : g = w.heap.size) (h : vs = (L.map Value.string).toArray) : SlS (w.alloc (.cells vs t)) g L := by
  subst hg h; exact sls_new w L t rfl
theorem sliA (w : World) (L : List Int) (t : TypeId) {g : Nat} {vs : Array Value} (hg : g = w.heap.size) (h : vs = (L.map (Value.int .i64)).toArray) : SlI (w.alloc (.cells vs t)) g L := by
  subst hg h; exact sli_new w L t rfl

set_option maxRecDepth 100000 in
set_option maxHeartbeats 4000000 in
theorem slip_plane (x y z o : ByteArray) (w : World) (hE : Env w) (hs : szV 1000000000 (x, y, z)) (ho : o.size ≤ 1000000000) : Calls Tryz.prog 50 #[.agg #[.string x, .string y, .string z, .string o]] w (Ret w (.int .i64 (errN (okV (x, y, z) && okR o)))) := by
  have hU := Up.refl w
  have hv := slip_vectors [(x, y, z)]
  have hn := slip_numbers [o]
  have hf := slip_first [errN (okV (x, y, z)), errN (okR o)]
  have hs' : ∀ v ∈ [(x, y, z)], szV 1000000000 v := by simpa using hs
  have HS := Lib.hid hs'
  have ho' : ∀ s ∈ [o], s.size ≤ 1000000000 := by simpa using ho
  have HO := Lib.hid ho'
  clear hs' ho'
  rw [show [(x, y, z)].all okV = okV (x, y, z) by simp] at hv
  rw [show [o].all okR = okR o by simp] at hn
  rw [firstE_ok] at hf
  have X1 := Bx.new w [.string x, .string y, .string z, .string o] 26
  have hU1 := hU.alloc (.cells #[.string x, .string y, .string z, .string o] 26)
  replace hE := hE.up hU1
  go_enter Tryz.func50, Tryz.ntmps50
  go_wp2_with fail
  change Bx (w.alloc (.cells #[.string x, .string y, .string z, .string o] 26)) _ _ at X1
  generalize (w.alloc (.cells #[.string x, .string y, .string z, .string o] 26)) = W at *
  generalize w.heap.size = p at X1 ⊢
  have hS : ∀ W', Up W W' → W'.cell? ⟨p, 0, none⟩ = some (.string x) ∧ W'.cell? ⟨p, 1, none⟩ = some (.string y) ∧ W'.cell? ⟨p, 2, none⟩ = some (.string z) ∧ W'.cell? ⟨p, 3, none⟩ = some (.string o) := fun W' h =>
    ⟨(X1.up h).c0, (X1.up h).c1, (X1.up h).c2, (X1.up h).c3⟩
  have hV : Up W W := Up.refl _
  clear hU
  refine wp_region_noPanic ?_
  go_region_held3 (fun W' => W'.cell? ⟨p, 0, none⟩ = some (.string x) ∧ W'.cell? ⟨p, 1, none⟩ = some (.string y) ∧ W'.cell? ⟨p, 2, none⟩ = some (.string z) ∧ W'.cell? ⟨p, 3, none⟩ = some (.string o)) (exact hS _ (by repeat first | exact hV | exact Up.refl _ | apply Up.drew | apply Up.alloc))
    (first | (go_at_call 51; refine (hn _ 1 _ (hE.up (by repeat first | exact hV | exact Up.refl _ | apply Up.drew | apply Up.alloc)) (by first | assumption | exact slsA _ [o] _ (by first | rfl | simp only [size_alloc]) rfl | exact SlS.up (slsA _ [o] _ (by first | rfl | simp only [size_alloc]) rfl) (by repeat first | exact hV | exact Up.refl _ | apply Up.drew | apply Up.alloc)) rfl HO.out (by decide)).mono ?_; rintro _ w2 ⟨rfl, hX⟩; replace hV : Up W w2 := Up.trans (by repeat first | exact hV | exact Up.refl _ | apply Up.drew | apply Up.alloc) hX; clear hX) | (go_at_call 49; refine (hf _ 2 _ (sliA _ _ _ rfl rfl) rfl (by decide)).mono ?_; rintro _ w2 ⟨rfl, hX⟩; replace hV : Up W w2 := Up.trans (by repeat first | exact hV | exact Up.refl _ | apply Up.drew | apply Up.alloc) hX; clear hX) | (go_at_call 62; refine (hv _ 1 _ (hE.up (by repeat first | exact hV | exact Up.refl _ | apply Up.drew | apply Up.alloc)) (by first | assumption | exact slvA _ [(x, y, z)] _ (by first | rfl | simp only [size_alloc]) rfl | exact SlV.up (slvA _ [(x, y, z)] _ (by first | rfl | simp only [size_alloc]) rfl) (by repeat first | exact hV | exact Up.refl _ | apply Up.drew | apply Up.alloc)) rfl HS.out (by decide)).mono ?_; rintro _ w2 ⟨rfl, hX⟩; replace hV : Up W w2 := Up.trans (by repeat first | exact hV | exact Up.refl _ | apply Up.drew | apply Up.alloc) hX; (try (have hso : SlS w2 _ [o] := SlS.up (SlS.up (slsA _ [o] _ rfl rfl) (by repeat first | exact hV | exact Up.refl _ | apply Up.drew | apply Up.alloc)) hX; try simp only [size_alloc] at hso)); clear hX))
  all_goals
    refine NoPanic.normal ?_
    go_wp2
    go_ret
    exact ⟨rfl, hU1.trans hV⟩
end Go.Proofs.Klp
/- The program's form of a slip. -/
namespace Go.Proofs.Klp
open Go.RowKit Go.Shelf
open Go.Lib (decDigits itoa)

set_option maxRecDepth 100000 in
set_option maxHeartbeats 1000000 in
theorem slip_form (a1 a2 a3 b1 b2 b3 : Rat) (o : ByteArray) (w : World) (hE : Env w) (h1 : rlen a1 ≤ 1000) (h2 : rlen a2 ≤ 1000) (h3 : rlen a3 ≤ 1000) (k1 : rlen b1 ≤ 1000) (k2 : rlen b2 ≤ 1000) (k3 : rlen b3 ≤ 1000) :
    Calls Tryz.prog 75 #[.agg #[.string (rB a1), .string (rB a2), .string (rB a3), .string o, .string (rB b1), .string (rB b2), .string (rB b3)]] w (Ret w (.int .i64 (if a1 * b1 + a2 * b2 + a3 * b3 = 0 then 0 else 7))) := by
  have hU := Up.refl w
  have hd := slip_dot a1 a2 a3 b1 b2 b3
  have hz := rB_is0 (a1 * b1 + a2 * b2 + a3 * b3)
  have hU1 := hU.alloc (.cells #[.string (rB a1), .string (rB a2), .string (rB a3), .string o, .string (rB b1), .string (rB b2), .string (rB b3)] 58)
  replace hE := hE.up hU1
  generalize a1 * b1 + a2 * b2 + a3 * b3 = d at *
  by_cases h : d = 0
  case' pos => rw [decide_eq_true h] at hz; rw [if_pos h]
  case' neg => rw [decide_eq_false h] at hz; rw [if_neg h]
  all_goals
    clear h
    go_enter Tryz.func75, Tryz.ntmps75
    go_wp2_with fail
    refine (hd _ hE h1 h2 h3 k1 k2 k3).mono ?_
    rintro _ w2 ⟨rfl, hX⟩
    go_wp2
    go_ret
    exact ⟨rfl, hU1.trans hX⟩
end Go.Proofs.Klp
