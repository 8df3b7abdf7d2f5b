/- The program's vectors. -/
import Derived.Test.YtooldicbicanaaaGreatDoorKK
namespace Go.Proofs.Klp
open Go.RowKit Go.Shelf
open Go.Lib (decDigits itoa)

theorem size_alloc (w : World) (o : Obj) : (w.alloc o).heap.size = w.heap.size + 1 := Array.size_push ..

/-- what a cell holds -/
def cellOr (w : World) (a : Addr) : Value := (w.cell? a).getD undef
/-- the first n cells of block g are there, and may be written -/
def Fz (w : World) (g n : Nat) : Prop := g < w.heap.size ∧ ∀ k, k < n → (w.cell? ⟨g, k, none⟩).isSome = true ∧ w.frozen? ⟨g, k, none⟩ = false
theorem Fz.up {w w' : World} {g n : Nat} (h : Fz w g n) (k : Up w w') : Fz w' g n :=
  ⟨Nat.lt_of_lt_of_le h.1 k.size, fun i hi => by rw [Below.frozen k h.1, Below.cell k h.1]; exact h.2 i hi⟩
theorem Fz.set {w : World} {g n : Nat} (h : Fz w g n) (a : Addr) (v : Value) : Fz (w.setCell a v) g n := by
  refine ⟨by simpa [World.setCell] using h.1, fun k hk => ?_⟩
  obtain ⟨h1, h2⟩ := h.2 k hk
  refine ⟨?_, by rw [World.frozen?_setCell]; exact h2⟩
  obtain ⟨x, hx⟩ := Option.isSome_iff_exists.1 h1
  by_cases e : a = ⟨g, k, none⟩
  · subst e; rw [World.cell?_setCell_same _ _ _ hx]; rfl
  · rw [World.cell?_setCell_other _ _ _ _ e]; exact h1
theorem Fz.cl {w : World} {g n : Nat} (h : Fz w g n) (k : Nat) (hk : k < n) : w.cell? ⟨g, k, none⟩ = some (cellOr w ⟨g, k, none⟩) := by
  obtain ⟨x, hx⟩ := Option.isSome_iff_exists.1 (h.2 k hk).1
  unfold cellOr; rw [hx]; rfl
theorem Fz.new (w : World) (vs : Array Value) (t : TypeId) (n : Nat) (hn : n = vs.size) : Fz (w.alloc (.cells vs t)) w.heap.size n := by
  refine ⟨by show _ < (w.heap.push _).size; simp, fun k hk => ?_⟩
  unfold World.frozen? World.cell? World.alloc
  subst hn
  simp [hk]
theorem Bx.set {w : World} {g : Nat} {vs : List Value} (h : Bx w g vs) {b o : Nat} (v : Value) (ha : g ≠ b) : Bx (w.setCell ⟨b, o, none⟩ v) g vs :=
  ⟨by simpa [World.setCell] using h.1, fun k hk => (World.cell?_of_block (w := w) (Below.heap_setCell _ _ _ _ ha)).trans (h.2 k hk)⟩
theorem set3_cells {w : World} {g : Nat} (h : Fz w g 3) (x y z : Value) : (((w.setCell ⟨g, 0, none⟩ x).setCell ⟨g, 1, none⟩ y).setCell ⟨g, 2, none⟩ z).cell? ⟨g, 0, none⟩ = some x ∧ (((w.setCell ⟨g, 0, none⟩ x).setCell ⟨g, 1, none⟩ y).setCell ⟨g, 2, none⟩ z).cell? ⟨g, 1, none⟩ = some y ∧ (((w.setCell ⟨g, 0, none⟩ x).setCell ⟨g, 1, none⟩ y).setCell ⟨g, 2, none⟩ z).cell? ⟨g, 2, none⟩ = some z := by
  have h1 := h.set ⟨g, 0, none⟩ x
  have h2 := h1.set ⟨g, 1, none⟩ y
  have n1 : (⟨g, 1, none⟩ : Addr) ≠ ⟨g, 0, none⟩ := by simp
  have n2 : (⟨g, 2, none⟩ : Addr) ≠ ⟨g, 0, none⟩ := by simp
  have n3 : (⟨g, 2, none⟩ : Addr) ≠ ⟨g, 1, none⟩ := by simp
  refine ⟨?_, ?_, World.cell?_setCell_same _ _ _ (h2.cl 2 (by decide))⟩
  · rw [World.cell?_setCell_other _ _ _ _ n2, World.cell?_setCell_other _ _ _ _ n1]
    exact World.cell?_setCell_same _ _ _ (h.cl 0 (by decide))
  · rw [World.cell?_setCell_other _ _ _ _ n3]
    exact World.cell?_setCell_same _ _ _ (h1.cl 1 (by decide))
theorem Up.set {w w' : World} (h : Up w w') {b o : Nat} {v : Value} (ha : w.heap.size ≤ b) : Up w (w'.setCell ⟨b, o, none⟩ v) := Below.setCell h ha v

set_option maxRecDepth 100000 in
set_option maxHeartbeats 2000000 in
theorem slip_add (a1 a2 a3 b1 b2 b3 : Rat) (w : World) (hE : Env w) (ha1 : rlen a1 ≤ 10000) (ha2 : rlen a2 ≤ 10000) (ha3 : rlen a3 ≤ 10000) (hb1 : rlen b1 ≤ 10000) (hb2 : rlen b2 ≤ 10000) (hb3 : rlen b3 ≤ 10000) : Calls Tryz.prog 65 #[.agg #[.string (rB a1), .string (rB a2), .string (rB a3)], .agg #[.string (rB b1), .string (rB b2), .string (rB b3)]] w (Ret w (.agg #[.string (rB (a1 + b1)), .string (rB (a2 + b2)), .string (rB (a3 + b3))])) := by
  have hU := Up.refl w
  go_enter Tryz.func65, Tryz.ntmps65
  go_wp2_with fail
  have X1 := (Bx.new w [.string (rB a1), .string (rB a2), .string (rB a3)] 24).up (((Up.refl _).alloc (.cells #[.string (rB b1), .string (rB b2), .string (rB b3)] 24)).alloc (.cells #[.string ⟨#[]⟩, .string ⟨#[]⟩, .string ⟨#[]⟩] 24))
  have X2 := (Bx.new (w.alloc (.cells #[.string (rB a1), .string (rB a2), .string (rB a3)] 24)) [.string (rB b1), .string (rB b2), .string (rB b3)] 24).up ((Up.refl _).alloc (.cells #[.string ⟨#[]⟩, .string ⟨#[]⟩, .string ⟨#[]⟩] 24))
  have X3 := (Bx.new ((w.alloc (.cells #[.string (rB a1), .string (rB a2), .string (rB a3)] 24)).alloc (.cells #[.string (rB b1), .string (rB b2), .string (rB b3)] 24)) [.string ⟨#[]⟩, .string ⟨#[]⟩, .string ⟨#[]⟩] 24).up (Up.refl _)
  have F3 := (Fz.new ((w.alloc (.cells #[.string (rB a1), .string (rB a2), .string (rB a3)] 24)).alloc (.cells #[.string (rB b1), .string (rB b2), .string (rB b3)] 24)) #[.string ⟨#[]⟩, .string ⟨#[]⟩, .string ⟨#[]⟩] 24 3 rfl).up (Up.refl _)
  replace hU := (((hU.alloc (.cells #[.string (rB a1), .string (rB a2), .string (rB a3)] 24)).alloc (.cells #[.string (rB b1), .string (rB b2), .string (rB b3)] 24)).alloc (.cells #[.string ⟨#[]⟩, .string ⟨#[]⟩, .string ⟨#[]⟩] 24))
  replace hE := hE.up hU
  simp only [size_alloc] at X2 X3 F3
  generalize hWW : (((w.alloc (.cells #[.string (rB a1), .string (rB a2), .string (rB a3)] 24)).alloc (.cells #[.string (rB b1), .string (rB b2), .string (rB b3)] 24)).alloc (.cells #[.string ⟨#[]⟩, .string ⟨#[]⟩, .string ⟨#[]⟩] 24)) = W at *
  clear hWW
  have hp : w.heap.size ≤ w.heap.size := Nat.le_refl _
  generalize hpp : w.heap.size = p at X1 X2 X3 F3 ⊢
  replace hp : w.heap.size ≤ p := by omega
  clear hpp
  have hS : ∀ W', Up W W' → W'.cell? ⟨p, 0, none⟩ = some (.string (rB a1)) ∧ W'.cell? ⟨p, 1, none⟩ = some (.string (rB a2)) ∧ W'.cell? ⟨p, 2, none⟩ = some (.string (rB a3)) ∧ W'.cell? ⟨p + 1, 0, none⟩ = some (.string (rB b1)) ∧ W'.cell? ⟨p + 1, 1, none⟩ = some (.string (rB b2)) ∧ W'.cell? ⟨p + 1, 2, none⟩ = some (.string (rB b3)) ∧ W'.cell? ⟨p + 1 + 1, 0, none⟩ = some (cellOr W' ⟨p + 1 + 1, 0, none⟩) ∧ W'.cell? ⟨p + 1 + 1, 1, none⟩ = some (cellOr W' ⟨p + 1 + 1, 1, none⟩) ∧ W'.cell? ⟨p + 1 + 1, 2, none⟩ = some (cellOr W' ⟨p + 1 + 1, 2, none⟩) ∧ W'.frozen? ⟨p + 1 + 1, 0, none⟩ = false ∧ W'.frozen? ⟨p + 1 + 1, 1, none⟩ = false ∧ W'.frozen? ⟨p + 1 + 1, 2, none⟩ = false := fun W' h =>
    let x1 := X1.up h; let x2 := X2.up h; let f3 := F3.up h; ⟨(x1).c0, (x1).c1, (x1).c2, (x2).c0, (x2).c1, (x2).c2, (f3).cl 0 (by decide), (f3).cl 1 (by decide), (f3).cl 2 (by decide), ((f3).2 0 (by decide)).2, ((f3).2 1 (by decide)).2, ((f3).2 2 (by decide)).2⟩
  have hT : ∀ W', Up W W' → ∀ v0 v1 v2, (((W'.setCell ⟨p + 1 + 1, 0, none⟩ v0).setCell ⟨p + 1 + 1, 1, none⟩ v1).setCell ⟨p + 1 + 1, 2, none⟩ v2).cell? ⟨p, 0, none⟩ = some (.string (rB a1)) ∧ (((W'.setCell ⟨p + 1 + 1, 0, none⟩ v0).setCell ⟨p + 1 + 1, 1, none⟩ v1).setCell ⟨p + 1 + 1, 2, none⟩ v2).cell? ⟨p, 1, none⟩ = some (.string (rB a2)) ∧ (((W'.setCell ⟨p + 1 + 1, 0, none⟩ v0).setCell ⟨p + 1 + 1, 1, none⟩ v1).setCell ⟨p + 1 + 1, 2, none⟩ v2).cell? ⟨p, 2, none⟩ = some (.string (rB a3)) ∧ (((W'.setCell ⟨p + 1 + 1, 0, none⟩ v0).setCell ⟨p + 1 + 1, 1, none⟩ v1).setCell ⟨p + 1 + 1, 2, none⟩ v2).cell? ⟨p + 1, 0, none⟩ = some (.string (rB b1)) ∧ (((W'.setCell ⟨p + 1 + 1, 0, none⟩ v0).setCell ⟨p + 1 + 1, 1, none⟩ v1).setCell ⟨p + 1 + 1, 2, none⟩ v2).cell? ⟨p + 1, 1, none⟩ = some (.string (rB b2)) ∧ (((W'.setCell ⟨p + 1 + 1, 0, none⟩ v0).setCell ⟨p + 1 + 1, 1, none⟩ v1).setCell ⟨p + 1 + 1, 2, none⟩ v2).cell? ⟨p + 1, 2, none⟩ = some (.string (rB b3)) ∧ (((W'.setCell ⟨p + 1 + 1, 0, none⟩ v0).setCell ⟨p + 1 + 1, 1, none⟩ v1).setCell ⟨p + 1 + 1, 2, none⟩ v2).cell? ⟨p + 1 + 1, 0, none⟩ = some (cellOr (((W'.setCell ⟨p + 1 + 1, 0, none⟩ v0).setCell ⟨p + 1 + 1, 1, none⟩ v1).setCell ⟨p + 1 + 1, 2, none⟩ v2) ⟨p + 1 + 1, 0, none⟩) ∧ (((W'.setCell ⟨p + 1 + 1, 0, none⟩ v0).setCell ⟨p + 1 + 1, 1, none⟩ v1).setCell ⟨p + 1 + 1, 2, none⟩ v2).cell? ⟨p + 1 + 1, 1, none⟩ = some (cellOr (((W'.setCell ⟨p + 1 + 1, 0, none⟩ v0).setCell ⟨p + 1 + 1, 1, none⟩ v1).setCell ⟨p + 1 + 1, 2, none⟩ v2) ⟨p + 1 + 1, 1, none⟩) ∧ (((W'.setCell ⟨p + 1 + 1, 0, none⟩ v0).setCell ⟨p + 1 + 1, 1, none⟩ v1).setCell ⟨p + 1 + 1, 2, none⟩ v2).cell? ⟨p + 1 + 1, 2, none⟩ = some (cellOr (((W'.setCell ⟨p + 1 + 1, 0, none⟩ v0).setCell ⟨p + 1 + 1, 1, none⟩ v1).setCell ⟨p + 1 + 1, 2, none⟩ v2) ⟨p + 1 + 1, 2, none⟩) ∧ (((W'.setCell ⟨p + 1 + 1, 0, none⟩ v0).setCell ⟨p + 1 + 1, 1, none⟩ v1).setCell ⟨p + 1 + 1, 2, none⟩ v2).frozen? ⟨p + 1 + 1, 0, none⟩ = false ∧ (((W'.setCell ⟨p + 1 + 1, 0, none⟩ v0).setCell ⟨p + 1 + 1, 1, none⟩ v1).setCell ⟨p + 1 + 1, 2, none⟩ v2).frozen? ⟨p + 1 + 1, 1, none⟩ = false ∧ (((W'.setCell ⟨p + 1 + 1, 0, none⟩ v0).setCell ⟨p + 1 + 1, 1, none⟩ v1).setCell ⟨p + 1 + 1, 2, none⟩ v2).frozen? ⟨p + 1 + 1, 2, none⟩ = false := fun W' h v0 v1 v2 =>
    let x1 := ((((X1.up h).set v0 (by omega)).set v1 (by omega)).set v2 (by omega)); let x2 := ((((X2.up h).set v0 (by omega)).set v1 (by omega)).set v2 (by omega)); let f3 := ((((F3.up h).set ⟨p + 1 + 1, 0, none⟩ v0).set ⟨p + 1 + 1, 1, none⟩ v1).set ⟨p + 1 + 1, 2, none⟩ v2); ⟨(x1).c0, (x1).c1, (x1).c2, (x2).c0, (x2).c1, (x2).c2, (f3).cl 0 (by decide), (f3).cl 1 (by decide), (f3).cl 2 (by decide), ((f3).2 0 (by decide)).2, ((f3).2 1 (by decide)).2, ((f3).2 2 (by decide)).2⟩
  have hV : Up W W.drew := (Up.refl _).drewN 1
  replace hE := hE.up hV
  replace hU := hU.trans hV
  refine wp_region_noPanic ?_
  go_region_held3 (fun W' => W'.cell? ⟨p, 0, none⟩ = some (.string (rB a1)) ∧ W'.cell? ⟨p, 1, none⟩ = some (.string (rB a2)) ∧ W'.cell? ⟨p, 2, none⟩ = some (.string (rB a3)) ∧ W'.cell? ⟨p + 1, 0, none⟩ = some (.string (rB b1)) ∧ W'.cell? ⟨p + 1, 1, none⟩ = some (.string (rB b2)) ∧ W'.cell? ⟨p + 1, 2, none⟩ = some (.string (rB b3)) ∧ W'.cell? ⟨p + 1 + 1, 0, none⟩ = some (cellOr W' ⟨p + 1 + 1, 0, none⟩) ∧ W'.cell? ⟨p + 1 + 1, 1, none⟩ = some (cellOr W' ⟨p + 1 + 1, 1, none⟩) ∧ W'.cell? ⟨p + 1 + 1, 2, none⟩ = some (cellOr W' ⟨p + 1 + 1, 2, none⟩) ∧ W'.frozen? ⟨p + 1 + 1, 0, none⟩ = false ∧ W'.frozen? ⟨p + 1 + 1, 1, none⟩ = false ∧ W'.frozen? ⟨p + 1 + 1, 2, none⟩ = false) (first | exact hS _ hV | exact hS _ (hV.alloc _) | exact hS _ ((hV.alloc _).alloc _) | exact hT _ hV _ _ _ | exact hT _ (hV.alloc _) _ _ _)
    (first | (go_at_call 81; refine (rat_add _ _ _ hE (by omega) (by omega)).mono ?_; rintro _ _ ⟨rfl, hX⟩; replace hE := hE.up hX; replace hU := hU.trans hX; replace hV := hV.trans hX; clear hX))
  refine NoPanic.normal ?_
  go_wp2
  obtain ⟨d0, d1, d2⟩ := set3_cells (F3.up hV) (.string (rB (a1 + b1))) (.string (rB (a2 + b2))) (.string (rB (a3 + b3)))
  refine bodyPost_ret (v := .agg #[.string (rB (a1 + b1)), .string (rB (a2 + b2)), .string (rB (a3 + b3))]) (by simp [results, Tryz.f65, go_sem, d0, d1, d2]) rfl ⟨rfl, ?_⟩
  exact ((hU.set (by omega)).set (by omega)).set (by omega)

set_option maxRecDepth 100000 in
set_option maxHeartbeats 2000000 in
theorem slip_scale (a1 a2 a3 k : Rat) (w : World) (hE : Env w) (ha1 : rlen a1 ≤ 10000) (ha2 : rlen a2 ≤ 10000) (ha3 : rlen a3 ≤ 10000) (hk : rlen k ≤ 10000) : Calls Tryz.prog 66 #[.agg #[.string (rB a1), .string (rB a2), .string (rB a3)], .string (rB k)] w (Ret w (.agg #[.string (rB (a1 * k)), .string (rB (a2 * k)), .string (rB (a3 * k))])) := by
  have hU := Up.refl w
  go_enter Tryz.func66, Tryz.ntmps66
  go_wp2_with fail
  have X1 := (Bx.new w [.string (rB a1), .string (rB a2), .string (rB a3)] 24).up ((Up.refl _).alloc (.cells #[.string ⟨#[]⟩, .string ⟨#[]⟩, .string ⟨#[]⟩] 24))
  have X2 := (Bx.new (w.alloc (.cells #[.string (rB a1), .string (rB a2), .string (rB a3)] 24)) [.string ⟨#[]⟩, .string ⟨#[]⟩, .string ⟨#[]⟩] 24).up (Up.refl _)
  have F2 := (Fz.new (w.alloc (.cells #[.string (rB a1), .string (rB a2), .string (rB a3)] 24)) #[.string ⟨#[]⟩, .string ⟨#[]⟩, .string ⟨#[]⟩] 24 3 rfl).up (Up.refl _)
  replace hU := ((hU.alloc (.cells #[.string (rB a1), .string (rB a2), .string (rB a3)] 24)).alloc (.cells #[.string ⟨#[]⟩, .string ⟨#[]⟩, .string ⟨#[]⟩] 24))
  replace hE := hE.up hU
  simp only [size_alloc] at X2 F2
  generalize hWW : ((w.alloc (.cells #[.string (rB a1), .string (rB a2), .string (rB a3)] 24)).alloc (.cells #[.string ⟨#[]⟩, .string ⟨#[]⟩, .string ⟨#[]⟩] 24)) = W at *
  clear hWW
  have hp : w.heap.size ≤ w.heap.size := Nat.le_refl _
  generalize hpp : w.heap.size = p at X1 X2 F2 ⊢
  replace hp : w.heap.size ≤ p := by omega
  clear hpp
  have hS : ∀ W', Up W W' → W'.cell? ⟨p, 0, none⟩ = some (.string (rB a1)) ∧ W'.cell? ⟨p, 1, none⟩ = some (.string (rB a2)) ∧ W'.cell? ⟨p, 2, none⟩ = some (.string (rB a3)) ∧ W'.cell? ⟨p + 1, 0, none⟩ = some (cellOr W' ⟨p + 1, 0, none⟩) ∧ W'.cell? ⟨p + 1, 1, none⟩ = some (cellOr W' ⟨p + 1, 1, none⟩) ∧ W'.cell? ⟨p + 1, 2, none⟩ = some (cellOr W' ⟨p + 1, 2, none⟩) ∧ W'.frozen? ⟨p + 1, 0, none⟩ = false ∧ W'.frozen? ⟨p + 1, 1, none⟩ = false ∧ W'.frozen? ⟨p + 1, 2, none⟩ = false := fun W' h =>
    let x1 := X1.up h; let f2 := F2.up h; ⟨(x1).c0, (x1).c1, (x1).c2, (f2).cl 0 (by decide), (f2).cl 1 (by decide), (f2).cl 2 (by decide), ((f2).2 0 (by decide)).2, ((f2).2 1 (by decide)).2, ((f2).2 2 (by decide)).2⟩
  have hT : ∀ W', Up W W' → ∀ v0 v1 v2, (((W'.setCell ⟨p + 1, 0, none⟩ v0).setCell ⟨p + 1, 1, none⟩ v1).setCell ⟨p + 1, 2, none⟩ v2).cell? ⟨p, 0, none⟩ = some (.string (rB a1)) ∧ (((W'.setCell ⟨p + 1, 0, none⟩ v0).setCell ⟨p + 1, 1, none⟩ v1).setCell ⟨p + 1, 2, none⟩ v2).cell? ⟨p, 1, none⟩ = some (.string (rB a2)) ∧ (((W'.setCell ⟨p + 1, 0, none⟩ v0).setCell ⟨p + 1, 1, none⟩ v1).setCell ⟨p + 1, 2, none⟩ v2).cell? ⟨p, 2, none⟩ = some (.string (rB a3)) ∧ (((W'.setCell ⟨p + 1, 0, none⟩ v0).setCell ⟨p + 1, 1, none⟩ v1).setCell ⟨p + 1, 2, none⟩ v2).cell? ⟨p + 1, 0, none⟩ = some (cellOr (((W'.setCell ⟨p + 1, 0, none⟩ v0).setCell ⟨p + 1, 1, none⟩ v1).setCell ⟨p + 1, 2, none⟩ v2) ⟨p + 1, 0, none⟩) ∧ (((W'.setCell ⟨p + 1, 0, none⟩ v0).setCell ⟨p + 1, 1, none⟩ v1).setCell ⟨p + 1, 2, none⟩ v2).cell? ⟨p + 1, 1, none⟩ = some (cellOr (((W'.setCell ⟨p + 1, 0, none⟩ v0).setCell ⟨p + 1, 1, none⟩ v1).setCell ⟨p + 1, 2, none⟩ v2) ⟨p + 1, 1, none⟩) ∧ (((W'.setCell ⟨p + 1, 0, none⟩ v0).setCell ⟨p + 1, 1, none⟩ v1).setCell ⟨p + 1, 2, none⟩ v2).cell? ⟨p + 1, 2, none⟩ = some (cellOr (((W'.setCell ⟨p + 1, 0, none⟩ v0).setCell ⟨p + 1, 1, none⟩ v1).setCell ⟨p + 1, 2, none⟩ v2) ⟨p + 1, 2, none⟩) ∧ (((W'.setCell ⟨p + 1, 0, none⟩ v0).setCell ⟨p + 1, 1, none⟩ v1).setCell ⟨p + 1, 2, none⟩ v2).frozen? ⟨p + 1, 0, none⟩ = false ∧ (((W'.setCell ⟨p + 1, 0, none⟩ v0).setCell ⟨p + 1, 1, none⟩ v1).setCell ⟨p + 1, 2, none⟩ v2).frozen? ⟨p + 1, 1, none⟩ = false ∧ (((W'.setCell ⟨p + 1, 0, none⟩ v0).setCell ⟨p + 1, 1, none⟩ v1).setCell ⟨p + 1, 2, none⟩ v2).frozen? ⟨p + 1, 2, none⟩ = false := fun W' h v0 v1 v2 =>
    let x1 := ((((X1.up h).set v0 (by omega)).set v1 (by omega)).set v2 (by omega)); let f2 := ((((F2.up h).set ⟨p + 1, 0, none⟩ v0).set ⟨p + 1, 1, none⟩ v1).set ⟨p + 1, 2, none⟩ v2); ⟨(x1).c0, (x1).c1, (x1).c2, (f2).cl 0 (by decide), (f2).cl 1 (by decide), (f2).cl 2 (by decide), ((f2).2 0 (by decide)).2, ((f2).2 1 (by decide)).2, ((f2).2 2 (by decide)).2⟩
  have hV : Up W W.drew := (Up.refl _).drewN 1
  replace hE := hE.up hV
  replace hU := hU.trans hV
  refine wp_region_noPanic ?_
  go_region_held3 (fun W' => W'.cell? ⟨p, 0, none⟩ = some (.string (rB a1)) ∧ W'.cell? ⟨p, 1, none⟩ = some (.string (rB a2)) ∧ W'.cell? ⟨p, 2, none⟩ = some (.string (rB a3)) ∧ W'.cell? ⟨p + 1, 0, none⟩ = some (cellOr W' ⟨p + 1, 0, none⟩) ∧ W'.cell? ⟨p + 1, 1, none⟩ = some (cellOr W' ⟨p + 1, 1, none⟩) ∧ W'.cell? ⟨p + 1, 2, none⟩ = some (cellOr W' ⟨p + 1, 2, none⟩) ∧ W'.frozen? ⟨p + 1, 0, none⟩ = false ∧ W'.frozen? ⟨p + 1, 1, none⟩ = false ∧ W'.frozen? ⟨p + 1, 2, none⟩ = false) (first | exact hS _ hV | exact hS _ (hV.alloc _) | exact hS _ ((hV.alloc _).alloc _) | exact hT _ hV _ _ _ | exact hT _ (hV.alloc _) _ _ _)
    (first | (go_at_call 82; refine (rat_mul _ _ _ hE (by omega) (by omega)).mono ?_; rintro _ _ ⟨rfl, hX⟩; replace hE := hE.up hX; replace hU := hU.trans hX; replace hV := hV.trans hX; clear hX))
  refine NoPanic.normal ?_
  go_wp2
  obtain ⟨d0, d1, d2⟩ := set3_cells (F2.up hV) (.string (rB (a1 * k))) (.string (rB (a2 * k))) (.string (rB (a3 * k)))
  refine bodyPost_ret (v := .agg #[.string (rB (a1 * k)), .string (rB (a2 * k)), .string (rB (a3 * k))]) (by simp [results, Tryz.f66, go_sem, d0, d1, d2]) rfl ⟨rfl, ?_⟩
  exact ((hU.set (by omega)).set (by omega)).set (by omega)

theorem slip_minor (p q r s : Rat) (w : World) (hE : Env w) (hp : rlen p ≤ 1000) (hq : rlen q ≤ 1000) (hr : rlen r ≤ 1000) (hs : rlen s ≤ 1000) : Calls Tryz.prog 110 #[.string (rB p), .string (rB q), .string (rB r), .string (rB s)] w (Ret w (.string (rB (p * s - q * r)))) := by
  have hU := Up.refl w
  have m1 := rlen_mul p s
  have m2 := rlen_mul q r
  go_enter Tryz.func110, Tryz.ntmps110
  go_wp2_with fail
  refine (rat_mul p s _ hE (by omega) (by omega)).mono ?_
  rintro _ _ ⟨rfl, hX⟩; replace hU := Up.trans hU hX; replace hE := Env.up hE hX; clear hX
  go_wp2_with fail
  refine (rat_mul q r _ hE (by omega) (by omega)).mono ?_
  rintro _ _ ⟨rfl, hX⟩; replace hU := Up.trans hU hX; replace hE := Env.up hE hX; clear hX
  go_wp2_with fail
  refine (rat_sub (p * s) (q * r) _ hE (by omega) (by omega)).mono ?_
  rintro _ _ ⟨rfl, hX⟩; replace hU := Up.trans hU hX; clear hX
  go_wp2
  go_ret
  exact ⟨rfl, hU⟩

set_option maxRecDepth 100000 in
set_option maxHeartbeats 2000000 in
theorem slip_cross (a1 a2 a3 b1 b2 b3 : Rat) (w : World) (hE : Env w) (ha1 : rlen a1 ≤ 1000) (ha2 : rlen a2 ≤ 1000) (ha3 : rlen a3 ≤ 1000) (hb1 : rlen b1 ≤ 1000) (hb2 : rlen b2 ≤ 1000) (hb3 : rlen b3 ≤ 1000) : Calls Tryz.prog 77 #[.agg #[.string (rB a1), .string (rB a2), .string (rB a3)], .agg #[.string (rB b1), .string (rB b2), .string (rB b3)]] w (Ret w (.agg #[.string (rB (a2 * b3 - a3 * b2)), .string (rB (a3 * b1 - a1 * b3)), .string (rB (a1 * b2 - a2 * b1))])) := by
  have hU := Up.refl w
  go_enter Tryz.func77, Tryz.ntmps77
  go_wp2_with fail
  have X1 := (Bx.new w [.string (rB a1), .string (rB a2), .string (rB a3)] 24).up (((Up.refl _).alloc (.cells #[.string (rB b1), .string (rB b2), .string (rB b3)] 24)).alloc (.cells #[.string ⟨#[]⟩, .string ⟨#[]⟩, .string ⟨#[]⟩] 24))
  have X2 := (Bx.new (w.alloc (.cells #[.string (rB a1), .string (rB a2), .string (rB a3)] 24)) [.string (rB b1), .string (rB b2), .string (rB b3)] 24).up ((Up.refl _).alloc (.cells #[.string ⟨#[]⟩, .string ⟨#[]⟩, .string ⟨#[]⟩] 24))
  have X3 := (Bx.new ((w.alloc (.cells #[.string (rB a1), .string (rB a2), .string (rB a3)] 24)).alloc (.cells #[.string (rB b1), .string (rB b2), .string (rB b3)] 24)) [.string ⟨#[]⟩, .string ⟨#[]⟩, .string ⟨#[]⟩] 24).up (Up.refl _)
  have F3 := (Fz.new ((w.alloc (.cells #[.string (rB a1), .string (rB a2), .string (rB a3)] 24)).alloc (.cells #[.string (rB b1), .string (rB b2), .string (rB b3)] 24)) #[.string ⟨#[]⟩, .string ⟨#[]⟩, .string ⟨#[]⟩] 24 3 rfl).up (Up.refl _)
  replace hU := (((hU.alloc (.cells #[.string (rB a1), .string (rB a2), .string (rB a3)] 24)).alloc (.cells #[.string (rB b1), .string (rB b2), .string (rB b3)] 24)).alloc (.cells #[.string ⟨#[]⟩, .string ⟨#[]⟩, .string ⟨#[]⟩] 24))
  replace hE := hE.up hU
  simp only [size_alloc] at X2 X3 F3
  generalize hWW : (((w.alloc (.cells #[.string (rB a1), .string (rB a2), .string (rB a3)] 24)).alloc (.cells #[.string (rB b1), .string (rB b2), .string (rB b3)] 24)).alloc (.cells #[.string ⟨#[]⟩, .string ⟨#[]⟩, .string ⟨#[]⟩] 24)) = W at *
  clear hWW
  have hp : w.heap.size ≤ w.heap.size := Nat.le_refl _
  generalize hpp : w.heap.size = p at X1 X2 X3 F3 ⊢
  replace hp : w.heap.size ≤ p := by omega
  clear hpp
  have hS : ∀ W', Up W W' → W'.cell? ⟨p, 0, none⟩ = some (.string (rB a1)) ∧ W'.cell? ⟨p, 1, none⟩ = some (.string (rB a2)) ∧ W'.cell? ⟨p, 2, none⟩ = some (.string (rB a3)) ∧ W'.cell? ⟨p + 1, 0, none⟩ = some (.string (rB b1)) ∧ W'.cell? ⟨p + 1, 1, none⟩ = some (.string (rB b2)) ∧ W'.cell? ⟨p + 1, 2, none⟩ = some (.string (rB b3)) ∧ W'.cell? ⟨p + 1 + 1, 0, none⟩ = some (cellOr W' ⟨p + 1 + 1, 0, none⟩) ∧ W'.cell? ⟨p + 1 + 1, 1, none⟩ = some (cellOr W' ⟨p + 1 + 1, 1, none⟩) ∧ W'.cell? ⟨p + 1 + 1, 2, none⟩ = some (cellOr W' ⟨p + 1 + 1, 2, none⟩) ∧ W'.frozen? ⟨p + 1 + 1, 0, none⟩ = false ∧ W'.frozen? ⟨p + 1 + 1, 1, none⟩ = false ∧ W'.frozen? ⟨p + 1 + 1, 2, none⟩ = false := fun W' h =>
    let x1 := X1.up h; let x2 := X2.up h; let f3 := F3.up h; ⟨(x1).c0, (x1).c1, (x1).c2, (x2).c0, (x2).c1, (x2).c2, (f3).cl 0 (by decide), (f3).cl 1 (by decide), (f3).cl 2 (by decide), ((f3).2 0 (by decide)).2, ((f3).2 1 (by decide)).2, ((f3).2 2 (by decide)).2⟩
  have hT : ∀ W', Up W W' → ∀ v0 v1 v2, (((W'.setCell ⟨p + 1 + 1, 0, none⟩ v0).setCell ⟨p + 1 + 1, 1, none⟩ v1).setCell ⟨p + 1 + 1, 2, none⟩ v2).cell? ⟨p, 0, none⟩ = some (.string (rB a1)) ∧ (((W'.setCell ⟨p + 1 + 1, 0, none⟩ v0).setCell ⟨p + 1 + 1, 1, none⟩ v1).setCell ⟨p + 1 + 1, 2, none⟩ v2).cell? ⟨p, 1, none⟩ = some (.string (rB a2)) ∧ (((W'.setCell ⟨p + 1 + 1, 0, none⟩ v0).setCell ⟨p + 1 + 1, 1, none⟩ v1).setCell ⟨p + 1 + 1, 2, none⟩ v2).cell? ⟨p, 2, none⟩ = some (.string (rB a3)) ∧ (((W'.setCell ⟨p + 1 + 1, 0, none⟩ v0).setCell ⟨p + 1 + 1, 1, none⟩ v1).setCell ⟨p + 1 + 1, 2, none⟩ v2).cell? ⟨p + 1, 0, none⟩ = some (.string (rB b1)) ∧ (((W'.setCell ⟨p + 1 + 1, 0, none⟩ v0).setCell ⟨p + 1 + 1, 1, none⟩ v1).setCell ⟨p + 1 + 1, 2, none⟩ v2).cell? ⟨p + 1, 1, none⟩ = some (.string (rB b2)) ∧ (((W'.setCell ⟨p + 1 + 1, 0, none⟩ v0).setCell ⟨p + 1 + 1, 1, none⟩ v1).setCell ⟨p + 1 + 1, 2, none⟩ v2).cell? ⟨p + 1, 2, none⟩ = some (.string (rB b3)) ∧ (((W'.setCell ⟨p + 1 + 1, 0, none⟩ v0).setCell ⟨p + 1 + 1, 1, none⟩ v1).setCell ⟨p + 1 + 1, 2, none⟩ v2).cell? ⟨p + 1 + 1, 0, none⟩ = some (cellOr (((W'.setCell ⟨p + 1 + 1, 0, none⟩ v0).setCell ⟨p + 1 + 1, 1, none⟩ v1).setCell ⟨p + 1 + 1, 2, none⟩ v2) ⟨p + 1 + 1, 0, none⟩) ∧ (((W'.setCell ⟨p + 1 + 1, 0, none⟩ v0).setCell ⟨p + 1 + 1, 1, none⟩ v1).setCell ⟨p + 1 + 1, 2, none⟩ v2).cell? ⟨p + 1 + 1, 1, none⟩ = some (cellOr (((W'.setCell ⟨p + 1 + 1, 0, none⟩ v0).setCell ⟨p + 1 + 1, 1, none⟩ v1).setCell ⟨p + 1 + 1, 2, none⟩ v2) ⟨p + 1 + 1, 1, none⟩) ∧ (((W'.setCell ⟨p + 1 + 1, 0, none⟩ v0).setCell ⟨p + 1 + 1, 1, none⟩ v1).setCell ⟨p + 1 + 1, 2, none⟩ v2).cell? ⟨p + 1 + 1, 2, none⟩ = some (cellOr (((W'.setCell ⟨p + 1 + 1, 0, none⟩ v0).setCell ⟨p + 1 + 1, 1, none⟩ v1).setCell ⟨p + 1 + 1, 2, none⟩ v2) ⟨p + 1 + 1, 2, none⟩) ∧ (((W'.setCell ⟨p + 1 + 1, 0, none⟩ v0).setCell ⟨p + 1 + 1, 1, none⟩ v1).setCell ⟨p + 1 + 1, 2, none⟩ v2).frozen? ⟨p + 1 + 1, 0, none⟩ = false ∧ (((W'.setCell ⟨p + 1 + 1, 0, none⟩ v0).setCell ⟨p + 1 + 1, 1, none⟩ v1).setCell ⟨p + 1 + 1, 2, none⟩ v2).frozen? ⟨p + 1 + 1, 1, none⟩ = false ∧ (((W'.setCell ⟨p + 1 + 1, 0, none⟩ v0).setCell ⟨p + 1 + 1, 1, none⟩ v1).setCell ⟨p + 1 + 1, 2, none⟩ v2).frozen? ⟨p + 1 + 1, 2, none⟩ = false := fun W' h v0 v1 v2 =>
    let x1 := ((((X1.up h).set v0 (by omega)).set v1 (by omega)).set v2 (by omega)); let x2 := ((((X2.up h).set v0 (by omega)).set v1 (by omega)).set v2 (by omega)); let f3 := ((((F3.up h).set ⟨p + 1 + 1, 0, none⟩ v0).set ⟨p + 1 + 1, 1, none⟩ v1).set ⟨p + 1 + 1, 2, none⟩ v2); ⟨(x1).c0, (x1).c1, (x1).c2, (x2).c0, (x2).c1, (x2).c2, (f3).cl 0 (by decide), (f3).cl 1 (by decide), (f3).cl 2 (by decide), ((f3).2 0 (by decide)).2, ((f3).2 1 (by decide)).2, ((f3).2 2 (by decide)).2⟩
  have hV : Up W W.drew := (Up.refl _).drewN 1
  replace hE := hE.up hV
  replace hU := hU.trans hV
  refine wp_region_noPanic ?_
  go_region_held3 (fun W' => W'.cell? ⟨p, 0, none⟩ = some (.string (rB a1)) ∧ W'.cell? ⟨p, 1, none⟩ = some (.string (rB a2)) ∧ W'.cell? ⟨p, 2, none⟩ = some (.string (rB a3)) ∧ W'.cell? ⟨p + 1, 0, none⟩ = some (.string (rB b1)) ∧ W'.cell? ⟨p + 1, 1, none⟩ = some (.string (rB b2)) ∧ W'.cell? ⟨p + 1, 2, none⟩ = some (.string (rB b3)) ∧ W'.cell? ⟨p + 1 + 1, 0, none⟩ = some (cellOr W' ⟨p + 1 + 1, 0, none⟩) ∧ W'.cell? ⟨p + 1 + 1, 1, none⟩ = some (cellOr W' ⟨p + 1 + 1, 1, none⟩) ∧ W'.cell? ⟨p + 1 + 1, 2, none⟩ = some (cellOr W' ⟨p + 1 + 1, 2, none⟩) ∧ W'.frozen? ⟨p + 1 + 1, 0, none⟩ = false ∧ W'.frozen? ⟨p + 1 + 1, 1, none⟩ = false ∧ W'.frozen? ⟨p + 1 + 1, 2, none⟩ = false) (first | exact hS _ hV | exact hS _ (hV.alloc _) | exact hS _ ((hV.alloc _).alloc _) | exact hT _ hV _ _ _ | exact hT _ (hV.alloc _) _ _ _)
    (first | (go_at_call 110; refine (slip_minor _ _ _ _ _ hE (by omega) (by omega) (by omega) (by omega)).mono ?_; rintro _ _ ⟨rfl, hX⟩; replace hE := hE.up hX; replace hU := hU.trans hX; replace hV := hV.trans hX; clear hX))
  refine NoPanic.normal ?_
  go_wp2
  obtain ⟨d0, d1, d2⟩ := set3_cells (F3.up hV) (.string (rB (a2 * b3 - a3 * b2))) (.string (rB (a3 * b1 - a1 * b3))) (.string (rB (a1 * b2 - a2 * b1)))
  refine bodyPost_ret (v := .agg #[.string (rB (a2 * b3 - a3 * b2)), .string (rB (a3 * b1 - a1 * b3)), .string (rB (a1 * b2 - a2 * b1))]) (by simp [results, Tryz.f77, go_sem, d0, d1, d2]) rfl ⟨rfl, ?_⟩
  exact ((hU.set (by omega)).set (by omega)).set (by omega)

end Go.Proofs.Klp
/- The reference's vectors. -/
namespace Go.Proofs.Klp
open Go.RowKit Go.Shelf
open Go.Lib (decDigits itoa)

set_option maxRecDepth 100000 in
set_option maxHeartbeats 2000000 in
theorem r10_add (a1 a2 a3 b1 b2 b3 : Rat) (w : World) (hE : Env w) (ha1 : rlen a1 ≤ 10000) (ha2 : rlen a2 ≤ 10000) (ha3 : rlen a3 ≤ 10000) (hb1 : rlen b1 ≤ 10000) (hb2 : rlen b2 ≤ 10000) (hb3 : rlen b3 ≤ 10000) : Calls Tryz.prog 23 #[.agg #[.string (rB a1), .string (rB a2), .string (rB a3)], .agg #[.string (rB b1), .string (rB b2), .string (rB b3)]] w (Ret w (.agg #[.string (rB (a1 + b1)), .string (rB (a2 + b2)), .string (rB (a3 + b3))])) := by
  have hU := Up.refl w
  go_enter Tryz.func23, Tryz.ntmps23
  go_wp2_with fail
  have X1 := (Bx.new w [.string (rB a1), .string (rB a2), .string (rB a3)] 24).up (((Up.refl _).alloc (.cells #[.string (rB b1), .string (rB b2), .string (rB b3)] 24)).alloc (.cells #[.string ⟨#[]⟩, .string ⟨#[]⟩, .string ⟨#[]⟩] 24))
  have X2 := (Bx.new (w.alloc (.cells #[.string (rB a1), .string (rB a2), .string (rB a3)] 24)) [.string (rB b1), .string (rB b2), .string (rB b3)] 24).up ((Up.refl _).alloc (.cells #[.string ⟨#[]⟩, .string ⟨#[]⟩, .string ⟨#[]⟩] 24))
  have X3 := (Bx.new ((w.alloc (.cells #[.string (rB a1), .string (rB a2), .string (rB a3)] 24)).alloc (.cells #[.string (rB b1), .string (rB b2), .string (rB b3)] 24)) [.string ⟨#[]⟩, .string ⟨#[]⟩, .string ⟨#[]⟩] 24).up (Up.refl _)
  have F3 := (Fz.new ((w.alloc (.cells #[.string (rB a1), .string (rB a2), .string (rB a3)] 24)).alloc (.cells #[.string (rB b1), .string (rB b2), .string (rB b3)] 24)) #[.string ⟨#[]⟩, .string ⟨#[]⟩, .string ⟨#[]⟩] 24 3 rfl).up (Up.refl _)
  replace hU := (((hU.alloc (.cells #[.string (rB a1), .string (rB a2), .string (rB a3)] 24)).alloc (.cells #[.string (rB b1), .string (rB b2), .string (rB b3)] 24)).alloc (.cells #[.string ⟨#[]⟩, .string ⟨#[]⟩, .string ⟨#[]⟩] 24))
  replace hE := hE.up hU
  simp only [size_alloc] at X2 X3 F3
  generalize hWW : (((w.alloc (.cells #[.string (rB a1), .string (rB a2), .string (rB a3)] 24)).alloc (.cells #[.string (rB b1), .string (rB b2), .string (rB b3)] 24)).alloc (.cells #[.string ⟨#[]⟩, .string ⟨#[]⟩, .string ⟨#[]⟩] 24)) = W at *
  clear hWW
  have hp : w.heap.size ≤ w.heap.size := Nat.le_refl _
  generalize hpp : w.heap.size = p at X1 X2 X3 F3 ⊢
  replace hp : w.heap.size ≤ p := by omega
  clear hpp
  have hS : ∀ W', Up W W' → W'.cell? ⟨p, 0, none⟩ = some (.string (rB a1)) ∧ W'.cell? ⟨p, 1, none⟩ = some (.string (rB a2)) ∧ W'.cell? ⟨p, 2, none⟩ = some (.string (rB a3)) ∧ W'.cell? ⟨p + 1, 0, none⟩ = some (.string (rB b1)) ∧ W'.cell? ⟨p + 1, 1, none⟩ = some (.string (rB b2)) ∧ W'.cell? ⟨p + 1, 2, none⟩ = some (.string (rB b3)) ∧ W'.cell? ⟨p + 1 + 1, 0, none⟩ = some (cellOr W' ⟨p + 1 + 1, 0, none⟩) ∧ W'.cell? ⟨p + 1 + 1, 1, none⟩ = some (cellOr W' ⟨p + 1 + 1, 1, none⟩) ∧ W'.cell? ⟨p + 1 + 1, 2, none⟩ = some (cellOr W' ⟨p + 1 + 1, 2, none⟩) ∧ W'.frozen? ⟨p + 1 + 1, 0, none⟩ = false ∧ W'.frozen? ⟨p + 1 + 1, 1, none⟩ = false ∧ W'.frozen? ⟨p + 1 + 1, 2, none⟩ = false := fun W' h =>
    let x1 := X1.up h; let x2 := X2.up h; let f3 := F3.up h; ⟨(x1).c0, (x1).c1, (x1).c2, (x2).c0, (x2).c1, (x2).c2, (f3).cl 0 (by decide), (f3).cl 1 (by decide), (f3).cl 2 (by decide), ((f3).2 0 (by decide)).2, ((f3).2 1 (by decide)).2, ((f3).2 2 (by decide)).2⟩
  have hT : ∀ W', Up W W' → ∀ v0 v1 v2, (((W'.setCell ⟨p + 1 + 1, 0, none⟩ v0).setCell ⟨p + 1 + 1, 1, none⟩ v1).setCell ⟨p + 1 + 1, 2, none⟩ v2).cell? ⟨p, 0, none⟩ = some (.string (rB a1)) ∧ (((W'.setCell ⟨p + 1 + 1, 0, none⟩ v0).setCell ⟨p + 1 + 1, 1, none⟩ v1).setCell ⟨p + 1 + 1, 2, none⟩ v2).cell? ⟨p, 1, none⟩ = some (.string (rB a2)) ∧ (((W'.setCell ⟨p + 1 + 1, 0, none⟩ v0).setCell ⟨p + 1 + 1, 1, none⟩ v1).setCell ⟨p + 1 + 1, 2, none⟩ v2).cell? ⟨p, 2, none⟩ = some (.string (rB a3)) ∧ (((W'.setCell ⟨p + 1 + 1, 0, none⟩ v0).setCell ⟨p + 1 + 1, 1, none⟩ v1).setCell ⟨p + 1 + 1, 2, none⟩ v2).cell? ⟨p + 1, 0, none⟩ = some (.string (rB b1)) ∧ (((W'.setCell ⟨p + 1 + 1, 0, none⟩ v0).setCell ⟨p + 1 + 1, 1, none⟩ v1).setCell ⟨p + 1 + 1, 2, none⟩ v2).cell? ⟨p + 1, 1, none⟩ = some (.string (rB b2)) ∧ (((W'.setCell ⟨p + 1 + 1, 0, none⟩ v0).setCell ⟨p + 1 + 1, 1, none⟩ v1).setCell ⟨p + 1 + 1, 2, none⟩ v2).cell? ⟨p + 1, 2, none⟩ = some (.string (rB b3)) ∧ (((W'.setCell ⟨p + 1 + 1, 0, none⟩ v0).setCell ⟨p + 1 + 1, 1, none⟩ v1).setCell ⟨p + 1 + 1, 2, none⟩ v2).cell? ⟨p + 1 + 1, 0, none⟩ = some (cellOr (((W'.setCell ⟨p + 1 + 1, 0, none⟩ v0).setCell ⟨p + 1 + 1, 1, none⟩ v1).setCell ⟨p + 1 + 1, 2, none⟩ v2) ⟨p + 1 + 1, 0, none⟩) ∧ (((W'.setCell ⟨p + 1 + 1, 0, none⟩ v0).setCell ⟨p + 1 + 1, 1, none⟩ v1).setCell ⟨p + 1 + 1, 2, none⟩ v2).cell? ⟨p + 1 + 1, 1, none⟩ = some (cellOr (((W'.setCell ⟨p + 1 + 1, 0, none⟩ v0).setCell ⟨p + 1 + 1, 1, none⟩ v1).setCell ⟨p + 1 + 1, 2, none⟩ v2) ⟨p + 1 + 1, 1, none⟩) ∧ (((W'.setCell ⟨p + 1 + 1, 0, none⟩ v0).setCell ⟨p + 1 + 1, 1, none⟩ v1).setCell ⟨p + 1 + 1, 2, none⟩ v2).cell? ⟨p + 1 + 1, 2, none⟩ = some (cellOr (((W'.setCell ⟨p + 1 + 1, 0, none⟩ v0).setCell ⟨p + 1 + 1, 1, none⟩ v1).setCell ⟨p + 1 + 1, 2, none⟩ v2) ⟨p + 1 + 1, 2, none⟩) ∧ (((W'.setCell ⟨p + 1 + 1, 0, none⟩ v0).setCell ⟨p + 1 + 1, 1, none⟩ v1).setCell ⟨p + 1 + 1, 2, none⟩ v2).frozen? ⟨p + 1 + 1, 0, none⟩ = false ∧ (((W'.setCell ⟨p + 1 + 1, 0, none⟩ v0).setCell ⟨p + 1 + 1, 1, none⟩ v1).setCell ⟨p + 1 + 1, 2, none⟩ v2).frozen? ⟨p + 1 + 1, 1, none⟩ = false ∧ (((W'.setCell ⟨p + 1 + 1, 0, none⟩ v0).setCell ⟨p + 1 + 1, 1, none⟩ v1).setCell ⟨p + 1 + 1, 2, none⟩ v2).frozen? ⟨p + 1 + 1, 2, none⟩ = false := fun W' h v0 v1 v2 =>
    let x1 := ((((X1.up h).set v0 (by omega)).set v1 (by omega)).set v2 (by omega)); let x2 := ((((X2.up h).set v0 (by omega)).set v1 (by omega)).set v2 (by omega)); let f3 := ((((F3.up h).set ⟨p + 1 + 1, 0, none⟩ v0).set ⟨p + 1 + 1, 1, none⟩ v1).set ⟨p + 1 + 1, 2, none⟩ v2); ⟨(x1).c0, (x1).c1, (x1).c2, (x2).c0, (x2).c1, (x2).c2, (f3).cl 0 (by decide), (f3).cl 1 (by decide), (f3).cl 2 (by decide), ((f3).2 0 (by decide)).2, ((f3).2 1 (by decide)).2, ((f3).2 2 (by decide)).2⟩
  have hV : Up W W.drew := (Up.refl _).drewN 1
  replace hE := hE.up hV
  replace hU := hU.trans hV
  refine wp_region_noPanic ?_
  go_region_held3 (fun W' => W'.cell? ⟨p, 0, none⟩ = some (.string (rB a1)) ∧ W'.cell? ⟨p, 1, none⟩ = some (.string (rB a2)) ∧ W'.cell? ⟨p, 2, none⟩ = some (.string (rB a3)) ∧ W'.cell? ⟨p + 1, 0, none⟩ = some (.string (rB b1)) ∧ W'.cell? ⟨p + 1, 1, none⟩ = some (.string (rB b2)) ∧ W'.cell? ⟨p + 1, 2, none⟩ = some (.string (rB b3)) ∧ W'.cell? ⟨p + 1 + 1, 0, none⟩ = some (cellOr W' ⟨p + 1 + 1, 0, none⟩) ∧ W'.cell? ⟨p + 1 + 1, 1, none⟩ = some (cellOr W' ⟨p + 1 + 1, 1, none⟩) ∧ W'.cell? ⟨p + 1 + 1, 2, none⟩ = some (cellOr W' ⟨p + 1 + 1, 2, none⟩) ∧ W'.frozen? ⟨p + 1 + 1, 0, none⟩ = false ∧ W'.frozen? ⟨p + 1 + 1, 1, none⟩ = false ∧ W'.frozen? ⟨p + 1 + 1, 2, none⟩ = false) (first | exact hS _ hV | exact hS _ (hV.alloc _) | exact hS _ ((hV.alloc _).alloc _) | exact hT _ hV _ _ _ | exact hT _ (hV.alloc _) _ _ _)
    (first | (go_at_call 29; refine (r02_add _ _ _ hE (by omega) (by omega)).mono ?_; rintro _ _ ⟨rfl, hX⟩; replace hE := hE.up hX; replace hU := hU.trans hX; replace hV := hV.trans hX; clear hX))
  refine NoPanic.normal ?_
  go_wp2
  obtain ⟨d0, d1, d2⟩ := set3_cells (F3.up hV) (.string (rB (a1 + b1))) (.string (rB (a2 + b2))) (.string (rB (a3 + b3)))
  refine bodyPost_ret (v := .agg #[.string (rB (a1 + b1)), .string (rB (a2 + b2)), .string (rB (a3 + b3))]) (by simp [results, Tryz.f23, go_sem, d0, d1, d2]) rfl ⟨rfl, ?_⟩
  exact ((hU.set (by omega)).set (by omega)).set (by omega)

set_option maxRecDepth 100000 in
set_option maxHeartbeats 2000000 in
theorem r10_scale (a1 a2 a3 k : Rat) (w : World) (hE : Env w) (ha1 : rlen a1 ≤ 10000) (ha2 : rlen a2 ≤ 10000) (ha3 : rlen a3 ≤ 10000) (hk : rlen k ≤ 10000) : Calls Tryz.prog 24 #[.agg #[.string (rB a1), .string (rB a2), .string (rB a3)], .string (rB k)] w (Ret w (.agg #[.string (rB (a1 * k)), .string (rB (a2 * k)), .string (rB (a3 * k))])) := by
  have hU := Up.refl w
  go_enter Tryz.func24, Tryz.ntmps24
  go_wp2_with fail
  have X1 := (Bx.new w [.string (rB a1), .string (rB a2), .string (rB a3)] 24).up ((Up.refl _).alloc (.cells #[.string ⟨#[]⟩, .string ⟨#[]⟩, .string ⟨#[]⟩] 24))
  have X2 := (Bx.new (w.alloc (.cells #[.string (rB a1), .string (rB a2), .string (rB a3)] 24)) [.string ⟨#[]⟩, .string ⟨#[]⟩, .string ⟨#[]⟩] 24).up (Up.refl _)
  have F2 := (Fz.new (w.alloc (.cells #[.string (rB a1), .string (rB a2), .string (rB a3)] 24)) #[.string ⟨#[]⟩, .string ⟨#[]⟩, .string ⟨#[]⟩] 24 3 rfl).up (Up.refl _)
  replace hU := ((hU.alloc (.cells #[.string (rB a1), .string (rB a2), .string (rB a3)] 24)).alloc (.cells #[.string ⟨#[]⟩, .string ⟨#[]⟩, .string ⟨#[]⟩] 24))
  replace hE := hE.up hU
  simp only [size_alloc] at X2 F2
  generalize hWW : ((w.alloc (.cells #[.string (rB a1), .string (rB a2), .string (rB a3)] 24)).alloc (.cells #[.string ⟨#[]⟩, .string ⟨#[]⟩, .string ⟨#[]⟩] 24)) = W at *
  clear hWW
  have hp : w.heap.size ≤ w.heap.size := Nat.le_refl _
  generalize hpp : w.heap.size = p at X1 X2 F2 ⊢
  replace hp : w.heap.size ≤ p := by omega
  clear hpp
  have hS : ∀ W', Up W W' → W'.cell? ⟨p, 0, none⟩ = some (.string (rB a1)) ∧ W'.cell? ⟨p, 1, none⟩ = some (.string (rB a2)) ∧ W'.cell? ⟨p, 2, none⟩ = some (.string (rB a3)) ∧ W'.cell? ⟨p + 1, 0, none⟩ = some (cellOr W' ⟨p + 1, 0, none⟩) ∧ W'.cell? ⟨p + 1, 1, none⟩ = some (cellOr W' ⟨p + 1, 1, none⟩) ∧ W'.cell? ⟨p + 1, 2, none⟩ = some (cellOr W' ⟨p + 1, 2, none⟩) ∧ W'.frozen? ⟨p + 1, 0, none⟩ = false ∧ W'.frozen? ⟨p + 1, 1, none⟩ = false ∧ W'.frozen? ⟨p + 1, 2, none⟩ = false := fun W' h =>
    let x1 := X1.up h; let f2 := F2.up h; ⟨(x1).c0, (x1).c1, (x1).c2, (f2).cl 0 (by decide), (f2).cl 1 (by decide), (f2).cl 2 (by decide), ((f2).2 0 (by decide)).2, ((f2).2 1 (by decide)).2, ((f2).2 2 (by decide)).2⟩
  have hT : ∀ W', Up W W' → ∀ v0 v1 v2, (((W'.setCell ⟨p + 1, 0, none⟩ v0).setCell ⟨p + 1, 1, none⟩ v1).setCell ⟨p + 1, 2, none⟩ v2).cell? ⟨p, 0, none⟩ = some (.string (rB a1)) ∧ (((W'.setCell ⟨p + 1, 0, none⟩ v0).setCell ⟨p + 1, 1, none⟩ v1).setCell ⟨p + 1, 2, none⟩ v2).cell? ⟨p, 1, none⟩ = some (.string (rB a2)) ∧ (((W'.setCell ⟨p + 1, 0, none⟩ v0).setCell ⟨p + 1, 1, none⟩ v1).setCell ⟨p + 1, 2, none⟩ v2).cell? ⟨p, 2, none⟩ = some (.string (rB a3)) ∧ (((W'.setCell ⟨p + 1, 0, none⟩ v0).setCell ⟨p + 1, 1, none⟩ v1).setCell ⟨p + 1, 2, none⟩ v2).cell? ⟨p + 1, 0, none⟩ = some (cellOr (((W'.setCell ⟨p + 1, 0, none⟩ v0).setCell ⟨p + 1, 1, none⟩ v1).setCell ⟨p + 1, 2, none⟩ v2) ⟨p + 1, 0, none⟩) ∧ (((W'.setCell ⟨p + 1, 0, none⟩ v0).setCell ⟨p + 1, 1, none⟩ v1).setCell ⟨p + 1, 2, none⟩ v2).cell? ⟨p + 1, 1, none⟩ = some (cellOr (((W'.setCell ⟨p + 1, 0, none⟩ v0).setCell ⟨p + 1, 1, none⟩ v1).setCell ⟨p + 1, 2, none⟩ v2) ⟨p + 1, 1, none⟩) ∧ (((W'.setCell ⟨p + 1, 0, none⟩ v0).setCell ⟨p + 1, 1, none⟩ v1).setCell ⟨p + 1, 2, none⟩ v2).cell? ⟨p + 1, 2, none⟩ = some (cellOr (((W'.setCell ⟨p + 1, 0, none⟩ v0).setCell ⟨p + 1, 1, none⟩ v1).setCell ⟨p + 1, 2, none⟩ v2) ⟨p + 1, 2, none⟩) ∧ (((W'.setCell ⟨p + 1, 0, none⟩ v0).setCell ⟨p + 1, 1, none⟩ v1).setCell ⟨p + 1, 2, none⟩ v2).frozen? ⟨p + 1, 0, none⟩ = false ∧ (((W'.setCell ⟨p + 1, 0, none⟩ v0).setCell ⟨p + 1, 1, none⟩ v1).setCell ⟨p + 1, 2, none⟩ v2).frozen? ⟨p + 1, 1, none⟩ = false ∧ (((W'.setCell ⟨p + 1, 0, none⟩ v0).setCell ⟨p + 1, 1, none⟩ v1).setCell ⟨p + 1, 2, none⟩ v2).frozen? ⟨p + 1, 2, none⟩ = false := fun W' h v0 v1 v2 =>
    let x1 := ((((X1.up h).set v0 (by omega)).set v1 (by omega)).set v2 (by omega)); let f2 := ((((F2.up h).set ⟨p + 1, 0, none⟩ v0).set ⟨p + 1, 1, none⟩ v1).set ⟨p + 1, 2, none⟩ v2); ⟨(x1).c0, (x1).c1, (x1).c2, (f2).cl 0 (by decide), (f2).cl 1 (by decide), (f2).cl 2 (by decide), ((f2).2 0 (by decide)).2, ((f2).2 1 (by decide)).2, ((f2).2 2 (by decide)).2⟩
  have hV : Up W W.drew := (Up.refl _).drewN 1
  replace hE := hE.up hV
  replace hU := hU.trans hV
  refine wp_region_noPanic ?_
  go_region_held3 (fun W' => W'.cell? ⟨p, 0, none⟩ = some (.string (rB a1)) ∧ W'.cell? ⟨p, 1, none⟩ = some (.string (rB a2)) ∧ W'.cell? ⟨p, 2, none⟩ = some (.string (rB a3)) ∧ W'.cell? ⟨p + 1, 0, none⟩ = some (cellOr W' ⟨p + 1, 0, none⟩) ∧ W'.cell? ⟨p + 1, 1, none⟩ = some (cellOr W' ⟨p + 1, 1, none⟩) ∧ W'.cell? ⟨p + 1, 2, none⟩ = some (cellOr W' ⟨p + 1, 2, none⟩) ∧ W'.frozen? ⟨p + 1, 0, none⟩ = false ∧ W'.frozen? ⟨p + 1, 1, none⟩ = false ∧ W'.frozen? ⟨p + 1, 2, none⟩ = false) (first | exact hS _ hV | exact hS _ (hV.alloc _) | exact hS _ ((hV.alloc _).alloc _) | exact hT _ hV _ _ _ | exact hT _ (hV.alloc _) _ _ _)
    (first | (go_at_call 37; refine (r02_mul _ _ _ hE (by omega) (by omega)).mono ?_; rintro _ _ ⟨rfl, hX⟩; replace hE := hE.up hX; replace hU := hU.trans hX; replace hV := hV.trans hX; clear hX))
  refine NoPanic.normal ?_
  go_wp2
  obtain ⟨d0, d1, d2⟩ := set3_cells (F2.up hV) (.string (rB (a1 * k))) (.string (rB (a2 * k))) (.string (rB (a3 * k)))
  refine bodyPost_ret (v := .agg #[.string (rB (a1 * k)), .string (rB (a2 * k)), .string (rB (a3 * k))]) (by simp [results, Tryz.f24, go_sem, d0, d1, d2]) rfl ⟨rfl, ?_⟩
  exact ((hU.set (by omega)).set (by omega)).set (by omega)

theorem r10_minor (p q r s : Rat) (w : World) (hE : Env w) (hp : rlen p ≤ 1000) (hq : rlen q ≤ 1000) (hr : rlen r ≤ 1000) (hs : rlen s ≤ 1000) : Calls Tryz.prog 59 #[.string (rB p), .string (rB q), .string (rB r), .string (rB s)] w (Ret w (.string (rB (p * s - q * r)))) := by
  have hU := Up.refl w
  have m1 := rlen_mul p s
  have m2 := rlen_mul q r
  go_enter Tryz.func59, Tryz.ntmps59
  go_wp2_with fail
  refine (r02_mul p s _ hE (by omega) (by omega)).mono ?_
  rintro _ _ ⟨rfl, hX⟩; replace hU := Up.trans hU hX; replace hE := Env.up hE hX; clear hX
  go_wp2_with fail
  refine (r02_mul q r _ hE (by omega) (by omega)).mono ?_
  rintro _ _ ⟨rfl, hX⟩; replace hU := Up.trans hU hX; replace hE := Env.up hE hX; clear hX
  go_wp2_with fail
  refine (r02_sub (p * s) (q * r) _ hE (by omega) (by omega)).mono ?_
  rintro _ _ ⟨rfl, hX⟩; replace hU := Up.trans hU hX; clear hX
  go_wp2
  go_ret
  exact ⟨rfl, hU⟩

set_option maxRecDepth 100000 in
set_option maxHeartbeats 2000000 in
theorem r10_cross (a1 a2 a3 b1 b2 b3 : Rat) (w : World) (hE : Env w) (ha1 : rlen a1 ≤ 1000) (ha2 : rlen a2 ≤ 1000) (ha3 : rlen a3 ≤ 1000) (hb1 : rlen b1 ≤ 1000) (hb2 : rlen b2 ≤ 1000) (hb3 : rlen b3 ≤ 1000) : Calls Tryz.prog 18 #[.agg #[.string (rB a1), .string (rB a2), .string (rB a3)], .agg #[.string (rB b1), .string (rB b2), .string (rB b3)]] w (Ret w (.agg #[.string (rB (a2 * b3 - a3 * b2)), .string (rB (a3 * b1 - a1 * b3)), .string (rB (a1 * b2 - a2 * b1))])) := by
  have hU := Up.refl w
  go_enter Tryz.func18, Tryz.ntmps18
  go_wp2_with fail
  have X1 := (Bx.new w [.string (rB a1), .string (rB a2), .string (rB a3)] 24).up (((Up.refl _).alloc (.cells #[.string (rB b1), .string (rB b2), .string (rB b3)] 24)).alloc (.cells #[.string ⟨#[]⟩, .string ⟨#[]⟩, .string ⟨#[]⟩] 24))
  have X2 := (Bx.new (w.alloc (.cells #[.string (rB a1), .string (rB a2), .string (rB a3)] 24)) [.string (rB b1), .string (rB b2), .string (rB b3)] 24).up ((Up.refl _).alloc (.cells #[.string ⟨#[]⟩, .string ⟨#[]⟩, .string ⟨#[]⟩] 24))
  have X3 := (Bx.new ((w.alloc (.cells #[.string (rB a1), .string (rB a2), .string (rB a3)] 24)).alloc (.cells #[.string (rB b1), .string (rB b2), .string (rB b3)] 24)) [.string ⟨#[]⟩, .string ⟨#[]⟩, .string ⟨#[]⟩] 24).up (Up.refl _)
  have F3 := (Fz.new ((w.alloc (.cells #[.string (rB a1), .string (rB a2), .string (rB a3)] 24)).alloc (.cells #[.string (rB b1), .string (rB b2), .string (rB b3)] 24)) #[.string ⟨#[]⟩, .string ⟨#[]⟩, .string ⟨#[]⟩] 24 3 rfl).up (Up.refl _)
  replace hU := (((hU.alloc (.cells #[.string (rB a1), .string (rB a2), .string (rB a3)] 24)).alloc (.cells #[.string (rB b1), .string (rB b2), .string (rB b3)] 24)).alloc (.cells #[.string ⟨#[]⟩, .string ⟨#[]⟩, .string ⟨#[]⟩] 24))
  replace hE := hE.up hU
  simp only [size_alloc] at X2 X3 F3
  generalize hWW : (((w.alloc (.cells #[.string (rB a1), .string (rB a2), .string (rB a3)] 24)).alloc (.cells #[.string (rB b1), .string (rB b2), .string (rB b3)] 24)).alloc (.cells #[.string ⟨#[]⟩, .string ⟨#[]⟩, .string ⟨#[]⟩] 24)) = W at *
  clear hWW
  have hp : w.heap.size ≤ w.heap.size := Nat.le_refl _
  generalize hpp : w.heap.size = p at X1 X2 X3 F3 ⊢
  replace hp : w.heap.size ≤ p := by omega
  clear hpp
  have hS : ∀ W', Up W W' → W'.cell? ⟨p, 0, none⟩ = some (.string (rB a1)) ∧ W'.cell? ⟨p, 1, none⟩ = some (.string (rB a2)) ∧ W'.cell? ⟨p, 2, none⟩ = some (.string (rB a3)) ∧ W'.cell? ⟨p + 1, 0, none⟩ = some (.string (rB b1)) ∧ W'.cell? ⟨p + 1, 1, none⟩ = some (.string (rB b2)) ∧ W'.cell? ⟨p + 1, 2, none⟩ = some (.string (rB b3)) ∧ W'.cell? ⟨p + 1 + 1, 0, none⟩ = some (cellOr W' ⟨p + 1 + 1, 0, none⟩) ∧ W'.cell? ⟨p + 1 + 1, 1, none⟩ = some (cellOr W' ⟨p + 1 + 1, 1, none⟩) ∧ W'.cell? ⟨p + 1 + 1, 2, none⟩ = some (cellOr W' ⟨p + 1 + 1, 2, none⟩) ∧ W'.frozen? ⟨p + 1 + 1, 0, none⟩ = false ∧ W'.frozen? ⟨p + 1 + 1, 1, none⟩ = false ∧ W'.frozen? ⟨p + 1 + 1, 2, none⟩ = false := fun W' h =>
    let x1 := X1.up h; let x2 := X2.up h; let f3 := F3.up h; ⟨(x1).c0, (x1).c1, (x1).c2, (x2).c0, (x2).c1, (x2).c2, (f3).cl 0 (by decide), (f3).cl 1 (by decide), (f3).cl 2 (by decide), ((f3).2 0 (by decide)).2, ((f3).2 1 (by decide)).2, ((f3).2 2 (by decide)).2⟩
  have hT : ∀ W', Up W W' → ∀ v0 v1 v2, (((W'.setCell ⟨p + 1 + 1, 0, none⟩ v0).setCell ⟨p + 1 + 1, 1, none⟩ v1).setCell ⟨p + 1 + 1, 2, none⟩ v2).cell? ⟨p, 0, none⟩ = some (.string (rB a1)) ∧ (((W'.setCell ⟨p + 1 + 1, 0, none⟩ v0).setCell ⟨p + 1 + 1, 1, none⟩ v1).setCell ⟨p + 1 + 1, 2, none⟩ v2).cell? ⟨p, 1, none⟩ = some (.string (rB a2)) ∧ (((W'.setCell ⟨p + 1 + 1, 0, none⟩ v0).setCell ⟨p + 1 + 1, 1, none⟩ v1).setCell ⟨p + 1 + 1, 2, none⟩ v2).cell? ⟨p, 2, none⟩ = some (.string (rB a3)) ∧ (((W'.setCell ⟨p + 1 + 1, 0, none⟩ v0).setCell ⟨p + 1 + 1, 1, none⟩ v1).setCell ⟨p + 1 + 1, 2, none⟩ v2).cell? ⟨p + 1, 0, none⟩ = some (.string (rB b1)) ∧ (((W'.setCell ⟨p + 1 + 1, 0, none⟩ v0).setCell ⟨p + 1 + 1, 1, none⟩ v1).setCell ⟨p + 1 + 1, 2, none⟩ v2).cell? ⟨p + 1, 1, none⟩ = some (.string (rB b2)) ∧ (((W'.setCell ⟨p + 1 + 1, 0, none⟩ v0).setCell ⟨p + 1 + 1, 1, none⟩ v1).setCell ⟨p + 1 + 1, 2, none⟩ v2).cell? ⟨p + 1, 2, none⟩ = some (.string (rB b3)) ∧ (((W'.setCell ⟨p + 1 + 1, 0, none⟩ v0).setCell ⟨p + 1 + 1, 1, none⟩ v1).setCell ⟨p + 1 + 1, 2, none⟩ v2).cell? ⟨p + 1 + 1, 0, none⟩ = some (cellOr (((W'.setCell ⟨p + 1 + 1, 0, none⟩ v0).setCell ⟨p + 1 + 1, 1, none⟩ v1).setCell ⟨p + 1 + 1, 2, none⟩ v2) ⟨p + 1 + 1, 0, none⟩) ∧ (((W'.setCell ⟨p + 1 + 1, 0, none⟩ v0).setCell ⟨p + 1 + 1, 1, none⟩ v1).setCell ⟨p + 1 + 1, 2, none⟩ v2).cell? ⟨p + 1 + 1, 1, none⟩ = some (cellOr (((W'.setCell ⟨p + 1 + 1, 0, none⟩ v0).setCell ⟨p + 1 + 1, 1, none⟩ v1).setCell ⟨p + 1 + 1, 2, none⟩ v2) ⟨p + 1 + 1, 1, none⟩) ∧ (((W'.setCell ⟨p + 1 + 1, 0, none⟩ v0).setCell ⟨p + 1 + 1, 1, none⟩ v1).setCell ⟨p + 1 + 1, 2, none⟩ v2).cell? ⟨p + 1 + 1, 2, none⟩ = some (cellOr (((W'.setCell ⟨p + 1 + 1, 0, none⟩ v0).setCell ⟨p + 1 + 1, 1, none⟩ v1).setCell ⟨p + 1 + 1, 2, none⟩ v2) ⟨p + 1 + 1, 2, none⟩) ∧ (((W'.setCell ⟨p + 1 + 1, 0, none⟩ v0).setCell ⟨p + 1 + 1, 1, none⟩ v1).setCell ⟨p + 1 + 1, 2, none⟩ v2).frozen? ⟨p + 1 + 1, 0, none⟩ = false ∧ (((W'.setCell ⟨p + 1 + 1, 0, none⟩ v0).setCell ⟨p + 1 + 1, 1, none⟩ v1).setCell ⟨p + 1 + 1, 2, none⟩ v2).frozen? ⟨p + 1 + 1, 1, none⟩ = false ∧ (((W'.setCell ⟨p + 1 + 1, 0, none⟩ v0).setCell ⟨p + 1 + 1, 1, none⟩ v1).setCell ⟨p + 1 + 1, 2, none⟩ v2).frozen? ⟨p + 1 + 1, 2, none⟩ = false := fun W' h v0 v1 v2 =>
    let x1 := ((((X1.up h).set v0 (by omega)).set v1 (by omega)).set v2 (by omega)); let x2 := ((((X2.up h).set v0 (by omega)).set v1 (by omega)).set v2 (by omega)); let f3 := ((((F3.up h).set ⟨p + 1 + 1, 0, none⟩ v0).set ⟨p + 1 + 1, 1, none⟩ v1).set ⟨p + 1 + 1, 2, none⟩ v2); ⟨(x1).c0, (x1).c1, (x1).c2, (x2).c0, (x2).c1, (x2).c2, (f3).cl 0 (by decide), (f3).cl 1 (by decide), (f3).cl 2 (by decide), ((f3).2 0 (by decide)).2, ((f3).2 1 (by decide)).2, ((f3).2 2 (by decide)).2⟩
  have hV : Up W W.drew := (Up.refl _).drewN 1
  replace hE := hE.up hV
  replace hU := hU.trans hV
  refine wp_region_noPanic ?_
  go_region_held3 (fun W' => W'.cell? ⟨p, 0, none⟩ = some (.string (rB a1)) ∧ W'.cell? ⟨p, 1, none⟩ = some (.string (rB a2)) ∧ W'.cell? ⟨p, 2, none⟩ = some (.string (rB a3)) ∧ W'.cell? ⟨p + 1, 0, none⟩ = some (.string (rB b1)) ∧ W'.cell? ⟨p + 1, 1, none⟩ = some (.string (rB b2)) ∧ W'.cell? ⟨p + 1, 2, none⟩ = some (.string (rB b3)) ∧ W'.cell? ⟨p + 1 + 1, 0, none⟩ = some (cellOr W' ⟨p + 1 + 1, 0, none⟩) ∧ W'.cell? ⟨p + 1 + 1, 1, none⟩ = some (cellOr W' ⟨p + 1 + 1, 1, none⟩) ∧ W'.cell? ⟨p + 1 + 1, 2, none⟩ = some (cellOr W' ⟨p + 1 + 1, 2, none⟩) ∧ W'.frozen? ⟨p + 1 + 1, 0, none⟩ = false ∧ W'.frozen? ⟨p + 1 + 1, 1, none⟩ = false ∧ W'.frozen? ⟨p + 1 + 1, 2, none⟩ = false) (first | exact hS _ hV | exact hS _ (hV.alloc _) | exact hS _ ((hV.alloc _).alloc _) | exact hT _ hV _ _ _ | exact hT _ (hV.alloc _) _ _ _)
    (first | (go_at_call 59; refine (r10_minor _ _ _ _ _ hE (by omega) (by omega) (by omega) (by omega)).mono ?_; rintro _ _ ⟨rfl, hX⟩; replace hE := hE.up hX; replace hU := hU.trans hX; replace hV := hV.trans hX; clear hX))
  refine NoPanic.normal ?_
  go_wp2
  obtain ⟨d0, d1, d2⟩ := set3_cells (F3.up hV) (.string (rB (a2 * b3 - a3 * b2))) (.string (rB (a3 * b1 - a1 * b3))) (.string (rB (a1 * b2 - a2 * b1)))
  refine bodyPost_ret (v := .agg #[.string (rB (a2 * b3 - a3 * b2)), .string (rB (a3 * b1 - a1 * b3)), .string (rB (a1 * b2 - a2 * b1))]) (by simp [results, Tryz.f18, go_sem, d0, d1, d2]) rfl ⟨rfl, ?_⟩
  exact ((hU.set (by omega)).set (by omega)).set (by omega)

end Go.Proofs.Klp
