/- Magnitudes as integers. -/
import Derived.Test.YtooldicbicanaaaGreatDoorKE
import Derived.Deep.RegionHeld3
namespace Go.Proofs.Klp
open Go.RowKit Go.Shelf
open Go.Lib (decDigits itoa)
attribute [local go_sem] Oper.semAt_some

/-- the digits of a piece behind the first one -/
def pad9 (d : Nat) : List UInt8 := List.replicate (9 - (decDigits d).length) 48 ++ decDigits d
theorem tv_zeros (k : Nat) (s : List UInt8) : tv (List.replicate k 48 ++ s) = tv s := by
  induction k with
  | zero => rfl
  | succ k ih => rw [List.replicate_succ, List.cons_append, tv_cons, ih]; simp
theorem dec_len9 {d : Nat} (h : d < 1000000000) : (decDigits d).length ≤ 9 := (dec_len_le (by omega)).2 (by simpa using h)
theorem dec_pad {v d : Nat} (hv : 0 < v) (hd : d < 1000000000) : decDigits (v * 1000000000 + d) = decDigits v ++ pad9 d := by
  have h9 := dec_len9 hd
  have hz : Digs (List.replicate (9 - (decDigits d).length) 48) := fun c hc => by
    rw [(List.mem_replicate.1 hc).2]; decide
  have hD : Digs (decDigits v ++ pad9 d) := Digs.append.2 ⟨digs_dec v, Digs.append.2 ⟨hz, digs_dec d⟩⟩
  have hl : (pad9 d).length = 9 := by unfold pad9; rw [List.length_append, List.length_replicate]; omega
  have ht : tv (decDigits v ++ pad9 d) = v * 1000000000 + d := by
    rw [tv_append, hl, tv_dec]; unfold pad9; rw [tv_zeros, tv_dec]
  rw [← ht]
  refine dec_tv _ hD (by simp [dec_ne_nil]) (.inr ?_)
  obtain ⟨c, s, e, h1, _⟩ := dec_head (show v ≠ 0 by omega)
  rw [e]
  intro h
  have : c = 48 := by simpa using h
  rw [this] at h1
  simp at h1
theorem zeros_cut (d : Nat) : (⟨#[48, 48, 48, 48, 48, 48, 48, 48, 48]⟩ : ByteArray).extract (decDigits d).length 9 = mkB (List.replicate (9 - (decDigits d).length) 48) := by
  have h : (⟨#[48, 48, 48, 48, 48, 48, 48, 48, 48]⟩ : ByteArray) = mkB (List.replicate 9 48) := rfl
  rw [h, mkB_extract, List.take_of_length_le (by simp), List.drop_replicate]

/-- what is written behind the pieces that have been gone through -/
theorem close_step {zs : List Int} (hD : Dg 1000000000 zs) {n j : Nat} (hn : zs.length = n) (hj : j < n) {v : Nat} (hv : val 1000000000 (zs.drop (n - j)) = v) :
    val 1000000000 (zs.drop (n - (j + 1))) = ((v * 1000000000 + (dt zs (n - 1 - j)).toNat : Nat) : Int) := by
  have hlt : n - 1 - j < zs.length := by omega
  have e : zs.drop (n - (j + 1)) = zs[n - 1 - j] :: zs.drop (n - j) := by
    rw [show n - (j + 1) = n - 1 - j by omega, List.drop_eq_getElem_cons hlt, show n - 1 - j + 1 = n - j by omega]
  have hd : dt zs (n - 1 - j) = zs[n - 1 - j] := getD_in hlt
  have h0 := hD _ (List.getElem_mem hlt)
  rw [e, val_cons, hv, hd]
  omega

/-- the bytes that have been written behind k pieces -/
def WrittenTo (zs : List Int) (n k : Nat) (l : List UInt8) : Prop := if k = 0 then l = [] else ∃ v : Nat, 0 < v ∧ val 1000000000 (zs.drop (n - k)) = v ∧ l = decDigits v
theorem written_next {zs : List Int} (hc : Can 1000000000 zs) {n : Nat} (hn : zs.length = n) {pre : List (BkE zs)} {x : BkE zs} {t : List UInt8} (h : ∀ k, bkV zs pre = bkL zs k → WrittenTo zs n k t) {u : Nat} (hu : x.1.2 = u) (hu9 : u < 1000000000) (hp : pre.length < n) (k : Nat) (hk : bkV zs (pre ++ [x]) = bkL zs k) :
    WrittenTo zs n k (t ++ if x.1.1 < n - 1 then pad9 u else decDigits u) := by
  obtain ⟨j, rfl, hj, hx⟩ := bk_pre hk
  have hjp : pre.length = j := by rw [← bkV_len, hj, bkL_length]
  have h1 := h j hj
  have hx1 : x.1.1 = n - 1 - j := by
    have := congrArg Prod.fst hx
    dsimp only at this
    omega
  have hx2 : x.1.2 = dt zs (n - 1 - j) := by
    have := congrArg Prod.snd hx
    dsimp only at this
    rw [this, show zs.length - 1 - j = n - 1 - j by omega]
  have hun : (dt zs (n - 1 - j)).toNat = u := by rw [← hx2, hu]; rfl
  unfold WrittenTo at h1 ⊢
  rw [if_neg (by omega)]
  by_cases h0 : j = 0
  · subst h0
    rw [if_pos rfl] at h1
    subst h1
    have hs := close_step hc.1 hn (show 0 < n by omega) (v := 0) (by rw [Nat.sub_zero, List.drop_of_length_le (by omega)]; rfl)
    rw [hun] at hs
    rw [if_neg (by omega)]
    refine ⟨u, ?_, by omega, rfl⟩
    rcases Nat.eq_zero_or_pos u with hu0 | hu0
    · exfalso
      refine hc.2 ?_
      have hne : zs ≠ [] := by intro e; rw [e] at hn; simp at hn; omega
      rw [List.getLast?_eq_some_getLast hne, List.getLast_eq_getElem]
      congr 1
      have hd : dt zs (n - 1 - 0) = zs[n - 1] := getD_in (by omega)
      have := (hc.1 _ (List.getElem_mem (show n - 1 < zs.length by omega))).1
      rw [hu0] at hun
      simp only [hn]
      omega
    · exact hu0
  · rw [if_neg h0] at h1
    obtain ⟨v, hv, hval, rfl⟩ := h1
    have hs := close_step hc.1 hn (show j < n by omega) hval
    rw [hun] at hs
    rw [if_pos (by omega), ← dec_pad hv hu9]
    exact ⟨_, by omega, hs, rfl⟩
theorem bytes_app1 (p t a : List UInt8) : Lib.byteCells (p ++ t) ++ Lib.strCells (mkB a) = Lib.byteCells (p ++ (t ++ a)) := by
  rw [Lib.strCells_eq, mkB_data, ← Lib.byteCells_append, List.append_assoc]
theorem bytes_app2 (p t a b : List UInt8) : Lib.byteCells (p ++ t) ++ Lib.strCells (mkB a) ++ Lib.strCells (mkB b) = Lib.byteCells (p ++ (t ++ (a ++ b))) := by
  rw [bytes_app1, bytes_app1, List.append_assoc]
theorem pad9_len {d : Nat} (h : d < 1000000000) : (pad9 d).length = 9 := by
  have := dec_len9 h
  unfold pad9; rw [List.length_append, List.length_replicate]; omega

/-- the two cells of a box of a number -/
def NumBox (W : World) (B : Nat) (m : Bool) (v : Value) : Prop := W.heap[B]? = some (.cells #[.bool m, v] 164 (0, 0))
theorem cells_own {W W' : World} {row : Option Nat} {b : Nat} {o : Obj} (ho : W.heap[b]? = some o) (hc : o.isCells = true) (hg : W.grownBy W' row) (hr : ∀ r, row = some r → ∃ o' : Obj, W.heap[r]? = some o' ∧ o'.isCells = false) : W'.heap[b]? = some o := by
  refine (hg.block b (Array.getElem?_eq_some_iff.1 ho).1 ?_).trans ho
  intro e
  obtain ⟨o', ho', hc'⟩ := hr b e.symm
  rw [ho] at ho'; cases ho'; rw [hc] at hc'; cases hc'
theorem bld_own {B b : Nat} {p : Value} {bs : List Value} {W W' : World} {row : Option Nat} (h : Lib.BuilderAt 185 5 B b p bs W) (hg : W.grownBy W' row) (hr : ∀ r, row = some r → ∃ o : Obj, W.heap[r]? = some o ∧ o.isCells = false) : Lib.BuilderAt 185 5 B b p bs W' := by
  obtain ⟨hB, v, hb, hown, hne⟩ := h
  exact ⟨hB, v, cells_own hb rfl hg hr, row_own hown hg hr, hne⟩
theorem bld_is_own {B b : Nat} {bs : List Value} {W W' : World} {row : Option Nat} (h : Lib.IsBuilder 185 5 B b bs W) (hg : W.grownBy W' row) (hr : ∀ r, row = some r → ∃ o : Obj, W.heap[r]? = some o ∧ o.isCells = false) : Lib.IsBuilder 185 5 B b bs W' :=
  h.imp (fun h => bld_own h hg hr) (fun h => bld_own h hg hr)
theorem bld_up {B b : Nat} {bs : List Value} {W W' : World} (h : Lib.IsBuilder 185 5 B b bs W) (hU : Up W W') : Lib.IsBuilder 185 5 B b bs W' :=
  bld_is_own (row := none) h (grown_below hU none) (fun r e => by cases e)
theorem keeps_up {W W' : World} (h : Up W W') : KeepsOthers W W' := ⟨h.size, fun k _ hk _ => (h.block k (Array.getElem?_eq_some_iff.1 hk).1).trans hk⟩
theorem bld_block {B b : Nat} {bs : List Value} {W : World} (h : Lib.IsBuilder 185 5 B b bs W) : ∃ cs, W.heap[b]? = some (.cells cs 185 (0, 0)) := by
  rcases h with ⟨_, v, hb, _⟩ | ⟨_, v, hb, _⟩
  · exact ⟨_, hb⟩
  · exact ⟨_, hb⟩
theorem keeps_bld {W W' : World} {B b : Nat} {bs : List Value} (hb : Lib.IsBuilder 185 5 B b bs W) (h : Lib.OthersKept 5 (some b) W W') (hs : W.heap.size ≤ W'.heap.size) : KeepsOthers W W' :=
  ⟨hs, fun k o hk ho => h k o hk (fun e => by obtain ⟨cs, hc⟩ := bld_block hb; cases e; rw [hc] at hk; cases hk; cases ho) (fun c fz e => by subst e; cases ho)⟩
theorem num_kept {W W' : World} {B b : Nat} {m : Bool} {v : Value} (h : NumBox W B m v) (hk : Lib.OthersKept 5 (some b) W W') (hne : B ≠ b) : NumBox W' B m v :=
  hk _ _ h (fun e => hne (Option.some.inj e)) (fun c fz e => by cases e)
theorem box_kept {W W' : World} {B b : Nat} {v : Value} (h : Boxed W B 162 v) (hk : Lib.OthersKept 5 (some b) W W') (hne : B ≠ b) : Boxed W' B 162 v :=
  hk _ _ h (fun e => hne (Option.some.inj e)) (fun c fz e => by cases e)

theorem close_zero (m : Bool) (A : Option Addr) (c : Nat) (w : World) : Calls Tryz.prog 137 #[.agg #[.bool m, .slice A 0 c]] w (Ret w (.string (iB 0))) := by
  go_enter Tryz.func137, Tryz.ntmps137
  go_wp2
  go_ret
  rw [iB_zero]
  exact ⟨rfl, (Below.refl _ w).alloc (Nat.le_refl _) _⟩

set_option maxRecDepth 100000 in
set_option maxHeartbeats 4000000 in
theorem close_pos (m : Bool) (A : Option Addr) (n1 c1 : Nat) (zs : List Int) (w : World) (hE : Env w) (hx : Rd .u64 w A n1 c1 zs) (hxc : Can 1000000000 zs) (hn : 0 < n1) (hn1 : n1 ≤ 100000000) :
    Calls Tryz.prog 137 #[.agg #[.bool m, .slice A n1 c1]] w (Ret w (.string (iB (if m then -val 1000000000 zs else val 1000000000 zs)))) := by
  refine wide_calls 5 ?_
  have hro : Fence.wide.round = none := rfl
  obtain ⟨W0, hW0⟩ : ∃ W0, (w.alloc (.cells #[.bool m, .slice A n1 c1] 164)).alloc (.cells #[.pointer none, .slice none 0 0] 185) = W0 := ⟨_, rfl⟩
  have hs0 : W0.heap.size = w.heap.size + 2 := by rw [← hW0]; simp
  have hU0 : Below w.heap.size w W0 := by rw [← hW0]; exact ((Below.refl _ w).alloc (Nat.le_refl _) _).alloc (by simp) _
  have hb0 : NumBox W0 w.heap.size m (.slice A n1 c1) := by
    rw [← hW0]
    exact (Lib.alloc_old _ _ _ (by simp)).trans (heap_alloc_new w _)
  have hbld : Lib.IsBuilder 185 5 w.heap.size (w.heap.size + 1) [] W0 := by
    rw [← hW0]
    exact .inl ⟨by omega, .slice none 0 0, by have := heap_alloc_new (w.alloc (.cells #[.bool m, .slice A n1 c1] 164)) (.cells #[.pointer none, .slice none 0 0] 185); rwa [World.size_alloc] at this, World.ownsRow_nil _ _ _ _, by simp [Value.ownBlock]⟩
  refine callsIn_of_wp_marks Tryz.func137 rfl trivial ?_ hro
  simp only [Tryz.ntmps137, List.size_toArray, List.length_cons, List.length_nil, Nat.reduceAdd, Nat.reduceSub, Array.replicate_succ, Array.replicate_zero, List.push_toArray, List.append_toArray, List.nil_append, List.cons_append]
  have k0 : W0.cell? ⟨w.heap.size, 0, none⟩ = some (.bool m) := by rw [Lib.cell_of_heap hb0]; rfl
  have k1 : W0.cell? ⟨w.heap.size, 1, none⟩ = some (.slice A n1 c1) := by rw [Lib.cell_of_heap hb0]; rfl
  have hs0' : w.heap.size + 1 < W0.heap.size := by omega
  clear hs0
  cases m with
  | false =>
    obtain ⟨W1, hW1⟩ : ∃ W1, W0 = W1 := ⟨_, rfl⟩
    have hB1 : Below w.heap.size w W1 := hW1 ▸ hU0
    have hb1 : NumBox W1 w.heap.size false (.slice A n1 c1) := hW1 ▸ hb0
    have hbld1 : Lib.IsBuilder 185 5 w.heap.size (w.heap.size + 1) (Lib.byteCells ([] ++ [])) W1 := hW1 ▸ hbld
    have hlt1 : w.heap.size < W1.heap.size := by rw [← hW1]; omega
    subst hW1
    generalize hW1 : W0 = W1 at *
    have d1 : W1.cell? ⟨w.heap.size, 1, none⟩ = some (.slice A n1 c1) := by rw [Lib.cell_of_heap hb1]; rfl
    have hx1 := hx.below hB1
    have hs1 := hB1.size
    obtain ⟨W2, hW2⟩ : ∃ W2, W1.alloc (.cells #[.slice A n1 c1] 162) = W2 := ⟨_, rfl⟩
    have bA : Boxed W2 W1.heap.size 162 (.slice A n1 c1) := by rw [← hW2]; exact Boxed.new W1 162 (.slice A n1 c1)
    have hs2 : W2.heap.size = W1.heap.size + 1 := by rw [← hW2]; simp
    have hU2 : Up W1 W2 := by rw [← hW2]; exact (Below.refl _ _).alloc (Nat.le_refl _) _
    have hB2 : Below w.heap.size w W2 := Below.trans hB1 (Below.mono hU2 hs1)
    have hb2 : NumBox W2 w.heap.size false (.slice A n1 c1) := (hU2.block _ hlt1).trans hb1
    have hbld2 := bld_up hbld1 hU2
    have hx2 := hx.below hB2
    gi_wp2_with (refine ⟨trivial, ?_⟩; gi_at_call 156; refine (backw_in Fence.wide 4 trivial rfl _ _ _ _).mono ?_; rintro e w' ⟨rfl, rfl⟩)
    clear hW0 hU2 k0 k1
    refine' wpIn_rangeFunc_ownG hro (by omega) (gf := 177) (lb := #[.pointer (some ⟨W1.heap.size, 0, none⟩)]) rfl trivial (enters_of Tryz.func177 (by kernel_rfl) rfl)
      (backw_stops Fence.wide 4 trivial rfl (by omega) W1.heap.size w.heap.size A n1 c1 zs (by omega) W2 (by omega) bA.cell hx2 ?hbl) (fun h k => h.t k) (KpB.b (by omega)) (Below.refl _ _) (fun _ => rfl)
      (fun pre W => (NumBox W w.heap.size false (.slice A n1 c1) ∧ Boxed W W1.heap.size 162 (.slice A n1 c1) ∧ ∃ l : List UInt8, Lib.IsBuilder 185 5 w.heap.size (w.heap.size + 1) (Lib.byteCells (([] : List UInt8) ++ l)) W ∧ l.length ≤ 9 * pre.length ∧ Hid (∀ k, bkV zs pre = bkL zs k → WrittenTo zs n1 k l)) ∧ Below w.heap.size w W)
      (fun _ _ _ => False)
      (OwnFrom.and (fun s W W' row hs hg hr => by
        obtain ⟨h1, hq, l, h2, h3⟩ := hs
        have hr' := fun r e => (hr r e).2
        exact ⟨cells_own h1 rfl hg hr', cells_own hq rfl hg hr', l, bld_is_own h2 hg hr', h3⟩) (ownFrom_below (Nat.le_refl _) (by omega)))
      (fun _ _ _ _ _ hs _ _ => hs)
      ⟨⟨hb2, bA, [], hbld2, Nat.le_refl _, Lib.hid ?hinit⟩, hB2⟩
      _ ?assign ?body ?done ?stop
    case hbl =>
      intro b off e
      obtain ⟨b', off', e', hlt, _⟩ := hx.cell hn
      rw [e] at e'; cases e'; exact hlt
    case hinit =>
      intro k hk
      have hk0 : k = 0 := by have := congrArg List.length hk; rw [bkV_len, bkL_length] at this; simpa using this.symm
      subst hk0
      rfl
    case assign =>
      intro l x W K hK
      gi_wp2
      exact hK
    case body =>
      rintro l pre x W ⟨⟨h1, hq, t, h2, h4, h3⟩, hB⟩ hpl
      have hEW := hE.up hB
      have hsW := hB.size
      have hxi : x.1.1 < n1 := Nat.lt_of_lt_of_eq x.2.1 hx.len
      have HDX := Lib.hid x.2.2
      obtain ⟨u, hu, hu9⟩ : ∃ u : Nat, x.1.2 = u ∧ u < 1000000000 := ⟨x.1.2.toNat, by have := dt_bd hxc.1 x.1.1; have := x.2.2; omega, by have := dt_bd hxc.1 x.1.1; have := x.2.2; omega⟩
      have HU := Lib.hid hu
      have hpm := mkB_size (decDigits u)
      have hlen := dec_len9 hu9
      by_cases hi : x.1.1 < n1 - 1
      · gi_wp2_with fail
        refine ⟨trivial, ?_⟩
        refine (CallsIn.inRound l (callsIn_wide.2 (fmt_c u _ hEW (by omega)))).mono ?_
        rintro _ W3 ⟨rfl, hU3⟩
        have g1 : NumBox W3 w.heap.size false (.slice A n1 c1) := (hU3.block _ (Array.getElem?_eq_some_iff.1 h1).1).trans h1
        have gq : Boxed W3 W1.heap.size 162 (.slice A n1 c1) := (hU3.block _ (Array.getElem?_eq_some_iff.1 hq).1).trans hq
        have d2 : W3.cell? ⟨w.heap.size, 1, none⟩ = some (.slice A n1 c1) := by rw [Lib.cell_of_heap g1]; rfl
        have hz := zeros_cut u
        gi_wp2_with fail
        refine ⟨trivial, ?_⟩
        refine (CallsIn.inRound l (callsIn_wide.2 (bld_str w.heap.size (w.heap.size + 1) _ _ _ (bld_up h2 hU3) (by rw [Lib.byteCells_length, List.length_append, mkB_size, List.length_replicate]; simp only [List.length_nil]; omega) (by have := hU3.size; omega)))).mono ?_
        rintro _ W4 ⟨rfl, hb4, hB4, hk4⟩
        gi_wp2_with fail
        refine ⟨trivial, ?_⟩
        refine (CallsIn.inRound l (callsIn_wide.2 (bld_str w.heap.size (w.heap.size + 1) _ _ _ (.inr hb4) (by rw [List.length_append, Lib.byteCells_length, Lib.strCells_length, List.length_append, mkB_size, mkB_size, List.length_replicate]; simp only [List.length_nil]; omega) (by have := hU3.size; have := hB4.size; omega)))).mono ?_
        rintro _ W5 ⟨rfl, hb5, hB5, hk5⟩
        gi_wp2_with fail
        refine ⟨KeepsOthers.from (((keeps_up hU3).trans (keeps_bld (bld_up h2 hU3) hk4 hB4.size)).trans (keeps_bld (.inr hb4) hk5 hB5.size)) _, ⟨?_, fun v hv => ?_⟩, ⟨num_kept (num_kept g1 hk4 (by omega)) hk5 (by omega), box_kept (box_kept gq hk4 (by omega)) hk5 (by omega), t ++ pad9 u, ?_, ?_, Lib.hid fun k hk => ?_⟩, ?_⟩
        · exact (Below.trans (Below.mono hU3 hsW) hB4).trans hB5
        · have e1 : W.cell? ⟨W1.heap.size, 0, none⟩ = some (.slice A n1 c1) := Boxed.cell hq
          rw [e1] at hv; cases hv
          exact Boxed.cell (box_kept (box_kept gq hk4 (by omega)) hk5 (by omega))
        · rw [bytes_app2] at hb5
          exact .inr hb5
        · have := pad9_len hu9
          rw [List.length_append, List.length_append, List.length_singleton]; omega
        · have := written_next hxc hx.len h3.out HU.out hu9 hpl k hk
          rwa [if_pos hi] at this
        · exact hB.trans ((Below.trans (Below.mono hU3 hsW) hB4).trans hB5)
      · gi_wp2_with fail
        refine ⟨trivial, ?_⟩
        refine (CallsIn.inRound l (callsIn_wide.2 (fmt_c u _ hEW (by omega)))).mono ?_
        rintro _ W3 ⟨rfl, hU3⟩
        have g1 : NumBox W3 w.heap.size false (.slice A n1 c1) := (hU3.block _ (Array.getElem?_eq_some_iff.1 h1).1).trans h1
        have gq : Boxed W3 W1.heap.size 162 (.slice A n1 c1) := (hU3.block _ (Array.getElem?_eq_some_iff.1 hq).1).trans hq
        have d2 : W3.cell? ⟨w.heap.size, 1, none⟩ = some (.slice A n1 c1) := by rw [Lib.cell_of_heap g1]; rfl
        gi_wp2_with fail
        refine ⟨trivial, ?_⟩
        refine (CallsIn.inRound l (callsIn_wide.2 (bld_str w.heap.size (w.heap.size + 1) _ _ _ (bld_up h2 hU3) (by rw [Lib.byteCells_length, List.length_append, mkB_size]; simp only [List.length_nil]; omega) (by have := hU3.size; omega)))).mono ?_
        rintro _ W4 ⟨rfl, hb4, hB4, hk4⟩
        gi_wp2_with fail
        refine ⟨KeepsOthers.from ((keeps_up hU3).trans (keeps_bld (bld_up h2 hU3) hk4 hB4.size)) _, ⟨?_, fun v hv => ?_⟩, ⟨num_kept g1 hk4 (by omega), box_kept gq hk4 (by omega), t ++ decDigits u, ?_, ?_, Lib.hid fun k hk => ?_⟩, ?_⟩
        · exact Below.trans (Below.mono hU3 hsW) hB4
        · have e1 : W.cell? ⟨W1.heap.size, 0, none⟩ = some (.slice A n1 c1) := Boxed.cell hq
          rw [e1] at hv; cases hv
          exact Boxed.cell (box_kept gq hk4 (by omega))
        · rw [bytes_app1] at hb4
          exact .inr hb4
        · rw [List.length_append, List.length_append, List.length_singleton]; omega
        · have := written_next hxc hx.len h3.out HU.out hu9 hpl k hk
          rwa [if_neg hi] at this
        · exact hB.trans (Below.trans (Below.mono hU3 hsW) hB4)
    case done =>
      rintro D ys W hD hys ⟨⟨h1, hq, t, h2, h4, h3⟩, hB⟩ hK
      have hw := h3.out n1 hys
      unfold WrittenTo at hw
      rw [if_neg (by omega), Nat.sub_self, List.drop_zero] at hw
      obtain ⟨v, hv, hval, rfl⟩ := hw
      have hne : ([] : List UInt8) ++ decDigits v ≠ [] := by simp [dec_ne_nil]
      have hfin : (⟨(([] : List UInt8) ++ decDigits v).toArray⟩ : ByteArray) = iB (val 1000000000 zs) := by
        rw [hval]; unfold iB; rw [itoa_nat]; rfl
      clear hval
      gi_wp2_with fail
      refine ⟨trivial, ?_⟩
      refine (callsIn_wide.2 (bld_string w.heap.size (w.heap.size + 1) _ _ h2 hne)).mono ?_
      rintro _ W5 ⟨rfl, hB5, hk5⟩
      have hKD : W5.heap[D]? = some (.deferred (some [])) := hk5 D _ hK (fun e => by cases e; omega) (fun c fz e => by cases e)
      rw [hfin]
      gi_wp2_with fail
      refine ⟨by simp, .inl ⟨_, _, rfl, run_takeDeferred hKD, ?_⟩⟩
      refine ⟨.string (iB (val 1000000000 zs)), ?_, rfl, (hB.trans hB5).trans (belowK_b (w := w) (Nat.le_refl _) _ D _ _ (by have := hB1.size; omega) hKD rfl rfl)⟩
      simp [results, Tryz.f137, go_sem]
    case stop =>
      rintro D c pre W _ _ h _
      exact h.elim
  | true =>
    gi_wp2_with (refine ⟨trivial, ?_⟩; gi_at_call 155; refine (callsIn_wide.2 (bld_byte w.heap.size (w.heap.size + 1) [] 45 _ hbld (by simp) (by omega))).mono ?_; rintro e W1 ⟨rfl, hbld1', hB1', hkp1⟩; have hb1 : NumBox W1 w.heap.size true (.slice A n1 c1) := hkp1 _ _ hb0 (by simp) (fun c fz e => by cases e); have d1 : W1.cell? ⟨w.heap.size, 1, none⟩ = some (.slice A n1 c1) := (by rw [Lib.cell_of_heap hb1]; rfl))
    have hB1 : Below w.heap.size w W1 := hU0.trans hB1'
    have hbld1 : Lib.IsBuilder 185 5 w.heap.size (w.heap.size + 1) (Lib.byteCells ([45] ++ [])) W1 := .inr hbld1'
    have hlt1 : w.heap.size < W1.heap.size := by have := hB1'.size; omega
    have hlt2 : w.heap.size + 1 < W1.heap.size := by have := hB1'.size; omega
    clear hbld1' hB1' hkp1 hb0
    have d1 : W1.cell? ⟨w.heap.size, 1, none⟩ = some (.slice A n1 c1) := by rw [Lib.cell_of_heap hb1]; rfl
    have hx1 := hx.below hB1
    have hs1 := hB1.size
    obtain ⟨W2, hW2⟩ : ∃ W2, W1.alloc (.cells #[.slice A n1 c1] 162) = W2 := ⟨_, rfl⟩
    have bA : Boxed W2 W1.heap.size 162 (.slice A n1 c1) := by rw [← hW2]; exact Boxed.new W1 162 (.slice A n1 c1)
    have hs2 : W2.heap.size = W1.heap.size + 1 := by rw [← hW2]; simp
    have hU2 : Up W1 W2 := by rw [← hW2]; exact (Below.refl _ _).alloc (Nat.le_refl _) _
    have hB2 : Below w.heap.size w W2 := Below.trans hB1 (Below.mono hU2 hs1)
    have hb2 : NumBox W2 w.heap.size true (.slice A n1 c1) := (hU2.block _ hlt1).trans hb1
    have hbld2 := bld_up hbld1 hU2
    have hx2 := hx.below hB2
    gi_wp2_with (refine ⟨trivial, ?_⟩; gi_at_call 156; refine (backw_in Fence.wide 4 trivial rfl _ _ _ _).mono ?_; rintro e w' ⟨rfl, rfl⟩)
    clear hW0 hU2 k0 k1
    refine' wpIn_rangeFunc_ownG hro (by omega) (gf := 177) (lb := #[.pointer (some ⟨W1.heap.size, 0, none⟩)]) rfl trivial (enters_of Tryz.func177 (by kernel_rfl) rfl)
      (backw_stops Fence.wide 4 trivial rfl (by omega) W1.heap.size w.heap.size A n1 c1 zs (by omega) W2 (by omega) bA.cell hx2 ?hbl) (fun h k => h.t k) (KpB.b (by omega)) (Below.refl _ _) (fun _ => rfl)
      (fun pre W => (NumBox W w.heap.size true (.slice A n1 c1) ∧ Boxed W W1.heap.size 162 (.slice A n1 c1) ∧ ∃ l : List UInt8, Lib.IsBuilder 185 5 w.heap.size (w.heap.size + 1) (Lib.byteCells (([45] : List UInt8) ++ l)) W ∧ l.length ≤ 9 * pre.length ∧ Hid (∀ k, bkV zs pre = bkL zs k → WrittenTo zs n1 k l)) ∧ Below w.heap.size w W)
      (fun _ _ _ => False)
      (OwnFrom.and (fun s W W' row hs hg hr => by
        obtain ⟨h1, hq, l, h2, h3⟩ := hs
        have hr' := fun r e => (hr r e).2
        exact ⟨cells_own h1 rfl hg hr', cells_own hq rfl hg hr', l, bld_is_own h2 hg hr', h3⟩) (ownFrom_below (Nat.le_refl _) (by omega)))
      (fun _ _ _ _ _ hs _ _ => hs)
      ⟨⟨hb2, bA, [], hbld2, Nat.le_refl _, Lib.hid ?hinit⟩, hB2⟩
      _ ?assign ?body ?done ?stop
    case hbl =>
      intro b off e
      obtain ⟨b', off', e', hlt, _⟩ := hx.cell hn
      rw [e] at e'; cases e'; exact hlt
    case hinit =>
      intro k hk
      have hk0 : k = 0 := by have := congrArg List.length hk; rw [bkV_len, bkL_length] at this; simpa using this.symm
      subst hk0
      rfl
    case assign =>
      intro l x W K hK
      gi_wp2
      exact hK
    case body =>
      rintro l pre x W ⟨⟨h1, hq, t, h2, h4, h3⟩, hB⟩ hpl
      have hEW := hE.up hB
      have hsW := hB.size
      have hxi : x.1.1 < n1 := Nat.lt_of_lt_of_eq x.2.1 hx.len
      have HDX := Lib.hid x.2.2
      obtain ⟨u, hu, hu9⟩ : ∃ u : Nat, x.1.2 = u ∧ u < 1000000000 := ⟨x.1.2.toNat, by have := dt_bd hxc.1 x.1.1; have := x.2.2; omega, by have := dt_bd hxc.1 x.1.1; have := x.2.2; omega⟩
      have HU := Lib.hid hu
      have hpm := mkB_size (decDigits u)
      have hlen := dec_len9 hu9
      by_cases hi : x.1.1 < n1 - 1
      · gi_wp2_with fail
        refine ⟨trivial, ?_⟩
        refine (CallsIn.inRound l (callsIn_wide.2 (fmt_c u _ hEW (by omega)))).mono ?_
        rintro _ W3 ⟨rfl, hU3⟩
        have g1 : NumBox W3 w.heap.size true (.slice A n1 c1) := (hU3.block _ (Array.getElem?_eq_some_iff.1 h1).1).trans h1
        have gq : Boxed W3 W1.heap.size 162 (.slice A n1 c1) := (hU3.block _ (Array.getElem?_eq_some_iff.1 hq).1).trans hq
        have d2 : W3.cell? ⟨w.heap.size, 1, none⟩ = some (.slice A n1 c1) := by rw [Lib.cell_of_heap g1]; rfl
        have hz := zeros_cut u
        gi_wp2_with fail
        refine ⟨trivial, ?_⟩
        refine (CallsIn.inRound l (callsIn_wide.2 (bld_str w.heap.size (w.heap.size + 1) _ _ _ (bld_up h2 hU3) (by rw [Lib.byteCells_length, List.length_append, mkB_size, List.length_replicate]; simp only [List.length_singleton]; omega) (by have := hU3.size; omega)))).mono ?_
        rintro _ W4 ⟨rfl, hb4, hB4, hk4⟩
        gi_wp2_with fail
        refine ⟨trivial, ?_⟩
        refine (CallsIn.inRound l (callsIn_wide.2 (bld_str w.heap.size (w.heap.size + 1) _ _ _ (.inr hb4) (by rw [List.length_append, Lib.byteCells_length, Lib.strCells_length, List.length_append, mkB_size, mkB_size, List.length_replicate]; simp only [List.length_singleton]; omega) (by have := hU3.size; have := hB4.size; omega)))).mono ?_
        rintro _ W5 ⟨rfl, hb5, hB5, hk5⟩
        gi_wp2_with fail
        refine ⟨KeepsOthers.from (((keeps_up hU3).trans (keeps_bld (bld_up h2 hU3) hk4 hB4.size)).trans (keeps_bld (.inr hb4) hk5 hB5.size)) _, ⟨?_, fun v hv => ?_⟩, ⟨num_kept (num_kept g1 hk4 (by omega)) hk5 (by omega), box_kept (box_kept gq hk4 (by omega)) hk5 (by omega), t ++ pad9 u, ?_, ?_, Lib.hid fun k hk => ?_⟩, ?_⟩
        · exact (Below.trans (Below.mono hU3 hsW) hB4).trans hB5
        · have e1 : W.cell? ⟨W1.heap.size, 0, none⟩ = some (.slice A n1 c1) := Boxed.cell hq
          rw [e1] at hv; cases hv
          exact Boxed.cell (box_kept (box_kept gq hk4 (by omega)) hk5 (by omega))
        · rw [bytes_app2] at hb5
          exact .inr hb5
        · have := pad9_len hu9
          rw [List.length_append, List.length_append, List.length_singleton]; omega
        · have := written_next hxc hx.len h3.out HU.out hu9 hpl k hk
          rwa [if_pos hi] at this
        · exact hB.trans ((Below.trans (Below.mono hU3 hsW) hB4).trans hB5)
      · gi_wp2_with fail
        refine ⟨trivial, ?_⟩
        refine (CallsIn.inRound l (callsIn_wide.2 (fmt_c u _ hEW (by omega)))).mono ?_
        rintro _ W3 ⟨rfl, hU3⟩
        have g1 : NumBox W3 w.heap.size true (.slice A n1 c1) := (hU3.block _ (Array.getElem?_eq_some_iff.1 h1).1).trans h1
        have gq : Boxed W3 W1.heap.size 162 (.slice A n1 c1) := (hU3.block _ (Array.getElem?_eq_some_iff.1 hq).1).trans hq
        have d2 : W3.cell? ⟨w.heap.size, 1, none⟩ = some (.slice A n1 c1) := by rw [Lib.cell_of_heap g1]; rfl
        gi_wp2_with fail
        refine ⟨trivial, ?_⟩
        refine (CallsIn.inRound l (callsIn_wide.2 (bld_str w.heap.size (w.heap.size + 1) _ _ _ (bld_up h2 hU3) (by rw [Lib.byteCells_length, List.length_append, mkB_size]; simp only [List.length_singleton]; omega) (by have := hU3.size; omega)))).mono ?_
        rintro _ W4 ⟨rfl, hb4, hB4, hk4⟩
        gi_wp2_with fail
        refine ⟨KeepsOthers.from ((keeps_up hU3).trans (keeps_bld (bld_up h2 hU3) hk4 hB4.size)) _, ⟨?_, fun v hv => ?_⟩, ⟨num_kept g1 hk4 (by omega), box_kept gq hk4 (by omega), t ++ decDigits u, ?_, ?_, Lib.hid fun k hk => ?_⟩, ?_⟩
        · exact Below.trans (Below.mono hU3 hsW) hB4
        · have e1 : W.cell? ⟨W1.heap.size, 0, none⟩ = some (.slice A n1 c1) := Boxed.cell hq
          rw [e1] at hv; cases hv
          exact Boxed.cell (box_kept gq hk4 (by omega))
        · rw [bytes_app1] at hb4
          exact .inr hb4
        · rw [List.length_append, List.length_append, List.length_singleton]; omega
        · have := written_next hxc hx.len h3.out HU.out hu9 hpl k hk
          rwa [if_neg hi] at this
        · exact hB.trans (Below.trans (Below.mono hU3 hsW) hB4)
    case done =>
      rintro D ys W hD hys ⟨⟨h1, hq, t, h2, h4, h3⟩, hB⟩ hK
      have hw := h3.out n1 hys
      unfold WrittenTo at hw
      rw [if_neg (by omega), Nat.sub_self, List.drop_zero] at hw
      obtain ⟨v, hv, hval, rfl⟩ := hw
      have hne : ([45] : List UInt8) ++ decDigits v ≠ [] := by simp
      have hfin : (⟨(([45] : List UInt8) ++ decDigits v).toArray⟩ : ByteArray) = iB (-val 1000000000 zs) := by
        rw [hval]; unfold iB; rw [itoa_neg (by omega), Int.natAbs_neg, Int.natAbs_natCast]; rfl
      clear hval
      gi_wp2_with fail
      refine ⟨trivial, ?_⟩
      refine (callsIn_wide.2 (bld_string w.heap.size (w.heap.size + 1) _ _ h2 hne)).mono ?_
      rintro _ W5 ⟨rfl, hB5, hk5⟩
      have hKD : W5.heap[D]? = some (.deferred (some [])) := hk5 D _ hK (fun e => by cases e; omega) (fun c fz e => by cases e)
      rw [hfin]
      gi_wp2_with fail
      refine ⟨by simp, .inl ⟨_, _, rfl, run_takeDeferred hKD, ?_⟩⟩
      refine ⟨.string (iB (-val 1000000000 zs)), ?_, rfl, (hB.trans hB5).trans (belowK_b (w := w) (Nat.le_refl _) _ D _ _ (by have := hB1.size; omega) hKD rfl rfl)⟩
      simp [results, Tryz.f137, go_sem]
    case stop =>
      rintro D c pre W _ _ h _
      exact h.elim

theorem close_c (m : Bool) (v : Value) (N : Nat) (x : Int) (w : World) (hE : Env w) (hx : BigV N w v x) (hN : N ≤ 100000000) : Calls Tryz.prog 137 #[.agg #[.bool m, v]] w (Ret w (.string (iB (if m then -x else x)))) := by
  obtain ⟨A, n, c, zs, rfl, hr, hc, rfl, hn⟩ := hx
  rcases Nat.eq_zero_or_pos n with h0 | h0
  · subst h0
    have hz : zs = [] := List.eq_nil_of_length_eq_zero hr.len
    subst hz
    have e : (if m then -val 1000000000 [] else val 1000000000 []) = 0 := by rw [val_nil]; cases m <;> rfl
    rw [e]
    exact close_zero m A c w
  · exact close_pos m A n c zs w hE hr hc h0 (by omega)
end Go.Proofs.Klp
/- Products and sums of the program's integers. -/
namespace Go.Proofs.Klp
open Go.RowKit Go.Shelf
open Go.Lib (decDigits itoa)
attribute [local go_sem] Oper.semAt_some

theorem num_below {W W' : World} {B : Nat} {m : Bool} {v : Value} (h : NumBox W B m v) (hU : Up W W') : NumBox W' B m v :=
  (hU.block _ (Array.getElem?_eq_some_iff.1 h).1).trans h
theorem NumBox.c0 {W : World} {B : Nat} {m : Bool} {v : Value} (h : NumBox W B m v) : W.cell? ⟨B, 0, none⟩ = some (.bool m) := by rw [Lib.cell_of_heap h]; rfl
theorem NumBox.c1 {W : World} {B : Nat} {m : Bool} {v : Value} (h : NumBox W B m v) : W.cell? ⟨B, 1, none⟩ = some v := by rw [Lib.cell_of_heap h]; rfl
theorem NumBox.f0 {W : World} {B : Nat} {m : Bool} {v : Value} (h : NumBox W B m v) : W.frozen? ⟨B, 0, none⟩ = false := Lib.frozen_of_heap h 0
theorem NumBox.f1 {W : World} {B : Nat} {m : Bool} {v : Value} (h : NumBox W B m v) : W.frozen? ⟨B, 1, none⟩ = false := Lib.frozen_of_heap h 1
theorem ilen_of_size {n : Int} {k : Nat} (h : (iB n).size ≤ k) : ilen n ≤ k := Nat.le_trans (ilen_le_size n) h
theorem abs_lt_of_size {n : Int} {k : Nat} (hk : 1 ≤ k) (h : (iB n).size ≤ k) : n.natAbs < 10 ^ k := (dec_len_le hk).1 (ilen_of_size h)

theorem mul_sgn (a b : Int) : (if (decide (a < 0) != decide (b < 0)) = true then -((a.natAbs : Int) * (b.natAbs : Int)) else (a.natAbs : Int) * (b.natAbs : Int)) = a * b := by
  rcases Int.lt_or_le a 0 with ha | ha <;> rcases Int.lt_or_le b 0 with hb | hb
  · rw [show (a.natAbs : Int) = -a by omega, show (b.natAbs : Int) = -b by omega]; simp [ha, hb, Int.neg_mul_neg]
  · rw [show (a.natAbs : Int) = -a by omega, show (b.natAbs : Int) = b by omega]; simp [ha, Int.not_lt.2 hb, Int.neg_mul]
  · rw [show (a.natAbs : Int) = a by omega, show (b.natAbs : Int) = -b by omega]; simp [hb, Int.not_lt.2 ha, Int.mul_neg]
  · rw [show (a.natAbs : Int) = a by omega, show (b.natAbs : Int) = b by omega]; simp [Int.not_lt.2 ha, Int.not_lt.2 hb]
/-- two numbers that are laid into blocks of their own -/
def lay2 (w : World) (m1 : Bool) (v1 : Value) (m2 : Bool) (v2 : Value) : World :=
  (w.alloc (.cells #[.bool m1, v1] 164)).alloc (.cells #[.bool m2, v2] 164)
theorem lay2_facts (w : World) (m1 : Bool) (v1 : Value) (m2 : Bool) (v2 : Value) : NumBox (lay2 w m1 v1 m2 v2) w.heap.size m1 v1 ∧ NumBox (lay2 w m1 v1 m2 v2) (w.heap.size + 1) m2 v2 ∧ Up w (lay2 w m1 v1 m2 v2) := by
  refine ⟨(Lib.alloc_old _ _ _ (by simp)).trans (heap_alloc_new w _), ?_, ((Below.refl _ w).alloc (Nat.le_refl _) _).alloc (by simp) _⟩
  have := heap_alloc_new (w.alloc (.cells #[.bool m1, v1] 164)) (.cells #[.bool m2, v2] 164)
  rwa [World.size_alloc] at this
theorem num_set0 {W : World} {B : Nat} {m : Bool} {v : Value} (h : NumBox W B m v) (m' : Bool) : NumBox (W.setCell ⟨B, 0, none⟩ (.bool m')) B m' v := heap_setCell_same W B 0 _ _ (.bool m') h
theorem num_set1 {W : World} {B : Nat} {m : Bool} {v : Value} (h : NumBox W B m v) (v' : Value) : NumBox (W.setCell ⟨B, 1, none⟩ v') B m v' := heap_setCell_same W B 1 _ _ v' h
theorem num_other {W : World} {B : Nat} {m : Bool} {v : Value} (h : NumBox W B m v) {B' : Nat} (hne : B ≠ B') (i : Nat) (u : Value) : NumBox (W.setCell ⟨B', i, none⟩ u) B m v :=
  (heap_setCell_other W ⟨B', i, none⟩ B u hne).trans h
theorem close_mul (a b : Int) (v : Value) (N : Nat) (w : World) (hE : Env w) (hx : BigV N w v ((a.natAbs : Int) * (b.natAbs : Int))) (hN : N ≤ 100000000) :
    Calls Tryz.prog 137 #[.agg #[.bool (decide (a < 0) != decide (b < 0)), v]] w (Ret w (.string (iB (a * b)))) := by
  have h := close_c (decide (a < 0) != decide (b < 0)) v N _ w hE hx hN
  rwa [mul_sgn] at h
theorem BigV.up {N : Nat} {w w' : World} {v : Value} {x : Int} (h : BigV N w v x) (hb : Up w w') : BigV N w' v x := h.below hb

set_option maxRecDepth 100000 in
set_option maxHeartbeats 4000000 in
theorem int_mul (a b : Int) (w : World) (hE : Env w) (ha : ilen a ≤ 10000000) (hb : ilen b ≤ 10000000) : Calls Tryz.prog 115 #[.string (iB a), .string (iB b)] w (Ret w (.string (iB (a * b)))) := by
  have hU := Up.refl w
  by_cases hq : (iB a).size ≤ 9 ∧ (iB b).size ≤ 9
  · have h1 := abs_lt_of_size (by omega) hq.1
    have h2 := abs_lt_of_size (by omega) hq.2
    have h3 : (a * b).natAbs < 1000000000000000000 := by rw [Int.natAbs_mul]; exact Nat.mul_lt_mul'' h1 h2
    go_enter Tryz.func115, Tryz.ntmps115
    go_wp2_with fail
    refine (int_quick_yes a 9 _ (by omega) (by omega)).mono ?_
    rintro _ _ ⟨rfl, hX⟩; replace hU := Up.trans hU hX; replace hE := Env.up hE hX; clear hX
    go_wp2_with fail
    refine (int_quick_yes b 9 _ (by omega) (by omega)).mono ?_
    rintro _ _ ⟨rfl, hX⟩; replace hU := Up.trans hU hX; replace hE := Env.up hE hX; clear hX
    go_wp2_with fail
    refine (int_of (a * b) _ hE (by omega) (by omega)).mono ?_
    rintro _ _ ⟨rfl, hX⟩; replace hU := Up.trans hU hX; clear hX
    go_wp2
    go_ret
    exact ⟨rfl, hU⟩
  · go_enter Tryz.func115, Tryz.ntmps115
    by_cases hqa : (iB a).size ≤ 9
    case' pos =>
      go_wp2_with fail
      refine (int_quick_yes a 9 _ (by omega) (by omega)).mono ?_
      rintro _ _ ⟨rfl, hX⟩; replace hU := Up.trans hU hX; replace hE := Env.up hE hX; clear hX
      go_wp2_with fail
      refine (int_quick_no b 9 _ (by omega)).mono ?_
      rintro _ _ ⟨rfl, hX⟩; replace hU := Up.trans hU hX; replace hE := Env.up hE hX; clear hX
    case' neg =>
      go_wp2_with fail
      refine (int_quick_no a 9 _ (by omega)).mono ?_
      rintro _ _ ⟨rfl, hX⟩; replace hU := Up.trans hU hX; replace hE := Env.up hE hX; clear hX
    all_goals
      go_wp2_with fail
      refine (int_open a _ ha).mono ?_
      rintro _ w2 ⟨_, rfl, ⟨A1, n1, c1, xs, rfl, hr1, hc1, hv1, hn1⟩, hU2⟩
      go_wp2_with fail
      refine (int_open b _ hb).mono ?_
      rintro _ w3 ⟨_, rfl, ⟨A2, n2, c2, ys, rfl, hr2, hc2, hv2, hn2⟩, hU3⟩
      go_wp2_with fail
      have hU4 : Up w w3 := ((hU.trans hU2).trans hU3)
      obtain ⟨l1, l2, l3⟩ := lay2_facts w3 (decide (a < 0)) (.slice A1 n1 c1) (decide (b < 0)) (.slice A2 n2 c2)
      obtain ⟨W4, hW4⟩ : ∃ W4, lay2 w3 (decide (a < 0)) (.slice A1 n1 c1) (decide (b < 0)) (.slice A2 n2 c2) = W4 := ⟨_, rfl⟩
      rw [hW4] at l1 l2 l3
      change Code.wp _ _ _ _ (lay2 w3 (decide (a < 0)) (.slice A1 n1 c1) (decide (b < 0)) (.slice A2 n2 c2))
      rw [hW4]
      have hE4 : Env W4.drew := (hE.up ((hU2.trans hU3).trans l3)).up ((Up.refl _).drewN 1)
      have hx4 : BigV n1 W4.drew (.slice A1 n1 c1) a.natAbs := BigV.up (w := w2) ⟨A1, n1, c1, xs, rfl, hr1, hc1, hv1, Nat.le_refl _⟩ ((hU3.trans l3).drewN 1)
      have hy4 : BigV n2 W4.drew (.slice A2 n2 c2) b.natAbs := BigV.up (w := w3) ⟨A2, n2, c2, ys, rfl, hr2, hc2, hv2, Nat.le_refl _⟩ (l3.drewN 1)
      have g1 : n1 ≤ 100000000 := by omega
      have g2 : n2 ≤ 100000000 := by omega
      have g3 : n1 + n2 + 1 ≤ 100000000 := by omega
      have hS : ∀ W', Up W4.drew W' → W'.cell? ⟨w3.heap.size, 0, none⟩ = some (.bool (decide (a < 0))) ∧ W'.cell? ⟨w3.heap.size, 1, none⟩ = some (.slice A1 n1 c1) ∧ W'.cell? ⟨w3.heap.size + 1, 0, none⟩ = some (.bool (decide (b < 0))) ∧ W'.cell? ⟨w3.heap.size + 1, 1, none⟩ = some (.slice A2 n2 c2) := fun W' h =>
        have k1 := num_below (W := W4.drew) l1 h
        have k2 := num_below (W := W4.drew) l2 h
        ⟨k1.c0, k1.c1, k2.c0, k2.c1⟩
      have hS0 := hS _ (Up.refl _)
      refine wp_region_noPanic ?_
      go_region_held3 (fun W' => W'.cell? ⟨w3.heap.size, 0, none⟩ = some (.bool (decide (a < 0))) ∧ W'.cell? ⟨w3.heap.size, 1, none⟩ = some (.slice A1 n1 c1) ∧ W'.cell? ⟨w3.heap.size + 1, 0, none⟩ = some (.bool (decide (b < 0))) ∧ W'.cell? ⟨w3.heap.size + 1, 1, none⟩ = some (.slice A2 n2 c2)) (first | exact hS0 | exact hS _ hX1 | exact hS _ (Up.trans hX1 hX2))
        (first | (go_at_call 140; refine (times_v _ _ _ _ _ _ _ hx4 hy4 g1 g2).mono ?_; rintro e w5 ⟨_, rfl, ⟨A3, n3, c3, us, rfl, hr3, hc3, hv3, hn3⟩, hX1⟩) | (go_at_call 137; refine (close_mul a b _ _ _ (Env.up hE4 hX1) ⟨A3, n3, c3, us, rfl, hr3, hc3, hv3, hn3⟩ g3).mono ?_; rintro e w6 ⟨rfl, hX2⟩))
      refine NoPanic.normal ?_
      go_wp2
      go_ret
      exact ⟨rfl, ((((hU.trans hU2).trans hU3).trans (l3.drewN 1)).trans hX1).trans hX2⟩
end Go.Proofs.Klp
/- Sums of the program's integers. -/
namespace Go.Proofs.Klp
open Go.RowKit Go.Shelf
open Go.Lib (decDigits itoa)
attribute [local go_sem] Oper.semAt_some

theorem sgn_add {a b : Int} {m : Bool} (ha : decide (a < 0) = m) (hb : decide (b < 0) = m) : (if m = true then -((a.natAbs : Int) + (b.natAbs : Int)) else (a.natAbs : Int) + (b.natAbs : Int)) = a + b := by
  cases m with
  | true => have := of_decide_eq_true ha; have := of_decide_eq_true hb; rw [if_pos rfl]; omega
  | false => have := of_decide_eq_false ha; have := of_decide_eq_false hb; rw [if_neg (by simp)]; omega
theorem sgn_sub {a b : Int} {m m' : Bool} (ha : decide (a < 0) = m) (hb : decide (b < 0) = m') (hne : m ≠ m') : (if m = true then -((a.natAbs : Int) - (b.natAbs : Int)) else (a.natAbs : Int) - (b.natAbs : Int)) = a + b := by
  cases m with
  | true =>
    cases m' with
    | true => exact absurd rfl hne
    | false => have := of_decide_eq_true ha; have := of_decide_eq_false hb; rw [if_pos rfl]; omega
  | false =>
    cases m' with
    | false => exact absurd rfl hne
    | true => have := of_decide_eq_false ha; have := of_decide_eq_true hb; rw [if_neg (by simp)]; omega
/-- close, by what the sign makes of the magnitude -/
theorem close_to {m : Bool} {x r : Int} (h : (if m = true then -x else x) = r) (v : Value) (N : Nat) (w : World) (hE : Env w) (hx : BigV N w v x) (hN : N ≤ 100000000) :
    Calls Tryz.prog 137 #[.agg #[.bool m, v]] w (Ret w (.string (iB r))) := h ▸ close_c m v N x w hE hx hN
/-- open, its sign a letter -/
theorem int_open' (n : Int) (w : World) (hn : ilen n ≤ 10000000) : Calls Tryz.prog 135 #[.string (iB n)] w fun e w' => ∃ m A k c zs, e = .returned (.agg #[.bool m, .slice A k c]) ∧ Hid (decide (n < 0) = m ∧ val 1000000000 zs = n.natAbs ∧ Can 1000000000 zs) ∧ Rd .u64 w' A k c zs ∧ k ≤ ilen n ∧ Up w w' := by
  refine (int_open n w hn).mono ?_
  rintro e w' ⟨_, rfl, ⟨A, k, c, zs, rfl, hr, hc, hv, hk⟩, hU⟩
  exact ⟨_, A, k, c, zs, rfl, Lib.hid ⟨rfl, hv, hc⟩, hr, hk, hU⟩

set_option maxRecDepth 100000 in
set_option maxHeartbeats 6000000 in
theorem int_add (a b : Int) (w : World) (hE : Env w) (ha : ilen a ≤ 10000000) (hb : ilen b ≤ 10000000) : Calls Tryz.prog 114 #[.string (iB a), .string (iB b)] w (Ret w (.string (iB (a + b)))) := by
  have hU := Up.refl w
  by_cases hq : (iB a).size ≤ 18 ∧ (iB b).size ≤ 18
  · have h1 := abs_lt_of_size (by omega) hq.1
    have h2 := abs_lt_of_size (by omega) hq.2
    go_enter Tryz.func114, Tryz.ntmps114
    go_wp2_with fail
    refine (int_quick_yes a 18 _ (by omega) (by omega)).mono ?_
    rintro _ _ ⟨rfl, hX⟩; replace hU := Up.trans hU hX; replace hE := Env.up hE hX; clear hX
    go_wp2_with fail
    refine (int_quick_yes b 18 _ (by omega) (by omega)).mono ?_
    rintro _ _ ⟨rfl, hX⟩; replace hU := Up.trans hU hX; replace hE := Env.up hE hX; clear hX
    go_wp2_with fail
    refine (int_of (a + b) _ hE (by omega) (by omega)).mono ?_
    rintro _ _ ⟨rfl, hX⟩; replace hU := Up.trans hU hX; clear hX
    go_wp2
    go_ret
    exact ⟨rfl, hU⟩
  · go_enter Tryz.func114, Tryz.ntmps114
    by_cases hqa : (iB a).size ≤ 18
    case' pos =>
      go_wp2_with fail
      refine (int_quick_yes a 18 _ (by omega) (by omega)).mono ?_
      rintro _ _ ⟨rfl, hX⟩; replace hU := Up.trans hU hX; replace hE := Env.up hE hX; clear hX
      go_wp2_with fail
      refine (int_quick_no b 18 _ (by omega)).mono ?_
      rintro _ _ ⟨rfl, hX⟩; replace hU := Up.trans hU hX; replace hE := Env.up hE hX; clear hX
    case' neg =>
      go_wp2_with fail
      refine (int_quick_no a 18 _ (by omega)).mono ?_
      rintro _ _ ⟨rfl, hX⟩; replace hU := Up.trans hU hX; replace hE := Env.up hE hX; clear hX
    all_goals
      go_wp2_with fail
      refine (int_open' a _ ha).mono ?_
      rintro _ w2 ⟨ma, A1, n1, c1, xs, rfl, H1, hr1, hn1, hU2⟩
      go_wp2_with fail
      refine (int_open' b _ hb).mono ?_
      rintro _ w3 ⟨mb, A2, n2, c2, ys, rfl, H2, hr2, hn2, hU3⟩
      have hE3 : Env w3 := hE.up (hU2.trans hU3)
      have hU4 : Up w w3 := ((hU.trans hU2).trans hU3)
      obtain ⟨l1, l2, l3⟩ := lay2_facts w3 ma (.slice A1 n1 c1) mb (.slice A2 n2 c2)
      obtain ⟨W4, hW4⟩ : ∃ W4, lay2 w3 ma (.slice A1 n1 c1) mb (.slice A2 n2 c2) = W4 := ⟨_, rfl⟩
      rw [hW4] at l1 l2 l3
      have hx4 := hr1.below (hU3.trans l3)
      have hy4 := hr2.below l3
      go_upto_region 7 with fail
      change Code.wp _ _ _ _ (lay2 w3 ma (.slice A1 n1 c1) mb (.slice A2 n2 c2))
      rw [hW4]
      have k1 := l1.c0
      have k2 := l1.c1
      have k3 := l2.c0
      have k4 := l2.c1
      clear hW4 hqa hq
      have g3 : n1 + n2 + 1 ≤ 100000000 := by omega
      have g4 : n1 ≤ 100000000 := by omega
      have g5 : n2 ≤ 100000000 := by omega
      by_cases hs : ma = mb
      · subst hs
        go_wp2_with fail
        have hE5 : Env W4.drew := (hE3.up l3).up ((Up.refl _).drewN 1)
        have hx5 : BigV n1 W4.drew (.slice A1 n1 c1) a.natAbs := ⟨A1, n1, c1, xs, rfl, hx4.drew, H1.out.2.2, H1.out.2.1, Nat.le_refl _⟩
        have hy5 : BigV n2 W4.drew (.slice A2 n2 c2) b.natAbs := ⟨A2, n2, c2, ys, rfl, hy4.drew, H2.out.2.2, H2.out.2.1, Nat.le_refl _⟩
        have hsg := Lib.hid (sgn_add H1.out.1 H2.out.1)
        have hS : ∀ W', Up W4.drew W' → W'.cell? ⟨w3.heap.size, 0, none⟩ = some (.bool ma) ∧ W'.cell? ⟨w3.heap.size, 1, none⟩ = some (.slice A1 n1 c1) ∧ W'.cell? ⟨w3.heap.size + 1, 0, none⟩ = some (.bool ma) ∧ W'.cell? ⟨w3.heap.size + 1, 1, none⟩ = some (.slice A2 n2 c2) := fun W' h =>
          have k1 := num_below (W := W4.drew) l1 h
          have k2 := num_below (W := W4.drew) l2 h
          ⟨k1.c0, k1.c1, k2.c0, k2.c1⟩
        have hS0 := hS _ (Up.refl _)
        refine wp_region_noPanic ?_
        go_region_held3 (fun W' => W'.cell? ⟨w3.heap.size, 0, none⟩ = some (.bool ma) ∧ W'.cell? ⟨w3.heap.size, 1, none⟩ = some (.slice A1 n1 c1) ∧ W'.cell? ⟨w3.heap.size + 1, 0, none⟩ = some (.bool ma) ∧ W'.cell? ⟨w3.heap.size + 1, 1, none⟩ = some (.slice A2 n2 c2)) (first | exact hS0 | exact hS _ hX1 | exact hS _ (Up.trans hX1 hX2))
          (first | (go_at_call 136; refine (plus_v _ _ _ _ _ _ _ hx5 hy5 g4 g5).mono ?_; rintro e w5 ⟨_, rfl, ⟨A3, n3, c3, us, rfl, hr3, hc3, hv3, hn3⟩, hX1⟩) | (go_at_call 137; refine (close_to hsg.out _ _ _ (Env.up hE5 hX1) ⟨A3, n3, c3, us, rfl, hr3, hc3, hv3, hn3⟩ g3).mono ?_; rintro e w6 ⟨rfl, hX2⟩))
        refine NoPanic.normal ?_
        go_wp2
        go_ret
        exact ⟨rfl, ((hU4.trans (l3.drewN 1)).trans hX1).trans hX2⟩
      · have hBx : BigV n1 W4 (.slice A1 n1 c1) a.natAbs := ⟨A1, n1, c1, xs, rfl, hx4, H1.out.2.2, H1.out.2.1, Nat.le_refl _⟩
        have hBy : BigV n2 W4 (.slice A2 n2 c2) b.natAbs := ⟨A2, n2, c2, ys, rfl, hy4, H2.out.2.2, H2.out.2.1, Nat.le_refl _⟩
        have hs' : (ma == mb) = false := beq_false_of_ne hs
        go_wp2_with fail
        refine (order_v _ _ _ _ _ _ _ hBx hBy g4 g5).mono ?_
        rintro _ _ ⟨rfl, nd, rfl⟩
        have l1' : NumBox (W4.drewN nd) w3.heap.size ma (.slice A1 n1 c1) := l1
        have l2' : NumBox (W4.drewN nd) (w3.heap.size + 1) mb (.slice A2 n2 c2) := l2
        obtain ⟨W5, hW5⟩ : ∃ W5, W4.drewN nd = W5 := ⟨_, rfl⟩
        have hU5 : Up W4 W5 := hW5 ▸ (Up.refl _).drewN nd
        rw [hW5] at l1' l2' ⊢
        have p1 := l1'.c0
        have p2 := l1'.c1
        have p3 := l2'.c0
        have p4 := l2'.c1
        have q1 := l1'.f0
        have q2 := l1'.f1
        have q3 := l2'.f0
        have q4 := l2'.f1
        clear k1 k2 k3 k4 hW5
        by_cases hlt : cmpI (a.natAbs : Int) (b.natAbs : Int) < 0
        · have hle : (a.natAbs : Int) ≤ (b.natAbs : Int) := Int.le_of_lt (cmpI_neg hlt)
          have HLE := Lib.hid hle
          go_upto_region 11 with fail
          have hne : w3.heap.size ≠ w3.heap.size + 1 := by omega
          have m1 := num_other (num_other (num_set1 (num_set0 l1' mb) (.slice A2 n2 c2)) hne 0 (.bool ma)) hne 1 (.slice A1 n1 c1)
          have m2 := num_set1 (num_set0 (num_other (num_other l2' hne.symm 0 (.bool mb)) hne.symm 1 (.slice A2 n2 c2)) ma) (.slice A1 n1 c1)
          have hU6 : Up w3 ((((W5.setCell ⟨w3.heap.size, 0, none⟩ (.bool mb)).setCell ⟨w3.heap.size, 1, none⟩ (.slice A2 n2 c2)).setCell ⟨w3.heap.size + 1, 0, none⟩ (.bool ma)).setCell ⟨w3.heap.size + 1, 1, none⟩ (.slice A1 n1 c1)) := (((Below.setCell (Up.trans l3 hU5) (p := ⟨w3.heap.size, 0, none⟩) (Nat.le_refl _) _).setCell (p := ⟨w3.heap.size, 1, none⟩) (Nat.le_refl _) _).setCell (p := ⟨w3.heap.size + 1, 0, none⟩) (by simp) _).setCell (p := ⟨w3.heap.size + 1, 1, none⟩) (by simp) _
          obtain ⟨W6, hW6⟩ : ∃ W6, (((W5.setCell ⟨w3.heap.size, 0, none⟩ (.bool mb)).setCell ⟨w3.heap.size, 1, none⟩ (.slice A2 n2 c2)).setCell ⟨w3.heap.size + 1, 0, none⟩ (.bool ma)).setCell ⟨w3.heap.size + 1, 1, none⟩ (.slice A1 n1 c1) = W6 := ⟨_, rfl⟩
          rw [hW6] at m1 m2 hU6 ⊢
          clear p1 p2 p3 p4 q1 q2 q3 q4 hW6
          have hE5 : Env W6.drew := (hE3.up hU6).up ((Up.refl _).drewN 1)
          have hx5 : BigV n1 W6.drew (.slice A1 n1 c1) a.natAbs := BigV.up (w := w3) ⟨A1, n1, c1, xs, rfl, hr1.below hU3, H1.out.2.2, H1.out.2.1, Nat.le_refl _⟩ (hU6.drewN 1)
          have hy5 : BigV n2 W6.drew (.slice A2 n2 c2) b.natAbs := BigV.up (w := w3) ⟨A2, n2, c2, ys, rfl, hr2, H2.out.2.2, H2.out.2.1, Nat.le_refl _⟩ (hU6.drewN 1)
          have hsg := Lib.hid (sgn_sub H2.out.1 H1.out.1 (Ne.symm hs))
          rw [Int.add_comm b a] at hsg
          have hS : ∀ W', Up W6.drew W' → W'.cell? ⟨w3.heap.size, 0, none⟩ = some (.bool mb) ∧ W'.cell? ⟨w3.heap.size, 1, none⟩ = some (.slice A2 n2 c2) ∧ W'.cell? ⟨w3.heap.size + 1, 0, none⟩ = some (.bool ma) ∧ W'.cell? ⟨w3.heap.size + 1, 1, none⟩ = some (.slice A1 n1 c1) := fun W' h =>
            have k1 := num_below (W := W6.drew) m1 h
            have k2 := num_below (W := W6.drew) m2 h
            ⟨k1.c0, k1.c1, k2.c0, k2.c1⟩
          have hS0 := hS _ (Up.refl _)
          refine wp_region_noPanic ?_
          go_region_held3 (fun W' => W'.cell? ⟨w3.heap.size, 0, none⟩ = some (.bool mb) ∧ W'.cell? ⟨w3.heap.size, 1, none⟩ = some (.slice A2 n2 c2) ∧ W'.cell? ⟨w3.heap.size + 1, 0, none⟩ = some (.bool ma) ∧ W'.cell? ⟨w3.heap.size + 1, 1, none⟩ = some (.slice A1 n1 c1)) (first | exact hS0 | exact hS _ hX1 | exact hS _ (Up.trans hX1 hX2))
            (first | (go_at_call 139; refine (minus_v _ _ _ _ _ _ _ hy5 hx5 HLE.out g5).mono ?_; rintro e w5 ⟨_, rfl, ⟨A3, n3, c3, us, rfl, hr3, hc3, hv3, hn3⟩, hX1⟩) | (go_at_call 137; refine (close_to hsg.out _ _ _ (Env.up hE5 hX1) ⟨A3, n3, c3, us, rfl, hr3, hc3, hv3, hn3⟩ g5).mono ?_; rintro e w6 ⟨rfl, hX2⟩))
          refine NoPanic.normal ?_
          go_wp2
          go_ret
          exact ⟨rfl, ((hU4.trans (hU6.drewN 1)).trans hX1).trans hX2⟩
        · clear p1 p2 p3 p4 q1 q2 q3 q4
          have hle : (b.natAbs : Int) ≤ (a.natAbs : Int) := cmpI_nneg hlt
          have hE5 : Env W5.drew := ((hE3.up l3).up hU5).up ((Up.refl _).drewN 1)
          have hx5 : BigV n1 W5.drew (.slice A1 n1 c1) a.natAbs := BigV.up (w := W4) hBx (hU5.drewN 1)
          have hy5 : BigV n2 W5.drew (.slice A2 n2 c2) b.natAbs := BigV.up (w := W4) hBy (hU5.drewN 1)
          have hsg := Lib.hid (sgn_sub H1.out.1 H2.out.1 hs)
          go_upto_region 11 with fail
          have hS : ∀ W', Up W5.drew W' → W'.cell? ⟨w3.heap.size, 0, none⟩ = some (.bool ma) ∧ W'.cell? ⟨w3.heap.size, 1, none⟩ = some (.slice A1 n1 c1) ∧ W'.cell? ⟨w3.heap.size + 1, 0, none⟩ = some (.bool mb) ∧ W'.cell? ⟨w3.heap.size + 1, 1, none⟩ = some (.slice A2 n2 c2) := fun W' h =>
            have k1 := num_below (W := W5.drew) l1' h
            have k2 := num_below (W := W5.drew) l2' h
            ⟨k1.c0, k1.c1, k2.c0, k2.c1⟩
          have hS0 := hS _ (Up.refl _)
          refine wp_region_noPanic ?_
          go_region_held3 (fun W' => W'.cell? ⟨w3.heap.size, 0, none⟩ = some (.bool ma) ∧ W'.cell? ⟨w3.heap.size, 1, none⟩ = some (.slice A1 n1 c1) ∧ W'.cell? ⟨w3.heap.size + 1, 0, none⟩ = some (.bool mb) ∧ W'.cell? ⟨w3.heap.size + 1, 1, none⟩ = some (.slice A2 n2 c2)) (first | exact hS0 | exact hS _ hX1 | exact hS _ (Up.trans hX1 hX2))
            (first | (go_at_call 139; refine (minus_v _ _ _ _ _ _ _ hx5 hy5 hle g4).mono ?_; rintro e w5 ⟨_, rfl, ⟨A3, n3, c3, us, rfl, hr3, hc3, hv3, hn3⟩, hX1⟩) | (go_at_call 137; refine (close_to hsg.out _ _ _ (Env.up hE5 hX1) ⟨A3, n3, c3, us, rfl, hr3, hc3, hv3, hn3⟩ g4).mono ?_; rintro e w6 ⟨rfl, hX2⟩))
          refine NoPanic.normal ?_
          go_wp2
          go_ret
          exact ⟨rfl, ((hU4.trans (l3.trans (hU5.drewN 1))).trans hX1).trans hX2⟩
end Go.Proofs.Klp
/- Greatest common divisors, and exact quotients, of the program's integers. -/
namespace Go.Proofs.Klp
open Go.RowKit Go.Shelf
open Go.Lib (decDigits itoa)
attribute [local go_sem] Oper.semAt_some

theorem val_zero_nil {zs : List Int} (h : Can 1000000000 zs) (h0 : val 1000000000 zs = 0) : zs = [] := by
  by_cases hz : zs = []
  · exact hz
  · have := h.low (by omega) hz
    have := pow_pos' (show (0 : Int) < 1000000000 by omega) (zs.length - 1)
    omega
/-- a magnitude that is not greater has no more digits -/
theorem BigV.fit {N M : Nat} {w w' : World} {v v' : Value} {x y : Int} (h : BigV N w v x) (h' : BigV M w' v' y) (hle : x ≤ y) : BigV M w v x := by
  obtain ⟨A, n, c, zs, rfl, hr, hc, rfl, hn⟩ := h
  obtain ⟨A2, n2, c2, ys, _, hr2, hc2, rfl, hn2⟩ := h'
  have := len_le_of_val hc hc2.1 hle
  exact ⟨A, n, c, zs, rfl, hr, hc, rfl, by rw [hr.len, hr2.len] at this; omega⟩
theorem tmod_gcd (x y : Int) : Int.gcd y (x.tmod y) = Int.gcd x y := by
  rw [Int.gcd_comm x y]
  have h : x = x.tmod y + y * x.tdiv y := (Int.tmod_add_mul_tdiv x y).symm
  conv => rhs; rw [h]
  rw [Int.gcd_add_mul_left_right]
theorem emod_gcd (x y : Int) : Int.gcd y (x % y) = Int.gcd x y := by
  rw [Int.gcd_comm x y]
  have h : x = x % y + y * (x / y) := (Int.emod_add_mul_ediv x y).symm
  conv => rhs; rw [h]
  rw [Int.gcd_add_mul_left_right]

theorem fld_p (m : Bool) (A : Option Addr) (n c : Nat) (W : World) : (Instr.field 164 (.agg #[.bool m, .slice A n c]) 1).run Tryz.prog W = .ok (.slice A n c) W := by kernel_rfl

set_option maxRecDepth 100000 in
set_option maxHeartbeats 4000000 in
theorem int_gcd (a b : Int) (w : World) (hE : Env w) (ha : ilen a ≤ 1000000) (hb : ilen b ≤ 1000000) : Calls Tryz.prog 121 #[.string (iB a), .string (iB b)] w (Ret w (.string (iB (Int.gcd a b)))) := by
  have hU := Up.refl w
  by_cases hq : (iB a).size ≤ 18 ∧ (iB b).size ≤ 18
  · have h1 := abs_lt_of_size (by omega) hq.1
    have h2 := abs_lt_of_size (by omega) hq.2
    go_enter Tryz.func121, Tryz.ntmps121
    go_wp2_with fail
    refine (int_quick_yes a 18 _ (by omega) (by omega)).mono ?_
    rintro _ _ ⟨rfl, hX⟩; replace hU := Up.trans hU hX; replace hE := Env.up hE hX; clear hX
    go_wp2_with fail
    refine (int_quick_yes b 18 _ (by omega) (by omega)).mono ?_
    rintro _ _ ⟨rfl, hX⟩; replace hU := Up.trans hU hX; replace hE := Env.up hE hX; clear hX
    go_wp2_with fail
    have hE0 := Lib.hid hE
    have hU0 := Lib.hid hU
    clear hE hU
    go_loopg [5, 7] b.natAbs (fun k s t wr => ∃ x y : Int, s = .int .i64 x ∧ t = .int .i64 y ∧ k = y.natAbs ∧ Hid (Int.gcd x y = Int.gcd a b) ∧ -1000000000000000000 < x ∧ x < 1000000000000000000 ∧ -1000000000000000000 < y ∧ y < 1000000000000000000 ∧ Env wr ∧ Up w wr)
    case atStart => exact ⟨a, b, rfl, rfl, rfl, Lib.hid rfl, by omega, by omega, by omega, by omega, hE0.out, hU0.out⟩
    case round =>
      obtain ⟨x, y, rfl, rfl, rfl, hg, hx0, hx1, hy0, hy1, hEr, hUr⟩ := hrel
      by_cases hy : y = 0
      · subst hy
        have hgx : Int.gcd a b = x.natAbs := by rw [← hg.out, Int.gcd_zero_right]
        have HGX := Lib.hid hgx
        have hmx : max x (-x) = (x.natAbs : Int) := by omega
        clear hgx
        go_wp2_with fail
        refine (int_of (x.natAbs : Int) _ hEr (by omega) (by omega)).mono ?_
        rintro _ w5 ⟨rfl, hX⟩
        go_wp2
        go_ret
        rw [HGX.out]
        exact ⟨rfl, hUr.trans hX⟩
      · go_wp2_with fail
        have hy9 : (y == 0) = false := beq_false_of_ne hy
        go_quiet (fail)
        go_wp2_with fail
        have hm := Int.natAbs_tmod x y
        have hml : (x.tmod y).natAbs < y.natAbs := by rw [hm]; exact Nat.mod_lt _ (by omega)
        go_roundg (x.tmod y).natAbs
        case measure => exact hml
        case rel => exact ⟨y, x.tmod y, rfl, rfl, rfl, Lib.hid ((tmod_gcd x y).trans hg.out), hy0, hy1, by omega, by omega, hEr.up ((Up.refl _).drewN _), hUr.drewN _⟩
  · go_enter Tryz.func121, Tryz.ntmps121
    by_cases hqa : (iB a).size ≤ 18
    case' pos =>
      go_wp2_with fail
      refine (int_quick_yes a 18 _ (by omega) (by omega)).mono ?_
      rintro _ _ ⟨rfl, hX⟩; replace hU := Up.trans hU hX; replace hE := Env.up hE hX; clear hX
      go_wp2_with fail
      refine (int_quick_no b 18 _ (by omega)).mono ?_
      rintro _ _ ⟨rfl, hX⟩; replace hU := Up.trans hU hX; replace hE := Env.up hE hX; clear hX
    case' neg =>
      go_wp2_with fail
      refine (int_quick_no a 18 _ (by omega)).mono ?_
      rintro _ _ ⟨rfl, hX⟩; replace hU := Up.trans hU hX; replace hE := Env.up hE hX; clear hX
    all_goals
      have hfd := fld_p
      go_wp2_with fail
      refine (int_open' a _ (by omega)).mono ?_
      rintro _ w2 ⟨ma, A1, n1, c1, xs, rfl, H1, hr1, hn1, hU2⟩
      go_wp2_with fail
      refine (int_open' b _ (by omega)).mono ?_
      rintro _ w3 ⟨mb, A2, n2, c2, ys, rfl, H2, hr2, hn2, hU3⟩
      have hE3 : Env w3 := hE.up (hU2.trans hU3)
      have hU4 : Up w w3 := ((hU.trans hU2).trans hU3)
      have hr1' := hr1.below hU3
      go_wp2_with fail
      clear hfd
      go_loopg [9, 10] b.natAbs (fun k s t wr => ∃ (x y : Nat) (A1 : Option Addr) (n1 c1 : Nat) (xs : List Int) (A2 : Option Addr) (n2 c2 : Nat) (ys : List Int), s = .slice A1 n1 c1 ∧ t = .slice A2 n2 c2 ∧ y = k ∧ Hid (Int.gcd x y = Int.gcd a b ∧ val 1000000000 xs = x ∧ Can 1000000000 xs ∧ val 1000000000 ys = y ∧ Can 1000000000 ys) ∧ Rd .u64 wr A1 n1 c1 xs ∧ Rd .u64 wr A2 n2 c2 ys ∧ n1 ≤ 1000000 ∧ n2 ≤ 1000000 ∧ Up w3 wr)
      case atStart => exact ⟨a.natAbs, b.natAbs, A1, n1, c1, xs, A2, n2, c2, ys, rfl, rfl, rfl, Lib.hid ⟨by simp [Int.gcd], H1.out.2.1, H1.out.2.2, H2.out.2.1, H2.out.2.2⟩, hr1', hr2, by omega, by omega, Up.refl _⟩
      case round =>
        obtain ⟨x, y, A1, n1, c1, xs, A2, n2, c2, ys, rfl, rfl, rfl, hg, hr1, hr2, hn1, hn2, hUr⟩ := hrel
        by_cases hy : 0 < n2
        · have hy1 : 1 ≤ (y : Int) := by
            rcases Nat.eq_zero_or_pos y with h | h
            · have := val_zero_nil hg.out.2.2.2.2 (by rw [hg.out.2.2.2.1, h]; rfl)
              have hl := hr2.len
              rw [this] at hl
              simp at hl
              omega
            · omega
          have hBx : BigV n1 wr (.slice A1 n1 c1) x := ⟨A1, n1, c1, xs, rfl, hr1, hg.out.2.2.1, hg.out.2.1, Nat.le_refl _⟩
          have hBy : BigV n2 wr (.slice A2 n2 c2) y := ⟨A2, n2, c2, ys, rfl, hr2, hg.out.2.2.2.2, hg.out.2.2.2.1, Nat.le_refl _⟩
          go_wp2_with fail
          refine (divide_any _ _ _ _ _ _ _ hBx hBy hy1 (by omega) (by omega)).mono ?_
          rintro _ w5 ⟨_, u, rfl, _, hu, hX⟩
          have hlt : (x : Int) % (y : Int) < y := Int.emod_lt_of_pos _ (by omega)
          have hge : 0 ≤ (x : Int) % (y : Int) := Int.emod_nonneg _ (by omega)
          obtain ⟨A3, n3, c3, zs, rfl, hr3, hc3, hv3, hn3⟩ := hu.fit hBy (Int.le_of_lt hlt)
          have HV3 := Lib.hid hv3
          clear hu hv3
          go_wp2_with fail
          go_roundg (x % y)
          case measure => omega
          case rel => exact ⟨y, x % y, A2, n2, c2, ys, A3, n3, c3, zs, rfl, rfl, rfl, Lib.hid ⟨(emod_gcd x y).trans hg.out.1, hg.out.2.2.2.1, hg.out.2.2.2.2, HV3.out, hc3⟩, hr2.below hX, hr3, by omega, by omega, hUr.trans hX⟩
        · obtain rfl : n2 = 0 := by omega
          have hy0 : y = 0 := by
            have : ys = [] := List.eq_nil_of_length_eq_zero hr2.len
            have h2 := hg.out.2.2.2.1
            rw [this, val_nil] at h2
            omega
          have hgx : Int.gcd a b = x := by rw [← hg.out.1, hy0]; simp
          have HGX := Lib.hid hgx
          clear hgx
          have hsg : (if false = true then -(x : Int) else (x : Int)) = x := rfl
          have hcl := close_to hsg (.slice A1 n1 c1) n1 wr (hE3.up hUr) ⟨A1, n1, c1, xs, rfl, hr1, hg.out.2.2.1, hg.out.2.1, Nat.le_refl _⟩ (by omega)
          clear hsg
          go_wp2_with fail
          refine hcl.mono ?_
          rintro _ w6 ⟨rfl, hX⟩
          go_wp2
          go_ret
          rw [HGX.out]
          exact ⟨rfl, (hU4.trans hUr).trans hX⟩

theorem sgn_div {a b : Int} {ma mb : Bool} (ha : decide (a < 0) = ma) (hb : decide (b < 0) = mb) (hb0 : 0 < b) (hd : b ∣ a) : (if (ma != mb) = true then -((a.natAbs : Int) / (b.natAbs : Int)) else (a.natAbs : Int) / (b.natAbs : Int)) = a / b := by
  obtain rfl : mb = false := by rw [← hb]; exact decide_eq_false (by omega)
  have e : (b.natAbs : Int) = b := by omega
  rw [e]
  cases ma with
  | true =>
    have := of_decide_eq_true ha
    rw [if_pos (by simp), show (a.natAbs : Int) = -a by omega, Int.neg_ediv_of_dvd hd, Int.neg_neg]
  | false =>
    have := of_decide_eq_false ha
    rw [if_neg (by simp), show (a.natAbs : Int) = a by omega]

set_option maxRecDepth 100000 in
set_option maxHeartbeats 4000000 in
/-- DivMod where nothing remains -/
theorem int_div (a b : Int) (w : World) (hE : Env w) (ha : ilen a ≤ 1000000) (hb : ilen b ≤ 1000000) (hb0 : 0 < b) (hd : b ∣ a) : Calls Tryz.prog 132 #[.string (iB a), .string (iB b)] w (Ret w (.tuple #[.string (iB (a / b)), .string (iB 0), .int .i64 0])) := by
  have hU := Up.refl w
  have hz := iB_is0 b
  rw [decide_eq_false (by omega)] at hz
  go_enter Tryz.func132, Tryz.ntmps132
  go_wp2_with fail
  refine (int_open' a _ (by omega)).mono ?_
  rintro _ w2 ⟨ma, A1, n1, c1, xs, rfl, H1, hr1, hn1, hU2⟩
  go_wp2_with fail
  refine (int_open' b _ (by omega)).mono ?_
  rintro _ w3 ⟨mb, A2, n2, c2, ys, rfl, H2, hr2, hn2, hU3⟩
  obtain rfl : mb = false := by rw [← H2.out.1]; exact decide_eq_false (by omega)
  have hE3 : Env w3 := hE.up (hU2.trans hU3)
  have hU4 : Up w w3 := ((hU.trans hU2).trans hU3)
  obtain ⟨l1, l2, l3⟩ := lay2_facts w3 ma (.slice A1 n1 c1) false (.slice A2 n2 c2)
  obtain ⟨W4, hW4⟩ : ∃ W4, lay2 w3 ma (.slice A1 n1 c1) false (.slice A2 n2 c2) = W4 := ⟨_, rfl⟩
  rw [hW4] at l1 l2 l3
  have hBx : BigV n1 W4 (.slice A1 n1 c1) a.natAbs := ⟨A1, n1, c1, xs, rfl, hr1.below (hU3.trans l3), H1.out.2.2, H1.out.2.1, Nat.le_refl _⟩
  have hBy : BigV n2 W4 (.slice A2 n2 c2) b.natAbs := ⟨A2, n2, c2, ys, rfl, hr2.below l3, H2.out.2.2, H2.out.2.1, Nat.le_refl _⟩
  go_upto_region 4 with fail
  change Code.wp _ _ _ _ (lay2 w3 ma (.slice A1 n1 c1) false (.slice A2 n2 c2))
  rw [hW4]
  have k1 := l1.c0
  have k2 := l1.c1
  have k3 := l2.c0
  have k4 := l2.c1
  clear hW4
  go_wp2_with fail
  refine (divide_any _ _ _ _ _ _ _ hBx hBy (by omega) (by omega) (by omega)).mono ?_
  rintro _ w5 ⟨_, _, rfl, ⟨A3, n3, c3, us, rfl, hr3, hc3, hv3, hn3⟩, ⟨A4, n4, c4, vs, rfl, hr4, hc4, hv4, hn4⟩, hX⟩
  have hrem : (a.natAbs : Int) % (b.natAbs : Int) = 0 := by
    have : (b.natAbs : Int) ∣ (a.natAbs : Int) := Int.ofNat_dvd.2 (Int.natAbs_dvd_natAbs.2 hd)
    exact Int.emod_eq_zero_of_dvd this
  have hvs := val_zero_nil hc4 (hv4.trans hrem)
  subst hvs
  obtain rfl : n4 = 0 := hr4.len.symm
  have p1 := (num_below l1 hX).c0
  have p3 := (num_below l2 hX).c0
  have hEW : Env w5 := (hE3.up l3).up hX
  have hsg := Lib.hid (sgn_div H1.out.1 H2.out.1 hb0 hd)
  have hcl := close_to hsg.out (.slice A3 n3 c3) (n1 + 2) w5 hEW ⟨A3, n3, c3, us, rfl, hr3, hc3, hv3, hn3⟩ (by omega)
  have hcz := fun W => close_zero false A4 c4 W
  clear k1 k2 k3 k4 hv3 hv4
  cases ma with
  | true =>
    go_wp2_with fail
    refine hcl.mono ?_
    rintro _ w6 ⟨rfl, hX6⟩
    go_wp2_with fail
    refine (hcz _).mono ?_
    rintro _ w7 ⟨rfl, hX7⟩
    go_wp2
    go_ret3
    exact ⟨rfl, (((hU4.trans l3).trans hX).trans hX6).trans hX7⟩
  | false =>
    go_wp2_with fail
    refine hcl.mono ?_
    rintro _ w6 ⟨rfl, hX6⟩
    go_wp2_with fail
    refine (hcz _).mono ?_
    rintro _ w7 ⟨rfl, hX7⟩
    go_wp2
    go_ret3
    exact ⟨rfl, (((hU4.trans l3).trans hX).trans hX6).trans hX7⟩
end Go.Proofs.Klp
