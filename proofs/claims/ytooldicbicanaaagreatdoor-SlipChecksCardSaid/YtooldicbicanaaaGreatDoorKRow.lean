/- From a law's contract to its row: what the row's conditions give, how arguments are read, how they read again. -/
import Derived.Test.YtooldicbicanaaaGreatDoorRows
import Derived.Test.YtooldicbicanaaaGreatDoorKSz
import Derived.ProofKit
import Derived.LaidMore
import Derived.OpenShut
import Derived.Stop.Joined
import Derived.Stop.LaidErr
import Derived.Lib.LaidTab
import Derived.Shelf.Vars
import Derived.HandedShaped
namespace Go.Proofs.Klp
open Go Go.ChangeShapes Go.WideShapes Go.ChangeAt Go.RowKit

/-! ### the builder: the world's shape and what the row lists, both handed on -/
theorem lift_row {H : Type} {enc : TypeId × Value → H} {C : Checked} {os : Os} {f : FuncId} {fn : Func} {s : ChangeSpec} {laid : List (String × DataW Unit)} {apart fresh handsOn : Bool}
    (own : ownKnob C.prog.godebug = none) (started : os.Started) (noInit : C.prog.inits.idxOf? f = none) (hfn : C.prog.funcs[f]? = some fn)
    (witness : ∃ (w : World) (tape : Tape) (i : Input), w.os = os ∧ (w.forCall tape i).Shaped C.prog ∧ i.vars = [] ∧ Input.okWide C.prog (w.forCall tape i) .any w.heap.size f i ∧
      ((s.pre enc C.prog fn [] apart (w.forCall tape i).memory i.args ∧ laidMetH C.prog laid (w.forCall tape i).memory) ∧ sizedMet enc C.prog fn (OpenSpec.ofChange s) apart (w.forCall tape i).memory i.args) ∧ ({} : Assume).holds C.prog (lone (Frame.enter C.prog f i.args .normal) [] (w.forCall tape i)))
    (contract : ∀ (W : World) (base : Nat) (args : Array Value) (ds gs : List (DataW H)) (before : List MemPlace),
      (∀ (j : Nat) t v, fn.params[j]? = some t → args[j]? = some v → Value.okWide C.prog W .any base t v) →
      DataW.Whole enc C.prog fn.params.toList s.vars apart W args.toList ds gs before → W.ShapedOpen C.prog → laidMetH C.prog laid W →
      Calls C.prog f args W fun e W' => ∃ v, e = .returned v ∧ s.post enc C.prog fn apart fresh handsOn false W args v W') :
    ReturnsInHanded {} C os f .any (fun w args => (s.pre enc C.prog fn [] apart w args ∧ laidMetH C.prog laid w) ∧ sizedMet enc C.prog fn (OpenSpec.ofChange s) apart w args) (s.post enc C.prog fn apart fresh handsOn false) := by
  refine returnsInHanded_of_calls own started noInit witness ?_
  intro w tape i _ hsh _ hok hpre _
  obtain ⟨_, _, _, fn', hfn', _, _, _, _, hval⟩ := hok
  obtain rfl : fn' = fn := Option.some.inj (hfn'.symm.trans hfn)
  obtain ⟨⟨⟨ds, gs, before, hw, _⟩, hx⟩, _⟩ := hpre
  refine (contract (w.forCall tape i) w.heap.size i.args ds gs before hval (DataW.Whole.of_heap (w' := w.forCall tape i) (by rfl) hw) hsh (hx.of_heap (by rfl))).mono fun e W' ⟨v, he, hp⟩ => ?_
  subst he
  exact ChangeSpec.post_blind hp

/-- what was there is as it was: the row's post -/
theorem post_up {H : Type} {enc : TypeId × Value → H} {P : Program} {f : Func} {s : ChangeSpec} {apart fresh handsOn : Bool} {W W' : World} {args : Array Value} {v : Value} {ds gs : List (DataW H)} {before : List MemPlace}
    (hW : DataW.Whole enc P f.params.toList s.vars apart W args.toList ds gs before) (hs : s.vars = [])
    (hres : ∀ (b : Nat), DataW.TrodAll enc P W' b (fun _ => false) handsOn f.resultTypes.toList (v.resultList f.resultTypes.size) (s.fn H (ds ++ gs)).results [])
    (hargs : DataW.TrodAll enc P W' 0 (fun b => decide (b < W.heap.size)) true f.params.toList args.toList (s.fn H (ds ++ gs)).args before)
    (hvars : (s.fn H (ds ++ gs)).vars = []) (hb : Up W W') : s.post enc P f apart fresh handsOn false W args v W' := by
  refine ⟨ds, gs, before, [], before, [], hW, ?_, hargs, ?_, World.keptBut_mono (fun p hp => ⟨hp, .inr (.inl hp)⟩) ((show Below W.heap.size W W' from hb).frame (· ∈ before)), fun h => by cases h⟩
  · cases fresh <;> exact hres _
  · rw [hs, hvars]; exact rfl

/-- arguments read behind the call as they read before it -/
theorem trodAll_up {H : Type} {enc : TypeId × Value → H} {P : Program} (hl : laidOutB P = true) {W W' : World} (hb : Up W W') : ∀ {ts : List TypeId} {vs : List Value} {ds : List (DataW H)} {ps : List MemPlace},
    (ts.all fun t => P.readableRec t && decide (t < P.types.size)) = true → DataW.TrodAll enc P W 0 (fun _ => true) true ts vs ds ps → (∀ x ∈ ps, x.block < W.heap.size) → DataW.TrodAll enc P W' 0 (fun b => decide (b < W.heap.size)) true ts vs ds ps := by
  intro ts
  induction ts with
  | nil =>
    intro vs ds ps _ h _
    cases vs <;> cases ds <;> first | exact h | exact absurd h (by simp [DataW.TrodAll])
  | cons t ts ih =>
    intro vs ds ps ht h hlt
    cases vs with
    | nil => exact absurd h (by simp [DataW.TrodAll])
    | cons v vs =>
      cases ds with
      | nil => exact absurd h (by simp [DataW.TrodAll])
      | cons d ds =>
        obtain ⟨p, q, h1, h2, rfl⟩ := h
        simp only [List.all_cons, Bool.and_eq_true, decide_eq_true_eq] at ht
        exact ⟨p, q, Below.trod hl ht.1.1 ht.1.2 h1 hb (fun x hx => hlt x (List.mem_append_left _ hx)), ih (by simpa using ht.2) h2 (fun x hx => hlt x (List.mem_append_right _ hx)), rfl⟩

/-! ### flat arguments: strings, numbers and bools in structs and arrays -/
inductive Kd where
  | s | b
  | i (k : IntKind)
def Kd.fit : Kd → Value → Prop
  | .s, v => ∃ x : ByteArray, v = .string x
  | .b, v => ∃ x : Bool, v = .bool x
  | .i k, v => ∃ n : Int, v = .int k n ∧ (Lit.int k n).wf = true
def Fits : List Kd → List Value → Prop
  | [], [] => True
  | k :: ks, v :: vs => k.fit v ∧ Fits ks vs
  | _, _ => False
theorem Fits.app : ∀ {ks ls : List Kd} {vs us : List Value}, Fits ks vs → Fits ls us → Fits (ks ++ ls) (vs ++ us) := by
  intro ks
  induction ks with
  | nil => intro ls vs us h k; cases vs with | nil => exact k | cons _ _ => exact h.elim
  | cons a ks ih =>
    intro ls vs us h k
    cases vs with
    | nil => exact h.elim
    | cons v vs => exact ⟨h.1, ih h.2 k⟩
/-- values of this type are such cells -/
def Shp (P : Program) (t : TypeId) (ks : List Kd) : Prop := P.cellsOf t = ks.length ∧
  ∀ {H : Type} (enc : TypeId × Value → H) (w : World) (base : Nat) (sp : Nat → Bool) (held : Bool) (fuel : Nat) (cs : List Value) (x : DataW H × List MemPlace), DataW.trod enc P w base sp held fuel t cs = some x → Fits ks cs
theorem Shp.str {P : Program} {t : TypeId} (ht : P.underlying t = some .string) (hc : P.cellsOf t = 1) : Shp P t [.s] := ⟨hc, fun enc w base sp held fuel cs x h => by
  obtain ⟨s, rfl, _, _⟩ := DataW.trod_string ht h
  exact ⟨⟨s, rfl⟩, trivial⟩⟩
theorem Shp.int {P : Program} {t : TypeId} {k : IntKind} (ht : P.underlying t = some (.int k)) (hc : P.cellsOf t = 1) : Shp P t [.i k] := ⟨hc, fun enc w base sp held fuel cs x h => by
  obtain ⟨s, rfl, _, hw⟩ := DataW.trod_int ht h
  exact ⟨⟨s, rfl, hw⟩, trivial⟩⟩
theorem Shp.bool {P : Program} {t : TypeId} (ht : P.underlying t = some .bool) (hc : P.cellsOf t = 1) : Shp P t [.b] := ⟨hc, fun enc w base sp held fuel cs x h => by
  obtain ⟨s, rfl, _⟩ := DataW.trod_bool ht h
  exact ⟨⟨s, rfl⟩, trivial⟩⟩
theorem Fits.pieces {ks : List (List Kd)} : ∀ (cs : List Value) (f : Nat → Nat), (∀ i, f i = ((ks.take i).flatten).length) → cs.length = ks.flatten.length →
    (∀ i (h : i < ks.length), Fits ks[i] ((cs.drop (f i)).take ks[i].length)) → Fits ks.flatten cs := by
  induction ks with
  | nil =>
    intro cs f _ hl _
    have : cs = [] := List.length_eq_zero_iff.1 (by simpa using hl)
    subst this; exact trivial
  | cons a ks ih =>
    intro cs f hf hl h
    have h0 := h 0 (by simp)
    rw [hf 0] at h0
    simp only [List.take_zero, List.flatten_nil, List.length_nil, List.drop_zero, List.getElem_cons_zero] at h0
    have := ih (cs.drop a.length) (fun i => f (i + 1) - a.length) (fun i => by rw [hf (i + 1)]; simp) (by simp at hl ⊢; omega) (fun i hi => by
      have hx := h (i + 1) (by simpa using hi)
      rw [List.drop_drop]
      have e : a.length + (f (i + 1) - a.length) = f (i + 1) := by rw [hf (i + 1)]; simp
      rw [e]
      simpa using hx)
    have e2 := List.take_append_drop a.length cs
    rw [List.flatten_cons, ← e2]
    exact h0.app this
theorem Shp.struct {P : Program} {t : TypeId} {fs : Array Field} {ks : List (List Kd)} (ht : P.underlying t = some (.struct fs)) (hc : P.cellsOf t = ks.flatten.length) (hn : ks.length = fs.size)
    (hf : ∀ i (h : i < ks.length), ∃ f, fs[i]? = some f ∧ f.offset = ((ks.take i).flatten).length ∧ Shp P f.type ks[i]) : Shp P t ks.flatten := ⟨hc, fun enc w base sp held fuel cs x h => by
  obtain ⟨xs, n, _, _, hl, hlen, hx⟩ := DataW.trod_struct ht h
  refine Fits.pieces cs (fun i => ((ks.take i).flatten).length) (fun _ => rfl) (by rw [hl, hc]) fun i hi => ?_
  obtain ⟨f, h1, h2, h3⟩ := hf i hi
  have hlx : i < xs.length := by omega
  have := hx i f h1
  rw [List.getElem?_eq_getElem hlx, h2, h3.1] at this
  exact h3.2 enc w base sp held n _ _ this⟩
theorem flat_rep (n : Nat) (ks : List Kd) : ∀ i, i ≤ n → (((List.replicate n ks).take i).flatten).length = i * ks.length := by
  intro i hi
  rw [List.take_replicate, Nat.min_eq_left hi]
  simp
theorem Shp.array {P : Program} {t e : TypeId} {n : Nat} {ks : List Kd} (ht : P.underlying t = some (.array n e)) (hc : P.cellsOf t = n * ks.length) (he : Shp P e ks) : Shp P t (List.replicate n ks).flatten := ⟨by rw [hc]; simp, fun enc w base sp held fuel cs x h => by
  obtain ⟨xs, m, _, _, hl, hlen, hx⟩ := DataW.trod_array ht h
  refine Fits.pieces cs (fun i => (((List.replicate n ks).take i).flatten).length) (fun _ => rfl) (by rw [hl, hc]; simp) fun i hi => ?_
  have hi' : i < n := by simpa using hi
  have hlx : i < xs.length := by omega
  have := hx i hi'
  rw [List.getElem?_eq_getElem hlx, he.1] at this
  show Fits (List.replicate n ks)[i] ((cs.drop (((List.replicate n ks).take i).flatten).length).take (List.replicate n ks)[i].length)
  rw [flat_rep n ks i (by omega), List.getElem_replicate]
  exact he.2 enc w base sp held m _ _ this⟩
/-- a flat argument's value -/
theorem Shp.open {P : Program} {t : TypeId} {ks : List Kd} (h : Shp P t ks) {H : Type} {enc : TypeId × Value → H} {w : World} {base : Nat} {sp : Nat → Bool} {held : Bool} {v : Value} {d : DataW H} {ps : List MemPlace} (hd : DataW.Trod enc P w base sp held t v d ps) : Fits ks v.cells.toList := by
  obtain ⟨fuel, hf⟩ := hd
  exact h.2 enc w base sp held fuel _ _ hf
theorem agg_of {v : Value} {l : List Value} (h : v.cells.toList = l) (hn : l.length ≠ 1) : v = .agg l.toArray := by
  cases v <;> first | (subst h; simp [Value.cells]; done) | (exfalso; apply hn; rw [← h]; rfl)

/-! ### what the row lists -/
theorem own : ownKnob Tryz.prog.godebug = none := by kernel_rfl
theorem laidOut : laidOutB Tryz.prog = true := by kernel_rfl
theorem maxLen_any (W : World) (h : W.ShapedOpen Tryz.prog) : ∃ m, W.cell? ⟨0, 0, none⟩ = some (.int .i64 m) :=
  cell_of_shapedOpen_int (t := 3) (zero := #[.int .i64 0]) h (of_decide_eq_true (by kernel_rfl)) (by kernel_rfl) rfl (by kernel_rfl) (by kernel_rfl) Tryz.underlying3

/-- what every row of this seat lists -/
def laid5 : List (String × DataW Unit) := [("math/bits.deBruijn32tab", Go.Proofs.YtooldicbicanaaaGreatDoor.Rows.laid_math_bits_deBruijn32tab), ("math/bits.deBruijn64tab", Go.Proofs.YtooldicbicanaaaGreatDoor.Rows.laid_math_bits_deBruijn64tab), ("internal/strconv.uint64pow10", Go.Proofs.YtooldicbicanaaaGreatDoor.Rows.laid_internal_strconv_uint64pow10), ("strconv.ErrRange", Go.Proofs.YtooldicbicanaaaGreatDoor.Rows.laid_strconv_ErrRange), ("strconv.ErrSyntax", Go.Proofs.YtooldicbicanaaaGreatDoor.Rows.laid_strconv_ErrSyntax)]
theorem var_lt {P : Program} {W : World} {n : String} {g : Nat} {cs : Array Value} (hg : P.globalNamed n = some g) (h : W.var? P n = some cs) : g < W.heap.size := by
  unfold World.var? at h
  simp only [hg, Option.bind_some] at h
  rcases Nat.lt_or_ge g W.heap.size with h' | h'
  · exact h'
  · simp [Array.getElem?_eq_none h'] at h
theorem star : "*" ++ "errors.errorString" = "*errors.errorString" := by decide
theorem row_err (u : TypeId) (h : Tryz.prog.typeName? 3 u = some "*errors.errorString") : u = 224 :=
  typeName_ptr_named (P := Tryz.prog) (nm := "errors.errorString") (by rw [star]; kernel_rfl) (by kernel_rfl) (by decide) u (by rw [star]; exact h)
theorem env_of {W : World} (hL : laidMetH Tryz.prog laid5 W) (hsh : W.ShapedOpen Tryz.prog) : Env W := by
  rw [MakeChecks.laidMetH_plain _ _ _ (by kernel_rfl)] at hL
  have h2 := hL.tail
  have h3 := h2.tail
  have h4 := h3.tail
  have h5 := h4.tail
  have t64 : Lib.TabIs Tryz.prog W "math/bits.deBruijn64tab" .u64 [] ∨ ∃ cs, W.var? Tryz.prog "math/bits.deBruijn64tab" = some cs := by
    obtain ⟨ps, ⟨g', t', cs, fuel, p, q, hg', ht', hvar, hd, _, _⟩, _⟩ := h2
    exact .inr ⟨_, hvar⟩
  refine ⟨?_, maxLen_any W hsh, ?_, ?_, ?_⟩
  · rcases t64 with h | ⟨cs, h⟩
    · exact var_lt (g := 5) (by kernel_rfl) h
    · exact var_lt (g := 5) (by kernel_rfl) h
  · exact Lib.tabIs_of_head (g := 3) (t := 213) (e := 178) (n := 20) (by kernel_rfl) (by kernel_rfl) Tryz.underlying213 Tryz.underlying178 (by kernel_rfl) (by kernel_rfl) h3
  · obtain ⟨p, _, hv, _⟩ := laid_sentinel h5 (g := 1) (ti := 152) (te := 226) (ts := 9) (by kernel_rfl) (by kernel_rfl) Tryz.underlying152 row_err Tryz.underlying224 Tryz.underlying226 rfl rfl Tryz.underlying9 (by kernel_rfl) (by kernel_rfl)
    exact ⟨_, _, hv⟩
  · obtain ⟨p, _, hv, _⟩ := laid_sentinel h4 (g := 2) (ti := 152) (te := 226) (ts := 9) (by kernel_rfl) (by kernel_rfl) Tryz.underlying152 row_err Tryz.underlying224 Tryz.underlying226 rfl rfl Tryz.underlying9 (by kernel_rfl) (by kernel_rfl)
    exact ⟨_, _, hv⟩
end Go.Proofs.Klp
