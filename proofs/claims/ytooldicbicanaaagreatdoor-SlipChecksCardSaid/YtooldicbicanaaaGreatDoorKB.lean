/- A region that draws its order, where what each operation gives does not depend on the order. -/
import Derived.OrdersIn
import Derived.Test.YtooldicbicanaaaGreatDoorKA
import Derived.IntWalk
import Derived.Deep.RegionWith
import Derived.RegionTactic
import Derived.BigRegion
import Derived.Deep.RegionHeld3
namespace Go.Proofs.Klp
open Go.RowKit Go.Shelf

theorem ready_nil_all {ops : Array Oper} {listed : Array Bool} (hsz : listed.size = ops.size) (hdag : ∀ (i : Nat) (o : Oper), ops[i]? = some o → ∀ e ∈ o.after, e.on < i)
    (h : Region.ready .any ops listed = []) : ∀ j, j < ops.size → listed.getD j false = true := by
  intro j
  induction j using Nat.strongRecOn with
  | _ j ih =>
    intro hj
    cases hl : listed.getD j false with
    | true => rfl
    | false =>
      exfalso
      have hl' : listed.getD j true = false := by
        rw [Array.getD_eq_getD_getElem?] at hl ⊢
        rw [Array.getElem?_eq_getElem (by omega)] at hl ⊢
        exact hl
      have ho : ops[j]? = some ops[j] := Array.getElem?_eq_getElem hj
      have : j ∈ Region.ready .any ops listed := mem_ready.2 ⟨hl', ops[j], ho, fun e he _ => ih e.on (hdag j _ ho e he) (Nat.lt_trans (hdag j _ ho e he) hj)⟩
      rw [h] at this
      simp at this

theorem count_set {listed : Array Bool} {i : Nat} (h : listed.getD i true = false) : (listed.setIfInBounds i true).toList.count false + 1 = listed.toList.count false := by
  have hlt : i < listed.size := by
    rcases Nat.lt_or_ge i listed.size with h' | h'
    · exact h'
    · simp [Array.getElem?_eq_none h'] at h
  have he : listed.toList[i]'(by simpa using hlt) = false := by
    simp [Array.getElem?_eq_getElem hlt] at h; simpa using h
  rw [Array.toList_setIfInBounds, List.count_set (by simpa using hlt), he]
  have : 0 < listed.toList.count false := List.count_pos_iff.2 (by rw [← he]; exact List.getElem_mem _)
  have h1 : (false == false) = true := rfl
  have h2 : (true == false) = false := rfl
  simp only [h1, h2, if_true, Bool.false_eq_true, if_false]
  omega

theorem wpAnyIn_inv {F : Fence} {n : Nat} {P : Program} {ops : Array Oper} {Q : Exit → Act → World → Prop} (Inv : Array Bool → Act → World → Prop)
    (hs : ∀ (i : Nat) (o : Oper) (listed : Array Bool) (a : Act) (w : World), listed.size = ops.size → ops[i]? = some o → listed.getD i true = false → (∀ e ∈ o.after, Region.binds .any e = true → listed.getD e.on false = true) → Inv listed a w →
      ∀ K, (∀ a' w', Inv (listed.setIfInBounds i true) a' w' → K a' w') → wpOpIn F n P ops Q i K a w)
    (he : ∀ listed a w, (∀ j, j < ops.size → listed.getD j false = true) → Inv listed a w → Q .normal a w)
    (hdag : ∀ (i : Nat) (o : Oper), ops[i]? = some o → ∀ e ∈ o.after, e.on < i) :
    ∀ (fuel : Nat) (listed : Array Bool) (a : Act) (w : World), listed.size = ops.size → listed.toList.count false = fuel → Inv listed a w → wpAnyIn F n P .any ops Q fuel listed a w := by
  intro fuel
  induction fuel with
  | zero =>
    intro listed a w hsz hc hi
    have hall : ∀ j, j < ops.size → listed.getD j false = true := by
      intro j hj
      have hmem : listed[j]'(by omega) ∈ listed.toList := by simp
      have : listed[j]'(by omega) ≠ false := fun e => by
        have := List.count_pos_iff.2 (e ▸ hmem)
        omega
      simp [Array.getElem?_eq_getElem (show j < listed.size by omega)]
      simpa using this
    refine ⟨?_, he listed a w hall hi⟩
    cases hr : Region.ready .any ops listed with
    | nil => rfl
    | cons x xs =>
      have hx : x ∈ Region.ready .any ops listed := by rw [hr]; simp
      obtain ⟨h0, o, ho, _⟩ := mem_ready.1 hx
      have hlt : x < ops.size := (Array.getElem?_eq_some_iff.1 ho).1
      have := hall x hlt
      rw [Array.getD_eq_getD_getElem?, Array.getElem?_eq_getElem (by omega)] at h0 this
      simp at h0 this
      rw [h0] at this; cases this
  | succ fuel ih =>
    intro listed a w hsz hc hi
    refine ⟨fun hr => he listed a w (ready_nil_all hsz hdag hr) hi, fun i hir => ?_⟩
    obtain ⟨h0, o, ho, hall⟩ := mem_ready.1 hir
    refine hs i o listed a w hsz ho h0 hall hi _ fun a' w' hi' => ih _ a' w' (by simpa using hsz) ?_ hi'
    have := count_set h0
    omega

theorem region_inv {F : Fence} {n : Nat} {P : Program} {id : Nat} {ops : Array Oper} {Q : Exit → Act → World → Prop} {a : Act} {w : World} (hm : P.follows .mixedOrders = true) (Inv : Array Bool → Act → World → Prop)
    (h0 : Inv (Array.replicate ops.size false) a w.drew)
    (hs : ∀ (i : Nat) (o : Oper) (listed : Array Bool) (a : Act) (w : World), listed.size = ops.size → ops[i]? = some o → listed.getD i true = false → (∀ e ∈ o.after, Region.binds .any e = true → listed.getD e.on false = true) → Inv listed a w →
      ∀ K, (∀ a' w', Inv (listed.setIfInBounds i true) a' w' → K a' w') → wpOpIn F n P ops Q i K a w)
    (he : ∀ listed a w, (∀ j, j < ops.size → listed.getD j false = true) → Inv listed a w → Q .normal a w)
    (hdag : ∀ (i : Nat) (o : Oper), ops[i]? = some o → ∀ e ∈ o.after, e.on < i) :
    (Code.region id ops true).wpIn F n P Q a w :=
  wpIn_region_any hm (wpAnyIn_inv Inv hs he hdag ops.size _ a _ (by simp) (by simp) h0)

/-- slot of operation j -/
def dstOf (ops : Array Oper) (j : Nat) : Option Nat := (ops[j]?).bind (·.dst)
def setAll (ops : Array Oper) (V : Nat → Value) (l : List Nat) (t : Array Value) : Array Value :=
  l.foldl (fun t j => match dstOf ops j with | some d => t.setIfInBounds d (V j) | none => t) t
theorem setAll_size (ops : Array Oper) (V : Nat → Value) (l : List Nat) (t : Array Value) : (setAll ops V l t).size = t.size := by
  unfold setAll
  induction l generalizing t with
  | nil => rfl
  | cons j l ih => rw [List.foldl_cons, ih]; cases dstOf ops j <;> simp
theorem setAll_other (ops : Array Oper) (V : Nat → Value) (l : List Nat) (t : Array Value) (d : Nat) (h : ∀ j ∈ l, dstOf ops j ≠ some d) : (setAll ops V l t).getD d undef = t.getD d undef := by
  unfold setAll
  induction l generalizing t with
  | nil => rfl
  | cons j l ih =>
    rw [List.foldl_cons, ih _ (fun i hi => h i (by simp [hi]))]
    have hj := h j (by simp)
    cases hd : dstOf ops j with
    | none => rfl
    | some e =>
      have : e ≠ d := fun x => hj (by rw [hd, x])
      simp [Array.getElem?_setIfInBounds_ne this]
theorem setAll_at (ops : Array Oper) (V : Nat → Value) (l : List Nat) (t : Array Value) (d j : Nat) (hj : j ∈ l) (hd : dstOf ops j = some d) (hlt : d < t.size) (hinj : ∀ i k e, dstOf ops i = some e → dstOf ops k = some e → i = k) : (setAll ops V l t).getD d undef = V j := by
  unfold setAll
  induction l generalizing t with
  | nil => simp at hj
  | cons i l ih =>
    rw [List.foldl_cons]
    by_cases hjl : j ∈ l
    · refine ih _ hjl ?_
      cases dstOf ops i <;> simp <;> exact hlt
    · have hij : j = i := by rcases List.mem_cons.1 hj with h | h; exact h; exact absurd h hjl
      subst hij
      have := setAll_other ops V l (t.setIfInBounds d (V j)) d (fun k hk e => hjl (by rw [hinj j k d hd e]; exact hk))
      unfold setAll at this
      rw [hd]
      simp only []
      rw [this]
      simp [hlt]

structure OI (ops : Array Oper) (V : Nat → Value) (W : (Nat → Bool) → World) (a0 : Act) (listed : Array Bool) (a : Act) (w : World) : Prop where
  tm : ∀ j d, listed.getD j false = true → dstOf ops j = some d → a.tmps.getD d undef = V j
  ot : ∀ d, (∀ j, dstOf ops j ≠ some d) → a.tmps.getD d undef = a0.tmps.getD d undef
  sz : a.tmps.size = a0.tmps.size
  df : a.defers = a0.defers
  wd : w = W (fun j => listed.getD j false)
  lz : listed.size = ops.size
  cl : ∀ j o, listed.getD j false = true → ops[j]? = some o → ∀ e ∈ o.after, Region.binds .any e = true → listed.getD e.on false = true

theorem getD_set_same {listed : Array Bool} {i : Nat} (h : listed.getD i true = false) : (listed.setIfInBounds i true).getD i false = true := by
  have hlt : i < listed.size := by
    rcases Nat.lt_or_ge i listed.size with h' | h'
    · exact h'
    · simp [Array.getElem?_eq_none h'] at h
  simp [hlt]

theorem region_oi {l n : Nat} {P : Program} {id : Nat} {ops : Array Oper} {Q : Exit → Act → World → Prop} {a0 : Act} {w : World} (hm : P.follows .mixedOrders = true) (V : Nat → Value) (W : (Nat → Bool) → World)
    (hW0 : W (fun _ => false) = w.drew)
    (hg : ∀ (i : Nat) (o : Oper), ops[i]? = some o → o.guard = none ∧ ∀ c, o.op ≠ .defer c)
    (hinj : ∀ i k e, dstOf ops i = some e → dstOf ops k = some e → i = k) (hlt : ∀ i d, dstOf ops i = some d → d < a0.tmps.size)
    (hdag : ∀ (i : Nat) (o : Oper), ops[i]? = some o → ∀ e ∈ o.after, e.on < i)
    (hrun : ∀ (i : Nat) (o : Oper) (L : Nat → Bool) (a : Act), ops[i]? = some o → L i = false → (∀ e ∈ o.after, Region.binds .any e = true → L e.on = true) →
      (∀ (j : Nat) (o : Oper), L j = true → ops[j]? = some o → ∀ e ∈ o.after, Region.binds .any e = true → L e.on = true) →
      (∀ j d, L j = true → dstOf ops j = some d → a.tmps.getD d undef = V j) → (∀ d, (∀ j, dstOf ops j ≠ some d) → a.tmps.getD d undef = a0.tmps.getD d undef) →
      ∃ r, (execOp a.eval o).run P (W L) = .ok r (W (fun j => if j = i then true else L j)) ∧ (r = .value (V i) ∨ r = .skip ∧ o.dst = none))
    (hend : Q .normal { tmps := setAll ops V (List.range ops.size) a0.tmps, defers := a0.defers } (W (fun j => decide (j < ops.size)))) :
    (Code.region id ops true).wpIn (Fence.wide.inRound l) n P Q a0 w := by
  refine region_inv hm (OI ops V W a0) ?_ ?_ ?_ hdag
  · refine ⟨fun j d h => ?_, fun _ _ => rfl, rfl, rfl, ?_, ?_, fun j o h => ?_⟩
    · simp [Array.getElem?_replicate] at h; split at h <;> simp at h
    · rw [← hW0]; congr 1; funext j; simp [Array.getElem?_replicate]; split <;> rfl
    · simp
    · simp [Array.getElem?_replicate] at h; split at h <;> simp at h
  · intro i o listed a w1 hsz ho hl hdep hI K hK
    obtain ⟨hgd, hnd⟩ := hg i o ho
    have hl' : listed.getD i false = false := by
      rw [Array.getD_eq_getD_getElem?] at hl ⊢
      cases h : listed[i]? with
      | none => rfl
      | some b => rw [h] at hl; simpa using hl
    obtain ⟨r, hr, hv⟩ := hrun i o (fun j => listed.getD j false) a ho hl' hdep hI.cl hI.tm hI.ot
    have hw : Region.wanted o (yielded ops a.tmps) = true := by unfold Region.wanted; rw [hgd]
    have hD : dstOf ops i = o.dst := by unfold dstOf; rw [ho]; rfl
    have hw1 := hI.wd
    subst hw1
    unfold wpOpIn
    simp only [ho, hw, if_true]
    refine ⟨fun _ _ => trivial, ?_⟩
    rw [Fence.inRound_round, Oper.semAt_some l _ o hnd, hr]
    have hOI : OI ops V W a0 (listed.setIfInBounds i true) (a.put o.dst (V i)) (W (fun j => if j = i then true else listed.getD j false)) := by
      refine ⟨fun j d hj hd => ?_, fun d hd => ?_, ?_, ?_, ?_, ?_, fun j oj hj hoj e he hb => ?_⟩
      · by_cases hji : j = i
        · subst hji
          rw [hD] at hd
          have := hlt j d (by rw [hD]; exact hd)
          rw [hd]
          simp [Act.put, hI.sz, this]
        · rw [getD_set_ne false (Ne.symm hji)] at hj
          have h1 := hI.tm j d hj hd
          cases ho2 : o.dst with
          | none => exact h1
          | some e =>
            have : e ≠ d := fun x => hji (hinj j i d hd (by rw [hD, ho2, x]))
            simpa [Act.put, Array.getElem?_setIfInBounds_ne this] using h1
      · have h1 := hI.ot d hd
        cases ho2 : o.dst with
        | none => exact h1
        | some e =>
          have : e ≠ d := fun x => hd i (by rw [hD, ho2, x])
          simpa [Act.put, Array.getElem?_setIfInBounds_ne this] using h1
      · cases o.dst <;> simp [Act.put, hI.sz]
      · cases o.dst <;> simp [Act.put, hI.df]
      · congr 1; funext j
        by_cases hji : j = i
        · rw [if_pos hji, hji, getD_set_same hl]
        · rw [if_neg hji, getD_set_ne false (Ne.symm hji)]
      · simpa using hI.lz
      · by_cases hji : j = i
        · subst hji
          rw [ho] at hoj; cases hoj
          exact getD_set_true (hdep e he hb)
        · rw [getD_set_ne false (Ne.symm hji)] at hj
          exact getD_set_true (hI.cl j oj hj hoj e he hb)
    rcases hv with rfl | ⟨rfl, hnone⟩
    · exact hK _ _ hOI
    · rw [hnone] at hOI
      show K (a.put o.dst undef) _
      rw [hnone]
      exact hK _ _ hOI
  · intro listed a w1 hall hI
    have e1 : a.tmps = setAll ops V (List.range ops.size) a0.tmps := by
      apply Array.ext
      · rw [setAll_size, hI.sz]
      · intro d h1 h2
        have q1 : a.tmps.getD d undef = a.tmps[d] := by simp [Array.getElem?_eq_getElem h1]
        have q2 : (setAll ops V (List.range ops.size) a0.tmps).getD d undef = (setAll ops V (List.range ops.size) a0.tmps)[d] := by simp [Array.getElem?_eq_getElem h2]
        rw [← q1, ← q2]
        by_cases hd : ∃ j, dstOf ops j = some d
        · obtain ⟨j, hj⟩ := hd
          have hjl : j < ops.size := by
            unfold dstOf at hj
            rcases Nat.lt_or_ge j ops.size with h | h
            · exact h
            · rw [Array.getElem?_eq_none h] at hj; cases hj
          rw [hI.tm j d (hall j hjl) hj, setAll_at ops V _ _ d j (by simpa using hjl) hj (by rw [← hI.sz]; exact h1) hinj]
        · rw [hI.ot d (fun j e => hd ⟨j, e⟩), setAll_other ops V _ _ d (fun j _ e => hd ⟨j, e⟩)]
    have e2 : w1 = W (fun j => decide (j < ops.size)) := by
      rw [hI.wd]; congr 1; funext j
      by_cases hj : j < ops.size
      · rw [hall j hj]; simp [hj]
      · have : listed[j]? = none := Array.getElem?_eq_none (by rw [hI.lz]; omega)
        simp [hj, this]
    have e3 : a = { tmps := setAll ops V (List.range ops.size) a0.tmps, defers := a0.defers } := by
      cases a; simp only at e1; have := hI.df; simp only at this; rw [e1, this]
    rw [e2, e3]; exact hend

def injB (ops : Array Oper) : Bool := (List.range ops.size).all fun i => (List.range ops.size).all fun k => (dstOf ops i).isNone || !(dstOf ops i == dstOf ops k) || i == k
def dagB (ops : Array Oper) : Bool := (List.range ops.size).all fun i => ((ops[i]?).map fun o => o.after.all fun e => decide (e.on < i)).getD true
def noDefer : Op → Bool
  | .defer _ => false
  | _ => true
def plainB (ops : Array Oper) : Bool := (List.range ops.size).all fun i => ((ops[i]?).map fun o => o.guard.isNone && noDefer o.op).getD true
def ltB (ops : Array Oper) (n : Nat) : Bool := (List.range ops.size).all fun i => ((dstOf ops i).map fun d => decide (d < n)).getD true
theorem dst_lt {ops : Array Oper} {i e : Nat} (h : dstOf ops i = some e) : i < ops.size := by
  unfold dstOf at h
  rcases Nat.lt_or_ge i ops.size with h' | h'
  · exact h'
  · rw [Array.getElem?_eq_none h'] at h; cases h
theorem inj_of {ops : Array Oper} (h : injB ops = true) : ∀ i k e, dstOf ops i = some e → dstOf ops k = some e → i = k := by
  intro i k e hi hk
  unfold injB at h
  rw [List.all_eq_true] at h
  have h1 := h i (by simpa using dst_lt hi)
  rw [List.all_eq_true] at h1
  have h2 := h1 k (by simpa using dst_lt hk)
  rw [hi, hk] at h2
  simpa using h2
theorem dag_of {ops : Array Oper} (h : dagB ops = true) : ∀ (i : Nat) (o : Oper), ops[i]? = some o → ∀ e ∈ o.after, e.on < i := by
  intro i o ho e he
  unfold dagB at h
  rw [List.all_eq_true] at h
  have h1 := h i (by simpa using (Array.getElem?_eq_some_iff.1 ho).1)
  rw [ho] at h1
  simp only [Option.map_some, Option.getD_some, Array.all_eq_true_iff_forall_mem] at h1
  simpa using h1 e he
theorem plain_of {ops : Array Oper} (h : plainB ops = true) : ∀ (i : Nat) (o : Oper), ops[i]? = some o → o.guard = none ∧ ∀ c, o.op ≠ .defer c := by
  intro i o ho
  unfold plainB at h
  rw [List.all_eq_true] at h
  have h1 := h i (by simpa using (Array.getElem?_eq_some_iff.1 ho).1)
  rw [ho] at h1
  simp only [Option.map_some, Option.getD_some, Bool.and_eq_true, Option.isNone_iff_eq_none] at h1
  refine ⟨h1.1, fun c hc => ?_⟩
  rw [hc] at h1; simp [noDefer] at h1
theorem lt_of_ltB {ops : Array Oper} {n : Nat} (h : ltB ops n = true) : ∀ i d, dstOf ops i = some d → d < n := by
  intro i d hd
  unfold ltB at h
  rw [List.all_eq_true] at h
  have h1 := h i (by simpa using dst_lt hd)
  rw [hd] at h1
  simpa using h1

def notB (ops : Array Oper) (s : Nat) : Bool := (List.range ops.size).all fun i => !(dstOf ops i == some s)
theorem not_of {ops : Array Oper} {s : Nat} (h : notB ops s = true) : ∀ j, dstOf ops j ≠ some s := by
  intro j hj
  unfold notB at h
  rw [List.all_eq_true] at h
  have h1 := h j (by simpa using dst_lt hj)
  rw [hj] at h1; simp at h1
/-- .. with the closed facts as one reckoning -/
theorem region_oi' {l n : Nat} {P : Program} {id : Nat} {ops : Array Oper} {Q : Exit → Act → World → Prop} {a0 : Act} {w : World} (hm : P.follows .mixedOrders = true) (N : Nat) (V : Nat → Value) (W : (Nat → Bool) → World)
    (hc : (plainB ops && injB ops && dagB ops && ltB ops N) = true) (hN : a0.tmps.size = N) (hW0 : W (fun _ => false) = w.drew)
    (hrun : ∀ (i : Nat) (h : i < ops.size) (L : Nat → Bool) (a : Act), L i = false → (∀ e ∈ (ops[i]'h).after, Region.binds .any e = true → L e.on = true) →
      (∀ (j : Nat) (o : Oper), L j = true → ops[j]? = some o → ∀ e ∈ o.after, Region.binds .any e = true → L e.on = true) →
      (∀ j d, L j = true → dstOf ops j = some d → a.tmps.getD d undef = V j) → (∀ d, (∀ j, dstOf ops j ≠ some d) → a.tmps.getD d undef = a0.tmps.getD d undef) →
      ∃ r, (execOp a.eval (ops[i]'h)).run P (W L) = .ok r (W (fun j => if j = i then true else L j)) ∧ (r = .value (V i) ∨ r = .skip ∧ (ops[i]'h).dst = none))
    (hend : Q .normal { tmps := setAll ops V (List.range ops.size) a0.tmps, defers := a0.defers } (W (fun j => decide (j < ops.size)))) :
    (Code.region id ops true).wpIn (Fence.wide.inRound l) n P Q a0 w := by
  simp only [Bool.and_eq_true] at hc
  obtain ⟨⟨⟨h1, h2⟩, h3⟩, h4⟩ := hc
  refine region_oi hm V W hW0 (plain_of h1) (inj_of h2) (by rw [hN]; exact lt_of_ltB h4) (dag_of h3) ?_ hend
  intro i o L a ho hL hd hcl ht hot
  obtain ⟨hlt, rfl⟩ := Array.getElem?_eq_some_iff.1 ho
  exact hrun i hlt L a hL hd hcl ht hot

/-- the world of a region with two stores, by what has been done -/
def stW (W0 : World) (a1 : Addr) (v1 : Value) (a2 : Addr) (v2 : Value) (i1 i2 : Nat) (L : Nat → Bool) : World := if L i2 then (W0.setCell a1 v1).setCell a2 v2 else if L i1 then W0.setCell a1 v1 else W0
section
variable {W0 : World} {a1 a2 : Addr} {v1 v2 : Value} {i1 i2 : Nat} {L : Nat → Bool}
theorem stW_none (h1 : L i1 = false) (h2 : L i2 = false) : stW W0 a1 v1 a2 v2 i1 i2 L = W0 := by unfold stW; rw [h1, h2]; rfl
theorem stW_skip (i : Nat) (h1 : i1 ≠ i) (h2 : i2 ≠ i) : stW W0 a1 v1 a2 v2 i1 i2 (fun j => if j = i then true else L j) = stW W0 a1 v1 a2 v2 i1 i2 L := by
  unfold stW; simp only [if_neg h1, if_neg h2]
theorem stW_one (h12 : i2 ≠ i1) (h1 : L i1 = false) (h2 : L i2 = false) : stW W0 a1 v1 a2 v2 i1 i2 (fun j => if j = i1 then true else L j) = (stW W0 a1 v1 a2 v2 i1 i2 L).setCell a1 v1 := by
  rw [stW_none h1 h2]; unfold stW; simp only [if_neg h12, h2]; rfl
theorem stW_two (h1 : L i1 = true) (h2 : L i2 = false) : stW W0 a1 v1 a2 v2 i1 i2 (fun j => if j = i2 then true else L j) = (stW W0 a1 v1 a2 v2 i1 i2 L).setCell a2 v2 := by
  unfold stW; simp [h1, h2]
theorem stW_cell (p : Addr) (h1 : p.block ≠ a1.block) (h2 : p.block ≠ a2.block) : (stW W0 a1 v1 a2 v2 i1 i2 L).cell? p = W0.cell? p := by
  have e1 : ∀ (w : World) (a : Addr) (v : Value), p.block ≠ a.block → (w.setCell a v).cell? p = w.cell? p := fun w a v h => World.cell?_of_block (heap_setCell_other w a p.block v h)
  unfold stW; split
  · rw [e1 _ _ _ h2, e1 _ _ _ h1]
  · split
    · rw [e1 _ _ _ h1]
    · rfl
theorem stW_cell2 (p : Addr) (h1 : p.block ≠ a1.block) (h2 : L i2 = false) : (stW W0 a1 v1 a2 v2 i1 i2 L).cell? p = W0.cell? p := by
  unfold stW; rw [h2]
  split
  · simp_all
  · split
    · exact World.cell?_of_block (heap_setCell_other _ _ _ _ h1)
    · rfl
theorem stW_frozen (p : Addr) : (stW W0 a1 v1 a2 v2 i1 i2 L).frozen? p = W0.frozen? p := by
  unfold stW; split
  · rw [World.frozen?_setCell, World.frozen?_setCell]
  · split
    · rw [World.frozen?_setCell]
    · rfl
theorem stW_cell1 (p : Addr) (h1 : L i1 = false) (h2 : L i2 = false) : (stW W0 a1 v1 a2 v2 i1 i2 L).cell? p = W0.cell? p := by rw [stW_none h1 h2]
end
end Go.Proofs.Klp
/- Division by one piece. -/
namespace Go.Proofs.Klp
open Go.RowKit Go.Shelf
attribute [local go_sem] Oper.semAt_some

theorem row_other {w : World} {base : Nat} {e : TypeId} {size : Nat} {v : Value} {n : Nat} {xs : List Value} (h : w.ownsRow base e size v n xs) (b : Nat) (u : Value) (hne : v.ownBlock ≠ some b) : (w.setCell ⟨b, 0, none⟩ u).ownsRow base e size v n xs :=
  h.kept (grownBy_setCell' w b u) (.inr hne)
theorem box_other {W : World} {B B' : Nat} {t : TypeId} {v : Value} (h : Boxed W B t v) (off : Nat) (u : Value) (hne : B ≠ B') : Boxed (W.setCell ⟨B', off, none⟩ u) B t v := by
  show (W.setCell ⟨B', off, none⟩ u).heap[B]? = _
  rw [heap_setCell_other W ⟨B', off, none⟩ B u hne]; exact h
theorem row_own {W W' : World} {row : Option Nat} {base : Nat} {e : TypeId} {size : Nat} {v : Value} {n : Nat} {xs : List Value} (h : W.ownsRow base e size v n xs) (hg : W.grownBy W' row) (hr : ∀ r, row = some r → ∃ o : Obj, W.heap[r]? = some o ∧ o.isCells = false) : W'.ownsRow base e size v n xs := by
  refine h.kept hg ?_
  rcases h.2 with ⟨rfl, _⟩ | ⟨g, cap, cur, rfl, hb, hgc, _⟩
  · exact .inl rfl
  · right
    intro e
    obtain ⟨o, ho, hc⟩ := hr g (by rw [← e]; rfl)
    rw [hgc] at ho
    cases ho; simp [Obj.isCells] at hc
theorem Rd.drew {k : IntKind} {w : World} {A : Option Addr} {n c : Nat} {zs : List Int} (h : Rd k w A n c zs) : Rd k w.drew A n c zs := h.below (below_drewN (Below.refl _ _) 1)
theorem rd_boxed {k : IntKind} {W : World} {B : Nat} {e : TypeId} {d : Int} (h : Boxed W B e (.int k d)) : Rd k W (some ⟨B, 0, none⟩) 1 1 [d] where
  len := rfl
  cap := Nat.le_refl _
  cmax := by omega
  nilc := fun h => by cases h
  cell := fun _ => ⟨B, 0, rfl, h.lt, fun j hj => by
    obtain rfl : j = 0 := by omega
    exact h.cell⟩
theorem wide_calls {P : Program} {f : FuncId} {args : Array Value} {w : World} {R : Ending → World → Prop} (n : Nat) (h : CallsIn Fence.wide n P f args w R) : Calls P f args w R := callsIn_wide.1 h
theorem div_step (B d : Int) (xs zs : List Int) (n1 j : Nat) (rest : Int) (hj : j < n1) (hx : xs.length = n1) (hz : zs.length = n1) (h : val B (xs.drop (n1 - j)) = d * val B (zs.drop (n1 - j)) + rest) :
    val B (xs.drop (n1 - 1 - j)) = d * val B ((zs.set (n1 - 1 - j) ((rest * B + dt xs (n1 - 1 - j)) / d)).drop (n1 - 1 - j)) + (rest * B + dt xs (n1 - 1 - j)) % d := by
  have e : n1 - j = n1 - 1 - j + 1 := by omega
  rw [e] at h
  generalize hi : n1 - 1 - j = i at *
  have h1 : i < xs.length := by omega
  have h2 : i < zs.length := by omega
  rw [val_drop _ xs _ h1, val_drop _ (zs.set _ _) _ (by simpa using h2), List.drop_set_of_lt (by omega)]
  have e2 : (zs.set i ((rest * B + dt xs i) / d)).getD i 0 = (rest * B + dt xs i) / d := by rw [getD_in (by simpa using h2)]; simp
  rw [e2]
  have e3 := Int.emod_add_mul_ediv (rest * B + dt xs i) d
  have e4 : xs.getD i 0 = dt xs i := rfl
  rw [h, e4]
  generalize (rest * B + dt xs i) % d = r at *
  generalize (rest * B + dt xs i) / d = q at *
  grind
theorem quo_bd {rest d x : Int} (hd0 : 1 ≤ d) (h : rest < d) (hx : x ≤ 999999999) : (rest * 1000000000 + x) / d ≤ 999999999 := by
  have h1 : (rest * 1000000000 + x) / d < 1000000000 := by
    apply Int.ediv_lt_of_lt_mul (by omega)
    have h9 := Int.mul_le_mul_of_nonneg_right (show rest + 1 ≤ d by omega) (show (0:Int) ≤ 1000000000 by omega)
    rw [Int.mul_comm 1000000000 d]; omega
  omega
set_option maxRecDepth 100000 in
set_option maxHeartbeats 4000000 in
theorem divone_any (A1 : Option Addr) (n1 c1 : Nat) (xs : List Int) (A2 : Option Addr) (c2 : Nat) (d : Int) (w : World) (hx : Rd .u64 w A1 n1 c1 xs) (hy : Rd .u64 w A2 1 c2 [d])
    (hxc : Can 1000000000 xs) (hd0 : 1 ≤ d) (hd1 : d ≤ 999999999) (hn1 : n1 ≤ 100000000) (hle : Hid (d ≤ val 1000000000 xs)) :
    Calls Tryz.prog 147 #[.slice A1 n1 c1, .slice A2 1 c2] w fun e w' => ∃ v1 v2, e = .returned (.tuple #[v1, v2]) ∧ BigV n1 w' v1 (val 1000000000 xs / d) ∧ BigV 1 w' v2 (val 1000000000 xs % d) ∧ Below w.heap.size w w' := by
  refine wide_calls 5 ?_
  have hro : Fence.wide.round = none := rfl
  have hyc : Can 1000000000 [d] := ⟨by simp [Dg]; omega, by simp; omega⟩
  have b1 := Boxed.new w 162 (.slice A2 1 c2)
  have b2 := Boxed.new (w.alloc (.cells #[.slice A2 1 c2] 162)) 162 (.slice none 0 0)
  rw [World.size_alloc] at b2
  have hb1 := b1.alloc (.cells #[.slice none 0 0] 162)
  have hB2 : Below w.heap.size w ((w.alloc (.cells #[.slice A2 1 c2] 162)).alloc (.cells #[.slice none 0 0] 162)) := ((Below.refl _ w).alloc (Nat.le_refl _) _).alloc (by simp) _
  refine callsIn_of_wp_marks Tryz.func147 rfl trivial ?_ hro
  simp only [Tryz.ntmps147, List.size_toArray, List.length_cons, List.length_nil, Nat.reduceAdd, Nat.reduceSub, Array.replicate_succ, Array.replicate_zero, List.push_toArray, List.append_toArray, List.nil_append, List.cons_append]
  have c1' := b1.cell
  have c2' := b2.cell
  have c3' := hb1.cell
  have hxw := hx.below hB2
  have hyw := hy.below hB2
  have hgeq : ¬ cmpI (val 1000000000 xs) (val 1000000000 [d]) < 0 := by
    have e : val 1000000000 [d] = d := by simp [val_cons, val_nil]
    rw [e]; have := hle.out; unfold cmpI; rw [if_neg (by omega)]; split <;> omega
  obtain ⟨W0, hW0⟩ : ∃ W0, ((w.alloc (.cells #[.slice A2 1 c2] 162)).alloc (.cells #[.slice none 0 0] 162)) = W0 := ⟨_, rfl⟩
  have hs0 : W0.heap.size = w.heap.size + 2 := by rw [← hW0]; simp
  rw [hW0] at b2 hb1 hB2 c2' c3' hxw hyw
  gi_wp2_with fail
  clear c1' b1 hW0
  have f2' := b2.frozen
  gi_wp2_with (refine ⟨trivial, ?_⟩; gi_at_call 138; refine (callsIn_wide.2 (order_any _ _ _ _ _ _ _ _ _ hxw hyw hxc hyc (by omega) (by omega))).mono ?_; rintro e w' ⟨rfl, nd, rfl⟩; obtain ⟨w1, hmk, hown, hg⟩ := run_make_full (P := Tryz.prog) (W0.drewN nd) w.heap.size 162 178 iU64 (.int .u64 0) 1 uSU64 iU64_at iU64_zero iU64_size .i64 .i64 n1 (by rw [iU64_bytes]; omega) (by unfold maxLen; omega) (by simp; omega); have q1 := Boxed.kept (W := W0.drewN nd) hb1 hg (by simp); have q2 := Boxed.kept (W := W0.drewN nd) b2 hg (by simp); have k1 := q1.cell; have k2 := q2.cell; have k3 := q2.frozen; simp only [World.heap_drewN, hs0] at hmk hown)
  obtain ⟨W3, hW3⟩ : ∃ W3, ((w1.setCell { block := w.heap.size + 1, off := 0 } (Value.slice (some { block := w.heap.size + 2, off := 0 }) n1 n1)).alloc (Obj.cells #[Value.int IntKind.u64 0] 178)) = W3 := ⟨_, rfl⟩
  have hown3 : W3.ownsRow w.heap.size 178 1 (Value.slice (some { block := w.heap.size + 2, off := 0 }) n1 n1) n1 ((List.replicate n1 (0 : Int)).map (Value.int .u64)) := by
    rw [← hW3, List.map_replicate, ← toList_madeCells_one]
    rw [Nat.mul_one] at hown
    exact (row_other hown _ _ (by simp [Value.ownBlock])).alloc _
  have hq3 : Boxed W3 (w.heap.size + 1) 162 (Value.slice (some { block := w.heap.size + 2, off := 0 }) n1 n1) := by rw [← hW3]; exact (q2.set _).alloc _
  have hb3 : Boxed W3 w.heap.size 162 (Value.slice A2 1 c2) := by rw [← hW3]; exact (box_other q1 _ _ (by omega)).alloc _
  have hr3 : Boxed W3 w1.heap.size 178 (.int .u64 0) := by rw [← hW3]; have := Boxed.new (w1.setCell { block := w.heap.size + 1, off := 0 } (Value.slice (some { block := w.heap.size + 2, off := 0 }) n1 n1)) 178 (.int .u64 0); simpa using this
  have hB3 : Below w.heap.size w W3 := by
    rw [← hW3]
    exact (((below_drewN hB2 nd).grown hg (by simp; omega) (fun k e => by cases e)).setCell (p := ⟨w.heap.size + 1, 0, none⟩) (by simp) _).alloc (by simp; have := hg.size; simp at this; omega) _
  have hx3 := hx.below hB3
  have bA := Boxed.new W3 162 (.slice A1 n1 c1)
  obtain ⟨W4, hW4⟩ : ∃ W4, W3.alloc (.cells #[.slice A1 n1 c1] 162) = W4 := ⟨_, rfl⟩
  have hs3 : w.heap.size + 3 ≤ W3.heap.size := by
    have := hown3
    have h1 := hr3.lt
    have h2 := hg.size
    simp [hs0] at h2
    have h3 := (hown.lt (w.heap.size + 2) (by simp [Value.ownBlock])).2
    omega
  have hrb : w.heap.size + 2 < w1.heap.size := (hown.lt (w.heap.size + 2) (by simp [Value.ownBlock])).2
  have hB4 : Below w.heap.size w W4 := by rw [← hW4]; exact hB3.alloc hB3.size _
  have hown4 := hown3.alloc (.cells #[.slice A1 n1 c1] 162)
  have hq4 := hq3.alloc (.cells #[.slice A1 n1 c1] 162)
  have hb4 := hb3.alloc (.cells #[.slice A1 n1 c1] 162)
  have hr4 := hr3.alloc (.cells #[.slice A1 n1 c1] 162)
  rw [hW4] at bA hown4 hq4 hb4 hr4
  have hrb3 := hr3.lt
  have hs4 : W4.heap.size = W3.heap.size + 1 := by rw [← hW4]; simp
  have hx4 := hx.below hB4
  clear hmk hown hg q1 q2 k1 k2 k3 hown3 hq3 hb3 hr3 c3' c2' f2' b2 hb1 hB2 hs0 hxw hyw
  gi_wp2_with (refine ⟨trivial, ?_⟩; gi_at_call 156; refine (backw_in Fence.wide 4 trivial rfl _ _ _ _).mono ?_; rintro e w' ⟨rfl, rfl⟩)
  clear hW3
  generalize hR : w1.heap.size = Rb at *
  clear hW4
  refine' wpIn_rangeFunc_ownG hro (by omega) (gf := 177) (lb := #[.pointer (some ⟨W3.heap.size, 0, none⟩)]) rfl trivial (enters_of Tryz.func177 (by kernel_rfl) rfl)
    (backw_stops Fence.wide 4 trivial rfl (by omega) W3.heap.size w.heap.size A1 n1 c1 xs (by omega) W4 (by omega) bA.cell hx4 ?hbl) (fun h k => h.t k) (KpB.b (by omega)) (Below.refl _ _) (fun _ => rfl)
    (fun pre W => (∃ (rest : Int) (zs : List Int), (0 ≤ rest ∧ rest < d) ∧ Boxed W Rb 178 (.int .u64 rest) ∧ Boxed W (w.heap.size + 1) 162 (.slice (some ⟨w.heap.size + 2, 0, none⟩) n1 n1) ∧ Boxed W w.heap.size 162 (.slice A2 1 c2) ∧ W.ownsRow w.heap.size 178 1 (.slice (some ⟨w.heap.size + 2, 0, none⟩) n1 n1) n1 (zs.map (Value.int .u64)) ∧ Hid (zs.length = n1 ∧ Dg 1000000000 zs ∧ ∀ k, bkV xs pre = bkL xs k → val 1000000000 (xs.drop (n1 - k)) = d * val 1000000000 (zs.drop (n1 - k)) + rest)) ∧ Below w.heap.size w W)
    (fun _ _ _ => False)
    (OwnFrom.and (fun s W W' row hs hg hr => by
      obtain ⟨rest, zs, h1, h2, h3, h4, h5, h6⟩ := hs
      have hr' := fun r e => (hr r e).2
      exact ⟨rest, zs, h1, boxed_own Rb 178 (fun _ => .int .u64 rest) s W W' row h2 hg hr', boxed_own _ 162 (fun _ => .slice (some ⟨w.heap.size + 2, 0, none⟩) n1 n1) s W W' row h3 hg hr', boxed_own _ 162 (fun _ => .slice A2 1 c2) s W W' row h4 hg hr', row_own h5 hg hr', h6⟩) (ownFrom_below (Nat.le_refl _) (by omega)))
    (fun _ _ _ _ _ hs _ _ => hs)
    ⟨⟨0, List.replicate n1 0, by omega, hr4, hq4, hb4, hown4, Lib.hid ⟨by simp, Dg.zeros (by omega) _, fun k hk => ?hinit⟩⟩, hB4⟩
    _ ?assign ?body ?done ?stop
  case hbl =>
    intro b off e
    have hn : 0 < n1 := by
      rcases Nat.eq_zero_or_pos n1 with h | h
      · have : xs = [] := List.eq_nil_of_length_eq_zero (by rw [hx.len, h])
        have := hle.out
        subst xs; simp [val_nil] at this; omega
      · exact h
    obtain ⟨b', off', e', hlt, _⟩ := hx.cell hn
    rw [e] at e'; cases e'; exact hlt
  case hinit =>
    have hk0 : k = 0 := by have := congrArg List.length hk; rw [bkV_len, bkL_length] at this; simpa using this.symm
    subst hk0
    rw [List.drop_of_length_le (by rw [hx.len]; omega), List.drop_of_length_le (by simp)]; simp [val_nil]
  case assign =>
    intro l x W K hK
    gi_wp2
    exact hK
  case body =>
    rintro l pre x W ⟨⟨rest, zs, h1, h2, h3, h4, h5, h6⟩, hB⟩ hpl
    obtain ⟨b2, off2, hA2, hb2, hcell2⟩ := hy.cell (by omega)
    subst hA2
    have hy0 := (hB.cell (p := ⟨b2, off2 + 0, none⟩) hb2).trans (hcell2 0 (by omega))
    have e0 : dt [d] 0 = d := rfl
    rw [e0, Nat.add_zero] at hy0
    have r1 := h2.cell
    have r2 := h2.frozen
    have r3 := h3.cell
    have r4 := h4.cell
    have hxb := dt_bd hxc.1 x.1.1
    have hxi : x.1.1 < n1 := Nat.lt_of_lt_of_eq x.2.1 hx.len
    have hxe := Lib.hid x.2.2
    have hxb2 : 0 ≤ x.1.2 ∧ x.1.2 ≤ 999999999 := by rw [x.2.2]; exact hxb
    have hfz := h5.frozenAt x.1.1
    have hok := own_cell h5 x.1.1 hxi
    clear hcell2 hxb e0
    have hdz : (d == 0) = false := beq_eq_false_iff_ne.2 (by omega)
    have hmx : Tryz.prog.follows .mixedOrders = true := by kernel_rfl
    gi_wp2
    obtain ⟨Wf, hWf⟩ : ∃ Wf, stW (W.setCell ⟨Rb, 0, none⟩ (.int .u64 (rest * 1000000000 + x.1.2))).drew ⟨w.heap.size + 2, x.1.1, none⟩ (.int .u64 ((rest * 1000000000 + x.1.2) / d)) ⟨Rb, 0, none⟩ (.int .u64 ((rest * 1000000000 + x.1.2) % d)) 13 14 = Wf := ⟨_, rfl⟩
    have hskip : ∀ (L : Nat → Bool) i, 13 ≠ i → 14 ≠ i → Wf (fun j => if j = i then true else L j) = Wf L := fun L i h1 h2 => by rw [← hWf]; exact stW_skip i h1 h2
    have hone : ∀ (L : Nat → Bool), L 13 = false → L 14 = false → Wf (fun j => if j = 13 then true else L j) = (Wf L).setCell ⟨w.heap.size + 2, x.1.1, none⟩ (.int .u64 ((rest * 1000000000 + x.1.2) / d)) := fun L h1 h2 => by rw [← hWf]; exact stW_one (by omega) h1 h2
    have htwo : ∀ (L : Nat → Bool), L 13 = true → L 14 = false → Wf (fun j => if j = 14 then true else L j) = (Wf L).setCell ⟨Rb, 0, none⟩ (.int .u64 ((rest * 1000000000 + x.1.2) % d)) := fun L h1 h2 => by rw [← hWf]; exact stW_two h1 h2
    have hcellO : ∀ (L : Nat → Bool) (p : Addr), p.block ≠ w.heap.size + 2 → p.block ≠ Rb → (Wf L).cell? p = (W.setCell ⟨Rb, 0, none⟩ (.int .u64 (rest * 1000000000 + x.1.2))).drew.cell? p := fun L p h1 h2 => by rw [← hWf]; exact stW_cell p h1 h2
    have hcell2 : ∀ (L : Nat → Bool) (p : Addr), p.block ≠ w.heap.size + 2 → L 14 = false → (Wf L).cell? p = (W.setCell ⟨Rb, 0, none⟩ (.int .u64 (rest * 1000000000 + x.1.2))).drew.cell? p := fun L p h1 h2 => by rw [← hWf]; exact stW_cell2 p h1 h2
    have hcell1 : ∀ (L : Nat → Bool) (p : Addr), L 13 = false → L 14 = false → (Wf L).cell? p = (W.setCell ⟨Rb, 0, none⟩ (.int .u64 (rest * 1000000000 + x.1.2))).drew.cell? p := fun L p h1 h2 => by rw [← hWf]; exact stW_cell1 p h1 h2
    have hfrz : ∀ (L : Nat → Bool) (p : Addr), (Wf L).frozen? p = (W.setCell ⟨Rb, 0, none⟩ (.int .u64 (rest * 1000000000 + x.1.2))).drew.frozen? p := fun L p => by rw [← hWf]; exact stW_frozen p
    have g2 := h2.set (.int .u64 (rest * 1000000000 + x.1.2))
    have k1 : (W.setCell ⟨Rb, 0, none⟩ (.int .u64 (rest * 1000000000 + x.1.2))).drew.cell? ⟨Rb, 0, none⟩ = some (.int .u64 (rest * 1000000000 + x.1.2)) := g2.cell
    have f1 : (W.setCell ⟨Rb, 0, none⟩ (.int .u64 (rest * 1000000000 + x.1.2))).drew.frozen? ⟨Rb, 0, none⟩ = false := g2.frozen
    have k3 : (W.setCell ⟨Rb, 0, none⟩ (.int .u64 (rest * 1000000000 + x.1.2))).drew.cell? ⟨w.heap.size + 1, 0, none⟩ = some (Value.slice (some ⟨w.heap.size + 2, 0, none⟩) n1 n1) := (box_other h3 0 _ (by omega)).cell
    have k4 : (W.setCell ⟨Rb, 0, none⟩ (.int .u64 (rest * 1000000000 + x.1.2))).drew.cell? ⟨w.heap.size, 0, none⟩ = some (Value.slice (some ⟨b2, off2, none⟩) 1 c2) := (box_other h4 0 _ (by omega)).cell
    have k0 : (W.setCell ⟨Rb, 0, none⟩ (.int .u64 (rest * 1000000000 + x.1.2))).drew.cell? ⟨b2, off2, none⟩ = some (Value.int .u64 d) := (World.cell?_of_block (heap_setCell_other W ⟨Rb, 0, none⟩ b2 _ (by simp; omega))).trans hy0
    have g5 := row_other h5 Rb (.int .u64 (rest * 1000000000 + x.1.2)) (by simp [Value.ownBlock]; omega)
    have k5 : (W.setCell ⟨Rb, 0, none⟩ (.int .u64 (rest * 1000000000 + x.1.2))).drew.cell? ⟨w.heap.size + 2, x.1.1, none⟩ = some (.int .u64 (dt zs x.1.1)) := own_cell g5 x.1.1 hxi
    have f5 : (W.setCell ⟨Rb, 0, none⟩ (.int .u64 (rest * 1000000000 + x.1.2))).drew.frozen? ⟨w.heap.size + 2, x.1.1, none⟩ = false := g5.frozenAt x.1.1
    have bq0 : 0 ≤ (rest * 1000000000 + x.1.2) / d := Int.ediv_nonneg (by omega) (by omega)
    have bq1 : (rest * 1000000000 + x.1.2) / d ≤ 999999999 := quo_bd hd0 h1.2 hxb2.2
    have br0 : 0 ≤ (rest * 1000000000 + x.1.2) % d := Int.emod_nonneg _ (by omega)
    have br1 : (rest * 1000000000 + x.1.2) % d < d := Int.emod_lt_of_pos _ (by omega)
    refine region_oi' hmx 146 (fun j => [Value.slice (some ⟨w.heap.size + 2, 0, none⟩) n1 n1, Value.int .i64 (x.1.1 : Nat), Value.int .u64 (rest * 1000000000 + x.1.2), Value.slice (some ⟨b2, off2, none⟩) 1 c2, Value.pointer (some ⟨b2, off2, none⟩), Value.int .u64 d, Value.int .u64 ((rest * 1000000000 + x.1.2) / d), Value.int .u64 (rest * 1000000000 + x.1.2), Value.slice (some ⟨b2, off2, none⟩) 1 c2, Value.pointer (some ⟨b2, off2, none⟩), Value.int .u64 d, Value.int .u64 ((rest * 1000000000 + x.1.2) % d), Value.pointer (some ⟨w.heap.size + 2, x.1.1, none⟩)].getD j undef) Wf (by kernel_rfl) rfl (by rw [← hWf]; rfl) ?hrun ?hend
    case hend =>
      change Exit.inBlock 1 _ _ _ (Wf (fun j => decide (j < 15)))
      have hWe : Wf (fun j => decide (j < 15)) = (((W.setCell ⟨Rb, 0, none⟩ (.int .u64 (rest * 1000000000 + x.1.2))).drew.setCell ⟨w.heap.size + 2, x.1.1, none⟩ (.int .u64 ((rest * 1000000000 + x.1.2) / d))).setCell ⟨Rb, 0, none⟩ (.int .u64 ((rest * 1000000000 + x.1.2) % d))) := by rw [← hWf]; rfl
      rw [hWe]
      have u1 : Below w.heap.size W (((W.setCell ⟨Rb, 0, none⟩ (.int .u64 (rest * 1000000000 + x.1.2))).drew.setCell ⟨w.heap.size + 2, x.1.1, none⟩ (.int .u64 ((rest * 1000000000 + x.1.2) / d))).setCell ⟨Rb, 0, none⟩ (.int .u64 ((rest * 1000000000 + x.1.2) % d))) :=
        ((below_drewN ((Below.refl w.heap.size W).setCell (p := ⟨Rb, 0, none⟩) (by simp; omega) _) 1).setCell (p := ⟨w.heap.size + 2, x.1.1, none⟩) (by simp) _).setCell (p := ⟨Rb, 0, none⟩) (by simp; omega) _
      have v1 := (Boxed.set (W := ((W.setCell ⟨Rb, 0, none⟩ (.int .u64 (rest * 1000000000 + x.1.2))).drew.setCell ⟨w.heap.size + 2, x.1.1, none⟩ (.int .u64 ((rest * 1000000000 + x.1.2) / d)))) (.int .u64 ((rest * 1000000000 + x.1.2) % d)) (box_other (W := (W.setCell ⟨Rb, 0, none⟩ (.int .u64 (rest * 1000000000 + x.1.2))).drew) g2 x.1.1 (.int .u64 ((rest * 1000000000 + x.1.2) / d)) (by omega)))
      have v3 := box_other (box_other (W := (W.setCell ⟨Rb, 0, none⟩ (.int .u64 (rest * 1000000000 + x.1.2))).drew) (box_other h3 0 (.int .u64 (rest * 1000000000 + x.1.2)) (show w.heap.size + 1 ≠ Rb by omega)) x.1.1 (.int .u64 ((rest * 1000000000 + x.1.2) / d)) (show w.heap.size + 1 ≠ w.heap.size + 2 by omega)) 0 (.int .u64 ((rest * 1000000000 + x.1.2) % d)) (show w.heap.size + 1 ≠ Rb by omega)
      have v4 := box_other (box_other (W := (W.setCell ⟨Rb, 0, none⟩ (.int .u64 (rest * 1000000000 + x.1.2))).drew) (box_other h4 0 (.int .u64 (rest * 1000000000 + x.1.2)) (show w.heap.size ≠ Rb by omega)) x.1.1 (.int .u64 ((rest * 1000000000 + x.1.2) / d)) (show w.heap.size ≠ w.heap.size + 2 by omega)) 0 (.int .u64 ((rest * 1000000000 + x.1.2) % d)) (show w.heap.size ≠ Rb by omega)
      have v5 := row_other (own_set (w := (W.setCell ⟨Rb, 0, none⟩ (.int .u64 (rest * 1000000000 + x.1.2))).drew) g5 x.1.1 ((rest * 1000000000 + x.1.2) / d)) Rb (.int .u64 ((rest * 1000000000 + x.1.2) % d)) (by simp [Value.ownBlock]; omega)
      have v6 : KeepsOthers W (((W.setCell ⟨Rb, 0, none⟩ (.int .u64 (rest * 1000000000 + x.1.2))).drew.setCell ⟨w.heap.size + 2, x.1.1, none⟩ (.int .u64 ((rest * 1000000000 + x.1.2) / d))).setCell ⟨Rb, 0, none⟩ (.int .u64 ((rest * 1000000000 + x.1.2) % d))) :=
        (((KeepsOthers.setCell _ _ _).trans (KeepsOthers.drew _)).trans (KeepsOthers.setCell _ _ _)).trans (KeepsOthers.setCell _ _ _)
      refine ⟨v6.from _, ⟨u1, fun v hv => ?_⟩, ⟨(rest * 1000000000 + x.1.2) % d, zs.set x.1.1 ((rest * 1000000000 + x.1.2) / d), ⟨br0, br1⟩, v1, v3, v4, v5, Lib.hid ⟨by simp [h6.out.1], h6.out.2.1.set _ bq0 (by omega), fun k hk => ?_⟩⟩, hB.trans u1⟩
      · have e1 : ∀ (w' : World) (a : Addr) (u : Value), W3.heap.size ≠ a.block → (w'.setCell a u).cell? ⟨W3.heap.size, 0, none⟩ = w'.cell? ⟨W3.heap.size, 0, none⟩ := fun w' a u h => World.cell?_of_block (heap_setCell_other w' a W3.heap.size u h)
        rw [e1 _ _ _ (show W3.heap.size ≠ Rb by omega), e1 _ _ _ (show W3.heap.size ≠ w.heap.size + 2 by omega)]
        show (W.setCell _ _).cell? _ = _
        rw [e1 _ _ _ (show W3.heap.size ≠ Rb by omega)]; exact hv
      · obtain ⟨j, rfl, hpj, hx1⟩ := bk_pre hk
        have hj : pre.length = j := by rw [← bkV_len, hpj, bkL_length]
        have hl := hx.len
        have hxi1 : x.1.1 = n1 - 1 - j := by rw [hx1, hl]
        have hstep := div_step 1000000000 d xs zs n1 j rest (by omega) hl h6.out.1 (h6.out.2.2 j hpj)
        rw [show n1 - (j + 1) = n1 - 1 - j by omega, hxi1, x.2.2, hxi1]
        exact hstep
    case hrun =>
      intro i hi L a hL hd hcl ht hot
      have hi' : i < 15 := hi
      rcases (show i = 0 ∨ i = 1 ∨ i = 2 ∨ i = 3 ∨ i = 4 ∨ i = 5 ∨ i = 6 ∨ i = 7 ∨ i = 8 ∨ i = 9 ∨ i = 10 ∨ i = 11 ∨ i = 12 ∨ i = 13 ∨ i = 14 by omega) with rfl | rfl | rfl | rfl | rfl | rfl | rfl | rfl | rfl | rfl | rfl | rfl | rfl | rfl | rfl
      · -- 0
        have q0 : a.tmps.getD 4 undef = Value.pointer (some ⟨w.heap.size + 1, 0, none⟩) := hot 4 (not_of (by kernel_rfl))
        have c0 : (Wf L).cell? ⟨w.heap.size + 1, 0, none⟩ = some (Value.slice (some ⟨w.heap.size + 2, 0, none⟩) n1 n1) := (hcellO L _ (by simp) (by simp; omega)).trans k3
        have hsk := hskip L 0 (by omega) (by omega)
        clear ht hot hcl hd hcellO hcell2 hcell1 hfrz hone htwo hskip
        simp only [Array.getD_eq_getD_getElem?] at q0
        dsimp only [List.getElem_toArray, List.getElem_cons_zero, List.getElem_cons_succ]
        refine ⟨_, ?_, .inl rfl⟩
        rw [hsk]
        clear hsk
        go_simp
      · -- 1
        have q0 : a.tmps.getD 7 undef = Value.int .i64 (x.1.1 : Nat) := hot 7 (not_of (by kernel_rfl))
        have hsk := hskip L 1 (by omega) (by omega)
        clear ht hot hcl hd hcellO hcell2 hcell1 hfrz hone htwo hskip
        simp only [Array.getD_eq_getD_getElem?] at q0
        dsimp only [List.getElem_toArray, List.getElem_cons_zero, List.getElem_cons_succ]
        refine ⟨_, ?_, .inl rfl⟩
        rw [hsk]
        clear hsk
        go_simp
      · -- 2
        have q0 : a.tmps.getD 6 undef = Value.pointer (some ⟨Rb, 0, none⟩) := hot 6 (not_of (by kernel_rfl))
        have e14 : L 14 = false := by
          cases h : L 14 with
          | false => rfl
          | true => exact absurd (hcl 14 _ h rfl ⟨2, .phase⟩ (by simp) rfl) (by rw [hL]; simp)
        have c0 : (Wf L).cell? ⟨Rb, 0, none⟩ = some (Value.int .u64 (rest * 1000000000 + x.1.2)) := (hcell2 L _ (by simp; omega) e14).trans k1
        have hsk := hskip L 2 (by omega) (by omega)
        clear ht hot hcl hd hcellO hcell2 hcell1 hfrz hone htwo hskip
        simp only [Array.getD_eq_getD_getElem?] at q0
        dsimp only [List.getElem_toArray, List.getElem_cons_zero, List.getElem_cons_succ]
        refine ⟨_, ?_, .inl rfl⟩
        rw [hsk]
        clear hsk
        go_simp
      · -- 3
        have q0 : a.tmps.getD 3 undef = Value.pointer (some ⟨w.heap.size, 0, none⟩) := hot 3 (not_of (by kernel_rfl))
        have c0 : (Wf L).cell? ⟨w.heap.size, 0, none⟩ = some (Value.slice (some ⟨b2, off2, none⟩) 1 c2) := (hcellO L _ (by simp) (by simp; omega)).trans k4
        have hsk := hskip L 3 (by omega) (by omega)
        clear ht hot hcl hd hcellO hcell2 hcell1 hfrz hone htwo hskip
        simp only [Array.getD_eq_getD_getElem?] at q0
        dsimp only [List.getElem_toArray, List.getElem_cons_zero, List.getElem_cons_succ]
        refine ⟨_, ?_, .inl rfl⟩
        rw [hsk]
        clear hsk
        go_simp
      · -- 4
        have hd3 : L 3 = true := hd ⟨3, .data⟩ (by simp) rfl
        have q0 : a.tmps.getD 36 undef = Value.slice (some ⟨b2, off2, none⟩) 1 c2 := ht 3 36 hd3 rfl
        have hsk := hskip L 4 (by omega) (by omega)
        clear ht hot hcl hd hcellO hcell2 hcell1 hfrz hone htwo hskip
        simp only [Array.getD_eq_getD_getElem?] at q0
        dsimp only [List.getElem_toArray, List.getElem_cons_zero, List.getElem_cons_succ]
        refine ⟨_, ?_, .inl rfl⟩
        rw [hsk]
        clear hsk
        go_simp
      · -- 5
        have hd4 : L 4 = true := hd ⟨4, .data⟩ (by simp) rfl
        have q0 : a.tmps.getD 37 undef = Value.pointer (some ⟨b2, off2, none⟩) := ht 4 37 hd4 rfl
        have c0 : (Wf L).cell? ⟨b2, off2, none⟩ = some (Value.int .u64 d) := (hcellO L _ (by simp; omega) (by simp; omega)).trans k0
        have hsk := hskip L 5 (by omega) (by omega)
        clear ht hot hcl hd hcellO hcell2 hcell1 hfrz hone htwo hskip
        simp only [Array.getD_eq_getD_getElem?] at q0
        dsimp only [List.getElem_toArray, List.getElem_cons_zero, List.getElem_cons_succ]
        refine ⟨_, ?_, .inl rfl⟩
        rw [hsk]
        clear hsk
        go_simp
      · -- 6
        have hd2 : L 2 = true := hd ⟨2, .data⟩ (by simp) rfl
        have hd5 : L 5 = true := hd ⟨5, .data⟩ (by simp) rfl
        have q0 : a.tmps.getD 35 undef = Value.int .u64 (rest * 1000000000 + x.1.2) := ht 2 35 hd2 rfl
        have q1 : a.tmps.getD 38 undef = Value.int .u64 d := ht 5 38 hd5 rfl
        have hsk := hskip L 6 (by omega) (by omega)
        clear ht hot hcl hd hcellO hcell2 hcell1 hfrz hone htwo hskip
        simp only [Array.getD_eq_getD_getElem?] at q0 q1
        dsimp only [List.getElem_toArray, List.getElem_cons_zero, List.getElem_cons_succ]
        refine ⟨_, ?_, .inl rfl⟩
        rw [hsk]
        clear hsk
        go_simp
        rw [if_neg (show ¬ d = 0 by omega), IntWalk.u64_quo _ _ (by omega)]
      · -- 7
        have q0 : a.tmps.getD 6 undef = Value.pointer (some ⟨Rb, 0, none⟩) := hot 6 (not_of (by kernel_rfl))
        have e14 : L 14 = false := by
          cases h : L 14 with
          | false => rfl
          | true => exact absurd (hcl 14 _ h rfl ⟨7, .phase⟩ (by simp) rfl) (by rw [hL]; simp)
        have c0 : (Wf L).cell? ⟨Rb, 0, none⟩ = some (Value.int .u64 (rest * 1000000000 + x.1.2)) := (hcell2 L _ (by simp; omega) e14).trans k1
        have hsk := hskip L 7 (by omega) (by omega)
        clear ht hot hcl hd hcellO hcell2 hcell1 hfrz hone htwo hskip
        simp only [Array.getD_eq_getD_getElem?] at q0
        dsimp only [List.getElem_toArray, List.getElem_cons_zero, List.getElem_cons_succ]
        refine ⟨_, ?_, .inl rfl⟩
        rw [hsk]
        clear hsk
        go_simp
      · -- 8
        have q0 : a.tmps.getD 3 undef = Value.pointer (some ⟨w.heap.size, 0, none⟩) := hot 3 (not_of (by kernel_rfl))
        have c0 : (Wf L).cell? ⟨w.heap.size, 0, none⟩ = some (Value.slice (some ⟨b2, off2, none⟩) 1 c2) := (hcellO L _ (by simp) (by simp; omega)).trans k4
        have hsk := hskip L 8 (by omega) (by omega)
        clear ht hot hcl hd hcellO hcell2 hcell1 hfrz hone htwo hskip
        simp only [Array.getD_eq_getD_getElem?] at q0
        dsimp only [List.getElem_toArray, List.getElem_cons_zero, List.getElem_cons_succ]
        refine ⟨_, ?_, .inl rfl⟩
        rw [hsk]
        clear hsk
        go_simp
      · -- 9
        have hd8 : L 8 = true := hd ⟨8, .data⟩ (by simp) rfl
        have q0 : a.tmps.getD 41 undef = Value.slice (some ⟨b2, off2, none⟩) 1 c2 := ht 8 41 hd8 rfl
        have hsk := hskip L 9 (by omega) (by omega)
        clear ht hot hcl hd hcellO hcell2 hcell1 hfrz hone htwo hskip
        simp only [Array.getD_eq_getD_getElem?] at q0
        dsimp only [List.getElem_toArray, List.getElem_cons_zero, List.getElem_cons_succ]
        refine ⟨_, ?_, .inl rfl⟩
        rw [hsk]
        clear hsk
        go_simp
      · -- 10
        have hd9 : L 9 = true := hd ⟨9, .data⟩ (by simp) rfl
        have q0 : a.tmps.getD 42 undef = Value.pointer (some ⟨b2, off2, none⟩) := ht 9 42 hd9 rfl
        have c0 : (Wf L).cell? ⟨b2, off2, none⟩ = some (Value.int .u64 d) := (hcellO L _ (by simp; omega) (by simp; omega)).trans k0
        have hsk := hskip L 10 (by omega) (by omega)
        clear ht hot hcl hd hcellO hcell2 hcell1 hfrz hone htwo hskip
        simp only [Array.getD_eq_getD_getElem?] at q0
        dsimp only [List.getElem_toArray, List.getElem_cons_zero, List.getElem_cons_succ]
        refine ⟨_, ?_, .inl rfl⟩
        rw [hsk]
        clear hsk
        go_simp
      · -- 11
        have hd7 : L 7 = true := hd ⟨7, .data⟩ (by simp) rfl
        have hd10 : L 10 = true := hd ⟨10, .data⟩ (by simp) rfl
        have q0 : a.tmps.getD 40 undef = Value.int .u64 (rest * 1000000000 + x.1.2) := ht 7 40 hd7 rfl
        have q1 : a.tmps.getD 43 undef = Value.int .u64 d := ht 10 43 hd10 rfl
        have hsk := hskip L 11 (by omega) (by omega)
        clear ht hot hcl hd hcellO hcell2 hcell1 hfrz hone htwo hskip
        simp only [Array.getD_eq_getD_getElem?] at q0 q1
        dsimp only [List.getElem_toArray, List.getElem_cons_zero, List.getElem_cons_succ]
        refine ⟨_, ?_, .inl rfl⟩
        rw [hsk]
        clear hsk
        go_simp
        rw [if_neg (show ¬ d = 0 by omega), Int.tmod_eq_emod_of_nonneg (by omega)]
      · -- 12
        have hd0 : L 0 = true := hd ⟨0, .data⟩ (by simp) rfl
        have hd1 : L 1 = true := hd ⟨1, .data⟩ (by simp) rfl
        have q0 : a.tmps.getD 33 undef = Value.slice (some ⟨w.heap.size + 2, 0, none⟩) n1 n1 := ht 0 33 hd0 rfl
        have q1 : a.tmps.getD 34 undef = Value.int .i64 (x.1.1 : Nat) := ht 1 34 hd1 rfl
        have hsk := hskip L 12 (by omega) (by omega)
        clear ht hot hcl hd hcellO hcell2 hcell1 hfrz hone htwo hskip
        simp only [Array.getD_eq_getD_getElem?] at q0 q1
        dsimp only [List.getElem_toArray, List.getElem_cons_zero, List.getElem_cons_succ]
        refine ⟨_, ?_, .inl rfl⟩
        rw [hsk]
        clear hsk
        go_simp
      · -- 13
        have hd12 : L 12 = true := hd ⟨12, .data⟩ (by simp) rfl
        have hd6 : L 6 = true := hd ⟨6, .data⟩ (by simp) rfl
        have q0 : a.tmps.getD 45 undef = Value.pointer (some ⟨w.heap.size + 2, x.1.1, none⟩) := ht 12 45 hd12 rfl
        have q1 : a.tmps.getD 39 undef = Value.int .u64 ((rest * 1000000000 + x.1.2) / d) := ht 6 39 hd6 rfl
        have e14 : L 14 = false := by
          cases h : L 14 with
          | false => rfl
          | true => exact absurd (hcl 14 _ h rfl ⟨13, .phase⟩ (by simp) rfl) (by rw [hL]; simp)
        have c0 : (Wf L).cell? ⟨w.heap.size + 2, x.1.1, none⟩ = some (.int .u64 (dt zs x.1.1)) := (hcell1 L _ hL e14).trans k5
        have c1 : (Wf L).frozen? ⟨w.heap.size + 2, x.1.1, none⟩ = false := (hfrz L _).trans f5
        have hsk := hone L hL e14
        clear ht hot hcl hd hcellO hcell2 hcell1 hfrz hone htwo hskip
        simp only [Array.getD_eq_getD_getElem?] at q0 q1
        dsimp only [List.getElem_toArray, List.getElem_cons_zero, List.getElem_cons_succ]
        refine ⟨_, ?_, .inr ⟨rfl, rfl⟩⟩
        rw [hsk]
        clear hsk
        go_simp
      · -- 14
        have hd11 : L 11 = true := hd ⟨11, .data⟩ (by simp) rfl
        have hd13 : L 13 = true := hd ⟨13, .chain⟩ (by simp) rfl
        have q0 : a.tmps.getD 6 undef = Value.pointer (some ⟨Rb, 0, none⟩) := hot 6 (not_of (by kernel_rfl))
        have q1 : a.tmps.getD 44 undef = Value.int .u64 ((rest * 1000000000 + x.1.2) % d) := ht 11 44 hd11 rfl
        have l13 : L 13 = true := hd13
        have c0 : (Wf L).cell? ⟨Rb, 0, none⟩ = some (Value.int .u64 (rest * 1000000000 + x.1.2)) := (hcell2 L _ (by simp; omega) hL).trans k1
        have c1 : (Wf L).frozen? ⟨Rb, 0, none⟩ = false := (hfrz L _).trans f1
        have hsk := htwo L l13 hL
        clear ht hot hcl hd hcellO hcell2 hcell1 hfrz hone htwo hskip
        simp only [Array.getD_eq_getD_getElem?] at q0 q1
        dsimp only [List.getElem_toArray, List.getElem_cons_zero, List.getElem_cons_succ]
        refine ⟨_, ?_, .inr ⟨rfl, rfl⟩⟩
        rw [hsk]
        clear hsk
        go_simp
  case done =>
    rintro D ys W hD hys ⟨⟨rest, zs, h1, h2, h3, h4, h5, h6⟩, hB⟩ hK
    obtain ⟨A, c, hv, hrd⟩ := Rd.of_own h5
    simp only [Value.slice.injEq] at hv
    obtain ⟨rfl, _, rfl⟩ := hv
    have r1 := h2.cell
    have r2 := h3.cell
    have r3 := h3.frozen
    have hrd1 : Rd .u64 W.drew (some ⟨w.heap.size + 2, 0, none⟩) n1 n1 zs := hrd.drew
    have hrd2 : Rd .u64 (W.alloc (.cells #[.int .u64 rest] 178)).drew (some ⟨w.heap.size + 2, 0, none⟩) n1 n1 zs := (hrd.below ((Below.refl _ _).alloc (Nat.le_refl _) _)).drew
    have hrd3 : Rd .u64 (W.alloc (.cells #[.int .u64 rest] 178)).drew (some ⟨W.heap.size, 0, none⟩) 1 1 [rest] := (rd_one (k := .u64) W rest 178).drew
    have y1 := (h2.alloc (.cells #[.int .u64 rest] 178)).cell
    have y2 := (h3.alloc (.cells #[.int .u64 rest] 178)).cell
    have y3 := (h3.alloc (.cells #[.int .u64 rest] 178)).frozen
    have y4 := h2.lt
    have y5 := h3.lt
    have hDW : D ≠ w.heap.size + 1 := by
      intro e; have := hB4.size; omega
    have finD : ∀ v, ((W.setCell ⟨w.heap.size + 1, 0, none⟩ v).alloc (.cells #[.int .u64 rest] 178)).drew.heap[D]? = some (.deferred (some [])) := fun v => by
      show ((W.setCell ⟨w.heap.size + 1, 0, none⟩ v).alloc (.cells #[.int .u64 rest] 178)).heap[D]? = _
      have e1 := (heap_setCell_other W ⟨w.heap.size + 1, 0, none⟩ D v hDW).trans hK
      exact (Below.heap_alloc _ _ D (Array.getElem?_eq_some_iff.1 e1).1).trans e1
    have finC : ∀ v, (((W.setCell ⟨w.heap.size + 1, 0, none⟩ v).alloc (.cells #[.int .u64 rest] 178)).drew.putObj D (.deferred none)).cell? ⟨w.heap.size + 1, 0, none⟩ = some v := fun v => by
      have hg := grownBy_putObj' ((W.setCell ⟨w.heap.size + 1, 0, none⟩ v).alloc (.cells #[.int .u64 rest] 178)).drew D (.deferred none)
      refine cell_kept (show ((W.setCell ⟨w.heap.size + 1, 0, none⟩ v).alloc (.cells #[.int .u64 rest] 178)).drew.cell? _ = _ from ((h3.set v).alloc (.cells #[.int .u64 rest] 178)).cell) hg (fun r e => ?_)
      cases e; exact ⟨_, finD v, rfl⟩
    have finB : ∀ v, Below w.heap.size w (((W.setCell ⟨w.heap.size + 1, 0, none⟩ v).alloc (.cells #[.int .u64 rest] 178)).drew.putObj D (.deferred none)) := fun v =>
      (below_drewN (((hB.setCell (p := ⟨w.heap.size + 1, 0, none⟩) (by simp) v)).alloc (by have := hB.size; simp; omega) _) 1).trans (belowK_b (w := w) (Nat.le_refl _) _ D _ _ (by have := hB4.size; omega) (finD v) rfl rfl)
    have finV := h6.out.2.2 n1 hys
    rw [Nat.sub_self, List.drop_zero, List.drop_zero] at finV
    have finE : val 1000000000 zs = val 1000000000 xs / d ∧ rest = val 1000000000 xs % d := by
      have e1 : val 1000000000 xs = rest + d * val 1000000000 zs := by rw [finV]; omega
      rw [e1, Int.add_mul_ediv_left _ _ (by omega), Int.ediv_eq_zero_of_lt h1.1 h1.2, Int.add_mul_emod_self_left, Int.emod_eq_of_lt h1.1 h1.2]
      exact ⟨by omega, rfl⟩
    have FE := Lib.hid finE
    clear finV finE
    have finQ : ∀ v m, m ≤ n1 → val 1000000000 (zs.take m) = val 1000000000 zs → (m = 0 ∨ zs.getD (m - 1) 0 ≠ 0) → BigV n1 (((W.setCell ⟨w.heap.size + 1, 0, none⟩ v).alloc (.cells #[.int .u64 rest] 178)).drew.putObj D (.deferred none)) (.slice (some ⟨w.heap.size + 2, 0, none⟩) m n1) (val 1000000000 xs / d) := fun v m hm hv hc => by
      have g := ownsRow_putObj ((row_other h5 (w.heap.size + 1) v (by simp [Value.ownBlock])).alloc (.cells #[.int .u64 rest] 178)) (.deferred none) (finD v) rfl
      obtain ⟨A, c, hA, hrdz⟩ := Rd.of_own g
      simp only [Value.slice.injEq] at hA
      obtain ⟨rfl, _, rfl⟩ := hA
      have hrdz' : Rd .u64 (((W.setCell ⟨w.heap.size + 1, 0, none⟩ v).alloc (.cells #[.int .u64 rest] 178)).drew.putObj D (.deferred none)) (some ⟨w.heap.size + 2, 0, none⟩) n1 n1 zs := ⟨hrdz.len, hrdz.cap, hrdz.cmax, hrdz.nilc, hrdz.cell⟩
      exact ⟨_, m, _, _, rfl, hrdz'.take hm, can_take h6.out.2.1 m (by rw [hrdz.len]; exact hm) hc, by rw [hv, FE.out.1], hm⟩
    have finR : ∀ v m, m ≤ 1 → val 1000000000 ([rest].take m) = val 1000000000 [rest] → (m = 0 ∨ [rest].getD (m - 1) 0 ≠ 0) → BigV 1 (((W.setCell ⟨w.heap.size + 1, 0, none⟩ v).alloc (.cells #[.int .u64 rest] 178)).drew.putObj D (.deferred none)) (.slice (some ⟨W.heap.size, 0, none⟩) m 1) (val 1000000000 xs % d) := fun v m hm hv hc => by
      have g0 : Boxed ((W.setCell ⟨w.heap.size + 1, 0, none⟩ v).alloc (.cells #[.int .u64 rest] 178)).drew W.heap.size 178 (.int .u64 rest) := by
        have := Boxed.new (W.setCell ⟨w.heap.size + 1, 0, none⟩ v) 178 (.int .u64 rest)
        rw [show (W.setCell ⟨w.heap.size + 1, 0, none⟩ v).heap.size = W.heap.size by simp] at this
        exact this
      have g := boxed_own W.heap.size 178 (fun (_ : Unit) => .int .u64 rest) () _ _ _ g0 (grownBy_putObj' _ D (.deferred none)) (fun r e => by cases e; exact ⟨_, finD v, rfl⟩)
      exact ⟨_, m, _, _, rfl, (rd_boxed g).take hm, can_take (dg_one h1.1 (by omega)) m (by simpa using hm) hc, by rw [hv, ← FE.out.2]; simp [val_cons, val_nil], hm⟩
    have hmx : Tryz.prog.follows .mixedOrders = true := by kernel_rfl
    gi_wp2
    refine wpIn_wide.2 (wp_region_noPanic ?_)
    go_region_with (go_at_call 154; first | ((with_reducible refine (trim_any _ _ _ _ _ hrd1).mono ?_); rintro e w' ⟨mq, hmq, rfl, hvq, hcq, rfl⟩) | ((with_reducible refine (trim_any _ _ _ _ _ hrd2).mono ?_); rintro e w' ⟨mq, hmq, rfl, hvq, hcq, rfl⟩) | ((with_reducible refine (trim_any _ _ _ _ _ hrd3).mono ?_); rintro e w' ⟨mr, hmr, rfl, hvr, hcr, rfl⟩))
    all_goals refine NoPanic.normal ?_
    all_goals gi_wp2
    all_goals
      refine ⟨by simp, .inl ⟨_, _, rfl, run_takeDeferred (finD _), ?_⟩⟩
      have hcx := finC (.slice (some ⟨w.heap.size + 2, 0, none⟩) mq n1)
      refine ⟨.tuple #[.slice (some ⟨w.heap.size + 2, 0, none⟩) mq n1, .slice (some ⟨W.heap.size, 0, none⟩) mr 1], ?_, _, _, rfl, finQ _ mq hmq hvq hcq, finR _ mr hmr hvr hcr, finB _⟩
      simp [results, Tryz.f147, go_sem, hcx]
  case stop =>
    rintro D c pre W _ _ h _
    exact h.elim
end Go.Proofs.Klp
