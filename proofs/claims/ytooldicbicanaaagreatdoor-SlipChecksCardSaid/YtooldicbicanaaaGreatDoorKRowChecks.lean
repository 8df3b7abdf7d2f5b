/- 'SlipChecks' returns true for every input, and each argument reads afterwards as it read before. The tied card. -/
import Derived.Test.YtooldicbicanaaaGreatDoorKRow
import Derived.Test.YtooldicbicanaaaGreatDoorKLawK
import Derived.Test.YtooldicbicanaaaGreatDoorTie
import Derived.Test.YtooldicbicanaaaGreatDoorCards
namespace Go.Proofs.Klp
open Go Go.ChangeShapes Go.WideShapes Go.ChangeAt Go.RowKit

theorem shp_rat : Shp Tryz.prog 22 [.s] := Shp.str Tryz.underlying22 (by kernel_rfl)
theorem shp_vector : Shp Tryz.prog 24 [.s, .s, .s] := Shp.struct (ks := [[.s], [.s], [.s]]) Tryz.underlying24 (by kernel_rfl) rfl fun i h => match i, h with
  | 0, _ => ⟨_, rfl, rfl, shp_rat⟩
  | 1, _ => ⟨_, rfl, rfl, shp_rat⟩
  | 2, _ => ⟨_, rfl, rfl, shp_rat⟩
theorem shp_plane : Shp Tryz.prog 26 [.s, .s, .s, .s] := Shp.struct (ks := [[.s, .s, .s], [.s]]) Tryz.underlying26 (by kernel_rfl) rfl fun i h => match i, h with
  | 0, _ => ⟨_, rfl, rfl, shp_vector⟩
  | 1, _ => ⟨_, rfl, rfl, shp_rat⟩
theorem shp_fault : Shp Tryz.prog 58 [.s, .s, .s, .s, .s, .s, .s] := Shp.struct (ks := [[.s, .s, .s, .s], [.s, .s, .s]]) Tryz.underlying58 (by kernel_rfl) rfl fun i h => match i, h with
  | 0, _ => ⟨_, rfl, rfl, shp_plane⟩
  | 1, _ => ⟨_, rfl, rfl, shp_vector⟩
theorem fits_s {ks : List Kd} {vs : List Value} (h : Fits (.s :: ks) vs) : ∃ (x : ByteArray) (us : List Value), vs = .string x :: us ∧ Fits ks us := by
  cases vs with
  | nil => exact h.elim
  | cons v vs =>
    obtain ⟨⟨x, rfl⟩, h2⟩ := h
    exact ⟨x, vs, rfl, h2⟩
theorem fits_nil {vs : List Value} (h : Fits [] vs) : vs = [] := by
  cases vs with
  | nil => rfl
  | cons v vs => exact h.elim

set_option maxRecDepth 100000 in
theorem checks_lifted (os : Os) (started : os.Started) (H : Type) (enc : TypeId × Value → H) :
    ReturnsInHanded {} Tryz.checked os 6 .any (fun w args => (Go.Proofs.YtooldicbicanaaaGreatDoor.Rows.slipChecksSpec.pre enc Tryz.prog Tryz.f6 [] false w args ∧ laidMetH Tryz.prog laid5 w) ∧ sizedMet enc Tryz.prog Tryz.f6 (OpenSpec.ofChange Go.Proofs.YtooldicbicanaaaGreatDoor.Rows.slipChecksSpec) false w args)
      (Go.Proofs.YtooldicbicanaaaGreatDoor.Rows.slipChecksSpec.post enc Tryz.prog Tryz.f6 false true false false) := by
  refine lift_row (C := Tryz.checked) (laid := laid5) own started (by kernel_rfl) Tryz.func6
    (ChangeSpec.witness_shaped (enc := enc) (C := Tryz.checked) (os := os) (X := fun w _ => laidMetH Tryz.prog laid5 w) false (World.doorLaid Tryz.prog 62 os) #[.agg #[.string ⟨#[]⟩, .string ⟨#[]⟩, .string ⟨#[]⟩, .string ⟨#[]⟩, .string ⟨#[]⟩, .string ⟨#[]⟩, .string ⟨#[]⟩]] 8 rfl (World.shaped_of_RefB (by kernel_rfl) (by kernel_rfl)) (by kernel_rfl) (by kernel_rfl) (by kernel_rfl)
      (laidMetH_of_parts3 (fuel := 8) (laidMet_of_run' 8 (by kernel_rfl) (by kernel_rfl)) (by kernel_rfl) (by kernel_rfl))) ?_
  intro W base args ds gs before _ hW hsh hL
  have hE := env_of hL hsh
  have hW' := hW
  obtain ⟨p, q, hA, hV, rfl, _, _⟩ := hW
  have hA' := hA
  rw [show Tryz.f6.params.toList = [58] by rw [Tryz.params6]] at hA
  obtain ⟨v0, d0, rfl, rfl, h0⟩ := trodAll_one hA
  obtain ⟨rfl, rfl⟩ := trodVars_none hV
  simp only [List.append_nil] at hW'
  have g0 := shp_fault.open h0
  obtain ⟨p1, u0_0, e0_0, g0_0⟩ := fits_s g0
  obtain ⟨p2, u0_1, e0_1, g0_1⟩ := fits_s g0_0
  obtain ⟨p3, u0_2, e0_2, g0_2⟩ := fits_s g0_1
  obtain ⟨po, u0_3, e0_3, g0_3⟩ := fits_s g0_2
  obtain ⟨s1, u0_4, e0_4, g0_4⟩ := fits_s g0_3
  obtain ⟨s2, u0_5, e0_5, g0_5⟩ := fits_s g0_4
  obtain ⟨s3, u0_6, e0_6, g0_6⟩ := fits_s g0_5
  have z0 := fits_nil g0_6
  subst z0
  subst e0_6
  subst e0_5
  subst e0_4
  subst e0_3
  subst e0_2
  subst e0_1
  obtain rfl := agg_of e0_0 (by simp)
  refine (law_slip_checks p1 p2 p3 po s1 s2 s3 W hE).mono fun e W' ⟨he, hU⟩ => ?_
  subst he
  exact ⟨_, rfl, post_up hW' rfl (fun _ => trodAll_mk1 (shut_bool Tryz.underlying4 _)) (trodAll_up laidOut hU (by kernel_rfl) hA' fun x hx => by simpa using hW'.lt x hx) rfl hU⟩

theorem checks_holds : Go.Proofs.YtooldicbicanaaaGreatDoor.Rows.SlipChecksSaid :=
  OpenClaim.holds_of_wide 6 Tryz.f6 rfl rfl rfl rfl rfl rfl rfl ⟨rfl, rfl, rfl, rfl, rfl⟩ rfl rfl rfl rfl rfl (by kernel_rfl) Tryz.func6 (by kernel_rfl)
    (of_decide_eq_true (by kernel_rfl)) (by unfold Func.isWrapper; first | (rw [if_pos (by decide +kernel)]; kernel_rfl) | (rw [if_neg (by decide +kernel)]; exact ⟨rfl, rfl⟩))
    (fun os started H enc _ => checks_lifted os started H enc)
end Go.Proofs.Klp
namespace Go.Proofs.YtooldicbicanaaaGreatDoor
open Go
theorem slipChecks_card_holds : Rows.SlipChecksCardSaid :=
  Claim7.holds_tied_plain_at .later [] [.data, .data, .data, .sentinel, .sentinel] true (true, "91d69774c9f95da06cb7021bc31a8ff7ad5bf6714ffeab63c68e326b4216fdab") true
    Klp.checks_holds (fun _ h => by cases h) (by kernel_rfl) (fun _ h => by cases h) slipChecks_row_tie rfl ⟨rfl, rfl⟩ (by kernel_rfl) rfl
    (fun f fn hf hfn => by
      obtain rfl : f = 6 := Option.some.inj ((show Tryz.prog.funcNamed "klippe/klippelaw42.SlipChecks" = some 6 by kernel_rfl).symm.trans hf) |>.symm
      obtain rfl : fn = Tryz.f6 := (Option.some.inj (Tryz.func6.symm.trans hfn)).symm
      exact ⟨by kernel_rfl, fun j t ht => by
        rw [Tryz.params6] at ht
        have hm : t ∈ [58] := by simpa using Array.mem_of_getElem? ht
        have hall : ([58].all fun u => !Tryz.prog.wantsStandIn u) = true := by kernel_rfl
        exact (show Tryz.prog.wantsStandIn t = false by simpa using List.all_eq_true.1 hall t hm)⟩)
    (by kernel_rfl)
#print axioms slipChecks_card_holds
end Go.Proofs.YtooldicbicanaaaGreatDoor
