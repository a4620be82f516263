/-
  'TopPrints' returns true whatever it is given, and what it is given reads afterwards as before. No condition.
  The walk: YtchokmhfgikglaaGreatDoorLawTopPrints. The frame follows the kit's shell of a law's proof (proof-skeleton.mjs).
-/
import Derived.Test.YtchokmhfgikglaaGreatDoorPr1
import Derived.Test.YtchokmhfgikglaaGreatDoorRows
import Derived.WalkKit
import Derived.ProofKit
import Derived.OpenShut
import Derived.ShutString
import Derived.ChangeOld
import Derived.Below
import Derived.Lib.SmallJoins
import Derived.SizedLaws
import Derived.Test.YtchokmhfgikglaaGreatDoorCards
import Derived.Test.YtchokmhfgikglaaGreatDoorTie
import Derived.Lay
import Derived.LaidMore
import Derived.SevenTiedAt
import Derived.SliceStrings
namespace Go.Proofs.YtchokmhfgikglaaGreatDoor.topPrints
open Go.ChangeShapes Go.WideShapes Go.ChangeAt Go.RowKit Go.Joins
open Go.ChangeMaps (open_string shut_string)
set_option linter.unusedVariables false

theorem own : ownKnob Tryz.prog.godebug = none := by kernel_rfl
theorem laidOut : laidOutB Tryz.prog = true := by kernel_rfl

set_option maxRecDepth 100000 in
theorem lifted (os : Os) (started : os.Started) (H : Type) (enc : TypeId × Value → H) :
    ReturnsInHanded {} Tryz.checked os 4 .any (fun w args => (Rows.topPrintsSpec.pre enc Tryz.prog Tryz.f4 Rows.topPrintsRow.domain false w args ∧ laidMetH Tryz.prog Rows.topPrintsRow.laid w) ∧ sizedMet enc Tryz.prog Tryz.f4 (OpenSpec.ofChange Rows.topPrintsSpec) false w args) (Rows.topPrintsSpec.post enc Tryz.prog Tryz.f4 false true false false) := by
  refine wrap_and_shaped (C := Tryz.checked) (X := fun w _ => laidMetH Tryz.prog Rows.topPrintsRow.laid w) (fun _ _ _ hh h => h.of_heap hh) own started (by kernel_rfl) Tryz.func4
    (ChangeSpec.witness_shaped (enc := enc) (C := Tryz.checked) (os := os) (X := fun w _ => laidMetH Tryz.prog Rows.topPrintsRow.laid w) false (World.laidAll Tryz.prog os Rows.topPrintsRow.laid) #[.slice none 0 0] 8 (World.laidAll_os _ _ _)
      (World.shaped_of_ZipB (by kernel_rfl) (by kernel_rfl)) (by kernel_rfl) (by kernel_rfl) (by kernel_rfl)
      (by rw [MakeChecks.laidMetH_plain _ _ _ (by kernel_rfl)]; exact laidMet_laidAll _ (by kernel_rfl) (by kernel_rfl))) ?_
  intro W base args ds gs before hval0 hW _ hsz hL hsh
  have hval : ∀ (j : Nat) t v, Tryz.f4.params[j]? = some t → args[j]? = some v → Value.okWide Tryz.prog W .any base t v := hval0
  have hW' := hW
  obtain ⟨p, q, hA0, hV, rfl, hfz, hnd⟩ := hW
  have hA : DataW.TrodAll enc Tryz.prog W 0 (fun _ => true) true Tryz.f4.params.toList args.toList ds p := hA0
  rw [Tryz.params4] at hA hval
  obtain ⟨v0, vs0, d0, ds0, p0, q0, hargs, rfl, rfl, h0, r0⟩ := trodAll_cons hA
  obtain ⟨rfl, rfl, rfl⟩ := trodAll_nil r0
  obtain rfl : args = #[v0] := by cases args; simp_all
  obtain ⟨rfl, rfl⟩ := trodVars_none hV
  have k0 := h0
  have lt0 : ∀ x ∈ p0, x.block < W.heap.size := by obtain ⟨m, hm⟩ := k0; exact DataW.trod_lt m _ _ _ hm
  obtain ⟨a0, len0, cap0, rfl⟩ := okWide_slice Tryz.underlying35 (hval 0 35 v0 rfl rfl)
  obtain ⟨ts0, hr0⟩ := open_rats Tryz.underlying35 Tryz.underlying60 (by kernel_rfl) (by kernel_rfl) rfl rfl rfl Tryz.underlying4 Tryz.underlying58 Tryz.underlying122 (by kernel_rfl) h0
  clear hA0 hval0
  refine (lawTopPrints_any _ _ W hr0 (maxAt_shaped W hsh)).mono fun e W' ⟨he, bel⟩ => ?_
  subst he
  exact ⟨_, rfl, _, _, _, [], _, [], hW', trodAll_mk1 (shut_bool Tryz.underlying4 _), (trodAll_cons_mk (Below.trod laidOut (by kernel_rfl) (of_decide_eq_true (by kernel_rfl)) k0 bel lt0) trodAll_mk0), rfl, bel.frame _, fun h => by cases h⟩

set_option maxHeartbeats 4000000 in
theorem closed : joinedFacts Tryz.prog 4 Tryz.f4 Rows.topPrintsSpec Rows.topPrintsRow = true := by
  unfold joinedFacts
  repeat' (with_reducible refine (Bool.and_eq_true _ _).mpr ⟨?_, ?_⟩)
  all_goals (as_aux_lemma => kernel_rfl)
theorem named_at : Tryz.prog.funcNamed Rows.topPrintsRow.func = some 4 := by kernel_rfl
theorem no_inst : Tryz.f4.isInstance Tryz.prog Rows.topPrintsRow.origin Rows.topPrintsRow.targs := of_decide_eq_true (by kernel_rfl)
theorem no_wrap : Tryz.f4.isWrapper Tryz.prog Rows.topPrintsRow.wrapper Rows.topPrintsRow.mainSum := by
  unfold Func.isWrapper
  first
    | (rw [if_pos (by decide +kernel)]; kernel_rfl)
    | (rw [if_neg (by decide +kernel)]; exact ⟨rfl, rfl⟩)
theorem over : Rows.topPrintsRow.holds Tryz.pinned (OpenSpec.ofChange Rows.topPrintsSpec) :=
  OpenClaim.holds_of_wide 4 Tryz.f4 rfl rfl rfl rfl rfl rfl rfl ⟨rfl, rfl, rfl, rfl, rfl⟩ rfl rfl rfl rfl rfl named_at Tryz.func4 closed no_inst no_wrap
    (fun os started H enc _ => lifted os started H enc)

theorem by_text : Rows.topPrintsRow.wfByText (OpenSpec.ofChange Rows.topPrintsSpec) = true := by kernel_rfl
theorem main_is : Tryz.prog.mainIs = some (true, "47edb15f2a08160994e59ca2845efee047ee56f5c70bada6ee079c979afe6c5a".toList) := by kernel_rfl
theorem looks_is : true = Tryz.prog.looks [] := by kernel_rfl
theorem goes_by : false = Rows.topPrintsRow.goesBy Tryz.prog := goes_by_none rfl none_goes
/-- The statement. -/
theorem proved : Rows.TopPrintsCardSaid :=
  Claim7.holds_tied_plain_at .later [] [.data, .data, .data, .data, .sentinel, .sentinel, .pinned] true (true, "47edb15f2a08160994e59ca2845efee047ee56f5c70bada6ee079c979afe6c5a") true over (fun _ h => by cases h) by_text (fun _ h => by cases h) topPrints_row_tie rfl ⟨rfl, rfl⟩ main_is rfl
    (fun f fn hf hfn => by
      obtain rfl : f = 4 := Option.some.inj (named_at.symm.trans hf) |>.symm
      obtain rfl : fn = Tryz.f4 := (Option.some.inj (Tryz.func4.symm.trans hfn)).symm
      exact ⟨looks_is, fun j t ht => by
        rw [Tryz.params4] at ht
        have hm : t ∈ [35] := by simpa using Array.mem_of_getElem? ht
        have hall : ([35].all fun u => !Tryz.prog.wantsStandIn u) = true := by kernel_rfl
        exact (show Tryz.prog.wantsStandIn t = false by simpa using List.all_eq_true.1 hall t hm)⟩)
    goes_by
#print axioms proved
end Go.Proofs.YtchokmhfgikglaaGreatDoor.topPrints
