/- The law CardRunning of layer 2 returns true for all lists of cards, two stations, and a number: what theorem C3 says of Runs and Copied. No condition. -/
import Derived.Test.YthifeoebefbalaaGreatDoorCR1
import Derived.Test.YthifeoebefbalaaGreatDoorCR2
import Derived.Test.YthifeoebefbalaaGreatDoorCR3
import Derived.Test.YthifeoebefbalaaGreatDoorCR4
import Derived.Test.YthifeoebefbalaaGreatDoorCR5
import Derived.Test.YthifeoebefbalaaGreatDoorCR6
import Derived.Test.YthifeoebefbalaaGreatDoorCR7
import Derived.Test.YthifeoebefbalaaGreatDoorCR8
import Derived.Test.YthifeoebefbalaaGreatDoorCR9
import Derived.Test.YthifeoebefbalaaGreatDoorCR10
import Derived.Test.YthifeoebefbalaaGreatDoorCR11
import Derived.Test.YthifeoebefbalaaGreatDoorCR12
import Derived.Test.YthifeoebefbalaaGreatDoorCR13
import Derived.Test.YthifeoebefbalaaGreatDoorCR14
import Derived.Test.YthifeoebefbalaaGreatDoorCR15
import Derived.Test.YthifeoebefbalaaGreatDoorCR16
import Derived.Test.YthifeoebefbalaaGreatDoorCS1
set_option linter.unusedVariables false
set_option linter.unusedSimpArgs false
namespace Go.Proofs.YthifeoebefbalaaGreatDoor.cardRunning
open Go.ChangeShapes Go.WideShapes Go.ChangeAt Go.RowKit
open Go.ChangeMaps (open_string shut_string)

theorem x_inPlace : (Rows.cardRunningRow.inPlace == Tryz.pinned.checked.prog.inPlace 21) = true := by kernel_rfl
theorem x_unfollowed : (Rows.cardRunningRow.unfollowed == Tryz.pinned.checked.prog.unfollowed 21) = true := by kernel_rfl
theorem x_recurses : (Rows.cardRunningRow.recurses == Tryz.pinned.checked.prog.recurses 21) = true := by kernel_rfl
theorem x_named : (Rows.cardRunningRow.named == Tryz.pinned.checked.prog.varsNamed 21) = true := by kernel_rfl
theorem x_goes : false = Rows.cardRunningRow.goesBy Tryz.pinned.checked.prog := by kernel_rfl
set_option maxRecDepth 100000 in
set_option maxHeartbeats 40000000 in
theorem closed : joinedFacts Tryz.pinned.checked.prog 21 Tryz.f21 (OpenSpec.ofChange Rows.cardRunningSpec).bare Rows.cardRunningRow = true := by
  delta joinedFacts
  exact (and2 (and2 (and2 (and2 (and2 (and2 (and2 (and2 (and2 (and2 (and2 (and2 (and2 (and2 (and2 (and2 (and2 (and2 (and2 (and2 (and2 (and2 (and2 (and2 (and2 (and2 (and2 (and2 (and2 (and2 (and2 (by as_aux_lemma => kernel_rfl) s_laidOut) s_mapsRowed) (by as_aux_lemma => kernel_rfl)) (by as_aux_lemma => kernel_rfl)) (by as_aux_lemma => kernel_rfl)) s_stops) (by as_aux_lemma => kernel_rfl)) s_knobs) x_inPlace) x_unfollowed) x_recurses) x_named) (by as_aux_lemma => kernel_rfl)) (by as_aux_lemma => kernel_rfl)) (by as_aux_lemma => kernel_rfl)) (by as_aux_lemma => kernel_rfl)) (by as_aux_lemma => kernel_rfl)) (by as_aux_lemma => kernel_rfl)) (by as_aux_lemma => kernel_rfl)) (by as_aux_lemma => kernel_rfl)) (by as_aux_lemma => kernel_rfl)) (by as_aux_lemma => kernel_rfl)) (by as_aux_lemma => kernel_rfl)) s_heard) s_may) (by as_aux_lemma => kernel_rfl)) (by as_aux_lemma => kernel_rfl)) (by as_aux_lemma => kernel_rfl)) (by as_aux_lemma => kernel_rfl)) (by as_aux_lemma => kernel_rfl)) (by as_aux_lemma => kernel_rfl))
noncomputable def args0 : Array Value := #[.slice none 0 0, .int .i64 0, .int .i64 0, .int .u8 0]
set_option maxRecDepth 100000 in
theorem lifted (os : Os) (started : os.Started) (H : Type) (enc : TypeId × Value → H) (F : Stop.Interp) :
    ReturnsInHanded {} Tryz.checked os 21 .any ((OpenSpec.ofChange Rows.cardRunningSpec).preRow enc Tryz.prog Tryz.f21 Rows.cardRunningRow.domain false Rows.cardRunningRow.laid) (((OpenSpec.ofChange Rows.cardRunningSpec).at F).post enc Tryz.prog Tryz.f21 false true false false) := by
  refine returnsInHanded_of_row (C := Tryz.checked) (s := OpenSpec.ofChange Rows.cardRunningSpec) own started (by kernel_rfl) Tryz.func21
    (ChangeSpec.witness_shaped (enc := enc) (C := Tryz.checked) (os := os) (s := Rows.cardRunningSpec) (X := fun w _ => laidMetH Tryz.prog laidL w) false (World.laidAll Tryz.prog os laidL) args0 8 (World.laidAll_os _ _ _)
      (World.shaped_of_ZipB (by kernel_rfl) (by kernel_rfl)) (by kernel_rfl) (by kernel_rfl) (by kernel_rfl)
      (by rw [MakeChecks.laidMetH_plain Tryz.prog laidL _ plainL]; exact laidMet_laidAll _ (by kernel_rfl) (by kernel_rfl))) ?_
  intro W base args ds gs before hval0 hW _ _ hsz0 hL hsh _
  have hsz : (DataW.weightsEach Tryz.prog (Tryz.f21.params.toList ++ Rows.cardRunningSpec.plain.varTypes Tryz.prog) (ds ++ gs)).all (· ≤ reachBytes) = true := hsz0
  have hval : ∀ (j : Nat) t v, Tryz.f21.params[j]? = some t → args[j]? = some v → Value.okWide Tryz.prog W .any base t v := hval0
  have hW' := hW
  obtain ⟨p, q, hA0, hV, rfl, hfz, hnd⟩ := hW
  have hA : DataW.TrodAll enc Tryz.prog W 0 (fun _ => true) true Tryz.f21.params.toList args.toList ds p := hA0
  rw [Tryz.params21] at hA hval hsz
  obtain ⟨v0, vs0, d0, ds0, p0, q0, hargs, rfl, rfl, h0, r0⟩ := trodAll_cons hA
  obtain ⟨v1, vs1, d1, ds1, p1, q1, rfl, rfl, rfl, h1, r1⟩ := trodAll_cons r0
  obtain ⟨v2, vs2, d2, ds2, p2, q2, rfl, rfl, rfl, h2, r2⟩ := trodAll_cons r1
  obtain ⟨v3, vs3, d3, ds3, p3, q3, rfl, rfl, rfl, h3, r3⟩ := trodAll_cons r2
  obtain ⟨rfl, rfl, rfl⟩ := trodAll_nil r3
  obtain rfl : args = #[v0, v1, v2, v3] := by cases args; simp_all
  obtain ⟨rfl, rfl⟩ := trodVars_none hV
  obtain ⟨a, rfl, rfl, rfl, wa⟩ := open_int Tryz.underlying3 (hval 1 3 v1 rfl rfl) h1
  obtain ⟨b, rfl, rfl, rfl, wb⟩ := open_int Tryz.underlying3 (hval 2 3 v2 rfl rfl) h2
  obtain ⟨which, rfl, rfl, rfl, wwhich⟩ := open_int Tryz.underlying5 (hval 3 5 v3 rfl rfl) h3
  have hE := env_of hL hsh
  have lt0 : ∀ x ∈ p0, x.block < W.heap.size := by obtain ⟨k, hk⟩ := h0; exact DataW.trod_lt k _ _ _ hk
  clear hA0 hval0 hsz0 hsz
  refine (w21 v0 a b which W (open_cards (hval 0 49 v0 rfl rfl) h0) (intIn_of wa) (intIn_of wb) (u8In_of wwhich) hE (cell0_of hE)).mono fun e W' ⟨he, bel⟩ => ?_
  subst he
  exact ⟨_, rfl, _, _, _, [], _, [], hW', trodAll_mk1 (shut_bool Tryz.underlying4 _), (trodAll_cons_mk (Below.trod laidOut (by kernel_rfl) (of_decide_eq_true (by kernel_rfl)) h0 bel lt0) (trodAll_cons_mk (shut_int Tryz.underlying3 wa) (trodAll_cons_mk (shut_int Tryz.underlying3 wb) (trodAll_cons_mk (shut_int Tryz.underlying5 wwhich) trodAll_mk0)))), rfl, bel.frame _, fun h => by cases h⟩
theorem said : Rows.CardRunningSaid :=
  OpenClaim.holds_of_cond 21 Tryz.f21 rfl rfl rfl rfl rfl rfl rfl ⟨rfl, rfl, rfl, rfl, rfl⟩ rfl rfl rfl rfl rfl (by as_aux_lemma => kernel_rfl) Tryz.func21 closed
    (of_decide_eq_true (by as_aux_lemma => kernel_rfl)) (by unfold Func.isWrapper; first | (rw [if_pos (by decide +kernel)]; kernel_rfl) | (rw [if_neg (by decide +kernel)]; exact ⟨rfl, rfl⟩))
    (fun os started H enc _ F => by rw [OpenClaim.pre_eq_preRow]; exact lifted os started H enc F)
theorem plain (f : FuncId) (fn : Func) (hf : Tryz.pinned.checked.prog.funcNamed "udometer/udometerlaw02.CardRunning" = some f) (hfn : Tryz.pinned.checked.prog.funcs[f]? = some fn) :
    true = Tryz.pinned.checked.prog.looks [] ∧ ∀ (j : Nat) t, fn.params[j]? = some t → Tryz.pinned.checked.prog.wantsStandIn t = false := by
  obtain rfl : f = 21 := Option.some.inj ((show Tryz.prog.funcNamed "udometer/udometerlaw02.CardRunning" = some 21 by kernel_rfl).symm.trans hf) |>.symm
  obtain rfl : fn = Tryz.f21 := (Option.some.inj (Tryz.func21.symm.trans hfn)).symm
  refine ⟨s_looks, fun j t ht => ?_⟩
  rw [Tryz.params21] at ht
  have hm : t ∈ [49, 3, 3, 5] := by simpa using Array.mem_of_getElem? ht
  simp only [List.mem_cons, List.not_mem_nil, or_false] at hm
  rcases hm with rfl | rfl | rfl | rfl
  all_goals exact (show Tryz.prog.wantsStandIn _ = false by kernel_rfl)
theorem card : Rows.CardRunningCardSaid :=
  Claim7.holds_tied_plain_at .later [] _ _ _ _ said (fun _ h => by cases h) (by as_aux_lemma => kernel_rfl) (fun _ h => by cases h) cardRunning_row_tie rfl ⟨rfl, rfl⟩ (by as_aux_lemma => kernel_rfl) rfl plain x_goes
end Go.Proofs.YthifeoebefbalaaGreatDoor.cardRunning
namespace Go.Proofs.YthifeoebefbalaaGreatDoor
/-- CardRunning, for the claim. -/
theorem cardRunning_holds : Rows.CardRunningCardSaid := cardRunning.card
end Go.Proofs.YthifeoebefbalaaGreatDoor
