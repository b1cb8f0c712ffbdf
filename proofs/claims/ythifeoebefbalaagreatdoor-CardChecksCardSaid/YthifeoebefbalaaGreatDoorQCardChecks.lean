/- The law CardChecks (for all cards Check, Print, Says and Order return what the specification returns) holds. No condition. -/
import Derived.Test.YthifeoebefbalaaGreatDoorZ13
import Derived.Test.YthifeoebefbalaaGreatDoorR17
set_option linter.unusedVariables false
set_option linter.unusedSimpArgs false
namespace Go.Proofs.YthifeoebefbalaaGreatDoor.cardChecks
open Go.ChangeShapes Go.WideShapes Go.ChangeAt Go.RowKit
open Go.ChangeMaps (open_string shut_string)

theorem x_inPlace : (Rows.cardChecksRow.inPlace == Tryz.pinned.checked.prog.inPlace 17) = true := by kernel_rfl
theorem x_unfollowed : (Rows.cardChecksRow.unfollowed == Tryz.pinned.checked.prog.unfollowed 17) = true := by kernel_rfl
theorem x_recurses : (Rows.cardChecksRow.recurses == Tryz.pinned.checked.prog.recurses 17) = true := by kernel_rfl
theorem x_named : (Rows.cardChecksRow.named == Tryz.pinned.checked.prog.varsNamed 17) = true := by kernel_rfl
theorem x_goes : false = Rows.cardChecksRow.goesBy Tryz.pinned.checked.prog := by kernel_rfl
set_option maxRecDepth 100000 in
set_option maxHeartbeats 40000000 in
theorem closed : joinedFacts Tryz.pinned.checked.prog 17 Tryz.f17 (OpenSpec.ofChange Rows.cardChecksSpec).bare Rows.cardChecksRow = true := by
  delta joinedFacts
  exact (and2 (and2 (and2 (and2 (and2 (and2 (and2 (and2 (and2 (and2 (and2 (and2 (and2 (and2 (and2 (and2 (and2 (and2 (and2 (and2 (and2 (and2 (and2 (and2 (and2 (and2 (and2 (and2 (and2 (and2 (and2 (by as_aux_lemma => kernel_rfl) s_laidOut) s_mapsRowed) (by as_aux_lemma => kernel_rfl)) (by as_aux_lemma => kernel_rfl)) (by as_aux_lemma => kernel_rfl)) s_stops) (by as_aux_lemma => kernel_rfl)) s_knobs) x_inPlace) x_unfollowed) x_recurses) x_named) (by as_aux_lemma => kernel_rfl)) (by as_aux_lemma => kernel_rfl)) (by as_aux_lemma => kernel_rfl)) (by as_aux_lemma => kernel_rfl)) (by as_aux_lemma => kernel_rfl)) (by as_aux_lemma => kernel_rfl)) (by as_aux_lemma => kernel_rfl)) (by as_aux_lemma => kernel_rfl)) (by as_aux_lemma => kernel_rfl)) (by as_aux_lemma => kernel_rfl)) (by as_aux_lemma => kernel_rfl)) s_heard) s_may) (by as_aux_lemma => kernel_rfl)) (by as_aux_lemma => kernel_rfl)) (by as_aux_lemma => kernel_rfl)) (by as_aux_lemma => kernel_rfl)) (by as_aux_lemma => kernel_rfl)) (by as_aux_lemma => kernel_rfl))
noncomputable def args0 : Array Value := #[.agg #[.int .i64 0, .int .i64 0, .int .i64 0, .int .i64 0, .int .i64 0, .int .i64 0], .agg #[.int .i64 0, .int .i64 0, .int .i64 0, .int .i64 0, .int .i64 0, .int .i64 0]]
set_option maxRecDepth 100000 in
theorem lifted (os : Os) (started : os.Started) (H : Type) (enc : TypeId × Value → H) (F : Stop.Interp) :
    ReturnsInHanded {} Tryz.checked os 17 .any ((OpenSpec.ofChange Rows.cardChecksSpec).preRow enc Tryz.prog Tryz.f17 Rows.cardChecksRow.domain false Rows.cardChecksRow.laid) (((OpenSpec.ofChange Rows.cardChecksSpec).at F).post enc Tryz.prog Tryz.f17 false true false false) := by
  refine returnsInHanded_of_row (C := Tryz.checked) (s := OpenSpec.ofChange Rows.cardChecksSpec) own started (by kernel_rfl) Tryz.func17
    (ChangeSpec.witness_shaped (enc := enc) (C := Tryz.checked) (os := os) (s := Rows.cardChecksSpec) (X := fun w _ => laidMetH Tryz.prog laidL w) false (World.laidAll Tryz.prog os laidL) args0 8 (World.laidAll_os _ _ _)
      (World.shaped_of_ZipB (by kernel_rfl) (by kernel_rfl)) (by kernel_rfl) (by kernel_rfl) (by kernel_rfl)
      (by rw [MakeChecks.laidMetH_plain Tryz.prog laidL _ plainL]; exact laidMet_laidAll _ (by kernel_rfl) (by kernel_rfl))) ?_
  intro W base args ds gs before hval0 hW _ _ hsz0 hL hsh _
  have hsz : (DataW.weightsEach Tryz.prog (Tryz.f17.params.toList ++ Rows.cardChecksSpec.plain.varTypes Tryz.prog) (ds ++ gs)).all (· ≤ reachBytes) = true := hsz0
  have hval : ∀ (j : Nat) t v, Tryz.f17.params[j]? = some t → args[j]? = some v → Value.okWide Tryz.prog W .any base t v := hval0
  have hW' := hW
  obtain ⟨p, q, hA0, hV, rfl, hfz, hnd⟩ := hW
  have hA : DataW.TrodAll enc Tryz.prog W 0 (fun _ => true) true Tryz.f17.params.toList args.toList ds p := hA0
  rw [Tryz.params17] at hA hval hsz
  obtain ⟨v0, vs0, d0, ds0, p0, q0, hargs, rfl, rfl, h0, r0⟩ := trodAll_cons hA
  obtain ⟨v1, vs1, d1, ds1, p1, q1, rfl, rfl, rfl, h1, r1⟩ := trodAll_cons r0
  obtain ⟨rfl, rfl, rfl⟩ := trodAll_nil r1
  obtain rfl : args = #[v0, v1] := by cases args; simp_all
  obtain ⟨rfl, rfl⟩ := trodVars_none hV
  obtain ⟨a, rfl, wa_st, wa_da, wa_dy, wa_ki, wa_am, wa_fi⟩ := open_card (hval 0 24 v0 rfl rfl) h0
  obtain ⟨b, rfl, wb_st, wb_da, wb_dy, wb_ki, wb_am, wb_fi⟩ := open_card (hval 1 24 v1 rfl rfl) h1
  have hE := env_of hL hsh
  have lt0 : ∀ x ∈ p0, x.block < W.heap.size := by obtain ⟨k, hk⟩ := h0; exact DataW.trod_lt k _ _ _ hk
  have lt1 : ∀ x ∈ p1, x.block < W.heap.size := by obtain ⟨k, hk⟩ := h1; exact DataW.trod_lt k _ _ _ hk
  clear hA0 hval0 hsz0 hsz
  refine (w17 a.st a.da a.dy a.ki a.am a.fi b.st b.da b.dy b.ki b.am b.fi W wa_st wa_da wa_dy wa_ki wa_am wa_fi wb_st wb_da wb_dy wb_ki wb_am wb_fi hE (cell0_of hE)).mono fun e W' ⟨he, bel⟩ => ?_
  subst he
  exact ⟨_, rfl, _, _, _, [], _, [], hW', trodAll_mk1 (shut_bool Tryz.underlying4 _), (trodAll_cons_mk (Below.trod laidOut (by kernel_rfl) (of_decide_eq_true (by kernel_rfl)) h0 bel lt0) (trodAll_cons_mk (Below.trod laidOut (by kernel_rfl) (of_decide_eq_true (by kernel_rfl)) h1 bel lt1) trodAll_mk0)), rfl, bel.frame _, fun h => by cases h⟩
theorem said : Rows.CardChecksSaid :=
  OpenClaim.holds_of_cond 17 Tryz.f17 rfl rfl rfl rfl rfl rfl rfl ⟨rfl, rfl, rfl, rfl, rfl⟩ rfl rfl rfl rfl rfl (by as_aux_lemma => kernel_rfl) Tryz.func17 closed
    (of_decide_eq_true (by as_aux_lemma => kernel_rfl)) (by unfold Func.isWrapper; first | (rw [if_pos (by decide +kernel)]; kernel_rfl) | (rw [if_neg (by decide +kernel)]; exact ⟨rfl, rfl⟩))
    (fun os started H enc _ F => by rw [OpenClaim.pre_eq_preRow]; exact lifted os started H enc F)
theorem plain (f : FuncId) (fn : Func) (hf : Tryz.pinned.checked.prog.funcNamed "udometer/udometerlaw02.CardChecks" = some f) (hfn : Tryz.pinned.checked.prog.funcs[f]? = some fn) :
    true = Tryz.pinned.checked.prog.looks [] ∧ ∀ (j : Nat) t, fn.params[j]? = some t → Tryz.pinned.checked.prog.wantsStandIn t = false := by
  obtain rfl : f = 17 := Option.some.inj ((show Tryz.prog.funcNamed "udometer/udometerlaw02.CardChecks" = some 17 by kernel_rfl).symm.trans hf) |>.symm
  obtain rfl : fn = Tryz.f17 := (Option.some.inj (Tryz.func17.symm.trans hfn)).symm
  refine ⟨s_looks, fun j t ht => ?_⟩
  rw [Tryz.params17] at ht
  have hm : t ∈ [24, 24] := by simpa using Array.mem_of_getElem? ht
  simp only [List.mem_cons, List.not_mem_nil, or_false] at hm
  rcases hm with rfl | rfl
  all_goals exact (show Tryz.prog.wantsStandIn _ = false by kernel_rfl)
theorem card : Rows.CardChecksCardSaid :=
  Claim7.holds_tied_plain_at .later [] _ _ _ _ said (fun _ h => by cases h) (by as_aux_lemma => kernel_rfl) (fun _ h => by cases h) cardChecks_row_tie rfl ⟨rfl, rfl⟩ (by as_aux_lemma => kernel_rfl) rfl plain x_goes
end Go.Proofs.YthifeoebefbalaaGreatDoor.cardChecks
namespace Go.Proofs.YthifeoebefbalaaGreatDoor
/-- CardChecks, for the claim. -/
theorem cardChecks_holds : Rows.CardChecksCardSaid := cardChecks.card
end Go.Proofs.YthifeoebefbalaaGreatDoor
