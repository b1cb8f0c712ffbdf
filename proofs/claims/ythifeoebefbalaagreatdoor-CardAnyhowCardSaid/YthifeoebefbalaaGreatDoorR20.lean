/- The law CardAnyhow. -/
import Derived.Test.YthifeoebefbalaaGreatDoorR19
import Derived.Test.YthifeoebefbalaaGreatDoorZ12
import Derived.Test.YthifeoebefbalaaGreatDoorZ9
namespace Go.Proofs.YthifeoebefbalaaGreatDoor
open Go.RowKit

theorem words_gap (x r : List UInt8) (hr : ∀ c ∈ r, gapU c = true) : wordsOf (x ++ r) = wordsOf x := by
  induction r generalizing x with
  | nil => simp
  | cons c r ih =>
    rw [show x ++ c :: r = (x ++ [c]) ++ r by simp, ih _ (fun d hd => hr d (by simp [hd])), wordsOf, wordsOf, wfold_snoc, wstep, if_pos (hr c (by simp))]
    by_cases h : (wfold x).2 = []
    · simp [h]
    · simp [h]
theorem words_front (r x : List UInt8) (hr : ∀ c ∈ r, gapU c = true) : wordsOf (r ++ x) = wordsOf x := by
  have h : r.foldl wstep ([], []) = (([], []) : List (List UInt8) × List UInt8) := by
    induction r with
    | nil => rfl
    | cons c r ih => rw [List.foldl_cons, wstep, if_pos (hr c (by simp)), if_pos rfl]; exact ih (fun d hd => hr d (by simp [hd]))
  rw [wordsOf, wordsOf, wfold, List.foldl_append, h]
  rfl
theorem line_same {a b : List UInt8} (h : wordsOf a = wordsOf b) (ha : a.length ≤ 200) (hb : b.length ≤ 200) (c : Card) : lineR a c = lineR b c := by
  rw [lineR, lineR, if_neg (by omega), if_neg (by omega), h]
theorem reads_self (v : Rd) : readsB v (rdC v) (rdE v) = true := by simp [readsB]
theorem box_named {P : Program} {c : Code} {a : Act} {W : World} {Q : Exit → Act → World → Prop} (F : World → Prop) (h : F W) (k : ∀ V, F V → c.wp P Q a V) : c.wp P Q a W := k W h
theorem newA1 (w : World) (o : Obj) (b : Nat) (h : w.heap.size = b) : Hid ((w.alloc o).heap[b]? = some o) := Lib.hid (new_block w o b h)
set_option maxRecDepth 100000 in
set_option maxHeartbeats 4000000 in
theorem c5 (t : List UInt8) (bits : Int) (w : World) (b0 : -9223372036854775808 ≤ bits) (b1 : bits ≤ 9223372036854775807) (hl : t.length ≤ 140737488351232) (hE : Env w) (hC : Cell0 w) : Calls Tryz.prog 5 #[.string ⟨t.toArray⟩, .int .i64 bits] w fun e w' => e = .returned (.bool true) ∧ Below w.heap.size w w' := by
  have HE := Lib.hid hE
  have HC := Lib.hid hC
  clear hE hC
  by_cases h60 : 60 < t.length
  · go_enter Tryz.func5, Tryz.ntmps5
    go_wp2_with (go_at_call 22; refine (c22 _ HE.out HC.out).mono ?_; rintro e w1 ⟨rfl, hb1⟩)
    go_ret
    exact ⟨rfl, hb1⟩
  · have H1 := fun W hW => Lib.hid (c23 t W hW)
    have H2 := fun W => Lib.hid (c28 t bits W (by omega) b0 b1)
    have l1 := restL_len t bits
    have q1 : lineR (restL t bits) zcard = lineR t zcard := line_same (restL_words t bits) (by omega) (by omega) _
    have q2 : lineR (59 :: 32 :: (t ++ [32, 9])) zcard = lineR t zcard := by
      refine line_same ?_ (by simp; omega) (by omega) _
      rw [show 59 :: 32 :: (t ++ [32, 9]) = [59, 32] ++ (t ++ [32, 9]) from rfl, words_front _ _ (by decide), words_gap _ _ (by decide)]
    have H3 := fun c x W hW => Lib.hid (c27 (restL t bits) c x W hW)
    have H4 := fun c x W hW => Lib.hid (c27 (59 :: 32 :: (t ++ [32, 9])) c x W hW)
    rw [q1] at H3
    rw [q2] at H4
    have HS := Lib.hid (reads_self (lineR t zcard))
    obtain ⟨v, hv⟩ : ∃ v, lineR t zcard = v := ⟨_, rfl⟩
    rw [hv] at H1 H3 H4 HS
    clear hv q1 q2
    obtain ⟨x, hx⟩ : ∃ x, rdE v = x := ⟨_, rfl⟩
    obtain ⟨⟨c1, c2, c3, c4, c5, c6⟩, hc⟩ : ∃ c, rdC v = c := ⟨_, rfl⟩
    have H3 := H3 (rdC v) x
    have H4 := H4 (rdC v) x
    rw [← hx] at H3 H4
    rw [HS.out] at H3 H4
    rw [hc, hx] at H1
    rw [hc, hx] at H3 H4
    clear hc hx HS
    unfold cv strv at H1 H3 H4
    unfold strv at H2
    simp only at H1 H3 H4
    generalize restL t bits = R at H2 H3 l1
    go_enter Tryz.func5, Tryz.ntmps5
    go_wp2_with fail
    refine ((H1 _ HC.out).out).mono ?_
    rintro r X1 ⟨rfl, hb⟩
    obtain ⟨B, hB⟩ : ∃ b, X1.heap.size = b := ⟨_, rfl⟩
    go_wp2_with fail
    try rw [hB]
    refine box_named (fun V => Below w.heap.size w V ∧ Hid (V.heap[B]? = some (cellsOf ⟨c1, c2, c3, c4, c5, c6⟩))) ⟨xa hb _, newA1 _ _ _ hB⟩ ?_
    clear hb hB
    rintro V ⟨hV, K⟩
    obtain ⟨t0, t1, t2, t3, t4, t5, tF, tL⟩ := cellsOf_at K.out
    refine wp_region_gw (by kernel_rfl) (by kernel_rfl) ?_
    repeat (go_big_quiet_step (first
      | (go_at_call 22; exact gw_call (c22 _ (HE.out.below (hV.trans ((gw_below _ _).mono hV.size))) (HC.out.below (hV.trans ((gw_below _ _).mono hV.size)) HC.out.lt)))
      | (go_at_call 28; exact gw_call (H2 _).out)
      | (go_at_call 27; with_reducible exact gw_call (H3 _ (HC.out.below (hV.trans ((gw_below _ _).mono hV.size)) HC.out.lt)).out)
      | (go_at_call 27; with_reducible exact gw_call (H4 _ (HC.out.below (hV.trans ((gw_below _ _).mono hV.size)) HC.out.lt)).out)))
    refine wpQuiet_nil ?_
    rintro _ ⟨x2, rfl⟩
    go_wp2_with fail
    go_ret
    exact ⟨rfl, hV.trans ((gw_below _ _).mono hV.size)⟩
theorem w5 (text : ByteArray) (bits : Int) (w : World) (ht : text.size ≤ 140737488351232) (hb : -9223372036854775808 ≤ bits ∧ bits ≤ 9223372036854775807) (hE : Env w) (hC : Cell0 w) : Calls Tryz.prog 5 #[.string text, .int .i64 bits] w fun e w' => e = .returned (.bool true) ∧ Below w.heap.size w w' := by
  have e : text = ⟨text.data.toList.toArray⟩ := by cases text; simp
  rw [e]
  exact c5 text.data.toList bits w hb.1 hb.2 (by simpa using ht) hE hC
end Go.Proofs.YthifeoebefbalaaGreatDoor
