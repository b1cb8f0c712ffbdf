/- The reference: equal lists of cards; the error of a list. -/
import Derived.Test.YthifeoebefbalaaGreatDoorV15
set_option linter.unusedVariables false
set_option linter.unusedSimpArgs false
namespace Go.Proofs.YthifeoebefbalaaGreatDoor
open Go.RowKit

theorem c37_K {st da dy ki am fi : Int} {b : Bool} (h : isCard ⟨st, da, dy, ki, am, fi⟩ = b) : ∀ W, Hid (Calls Tryz.prog 37 #[.agg #[.int .i64 st, .int .i64 da, .int .i64 dy, .int .i64 ki, .int .i64 am, .int .i64 fi]] W fun e w' => e = .returned (.bool b) ∧ Below W.heap.size W w') := fun W => Lib.hid (by rw [← h]; exact c37 st da dy ki am fi W)
theorem allErr_take {l : List Card} {i : Nat} {c : Card} (h : ∀ d ∈ l.take i, isCard d = true) (hc : l[i]? = some c) (hv : isCard c = true) : ∀ d ∈ l.take (i + 1), isCard d = true := fun d hd => by
  rw [List.take_add_one, hc] at hd
  rcases List.mem_append.1 hd with hd | hd
  · exact h d hd
  · simp at hd; rw [hd]; exact hv
set_option maxRecDepth 100000 in
theorem c41_nil (a : Option Addr) (cap : Nat) (w : World) : Calls Tryz.prog 41 #[.slice a 0 cap] w fun e w' => e = .returned (.int .i64 0) ∧ Below w.heap.size w w' := by
  go_enter Tryz.func41, Tryz.ntmps41
  go_wp2
  refine wp_loop_rounds 1 ?_
  rw [rounds_succ]
  go_wp2
  go_ret
  exact ⟨rfl, xr _⟩
set_option maxRecDepth 100000 in
theorem c41_many (a : Option Addr) (n cap : Nat) (w : World) (hn : 100 < n) : Calls Tryz.prog 41 #[.slice a n cap] w fun e w' => e = .returned (.int .i64 2) ∧ Below w.heap.size w w' := by
  go_enter Tryz.func41, Tryz.ntmps41
  go_wp2
  go_ret
  exact ⟨rfl, xr _⟩
set_option maxRecDepth 100000 in
set_option maxHeartbeats 4000000 in
theorem c41_ok (l : List Card) (b o cap : Nat) (w : World) (h : CardsAt w b o l) (h100 : ¬ 100 < l.length) (hne : l ≠ []) : Calls Tryz.prog 41 #[.slice (some ⟨b, o, none⟩) l.length cap] w fun e w' => e = .returned (.int .i64 (eachErr l)) ∧ Below w.heap.size w w' := by
  obtain ⟨R, hR⟩ : ∃ R, eachErr l = R := ⟨_, rfl⟩
  rw [hR]
  have HR := Lib.hid hR
  have HB := Lib.hid h
  clear h hR hne
  obtain ⟨n, hn⟩ : ∃ n, l.length = n := ⟨_, rfl⟩
  rw [hn] at h100 ⊢
  have HN := Lib.hid hn
  clear hn
  go_enter Tryz.func41, Tryz.ntmps41
  go_wp2
  go_loopw [3] (fun k wr => ∃ i : Nat, i ≤ n ∧ k = .int .i64 i ∧ Hid (∀ d ∈ l.take i, isCard d = true) ∧ Hid (Below w.heap.size w wr)) (fun k _ => n - (intOf k).toNat)
  case atStart => exact ⟨0, by omega, rfl, Lib.hid (by simp), Lib.hid (xr _)⟩
  case round =>
    obtain ⟨i, hi, rfl, HV, hb⟩ := hrel
    by_cases hlt : i < n
    · obtain ⟨c, hc⟩ : ∃ c, l[i]? = some c := by
        have := HN.out
        exact ⟨l[i]'(by omega), by simp⟩
      have hcs := (HB.out.below hb.out) i c hc
      have HC := Lib.hid hc
      obtain ⟨st, da, dy, ki, am, fi⟩ := c
      obtain ⟨h0, h1, h2, h3, h4, h5⟩ := hcs
      clear hc
      simp only at h0 h1 h2 h3 h4 h5
      cases hv : isCard ⟨st, da, dy, ki, am, fi⟩ with
      | true =>
        have H37 := c37_K hv
        have HV2 := Lib.hid (allErr_take HV.out HC.out hv)
        clear hv
        go_wp2_with (go_at_call 37; refine (H37 _).out.mono ?_; rintro e w2 ⟨rfl, hb2⟩)
        go_roundw
        case rel => exact ⟨i + 1, by omega, by go_num, HV2, Lib.hid (below_trans hb.out hb2)⟩
        case measure => simp [intOf]; omega
      | false =>
        have H37 := c37_K hv
        have HX : Hid (R = 1) := Lib.hid (by
          rw [← HR.out, eachErr, if_neg]
          intro hall
          have := List.all_eq_true.1 hall _ (List.mem_of_getElem? HC.out)
          rw [hv] at this
          cases this)
        clear hv
        go_wp2_with (go_at_call 37; refine (H37 _).out.mono ?_; rintro e w2 ⟨rfl, hb2⟩)
        go_ret
        refine ⟨?_, below_trans hb.out hb2⟩
        rw [HX.out]
        rfl
    · go_wp2
      go_ret
      have hin : i = n := by omega
      subst hin
      have e : R = 0 := by
        rw [← HR.out, eachErr, if_pos]
        rw [List.all_eq_true]
        intro d hd
        exact HV.out d (by rw [List.take_of_length_le (by rw [HN.out]; omega)]; exact hd)
      refine ⟨?_, hb.out⟩
      rw [e]
      rfl
theorem c41 (l : List Card) (v : Value) (w : World) (h : CardsV w v l) : Calls Tryz.prog 41 #[v] w fun e w' => e = .returned (.int .i64 (allErr l)) ∧ Below w.heap.size w w' := by
  obtain ⟨a, cap, rfl, k⟩ := h
  unfold allErr
  by_cases hn : 100 < l.length
  · rw [if_pos hn]; exact c41_many a _ cap w hn
  · rw [if_neg hn]
    by_cases hne : l = []
    · subst hne; exact c41_nil a cap w
    · obtain ⟨b, o, rfl, hc⟩ := k hne
      exact c41_ok l b o cap w hc hn hne
set_option maxRecDepth 100000 in
theorem c39_nil (a a' : Option Addr) (cap cap' : Nat) (w : World) : Calls Tryz.prog 39 #[.slice a 0 cap, .slice a' 0 cap'] w fun e w' => e = .returned (.bool true) ∧ Below w.heap.size w w' := by
  go_enter Tryz.func39, Tryz.ntmps39
  go_wp2
  refine wp_loop_rounds 1 ?_
  rw [rounds_succ]
  go_wp2
  go_ret
  exact ⟨rfl, xr _⟩
set_option maxRecDepth 100000 in
set_option maxHeartbeats 4000000 in
theorem c39_ok (l : List Card) (b o cap b' o' cap' : Nat) (w : World) (h : CardsAt w b o l) (h' : CardsAt w b' o' l) (hs : l.length ≤ 1000) : Calls Tryz.prog 39 #[.slice (some ⟨b, o, none⟩) l.length cap, .slice (some ⟨b', o', none⟩) l.length cap'] w fun e w' => e = .returned (.bool true) ∧ Below w.heap.size w w' := by
  have HB := Lib.hid h
  have HB' := Lib.hid h'
  clear h h'
  obtain ⟨n, hn⟩ : ∃ n, l.length = n := ⟨_, rfl⟩
  rw [hn] at hs ⊢
  have HN := Lib.hid hn
  clear hn
  go_enter Tryz.func39, Tryz.ntmps39
  go_wp2
  go_loopw [5] (fun k wr => ∃ i : Nat, i ≤ n ∧ k = .int .i64 i ∧ Hid (Below w.heap.size w wr)) (fun k _ => n - (intOf k).toNat)
  case atStart => exact ⟨0, by omega, rfl, Lib.hid (xr _)⟩
  case round =>
    obtain ⟨i, hi, rfl, hb⟩ := hrel
    by_cases hlt : i < n
    · obtain ⟨c, hc⟩ : ∃ c, l[i]? = some c := by
        have := HN.out
        exact ⟨l[i]'(by omega), by simp⟩
      have hcs := (HB.out.below hb.out) i c hc
      have hcs' := (HB'.out.below hb.out) i c hc
      obtain ⟨st, da, dy, ki, am, fi⟩ := c
      obtain ⟨h0, h1, h2, h3, h4, h5⟩ := hcs
      obtain ⟨g0, g1, g2, g3, g4, g5⟩ := hcs'
      clear hc
      simp only at h0 h1 h2 h3 h4 h5 g0 g1 g2 g3 g4 g5
      have lb : b < wr.heap.size := World.block_lt_of_cell? _ _ h0
      have lb' : b' < wr.heap.size := World.block_lt_of_cell? _ _ g0
      go_wp2_with fail
      refine wp_region_gw (by kernel_rfl) (by kernel_rfl) ?_
      repeat (go_big_quiet_step (fail))
      refine wpQuiet_nil ?_
      rintro _ ⟨y, rfl⟩
      go_wp2_with fail
      go_roundw
      case rel => exact ⟨i + 1, by omega, by go_num, Lib.hid (below_trans hb.out (gw_below _ _))⟩
      case measure => simp [intOf]; omega
    · go_wp2
      go_ret
      exact ⟨rfl, hb.out⟩
theorem c39 (l : List Card) (v v' : Value) (w : World) (h : CardsV w v l) (h' : CardsV w v' l) (hs : l.length ≤ 1000) : Calls Tryz.prog 39 #[v, v'] w fun e w' => e = .returned (.bool true) ∧ Below w.heap.size w w' := by
  obtain ⟨a, cap, rfl, k⟩ := h
  obtain ⟨a', cap', rfl, k'⟩ := h'
  by_cases hne : l = []
  · subst hne; exact c39_nil a a' cap cap' w
  · obtain ⟨b, o, rfl, hc⟩ := k hne
    obtain ⟨b', o', rfl, hc'⟩ := k' hne
    exact c39_ok l b o cap b' o' cap' w hc hc' hs
end Go.Proofs.YthifeoebefbalaaGreatDoor
