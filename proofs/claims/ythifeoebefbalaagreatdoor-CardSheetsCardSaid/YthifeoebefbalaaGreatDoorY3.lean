/- The reference: the kind that a word is; a month. -/
import Derived.Test.YthifeoebefbalaaGreatDoorY2
import Derived.Test.YthifeoebefbalaaGreatDoorZ9
set_option linter.unusedVariables false
set_option linter.unusedSimpArgs false
namespace Go.Proofs.YthifeoebefbalaaGreatDoor
open Go.RowKit

set_option maxRecDepth 100000 in
set_option maxHeartbeats 2000000 in
theorem c159 (s : List UInt8) (w : World) : Calls Tryz.prog 159 #[.string ⟨s.toArray⟩] w fun e w' => e = .returned (.int .i64 ((kindO s).getD 1)) ∧ w = w' := by
  by_cases h0 : s = [110, 105, 108]
  · subst h0
    go_enter Tryz.func159, Tryz.ntmps159
    go_wp2_with fail
    go_ret
    exact ⟨rfl, rfl⟩
  by_cases h1 : s = [110, 111, 110, 101]
  · subst h1
    go_enter Tryz.func159, Tryz.ntmps159
    go_wp2_with fail
    go_ret
    exact ⟨rfl, rfl⟩
  by_cases h2 : s = [45]
  · subst h2
    go_enter Tryz.func159, Tryz.ntmps159
    go_wp2_with fail
    go_ret
    exact ⟨rfl, rfl⟩
  by_cases h3 : s = [116, 114, 97, 99, 101]
  · subst h3
    go_enter Tryz.func159, Tryz.ntmps159
    go_wp2_with fail
    go_ret
    exact ⟨rfl, rfl⟩
  by_cases h4 : s = [116, 114]
  · subst h4
    go_enter Tryz.func159, Tryz.ntmps159
    go_wp2_with fail
    go_ret
    exact ⟨rfl, rfl⟩
  by_cases h5 : s = [116]
  · subst h5
    go_enter Tryz.func159, Tryz.ntmps159
    go_wp2_with fail
    go_ret
    exact ⟨rfl, rfl⟩
  by_cases h6 : s = [109, 105, 115, 115, 105, 110, 103]
  · subst h6
    go_enter Tryz.func159, Tryz.ntmps159
    go_wp2_with fail
    go_ret
    exact ⟨rfl, rfl⟩
  by_cases h7 : s = [109, 105, 115, 115]
  · subst h7
    go_enter Tryz.func159, Tryz.ntmps159
    go_wp2_with fail
    go_ret
    exact ⟨rfl, rfl⟩
  by_cases h8 : s = [63]
  · subst h8
    go_enter Tryz.func159, Tryz.ntmps159
    go_wp2_with fail
    go_ret
    exact ⟨rfl, rfl⟩
  have hk : kindO s = none := by
    have b0 : ([110, 105, 108] == s) = false := beq_eq_false_iff_ne.2 (Ne.symm h0)
    have b1 : ([110, 111, 110, 101] == s) = false := beq_eq_false_iff_ne.2 (Ne.symm h1)
    have b2 : ([45] == s) = false := beq_eq_false_iff_ne.2 (Ne.symm h2)
    have b3 : ([116, 114, 97, 99, 101] == s) = false := beq_eq_false_iff_ne.2 (Ne.symm h3)
    have b4 : ([116, 114] == s) = false := beq_eq_false_iff_ne.2 (Ne.symm h4)
    have b5 : ([116] == s) = false := beq_eq_false_iff_ne.2 (Ne.symm h5)
    have b6 : ([109, 105, 115, 115, 105, 110, 103] == s) = false := beq_eq_false_iff_ne.2 (Ne.symm h6)
    have b7 : ([109, 105, 115, 115] == s) = false := beq_eq_false_iff_ne.2 (Ne.symm h7)
    have b8 : ([63] == s) = false := beq_eq_false_iff_ne.2 (Ne.symm h8)
    simp [kindO, kindL, List.find?, b0, b1, b2, b3, b4, b5, b6, b7, b8]
  have c0 : (s == [110, 105, 108]) = false := beq_eq_false_iff_ne.2 h0
  have c1 : (s == [110, 111, 110, 101]) = false := beq_eq_false_iff_ne.2 h1
  have c2 : (s == [45]) = false := beq_eq_false_iff_ne.2 h2
  have c3 : (s == [116, 114, 97, 99, 101]) = false := beq_eq_false_iff_ne.2 h3
  have c4 : (s == [116, 114]) = false := beq_eq_false_iff_ne.2 h4
  have c5 : (s == [116]) = false := beq_eq_false_iff_ne.2 h5
  have c6 : (s == [109, 105, 115, 115, 105, 110, 103]) = false := beq_eq_false_iff_ne.2 h6
  have c7 : (s == [109, 105, 115, 115]) = false := beq_eq_false_iff_ne.2 h7
  have c8 : (s == [63]) = false := beq_eq_false_iff_ne.2 h8
  have HK := Lib.hid hk
  clear hk
  go_enter Tryz.func159, Tryz.ntmps159
  go_wp2_with fail
  go_ret
  exact ⟨ret_int (by rw [HK.out]; rfl), rfl⟩
def monArr9 : Array Value := (monNames.map strv).toArray
set_option maxRecDepth 100000 in
theorem c206 (w : World) : Calls Tryz.prog 206 #[] w fun e w' => e = .returned (.slice (some ⟨w.heap.size, 0, none⟩) 12 12) ∧ w' = w.alloc (.cells monArr9 9) := by
  go_enter Tryz.func206, Tryz.ntmps206
  go_wp2_with fail
  go_ret
  exact ⟨rfl, rfl⟩
theorem mon_name (i : Nat) (h : i < 12) : ∃ N, monNames[i]? = some N ∧ monArr9[i]? = some (.string ⟨N.toArray⟩) ∧ N.length ≤ 9 := by
  have : i = 0 ∨ i = 1 ∨ i = 2 ∨ i = 3 ∨ i = 4 ∨ i = 5 ∨ i = 6 ∨ i = 7 ∨ i = 8 ∨ i = 9 ∨ i = 10 ∨ i = 11 := by omega
  rcases this with rfl | rfl | rfl | rfl | rfl | rfl | rfl | rfl | rfl | rfl | rfl | rfl <;> exact ⟨_, rfl, rfl, by decide⟩
theorem prefix_take (N u : List UInt8) : Lib.hasPrefix N u = (decide (u.length ≤ N.length) && (N.take u.length == u)) := by
  rw [Lib.hasPrefix]
  by_cases h : u <+: N
  · rw [List.isPrefixOf_iff_prefix.2 h, decide_eq_true h.length_le, beq_iff_eq.2 (List.prefix_iff_eq_take.1 h).symm]; rfl
  · have e1 : List.isPrefixOf u N = false := by
      cases e : List.isPrefixOf u N with
      | false => rfl
      | true => exact absurd (List.isPrefixOf_iff_prefix.1 e) h
    have e2 : (N.take u.length == u) = false := by
      rw [beq_eq_false_iff_ne]
      intro e
      exact h (List.prefix_iff_eq_take.2 e.symm)
    rw [e1, e2, Bool.and_false]
set_option maxRecDepth 100000 in
set_option maxHeartbeats 4000000 in
theorem c164 (s : List UInt8) (w : World) (hs : s.length ≤ 4000) : Calls Tryz.prog 164 #[.string ⟨s.toArray⟩] w fun e w' => e = .returned (.int .i64 ((monthO s).getD 0)) ∧ Below w.heap.size w w' := by
  obtain ⟨R, hR⟩ : ∃ R, (monthO s).getD 0 = R := ⟨_, rfl⟩
  rw [hR]
  obtain ⟨u, hu⟩ : ∃ u, Lib.trimSuffix s [46] = u := ⟨_, rfl⟩
  have HT : ∀ W, Hid (Calls Tryz.prog 205 #[.string ⟨s.toArray⟩, .string ⟨#[46]⟩] W fun e w' => e = .returned (.string ⟨u.toArray⟩) ∧ W = w') := fun W => Lib.hid (by
    have H := c205 s [46] W hs (by simp)
    rw [hu] at H
    exact H)
  have hul : u.length ≤ 4000 := by rw [← hu]; exact Nat.le_trans (trimSuffix_len s [46]) hs
  rw [monthO, hu] at hR
  have HR := Lib.hid hR
  clear hu hR
  go_enter Tryz.func164, Tryz.ntmps164
  go_wp2_with (go_at_call 205; refine (HT _).out.mono ?_; rintro e w1 ⟨rfl, rfl⟩)
  refine (c206 _).mono ?_
  rintro e X ⟨rfl, rfl⟩
  obtain ⟨p, hp⟩ : ∃ p, w.heap.size = p := ⟨_, rfl⟩
  obtain ⟨V, hV⟩ : ∃ V, w.alloc (.cells monArr9 9) = V := ⟨_, rfl⟩
  have hB : Below w.heap.size w V := by rw [← hV]; exact below_alloc _ _
  have hc : ∀ i, V.cell? ⟨p, i, none⟩ = monArr9[i]? := fun i => by rw [← hV, ← hp]; exact cell_of_row _ _ i monArr9 9 (0, 0) (heap_alloc_new w _)
  have hpl : p < V.heap.size := by rw [← hV, ← hp]; simp
  have HC := Lib.hid hc
  rw [hV, hp]
  have HBB := Lib.hid hB
  clear hc hV hp hB
  go_wp2_with fail
  go_loopw [4] (fun iv wr => ∃ i : Nat, i ≤ 12 ∧ iv = .int .i64 i ∧ Hid (∀ j, j < i → monAt u j = false) ∧ V = wr) (fun iv _ => 20 - (intOf iv).toNat)
  case atStart => exact ⟨0, by omega, rfl, Lib.hid (fun j hj => by omega), rfl⟩
  case round =>
    obtain ⟨i, hi, rfl, HJ, rfl⟩ := hrel
    by_cases hlt : i < 12
    · obtain ⟨N, hN, hA, hNl⟩ := mon_name i hlt
      have q0 : V.cell? ⟨p, i, none⟩ = some (.string ⟨N.toArray⟩) := by rw [HC.out, hA]
      have hm : monAt u i = (decide (3 ≤ u.length) && (decide (u.length ≤ N.length) && (N.take u.length == u))) := by
        rw [monAt, prefix_take, List.getD, hN]; rfl
      have HM := Lib.hid hm
      clear hm hN hA
      by_cases h3 : 3 ≤ u.length
      · by_cases hle : u.length ≤ N.length
        · by_cases he : N.take u.length = u
          · have hb : (List.take u.length N == u) = true := beq_iff_eq.2 he
            have hR2 : R = (i : Int) + 1 := by
              have hf := find_range (monAt u) i 12 HJ.out (by rw [HM.out, decide_eq_true h3, decide_eq_true hle, hb]; rfl) hlt
              rw [← HR.out, hf]; rfl
            subst hR2
            go_wp2_with fail
            go_ret
            exact ⟨rfl, HBB.out⟩
          · have hb : (List.take u.length N == u) = false := beq_eq_false_iff_ne.2 he
            have hmi : monAt u i = false := by rw [HM.out, hb, Bool.and_false, Bool.and_false]
            have HJ2 : Hid (∀ j, j < i + 1 → monAt u j = false) := Lib.hid (fun j hj => by
              by_cases hji : j = i
              · rw [hji]; exact hmi
              · exact HJ.out j (by omega))
            clear hmi
            go_wp2_with fail
            go_roundw
            case rel => exact ⟨i + 1, by omega, by go_num, HJ2, trivial⟩
            case measure => simp [intOf]; omega
        · have hdec : decide (u.length ≤ N.length) = false := decide_eq_false hle
          have hmi : monAt u i = false := by rw [HM.out, hdec, Bool.false_and, Bool.and_false]
          have HJ2 : Hid (∀ j, j < i + 1 → monAt u j = false) := Lib.hid (fun j hj => by
            by_cases hji : j = i
            · rw [hji]; exact hmi
            · exact HJ.out j (by omega))
          clear hmi
          go_wp2_with fail
          go_roundw
          case rel => exact ⟨i + 1, by omega, by go_num, HJ2, trivial⟩
          case measure => simp [intOf]; omega
      · have hdec : decide (3 ≤ u.length) = false := decide_eq_false h3
        have hmi : monAt u i = false := by rw [HM.out, hdec, Bool.false_and]
        have HJ2 : Hid (∀ j, j < i + 1 → monAt u j = false) := Lib.hid (fun j hj => by
          by_cases hji : j = i
          · rw [hji]; exact hmi
          · exact HJ.out j (by omega))
        clear hmi
        go_wp2_with fail
        go_roundw
        case rel => exact ⟨i + 1, by omega, by go_num, HJ2, trivial⟩
        case measure => simp [intOf]; omega
    · have hi12 : i = 12 := by omega
      have hR2 : R = 0 := by
        have hf : (List.range 12).find? (monAt u) = none := by
          rw [List.find?_eq_none]
          intro j hj
          rw [HJ.out j (by rw [hi12]; exact List.mem_range.1 hj)]
          exact Bool.false_ne_true
        rw [← HR.out, hf]; rfl
      subst hR2
      go_wp2_with fail
      go_ret
      exact ⟨rfl, HBB.out⟩
end Go.Proofs.YthifeoebefbalaaGreatDoor
