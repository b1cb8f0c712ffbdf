/- Parts: Z6. -/
import Derived.Test.YthifeoebefbalaaGreatDoorCR5
import Derived.Test.YthifeoebefbalaaGreatDoorCR2
import Derived.Test.YthifeoebefbalaaGreatDoorCR3
import Derived.Test.YthifeoebefbalaaGreatDoorCR4
set_option linter.unusedVariables false
set_option linter.unusedSimpArgs false
set_option linter.unnecessarySimpa false
namespace Go.Proofs.YthifeoebefbalaaGreatDoor
open Go.RowKit

/-- What a word comes to as a date: none; a date; or the reader cannot go on. -/
inductive Jn where
  | no
  | date (d : Dt)
  | stop
def jEnd : Jn → Ending → Prop
  | .no, e => e = .returned (.tuple #[dtv ⟨0, 0, 0⟩, .bool false])
  | .date d, e => e = .returned (.tuple #[dtv d, .bool true])
  | .stop, e => e = .panicked [unread]
def signs : List UInt8 := [47, 46, 45]
/-- Three numbers with a sign between them. -/
def join3 (dash : Bool) (a b c : List UInt8) : Jn :=
  if isNum a && isNum b && isNum c then
    (if decide (1 ≤ numV b) && decide (numV b ≤ 12) then
      (if dash && decide (a.length = 4) then .date ⟨numV a, numV b, numV c⟩
       else match yearO c with
        | some y => .date ⟨y, numV b, numV a⟩
        | none => .stop)
     else .stop)
  else .no
def joinAt (s : UInt8) (l : List UInt8) : Jn :=
  match splitL s l with
  | [a, b, c] => join3 (s == 45) a b c
  | _ => .no
def joinedFrom (l : List UInt8) : List UInt8 → Jn
  | [] => .no
  | s :: ss => match joinAt s l with
    | .no => joinedFrom l ss
    | x => x
def joinedO (l : List UInt8) : Jn := joinedFrom l signs

def signsArr : Array Value := (signs.map fun s => strv [s]).toArray
theorem signsArr_at (i : Nat) (h : i < 3) : signsArr[i]? = some (strv [signs.getD i 0]) := by
  have : i = 0 ∨ i = 1 ∨ i = 2 := by omega
  rcases this with rfl | rfl | rfl <;> rfl

/-- What a sign's word is known by. -/
structure SignIs (l : List UInt8) (nm : List UInt8) (s : UInt8) : Prop where
  word : nm = [s]
  cut : ∀ W, Cell0 W → Calls Tryz.prog 82 #[.string ⟨l.toArray⟩, .string ⟨nm.toArray⟩] W fun e w' => e = .returned (.slice (some ⟨W.heap.size, 0, none⟩) (splitL s l).length (splitL s l).length) ∧ w' = W.alloc (.cells ((splitL s l).map strv).toArray 9)
theorem signIs (l : List UInt8) (s : UInt8) (hl : l.length ≤ 200) : SignIs l [s] s :=
  ⟨rfl, fun W ⟨m, hm⟩ => c82 l s m (by omega) W hm⟩

theorem signs_drop (i : Nat) (h : i < 3) : signs.drop i = signs.getD i 0 :: signs.drop (i + 1) := by
  have : i = 0 ∨ i = 1 ∨ i = 2 := by omega
  rcases this with rfl | rfl | rfl <;> rfl
theorem joinAt_not3 {s : UInt8} {l : List UInt8} (h : (splitL s l).length ≠ 3) : joinAt s l = .no := by
  unfold joinAt
  split
  · rename_i h2; rw [h2] at h; exact absurd rfl h
  · rfl
theorem joinAt_3 {s : UInt8} {l a b c : List UInt8} (h : splitL s l = [a, b, c]) : joinAt s l = join3 (s == 45) a b c := by
  unfold joinAt
  rw [h]
theorem joined_no {s : UInt8} {l : List UInt8} {ss : List UInt8} (h : joinAt s l = .no) : joinedFrom l (s :: ss) = joinedFrom l ss := by
  rw [joinedFrom, h]
theorem joined_yes {s : UInt8} {l : List UInt8} {ss : List UInt8} (h : joinAt s l ≠ .no) : joinedFrom l (s :: ss) = joinAt s l := by
  rw [joinedFrom]
  split
  · rename_i h2; exact absurd h2 h
  · rfl
theorem cells3 {w : World} {b : Nat} (h : w.heap[b]? = some (.cells #[.int .i64 0, .int .i64 0, .int .i64 0] 41 (0, 0))) :
    w.cell? ⟨b, 0, none⟩ = some (.int .i64 0) ∧ w.cell? ⟨b, 1, none⟩ = some (.int .i64 0) ∧ w.cell? ⟨b, 2, none⟩ = some (.int .i64 0) ∧ (∀ i, w.frozen? ⟨b, i, none⟩ = false) ∧ b < w.heap.size :=
  ⟨by simp [World.cell?, h], by simp [World.cell?, h], by simp [World.cell?, h], fun i => by simp [World.frozen?, h], (Array.getElem?_eq_some_iff.1 h).1⟩

/-- What lies behind a cut into three. -/
structure Parts3 (W w' : World) (a b c : List UInt8) : Prop where
  c0 : w'.cell? ⟨W.heap.size, 0, none⟩ = some (.string ⟨a.toArray⟩)
  c1 : w'.cell? ⟨W.heap.size, 1, none⟩ = some (.string ⟨b.toArray⟩)
  c2 : w'.cell? ⟨W.heap.size, 2, none⟩ = some (.string ⟨c.toArray⟩)
  fr : ∀ i, w'.frozen? ⟨W.heap.size, i, none⟩ = false
  lt : W.heap.size < w'.heap.size
  below : Below W.heap.size W w'
theorem cut3 {l nm : List UInt8} {s : UInt8} (h : SignIs l nm s) {W : World} (hC : Cell0 W) {a b c : List UInt8} (hp : splitL s l = [a, b, c]) :
    Calls Tryz.prog 82 #[.string ⟨l.toArray⟩, .string ⟨nm.toArray⟩] W fun e w' => e = .returned (.slice (some ⟨W.heap.size, 0, none⟩) 3 3) ∧ Parts3 W w' a b c := by
  have := h.cut W hC
  rw [hp] at this
  refine this.mono fun e w' ⟨h1, h2⟩ => ⟨h1, ?_⟩
  subst h2
  have hc := fun i => cell_of_row (W.alloc (.cells (([a, b, c] : List (List UInt8)).map strv).toArray 9)) W.heap.size i _ 9 (0, 0) (heap_alloc_new _ _)
  exact ⟨hc 0, hc 1, hc 2, fun i => by simp [go_sem], by simp, below_alloc _ _⟩
theorem cells3_below {w W : World} {b : Nat} (h : w.heap[b]? = some (.cells #[.int .i64 0, .int .i64 0, .int .i64 0] 41 (0, 0))) (hb : Below w.heap.size w W) :
    W.heap[b]? = some (.cells #[.int .i64 0, .int .i64 0, .int .i64 0] 41 (0, 0)) := (hb.block b (Array.getElem?_eq_some_iff.1 h).1).trans h

set_option maxRecDepth 100000 in
set_option maxHeartbeats 4000000 in
theorem c194 (l : List UInt8) (hl : l.length ≤ 200) (w : World) (h0 : Cell0 w) : Calls Tryz.prog 194 #[.string ⟨l.toArray⟩] w fun e w' => jEnd (joinedO l) e ∧ Below w.heap.size w w' := by
  obtain ⟨o, ho⟩ : ∃ o, joinedO l = o := ⟨_, rfl⟩
  have HO := Lib.hid ho
  have HC0 := Lib.hid h0
  rw [ho]
  clear ho h0
  obtain ⟨arr, harr⟩ : ∃ arr, arr = signsArr := ⟨_, rfl⟩
  have HA := Lib.hid harr
  have harr' : arr = #[.string ⟨#[47]⟩, .string ⟨#[46]⟩, .string ⟨#[45]⟩] := harr
  clear harr
  go_enter Tryz.func194, Tryz.ntmps194
  go_wp2
  rw [← harr']
  clear harr'
  have HR0 : Hid ((w.alloc (.cells #[.int .i64 0, .int .i64 0, .int .i64 0] 41)).heap[w.heap.size]? = some (.cells #[.int .i64 0, .int .i64 0, .int .i64 0] 41 (0, 0))) := Lib.hid (World.alloc_heap_new w _)
  go_loopw [10] (fun k wr => ∃ i : Nat, i ≤ 3 ∧ k = .int .i64 i ∧ Hid (joinedFrom l (signs.drop i) = o) ∧ Hid (wr.heap[w.heap.size]? = some (.cells #[.int .i64 0, .int .i64 0, .int .i64 0] 41 (0, 0))) ∧ Hid (Cell0 wr) ∧ Below w.heap.size w wr) (fun k _ => 20 - (intOf k).toNat)
  case atStart => exact ⟨0, by omega, rfl, HO, HR0, Lib.hid (HC0.out.below (below_alloc w _) HC0.out.lt), below_alloc w _⟩
  case round =>
    obtain ⟨i, hi, rfl, hf, hR, hC, hb⟩ := hrel
    clear HR0
    by_cases hlt : i < 3
    · obtain ⟨inf, i1, -, i3, -⟩ := info9
      have hix := fun W => run_index_arr (P := Tryz.prog) Tryz.underlying243 Tryz.underlying9 rfl i1 i3 arr i (strv [signs.getD i 0]) hlt (by rw [HA.out]; exact signsArr_at i hlt) W
      have hdr := signs_drop i hlt
      obtain ⟨s, hs⟩ : ∃ s, signs.getD i 0 = s := ⟨_, rfl⟩
      rw [hs] at hix hdr
      have HD := Lib.hid hdr
      clear hdr
      have hsg := signIs l s hl
      obtain ⟨nm, hnm⟩ : ∃ nm, [s] = nm := ⟨_, rfl⟩
      rw [hnm] at hsg hix
      have HSG := Lib.hid hsg
      have HSI := Lib.hid hs
      have HNM := Lib.hid hnm
      unfold strv at hix
      clear hsg hs hnm
      have key : ∀ X, Below wr.heap.size wr X → joinAt s l = .no → ∃ i' : Nat, i' ≤ 3 ∧ Value.int .i64 ((i : Int) + 1) = .int .i64 i' ∧ Hid (joinedFrom l (signs.drop i') = o) ∧ Hid (X.heap[w.heap.size]? = some (.cells #[.int .i64 0, .int .i64 0, .int .i64 0] 41 (0, 0))) ∧ Hid (Cell0 X) ∧ Below w.heap.size w X := fun X hg hj =>
        ⟨i + 1, by omega, by go_num, Lib.hid (by rw [← hf.out, HD.out, joined_no hj]), Lib.hid (cells3_below hR.out hg), Lib.hid (hC.out.below hg hC.out.lt), below_trans hb hg⟩
      have KEY := Lib.hid key
      clear key
      by_cases h3 : (splitL s l).length = 3
      · obtain ⟨a, b, c, hp⟩ : ∃ a b c, splitL s l = [a, b, c] := by
          match hsp : splitL s l, h3 with
          | [a, b, c], _ => exact ⟨a, b, c, rfl⟩
        have hmem := splitL_mem s l
        rw [hp] at hmem
        have ha : a.length ≤ 200 := Nat.le_trans (hmem a (by simp)) hl
        have hbb : b.length ≤ 200 := Nat.le_trans (hmem b (by simp)) hl
        have hcc : c.length ≤ 200 := Nat.le_trans (hmem c (by simp)) hl
        have HP := Lib.hid hp
        have HJ := Lib.hid (joinAt_3 hp)
        clear hmem hp h3
        cases hna : isNum a with
        | false =>
          have HNA := Lib.hid hna
          clear hna
          go_wp2_with (first
            | (go_at_call 82; refine (cut3 HSG.out hC.out HP.out).mono ?_; rintro e w1 ⟨rfl, hp3⟩; obtain ⟨r0, r1, r2, rF, rL, rB⟩ := hp3)
            | (go_at_call 200; refine (c200 _ ha _).mono ?_; rintro e w2 ⟨rfl, hb2⟩; rw [HNA.out]))
          go_roundw
          case rel =>
            have hg : Below wr.heap.size wr w2 := below_trans rB hb2
            exact ⟨i + 1, by omega, by go_num, Lib.hid (by rw [← hf.out, HD.out, joined_no]; rw [HJ.out, join3, HNA.out]; rfl), Lib.hid (cells3_below hR.out hg), Lib.hid (hC.out.below hg hC.out.lt), below_trans hb hg⟩
          case measure => simp [intOf]; omega
        | true =>
          have HNA := Lib.hid hna
          clear hna
          cases hnb : isNum b with
          | false =>
            have HNB := Lib.hid hnb
            clear hnb
            go_wp2_with (first
              | (go_at_call 82; refine (cut3 HSG.out hC.out HP.out).mono ?_; rintro e w1 ⟨rfl, hp3⟩; obtain ⟨r0, r1, r2, rF, rL, rB⟩ := hp3)
              | (go_at_call 200; refine (c200 _ (by assumption) _).mono ?_; rintro e w2 ⟨rfl, hb2⟩; (first | rw [HNA.out] | rw [HNB.out]); (first | obtain ⟨x2, rfl⟩ := gw_step hb2 | obtain ⟨x2, rfl⟩ := of_below hb2); clear hb2))
            go_roundw
            case rel =>
              exact KEY.out _ (by repeat (first | exact rB | apply xg)) (by rw [HJ.out, join3, HNA.out, HNB.out]; rfl)
            case measure => simp [intOf]; omega
          | true =>
            have HNB := Lib.hid hnb
            clear hnb
            cases hnc : isNum c with
            | false =>
              have HNC := Lib.hid hnc
              clear hnc
              go_wp2_with (first
                | (go_at_call 82; refine (cut3 HSG.out hC.out HP.out).mono ?_; rintro e w1 ⟨rfl, hp3⟩; obtain ⟨r0, r1, r2, rF, rL, rB⟩ := hp3)
                | (go_at_call 200; refine (c200 _ (by assumption) _).mono ?_; rintro e w2 ⟨rfl, hb2⟩; (first | rw [HNA.out] | rw [HNB.out] | rw [HNC.out]); (first | obtain ⟨x2, rfl⟩ := gw_step hb2 | obtain ⟨x2, rfl⟩ := of_below hb2); clear hb2))
              go_roundw
              case rel =>
                exact KEY.out _ (by repeat (first | exact rB | apply xg)) (by rw [HJ.out, join3, HNA.out, HNB.out, HNC.out]; rfl)
              case measure => simp [intOf]; omega
            | true =>
              have HNC := Lib.hid hnc
              clear hnc
              have HA1 : Hid (∀ W, Calls Tryz.prog 192 #[.string ⟨a.toArray⟩] W fun e w' => e = .returned (.int .i64 (numV a)) ∧ Below W.heap.size W w') := Lib.hid fun W => c192 a ha HNA.out W
              have HB : Hid (∀ W, Calls Tryz.prog 192 #[.string ⟨b.toArray⟩] W fun e w' => e = .returned (.int .i64 (numV b)) ∧ Below W.heap.size W w') := Lib.hid fun W => c192 b hbb HNB.out W
              have HC1 : Hid (∀ W, Calls Tryz.prog 192 #[.string ⟨c.toArray⟩] W fun e w' => e = .returned (.int .i64 (numV c)) ∧ Below W.heap.size W w') := Lib.hid fun W => c192 c hcc HNC.out W
              have HJ3 : Hid (joinAt s l = if decide (1 ≤ numV b) && decide (numV b ≤ 12) then (if (s == 45) && decide (a.length = 4) then .date ⟨numV a, numV b, numV c⟩ else match yearO c with | some y => .date ⟨y, numV b, numV a⟩ | none => .stop) else .stop) := Lib.hid (by
                rw [HJ.out, join3, HNA.out, HNB.out, HNC.out]; rfl)
              have hwin : within (numV b : Int) 1 12 = (decide (1 ≤ numV b) && decide (numV b ≤ 12)) := by
                unfold within
                congr 1 <;> exact decide_eq_decide.2 (by omega)
              have HWI := Lib.hid hwin
              clear hwin
              have HJO : Hid (∀ J : Jn, joinAt s l = J → J ≠ .no → o = J) := Lib.hid fun J h1 h2 => by rw [← hf.out, HD.out, joined_yes (by rw [h1]; exact h2), h1]
              have hnd : (((nm == [45]) = false) ∨ ((nm == [45]) = true ∧ ¬ a.length = 4)) ∨ ((nm == [45]) = true ∧ a.length = 4) := by
                cases (nm == [45])
                · exact .inl (.inl rfl)
                · by_cases h4 : a.length = 4
                  · exact .inr ⟨rfl, h4⟩
                  · exact .inl (.inr ⟨rfl, h4⟩)
              have hsd : (s == 45) = (nm == [45]) := by rw [← HNM.out]; by_cases h : s = 45 <;> simp [h]
              have HSD := Lib.hid hsd
              clear hsd
              rcases hnd with hnd | ⟨hd, h4⟩
              · have hsn : ((s == 45) && decide (a.length = 4)) = false := by
                  rw [HSD.out]
                  rcases hnd with h | ⟨h, h4⟩
                  · rw [h]; rfl
                  · rw [decide_eq_false h4, Bool.and_false]
                have HSN := Lib.hid hsn
                clear hsn
                cases hw : within (numV b : Int) 1 12 with
                | false =>
                  have HW := Lib.hid hw
                  have hO : o = .stop := HJO.out .stop (by rw [HJ3.out, ← HWI.out, HW.out]; rfl) (by simp)
                  have HO3 := Lib.hid hO
                  clear hw hO
                  rcases hnd with hnd | ⟨hnd, h4⟩
                  all_goals
                    go_wp2_with (first
                    | (go_at_call 82; refine (cut3 HSG.out hC.out HP.out).mono ?_; rintro e w1 ⟨rfl, hp3⟩; obtain ⟨r0, r1, r2, rF, rL, rB⟩ := hp3)
                    | (go_at_call 200; refine (c200 _ (by assumption) _).mono ?_; rintro e w2 ⟨rfl, hb2⟩; (first | rw [HNA.out] | rw [HNB.out] | rw [HNC.out]); (first | obtain ⟨x2, rfl⟩ := gw_step hb2 | obtain ⟨x2, rfl⟩ := of_below hb2); clear hb2)
                    | (go_at_call 192; refine (HB.out _).mono ?_; rintro e w2 ⟨rfl, hb2⟩; (first | obtain ⟨x2, rfl⟩ := gw_step hb2 | obtain ⟨x2, rfl⟩ := of_below hb2); clear hb2)
                    | (go_at_call 122; refine (c122 _ _ _ _).mono ?_; rintro e w2 ⟨rfl, rfl⟩; rw [HW.out]))
                    exact ⟨rfl, by rw [HO3.out]; rfl, below_trans hb (by repeat (first | exact rB | apply xg))⟩
                | true =>
                  have HW := Lib.hid hw
                  clear hw
                  have hC : ∀ w w' : World, (w.cell? ⟨wr.heap.size, 0, none⟩ = some (.string ⟨a.toArray⟩) ∧ w.cell? ⟨wr.heap.size, 2, none⟩ = some (.string ⟨c.toArray⟩)) → Grown w w' →
                      (w'.cell? ⟨wr.heap.size, 0, none⟩ = some (.string ⟨a.toArray⟩) ∧ w'.cell? ⟨wr.heap.size, 2, none⟩ = some (.string ⟨c.toArray⟩)) := fun w w' h hg =>
                    ⟨(kept hg (World.block_lt_of_cell? w _ h.1)).trans h.1, (kept hg (World.block_lt_of_cell? w _ h.2)).trans h.2⟩
                  have facts : ∀ w' : World, (w'.cell? ⟨wr.heap.size, 0, none⟩ = some (.string ⟨a.toArray⟩) ∧ w'.cell? ⟨wr.heap.size, 2, none⟩ = some (.string ⟨c.toArray⟩)) →
                      w'.cell? ⟨wr.heap.size, 0, none⟩ = some (.string ⟨a.toArray⟩) ∧ w'.cell? ⟨wr.heap.size, 2, none⟩ = some (.string ⟨c.toArray⟩) ∧ wr.heap.size < w'.heap.size := fun w' h => ⟨h.1, h.2, World.block_lt_of_cell? w' _ h.1⟩
                  have HCC := Lib.hid hC
                  have HFF := Lib.hid facts
                  clear hC facts
                  cases hy : yearO c with
                  | none =>
                    have hO : o = .stop := HJO.out .stop (by rw [HJ3.out, ← HWI.out, HW.out, HSN.out, hy]; rfl) (by simp)
                    have HO3 := Lib.hid hO
                    have HY : Hid (∀ W, Calls Tryz.prog 197 #[.string ⟨c.toArray⟩] W fun e w' => e = .panicked [unread] ∧ Below W.heap.size W w') := Lib.hid fun W => by
                      have := c197 c hcc W
                      rw [hy] at this
                      exact this
                    clear hy hO
                    rcases hnd with hnd | ⟨hnd, h4⟩
                    all_goals
                      go_wp2_with (first
                      | (go_at_call 82; refine (cut3 HSG.out hC.out HP.out).mono ?_; rintro e w1 ⟨rfl, hp3⟩; obtain ⟨r0, r1, r2, rF, rL, rB⟩ := hp3)
                      | (go_at_call 200; refine (c200 _ (by assumption) _).mono ?_; rintro e w2 ⟨rfl, hb2⟩; (first | rw [HNA.out] | rw [HNB.out] | rw [HNC.out]); (first | obtain ⟨x2, rfl⟩ := gw_step hb2 | obtain ⟨x2, rfl⟩ := of_below hb2); clear hb2)
                      | (go_at_call 192; refine (HB.out _).mono ?_; rintro e w2 ⟨rfl, hb2⟩; (first | obtain ⟨x2, rfl⟩ := gw_step hb2 | obtain ⟨x2, rfl⟩ := of_below hb2); clear hb2)
                      | (go_at_call 122; refine (c122 _ _ _ _).mono ?_; rintro e w2 ⟨rfl, rfl⟩; rw [HW.out]))
                      have hC := HCC.out
                      have facts := HFF.out
                      refine wp_region_panics (fun w' => w'.cell? ⟨wr.heap.size, 0, none⟩ = some (.string ⟨a.toArray⟩) ∧ w'.cell? ⟨wr.heap.size, 2, none⟩ = some (.string ⟨c.toArray⟩)) (fun c X => c = [unread] ∧ Below wr.heap.size wr X) (by kernel_rfl) ?pn fun y0 => ?_
                      case pn =>
                        rintro c' a' X hd ⟨rfl, hX⟩
                        go_big_unhide
                        exact ⟨hd, by rw [HO3.out]; rfl, below_trans hb hX⟩
                      obtain ⟨V0, hV⟩ : ∃ V', gw (gw w1 x2) y0 = V' := ⟨_, rfl⟩
                      rw [hV]
                      have hGV : Grown w1 V0 := by rw [← hV]; exact Grown.trans (Grown.gw _ _) (Grown.gw _ _)
                      have hCV := hC _ V0 ⟨r0, r2⟩ hGV
                      clear hV y0
                      refine WC_take (v := ?_) (a' := ?_) 0 hC rfl (by kernel_rfl) (by kernel_rfl) (by kernel_rfl) hCV ⟨rfl, fun w' hw' => ?_⟩ ?_ 83 rfl (by kernel_rfl) fun y => ?_
                      rotate_left 2
                      · obtain ⟨c1, c2, c3⟩ := facts w' hw'
                        go_big_quiet_op; exact rfl
                      · exact rfl
                      obtain ⟨V1, hV⟩ : ∃ V', gw V0 y = V' := ⟨_, rfl⟩
                      rw [hV]
                      replace hCV := hC _ V1 hCV (by rw [← hV]; exact Grown.gw _ _)
                      replace hGV : Grown w1 V1 := Grown.trans hGV (by rw [← hV]; exact Grown.gw _ _)
                      clear hV y V0
                      refine WC_take (v := ?_) (a' := ?_) 1 hC rfl (by kernel_rfl) (by kernel_rfl) (by kernel_rfl) hCV ⟨rfl, fun w' hw' => ?_⟩ ?_ 84 rfl (by kernel_rfl) fun y => ?_
                      rotate_left 2
                      · obtain ⟨c1, c2, c3⟩ := facts w' hw'
                        go_big_quiet_op; exact rfl
                      · exact rfl
                      obtain ⟨V2, hV⟩ : ∃ V', gw V1 y = V' := ⟨_, rfl⟩
                      rw [hV]
                      replace hCV := hC _ V2 hCV (by rw [← hV]; exact Grown.gw _ _)
                      replace hGV : Grown w1 V2 := Grown.trans hGV (by rw [← hV]; exact Grown.gw _ _)
                      clear hV y V1
                      refine WC_take (v := ?_) (a' := ?_) 2 hC rfl (by kernel_rfl) (by kernel_rfl) (by kernel_rfl) hCV ⟨rfl, fun w' hw' => ?_⟩ ?_ 85 rfl (by kernel_rfl) fun y => ?_
                      rotate_left 2
                      · obtain ⟨c1, c2, c3⟩ := facts w' hw'
                        go_big_quiet_op; exact rfl
                      · exact rfl
                      obtain ⟨V3, hV⟩ : ∃ V', gw V2 y = V' := ⟨_, rfl⟩
                      rw [hV]
                      replace hCV := hC _ V3 hCV (by rw [← hV]; exact Grown.gw _ _)
                      replace hGV : Grown w1 V3 := Grown.trans hGV (by rw [← hV]; exact Grown.gw _ _)
                      clear hV y V2
                      refine WC_take (v := ?_) (a' := ?_) 4 hC rfl (by kernel_rfl) (by kernel_rfl) (by kernel_rfl) hCV ⟨rfl, fun w' hw' => ?_⟩ ?_ 87 rfl (by kernel_rfl) fun y => ?_
                      rotate_left 2
                      · obtain ⟨c1, c2, c3⟩ := facts w' hw'
                        go_big_quiet_op; exact rfl
                      · exact rfl
                      obtain ⟨V4, hV⟩ : ∃ V', gw V3 y = V' := ⟨_, rfl⟩
                      rw [hV]
                      replace hCV := hC _ V4 hCV (by rw [← hV]; exact Grown.gw _ _)
                      replace hGV : Grown w1 V4 := Grown.trans hGV (by rw [← hV]; exact Grown.gw _ _)
                      clear hV y V3
                      refine WC_take (v := ?_) (a' := ?_) 5 hC rfl (by kernel_rfl) (by kernel_rfl) (by kernel_rfl) hCV ⟨rfl, fun w' hw' => ?_⟩ ?_ 88 rfl (by kernel_rfl) fun y => ?_
                      rotate_left 2
                      · obtain ⟨c1, c2, c3⟩ := facts w' hw'
                        go_big_quiet_op; exact rfl
                      · exact rfl
                      obtain ⟨V5, hV⟩ : ∃ V', gw V4 y = V' := ⟨_, rfl⟩
                      rw [hV]
                      replace hCV := hC _ V5 hCV (by rw [← hV]; exact Grown.gw _ _)
                      replace hGV : Grown w1 V5 := Grown.trans hGV (by rw [← hV]; exact Grown.gw _ _)
                      clear hV y V4
                      refine WC_take (v := ?_) (a' := ?_) 6 hC rfl (by kernel_rfl) (by kernel_rfl) (by kernel_rfl) hCV ⟨rfl, fun w' hw' => ?_⟩ ?_ 89 rfl (by kernel_rfl) fun y => ?_
                      rotate_left 2
                      · obtain ⟨c1, c2, c3⟩ := facts w' hw'
                        go_big_quiet_op; exact rfl
                      · exact rfl
                      obtain ⟨V6, hV⟩ : ∃ V', gw V5 y = V' := ⟨_, rfl⟩
                      rw [hV]
                      replace hCV := hC _ V6 hCV (by rw [← hV]; exact Grown.gw _ _)
                      replace hGV : Grown w1 V6 := Grown.trans hGV (by rw [← hV]; exact Grown.gw _ _)
                      clear hV y V5
                      refine WC_take (v := ?_) (a' := ?_) 7 hC rfl (by kernel_rfl) (by kernel_rfl) (by kernel_rfl) hCV ⟨rfl, fun w' hw' => ?_⟩ ?_ 90 rfl (by kernel_rfl) fun y => ?_
                      rotate_left 2
                      · obtain ⟨c1, c2, c3⟩ := facts w' hw'
                        go_big_quiet_op; exact rfl
                      · exact rfl
                      obtain ⟨V7, hV⟩ : ∃ V', gw V6 y = V' := ⟨_, rfl⟩
                      rw [hV]
                      replace hCV := hC _ V7 hCV (by rw [← hV]; exact Grown.gw _ _)
                      replace hGV : Grown w1 V7 := Grown.trans hGV (by rw [← hV]; exact Grown.gw _ _)
                      clear hV y V6
                      refine WC_all [3] (by kernel_rfl) (by simp) fun i hi => ?_
                      rcases List.mem_singleton.1 hi with rfl
                      refine WG_op rfl rfl fun K hK => ?_
                      go_big_op
                      go_at_call 197
                      refine (HY.out _).mono ?_
                      rintro e w2 ⟨rfl, hb2⟩
                      exact ⟨rfl, rfl, below_trans rB (below_trans hGV hb2)⟩
                  | some yy =>
                    have hO : o = .date ⟨yy, numV b, numV a⟩ := HJO.out _ (by rw [HJ3.out, ← HWI.out, HW.out, HSN.out, hy]; rfl) (by simp)
                    have HO3 := Lib.hid hO
                    have HY : Hid (∀ W, Calls Tryz.prog 197 #[.string ⟨c.toArray⟩] W fun e w' => e = .returned (.int .i64 yy) ∧ Below W.heap.size W w') := Lib.hid fun W => by
                      have := c197 c hcc W
                      rw [hy] at this
                      exact this
                    clear hy hO
                    rcases hnd with hnd | ⟨hnd, h4⟩
                    all_goals
                      go_wp2_with (first
                      | (go_at_call 82; refine (cut3 HSG.out hC.out HP.out).mono ?_; rintro e w1 ⟨rfl, hp3⟩; obtain ⟨r0, r1, r2, rF, rL, rB⟩ := hp3)
                      | (go_at_call 200; refine (c200 _ (by assumption) _).mono ?_; rintro e w2 ⟨rfl, hb2⟩; (first | rw [HNA.out] | rw [HNB.out] | rw [HNC.out]); (first | obtain ⟨x2, rfl⟩ := gw_step hb2 | obtain ⟨x2, rfl⟩ := of_below hb2); clear hb2)
                      | (go_at_call 192; refine (HB.out _).mono ?_; rintro e w2 ⟨rfl, hb2⟩; (first | obtain ⟨x2, rfl⟩ := gw_step hb2 | obtain ⟨x2, rfl⟩ := of_below hb2); clear hb2)
                      | (go_at_call 122; refine (c122 _ _ _ _).mono ?_; rintro e w2 ⟨rfl, rfl⟩; rw [HW.out]))
                      have hC := HCC.out
                      have facts := HFF.out
                      refine wp_region_class (fun w' => w'.cell? ⟨wr.heap.size, 0, none⟩ = some (.string ⟨a.toArray⟩) ∧ w'.cell? ⟨wr.heap.size, 2, none⟩ = some (.string ⟨c.toArray⟩)) (by kernel_rfl) fun y0 => ?_
                      obtain ⟨V0, hV⟩ : ∃ V', gw (gw w1 x2) y0 = V' := ⟨_, rfl⟩
                      rw [hV]
                      have hGV : Grown w1 V0 := by rw [← hV]; exact Grown.trans (Grown.gw _ _) (Grown.gw _ _)
                      have hCV := hC _ V0 ⟨r0, r2⟩ hGV
                      clear hV y0
                      refine WC_take (v := ?_) (a' := ?_) 0 hC rfl (by kernel_rfl) (by kernel_rfl) (by kernel_rfl) hCV ⟨rfl, fun w' hw' => ?_⟩ ?_ 83 rfl (by kernel_rfl) fun y => ?_
                      rotate_left 2
                      · obtain ⟨c1, c2, c3⟩ := facts w' hw'
                        go_big_quiet_op; exact rfl
                      · exact rfl
                      obtain ⟨V1, hV⟩ : ∃ V', gw V0 y = V' := ⟨_, rfl⟩
                      rw [hV]
                      replace hCV := hC _ V1 hCV (by rw [← hV]; exact Grown.gw _ _)
                      replace hGV : Grown w1 V1 := Grown.trans hGV (by rw [← hV]; exact Grown.gw _ _)
                      clear hV y V0
                      refine WC_take (v := ?_) (a' := ?_) 1 hC rfl (by kernel_rfl) (by kernel_rfl) (by kernel_rfl) hCV ⟨rfl, fun w' hw' => ?_⟩ ?_ 84 rfl (by kernel_rfl) fun y => ?_
                      rotate_left 2
                      · obtain ⟨c1, c2, c3⟩ := facts w' hw'
                        go_big_quiet_op; exact rfl
                      · exact rfl
                      obtain ⟨V2, hV⟩ : ∃ V', gw V1 y = V' := ⟨_, rfl⟩
                      rw [hV]
                      replace hCV := hC _ V2 hCV (by rw [← hV]; exact Grown.gw _ _)
                      replace hGV : Grown w1 V2 := Grown.trans hGV (by rw [← hV]; exact Grown.gw _ _)
                      clear hV y V1
                      refine WC_take (v := ?_) (a' := ?_) 2 hC rfl (by kernel_rfl) (by kernel_rfl) (by kernel_rfl) hCV ⟨rfl, fun w' hw' => ?_⟩ ?_ 85 rfl (by kernel_rfl) fun y => ?_
                      rotate_left 2
                      · obtain ⟨c1, c2, c3⟩ := facts w' hw'
                        go_big_quiet_op; exact rfl
                      · exact rfl
                      obtain ⟨V3, hV⟩ : ∃ V', gw V2 y = V' := ⟨_, rfl⟩
                      rw [hV]
                      replace hCV := hC _ V3 hCV (by rw [← hV]; exact Grown.gw _ _)
                      replace hGV : Grown w1 V3 := Grown.trans hGV (by rw [← hV]; exact Grown.gw _ _)
                      clear hV y V2
                      refine WC_take (v := ?_) (a' := ?_) 3 hC rfl (by kernel_rfl) (by kernel_rfl) (by kernel_rfl) hCV ⟨rfl, fun w' hw' => ?_⟩ ?_ 86 rfl (by kernel_rfl) fun y => ?_
                      rotate_left 2
                      · obtain ⟨c1, c2, c3⟩ := facts w' hw'
                        go_big_quiet_op; apply Exists.intro; refine ⟨fun n => ?_, ?_⟩; (go_at_call 197; exact gw_call (HY.out _)); exact rfl
                      · exact rfl
                      obtain ⟨V4, hV⟩ : ∃ V', gw V3 y = V' := ⟨_, rfl⟩
                      rw [hV]
                      replace hCV := hC _ V4 hCV (by rw [← hV]; exact Grown.gw _ _)
                      replace hGV : Grown w1 V4 := Grown.trans hGV (by rw [← hV]; exact Grown.gw _ _)
                      clear hV y V3
                      refine WC_take (v := ?_) (a' := ?_) 4 hC rfl (by kernel_rfl) (by kernel_rfl) (by kernel_rfl) hCV ⟨rfl, fun w' hw' => ?_⟩ ?_ 87 rfl (by kernel_rfl) fun y => ?_
                      rotate_left 2
                      · obtain ⟨c1, c2, c3⟩ := facts w' hw'
                        go_big_quiet_op; exact rfl
                      · exact rfl
                      obtain ⟨V5, hV⟩ : ∃ V', gw V4 y = V' := ⟨_, rfl⟩
                      rw [hV]
                      replace hCV := hC _ V5 hCV (by rw [← hV]; exact Grown.gw _ _)
                      replace hGV : Grown w1 V5 := Grown.trans hGV (by rw [← hV]; exact Grown.gw _ _)
                      clear hV y V4
                      refine WC_take (v := ?_) (a' := ?_) 5 hC rfl (by kernel_rfl) (by kernel_rfl) (by kernel_rfl) hCV ⟨rfl, fun w' hw' => ?_⟩ ?_ 88 rfl (by kernel_rfl) fun y => ?_
                      rotate_left 2
                      · obtain ⟨c1, c2, c3⟩ := facts w' hw'
                        go_big_quiet_op; exact rfl
                      · exact rfl
                      obtain ⟨V6, hV⟩ : ∃ V', gw V5 y = V' := ⟨_, rfl⟩
                      rw [hV]
                      replace hCV := hC _ V6 hCV (by rw [← hV]; exact Grown.gw _ _)
                      replace hGV : Grown w1 V6 := Grown.trans hGV (by rw [← hV]; exact Grown.gw _ _)
                      clear hV y V5
                      refine WC_take (v := ?_) (a' := ?_) 6 hC rfl (by kernel_rfl) (by kernel_rfl) (by kernel_rfl) hCV ⟨rfl, fun w' hw' => ?_⟩ ?_ 89 rfl (by kernel_rfl) fun y => ?_
                      rotate_left 2
                      · obtain ⟨c1, c2, c3⟩ := facts w' hw'
                        go_big_quiet_op; exact rfl
                      · exact rfl
                      obtain ⟨V7, hV⟩ : ∃ V', gw V6 y = V' := ⟨_, rfl⟩
                      rw [hV]
                      replace hCV := hC _ V7 hCV (by rw [← hV]; exact Grown.gw _ _)
                      replace hGV : Grown w1 V7 := Grown.trans hGV (by rw [← hV]; exact Grown.gw _ _)
                      clear hV y V6
                      refine WC_take (v := ?_) (a' := ?_) 7 hC rfl (by kernel_rfl) (by kernel_rfl) (by kernel_rfl) hCV ⟨rfl, fun w' hw' => ?_⟩ ?_ 90 rfl (by kernel_rfl) fun y => ?_
                      rotate_left 2
                      · obtain ⟨c1, c2, c3⟩ := facts w' hw'
                        go_big_quiet_op; exact rfl
                      · exact rfl
                      obtain ⟨V8, hV⟩ : ∃ V', gw V7 y = V' := ⟨_, rfl⟩
                      rw [hV]
                      replace hCV := hC _ V8 hCV (by rw [← hV]; exact Grown.gw _ _)
                      replace hGV : Grown w1 V8 := Grown.trans hGV (by rw [← hV]; exact Grown.gw _ _)
                      clear hV y V7
                      refine WC_take (v := ?_) (a' := ?_) 8 hC rfl (by kernel_rfl) (by kernel_rfl) (by kernel_rfl) hCV ⟨rfl, fun w' hw' => ?_⟩ ?_ 91 rfl (by kernel_rfl) fun y => ?_
                      rotate_left 2
                      · obtain ⟨c1, c2, c3⟩ := facts w' hw'
                        go_big_quiet_op; apply Exists.intro; refine ⟨fun n => ?_, ?_⟩; (go_at_call 192; exact gw_call (HA1.out _)); exact rfl
                      · exact rfl
                      obtain ⟨V9, hV⟩ : ∃ V', gw V8 y = V' := ⟨_, rfl⟩
                      rw [hV]
                      replace hCV := hC _ V9 hCV (by rw [← hV]; exact Grown.gw _ _)
                      replace hGV : Grown w1 V9 := Grown.trans hGV (by rw [← hV]; exact Grown.gw _ _)
                      clear hV y V8
                      refine WC_take (v := ?_) (a' := ?_) 9 hC rfl (by kernel_rfl) (by kernel_rfl) (by kernel_rfl) hCV ⟨rfl, fun w' hw' => ?_⟩ ?_ 92 rfl (by kernel_rfl) fun y => ?_
                      rotate_left 2
                      · obtain ⟨c1, c2, c3⟩ := facts w' hw'
                        go_big_quiet_op; exact rfl
                      · exact rfl
                      obtain ⟨V10, hV⟩ : ∃ V', gw V9 y = V' := ⟨_, rfl⟩
                      rw [hV]
                      replace hCV := hC _ V10 hCV (by rw [← hV]; exact Grown.gw _ _)
                      replace hGV : Grown w1 V10 := Grown.trans hGV (by rw [← hV]; exact Grown.gw _ _)
                      clear hV y V9
                      refine WC_all [10] (by kernel_rfl) (by simp) fun i hi => ?_
                      rcases List.mem_singleton.1 hi with rfl
                      obtain ⟨q0, q1, q2, qF, qL⟩ := cells3 (cells3_below hR.out (below_trans rB hGV))
                      have hne : w.heap.size ≠ wr.heap.size := Nat.ne_of_lt (Array.getElem?_eq_some_iff.1 hR.out).1
                      refine WG_op rfl rfl fun K hK => ?_
                      go_big_op
                      obtain ⟨X, hX⟩ : ∃ X, ((V10.setCell ⟨w.heap.size, 0, none⟩ (.int .i64 (yy))).setCell ⟨w.heap.size, 1, none⟩ (.int .i64 (numV b))).setCell ⟨w.heap.size, 2, none⟩ (.int .i64 (numV a)) = X := ⟨_, rfl⟩
                      have x0 : X.cell? ⟨w.heap.size, 0, none⟩ = some (.int .i64 (yy)) := by rw [← hX]; simp [go_sem, q0, q1, q2]
                      have x1 : X.cell? ⟨w.heap.size, 1, none⟩ = some (.int .i64 (numV b)) := by rw [← hX]; simp [go_sem, q0, q1, q2]
                      have x2 : X.cell? ⟨w.heap.size, 2, none⟩ = some (.int .i64 (numV a)) := by rw [← hX]; simp [go_sem, q0, q1, q2]
                      have xb : Below w.heap.size w X := by rw [← hX]; exact xs (xs (xs (below_trans hb (below_trans rB hGV)) (by simp) _) (by simp) _) (by simp) _
                      replace hCV := HCC.out X X ⟨by rw [← hX, World.cell?_setCell_far _ _ _ _ hne, World.cell?_setCell_far _ _ _ _ hne, World.cell?_setCell_far _ _ _ _ hne]; exact hCV.1, by rw [← hX, World.cell?_setCell_far _ _ _ _ hne, World.cell?_setCell_far _ _ _ _ hne, World.cell?_setCell_far _ _ _ _ hne]; exact hCV.2⟩ (Grown.refl _)
                      rw [hX]
                      refine hK _ _ ⟨hCV, fun y => ?_⟩
                      clear hX q0 q1 q2 qF qL hK K hGV V10
                      refine WC_take (v := ?_) (a' := ?_) 11 hC rfl (by kernel_rfl) (by kernel_rfl) (by kernel_rfl) (hC _ _ hCV (Grown.gw _ _)) ⟨rfl, fun w' hw' => ?_⟩ ?_ 3 rfl (by kernel_rfl) fun y2 => ?_
                      rotate_left 2
                      · go_big_quiet_op; exact rfl
                      · exact rfl
                      refine WC_done (by kernel_rfl) (NoPanic.normal ?_) _
                      obtain ⟨Y, hY⟩ : ∃ Y, gw (gw X y) y2 = Y := ⟨_, rfl⟩
                      have hXY : Grown X Y := by rw [← hY]; exact Grown.trans (Grown.gw _ _) (Grown.gw _ _)
                      have y0' := (kept hXY (World.block_lt_of_cell? X _ x0)).trans x0
                      have y1' := (kept hXY (World.block_lt_of_cell? X _ x0)).trans x1
                      have y2' := (kept hXY (World.block_lt_of_cell? X _ x0)).trans x2
                      rw [hY]
                      clear hY y2 y x0 x1 x2 r0 r1 r2 rF hCV
                      go_wp2
                      exact bodyPost_ret (v := .tuple #[dtv ⟨yy, numV b, numV a⟩, .bool true]) (by simp [results, Tryz.results194, go_sem, dtv, y0', y1', y2']) rfl ⟨by rw [HO3.out]; rfl, below_trans xb hXY⟩
              · have hsn : ((s == 45) && decide (a.length = 4)) = true := by rw [HSD.out, hd, decide_eq_true h4]; rfl
                have HSN := Lib.hid hsn
                clear hsn
                go_wp2_with (first
                  | (go_at_call 82; refine (cut3 HSG.out hC.out HP.out).mono ?_; rintro e w1 ⟨rfl, hp3⟩; obtain ⟨r0, r1, r2, rF, rL, rB⟩ := hp3)
                  | (go_at_call 200; refine (c200 _ (by assumption) _).mono ?_; rintro e w2 ⟨rfl, hb2⟩; (first | rw [HNA.out] | rw [HNB.out] | rw [HNC.out]); (first | obtain ⟨x2, rfl⟩ := gw_step hb2 | obtain ⟨x2, rfl⟩ := of_below hb2); clear hb2)
                  | (go_at_call 192; refine (HB.out _).mono ?_; rintro e w2 ⟨rfl, hb2⟩; (first | obtain ⟨x2, rfl⟩ := gw_step hb2 | obtain ⟨x2, rfl⟩ := of_below hb2); clear hb2)
                  | (go_at_call 122; refine (c122 _ _ _ _).mono ?_; rintro e w2 ⟨rfl, rfl⟩; rw [HW.out]))
                go_region
                obtain ⟨X7, hX⟩ : ∃ X7, (((gw w1 x2).setCell ⟨wr.heap.size, 0, none⟩ (.string ⟨c.toArray⟩)).setCell ⟨wr.heap.size, 2, none⟩ (.string ⟨a.toArray⟩)).drew = X7 := ⟨_, rfl⟩
                have z0 : (gw w1 x2).cell? ⟨wr.heap.size, 0, none⟩ = some (.string ⟨a.toArray⟩) := by rw [gw_cell? _ _ _ _ rL]; exact r0
                have z1 : (gw w1 x2).cell? ⟨wr.heap.size, 1, none⟩ = some (.string ⟨b.toArray⟩) := by rw [gw_cell? _ _ _ _ rL]; exact r1
                have z2 : (gw w1 x2).cell? ⟨wr.heap.size, 2, none⟩ = some (.string ⟨c.toArray⟩) := by rw [gw_cell? _ _ _ _ rL]; exact r2
                have s0 : X7.cell? ⟨wr.heap.size, 0, none⟩ = some (.string ⟨c.toArray⟩) := by rw [← hX]; simp [go_sem, z0, z1, z2]
                have s1 : X7.cell? ⟨wr.heap.size, 1, none⟩ = some (.string ⟨b.toArray⟩) := by rw [← hX]; simp [go_sem, z0, z1, z2]
                have s2 : X7.cell? ⟨wr.heap.size, 2, none⟩ = some (.string ⟨a.toArray⟩) := by rw [← hX]; simp [go_sem, z0, z1, z2]
                have sL := World.block_lt_of_cell? X7 _ s0
                simp only at sL
                have hb7 : Below wr.heap.size wr X7 := by rw [← hX]; exact xd (xs (xs (xg rB _) (by simp) _) (by simp) _)
                have hR7 := Lib.hid (cells3_below hR.out hb7)
                rw [hX]
                clear hX z0 z1 z2 r0 r1 r2 rF rL rB x2
                cases hw : within (numV b : Int) 1 12 with
                | false =>
                  have HW := Lib.hid hw
                  have hO : o = .stop := HJO.out .stop (by rw [HJ3.out, ← HWI.out, HW.out]; rfl) (by simp)
                  have HO3 := Lib.hid hO
                  clear hw hO
                  go_wp2_with (first | (go_at_call 192; refine (HB.out _).mono ?_; rintro e w2 ⟨rfl, hb2⟩; (first | obtain ⟨x2, rfl⟩ := gw_step hb2 | obtain ⟨x2, rfl⟩ := of_below hb2); clear hb2) | (go_at_call 122; refine (c122 _ _ _ _).mono ?_; rintro e w2 ⟨rfl, rfl⟩; rw [HW.out]))
                  exact ⟨rfl, by rw [HO3.out]; rfl, below_trans hb (by repeat (first | exact hb7 | apply xg))⟩
                | true =>
                  have HW := Lib.hid hw
                  have hO : o = .date ⟨numV a, numV b, numV c⟩ := HJO.out _ (by rw [HJ3.out, ← HWI.out, HW.out, HSN.out]; rfl) (by simp)
                  have HO3 := Lib.hid hO
                  clear hw hO
                  have hC : ∀ w w' : World, (fun w' => w'.cell? ⟨wr.heap.size, 0, none⟩ = some (.string ⟨c.toArray⟩) ∧ w'.cell? ⟨wr.heap.size, 2, none⟩ = some (.string ⟨a.toArray⟩)) w → Grown w w' → (fun w' => w'.cell? ⟨wr.heap.size, 0, none⟩ = some (.string ⟨c.toArray⟩) ∧ w'.cell? ⟨wr.heap.size, 2, none⟩ = some (.string ⟨a.toArray⟩)) w' := fun w w' h hg =>
                    ⟨(kept hg (World.block_lt_of_cell? w _ h.1)).trans h.1, (kept hg (World.block_lt_of_cell? w _ h.2)).trans h.2⟩
                  have facts : ∀ w' : World, (fun w' => w'.cell? ⟨wr.heap.size, 0, none⟩ = some (.string ⟨c.toArray⟩) ∧ w'.cell? ⟨wr.heap.size, 2, none⟩ = some (.string ⟨a.toArray⟩)) w' → w'.cell? ⟨wr.heap.size, 0, none⟩ = some (.string ⟨c.toArray⟩) ∧ w'.cell? ⟨wr.heap.size, 2, none⟩ = some (.string ⟨a.toArray⟩) ∧ wr.heap.size < w'.heap.size := fun w' h => ⟨h.1, h.2, World.block_lt_of_cell? w' _ h.1⟩
                  have HCC := Lib.hid hC
                  have HFF := Lib.hid facts
                  clear hC facts
                  go_wp2_with (first | (go_at_call 192; refine (HB.out _).mono ?_; rintro e w2 ⟨rfl, hb2⟩; (first | obtain ⟨x2, rfl⟩ := gw_step hb2 | obtain ⟨x2, rfl⟩ := of_below hb2); clear hb2) | (go_at_call 122; refine (c122 _ _ _ _).mono ?_; rintro e w2 ⟨rfl, rfl⟩; rw [HW.out]))
                  have hC := HCC.out
                  have facts := HFF.out
                  refine wp_region_class (fun w' => w'.cell? ⟨wr.heap.size, 0, none⟩ = some (.string ⟨c.toArray⟩) ∧ w'.cell? ⟨wr.heap.size, 2, none⟩ = some (.string ⟨a.toArray⟩)) (by kernel_rfl) fun y0 => ?_
                  obtain ⟨V0, hV⟩ : ∃ V', gw (gw X7 x2) y0 = V' := ⟨_, rfl⟩
                  rw [hV]
                  have hGV : Grown X7 V0 := by rw [← hV]; exact Grown.trans (Grown.gw _ _) (Grown.gw _ _)
                  have hCV := hC _ V0 ⟨s0, s2⟩ hGV
                  clear hV y0
                  refine WC_take (v := ?_) (a' := ?_) 0 hC rfl (by kernel_rfl) (by kernel_rfl) (by kernel_rfl) hCV ⟨rfl, fun w' hw' => ?_⟩ ?_ 65 rfl (by kernel_rfl) fun y => ?_
                  rotate_left 2
                  · obtain ⟨c1, c2, c3⟩ := facts w' hw'
                    go_big_quiet_op; exact rfl
                  · exact rfl
                  obtain ⟨V1, hV⟩ : ∃ V', gw V0 y = V' := ⟨_, rfl⟩
                  rw [hV]
                  replace hCV := hC _ V1 hCV (by rw [← hV]; exact Grown.gw _ _)
                  replace hGV : Grown X7 V1 := Grown.trans hGV (by rw [← hV]; exact Grown.gw _ _)
                  clear hV y V0
                  refine WC_take (v := ?_) (a' := ?_) 1 hC rfl (by kernel_rfl) (by kernel_rfl) (by kernel_rfl) hCV ⟨rfl, fun w' hw' => ?_⟩ ?_ 66 rfl (by kernel_rfl) fun y => ?_
                  rotate_left 2
                  · obtain ⟨c1, c2, c3⟩ := facts w' hw'
                    go_big_quiet_op; exact rfl
                  · exact rfl
                  obtain ⟨V2, hV⟩ : ∃ V', gw V1 y = V' := ⟨_, rfl⟩
                  rw [hV]
                  replace hCV := hC _ V2 hCV (by rw [← hV]; exact Grown.gw _ _)
                  replace hGV : Grown X7 V2 := Grown.trans hGV (by rw [← hV]; exact Grown.gw _ _)
                  clear hV y V1
                  refine WC_take (v := ?_) (a' := ?_) 2 hC rfl (by kernel_rfl) (by kernel_rfl) (by kernel_rfl) hCV ⟨rfl, fun w' hw' => ?_⟩ ?_ 67 rfl (by kernel_rfl) fun y => ?_
                  rotate_left 2
                  · obtain ⟨c1, c2, c3⟩ := facts w' hw'
                    go_big_quiet_op; exact rfl
                  · exact rfl
                  obtain ⟨V3, hV⟩ : ∃ V', gw V2 y = V' := ⟨_, rfl⟩
                  rw [hV]
                  replace hCV := hC _ V3 hCV (by rw [← hV]; exact Grown.gw _ _)
                  replace hGV : Grown X7 V3 := Grown.trans hGV (by rw [← hV]; exact Grown.gw _ _)
                  clear hV y V2
                  refine WC_take (v := ?_) (a' := ?_) 3 hC rfl (by kernel_rfl) (by kernel_rfl) (by kernel_rfl) hCV ⟨rfl, fun w' hw' => ?_⟩ ?_ 68 rfl (by kernel_rfl) fun y => ?_
                  rotate_left 2
                  · obtain ⟨c1, c2, c3⟩ := facts w' hw'
                    go_big_quiet_op; apply Exists.intro; refine ⟨fun n => ?_, ?_⟩; (go_at_call 192; exact gw_call (HA1.out _)); exact rfl
                  · exact rfl
                  obtain ⟨V4, hV⟩ : ∃ V', gw V3 y = V' := ⟨_, rfl⟩
                  rw [hV]
                  replace hCV := hC _ V4 hCV (by rw [← hV]; exact Grown.gw _ _)
                  replace hGV : Grown X7 V4 := Grown.trans hGV (by rw [← hV]; exact Grown.gw _ _)
                  clear hV y V3
                  refine WC_take (v := ?_) (a' := ?_) 4 hC rfl (by kernel_rfl) (by kernel_rfl) (by kernel_rfl) hCV ⟨rfl, fun w' hw' => ?_⟩ ?_ 69 rfl (by kernel_rfl) fun y => ?_
                  rotate_left 2
                  · obtain ⟨c1, c2, c3⟩ := facts w' hw'
                    go_big_quiet_op; exact rfl
                  · exact rfl
                  obtain ⟨V5, hV⟩ : ∃ V', gw V4 y = V' := ⟨_, rfl⟩
                  rw [hV]
                  replace hCV := hC _ V5 hCV (by rw [← hV]; exact Grown.gw _ _)
                  replace hGV : Grown X7 V5 := Grown.trans hGV (by rw [← hV]; exact Grown.gw _ _)
                  clear hV y V4
                  refine WC_take (v := ?_) (a' := ?_) 5 hC rfl (by kernel_rfl) (by kernel_rfl) (by kernel_rfl) hCV ⟨rfl, fun w' hw' => ?_⟩ ?_ 70 rfl (by kernel_rfl) fun y => ?_
                  rotate_left 2
                  · obtain ⟨c1, c2, c3⟩ := facts w' hw'
                    go_big_quiet_op; exact rfl
                  · exact rfl
                  obtain ⟨V6, hV⟩ : ∃ V', gw V5 y = V' := ⟨_, rfl⟩
                  rw [hV]
                  replace hCV := hC _ V6 hCV (by rw [← hV]; exact Grown.gw _ _)
                  replace hGV : Grown X7 V6 := Grown.trans hGV (by rw [← hV]; exact Grown.gw _ _)
                  clear hV y V5
                  refine WC_take (v := ?_) (a' := ?_) 6 hC rfl (by kernel_rfl) (by kernel_rfl) (by kernel_rfl) hCV ⟨rfl, fun w' hw' => ?_⟩ ?_ 71 rfl (by kernel_rfl) fun y => ?_
                  rotate_left 2
                  · obtain ⟨c1, c2, c3⟩ := facts w' hw'
                    go_big_quiet_op; exact rfl
                  · exact rfl
                  obtain ⟨V7, hV⟩ : ∃ V', gw V6 y = V' := ⟨_, rfl⟩
                  rw [hV]
                  replace hCV := hC _ V7 hCV (by rw [← hV]; exact Grown.gw _ _)
                  replace hGV : Grown X7 V7 := Grown.trans hGV (by rw [← hV]; exact Grown.gw _ _)
                  clear hV y V6
                  refine WC_take (v := ?_) (a' := ?_) 7 hC rfl (by kernel_rfl) (by kernel_rfl) (by kernel_rfl) hCV ⟨rfl, fun w' hw' => ?_⟩ ?_ 72 rfl (by kernel_rfl) fun y => ?_
                  rotate_left 2
                  · obtain ⟨c1, c2, c3⟩ := facts w' hw'
                    go_big_quiet_op; exact rfl
                  · exact rfl
                  obtain ⟨V8, hV⟩ : ∃ V', gw V7 y = V' := ⟨_, rfl⟩
                  rw [hV]
                  replace hCV := hC _ V8 hCV (by rw [← hV]; exact Grown.gw _ _)
                  replace hGV : Grown X7 V8 := Grown.trans hGV (by rw [← hV]; exact Grown.gw _ _)
                  clear hV y V7
                  refine WC_take (v := ?_) (a' := ?_) 8 hC rfl (by kernel_rfl) (by kernel_rfl) (by kernel_rfl) hCV ⟨rfl, fun w' hw' => ?_⟩ ?_ 73 rfl (by kernel_rfl) fun y => ?_
                  rotate_left 2
                  · obtain ⟨c1, c2, c3⟩ := facts w' hw'
                    go_big_quiet_op; apply Exists.intro; refine ⟨fun n => ?_, ?_⟩; (go_at_call 192; exact gw_call (HC1.out _)); exact rfl
                  · exact rfl
                  obtain ⟨V9, hV⟩ : ∃ V', gw V8 y = V' := ⟨_, rfl⟩
                  rw [hV]
                  replace hCV := hC _ V9 hCV (by rw [← hV]; exact Grown.gw _ _)
                  replace hGV : Grown X7 V9 := Grown.trans hGV (by rw [← hV]; exact Grown.gw _ _)
                  clear hV y V8
                  refine WC_take (v := ?_) (a' := ?_) 9 hC rfl (by kernel_rfl) (by kernel_rfl) (by kernel_rfl) hCV ⟨rfl, fun w' hw' => ?_⟩ ?_ 74 rfl (by kernel_rfl) fun y => ?_
                  rotate_left 2
                  · obtain ⟨c1, c2, c3⟩ := facts w' hw'
                    go_big_quiet_op; exact rfl
                  · exact rfl
                  obtain ⟨V10, hV⟩ : ∃ V', gw V9 y = V' := ⟨_, rfl⟩
                  rw [hV]
                  replace hCV := hC _ V10 hCV (by rw [← hV]; exact Grown.gw _ _)
                  replace hGV : Grown X7 V10 := Grown.trans hGV (by rw [← hV]; exact Grown.gw _ _)
                  clear hV y V9
                  refine WC_all [10] (by kernel_rfl) (by simp) fun i hi => ?_
                  rcases List.mem_singleton.1 hi with rfl
                  obtain ⟨q0, q1, q2, qF, qL⟩ := cells3 (cells3_below hR.out (below_trans hb7 hGV))
                  have hne : w.heap.size ≠ wr.heap.size := Nat.ne_of_lt (Array.getElem?_eq_some_iff.1 hR.out).1
                  refine WG_op rfl rfl fun K hK => ?_
                  go_big_op
                  obtain ⟨X, hX⟩ : ∃ X, ((V10.setCell ⟨w.heap.size, 0, none⟩ (.int .i64 (numV a))).setCell ⟨w.heap.size, 1, none⟩ (.int .i64 (numV b))).setCell ⟨w.heap.size, 2, none⟩ (.int .i64 (numV c)) = X := ⟨_, rfl⟩
                  have x0 : X.cell? ⟨w.heap.size, 0, none⟩ = some (.int .i64 (numV a)) := by rw [← hX]; simp [go_sem, q0, q1, q2]
                  have x1 : X.cell? ⟨w.heap.size, 1, none⟩ = some (.int .i64 (numV b)) := by rw [← hX]; simp [go_sem, q0, q1, q2]
                  have x2 : X.cell? ⟨w.heap.size, 2, none⟩ = some (.int .i64 (numV c)) := by rw [← hX]; simp [go_sem, q0, q1, q2]
                  have xb : Below w.heap.size w X := by rw [← hX]; exact xs (xs (xs (below_trans hb (below_trans hb7 hGV)) (by simp) _) (by simp) _) (by simp) _
                  replace hCV := HCC.out X X ⟨by rw [← hX, World.cell?_setCell_far _ _ _ _ hne, World.cell?_setCell_far _ _ _ _ hne, World.cell?_setCell_far _ _ _ _ hne]; exact hCV.1, by rw [← hX, World.cell?_setCell_far _ _ _ _ hne, World.cell?_setCell_far _ _ _ _ hne, World.cell?_setCell_far _ _ _ _ hne]; exact hCV.2⟩ (Grown.refl _)
                  rw [hX]
                  refine hK _ _ ⟨hCV, fun y => ?_⟩
                  clear hX q0 q1 q2 qF qL hK K hGV V10
                  refine WC_take (v := ?_) (a' := ?_) 11 hC rfl (by kernel_rfl) (by kernel_rfl) (by kernel_rfl) (hC _ _ hCV (Grown.gw _ _)) ⟨rfl, fun w' hw' => ?_⟩ ?_ 3 rfl (by kernel_rfl) fun y2 => ?_
                  rotate_left 2
                  · go_big_quiet_op; exact rfl
                  · exact rfl
                  refine WC_done (by kernel_rfl) (NoPanic.normal ?_) _
                  obtain ⟨Y, hY⟩ : ∃ Y, gw (gw X y) y2 = Y := ⟨_, rfl⟩
                  have hXY : Grown X Y := by rw [← hY]; exact Grown.trans (Grown.gw _ _) (Grown.gw _ _)
                  have y0' := (kept hXY (World.block_lt_of_cell? X _ x0)).trans x0
                  have y1' := (kept hXY (World.block_lt_of_cell? X _ x0)).trans x1
                  have y2' := (kept hXY (World.block_lt_of_cell? X _ x0)).trans x2
                  rw [hY]
                  clear hY y2 y x0 x1 x2 s0 s1 s2 hCV
                  go_wp2
                  exact bodyPost_ret (v := .tuple #[dtv ⟨numV a, numV b, numV c⟩, .bool true]) (by simp [results, Tryz.results194, go_sem, dtv, y0', y1', y2']) rfl ⟨by rw [HO3.out]; rfl, below_trans xb hXY⟩
      · obtain ⟨n, hn⟩ : ∃ n, (splitL s l).length = n := ⟨_, rfl⟩
        have HN := Lib.hid hn
        have hJ := Lib.hid (joinAt_not3 h3)
        rw [hn] at h3
        have h3' : ((n : Int) == 3) = false := by simp; omega
        clear hn
        go_wp2_with (go_at_call 82; refine (HSG.out.cut _ hC.out).mono ?_; rw [HN.out]; rintro e w1 ⟨rfl, rfl⟩)
        go_roundw
        case rel => exact ⟨i + 1, by omega, by go_num, Lib.hid (by rw [← hf.out, HD.out, joined_no hJ.out]), Lib.hid ((below_alloc wr _).block _ (Array.getElem?_eq_some_iff.1 hR.out).1 |>.trans hR.out), Lib.hid (hC.out.below (below_alloc wr _) hC.out.lt), xa hb _⟩
        case measure => simp [intOf]; omega
    · obtain rfl : i = 3 := by omega
      have hO : o = .no := by rw [← hf.out]; rfl
      have HO2 := Lib.hid hO
      clear hO
      obtain ⟨q0, q1, q2, qF, qL⟩ := cells3 hR.out
      go_wp2
      exact bodyPost_ret (v := .tuple #[dtv ⟨0, 0, 0⟩, .bool false]) (by simp [results, Tryz.results194, go_sem, dtv, q0, q1, q2, qL]) rfl ⟨by rw [HO2.out]; rfl, by repeat (first | exact hb | (refine xs ?_ (by simp) _))⟩
end Go.Proofs.YthifeoebefbalaaGreatDoor

namespace Go.Proofs.YthifeoebefbalaaGreatDoor
open Go.RowKit

/-- What the date's words come to: the reader cannot go on; the date is the next one; or a date; and the words that are left. -/
inductive De where
  | stop
  | next (ws : List (List UInt8))
  | date (d : Dt) (ws : List (List UInt8))
def nextW : List UInt8 := [110, 101, 120, 116]
/-- A date of three words, the first of which is x: the day ahead of the month, or behind it. -/
def threeW (dig : Bool) (x : List UInt8) : List (List UInt8) → De
  | y :: z :: ws =>
    match (if dig then domO x else monthO x), (if dig then monthO y else domO y), yearO z with
    | some a, some b, some c => .date (if dig then ⟨c, b, a⟩ else ⟨c, a, b⟩) ws
    | _, _, _ => .stop
  | _ => .stop
def dateW (x : List UInt8) (ws : List (List UInt8)) (last : Card) : De :=
  if decide (x = nextW) && decide (0 < last.st) then .next ws
  else match joinedO x with
    | .date d => .date d ws
    | .stop => .stop
    | .no => threeW (isDig (x.headD 0)) x ws
def deEnd (r : Nat) (last : Card) (w : World) : De → Ending → World → Prop
  | .stop, e, w' => e = .panicked [unread] ∧ w.grownBy w' (some r)
  | .next ws, e, w' => e = .returned (dtv ⟨0, 0, 0⟩) ∧ Reader w' r ws last true ∧ w.grownBy w' (some r)
  | .date d ws, e, w' => e = .returned (dtv d) ∧ Reader w' r ws last false ∧ w.grownBy w' (some r)

theorem c154_no (r : Nat) (last : Card) (nx : Bool) (w : World) (h : Reader w r [] last nx) : Calls Tryz.prog 154 #[.pointer (some ⟨r, 0, none⟩)] w fun e w' => e = .panicked [unread] ∧ w.grownBy w' (some r) := by
  have hr : Reader (w.alloc (.cells #[.int .i64 0, .int .i64 0, .int .i64 0] 41)) r [] last nx := h.grown (below_alloc w _)
  have H := Lib.hid (c191_no r last nx _ hr)
  clear h hr
  go_enter Tryz.func154, Tryz.ntmps154
  go_wp2_with (go_at_call 191; refine H.out.mono ?_; rintro e w1 ⟨rfl, rfl⟩)
  exact ⟨rfl, rfl, Grown.by (below_alloc w _) _⟩

theorem readerObj_nx {w : World} {r : Nat} {v : Value} {last : Card} {nx : Bool} (h : w.heap[r]? = some (readerObj v last nx)) : (w.setCell ⟨r, 7, none⟩ (.bool true)).heap[r]? = some (readerObj v last true) := by
  obtain ⟨hlt, hk⟩ := Array.getElem?_eq_some_iff.1 h
  show (w.heap.modify r _)[r]? = _
  rw [Array.getElem?_eq_getElem (by rw [Array.size_modify]; exact hlt), Array.getElem_modify_self, hk]
  rfl
theorem grownBy_setAny (W : World) (b i : Nat) (v : Value) : W.grownBy (W.setCell ⟨b, i, none⟩ v) (some b) :=
  ⟨rfl, rfl, rfl, (KeepsWalks.setCell W _ v).size, fun k _ hk => Below.heap_setCell _ _ _ k (fun e => hk (by rw [e]))⟩
theorem Reader.set_nx {w : World} {r : Nat} {ws : List (List UInt8)} {last : Card} {nx : Bool} (h : Reader w r ws last nx) : Reader (w.setCell ⟨r, 7, none⟩ (.bool true)) r ws last true := by
  obtain ⟨v, h1, h2⟩ := h
  refine ⟨v, readerObj_nx h1, ?_⟩
  rcases h2 with h2 | ⟨b, o, c, hb', rfl, hc, hs⟩
  · exact .inl h2
  · refine .inr ⟨b, o, c, hb', rfl, hc, fun i s hi => ?_⟩
    rw [World.cell?_setCell_far _ _ _ _ (by exact fun e => hb' e.symm), hs i s hi]

theorem Reader.set_int {w : World} {r : Nat} {ws : List (List UInt8)} {last : Card} {nx : Bool} (h : Reader w r ws last nx) {b' i' : Nat} {n : Int} (hp : w.cell? ⟨b', i', none⟩ = some (.int .i64 n)) (hb : b' ≠ r) (v' : Value) : Reader (w.setCell ⟨b', i', none⟩ v') r ws last nx := by
  obtain ⟨v, h1, h2⟩ := h
  refine ⟨v, (Below.heap_setCell w ⟨b', i', none⟩ v' r (fun e => hb e.symm)).trans h1, ?_⟩
  rcases h2 with h2 | ⟨b, o, c, hb', rfl, hc, hs⟩
  · exact .inl h2
  · refine .inr ⟨b, o, c, hb', rfl, hc, fun i s hi => ?_⟩
    rw [World.cell?_setCell_other w ⟨b', i', none⟩ ⟨b, o + i, none⟩ v' (fun e => ?_), hs i s hi]
    have h3 := hs i s hi
    rw [← e, hp] at h3
    simp [strv] at h3
theorem grownBy_new {w X : World} {r b i : Nat} (h : w.grownBy X (some r)) (hb : w.heap.size ≤ b) (v : Value) : w.grownBy (X.setCell ⟨b, i, none⟩ v) (some r) :=
  ⟨h.os, h.tape, h.output, Nat.le_trans h.size (KeepsWalks.setCell X _ v).size, fun k hk he => (Below.heap_setCell X ⟨b, i, none⟩ v k (by simp only; omega)).trans (h.block k hk he)⟩

/-- A date stored into a variable of the call's own. -/
theorem store3 {w X : World} {r b : Nat} {ws : List (List UInt8)} {last : Card} {nx : Bool} {n0 n1 n2 : Int} (hr : Reader X r ws last nx) (p0 : X.cell? ⟨b, 0, none⟩ = some (.int .i64 n0)) (p1 : X.cell? ⟨b, 1, none⟩ = some (.int .i64 n1)) (p2 : X.cell? ⟨b, 2, none⟩ = some (.int .i64 n2))
    (hb : b ≠ r) (hw : w.heap.size ≤ b) (hg : w.grownBy X (some r)) (y m d : Int) :
    ∃ Y, ((X.setCell ⟨b, 0, none⟩ (.int .i64 y)).setCell ⟨b, 1, none⟩ (.int .i64 m)).setCell ⟨b, 2, none⟩ (.int .i64 d) = Y ∧ Reader Y r ws last nx ∧ w.grownBy Y (some r) ∧
      Y.cell? ⟨b, 0, none⟩ = some (.int .i64 y) ∧ Y.cell? ⟨b, 1, none⟩ = some (.int .i64 m) ∧ Y.cell? ⟨b, 2, none⟩ = some (.int .i64 d) ∧ b < Y.heap.size := by
  have hl := World.block_lt_of_cell? X _ p0
  simp only at hl
  have t1 : (X.setCell ⟨b, 0, none⟩ (.int .i64 y)).cell? ⟨b, 1, none⟩ = some (.int .i64 n1) := by rw [World.cell?_setCell_other _ _ _ _ (by simp)]; exact p1
  have t2 : ((X.setCell ⟨b, 0, none⟩ (.int .i64 y)).setCell ⟨b, 1, none⟩ (.int .i64 m)).cell? ⟨b, 2, none⟩ = some (.int .i64 n2) := by rw [World.cell?_setCell_other _ _ _ _ (by simp), World.cell?_setCell_other _ _ _ _ (by simp)]; exact p2
  refine ⟨_, rfl, ((hr.set_int p0 hb _).set_int t1 hb _).set_int t2 hb _, grownBy_new (grownBy_new (grownBy_new hg hw _) hw _) hw _, ?_, ?_, ?_, ?_⟩
  · simp [go_sem, p0, p1, p2]
  · simp [go_sem, p0, p1, p2]
  · simp [go_sem, p0, p1, p2]
  · simpa using hl
set_option maxRecDepth 100000 in
set_option maxHeartbeats 4000000 in
theorem c154_next (r : Nat) (ws : List (List UInt8)) (last : Card) (w : World) (h : Reader w r (nextW :: ws) last false) (hl : ws.length ≤ 200) (h0 : 0 < last.st) :
    Calls Tryz.prog 154 #[.pointer (some ⟨r, 0, none⟩)] w fun e w' => deEnd r last w (.next ws) e w' := by
  have hrl : r < w.heap.size := by obtain ⟨v, h1, -⟩ := h; exact (Array.getElem?_eq_some_iff.1 h1).1
  have hr : Reader (w.alloc (.cells #[.int .i64 0, .int .i64 0, .int .i64 0] 41)) r (nextW :: ws) last false := h.grown (below_alloc w _)
  have hR := World.alloc_heap_new w (.cells #[.int .i64 0, .int .i64 0, .int .i64 0] 41 (0, 0))
  have H := Lib.hid (c191 r nextW ws last false _ hr hl)
  have HR := Lib.hid hR
  clear h hr hR
  unfold deEnd
  go_enter Tryz.func154, Tryz.ntmps154
  go_wp2_with (go_at_call 191; refine H.out.mono ?_; rintro e w1 ⟨rfl, hr1, hg1⟩; unfold strv nextW; obtain ⟨v1, hv1, -⟩ := id hr1; obtain ⟨q0, q1, -, q7, qF, qL⟩ := reader_cells hv1; obtain ⟨p0, p1, p2, pF, pL⟩ := cells3 ((hg1.block w.heap.size (by simp) (by simp; omega)).trans HR.out); clear hv1)
  have hne : w.heap.size ≠ r := by omega
  have t0 : (w1.setCell ⟨r, 7, none⟩ (.bool true)).cell? ⟨w.heap.size, 0, none⟩ = some (.int .i64 0) := by rw [World.cell?_setCell_far _ _ _ _ (fun e => hne e.symm)]; exact p0
  have t1 : ((w1.setCell ⟨r, 7, none⟩ (.bool true)).setCell ⟨w.heap.size, 0, none⟩ (.int .i64 0)).cell? ⟨w.heap.size, 1, none⟩ = some (.int .i64 0) := by rw [World.cell?_setCell_other _ _ _ _ (by simp), World.cell?_setCell_far _ _ _ _ (fun e => hne e.symm)]; exact p1
  have t2 : (((w1.setCell ⟨r, 7, none⟩ (.bool true)).setCell ⟨w.heap.size, 0, none⟩ (.int .i64 0)).setCell ⟨w.heap.size, 1, none⟩ (.int .i64 0)).cell? ⟨w.heap.size, 2, none⟩ = some (.int .i64 0) := by rw [World.cell?_setCell_other _ _ _ _ (by simp), World.cell?_setCell_other _ _ _ _ (by simp), World.cell?_setCell_far _ _ _ _ (fun e => hne e.symm)]; exact p2
  refine bodyPost_ret (v := dtv ⟨0, 0, 0⟩) ?_ rfl ⟨rfl, ((hr1.set_nx.set_int t0 hne _).set_int t1 hne _).set_int t2 hne _, ?_⟩
  · simp [results, Tryz.results154, go_sem, dtv, p0, p1, p2, pL]
  · exact grownBy_new (grownBy_new (grownBy_new (((Grown.by (below_alloc w _) _).trans hg1).trans (grownBy_setAny _ _ _ _)) (Nat.le_refl _) _) (Nat.le_refl _) _) (Nat.le_refl _) _
set_option maxRecDepth 100000 in
set_option maxHeartbeats 4000000 in
theorem c154_stop (r : Nat) (hr0 : 0 < r) (x : List UInt8) (ws : List (List UInt8)) (last : Card) (w : World) (hc : Cell0 w) (h : Reader w r (x :: ws) last false) (hl : ws.length ≤ 200) (hx : x.length ≤ 200) (hn : ¬ (x = nextW ∧ 0 < last.st)) (hj : joinedO x = .stop) :
    Calls Tryz.prog 154 #[.pointer (some ⟨r, 0, none⟩)] w fun e w' => deEnd r last w .stop e w' := by
  have hrl : r < w.heap.size := by obtain ⟨v, h1, -⟩ := h; exact (Array.getElem?_eq_some_iff.1 h1).1
  have hr : Reader (w.alloc (.cells #[.int .i64 0, .int .i64 0, .int .i64 0] 41)) r (x :: ws) last false := h.grown (below_alloc w _)
  have hR := World.alloc_heap_new w (.cells #[.int .i64 0, .int .i64 0, .int .i64 0] 41 (0, 0))
  have H := Lib.hid (c191 r x ws last false _ hr hl)
  have HR := Lib.hid hR
  have HC1 := Lib.hid (hc.below (below_alloc w (.cells #[.int .i64 0, .int .i64 0, .int .i64 0] 41)) hc.lt)
  have HJ := Lib.hid hj
  have hb : ((x == [110, 101, 120, 116]) = false) ∨ ((x == [110, 101, 120, 116]) = true ∧ ¬ 0 < last.st) := by
    by_cases h1 : x = [110, 101, 120, 116]
    · exact .inr ⟨by simp [h1], fun h => hn ⟨h1, h⟩⟩
    · exact .inl (by simp [h1])
  clear h hr hR hc hj hn
  rcases hb with hb | ⟨hb, h0⟩
  all_goals
    go_enter Tryz.func154, Tryz.ntmps154
    go_wp2_with (first
      | (go_at_call 191; refine H.out.mono ?_; rintro e w1 ⟨rfl, hr1, hg1⟩; unfold strv; have hc1 : Cell0 w1 := HC1.out.grownBy hg1 hr0; obtain ⟨v1, hv1, -⟩ := id hr1; obtain ⟨q0, q1, -, q7, qF, qL⟩ := reader_cells hv1; obtain ⟨p0, p1, p2, pF, pL⟩ := cells3 ((hg1.block w.heap.size (by simp) (by simp; omega)).trans HR.out); clear hv1)
      | (go_at_call 194; refine (c194 x hx _ (by assumption)).mono ?_; rw [HJ.out]; rintro e w2 ⟨he, hb2⟩; obtain rfl : e = .panicked [unread] := he; obtain ⟨x2, rfl⟩ := of_below hb2; clear hb2))
    exact ⟨rfl, rfl, ((Grown.by (below_alloc w _) _).trans hg1).trans (Grown.by (gw_below _ _) _)⟩

set_option maxRecDepth 100000 in
set_option maxHeartbeats 4000000 in
theorem c154_date (r : Nat) (hr0 : 0 < r) (x : List UInt8) (ws : List (List UInt8)) (last : Card) (w : World) (hc : Cell0 w) (h : Reader w r (x :: ws) last false) (hl : ws.length ≤ 200) (hx : x.length ≤ 200) (hn : ¬ (x = nextW ∧ 0 < last.st)) (d : Dt) (hj : joinedO x = .date d) :
    Calls Tryz.prog 154 #[.pointer (some ⟨r, 0, none⟩)] w fun e w' => e = .returned (dtv d) ∧ Reader w' r ws last false ∧ w.grownBy w' (some r) := by
  have hrl : r < w.heap.size := by obtain ⟨v, h1, -⟩ := h; exact (Array.getElem?_eq_some_iff.1 h1).1
  have hr : Reader (w.alloc (.cells #[.int .i64 0, .int .i64 0, .int .i64 0] 41)) r (x :: ws) last false := h.grown (below_alloc w _)
  have hR := World.alloc_heap_new w (.cells #[.int .i64 0, .int .i64 0, .int .i64 0] 41 (0, 0))
  have H := Lib.hid (c191 r x ws last false _ hr hl)
  have HR := Lib.hid hR
  have HC1 := Lib.hid (hc.below (below_alloc w (.cells #[.int .i64 0, .int .i64 0, .int .i64 0] 41)) hc.lt)
  have HJ := Lib.hid hj
  have hb : ((x == [110, 101, 120, 116]) = false) ∨ ((x == [110, 101, 120, 116]) = true ∧ ¬ 0 < last.st) := by
    by_cases h1 : x = [110, 101, 120, 116]
    · exact .inr ⟨by simp [h1], fun h => hn ⟨h1, h⟩⟩
    · exact .inl (by simp [h1])
  clear h hr hR hc hj hn
  rcases hb with hb | ⟨hb, h0⟩
  all_goals
    go_enter Tryz.func154, Tryz.ntmps154
    go_wp2_with (first
      | (go_at_call 191; refine H.out.mono ?_; rintro e w1 ⟨rfl, hr1, hg1⟩; unfold strv; have hc1 : Cell0 w1 := HC1.out.grownBy hg1 hr0; obtain ⟨v1, hv1, -⟩ := id hr1; obtain ⟨q0, q1, -, q7, qF, qL⟩ := reader_cells hv1; obtain ⟨p0, p1, p2, pF, pL⟩ := cells3 ((hg1.block w.heap.size (by simp) (by simp; omega)).trans HR.out); clear hv1)
      | (go_at_call 194; refine (c194 x hx _ (by assumption)).mono ?_; rw [HJ.out]; rintro e w2 ⟨he, hb2⟩; obtain rfl : e = .returned (.tuple #[dtv d, .bool true]) := he; unfold dtv; obtain ⟨x2, rfl⟩ := of_below hb2; clear hb2))
    have hne : w.heap.size ≠ r := by omega
    obtain ⟨Y, hY, z1, z2, z3, z4, z5, z6⟩ := store3 (w := w) (X := gw w1 x2) (hr1.grown (gw_below _ _)) ((gw_cell? _ _ _ _ pL).trans p0) ((gw_cell? _ _ _ _ pL).trans p1) ((gw_cell? _ _ _ _ pL).trans p2) hne (Nat.le_refl _) (((Grown.by (below_alloc w _) _).trans hg1).trans (Grown.by (gw_below _ _) _)) d.y d.m d.d
    rw [hY]
    refine bodyPost_ret (v := dtv d) ?_ rfl ⟨rfl, z1.grown (below_alloc _ _), z2.trans (Grown.by (below_alloc _ _) _)⟩
    simp [results, Tryz.results154, go_sem, dtv, z3, z4, z5, z6]
end Go.Proofs.YthifeoebefbalaaGreatDoor

namespace Go.Proofs.YthifeoebefbalaaGreatDoor
open Go.RowKit
/-- Where the reader of a date stands: its words, the result's variable, the date's variable. -/
structure DSt (w X : World) (r B : Nat) (ws : List (List UInt8)) (last : Card) (a0 a1 a2 : Int) : Prop where
  rd : Reader X r ws last false
  gr : w.grownBy X (some r)
  p0 : X.cell? ⟨w.heap.size, 0, none⟩ = some (.int .i64 0)
  p1 : X.cell? ⟨w.heap.size, 1, none⟩ = some (.int .i64 0)
  p2 : X.cell? ⟨w.heap.size, 2, none⟩ = some (.int .i64 0)
  pF : ∀ i, X.frozen? ⟨w.heap.size, i, none⟩ = false
  t0 : X.cell? ⟨B, 0, none⟩ = some (.int .i64 a0)
  t1 : X.cell? ⟨B, 1, none⟩ = some (.int .i64 a1)
  t2 : X.cell? ⟨B, 2, none⟩ = some (.int .i64 a2)
  tF : ∀ i, X.frozen? ⟨B, i, none⟩ = false
  rw : r < w.heap.size
  lt : w.heap.size < B
theorem DSt.ltX {w X : World} {r B : Nat} {ws : List (List UInt8)} {last : Card} {a0 a1 a2 : Int} (h : DSt w X r B ws last a0 a1 a2) : B < X.heap.size ∧ w.heap.size < X.heap.size :=
  ⟨World.block_lt_of_cell? X _ h.t0, World.block_lt_of_cell? X _ h.p0⟩
theorem DSt.of {w X Y : World} {r B : Nat} {ws ws' : List (List UInt8)} {last : Card} {a0 a1 a2 : Int} (h : DSt w X r B ws last a0 a1 a2) (hg : X.grownBy Y (some r)) (hr : Reader Y r ws' last false) : DSt w Y r B ws' last a0 a1 a2 := by
  have hl := h.ltX
  have h1 := h.rw
  have h2 := h.lt
  have eb := hg.block w.heap.size hl.2 (by simp; omega)
  have e6 := hg.block B hl.1 (by simp; omega)
  exact ⟨hr, h.gr.trans hg, (World.cell?_of_block eb).trans h.p0, (World.cell?_of_block eb).trans h.p1, (World.cell?_of_block eb).trans h.p2, fun i => (World.frozen?_of_block eb).trans (h.pF i),
    (World.cell?_of_block e6).trans h.t0, (World.cell?_of_block e6).trans h.t1, (World.cell?_of_block e6).trans h.t2, fun i => (World.frozen?_of_block e6).trans (h.tF i), h.rw, h.lt⟩
theorem DSt.grown {w X Y : World} {r B : Nat} {ws : List (List UInt8)} {last : Card} {a0 a1 a2 : Int} (h : DSt w X r B ws last a0 a1 a2) (hb : Below X.heap.size X Y) : DSt w Y r B ws last a0 a1 a2 :=
  h.of (Grown.by hb _) (h.rd.grown hb)
theorem DSt.word {w X : World} {r B : Nat} {y : List UInt8} {ws : List (List UInt8)} {last : Card} {a0 a1 a2 : Int} (h : DSt w X r B (y :: ws) last a0 a1 a2) (hl : ws.length ≤ 200) :
    Calls Tryz.prog 191 #[.pointer (some ⟨r, 0, none⟩)] X fun e X' => e = .returned (strv y) ∧ DSt w X' r B ws last a0 a1 a2 :=
  (c191 r y ws last false X h.rd hl).mono fun _ _ ⟨h1, h2, h3⟩ => ⟨h1, h.of h3 h2⟩
theorem DSt.noword {w X : World} {r B : Nat} {last : Card} {a0 a1 a2 : Int} (h : DSt w X r B [] last a0 a1 a2) : Calls Tryz.prog 191 #[.pointer (some ⟨r, 0, none⟩)] X fun e X' => e = .panicked [unread] ∧ DSt w X' r B [] last a0 a1 a2 :=
  (c191_no r last false X h.rd).mono fun _ _ ⟨h1, h2⟩ => ⟨h1, h2 ▸ h⟩
theorem DSt.store0 {w X : World} {r B : Nat} {ws : List (List UInt8)} {last : Card} {a0 a1 a2 : Int} (h : DSt w X r B ws last a0 a1 a2) (v : Int) : DSt w (X.setCell ⟨B, 0, none⟩ (.int .i64 v)) r B ws last v a1 a2 := by
  have h1 := h.rw
  have h2 := h.lt
  have hf : ∀ i, (X.setCell ⟨B, 0, none⟩ (.int .i64 v)).cell? ⟨w.heap.size, i, none⟩ = X.cell? ⟨w.heap.size, i, none⟩ := fun i => World.cell?_setCell_far _ _ _ _ (by simp only; omega)
  exact ⟨h.rd.set_int h.t0 (by omega) _, grownBy_new h.gr (by omega) _, (hf 0).trans h.p0, (hf 1).trans h.p1, (hf 2).trans h.p2, fun i => by simpa using h.pF i,
    by rw [World.cell?_setCell_same' _ _ _ (by rw [h.t0]; rfl)], by rw [World.cell?_setCell_other _ _ _ _ (by simp)]; exact h.t1, by rw [World.cell?_setCell_other _ _ _ _ (by simp)]; exact h.t2, fun i => by simpa using h.tF i, h.rw, h.lt⟩
theorem DSt.store1 {w X : World} {r B : Nat} {ws : List (List UInt8)} {last : Card} {a0 a1 a2 : Int} (h : DSt w X r B ws last a0 a1 a2) (v : Int) : DSt w (X.setCell ⟨B, 1, none⟩ (.int .i64 v)) r B ws last a0 v a2 := by
  have h1 := h.rw
  have h2 := h.lt
  have hf : ∀ i, (X.setCell ⟨B, 1, none⟩ (.int .i64 v)).cell? ⟨w.heap.size, i, none⟩ = X.cell? ⟨w.heap.size, i, none⟩ := fun i => World.cell?_setCell_far _ _ _ _ (by simp only; omega)
  exact ⟨h.rd.set_int h.t1 (by omega) _, grownBy_new h.gr (by omega) _, (hf 0).trans h.p0, (hf 1).trans h.p1, (hf 2).trans h.p2, fun i => by simpa using h.pF i,
    by rw [World.cell?_setCell_other _ _ _ _ (by simp)]; exact h.t0, by rw [World.cell?_setCell_same' _ _ _ (by rw [h.t1]; rfl)], by rw [World.cell?_setCell_other _ _ _ _ (by simp)]; exact h.t2, fun i => by simpa using h.tF i, h.rw, h.lt⟩
theorem DSt.store2 {w X : World} {r B : Nat} {ws : List (List UInt8)} {last : Card} {a0 a1 a2 : Int} (h : DSt w X r B ws last a0 a1 a2) (v : Int) : DSt w (X.setCell ⟨B, 2, none⟩ (.int .i64 v)) r B ws last a0 a1 v := by
  have h1 := h.rw
  have h2 := h.lt
  have hf : ∀ i, (X.setCell ⟨B, 2, none⟩ (.int .i64 v)).cell? ⟨w.heap.size, i, none⟩ = X.cell? ⟨w.heap.size, i, none⟩ := fun i => World.cell?_setCell_far _ _ _ _ (by simp only; omega)
  exact ⟨h.rd.set_int h.t2 (by omega) _, grownBy_new h.gr (by omega) _, (hf 0).trans h.p0, (hf 1).trans h.p1, (hf 2).trans h.p2, fun i => by simpa using h.pF i,
    by rw [World.cell?_setCell_other _ _ _ _ (by simp)]; exact h.t0, by rw [World.cell?_setCell_other _ _ _ _ (by simp)]; exact h.t1, by rw [World.cell?_setCell_same' _ _ _ (by rw [h.t2]; rfl)], fun i => by simpa using h.tF i, h.rw, h.lt⟩
theorem wrap64_small (n : Nat) (h : n < 1000000) : wrap64 (n : Int) = n := by unfold wrap64; omega
set_option maxRecDepth 100000 in
set_option maxHeartbeats 4000000 in
theorem c154_dig (r : Nat) (hr0 : 0 < r) (c0 : UInt8) (xs : List UInt8) (ws : List (List UInt8)) (last : Card) (w : World) (hc : Cell0 w) (h : Reader w r ((c0 :: xs) :: ws) last false) (hl : ws.length ≤ 200) (hx : (c0 :: xs).length ≤ 200)
    (hws : ∀ y ∈ ws, y.length ≤ 200) (hj : joinedO (c0 :: xs) = .no) (hdig : isDig c0 = true) :
    Calls Tryz.prog 154 #[.pointer (some ⟨r, 0, none⟩)] w fun e w' => deEnd r last w (threeW true (c0 :: xs) ws) e w' := by
  obtain ⟨o, ho⟩ : ∃ o, threeW true (c0 :: xs) ws = o := ⟨_, rfl⟩
  have HO := Lib.hid ho
  rw [ho]
  clear ho
  have hrl : r < w.heap.size := by obtain ⟨v, h1, -⟩ := h; exact (Array.getElem?_eq_some_iff.1 h1).1
  have hr : Reader (w.alloc (.cells #[.int .i64 0, .int .i64 0, .int .i64 0] 41)) r ((c0 :: xs) :: ws) last false := h.grown (below_alloc w _)
  have hR := World.alloc_heap_new w (.cells #[.int .i64 0, .int .i64 0, .int .i64 0] 41 (0, 0))
  have H := Lib.hid (c191 r (c0 :: xs) ws last false _ hr hl)
  have HR := Lib.hid hR
  have HC1 := Lib.hid (hc.below (below_alloc w (.cells #[.int .i64 0, .int .i64 0, .int .i64 0] 41)) hc.lt)
  have HJ := Lib.hid hj
  have hne : c0 ≠ 110 := by rintro rfl; cases hdig
  have hb : ((c0 :: xs) == [110, 101, 120, 116]) = false := by simp [hne]
  have hW : ∀ h, within (wrap64 (((⟨(c0 :: xs).toArray⟩ : ByteArray)[0]'h).toNat : Int)) 48 57 = true := fun h => by
    simp only [isDig, Bool.and_eq_true, decide_eq_true_eq] at hdig
    have h1 : wrap64 (((⟨(c0 :: xs).toArray⟩ : ByteArray)[0]'h).toNat : Int) = (c0.toNat : Int) := by
      show wrap64 (c0.toNat : Int) = _
      have := c0.toNat_lt
      exact wrap64_small c0.toNat (by omega)
    rw [h1]
    simp only [within, Bool.and_eq_true, decide_eq_true_eq]
    omega
  have HW := Lib.hid hW
  have HX := Lib.hid hx
  clear h hr hR hc hj hdig hne hW hx
  go_enter Tryz.func154, Tryz.ntmps154
  go_wp2_with (first
    | (go_at_call 191; refine H.out.mono ?_; rintro e w1 ⟨rfl, hr1, hg1⟩; unfold strv; have hc1 : Cell0 w1 := HC1.out.grownBy hg1 hr0; obtain ⟨v1, hv1, -⟩ := id hr1; obtain ⟨q0, q1, -, q7, qF, qL⟩ := reader_cells hv1; obtain ⟨p0, p1, p2, pF, pL⟩ := cells3 ((hg1.block w.heap.size (by simp) (by simp; omega)).trans HR.out); clear hv1)
    | (go_at_call 194; refine (c194 _ HX.out _ (by assumption)).mono ?_; rw [HJ.out]; rintro e w2 ⟨he, hb2⟩; obtain rfl : e = .returned (.tuple #[dtv ⟨0, 0, 0⟩, .bool false]) := he; unfold dtv; obtain ⟨x2, rfl⟩ := of_below hb2; clear hb2)
    | (go_at_call 122; refine (c122 _ _ _ _).mono ?_; rintro e w2 ⟨rfl, rfl⟩; rw [HW.out]))
  have hne : w.heap.size ≠ r := by omega
  obtain ⟨B6, hB6⟩ : ∃ B6, (gw w1 x2).heap.size + 1 = B6 := ⟨_, rfl⟩
  obtain ⟨X, hX⟩ : ∃ X, (((gw w1 x2).alloc (.cells #[.int .i64 0, .int .i64 0, .int .i64 0] 41)).alloc (.cells #[.int .i64 0, .int .i64 0, .int .i64 0] 41)) = X := ⟨_, rfl⟩
  have hXb : Below w1.heap.size w1 X := by rw [← hX]; exact xa (xa (gw_below _ _) _) _
  have u1 := hr1.grown hXb
  have u2 : w.grownBy X (some r) := ((Grown.by (below_alloc w _) _).trans hg1).trans (Grown.by hXb _)
  have p0' := (kept hXb pL (i := 0)).trans p0
  have p1' := (kept hXb pL (i := 1)).trans p1
  have p2' := (kept hXb pL (i := 2)).trans p2
  have pF' := fun i => (keptF hXb pL (i := i)).trans (pF i)
  have s6 : ∀ i, X.cell? ⟨B6, i, none⟩ = #[Value.int .i64 0, .int .i64 0, .int .i64 0][i]? := fun i => by
    rw [← hX, ← hB6]
    have := cell_of_row (((gw w1 x2).alloc (.cells #[.int .i64 0, .int .i64 0, .int .i64 0] 41)).alloc (.cells #[.int .i64 0, .int .i64 0, .int .i64 0] 41)) _ i _ _ (0, 0) (heap_alloc_new _ _)
    simpa using this
  have f6 : ∀ i, X.frozen? ⟨B6, i, none⟩ = false := fun i => by rw [← hX, ← hB6]; simp [go_sem]
  have l6 : w.heap.size < B6 ∧ r < B6 ∧ B6 < X.heap.size := by
    have := (gw_below w1 x2).size
    have h2 : X.heap.size = (gw w1 x2).heap.size + 2 := by rw [← hX]; simp
    omega
  rw [hX, hB6]
  have st : DSt w X r B6 ws last 0 0 0 := ⟨u1, u2, p0', p1', p2', pF', s6 0, s6 1, s6 2, f6, hrl, l6.1⟩
  clear hX hB6 hXb p0 p1 p2 pF pL q0 q1 q7 qF qL hr1 hg1 hc1 H HR u1 u2 p0' p1' p2' pF' s6 f6 l6
  cases hd : domO (c0 :: xs) with
  | none =>
    have HO2 : Hid (o = .stop) := Lib.hid (by rw [← HO.out]; cases ws with | nil => rfl | cons y ws => cases ws with | nil => rfl | cons z ws => simp [threeW, hd])
    have HD := Lib.hid hd
    clear hd
    go_wp2_with (first
      | (go_at_call 195; refine (c195 _ HX.out _).mono ?_; rw [HD.out]; rintro e X1 ⟨he, hb1⟩; obtain rfl : e = .panicked [unread] := he; have st1 := st.grown hb1; have g1 := st1.t2; have g2 := st1.tF 2))
    exact ⟨rfl, by rw [HO2.out]; exact ⟨rfl, st1.gr⟩⟩
  | some a =>
    cases ws with
    | nil =>
      have HO2 : Hid (o = .stop) := Lib.hid (by rw [← HO.out]; rfl)
      have HD := Lib.hid hd
      clear hd
      go_wp2_with (first
        | (go_at_call 195; refine (c195 _ HX.out _).mono ?_; rw [HD.out]; rintro e X1 ⟨he, hb1⟩; obtain rfl : e = .returned (.int .i64 a) := he; have st1 := st.grown hb1; have g1 := st1.t2; have g2 := st1.tF 2)
        | (go_at_call 191; refine (st1.store2 a).noword.mono ?_; rintro e X2 ⟨rfl, st2⟩))
      exact ⟨rfl, by rw [HO2.out]; exact ⟨rfl, st2.gr⟩⟩
    | cons y ws =>
      have HY := Lib.hid (hws y (by simp))
      have HL1 : Hid (ws.length ≤ 200) := Lib.hid (by simp at hl; omega)
      cases hm : monthO y with
      | none =>
        have HO2 : Hid (o = .stop) := Lib.hid (by rw [← HO.out]; cases ws with | nil => rfl | cons z ws => simp [threeW, hd, hm])
        clear hws hl
        have HD := Lib.hid hd
        clear hd
        have HM := Lib.hid hm
        clear hm
        go_wp2_with (first
          | (go_at_call 196; refine (c196 _ HY.out _).mono ?_; rw [HM.out]; rintro e X3 ⟨he, hb3⟩; obtain rfl : e = .panicked [unread] := he; have st3 := st2.grown hb3; have g3 := st3.t1; have g4 := st3.tF 1)
          | (go_at_call 195; refine (c195 _ HX.out _).mono ?_; rw [HD.out]; rintro e X1 ⟨he, hb1⟩; obtain rfl : e = .returned (.int .i64 a) := he; have st1 := st.grown hb1; have g1 := st1.t2; have g2 := st1.tF 2)
          | (go_at_call 191; refine ((st1.store2 a).word HL1.out).mono ?_; rintro e X2 ⟨rfl, st2⟩; unfold strv))
        exact ⟨rfl, by rw [HO2.out]; exact ⟨rfl, st3.gr⟩⟩
      | some b =>
        cases ws with
        | nil =>
          have HO2 : Hid (o = .stop) := Lib.hid (by rw [← HO.out]; rfl)
          clear hws hl
          have HD := Lib.hid hd
          clear hd
          have HM := Lib.hid hm
          clear hm
          go_wp2_with (first
            | (go_at_call 191; refine (st3.store1 b).noword.mono ?_; rintro e X4 ⟨rfl, st4⟩)
            | (go_at_call 196; refine (c196 _ HY.out _).mono ?_; rw [HM.out]; rintro e X3 ⟨he, hb3⟩; obtain rfl : e = .returned (.int .i64 b) := he; have st3 := st2.grown hb3; have g3 := st3.t1; have g4 := st3.tF 1)
            | (go_at_call 195; refine (c195 _ HX.out _).mono ?_; rw [HD.out]; rintro e X1 ⟨he, hb1⟩; obtain rfl : e = .returned (.int .i64 a) := he; have st1 := st.grown hb1; have g1 := st1.t2; have g2 := st1.tF 2)
            | (go_at_call 191; refine ((st1.store2 a).word HL1.out).mono ?_; rintro e X2 ⟨rfl, st2⟩; unfold strv))
          exact ⟨rfl, by rw [HO2.out]; exact ⟨rfl, st4.gr⟩⟩
        | cons z ws =>
          have HZ := Lib.hid (hws z (by simp))
          have HL2 : Hid (ws.length ≤ 200) := Lib.hid (by simp at hl; omega)
          cases he3 : yearO z with
          | none =>
            have HO2 : Hid (o = .stop) := Lib.hid (by rw [← HO.out]; simp [threeW, hd, hm, he3])
            clear hws hl
            have HD := Lib.hid hd
            clear hd
            have HM := Lib.hid hm
            clear hm
            have HE := Lib.hid he3
            clear he3
            go_wp2_with (first
              | (go_at_call 197; refine (c197 _ HZ.out _).mono ?_; rw [HE.out]; rintro e X5 ⟨he, hb5⟩; obtain rfl : e = .panicked [unread] := he; have st5 := st4.grown hb5; have g5 := st5.t0; have g6 := st5.tF 0; have g7 := st5.t1; have g8 := st5.t2; have g9 := st5.p0; have g10 := st5.p1; have g11 := st5.p2; have g12 := st5.pF; have g13 := st5.ltX.1; have g14 := st5.ltX.2; have g15 : w.heap.size ≠ B6 := Nat.ne_of_lt st5.lt; have g16 : B6 ≠ w.heap.size := g15.symm)
              | (go_at_call 191; refine ((st3.store1 b).word HL2.out).mono ?_; rintro e X4 ⟨rfl, st4⟩; unfold strv)
              | (go_at_call 196; refine (c196 _ HY.out _).mono ?_; rw [HM.out]; rintro e X3 ⟨he, hb3⟩; obtain rfl : e = .returned (.int .i64 b) := he; have st3 := st2.grown hb3; have g3 := st3.t1; have g4 := st3.tF 1)
              | (go_at_call 195; refine (c195 _ HX.out _).mono ?_; rw [HD.out]; rintro e X1 ⟨he, hb1⟩; obtain rfl : e = .returned (.int .i64 a) := he; have st1 := st.grown hb1; have g1 := st1.t2; have g2 := st1.tF 2)
              | (go_at_call 191; refine ((st1.store2 a).word HL1.out).mono ?_; rintro e X2 ⟨rfl, st2⟩; unfold strv))
            exact ⟨rfl, by rw [HO2.out]; exact ⟨rfl, st5.gr⟩⟩
          | some c =>
            have HO2 : Hid (o = .date ⟨c, b, a⟩ ws) := Lib.hid (by rw [← HO.out]; simp [threeW, hd, hm, he3])
            clear hws hl
            have HD := Lib.hid hd
            clear hd
            have HM := Lib.hid hm
            clear hm
            have HE := Lib.hid he3
            clear he3
            go_wp2_with (first
              | (go_at_call 197; refine (c197 _ HZ.out _).mono ?_; rw [HE.out]; rintro e X5 ⟨he, hb5⟩; obtain rfl : e = .returned (.int .i64 c) := he; have st5 := st4.grown hb5; have g5 := st5.t0; have g6 := st5.tF 0; have g7 := st5.t1; have g8 := st5.t2; have g9 := st5.p0; have g10 := st5.p1; have g11 := st5.p2; have g12 := st5.pF; have g13 := st5.ltX.1; have g14 := st5.ltX.2; have g15 : w.heap.size ≠ B6 := Nat.ne_of_lt st5.lt; have g16 : B6 ≠ w.heap.size := g15.symm)
              | (go_at_call 191; refine ((st3.store1 b).word HL2.out).mono ?_; rintro e X4 ⟨rfl, st4⟩; unfold strv)
              | (go_at_call 196; refine (c196 _ HY.out _).mono ?_; rw [HM.out]; rintro e X3 ⟨he, hb3⟩; obtain rfl : e = .returned (.int .i64 b) := he; have st3 := st2.grown hb3; have g3 := st3.t1; have g4 := st3.tF 1)
              | (go_at_call 195; refine (c195 _ HX.out _).mono ?_; rw [HD.out]; rintro e X1 ⟨he, hb1⟩; obtain rfl : e = .returned (.int .i64 a) := he; have st1 := st.grown hb1; have g1 := st1.t2; have g2 := st1.tF 2)
              | (go_at_call 191; refine ((st1.store2 a).word HL1.out).mono ?_; rintro e X2 ⟨rfl, st2⟩; unfold strv))
            have st6 := st5.store0 c
            obtain ⟨Y, hY, z1, z2, z3, z4, z5, z6⟩ := store3 (w := w) st6.rd st6.p0 st6.p1 st6.p2 hne (Nat.le_refl _) st6.gr c b a
            rw [hY]
            refine bodyPost_ret (v := dtv ⟨c, b, a⟩) ?_ rfl (by rw [HO2.out]; exact ⟨rfl, z1, z2⟩)
            simp [results, Tryz.results154, go_sem, dtv, z3, z4, z5, z6]
set_option maxRecDepth 100000 in
set_option maxHeartbeats 4000000 in
theorem c154_mon (r : Nat) (hr0 : 0 < r) (c0 : UInt8) (xs : List UInt8) (ws : List (List UInt8)) (last : Card) (w : World) (hc : Cell0 w) (h : Reader w r ((c0 :: xs) :: ws) last false) (hl : ws.length ≤ 200) (hx : (c0 :: xs).length ≤ 200)
    (hws : ∀ y ∈ ws, y.length ≤ 200) (hj : joinedO (c0 :: xs) = .no) (hn : ¬ (c0 :: xs = nextW ∧ 0 < last.st)) (hdig : isDig c0 = false) :
    Calls Tryz.prog 154 #[.pointer (some ⟨r, 0, none⟩)] w fun e w' => deEnd r last w (threeW false (c0 :: xs) ws) e w' := by
  obtain ⟨o, ho⟩ : ∃ o, threeW false (c0 :: xs) ws = o := ⟨_, rfl⟩
  have HO := Lib.hid ho
  rw [ho]
  clear ho
  have hrl : r < w.heap.size := by obtain ⟨v, h1, -⟩ := h; exact (Array.getElem?_eq_some_iff.1 h1).1
  have hr : Reader (w.alloc (.cells #[.int .i64 0, .int .i64 0, .int .i64 0] 41)) r ((c0 :: xs) :: ws) last false := h.grown (below_alloc w _)
  have hR := World.alloc_heap_new w (.cells #[.int .i64 0, .int .i64 0, .int .i64 0] 41 (0, 0))
  have H := Lib.hid (c191 r (c0 :: xs) ws last false _ hr hl)
  have HR := Lib.hid hR
  have HC1 := Lib.hid (hc.below (below_alloc w (.cells #[.int .i64 0, .int .i64 0, .int .i64 0] 41)) hc.lt)
  have HJ := Lib.hid hj
  have hb : (((c0 :: xs) == [110, 101, 120, 116]) = false) ∨ (((c0 :: xs) == [110, 101, 120, 116]) = true ∧ ¬ 0 < last.st) := by
    by_cases h1 : c0 :: xs = [110, 101, 120, 116]
    · exact .inr ⟨by simp [h1], fun h => hn ⟨h1, h⟩⟩
    · exact .inl (by simpa using h1)
  have hW : ∀ h, within (wrap64 (((⟨(c0 :: xs).toArray⟩ : ByteArray)[0]'h).toNat : Int)) 48 57 = false := fun h => by
    have hd2 : ¬ (48 ≤ c0.toNat ∧ c0.toNat ≤ 57) := by
      intro hh
      rw [isDig, decide_eq_true hh.1, decide_eq_true hh.2] at hdig
      cases hdig
    have h1 : wrap64 (((⟨(c0 :: xs).toArray⟩ : ByteArray)[0]'h).toNat : Int) = (c0.toNat : Int) := by
      show wrap64 (c0.toNat : Int) = _
      have := c0.toNat_lt
      exact wrap64_small c0.toNat (by omega)
    rw [h1]
    unfold within
    rw [Bool.eq_false_iff]
    intro hh
    simp only [Bool.and_eq_true, decide_eq_true_eq] at hh
    omega
  have HW := Lib.hid hW
  have HX := Lib.hid hx
  clear h hr hR hc hj hdig hW hx hn
  rcases hb with hb | ⟨hb, hb0⟩
  all_goals
    go_enter Tryz.func154, Tryz.ntmps154
    go_wp2_with (first
      | (go_at_call 191; refine H.out.mono ?_; rintro e w1 ⟨rfl, hr1, hg1⟩; unfold strv; have hc1 : Cell0 w1 := HC1.out.grownBy hg1 hr0; obtain ⟨v1, hv1, -⟩ := id hr1; obtain ⟨q0, q1, -, q7, qF, qL⟩ := reader_cells hv1; obtain ⟨p0, p1, p2, pF, pL⟩ := cells3 ((hg1.block w.heap.size (by simp) (by simp; omega)).trans HR.out); clear hv1)
      | (go_at_call 194; refine (c194 _ HX.out _ (by assumption)).mono ?_; rw [HJ.out]; rintro e w2 ⟨he, hb2⟩; obtain rfl : e = .returned (.tuple #[dtv ⟨0, 0, 0⟩, .bool false]) := he; unfold dtv; obtain ⟨x2, rfl⟩ := of_below hb2; clear hb2)
      | (go_at_call 122; refine (c122 _ _ _ _).mono ?_; rintro e w2 ⟨rfl, rfl⟩; rw [HW.out]))
    have hne : w.heap.size ≠ r := by omega
    obtain ⟨B6, hB6⟩ : ∃ B6, (gw w1 x2).heap.size + 1 = B6 := ⟨_, rfl⟩
    obtain ⟨X, hX⟩ : ∃ X, (((gw w1 x2).alloc (.cells #[.int .i64 0, .int .i64 0, .int .i64 0] 41)).alloc (.cells #[.int .i64 0, .int .i64 0, .int .i64 0] 41)) = X := ⟨_, rfl⟩
    have hXb : Below w1.heap.size w1 X := by rw [← hX]; exact xa (xa (gw_below _ _) _) _
    have u1 := hr1.grown hXb
    have u2 : w.grownBy X (some r) := ((Grown.by (below_alloc w _) _).trans hg1).trans (Grown.by hXb _)
    have p0' := (kept hXb pL (i := 0)).trans p0
    have p1' := (kept hXb pL (i := 1)).trans p1
    have p2' := (kept hXb pL (i := 2)).trans p2
    have pF' := fun i => (keptF hXb pL (i := i)).trans (pF i)
    have s6 : ∀ i, X.cell? ⟨B6, i, none⟩ = #[Value.int .i64 0, .int .i64 0, .int .i64 0][i]? := fun i => by
      rw [← hX, ← hB6]
      have := cell_of_row (((gw w1 x2).alloc (.cells #[.int .i64 0, .int .i64 0, .int .i64 0] 41)).alloc (.cells #[.int .i64 0, .int .i64 0, .int .i64 0] 41)) _ i _ _ (0, 0) (heap_alloc_new _ _)
      simpa using this
    have f6 : ∀ i, X.frozen? ⟨B6, i, none⟩ = false := fun i => by rw [← hX, ← hB6]; simp [go_sem]
    have l6 : w.heap.size < B6 ∧ r < B6 ∧ B6 < X.heap.size := by
      have := (gw_below w1 x2).size
      have h2 : X.heap.size = (gw w1 x2).heap.size + 2 := by rw [← hX]; simp
      omega
    rw [hX, hB6]
    have st : DSt w X r B6 ws last 0 0 0 := ⟨u1, u2, p0', p1', p2', pF', s6 0, s6 1, s6 2, f6, hrl, l6.1⟩
    clear hX hB6 hXb p0 p1 p2 pF pL q0 q1 q7 qF qL hr1 hg1 hc1 H HR u1 u2 p0' p1' p2' pF' s6 f6 l6
    cases hd : monthO (c0 :: xs) with
    | none =>
      have HO2 : Hid (o = .stop) := Lib.hid (by rw [← HO.out]; cases ws with | nil => rfl | cons y ws => cases ws with | nil => rfl | cons z ws => simp [threeW, hd])
      have HD := Lib.hid hd
      clear hd
      go_wp2_with (first
        | (go_at_call 196; refine (c196 _ HX.out _).mono ?_; rw [HD.out]; rintro e X1 ⟨he, hb1⟩; obtain rfl : e = .panicked [unread] := he; have st1 := st.grown hb1; have g1 := st1.t1; have g2 := st1.tF 1))
      exact ⟨rfl, by rw [HO2.out]; exact ⟨rfl, st1.gr⟩⟩
    | some a =>
      cases ws with
      | nil =>
        have HO2 : Hid (o = .stop) := Lib.hid (by rw [← HO.out]; rfl)
        have HD := Lib.hid hd
        clear hd
        go_wp2_with (first
          | (go_at_call 196; refine (c196 _ HX.out _).mono ?_; rw [HD.out]; rintro e X1 ⟨he, hb1⟩; obtain rfl : e = .returned (.int .i64 a) := he; have st1 := st.grown hb1; have g1 := st1.t1; have g2 := st1.tF 1)
          | (go_at_call 191; refine (st1.store1 a).noword.mono ?_; rintro e X2 ⟨rfl, st2⟩))
        exact ⟨rfl, by rw [HO2.out]; exact ⟨rfl, st2.gr⟩⟩
      | cons y ws =>
        have HY := Lib.hid (hws y (by simp))
        have HL1 : Hid (ws.length ≤ 200) := Lib.hid (by simp at hl; omega)
        cases hm : domO y with
        | none =>
          have HO2 : Hid (o = .stop) := Lib.hid (by rw [← HO.out]; cases ws with | nil => rfl | cons z ws => simp [threeW, hd, hm])
          clear hws hl
          have HD := Lib.hid hd
          clear hd
          have HM := Lib.hid hm
          clear hm
          go_wp2_with (first
            | (go_at_call 195; refine (c195 _ HY.out _).mono ?_; rw [HM.out]; rintro e X3 ⟨he, hb3⟩; obtain rfl : e = .panicked [unread] := he; have st3 := st2.grown hb3; have g3 := st3.t2; have g4 := st3.tF 2)
            | (go_at_call 196; refine (c196 _ HX.out _).mono ?_; rw [HD.out]; rintro e X1 ⟨he, hb1⟩; obtain rfl : e = .returned (.int .i64 a) := he; have st1 := st.grown hb1; have g1 := st1.t1; have g2 := st1.tF 1)
            | (go_at_call 191; refine ((st1.store1 a).word HL1.out).mono ?_; rintro e X2 ⟨rfl, st2⟩; unfold strv))
          exact ⟨rfl, by rw [HO2.out]; exact ⟨rfl, st3.gr⟩⟩
        | some b =>
          cases ws with
          | nil =>
            have HO2 : Hid (o = .stop) := Lib.hid (by rw [← HO.out]; rfl)
            clear hws hl
            have HD := Lib.hid hd
            clear hd
            have HM := Lib.hid hm
            clear hm
            go_wp2_with (first
              | (go_at_call 191; refine (st3.store2 b).noword.mono ?_; rintro e X4 ⟨rfl, st4⟩)
              | (go_at_call 195; refine (c195 _ HY.out _).mono ?_; rw [HM.out]; rintro e X3 ⟨he, hb3⟩; obtain rfl : e = .returned (.int .i64 b) := he; have st3 := st2.grown hb3; have g3 := st3.t2; have g4 := st3.tF 2)
              | (go_at_call 196; refine (c196 _ HX.out _).mono ?_; rw [HD.out]; rintro e X1 ⟨he, hb1⟩; obtain rfl : e = .returned (.int .i64 a) := he; have st1 := st.grown hb1; have g1 := st1.t1; have g2 := st1.tF 1)
              | (go_at_call 191; refine ((st1.store1 a).word HL1.out).mono ?_; rintro e X2 ⟨rfl, st2⟩; unfold strv))
            exact ⟨rfl, by rw [HO2.out]; exact ⟨rfl, st4.gr⟩⟩
          | cons z ws =>
            have HZ := Lib.hid (hws z (by simp))
            have HL2 : Hid (ws.length ≤ 200) := Lib.hid (by simp at hl; omega)
            cases he3 : yearO z with
            | none =>
              have HO2 : Hid (o = .stop) := Lib.hid (by rw [← HO.out]; simp [threeW, hd, hm, he3])
              clear hws hl
              have HD := Lib.hid hd
              clear hd
              have HM := Lib.hid hm
              clear hm
              have HE := Lib.hid he3
              clear he3
              go_wp2_with (first
                | (go_at_call 197; refine (c197 _ HZ.out _).mono ?_; rw [HE.out]; rintro e X5 ⟨he, hb5⟩; obtain rfl : e = .panicked [unread] := he; have st5 := st4.grown hb5; have g5 := st5.t0; have g6 := st5.tF 0; have g7 := st5.t1; have g8 := st5.t2; have g9 := st5.p0; have g10 := st5.p1; have g11 := st5.p2; have g12 := st5.pF; have g13 := st5.ltX.1; have g14 := st5.ltX.2; have g15 : w.heap.size ≠ B6 := Nat.ne_of_lt st5.lt; have g16 : B6 ≠ w.heap.size := g15.symm)
                | (go_at_call 191; refine ((st3.store2 b).word HL2.out).mono ?_; rintro e X4 ⟨rfl, st4⟩; unfold strv)
                | (go_at_call 195; refine (c195 _ HY.out _).mono ?_; rw [HM.out]; rintro e X3 ⟨he, hb3⟩; obtain rfl : e = .returned (.int .i64 b) := he; have st3 := st2.grown hb3; have g3 := st3.t2; have g4 := st3.tF 2)
                | (go_at_call 196; refine (c196 _ HX.out _).mono ?_; rw [HD.out]; rintro e X1 ⟨he, hb1⟩; obtain rfl : e = .returned (.int .i64 a) := he; have st1 := st.grown hb1; have g1 := st1.t1; have g2 := st1.tF 1)
                | (go_at_call 191; refine ((st1.store1 a).word HL1.out).mono ?_; rintro e X2 ⟨rfl, st2⟩; unfold strv))
              exact ⟨rfl, by rw [HO2.out]; exact ⟨rfl, st5.gr⟩⟩
            | some c =>
              have HO2 : Hid (o = .date ⟨c, a, b⟩ ws) := Lib.hid (by rw [← HO.out]; simp [threeW, hd, hm, he3])
              clear hws hl
              have HD := Lib.hid hd
              clear hd
              have HM := Lib.hid hm
              clear hm
              have HE := Lib.hid he3
              clear he3
              go_wp2_with (first
                | (go_at_call 197; refine (c197 _ HZ.out _).mono ?_; rw [HE.out]; rintro e X5 ⟨he, hb5⟩; obtain rfl : e = .returned (.int .i64 c) := he; have st5 := st4.grown hb5; have g5 := st5.t0; have g6 := st5.tF 0; have g7 := st5.t1; have g8 := st5.t2; have g9 := st5.p0; have g10 := st5.p1; have g11 := st5.p2; have g12 := st5.pF; have g13 := st5.ltX.1; have g14 := st5.ltX.2; have g15 : w.heap.size ≠ B6 := Nat.ne_of_lt st5.lt; have g16 : B6 ≠ w.heap.size := g15.symm)
                | (go_at_call 191; refine ((st3.store2 b).word HL2.out).mono ?_; rintro e X4 ⟨rfl, st4⟩; unfold strv)
                | (go_at_call 195; refine (c195 _ HY.out _).mono ?_; rw [HM.out]; rintro e X3 ⟨he, hb3⟩; obtain rfl : e = .returned (.int .i64 b) := he; have st3 := st2.grown hb3; have g3 := st3.t2; have g4 := st3.tF 2)
                | (go_at_call 196; refine (c196 _ HX.out _).mono ?_; rw [HD.out]; rintro e X1 ⟨he, hb1⟩; obtain rfl : e = .returned (.int .i64 a) := he; have st1 := st.grown hb1; have g1 := st1.t1; have g2 := st1.tF 1)
                | (go_at_call 191; refine ((st1.store1 a).word HL1.out).mono ?_; rintro e X2 ⟨rfl, st2⟩; unfold strv))
              have st6 := st5.store0 c
              obtain ⟨Y, hY, z1, z2, z3, z4, z5, z6⟩ := store3 (w := w) st6.rd st6.p0 st6.p1 st6.p2 hne (Nat.le_refl _) st6.gr c a b
              rw [hY]
              refine bodyPost_ret (v := dtv ⟨c, a, b⟩) ?_ rfl (by rw [HO2.out]; exact ⟨rfl, z1, z2⟩)
              simp [results, Tryz.results154, go_sem, dtv, z3, z4, z5, z6]
end Go.Proofs.YthifeoebefbalaaGreatDoor

namespace Go.Proofs.YthifeoebefbalaaGreatDoor
open Go.RowKit

theorem c154 (r : Nat) (hr0 : 0 < r) (x : List UInt8) (ws : List (List UInt8)) (last : Card) (w : World) (hc : Cell0 w) (h : Reader w r (x :: ws) last false) (hl : ws.length ≤ 200) (hx : x.length ≤ 200) (hne : x ≠ [])
    (hws : ∀ y ∈ ws, y.length ≤ 200) : Calls Tryz.prog 154 #[.pointer (some ⟨r, 0, none⟩)] w fun e w' => deEnd r last w (dateW x ws last) e w' := by
  by_cases hn : x = nextW ∧ 0 < last.st
  · obtain ⟨rfl, h0⟩ := hn
    have : dateW nextW ws last = .next ws := by rw [dateW, if_pos]; simp [h0]
    rw [this]
    exact c154_next r ws last w h hl h0
  · have hn2 : ¬ (decide (x = nextW) && decide (0 < last.st)) = true := by simpa using hn
    cases hj : joinedO x with
    | date d =>
      rw [show dateW x ws last = .date d ws by unfold dateW; rw [if_neg hn2, hj]]
      exact c154_date r hr0 x ws last w hc h hl hx hn d hj
    | stop =>
      rw [show dateW x ws last = .stop by unfold dateW; rw [if_neg hn2, hj]]
      exact c154_stop r hr0 x ws last w hc h hl hx hn hj
    | no =>
      rw [show dateW x ws last = threeW (isDig (x.headD 0)) x ws by unfold dateW; rw [if_neg hn2, hj]]
      cases x with
      | nil => exact absurd rfl hne
      | cons c0 xs =>
        cases hg : isDig c0 with
        | true =>
          simp only [List.headD_cons, hg]
          exact c154_dig r hr0 c0 xs ws last w hc h hl hx hws hj hg
        | false =>
          simp only [List.headD_cons, hg]
          exact c154_mon r hr0 c0 xs ws last w hc h hl hx hws hj hn hg
end Go.Proofs.YthifeoebefbalaaGreatDoor
