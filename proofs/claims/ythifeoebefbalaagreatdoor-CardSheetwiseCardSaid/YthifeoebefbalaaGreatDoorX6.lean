/- The law CardSheetwise: its walk. -/
import Derived.Test.YthifeoebefbalaaGreatDoorX5
import Derived.Test.YthifeoebefbalaaGreatDoorZ16
set_option linter.unusedVariables false
set_option linter.unusedSimpArgs false
namespace Go.Proofs.YthifeoebefbalaaGreatDoor
open Go.RowKit

theorem okc (st : Int) (o : Option Int) (n k a f : Int) : (∃ c, cardR st o n k a f = .got c) ∨ cardR st o n k a f = .err 3 := by
  unfold cardR
  split
  · exact .inr rfl
  · split
    · exact .inl ⟨_, rfl⟩
    · exact .inr rfl
theorem okr (st : Int) (nx : Bool) (d : Dt) (last : Card) (ws : List (List UInt8)) : (∃ c, restR st nx d last ws = .got c) ∨ restR st nx d last ws = .err 3 ∨ restR st nx d last ws = .form := by
  unfold restR
  split
  · exact .inr (.inr rfl)
  · split
    · exact .inr (.inr rfl)
    · split
      · rcases okc _ _ _ _ _ _ with h | h
        · exact .inl h
        · exact .inr (.inl h)
      · exact .inr (.inr rfl)
/-- A line is read as a card, or with an error that is one. -/
theorem line_cases (s : List UInt8) (last : Card) : (∃ c, lineR s last = .got c) ∨ (rdC (lineR s last) = zcard ∧ rdE (lineR s last) ≠ 0) := by
  have h : (∃ c, lineR s last = .got c) ∨ lineR s last = .err 3 ∨ lineR s last = .form ∨ lineR s last = .err 2 := by
    unfold lineR
    split
    · exact .inr (.inr (.inr rfl))
    · unfold readRs
      split
      · exact .inr (.inr (.inl rfl))
      · split
        · exact .inr (.inr (.inl rfl))
        · split
          · exact .inr (.inr (.inl rfl))
          · split
            · exact .inr (.inr (.inl rfl))
            · rcases okr _ _ _ _ _ with h | h | h
              · exact .inl h
              · exact .inr (.inl h)
              · exact .inr (.inr (.inl h))
            · rcases okr _ _ _ _ _ with h | h | h
              · exact .inl h
              · exact .inr (.inl h)
              · exact .inr (.inr (.inl h))
  rcases h with h | h | h | h
  · exact .inl h
  · exact .inr (by rw [h]; exact ⟨rfl, by decide⟩)
  · exact .inr (by rw [h]; exact ⟨rfl, by decide⟩)
  · exact .inr (by rw [h]; exact ⟨rfl, by decide⟩)
theorem lines_mem (t : List UInt8) : ∀ p ∈ linesR t, p.length ≤ t.length := by
  intro p hp
  refine splitL_mem 10 t p ?_
  unfold linesR at hp
  split at hp
  · exact (List.dropLast_sublist _).subset hp
  · exact hp
theorem flat_at8 (l : List Card) (i : Nat) (c : Card) (h : l[i]? = some c) : (flatC l)[i * 6]? = some (.int .i64 c.st) ∧ (flatC l)[i * 6 + 1]? = some (.int .i64 c.da) ∧ (flatC l)[i * 6 + 2]? = some (.int .i64 c.dy) ∧ (flatC l)[i * 6 + 3]? = some (.int .i64 c.ki) ∧ (flatC l)[i * 6 + 4]? = some (.int .i64 c.am) ∧ (flatC l)[i * 6 + 5]? = some (.int .i64 c.fi) := by
  induction l generalizing i with
  | nil => simp at h
  | cons d l ih =>
    cases i with
    | zero => simp at h; subst h; exact ⟨rfl, rfl, rfl, rfl, rfl, rfl⟩
    | succ i =>
      have h' : l[i]? = some c := by simpa using h
      have e : ∀ k, (flatC (d :: l))[(i + 1) * 6 + k]? = (flatC l)[i * 6 + k]? := fun k => by
        rw [flatC, List.flatMap_cons, List.getElem?_append_right (by simp [cardCells]; omega)]
        congr 1
        simp [cardCells]
        omega
      obtain ⟨a0, a1, a2, a3, a4, a5⟩ := ih i h'
      exact ⟨(e 0).trans a0, (e 1).trans a1, (e 2).trans a2, (e 3).trans a3, (e 4).trans a4, (e 5).trans a5⟩
theorem own_cards8 {w : World} {B : Nat} {v : Value} {l : List Card} (h : w.ownsRow B 24 6 v l.length (flatC l)) : ∃ a cap, v = .slice a l.length cap ∧ (l ≠ [] → ∃ g, a = some ⟨g, 0, none⟩ ∧ CardsAt w g 0 l) := by
  have h0 := h
  obtain ⟨hl, hc⟩ := h
  rcases hc with ⟨rfl, h1⟩ | ⟨g, cap, cur, rfl, -⟩
  · exact ⟨none, 0, by rw [h1], fun hne => absurd (List.length_eq_zero_iff.1 h1) hne⟩
  · refine ⟨_, cap, rfl, fun _ => ⟨g, rfl, fun i c hi => ?_⟩⟩
    have hlt := (List.getElem?_eq_some_iff.1 hi).1
    obtain ⟨a0, a1, a2, a3, a4, a5⟩ := flat_at8 l i c hi
    have k : ∀ j, j < 6 → w.cell? ⟨g, 0 + i * 6 + j, none⟩ = (flatC l)[i * 6 + j]? := fun j hj => by
      rw [Nat.zero_add]
      exact h0.cellAt _ (by omega)
    exact ⟨(k 0 (by decide)).trans a0, (k 1 (by decide)).trans a1, (k 2 (by decide)).trans a2, (k 3 (by decide)).trans a3, (k 4 (by decide)).trans a4, (k 5 (by decide)).trans a5⟩
theorem box8 {P : Program} {c : Code} {a : Act} {W : World} {Q : Exit → Act → World → Prop} (F : World → Prop) (h : F W) (k : ∀ V, F V → c.wp P Q a V) : c.wp P Q a W := k W h
theorem drop_cons {ls : List (List UInt8)} {i : Nat} {s : List UInt8} (h : ls[i]? = some s) : ls.drop i = s :: ls.drop (i + 1) := by
  obtain ⟨hk, hc⟩ := List.getElem?_eq_some_iff.1 h
  rw [← hc]
  exact List.drop_eq_getElem_cons hk
set_option maxRecDepth 100000 in
set_option maxHeartbeats 32000000 in
theorem c8 (t : List UInt8) (w : World) (hE : Env w) (hC : Cell0 w) : Calls Tryz.prog 8 #[.string ⟨t.toArray⟩] w fun e w' => e = .returned (.bool true) ∧ Below w.heap.size w w' := by
  have HE := Lib.hid hE
  have HC := Lib.hid hC
  clear hE hC
  by_cases h400 : 400 < t.length
  · go_enter Tryz.func8, Tryz.ntmps8
    go_wp2_with (go_at_call 22; refine (c22 _ HE.out HC.out).mono ?_; rintro e w1 ⟨rfl, hb1⟩)
    go_ret
    exact ⟨rfl, hb1⟩
  have HSH := fun W hW => Lib.hid (c33 t W hW (by omega))
  have HLN := fun W => Lib.hid (c34 t W (by omega))
  have hmem := lines_mem t
  have hsame := (lines_same t).1
  have hagain := sheet_again t
  rw [← hsame] at hagain
  have hsr : (linesR t).length ≤ 90 → sheetR t = sheetFrom (linesR t) 0 [] zcard := fun h => by rw [sheetR, ← hsame, if_neg (by omega)]
  have HSB := fun W hW => Lib.hid (c33 (10 :: (t ++ [10, 32, 59, 10])) W hW (by simp; omega))
  obtain ⟨ls, hls⟩ : ∃ ls, linesR t = ls := ⟨_, rfl⟩
  rw [hls] at HLN hmem hagain hsr
  clear hls hsame
  obtain ⟨⟨LL, E, AT⟩, hr⟩ : ∃ r, sheetR t = r := ⟨_, rfl⟩
  rw [hr] at HSH hagain hsr
  simp only at hagain
  have HAG := Lib.hid hagain
  have HSR := Lib.hid hsr
  have HM := Lib.hid hmem
  clear hr hagain hsr hmem
  unfold sheetEnd strv at HSH HSB
  simp only at HSH
  go_enter Tryz.func8, Tryz.ntmps8
  go_wp2_with fail
  refine (HSH w HC.out).out.mono ?_
  rintro e X1 ⟨v, rfl, hown, hb⟩
  obtain ⟨a3, cap3, rfl, hL1⟩ := own_cards8 hown
  clear hown HSH
  go_wp2_with fail
  refine (HLN _).out.mono ?_
  rintro e X2 ⟨v, rfl, hS, hb2⟩
  have hL2 : LL ≠ [] → ∃ g, a3 = some ⟨g, 0, none⟩ ∧ CardsAt X2 g 0 LL := fun h => by
    obtain ⟨g, e, hc⟩ := hL1 h
    exact ⟨g, e, hc.below hb2⟩
  have hX := hb.trans (hb2.mono hb.size)
  obtain ⟨a6, cap6, rfl, hcap6, hk6⟩ := hS
  have HL := Lib.hid hL2
  have HK := Lib.hid hk6
  clear hL1 hL2 hk6 hb hb2 HLN hcap6
  obtain ⟨n, hn⟩ : ∃ n, ls.length = n := ⟨_, rfl⟩
  rw [hn]
  have HN := Lib.hid hn
  clear hn
  by_cases h90 : 90 < n
  · go_wp2_with (go_at_call 22; refine (c22 _ (HE.out.below hX) (HC.out.below hX HC.out.lt)).mono ?_; rintro e w1 ⟨rfl, hb1⟩)
    go_ret
    exact ⟨rfl, below_trans hX hb1⟩
  have HSR := Lib.hid (HSR.out (by rw [HN.out]; omega))
  go_wp2_with fail
  go_loopw [7, 8] (fun kv iv wr => ∃ (i : Nat) (out : List Card) (last : Card), i ≤ n ∧ out.length ≤ i ∧ kv = .int .i64 out.length ∧ iv = .int .i64 i ∧ Hid ((LL, E, AT) = sheetFrom (ls.drop i) i out last) ∧ ∃ y, wr = gw X2 y) (fun _ i _ => n - (intOf i).toNat)
  case atStart => exact ⟨0, [], zcard, by omega, by simp, rfl, rfl, HSR, of_below (xr _)⟩
  case round =>
    clear HSR
    obtain ⟨i, out, last, hi, hoi, rfl, rfl, HS, y, rfl⟩ := hrel
    obtain ⟨k, hk⟩ : ∃ k, out.length = k := ⟨_, rfl⟩
    rw [hk] at hoi ⊢
    have HOK := Lib.hid hk
    clear hk
    by_cases hlt : i < n
    · obtain ⟨s, hs⟩ : ∃ s, ls[i]? = some s := by
        have := HN.out
        exact ⟨ls[i]'(by omega), by simp⟩
      have sl : s.length ≤ 4000 := Nat.le_trans (HM.out s (List.mem_of_getElem? hs)) (by omega)
      have hne : ls ≠ [] := fun e => by rw [e] at hs; simp at hs
      obtain ⟨g6, rfl, hg6, hc6⟩ := HK.out hne
      have q6 := hc6 i s hs
      have HD := Lib.hid (drop_cons hs)
      clear hc6 hne hs
      obtain ⟨ws, hws⟩ : ∃ ws, wordsOf s = ws := ⟨_, rfl⟩
      have HW : ∀ W, Hid (Calls Tryz.prog 35 #[.string ⟨s.toArray⟩] W fun e w' => ∃ v, e = .returned v ∧ w'.ownsRow W.heap.size 9 1 v ws.length (strC ws) ∧ Below W.heap.size W w') := fun W => Lib.hid (by rw [← hws]; exact c35 s W sl)
      have HWS := Lib.hid hws
      have H23 := fun W hW => Lib.hid (c23 s W hW)
      unfold strv at H23
      clear hws
      cases ws with
      | nil =>
        have hall := words_blank s HWS.out
        have HA := Lib.hid hall
        clear hall
        go_wp2_with fail
        refine (HW _).out.mono ?_
        rintro e X3 ⟨v9, rfl, hown9, hb9⟩
        obtain ⟨a9, cap9, rfl, -, -⟩ := own_strs hown9
        clear hown9
        obtain ⟨z, rfl⟩ := of_below (below_trans (gw_below X2 y) hb9)
        clear hb9 q6
        go_wp2_with fail
        go_roundw
        case rel => exact ⟨i + 1, out, last, by omega, by rw [HOK.out]; omega, by rw [HOK.out], by go_num, Lib.hid (HS.out.trans (by rw [HD.out, sheet_blank1 HA.out]; rfl)), _, rfl⟩
        case measure => simp [intOf]; omega
      | cons x r =>
        have HA := Lib.hid (words_some s HWS.out)
        go_wp2_with fail
        refine (HW _).out.mono ?_
        rintro e X3 ⟨v9, rfl, hown9, hb9⟩
        have G3 := below_trans (gw_below X2 y) hb9
        have hX3 := hX.trans (G3.mono hX.size)
        obtain ⟨a9, cap9, rfl, -, hk9⟩ := own_strs hown9
        obtain ⟨g9, rfl, hg9, hc9⟩ := hk9 (by simp)
        have z0 := hc9 0 x rfl
        clear hown9 hk9 hb9
        have q6' := (G3.cell (p := ⟨g6, i, none⟩) hg6).trans q6
        have hg6' := Nat.lt_of_lt_of_le hg6 G3.size
        clear q6
        by_cases h1 : x = [100, 111]
        · subst h1
          clear hc9
          go_wp2_with (go_at_call 22; refine (c22 _ (HE.out.below hX3) (HC.out.below hX3 HC.out.lt)).mono ?_; rintro e w1 ⟨rfl, hb1⟩)
          go_ret
          exact ⟨rfl, below_trans hX3 hb1⟩
        · have hcase : (∃ r', r = nextW :: r') ∨ (∀ y r', r = y :: r' → y ≠ nextW) := by
            cases r with
            | nil => exact .inr (fun y r' h => by cases h)
            | cons y r' =>
              by_cases h : y = nextW
              · exact .inl ⟨r', by rw [h]⟩
              · exact .inr (fun y2 r2 h2 => by injection h2 with h3 _; rw [← h3]; exact h)
          rcases hcase with ⟨r', rfl⟩ | hno
          · have z1 := hc9 1 nextW rfl
            unfold nextW at z1
            clear hc9
            go_wp2_with (go_at_call 22; refine (c22 _ (HE.out.below hX3) (HC.out.below hX3 HC.out.lt)).mono ?_; rintro e w1 ⟨rfl, hb1⟩)
            go_ret
            exact ⟨rfl, below_trans hX3 hb1⟩
          · have HLR := Lib.hid (line_nodo s x r last HWS.out h1 hno)
            have HNO := Lib.hid hno
            clear hno
            have hy : ∀ y r', r = y :: r' → y ≠ [110, 101, 120, 116] := HNO.out
            have hx1 : (x == [100, 111]) = false := by simpa using h1
            have hx2 : decide (x = [100, 111]) = false := decide_eq_false h1
            have HLC := Lib.hid (line_cases s zcard)
            rcases HLC.out with ⟨c, hg⟩ | ⟨hc0, hx0⟩
            · have HS2 : Hid ((LL, E, AT) = sheetFrom (ls.drop (i + 1)) ((i : Int) + 1) (out ++ [c]) c) := Lib.hid (by rw [HS.out, HD.out, sheet_good HA.out (HLR.out.trans hg)])
              have H23g : ∀ W, Cell0 W → Hid (Calls Tryz.prog 23 #[.string ⟨s.toArray⟩] W fun r w' => r = .returned (.tuple #[cv c, .int .i64 0]) ∧ Below W.heap.size W w') := fun W hW => Lib.hid (by
                have H := (H23 W hW).out
                rw [hg] at H
                exact H)
              obtain ⟨c1, c2, c3, c4, c5, c6⟩ := c
              unfold cv at H23g
              simp only at H23g
              clear H23 hg HS HLR HLC
              cases r with
              | nil =>
                clear hc9 hy
                go_wp2_with fail
                refine (H23g _ (HC.out.below hX3 HC.out.lt)).out.mono ?_
                rintro e X5 ⟨rfl, hb5⟩
                have G5 := G3.trans (hb5.mono G3.size)
                clear z0 q6' hb5
                obtain ⟨B, hBs⟩ : ∃ b, X5.heap.size = b := ⟨_, rfl⟩
                go_wp2_with fail
                try rw [hBs]
                refine box8 (fun V => Below X2.heap.size X2 V ∧ Hid (V.heap[B]? = some (cellsOf ⟨c1, c2, c3, c4, c5, c6⟩))) ⟨xa G5 _, newA _ _ _ hBs⟩ ?_
                clear G5 hBs G3 hX3 hg6' hg9
                rintro V ⟨G, K⟩
                obtain ⟨t0, t1, t2, t3, t4, t5, tF, tL⟩ := cellsOf_at K.out
                by_cases hE0 : E = 0
                · subst hE0
                  obtain ⟨m, hm, -⟩ := sheet_head (ls.drop (i + 1)) ((i : Int) + 1) (out ++ [⟨c1, c2, c3, c4, c5, c6⟩]) ⟨c1, c2, c3, c4, c5, c6⟩ (by rw [← HS2.out])
                  rw [← HS2.out] at hm
                  simp only at hm
                  have hget : LL[k]? = some ⟨c1, c2, c3, c4, c5, c6⟩ := by rw [hm, ← HOK.out]; simp
                  have hne3 : LL ≠ [] := fun e => by rw [e] at hget; simp at hget
                  have hkl : k < LL.length := (List.getElem?_eq_some_iff.1 hget).1
                  obtain ⟨g3, rfl, hc3⟩ := HL.out hne3
                  obtain ⟨p0, p1, p2, p3, p4, p5⟩ := (hc3.below G) k _ hget
                  have pl := World.block_lt_of_cell? V _ p0
                  simp only [Nat.zero_add] at p0 p1 p2 p3 p4 p5 pl
                  have hdec : decide (LL.length ≤ k) = false := decide_eq_false (by omega)
                  clear hm hget hne3 hc3
                  refine wp_region_gw (by kernel_rfl) (by kernel_rfl) ?_
                  repeat (go_big_quiet_step (fail))
                  refine wpQuiet_nil ?_
                  rintro _ ⟨y2, rfl⟩
                  obtain ⟨y3, hy3⟩ := of_below (below_trans G (gw_below V y2))
                  clear p0 p1 p2 p3 p4 p5 pl t0 t1 t2 t3 t4 t5 tF tL
                  rw [hy3]
                  go_wp2_with fail
                  go_roundw
                  case rel => exact ⟨i + 1, out ++ [⟨c1, c2, c3, c4, c5, c6⟩], ⟨c1, c2, c3, c4, c5, c6⟩, by omega, by simp [HOK.out]; omega, by simp [HOK.out], by go_num, (by rw [show ((i + 1 : Nat) : Int) = (i : Int) + 1 from rfl]; exact HS2), _, rfl⟩
                  case measure => simp [intOf]; omega
                · have e1 : (E == 0) = false := by simpa using hE0
                  have e2 : decide (E = 0) = false := decide_eq_false hE0
                  refine wp_region_gw (by kernel_rfl) (by kernel_rfl) ?_
                  repeat (go_big_quiet_step (fail))
                  refine wpQuiet_nil ?_
                  rintro _ ⟨y2, rfl⟩
                  obtain ⟨y3, hy3⟩ := of_below (below_trans G (gw_below V y2))
                  clear t0 t1 t2 t3 t4 t5 tF tL
                  rw [hy3]
                  go_wp2_with fail
                  go_roundw
                  case rel => exact ⟨i + 1, out ++ [⟨c1, c2, c3, c4, c5, c6⟩], ⟨c1, c2, c3, c4, c5, c6⟩, by omega, by simp [HOK.out]; omega, by simp [HOK.out], by go_num, (by rw [show ((i + 1 : Nat) : Int) = (i : Int) + 1 from rfl]; exact HS2), _, rfl⟩
                  case measure => simp [intOf]; omega
              | cons yy r' =>
                have z1 := hc9 1 yy rfl
                have hyy := hy yy r' rfl
                have hyy1 : (yy == [110, 101, 120, 116]) = false := by simpa using hyy
                have hyy2 : decide (yy = [110, 101, 120, 116]) = false := decide_eq_false hyy
                clear hc9 hy
                go_wp2_with fail
                refine (H23g _ (HC.out.below hX3 HC.out.lt)).out.mono ?_
                rintro e X5 ⟨rfl, hb5⟩
                have G5 := G3.trans (hb5.mono G3.size)
                clear z0 z1 q6' hb5
                obtain ⟨B, hBs⟩ : ∃ b, X5.heap.size = b := ⟨_, rfl⟩
                go_wp2_with fail
                try rw [hBs]
                refine box8 (fun V => Below X2.heap.size X2 V ∧ Hid (V.heap[B]? = some (cellsOf ⟨c1, c2, c3, c4, c5, c6⟩))) ⟨xa G5 _, newA _ _ _ hBs⟩ ?_
                clear G5 hBs G3 hX3 hg6' hg9
                rintro V ⟨G, K⟩
                obtain ⟨t0, t1, t2, t3, t4, t5, tF, tL⟩ := cellsOf_at K.out
                by_cases hE0 : E = 0
                · subst hE0
                  obtain ⟨m, hm, -⟩ := sheet_head (ls.drop (i + 1)) ((i : Int) + 1) (out ++ [⟨c1, c2, c3, c4, c5, c6⟩]) ⟨c1, c2, c3, c4, c5, c6⟩ (by rw [← HS2.out])
                  rw [← HS2.out] at hm
                  simp only at hm
                  have hget : LL[k]? = some ⟨c1, c2, c3, c4, c5, c6⟩ := by rw [hm, ← HOK.out]; simp
                  have hne3 : LL ≠ [] := fun e => by rw [e] at hget; simp at hget
                  have hkl : k < LL.length := (List.getElem?_eq_some_iff.1 hget).1
                  obtain ⟨g3, rfl, hc3⟩ := HL.out hne3
                  obtain ⟨p0, p1, p2, p3, p4, p5⟩ := (hc3.below G) k _ hget
                  have pl := World.block_lt_of_cell? V _ p0
                  simp only [Nat.zero_add] at p0 p1 p2 p3 p4 p5 pl
                  have hdec : decide (LL.length ≤ k) = false := decide_eq_false (by omega)
                  clear hm hget hne3 hc3
                  refine wp_region_gw (by kernel_rfl) (by kernel_rfl) ?_
                  repeat (go_big_quiet_step (fail))
                  refine wpQuiet_nil ?_
                  rintro _ ⟨y2, rfl⟩
                  obtain ⟨y3, hy3⟩ := of_below (below_trans G (gw_below V y2))
                  clear p0 p1 p2 p3 p4 p5 pl t0 t1 t2 t3 t4 t5 tF tL
                  rw [hy3]
                  go_wp2_with fail
                  go_roundw
                  case rel => exact ⟨i + 1, out ++ [⟨c1, c2, c3, c4, c5, c6⟩], ⟨c1, c2, c3, c4, c5, c6⟩, by omega, by simp [HOK.out]; omega, by simp [HOK.out], by go_num, (by rw [show ((i + 1 : Nat) : Int) = (i : Int) + 1 from rfl]; exact HS2), _, rfl⟩
                  case measure => simp [intOf]; omega
                · have e1 : (E == 0) = false := by simpa using hE0
                  have e2 : decide (E = 0) = false := decide_eq_false hE0
                  refine wp_region_gw (by kernel_rfl) (by kernel_rfl) ?_
                  repeat (go_big_quiet_step (fail))
                  refine wpQuiet_nil ?_
                  rintro _ ⟨y2, rfl⟩
                  obtain ⟨y3, hy3⟩ := of_below (below_trans G (gw_below V y2))
                  clear t0 t1 t2 t3 t4 t5 tF tL
                  rw [hy3]
                  go_wp2_with fail
                  go_roundw
                  case rel => exact ⟨i + 1, out ++ [⟨c1, c2, c3, c4, c5, c6⟩], ⟨c1, c2, c3, c4, c5, c6⟩, by omega, by simp [HOK.out]; omega, by simp [HOK.out], by go_num, (by rw [show ((i + 1 : Nat) : Int) = (i : Int) + 1 from rfl]; exact HS2), _, rfl⟩
                  case measure => simp [intOf]; omega
            · obtain ⟨f, hf⟩ : ∃ f, rdE (lineR s zcard) = f := ⟨_, rfl⟩
              have hres : (LL, E, AT) = ([], f, (i : Int)) := by rw [HS.out, HD.out, sheet_bad HA.out (by rw [HLR.out]; exact hx0), HLR.out, hf]
              rw [hf] at hx0
              have H23e : ∀ W, Cell0 W → Hid (Calls Tryz.prog 23 #[.string ⟨s.toArray⟩] W fun r w' => r = .returned (.tuple #[cv zcard, .int .i64 f]) ∧ Below W.heap.size W w') := fun W hW => Lib.hid (by
                have H := (H23 W hW).out
                rw [hc0, hf] at H
                exact H)
              unfold cv zcard at H23e
              simp only at H23e
              clear H23 hf hc0 HS HLR HLC
              simp only [Prod.mk.injEq] at hres
              obtain ⟨rfl, rfl, rfl⟩ := hres
              cases r with
              | nil =>
                clear hc9 hy
                go_wp2_with fail
                refine (H23e _ (HC.out.below hX3 HC.out.lt)).out.mono ?_
                rintro e X5 ⟨rfl, hb5⟩
                have hX5 := hX3.trans (hb5.mono hX3.size)
                clear z0 q6' hb5
                go_wp2_with (go_at_call 22; refine (c22 _ (HE.out.below (xa hX5 _)) (HC.out.below (xa hX5 _) HC.out.lt)).mono ?_; rintro e w1 ⟨rfl, hb1⟩)
                go_ret
                exact ⟨rfl, below_trans (xa hX5 _) hb1⟩
              | cons yy r' =>
                have z1 := hc9 1 yy rfl
                have hyy := hy yy r' rfl
                have hyy1 : (yy == [110, 101, 120, 116]) = false := by simpa using hyy
                have hyy2 : decide (yy = [110, 101, 120, 116]) = false := decide_eq_false hyy
                clear hc9 hy
                go_wp2_with fail
                refine (H23e _ (HC.out.below hX3 HC.out.lt)).out.mono ?_
                rintro e X5 ⟨rfl, hb5⟩
                have hX5 := hX3.trans (hb5.mono hX3.size)
                clear z0 z1 q6' hb5
                go_wp2_with (go_at_call 22; refine (c22 _ (HE.out.below (xa hX5 _)) (HC.out.below (xa hX5 _) HC.out.lt)).mono ?_; rintro e w1 ⟨rfl, hb1⟩)
                go_ret
                exact ⟨rfl, below_trans (xa hX5 _) hb1⟩
    · have hd : ls.drop i = [] := List.drop_eq_nil_of_le (by rw [HN.out]; omega)
      have hres : (LL, E, AT) = (out, (0 : Int), (-1 : Int)) := by rw [HS.out, hd]; rfl
      simp only [Prod.mk.injEq] at hres
      obtain ⟨hr1, rfl, rfl⟩ := hres
      have hk : LL.length = k := by rw [hr1]; exact HOK.out
      have h2 := HAG.out (by rw [HN.out]; omega) rfl
      have HSC : ∀ W, Cell0 W → Hid (Calls Tryz.prog 33 #[.string ⟨(10 :: (t ++ [10, 32, 59, 10])).toArray⟩] W fun r w' => ∃ v, r = .returned (.tuple #[v, .int .i64 0, .int .i64 (-1)]) ∧ w'.ownsRow W.heap.size 24 6 v LL.length (flatC LL) ∧ Below W.heap.size W w') := fun W hW => Lib.hid (by
        have H := (HSB W hW).out
        rw [h2] at H
        exact H)
      clear hd hr1 h2 HSB HS HAG HM
      have hk90 : k ≤ 90 := by omega
      go_wp2_with fail
      refine (HSC _ (HC.out.below (hX.trans ((gw_below X2 y).mono hX.size)) HC.out.lt)).out.mono ?_
      rintro e X3 ⟨v, rfl, hown, hb3⟩
      have G3 := below_trans (gw_below X2 y) hb3
      obtain ⟨a12, cap12, rfl, hL12⟩ := own_cards8 hown
      have HL12 := Lib.hid hL12
      clear hown hb3 hL12
      go_wp2_with fail
      go_loopw [15] (fun iv wr => ∃ j : Nat, j ≤ k ∧ iv = .int .i64 j ∧ ∃ y, wr = gw X3 y) (fun iv _ => k - (intOf iv).toNat)
      case atStart => exact ⟨0, by omega, rfl, of_below (xr _)⟩
      case round =>
        obtain ⟨j, hj, rfl, y4, rfl⟩ := hrel
        by_cases hjk : j < k
        · obtain ⟨d, hd⟩ : ∃ d, LL[j]? = some d := ⟨LL[j]'(by omega), by simp⟩
          have hne : LL ≠ [] := fun e => by rw [e] at hd; simp at hd
          obtain ⟨g, rfl, hc1⟩ := HL.out hne
          obtain ⟨g2, rfl, hc2⟩ := HL12.out hne
          obtain ⟨d1, d2, d3, d4, d5, d6⟩ := d
          obtain ⟨p0, p1, p2, p3, p4, p5⟩ := (hc1.below G3) j _ hd
          obtain ⟨q0, q1, q2, q3, q4, q5⟩ := hc2 j _ hd
          have pl := World.block_lt_of_cell? X3 _ p0
          have ql := World.block_lt_of_cell? X3 _ q0
          simp only [Nat.zero_add] at p0 p1 p2 p3 p4 p5 q0 q1 q2 q3 q4 q5 pl ql
          clear hc1 hc2 hne hd
          go_wp2_with fail
          refine wp_region_gwn X3 (by kernel_rfl) (by kernel_rfl) (gw_below _ _) ?_
          repeat (go_big_quiet_step (fail))
          refine wpQuiet_nil ?_
          rintro _ ⟨y5, rfl⟩
          go_wp2_with fail
          go_roundw
          case rel => exact ⟨j + 1, by omega, by go_num, _, rfl⟩
          case measure => simp [intOf]; omega
        · have hX4 := hX.trans ((below_trans G3 (gw_below X3 y4)).mono hX.size)
          go_wp2_with (go_at_call 22; refine (c22 _ (HE.out.below hX4) (HC.out.below hX4 HC.out.lt)).mono ?_; rintro e w1 ⟨rfl, hb1⟩)
          go_ret
          exact ⟨rfl, below_trans hX4 hb1⟩
theorem w8 (text : ByteArray) (w : World) (_ : text.size ≤ 140737488351232) (hE : Env w) (hC : Cell0 w) : Calls Tryz.prog 8 #[.string text] w fun e w' => e = .returned (.bool true) ∧ Below w.heap.size w w' := by
  have e : text = ⟨text.data.toList.toArray⟩ := by cases text; simp
  rw [e]
  exact c8 text.data.toList w hE hC
end Go.Proofs.YthifeoebefbalaaGreatDoor
