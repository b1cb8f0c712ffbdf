/- Parts: Z7. -/
import Derived.Test.YthifeoebefbalaaGreatDoorCR6
import Derived.Test.YthifeoebefbalaaGreatDoorCR2
import Derived.Test.YthifeoebefbalaaGreatDoorCR3
import Derived.Test.YthifeoebefbalaaGreatDoorCR4
import Derived.Test.YthifeoebefbalaaGreatDoorCR5
set_option linter.unusedVariables false
set_option linter.unusedSimpArgs false
set_option linter.unnecessarySimpa false
namespace Go.Proofs.YthifeoebefbalaaGreatDoor
open Go.RowKit

/-- What the words of a lump come to. -/
inductive Le where
  | stop
  | got (n : Int) (ws : List (List UInt8))
def forW : List UInt8 := [102, 111, 114]
def dayW : List UInt8 := [100, 97, 121]
def daysW : List UInt8 := [100, 97, 121, 115]
def isD (s : List UInt8) : Bool := Lib.hasSuffix s [100] && isNum (Lib.trimSuffix s [100])
/-- Behind 'for', if it stood there. -/
def lump2 (wanted : Bool) : List (List UInt8) → Le
  | [] => if wanted then .stop else .got 1 []
  | [x] => if isD x then .got (numV (Lib.trimSuffix x [100])) [] else if wanted then .stop else .got 1 [x]
  | x :: y :: ws => if isD x then .got (numV (Lib.trimSuffix x [100])) (y :: ws)
      else if isNum x && (decide (y = dayW) || decide (y = daysW)) then .got (numV x) ws
      else if wanted then .stop else .got 1 (x :: y :: ws)
def lumpW : List (List UInt8) → Le
  | [] => lump2 false []
  | x :: ws => if x = forW then lump2 true ws else lump2 false (x :: ws)
def leEnd (r : Nat) (last : Card) (nx : Bool) (w : World) : Le → Ending → World → Prop
  | .stop, e, w' => e = .panicked [unread] ∧ w.grownBy w' (some r)
  | .got n ws, e, w' => e = .returned (.int .i64 n) ∧ Reader w' r ws last nx ∧ w.grownBy w' (some r)

theorem reader_none {w : World} {r : Nat} {last : Card} {nx : Bool} (h : Reader w r [] last nx) : (∃ a c, w.cell? ⟨r, 0, none⟩ = some (.slice a 0 c)) ∧ r < w.heap.size := by
  obtain ⟨v, h1, h2⟩ := h
  obtain ⟨q0, -, -, -, -, qL⟩ := reader_cells h1
  rcases h2 with ⟨-, a, c, rfl⟩ | ⟨b, o, c, hb, rfl, hc, hs⟩
  · exact ⟨⟨a, c, q0⟩, qL⟩
  · exact ⟨⟨_, _, q0⟩, qL⟩
theorem reader_some {w : World} {r : Nat} {x : List UInt8} {ws : List (List UInt8)} {last : Card} {nx : Bool} (h : Reader w r (x :: ws) last nx) : (∃ b o c, w.cell? ⟨r, 0, none⟩ = some (.slice (some ⟨b, o, none⟩) (ws.length + 1) c) ∧
    w.cell? ⟨b, o, none⟩ = some (.string ⟨x.toArray⟩) ∧ ∀ y ys, ws = y :: ys → w.cell? ⟨b, o + 1, none⟩ = some (.string ⟨y.toArray⟩)) ∧ r < w.heap.size := by
  obtain ⟨v, h1, h2⟩ := h
  obtain ⟨q0, -, -, -, -, qL⟩ := reader_cells h1
  rcases h2 with ⟨hn, -⟩ | ⟨b, o, c, hb, rfl, hc, hs⟩
  · cases hn
  · exact ⟨⟨b, o, c, q0, hs 0 x rfl, fun y ys e => by subst e; exact hs 1 y rfl⟩, qL⟩

set_option maxRecDepth 100000 in
set_option maxHeartbeats 4000000 in
theorem c155_nil (r : Nat) (last : Card) (nx : Bool) (w : World) (h : Reader w r [] last nx) : Calls Tryz.prog 155 #[.pointer (some ⟨r, 0, none⟩)] w fun e w' => leEnd r last nx w (.got 1 []) e w' := by
  obtain ⟨⟨a, c, q0⟩, qL⟩ := reader_none h
  have H := Lib.hid h
  unfold leEnd
  clear h
  go_enter Tryz.func155, Tryz.ntmps155
  go_wp2_with (first
    | (go_at_call 198; refine (c198 r [] last nx _ H.out (by simp)).mono ?_; rintro e w1 ⟨rfl, rfl⟩; unfold strv; simp only [List.headD_nil])
    | (go_at_call 199; refine (c199 [] [100] (by simp) _).mono ?_; rintro e w1 ⟨rfl, rfl⟩; rw [show Lib.hasSuffix [] [100] = false from rfl]))
  go_ret
  exact ⟨rfl, H.out, Grown.by (xr _) _⟩
-- PRINTED by lump.py
set_option maxRecDepth 100000 in
set_option maxHeartbeats 4000000 in
theorem c155_od (r : Nat) (x : List UInt8) (ws : List (List UInt8)) (last : Card) (nx : Bool) (w : World) (h : Reader w r (x :: ws) last nx) (hx : x.length ≤ 200) (hl : ws.length ≤ 197) (hs : Lib.hasSuffix x [100] = true) (hn : isNum (Lib.trimSuffix x [100]) = true) (hf : (x == [102, 111, 114]) = false) : Calls Tryz.prog 155 #[.pointer (some ⟨r, 0, none⟩)] w fun e w' => leEnd r last nx w (.got (numV (Lib.trimSuffix x [100])) ws) e w' := by
  have HS := Lib.hid hs
  have HN := Lib.hid hn
  have HT : Hid ((Lib.trimSuffix x [100]).length ≤ 200) := Lib.hid (Nat.le_trans (trimSuffix_len x [100]) hx)
  have HX := Lib.hid hx
  have hr1 := h
  obtain ⟨⟨b, o, c, g0, g1, g2⟩, gL⟩ := reader_some hr1; have g3 := World.block_lt_of_cell? _ _ g1; simp only at g3; clear g2
  have HR1 := Lib.hid hr1
  clear hr1
  clear h hs hn hx
  unfold leEnd
  go_enter Tryz.func155, Tryz.ntmps155
  go_wp2_with (first
    | (go_at_call 192; refine (c192 (Lib.trimSuffix x [100]) HT.out HN.out w5).mono ?_; rintro e w6 ⟨rfl, hb6⟩)
    | (go_at_call 191; refine (c191 r x ws last nx w3 hr3 (by omega)).mono ?_; rintro e w5 ⟨rfl, hr5, hg5⟩; unfold strv)
    | (go_at_call 198; refine (c198 r (x :: ws) last nx _ HR1.out (by simp; omega)).mono ?_; rintro e w2 ⟨rfl, rfl⟩; unfold strv; simp only [List.headD_cons])
    | (go_at_call 199; refine (c199 x [100] HX.out _).mono ?_; rintro e w2 ⟨rfl, rfl⟩; rw [HS.out])
    | (go_at_call 200; refine (c200 (Lib.trimSuffix x [100]) HT.out w).mono ?_; rintro e w3 ⟨rfl, hb3⟩; rw [HN.out]; have hr3 := (HR1.out).grown hb3; have hg3 := ((Grown.by (xr w) (some r))).trans (Grown.by hb3 (some r)); have k0 := (kept hb3 gL (i := 0)).trans g0; have k1 := (kept hb3 g3 (i := o)).trans g1; have kL := Nat.lt_of_lt_of_le gL hb3.size))
  go_ret
  exact ⟨rfl, hr5.grown hb6, (hg3.trans hg5).trans (Grown.by hb6 _)⟩
set_option maxRecDepth 100000 in
set_option maxHeartbeats 4000000 in
theorem c155_onone (r : Nat) (x : List UInt8) (last : Card) (nx : Bool) (w : World) (h : Reader w r (x :: []) last nx) (hx : x.length ≤ 200) (hs : Lib.hasSuffix x [100] = false) (hf : (x == [102, 111, 114]) = false) : Calls Tryz.prog 155 #[.pointer (some ⟨r, 0, none⟩)] w fun e w' => leEnd r last nx w (.got 1 (x :: [])) e w' := by
  have HS := Lib.hid hs
  have HT : Hid ((Lib.trimSuffix x [100]).length ≤ 200) := Lib.hid (Nat.le_trans (trimSuffix_len x [100]) hx)
  have HX := Lib.hid hx
  have hr1 := h
  obtain ⟨⟨b, o, c, g0, g1, g2⟩, gL⟩ := reader_some hr1; have g3 := World.block_lt_of_cell? _ _ g1; simp only at g3; simp only [List.length_nil, Nat.zero_add] at g0; clear g2
  have HR1 := Lib.hid hr1
  clear hr1
  clear h hs hx
  unfold leEnd
  go_enter Tryz.func155, Tryz.ntmps155
  go_wp2_with (first
    | (go_at_call 198; refine (c198 r (x :: []) last nx _ HR1.out (by simp)).mono ?_; rintro e w2 ⟨rfl, rfl⟩; unfold strv; simp only [List.headD_cons])
    | (go_at_call 199; refine (c199 x [100] HX.out _).mono ?_; rintro e w2 ⟨rfl, rfl⟩; rw [HS.out]))
  go_ret
  exact ⟨rfl, HR1.out, (Grown.by (xr w) (some r))⟩
set_option maxRecDepth 100000 in
set_option maxHeartbeats 4000000 in
theorem c155_onnotnum (r : Nat) (x y : List UInt8) (ws : List (List UInt8)) (last : Card) (nx : Bool) (w : World) (h : Reader w r (x :: (y :: ws)) last nx) (hx : x.length ≤ 200) (hs : Lib.hasSuffix x [100] = false) (hl : ws.length ≤ 197) (hk : isNum x = false) (hf : (x == [102, 111, 114]) = false) : Calls Tryz.prog 155 #[.pointer (some ⟨r, 0, none⟩)] w fun e w' => leEnd r last nx w (.got 1 (x :: (y :: ws))) e w' := by
  have HS := Lib.hid hs
  have HK := Lib.hid hk
  have HT : Hid ((Lib.trimSuffix x [100]).length ≤ 200) := Lib.hid (Nat.le_trans (trimSuffix_len x [100]) hx)
  have HX := Lib.hid hx
  have hr1 := h
  obtain ⟨⟨b, o, c, g0, g1, g2⟩, gL⟩ := reader_some hr1; have g3 := World.block_lt_of_cell? _ _ g1; simp only at g3; simp only [List.length_cons] at g0; have g4 := g2 _ _ rfl; clear g2
  have HR1 := Lib.hid hr1
  clear hr1
  clear h hs hk hx
  unfold leEnd
  go_enter Tryz.func155, Tryz.ntmps155
  go_wp2_with (first
    | (go_at_call 200; refine (c200 x HX.out w).mono ?_; rintro e w4 ⟨rfl, hb4⟩; rw [HK.out]; have hr4 := (HR1.out).grown hb4; have hg4 := ((Grown.by (xr w) (some r))).trans (Grown.by hb4 (some r)); have m0 := (kept hb4 gL (i := 0)).trans g0; have m4 := (kept hb4 g3 (i := o + 1)).trans g4; have mL := Nat.lt_of_lt_of_le gL hb4.size)
    | (go_at_call 198; refine (c198 r (x :: (y :: ws)) last nx _ HR1.out (by simp; omega)).mono ?_; rintro e w2 ⟨rfl, rfl⟩; unfold strv; simp only [List.headD_cons])
    | (go_at_call 199; refine (c199 x [100] HX.out _).mono ?_; rintro e w2 ⟨rfl, rfl⟩; rw [HS.out]))
  go_ret
  exact ⟨rfl, hr4, hg4⟩
set_option maxRecDepth 100000 in
set_option maxHeartbeats 4000000 in
theorem c155_onday (r : Nat) (x y : List UInt8) (ws : List (List UInt8)) (last : Card) (nx : Bool) (w : World) (h : Reader w r (x :: (y :: ws)) last nx) (hx : x.length ≤ 200) (hs : Lib.hasSuffix x [100] = false) (hl : ws.length ≤ 197) (hk : isNum x = true) (hy : (y == [100, 97, 121]) = true) (hf : (x == [102, 111, 114]) = false) : Calls Tryz.prog 155 #[.pointer (some ⟨r, 0, none⟩)] w fun e w' => leEnd r last nx w (.got (numV x) ws) e w' := by
  have HS := Lib.hid hs
  have HK := Lib.hid hk
  have HT : Hid ((Lib.trimSuffix x [100]).length ≤ 200) := Lib.hid (Nat.le_trans (trimSuffix_len x [100]) hx)
  have HX := Lib.hid hx
  have hr1 := h
  obtain ⟨⟨b, o, c, g0, g1, g2⟩, gL⟩ := reader_some hr1; have g3 := World.block_lt_of_cell? _ _ g1; simp only at g3; simp only [List.length_cons] at g0; have g4 := g2 _ _ rfl; clear g2
  have HR1 := Lib.hid hr1
  clear hr1
  clear h hs hk hx
  unfold leEnd
  go_enter Tryz.func155, Tryz.ntmps155
  go_wp2_with (first
    | (go_at_call 191; refine (c191 r y ws last nx w6 hr6 (by omega)).mono ?_; rintro e w7 ⟨rfl, hr7, hg7⟩; unfold strv)
    | (go_at_call 192; refine (c192 x HX.out HK.out w5).mono ?_; rintro e w6 ⟨rfl, hb6⟩; have hr6 := hr5.grown hb6; have hg6 := hg5'.trans (Grown.by hb6 (some r)))
    | (go_at_call 191; refine (c191 r x (y :: ws) last nx w4 hr4 (by simp; omega)).mono ?_; rintro e w5 ⟨rfl, hr5, hg5⟩; unfold strv; have hg5' := hg4.trans hg5)
    | (go_at_call 200; refine (c200 x HX.out w).mono ?_; rintro e w4 ⟨rfl, hb4⟩; rw [HK.out]; have hr4 := (HR1.out).grown hb4; have hg4 := ((Grown.by (xr w) (some r))).trans (Grown.by hb4 (some r)); have m0 := (kept hb4 gL (i := 0)).trans g0; have m4 := (kept hb4 g3 (i := o + 1)).trans g4; have mL := Nat.lt_of_lt_of_le gL hb4.size)
    | (go_at_call 198; refine (c198 r (x :: (y :: ws)) last nx _ HR1.out (by simp; omega)).mono ?_; rintro e w2 ⟨rfl, rfl⟩; unfold strv; simp only [List.headD_cons])
    | (go_at_call 199; refine (c199 x [100] HX.out _).mono ?_; rintro e w2 ⟨rfl, rfl⟩; rw [HS.out]))
  go_ret
  exact ⟨rfl, hr7, hg6.trans hg7⟩
set_option maxRecDepth 100000 in
set_option maxHeartbeats 4000000 in
theorem c155_ondays (r : Nat) (x y : List UInt8) (ws : List (List UInt8)) (last : Card) (nx : Bool) (w : World) (h : Reader w r (x :: (y :: ws)) last nx) (hx : x.length ≤ 200) (hs : Lib.hasSuffix x [100] = false) (hl : ws.length ≤ 197) (hk : isNum x = true) (hy : (y == [100, 97, 121]) = false) (hz : (y == [100, 97, 121, 115]) = true) (hf : (x == [102, 111, 114]) = false) : Calls Tryz.prog 155 #[.pointer (some ⟨r, 0, none⟩)] w fun e w' => leEnd r last nx w (.got (numV x) ws) e w' := by
  have HS := Lib.hid hs
  have HK := Lib.hid hk
  have HT : Hid ((Lib.trimSuffix x [100]).length ≤ 200) := Lib.hid (Nat.le_trans (trimSuffix_len x [100]) hx)
  have HX := Lib.hid hx
  have hr1 := h
  obtain ⟨⟨b, o, c, g0, g1, g2⟩, gL⟩ := reader_some hr1; have g3 := World.block_lt_of_cell? _ _ g1; simp only at g3; simp only [List.length_cons] at g0; have g4 := g2 _ _ rfl; clear g2
  have HR1 := Lib.hid hr1
  clear hr1
  clear h hs hk hx
  unfold leEnd
  go_enter Tryz.func155, Tryz.ntmps155
  go_wp2_with (first
    | (go_at_call 191; refine (c191 r y ws last nx w6 hr6 (by omega)).mono ?_; rintro e w7 ⟨rfl, hr7, hg7⟩; unfold strv)
    | (go_at_call 192; refine (c192 x HX.out HK.out w5).mono ?_; rintro e w6 ⟨rfl, hb6⟩; have hr6 := hr5.grown hb6; have hg6 := hg5'.trans (Grown.by hb6 (some r)))
    | (go_at_call 191; refine (c191 r x (y :: ws) last nx w4 hr4 (by simp; omega)).mono ?_; rintro e w5 ⟨rfl, hr5, hg5⟩; unfold strv; have hg5' := hg4.trans hg5)
    | (go_at_call 200; refine (c200 x HX.out w).mono ?_; rintro e w4 ⟨rfl, hb4⟩; rw [HK.out]; have hr4 := (HR1.out).grown hb4; have hg4 := ((Grown.by (xr w) (some r))).trans (Grown.by hb4 (some r)); have m0 := (kept hb4 gL (i := 0)).trans g0; have m4 := (kept hb4 g3 (i := o + 1)).trans g4; have mL := Nat.lt_of_lt_of_le gL hb4.size)
    | (go_at_call 198; refine (c198 r (x :: (y :: ws)) last nx _ HR1.out (by simp; omega)).mono ?_; rintro e w2 ⟨rfl, rfl⟩; unfold strv; simp only [List.headD_cons])
    | (go_at_call 199; refine (c199 x [100] HX.out _).mono ?_; rintro e w2 ⟨rfl, rfl⟩; rw [HS.out]))
  go_ret
  exact ⟨rfl, hr7, hg6.trans hg7⟩
set_option maxRecDepth 100000 in
set_option maxHeartbeats 4000000 in
theorem c155_onneither (r : Nat) (x y : List UInt8) (ws : List (List UInt8)) (last : Card) (nx : Bool) (w : World) (h : Reader w r (x :: (y :: ws)) last nx) (hx : x.length ≤ 200) (hs : Lib.hasSuffix x [100] = false) (hl : ws.length ≤ 197) (hk : isNum x = true) (hy : (y == [100, 97, 121]) = false) (hz : (y == [100, 97, 121, 115]) = false) (hf : (x == [102, 111, 114]) = false) : Calls Tryz.prog 155 #[.pointer (some ⟨r, 0, none⟩)] w fun e w' => leEnd r last nx w (.got 1 (x :: (y :: ws))) e w' := by
  have HS := Lib.hid hs
  have HK := Lib.hid hk
  have HT : Hid ((Lib.trimSuffix x [100]).length ≤ 200) := Lib.hid (Nat.le_trans (trimSuffix_len x [100]) hx)
  have HX := Lib.hid hx
  have hr1 := h
  obtain ⟨⟨b, o, c, g0, g1, g2⟩, gL⟩ := reader_some hr1; have g3 := World.block_lt_of_cell? _ _ g1; simp only at g3; simp only [List.length_cons] at g0; have g4 := g2 _ _ rfl; clear g2
  have HR1 := Lib.hid hr1
  clear hr1
  clear h hs hk hx
  unfold leEnd
  go_enter Tryz.func155, Tryz.ntmps155
  go_wp2_with (first
    | (go_at_call 200; refine (c200 x HX.out w).mono ?_; rintro e w4 ⟨rfl, hb4⟩; rw [HK.out]; have hr4 := (HR1.out).grown hb4; have hg4 := ((Grown.by (xr w) (some r))).trans (Grown.by hb4 (some r)); have m0 := (kept hb4 gL (i := 0)).trans g0; have m4 := (kept hb4 g3 (i := o + 1)).trans g4; have mL := Nat.lt_of_lt_of_le gL hb4.size)
    | (go_at_call 198; refine (c198 r (x :: (y :: ws)) last nx _ HR1.out (by simp; omega)).mono ?_; rintro e w2 ⟨rfl, rfl⟩; unfold strv; simp only [List.headD_cons])
    | (go_at_call 199; refine (c199 x [100] HX.out _).mono ?_; rintro e w2 ⟨rfl, rfl⟩; rw [HS.out]))
  go_ret
  exact ⟨rfl, hr4, hg4⟩
set_option maxRecDepth 100000 in
set_option maxHeartbeats 4000000 in
theorem c155_omone (r : Nat) (x : List UInt8) (last : Card) (nx : Bool) (w : World) (h : Reader w r (x :: []) last nx) (hx : x.length ≤ 200) (hs : Lib.hasSuffix x [100] = true) (hn : isNum (Lib.trimSuffix x [100]) = false) (hf : (x == [102, 111, 114]) = false) : Calls Tryz.prog 155 #[.pointer (some ⟨r, 0, none⟩)] w fun e w' => leEnd r last nx w (.got 1 (x :: [])) e w' := by
  have HS := Lib.hid hs
  have HN := Lib.hid hn
  have HT : Hid ((Lib.trimSuffix x [100]).length ≤ 200) := Lib.hid (Nat.le_trans (trimSuffix_len x [100]) hx)
  have HX := Lib.hid hx
  have hr1 := h
  obtain ⟨⟨b, o, c, g0, g1, g2⟩, gL⟩ := reader_some hr1; have g3 := World.block_lt_of_cell? _ _ g1; simp only at g3; simp only [List.length_nil, Nat.zero_add] at g0; clear g2
  have HR1 := Lib.hid hr1
  clear hr1
  clear h hs hn hx
  unfold leEnd
  go_enter Tryz.func155, Tryz.ntmps155
  go_wp2_with (first
    | (go_at_call 198; refine (c198 r (x :: []) last nx _ HR1.out (by simp)).mono ?_; rintro e w2 ⟨rfl, rfl⟩; unfold strv; simp only [List.headD_cons])
    | (go_at_call 199; refine (c199 x [100] HX.out _).mono ?_; rintro e w2 ⟨rfl, rfl⟩; rw [HS.out])
    | (go_at_call 200; refine (c200 (Lib.trimSuffix x [100]) HT.out w).mono ?_; rintro e w3 ⟨rfl, hb3⟩; rw [HN.out]; have hr3 := (HR1.out).grown hb3; have hg3 := ((Grown.by (xr w) (some r))).trans (Grown.by hb3 (some r)); have k0 := (kept hb3 gL (i := 0)).trans g0; have k1 := (kept hb3 g3 (i := o)).trans g1; have kL := Nat.lt_of_lt_of_le gL hb3.size))
  go_ret
  exact ⟨rfl, hr3, hg3⟩
set_option maxRecDepth 100000 in
set_option maxHeartbeats 4000000 in
theorem c155_omnotnum (r : Nat) (x y : List UInt8) (ws : List (List UInt8)) (last : Card) (nx : Bool) (w : World) (h : Reader w r (x :: (y :: ws)) last nx) (hx : x.length ≤ 200) (hs : Lib.hasSuffix x [100] = true) (hn : isNum (Lib.trimSuffix x [100]) = false) (hl : ws.length ≤ 197) (hk : isNum x = false) (hf : (x == [102, 111, 114]) = false) : Calls Tryz.prog 155 #[.pointer (some ⟨r, 0, none⟩)] w fun e w' => leEnd r last nx w (.got 1 (x :: (y :: ws))) e w' := by
  have HS := Lib.hid hs
  have HN := Lib.hid hn
  have HK := Lib.hid hk
  have HT : Hid ((Lib.trimSuffix x [100]).length ≤ 200) := Lib.hid (Nat.le_trans (trimSuffix_len x [100]) hx)
  have HX := Lib.hid hx
  have hr1 := h
  obtain ⟨⟨b, o, c, g0, g1, g2⟩, gL⟩ := reader_some hr1; have g3 := World.block_lt_of_cell? _ _ g1; simp only at g3; simp only [List.length_cons] at g0; have g4 := g2 _ _ rfl; clear g2
  have HR1 := Lib.hid hr1
  clear hr1
  clear h hs hn hk hx
  unfold leEnd
  go_enter Tryz.func155, Tryz.ntmps155
  go_wp2_with (first
    | (go_at_call 200; refine (c200 x HX.out w3).mono ?_; rintro e w4 ⟨rfl, hb4⟩; rw [HK.out]; have hr4 := (hr3).grown hb4; have hg4 := (hg3).trans (Grown.by hb4 (some r)); have m0 := (kept hb4 kL (i := 0)).trans k0; have m4 := (kept hb4 (Nat.lt_of_lt_of_le g3 hb3.size) (i := o + 1)).trans k4; have mL := Nat.lt_of_lt_of_le kL hb4.size)
    | (go_at_call 198; refine (c198 r (x :: (y :: ws)) last nx _ HR1.out (by simp; omega)).mono ?_; rintro e w2 ⟨rfl, rfl⟩; unfold strv; simp only [List.headD_cons])
    | (go_at_call 199; refine (c199 x [100] HX.out _).mono ?_; rintro e w2 ⟨rfl, rfl⟩; rw [HS.out])
    | (go_at_call 200; refine (c200 (Lib.trimSuffix x [100]) HT.out w).mono ?_; rintro e w3 ⟨rfl, hb3⟩; rw [HN.out]; have hr3 := (HR1.out).grown hb3; have hg3 := ((Grown.by (xr w) (some r))).trans (Grown.by hb3 (some r)); have k0 := (kept hb3 gL (i := 0)).trans g0; have k1 := (kept hb3 g3 (i := o)).trans g1; have k4 := (kept hb3 g3 (i := o + 1)).trans g4; have kL := Nat.lt_of_lt_of_le gL hb3.size))
  go_ret
  exact ⟨rfl, hr4, hg4⟩
set_option maxRecDepth 100000 in
set_option maxHeartbeats 4000000 in
theorem c155_omday (r : Nat) (x y : List UInt8) (ws : List (List UInt8)) (last : Card) (nx : Bool) (w : World) (h : Reader w r (x :: (y :: ws)) last nx) (hx : x.length ≤ 200) (hs : Lib.hasSuffix x [100] = true) (hn : isNum (Lib.trimSuffix x [100]) = false) (hl : ws.length ≤ 197) (hk : isNum x = true) (hy : (y == [100, 97, 121]) = true) (hf : (x == [102, 111, 114]) = false) : Calls Tryz.prog 155 #[.pointer (some ⟨r, 0, none⟩)] w fun e w' => leEnd r last nx w (.got (numV x) ws) e w' := by
  have HS := Lib.hid hs
  have HN := Lib.hid hn
  have HK := Lib.hid hk
  have HT : Hid ((Lib.trimSuffix x [100]).length ≤ 200) := Lib.hid (Nat.le_trans (trimSuffix_len x [100]) hx)
  have HX := Lib.hid hx
  have hr1 := h
  obtain ⟨⟨b, o, c, g0, g1, g2⟩, gL⟩ := reader_some hr1; have g3 := World.block_lt_of_cell? _ _ g1; simp only at g3; simp only [List.length_cons] at g0; have g4 := g2 _ _ rfl; clear g2
  have HR1 := Lib.hid hr1
  clear hr1
  clear h hs hn hk hx
  unfold leEnd
  go_enter Tryz.func155, Tryz.ntmps155
  go_wp2_with (first
    | (go_at_call 191; refine (c191 r y ws last nx w6 hr6 (by omega)).mono ?_; rintro e w7 ⟨rfl, hr7, hg7⟩; unfold strv)
    | (go_at_call 192; refine (c192 x HX.out HK.out w5).mono ?_; rintro e w6 ⟨rfl, hb6⟩; have hr6 := hr5.grown hb6; have hg6 := hg5'.trans (Grown.by hb6 (some r)))
    | (go_at_call 191; refine (c191 r x (y :: ws) last nx w4 hr4 (by simp; omega)).mono ?_; rintro e w5 ⟨rfl, hr5, hg5⟩; unfold strv; have hg5' := hg4.trans hg5)
    | (go_at_call 200; refine (c200 x HX.out w3).mono ?_; rintro e w4 ⟨rfl, hb4⟩; rw [HK.out]; have hr4 := (hr3).grown hb4; have hg4 := (hg3).trans (Grown.by hb4 (some r)); have m0 := (kept hb4 kL (i := 0)).trans k0; have m4 := (kept hb4 (Nat.lt_of_lt_of_le g3 hb3.size) (i := o + 1)).trans k4; have mL := Nat.lt_of_lt_of_le kL hb4.size)
    | (go_at_call 198; refine (c198 r (x :: (y :: ws)) last nx _ HR1.out (by simp; omega)).mono ?_; rintro e w2 ⟨rfl, rfl⟩; unfold strv; simp only [List.headD_cons])
    | (go_at_call 199; refine (c199 x [100] HX.out _).mono ?_; rintro e w2 ⟨rfl, rfl⟩; rw [HS.out])
    | (go_at_call 200; refine (c200 (Lib.trimSuffix x [100]) HT.out w).mono ?_; rintro e w3 ⟨rfl, hb3⟩; rw [HN.out]; have hr3 := (HR1.out).grown hb3; have hg3 := ((Grown.by (xr w) (some r))).trans (Grown.by hb3 (some r)); have k0 := (kept hb3 gL (i := 0)).trans g0; have k1 := (kept hb3 g3 (i := o)).trans g1; have k4 := (kept hb3 g3 (i := o + 1)).trans g4; have kL := Nat.lt_of_lt_of_le gL hb3.size))
  go_ret
  exact ⟨rfl, hr7, hg6.trans hg7⟩
set_option maxRecDepth 100000 in
set_option maxHeartbeats 4000000 in
theorem c155_omdays (r : Nat) (x y : List UInt8) (ws : List (List UInt8)) (last : Card) (nx : Bool) (w : World) (h : Reader w r (x :: (y :: ws)) last nx) (hx : x.length ≤ 200) (hs : Lib.hasSuffix x [100] = true) (hn : isNum (Lib.trimSuffix x [100]) = false) (hl : ws.length ≤ 197) (hk : isNum x = true) (hy : (y == [100, 97, 121]) = false) (hz : (y == [100, 97, 121, 115]) = true) (hf : (x == [102, 111, 114]) = false) : Calls Tryz.prog 155 #[.pointer (some ⟨r, 0, none⟩)] w fun e w' => leEnd r last nx w (.got (numV x) ws) e w' := by
  have HS := Lib.hid hs
  have HN := Lib.hid hn
  have HK := Lib.hid hk
  have HT : Hid ((Lib.trimSuffix x [100]).length ≤ 200) := Lib.hid (Nat.le_trans (trimSuffix_len x [100]) hx)
  have HX := Lib.hid hx
  have hr1 := h
  obtain ⟨⟨b, o, c, g0, g1, g2⟩, gL⟩ := reader_some hr1; have g3 := World.block_lt_of_cell? _ _ g1; simp only at g3; simp only [List.length_cons] at g0; have g4 := g2 _ _ rfl; clear g2
  have HR1 := Lib.hid hr1
  clear hr1
  clear h hs hn hk hx
  unfold leEnd
  go_enter Tryz.func155, Tryz.ntmps155
  go_wp2_with (first
    | (go_at_call 191; refine (c191 r y ws last nx w6 hr6 (by omega)).mono ?_; rintro e w7 ⟨rfl, hr7, hg7⟩; unfold strv)
    | (go_at_call 192; refine (c192 x HX.out HK.out w5).mono ?_; rintro e w6 ⟨rfl, hb6⟩; have hr6 := hr5.grown hb6; have hg6 := hg5'.trans (Grown.by hb6 (some r)))
    | (go_at_call 191; refine (c191 r x (y :: ws) last nx w4 hr4 (by simp; omega)).mono ?_; rintro e w5 ⟨rfl, hr5, hg5⟩; unfold strv; have hg5' := hg4.trans hg5)
    | (go_at_call 200; refine (c200 x HX.out w3).mono ?_; rintro e w4 ⟨rfl, hb4⟩; rw [HK.out]; have hr4 := (hr3).grown hb4; have hg4 := (hg3).trans (Grown.by hb4 (some r)); have m0 := (kept hb4 kL (i := 0)).trans k0; have m4 := (kept hb4 (Nat.lt_of_lt_of_le g3 hb3.size) (i := o + 1)).trans k4; have mL := Nat.lt_of_lt_of_le kL hb4.size)
    | (go_at_call 198; refine (c198 r (x :: (y :: ws)) last nx _ HR1.out (by simp; omega)).mono ?_; rintro e w2 ⟨rfl, rfl⟩; unfold strv; simp only [List.headD_cons])
    | (go_at_call 199; refine (c199 x [100] HX.out _).mono ?_; rintro e w2 ⟨rfl, rfl⟩; rw [HS.out])
    | (go_at_call 200; refine (c200 (Lib.trimSuffix x [100]) HT.out w).mono ?_; rintro e w3 ⟨rfl, hb3⟩; rw [HN.out]; have hr3 := (HR1.out).grown hb3; have hg3 := ((Grown.by (xr w) (some r))).trans (Grown.by hb3 (some r)); have k0 := (kept hb3 gL (i := 0)).trans g0; have k1 := (kept hb3 g3 (i := o)).trans g1; have k4 := (kept hb3 g3 (i := o + 1)).trans g4; have kL := Nat.lt_of_lt_of_le gL hb3.size))
  go_ret
  exact ⟨rfl, hr7, hg6.trans hg7⟩
set_option maxRecDepth 100000 in
set_option maxHeartbeats 4000000 in
theorem c155_omneither (r : Nat) (x y : List UInt8) (ws : List (List UInt8)) (last : Card) (nx : Bool) (w : World) (h : Reader w r (x :: (y :: ws)) last nx) (hx : x.length ≤ 200) (hs : Lib.hasSuffix x [100] = true) (hn : isNum (Lib.trimSuffix x [100]) = false) (hl : ws.length ≤ 197) (hk : isNum x = true) (hy : (y == [100, 97, 121]) = false) (hz : (y == [100, 97, 121, 115]) = false) (hf : (x == [102, 111, 114]) = false) : Calls Tryz.prog 155 #[.pointer (some ⟨r, 0, none⟩)] w fun e w' => leEnd r last nx w (.got 1 (x :: (y :: ws))) e w' := by
  have HS := Lib.hid hs
  have HN := Lib.hid hn
  have HK := Lib.hid hk
  have HT : Hid ((Lib.trimSuffix x [100]).length ≤ 200) := Lib.hid (Nat.le_trans (trimSuffix_len x [100]) hx)
  have HX := Lib.hid hx
  have hr1 := h
  obtain ⟨⟨b, o, c, g0, g1, g2⟩, gL⟩ := reader_some hr1; have g3 := World.block_lt_of_cell? _ _ g1; simp only at g3; simp only [List.length_cons] at g0; have g4 := g2 _ _ rfl; clear g2
  have HR1 := Lib.hid hr1
  clear hr1
  clear h hs hn hk hx
  unfold leEnd
  go_enter Tryz.func155, Tryz.ntmps155
  go_wp2_with (first
    | (go_at_call 200; refine (c200 x HX.out w3).mono ?_; rintro e w4 ⟨rfl, hb4⟩; rw [HK.out]; have hr4 := (hr3).grown hb4; have hg4 := (hg3).trans (Grown.by hb4 (some r)); have m0 := (kept hb4 kL (i := 0)).trans k0; have m4 := (kept hb4 (Nat.lt_of_lt_of_le g3 hb3.size) (i := o + 1)).trans k4; have mL := Nat.lt_of_lt_of_le kL hb4.size)
    | (go_at_call 198; refine (c198 r (x :: (y :: ws)) last nx _ HR1.out (by simp; omega)).mono ?_; rintro e w2 ⟨rfl, rfl⟩; unfold strv; simp only [List.headD_cons])
    | (go_at_call 199; refine (c199 x [100] HX.out _).mono ?_; rintro e w2 ⟨rfl, rfl⟩; rw [HS.out])
    | (go_at_call 200; refine (c200 (Lib.trimSuffix x [100]) HT.out w).mono ?_; rintro e w3 ⟨rfl, hb3⟩; rw [HN.out]; have hr3 := (HR1.out).grown hb3; have hg3 := ((Grown.by (xr w) (some r))).trans (Grown.by hb3 (some r)); have k0 := (kept hb3 gL (i := 0)).trans g0; have k1 := (kept hb3 g3 (i := o)).trans g1; have k4 := (kept hb3 g3 (i := o + 1)).trans g4; have kL := Nat.lt_of_lt_of_le gL hb3.size))
  go_ret
  exact ⟨rfl, hr4, hg4⟩
set_option maxRecDepth 100000 in
set_option maxHeartbeats 4000000 in
theorem c155_wd (r : Nat) (x : List UInt8) (ws : List (List UInt8)) (last : Card) (nx : Bool) (w : World) (h : Reader w r (forW :: (x :: ws)) last nx) (hx : x.length ≤ 200) (hl : ws.length ≤ 197) (hs : Lib.hasSuffix x [100] = true) (hn : isNum (Lib.trimSuffix x [100]) = true) : Calls Tryz.prog 155 #[.pointer (some ⟨r, 0, none⟩)] w fun e w' => leEnd r last nx w (.got (numV (Lib.trimSuffix x [100])) ws) e w' := by
  have HS := Lib.hid hs
  have HN := Lib.hid hn
  have HT : Hid ((Lib.trimSuffix x [100]).length ≤ 200) := Lib.hid (Nat.le_trans (trimSuffix_len x [100]) hx)
  have HX := Lib.hid hx
  have H198 := Lib.hid (c198 r (forW :: (x :: ws)) last nx w h (by simp; omega))
  have H191 := Lib.hid (c191 r forW (x :: ws) last nx w h (by simp; omega))
  clear h hs hn hx
  unfold leEnd
  go_enter Tryz.func155, Tryz.ntmps155
  go_wp2_with (first
    | (go_at_call 192; refine (c192 (Lib.trimSuffix x [100]) HT.out HN.out w5).mono ?_; rintro e w6 ⟨rfl, hb6⟩)
    | (go_at_call 191; refine (c191 r x ws last nx w3 hr3 (by omega)).mono ?_; rintro e w5 ⟨rfl, hr5, hg5⟩; unfold strv)
    | (go_at_call 191; refine H191.out.mono ?_; rintro e w1 ⟨rfl, hr1, hg1⟩; unfold strv forW; obtain ⟨⟨b, o, c, g0, g1, g2⟩, gL⟩ := reader_some hr1; have g3 := World.block_lt_of_cell? _ _ g1; simp only at g3; clear g2)
    | (go_at_call 198; refine (c198 r (x :: ws) last nx _ hr1 (by simp; omega)).mono ?_; rintro e w2 ⟨rfl, rfl⟩; unfold strv; simp only [List.headD_cons])
    | (go_at_call 198; refine H198.out.mono ?_; rintro e w2 ⟨rfl, rfl⟩; unfold strv forW; simp only [List.headD_cons])
    | (go_at_call 199; refine (c199 x [100] HX.out _).mono ?_; rintro e w2 ⟨rfl, rfl⟩; rw [HS.out])
    | (go_at_call 200; refine (c200 (Lib.trimSuffix x [100]) HT.out w1).mono ?_; rintro e w3 ⟨rfl, hb3⟩; rw [HN.out]; have hr3 := (hr1).grown hb3; have hg3 := (hg1).trans (Grown.by hb3 (some r)); have k0 := (kept hb3 gL (i := 0)).trans g0; have k1 := (kept hb3 g3 (i := o)).trans g1; have kL := Nat.lt_of_lt_of_le gL hb3.size))
  go_ret
  exact ⟨rfl, hr5.grown hb6, (hg3.trans hg5).trans (Grown.by hb6 _)⟩
set_option maxRecDepth 100000 in
set_option maxHeartbeats 4000000 in
theorem c155_wnone (r : Nat) (x : List UInt8) (last : Card) (nx : Bool) (w : World) (h : Reader w r (forW :: (x :: [])) last nx) (hx : x.length ≤ 200) (hs : Lib.hasSuffix x [100] = false) : Calls Tryz.prog 155 #[.pointer (some ⟨r, 0, none⟩)] w fun e w' => leEnd r last nx w .stop e w' := by
  have HS := Lib.hid hs
  have HT : Hid ((Lib.trimSuffix x [100]).length ≤ 200) := Lib.hid (Nat.le_trans (trimSuffix_len x [100]) hx)
  have HX := Lib.hid hx
  have H198 := Lib.hid (c198 r (forW :: (x :: [])) last nx w h (by simp))
  have H191 := Lib.hid (c191 r forW (x :: []) last nx w h (by simp))
  clear h hs hx
  unfold leEnd
  go_enter Tryz.func155, Tryz.ntmps155
  go_wp2_with (first
    | (go_at_call 191; refine H191.out.mono ?_; rintro e w1 ⟨rfl, hr1, hg1⟩; unfold strv forW; obtain ⟨⟨b, o, c, g0, g1, g2⟩, gL⟩ := reader_some hr1; have g3 := World.block_lt_of_cell? _ _ g1; simp only at g3; simp only [List.length_nil, Nat.zero_add] at g0; clear g2)
    | (go_at_call 198; refine (c198 r (x :: []) last nx _ hr1 (by simp)).mono ?_; rintro e w2 ⟨rfl, rfl⟩; unfold strv; simp only [List.headD_cons])
    | (go_at_call 198; refine H198.out.mono ?_; rintro e w2 ⟨rfl, rfl⟩; unfold strv forW; simp only [List.headD_cons])
    | (go_at_call 199; refine (c199 x [100] HX.out _).mono ?_; rintro e w2 ⟨rfl, rfl⟩; rw [HS.out]))
  exact ⟨rfl, rfl, hg1⟩
set_option maxRecDepth 100000 in
set_option maxHeartbeats 4000000 in
theorem c155_wnnotnum (r : Nat) (x y : List UInt8) (ws : List (List UInt8)) (last : Card) (nx : Bool) (w : World) (h : Reader w r (forW :: (x :: (y :: ws))) last nx) (hx : x.length ≤ 200) (hs : Lib.hasSuffix x [100] = false) (hl : ws.length ≤ 197) (hk : isNum x = false) : Calls Tryz.prog 155 #[.pointer (some ⟨r, 0, none⟩)] w fun e w' => leEnd r last nx w .stop e w' := by
  have HS := Lib.hid hs
  have HK := Lib.hid hk
  have HT : Hid ((Lib.trimSuffix x [100]).length ≤ 200) := Lib.hid (Nat.le_trans (trimSuffix_len x [100]) hx)
  have HX := Lib.hid hx
  have H198 := Lib.hid (c198 r (forW :: (x :: (y :: ws))) last nx w h (by simp; omega))
  have H191 := Lib.hid (c191 r forW (x :: (y :: ws)) last nx w h (by simp; omega))
  clear h hs hk hx
  unfold leEnd
  go_enter Tryz.func155, Tryz.ntmps155
  go_wp2_with (first
    | (go_at_call 191; refine H191.out.mono ?_; rintro e w1 ⟨rfl, hr1, hg1⟩; unfold strv forW; obtain ⟨⟨b, o, c, g0, g1, g2⟩, gL⟩ := reader_some hr1; have g3 := World.block_lt_of_cell? _ _ g1; simp only at g3; simp only [List.length_cons] at g0; have g4 := g2 _ _ rfl; clear g2)
    | (go_at_call 200; refine (c200 x HX.out w1).mono ?_; rintro e w4 ⟨rfl, hb4⟩; rw [HK.out]; have hr4 := (hr1).grown hb4; have hg4 := (hg1).trans (Grown.by hb4 (some r)); have m0 := (kept hb4 gL (i := 0)).trans g0; have m4 := (kept hb4 g3 (i := o + 1)).trans g4; have mL := Nat.lt_of_lt_of_le gL hb4.size)
    | (go_at_call 198; refine (c198 r (x :: (y :: ws)) last nx _ hr1 (by simp; omega)).mono ?_; rintro e w2 ⟨rfl, rfl⟩; unfold strv; simp only [List.headD_cons])
    | (go_at_call 198; refine H198.out.mono ?_; rintro e w2 ⟨rfl, rfl⟩; unfold strv forW; simp only [List.headD_cons])
    | (go_at_call 199; refine (c199 x [100] HX.out _).mono ?_; rintro e w2 ⟨rfl, rfl⟩; rw [HS.out]))
  exact ⟨rfl, rfl, hg4⟩
set_option maxRecDepth 100000 in
set_option maxHeartbeats 4000000 in
theorem c155_wnday (r : Nat) (x y : List UInt8) (ws : List (List UInt8)) (last : Card) (nx : Bool) (w : World) (h : Reader w r (forW :: (x :: (y :: ws))) last nx) (hx : x.length ≤ 200) (hs : Lib.hasSuffix x [100] = false) (hl : ws.length ≤ 197) (hk : isNum x = true) (hy : (y == [100, 97, 121]) = true) : Calls Tryz.prog 155 #[.pointer (some ⟨r, 0, none⟩)] w fun e w' => leEnd r last nx w (.got (numV x) ws) e w' := by
  have HS := Lib.hid hs
  have HK := Lib.hid hk
  have HT : Hid ((Lib.trimSuffix x [100]).length ≤ 200) := Lib.hid (Nat.le_trans (trimSuffix_len x [100]) hx)
  have HX := Lib.hid hx
  have H198 := Lib.hid (c198 r (forW :: (x :: (y :: ws))) last nx w h (by simp; omega))
  have H191 := Lib.hid (c191 r forW (x :: (y :: ws)) last nx w h (by simp; omega))
  clear h hs hk hx
  unfold leEnd
  go_enter Tryz.func155, Tryz.ntmps155
  go_wp2_with (first
    | (go_at_call 191; refine (c191 r y ws last nx w6 hr6 (by omega)).mono ?_; rintro e w7 ⟨rfl, hr7, hg7⟩; unfold strv)
    | (go_at_call 192; refine (c192 x HX.out HK.out w5).mono ?_; rintro e w6 ⟨rfl, hb6⟩; have hr6 := hr5.grown hb6; have hg6 := hg5'.trans (Grown.by hb6 (some r)))
    | (go_at_call 191; refine (c191 r x (y :: ws) last nx w4 hr4 (by simp; omega)).mono ?_; rintro e w5 ⟨rfl, hr5, hg5⟩; unfold strv; have hg5' := hg4.trans hg5)
    | (go_at_call 191; refine H191.out.mono ?_; rintro e w1 ⟨rfl, hr1, hg1⟩; unfold strv forW; obtain ⟨⟨b, o, c, g0, g1, g2⟩, gL⟩ := reader_some hr1; have g3 := World.block_lt_of_cell? _ _ g1; simp only at g3; simp only [List.length_cons] at g0; have g4 := g2 _ _ rfl; clear g2)
    | (go_at_call 200; refine (c200 x HX.out w1).mono ?_; rintro e w4 ⟨rfl, hb4⟩; rw [HK.out]; have hr4 := (hr1).grown hb4; have hg4 := (hg1).trans (Grown.by hb4 (some r)); have m0 := (kept hb4 gL (i := 0)).trans g0; have m4 := (kept hb4 g3 (i := o + 1)).trans g4; have mL := Nat.lt_of_lt_of_le gL hb4.size)
    | (go_at_call 198; refine (c198 r (x :: (y :: ws)) last nx _ hr1 (by simp; omega)).mono ?_; rintro e w2 ⟨rfl, rfl⟩; unfold strv; simp only [List.headD_cons])
    | (go_at_call 198; refine H198.out.mono ?_; rintro e w2 ⟨rfl, rfl⟩; unfold strv forW; simp only [List.headD_cons])
    | (go_at_call 199; refine (c199 x [100] HX.out _).mono ?_; rintro e w2 ⟨rfl, rfl⟩; rw [HS.out]))
  go_ret
  exact ⟨rfl, hr7, hg6.trans hg7⟩
set_option maxRecDepth 100000 in
set_option maxHeartbeats 4000000 in
theorem c155_wndays (r : Nat) (x y : List UInt8) (ws : List (List UInt8)) (last : Card) (nx : Bool) (w : World) (h : Reader w r (forW :: (x :: (y :: ws))) last nx) (hx : x.length ≤ 200) (hs : Lib.hasSuffix x [100] = false) (hl : ws.length ≤ 197) (hk : isNum x = true) (hy : (y == [100, 97, 121]) = false) (hz : (y == [100, 97, 121, 115]) = true) : Calls Tryz.prog 155 #[.pointer (some ⟨r, 0, none⟩)] w fun e w' => leEnd r last nx w (.got (numV x) ws) e w' := by
  have HS := Lib.hid hs
  have HK := Lib.hid hk
  have HT : Hid ((Lib.trimSuffix x [100]).length ≤ 200) := Lib.hid (Nat.le_trans (trimSuffix_len x [100]) hx)
  have HX := Lib.hid hx
  have H198 := Lib.hid (c198 r (forW :: (x :: (y :: ws))) last nx w h (by simp; omega))
  have H191 := Lib.hid (c191 r forW (x :: (y :: ws)) last nx w h (by simp; omega))
  clear h hs hk hx
  unfold leEnd
  go_enter Tryz.func155, Tryz.ntmps155
  go_wp2_with (first
    | (go_at_call 191; refine (c191 r y ws last nx w6 hr6 (by omega)).mono ?_; rintro e w7 ⟨rfl, hr7, hg7⟩; unfold strv)
    | (go_at_call 192; refine (c192 x HX.out HK.out w5).mono ?_; rintro e w6 ⟨rfl, hb6⟩; have hr6 := hr5.grown hb6; have hg6 := hg5'.trans (Grown.by hb6 (some r)))
    | (go_at_call 191; refine (c191 r x (y :: ws) last nx w4 hr4 (by simp; omega)).mono ?_; rintro e w5 ⟨rfl, hr5, hg5⟩; unfold strv; have hg5' := hg4.trans hg5)
    | (go_at_call 191; refine H191.out.mono ?_; rintro e w1 ⟨rfl, hr1, hg1⟩; unfold strv forW; obtain ⟨⟨b, o, c, g0, g1, g2⟩, gL⟩ := reader_some hr1; have g3 := World.block_lt_of_cell? _ _ g1; simp only at g3; simp only [List.length_cons] at g0; have g4 := g2 _ _ rfl; clear g2)
    | (go_at_call 200; refine (c200 x HX.out w1).mono ?_; rintro e w4 ⟨rfl, hb4⟩; rw [HK.out]; have hr4 := (hr1).grown hb4; have hg4 := (hg1).trans (Grown.by hb4 (some r)); have m0 := (kept hb4 gL (i := 0)).trans g0; have m4 := (kept hb4 g3 (i := o + 1)).trans g4; have mL := Nat.lt_of_lt_of_le gL hb4.size)
    | (go_at_call 198; refine (c198 r (x :: (y :: ws)) last nx _ hr1 (by simp; omega)).mono ?_; rintro e w2 ⟨rfl, rfl⟩; unfold strv; simp only [List.headD_cons])
    | (go_at_call 198; refine H198.out.mono ?_; rintro e w2 ⟨rfl, rfl⟩; unfold strv forW; simp only [List.headD_cons])
    | (go_at_call 199; refine (c199 x [100] HX.out _).mono ?_; rintro e w2 ⟨rfl, rfl⟩; rw [HS.out]))
  go_ret
  exact ⟨rfl, hr7, hg6.trans hg7⟩
set_option maxRecDepth 100000 in
set_option maxHeartbeats 4000000 in
theorem c155_wnneither (r : Nat) (x y : List UInt8) (ws : List (List UInt8)) (last : Card) (nx : Bool) (w : World) (h : Reader w r (forW :: (x :: (y :: ws))) last nx) (hx : x.length ≤ 200) (hs : Lib.hasSuffix x [100] = false) (hl : ws.length ≤ 197) (hk : isNum x = true) (hy : (y == [100, 97, 121]) = false) (hz : (y == [100, 97, 121, 115]) = false) : Calls Tryz.prog 155 #[.pointer (some ⟨r, 0, none⟩)] w fun e w' => leEnd r last nx w .stop e w' := by
  have HS := Lib.hid hs
  have HK := Lib.hid hk
  have HT : Hid ((Lib.trimSuffix x [100]).length ≤ 200) := Lib.hid (Nat.le_trans (trimSuffix_len x [100]) hx)
  have HX := Lib.hid hx
  have H198 := Lib.hid (c198 r (forW :: (x :: (y :: ws))) last nx w h (by simp; omega))
  have H191 := Lib.hid (c191 r forW (x :: (y :: ws)) last nx w h (by simp; omega))
  clear h hs hk hx
  unfold leEnd
  go_enter Tryz.func155, Tryz.ntmps155
  go_wp2_with (first
    | (go_at_call 191; refine H191.out.mono ?_; rintro e w1 ⟨rfl, hr1, hg1⟩; unfold strv forW; obtain ⟨⟨b, o, c, g0, g1, g2⟩, gL⟩ := reader_some hr1; have g3 := World.block_lt_of_cell? _ _ g1; simp only at g3; simp only [List.length_cons] at g0; have g4 := g2 _ _ rfl; clear g2)
    | (go_at_call 200; refine (c200 x HX.out w1).mono ?_; rintro e w4 ⟨rfl, hb4⟩; rw [HK.out]; have hr4 := (hr1).grown hb4; have hg4 := (hg1).trans (Grown.by hb4 (some r)); have m0 := (kept hb4 gL (i := 0)).trans g0; have m4 := (kept hb4 g3 (i := o + 1)).trans g4; have mL := Nat.lt_of_lt_of_le gL hb4.size)
    | (go_at_call 198; refine (c198 r (x :: (y :: ws)) last nx _ hr1 (by simp; omega)).mono ?_; rintro e w2 ⟨rfl, rfl⟩; unfold strv; simp only [List.headD_cons])
    | (go_at_call 198; refine H198.out.mono ?_; rintro e w2 ⟨rfl, rfl⟩; unfold strv forW; simp only [List.headD_cons])
    | (go_at_call 199; refine (c199 x [100] HX.out _).mono ?_; rintro e w2 ⟨rfl, rfl⟩; rw [HS.out]))
  exact ⟨rfl, rfl, hg4⟩
set_option maxRecDepth 100000 in
set_option maxHeartbeats 4000000 in
theorem c155_wmone (r : Nat) (x : List UInt8) (last : Card) (nx : Bool) (w : World) (h : Reader w r (forW :: (x :: [])) last nx) (hx : x.length ≤ 200) (hs : Lib.hasSuffix x [100] = true) (hn : isNum (Lib.trimSuffix x [100]) = false) : Calls Tryz.prog 155 #[.pointer (some ⟨r, 0, none⟩)] w fun e w' => leEnd r last nx w .stop e w' := by
  have HS := Lib.hid hs
  have HN := Lib.hid hn
  have HT : Hid ((Lib.trimSuffix x [100]).length ≤ 200) := Lib.hid (Nat.le_trans (trimSuffix_len x [100]) hx)
  have HX := Lib.hid hx
  have H198 := Lib.hid (c198 r (forW :: (x :: [])) last nx w h (by simp))
  have H191 := Lib.hid (c191 r forW (x :: []) last nx w h (by simp))
  clear h hs hn hx
  unfold leEnd
  go_enter Tryz.func155, Tryz.ntmps155
  go_wp2_with (first
    | (go_at_call 191; refine H191.out.mono ?_; rintro e w1 ⟨rfl, hr1, hg1⟩; unfold strv forW; obtain ⟨⟨b, o, c, g0, g1, g2⟩, gL⟩ := reader_some hr1; have g3 := World.block_lt_of_cell? _ _ g1; simp only at g3; simp only [List.length_nil, Nat.zero_add] at g0; clear g2)
    | (go_at_call 198; refine (c198 r (x :: []) last nx _ hr1 (by simp)).mono ?_; rintro e w2 ⟨rfl, rfl⟩; unfold strv; simp only [List.headD_cons])
    | (go_at_call 198; refine H198.out.mono ?_; rintro e w2 ⟨rfl, rfl⟩; unfold strv forW; simp only [List.headD_cons])
    | (go_at_call 199; refine (c199 x [100] HX.out _).mono ?_; rintro e w2 ⟨rfl, rfl⟩; rw [HS.out])
    | (go_at_call 200; refine (c200 (Lib.trimSuffix x [100]) HT.out w1).mono ?_; rintro e w3 ⟨rfl, hb3⟩; rw [HN.out]; have hr3 := (hr1).grown hb3; have hg3 := (hg1).trans (Grown.by hb3 (some r)); have k0 := (kept hb3 gL (i := 0)).trans g0; have k1 := (kept hb3 g3 (i := o)).trans g1; have kL := Nat.lt_of_lt_of_le gL hb3.size))
  exact ⟨rfl, rfl, hg3⟩
set_option maxRecDepth 100000 in
set_option maxHeartbeats 4000000 in
theorem c155_wmnotnum (r : Nat) (x y : List UInt8) (ws : List (List UInt8)) (last : Card) (nx : Bool) (w : World) (h : Reader w r (forW :: (x :: (y :: ws))) last nx) (hx : x.length ≤ 200) (hs : Lib.hasSuffix x [100] = true) (hn : isNum (Lib.trimSuffix x [100]) = false) (hl : ws.length ≤ 197) (hk : isNum x = false) : Calls Tryz.prog 155 #[.pointer (some ⟨r, 0, none⟩)] w fun e w' => leEnd r last nx w .stop e w' := by
  have HS := Lib.hid hs
  have HN := Lib.hid hn
  have HK := Lib.hid hk
  have HT : Hid ((Lib.trimSuffix x [100]).length ≤ 200) := Lib.hid (Nat.le_trans (trimSuffix_len x [100]) hx)
  have HX := Lib.hid hx
  have H198 := Lib.hid (c198 r (forW :: (x :: (y :: ws))) last nx w h (by simp; omega))
  have H191 := Lib.hid (c191 r forW (x :: (y :: ws)) last nx w h (by simp; omega))
  clear h hs hn hk hx
  unfold leEnd
  go_enter Tryz.func155, Tryz.ntmps155
  go_wp2_with (first
    | (go_at_call 191; refine H191.out.mono ?_; rintro e w1 ⟨rfl, hr1, hg1⟩; unfold strv forW; obtain ⟨⟨b, o, c, g0, g1, g2⟩, gL⟩ := reader_some hr1; have g3 := World.block_lt_of_cell? _ _ g1; simp only at g3; simp only [List.length_cons] at g0; have g4 := g2 _ _ rfl; clear g2)
    | (go_at_call 200; refine (c200 x HX.out w3).mono ?_; rintro e w4 ⟨rfl, hb4⟩; rw [HK.out]; have hr4 := (hr3).grown hb4; have hg4 := (hg3).trans (Grown.by hb4 (some r)); have m0 := (kept hb4 kL (i := 0)).trans k0; have m4 := (kept hb4 (Nat.lt_of_lt_of_le g3 hb3.size) (i := o + 1)).trans k4; have mL := Nat.lt_of_lt_of_le kL hb4.size)
    | (go_at_call 198; refine (c198 r (x :: (y :: ws)) last nx _ hr1 (by simp; omega)).mono ?_; rintro e w2 ⟨rfl, rfl⟩; unfold strv; simp only [List.headD_cons])
    | (go_at_call 198; refine H198.out.mono ?_; rintro e w2 ⟨rfl, rfl⟩; unfold strv forW; simp only [List.headD_cons])
    | (go_at_call 199; refine (c199 x [100] HX.out _).mono ?_; rintro e w2 ⟨rfl, rfl⟩; rw [HS.out])
    | (go_at_call 200; refine (c200 (Lib.trimSuffix x [100]) HT.out w1).mono ?_; rintro e w3 ⟨rfl, hb3⟩; rw [HN.out]; have hr3 := (hr1).grown hb3; have hg3 := (hg1).trans (Grown.by hb3 (some r)); have k0 := (kept hb3 gL (i := 0)).trans g0; have k1 := (kept hb3 g3 (i := o)).trans g1; have k4 := (kept hb3 g3 (i := o + 1)).trans g4; have kL := Nat.lt_of_lt_of_le gL hb3.size))
  exact ⟨rfl, rfl, hg4⟩
set_option maxRecDepth 100000 in
set_option maxHeartbeats 4000000 in
theorem c155_wmday (r : Nat) (x y : List UInt8) (ws : List (List UInt8)) (last : Card) (nx : Bool) (w : World) (h : Reader w r (forW :: (x :: (y :: ws))) last nx) (hx : x.length ≤ 200) (hs : Lib.hasSuffix x [100] = true) (hn : isNum (Lib.trimSuffix x [100]) = false) (hl : ws.length ≤ 197) (hk : isNum x = true) (hy : (y == [100, 97, 121]) = true) : Calls Tryz.prog 155 #[.pointer (some ⟨r, 0, none⟩)] w fun e w' => leEnd r last nx w (.got (numV x) ws) e w' := by
  have HS := Lib.hid hs
  have HN := Lib.hid hn
  have HK := Lib.hid hk
  have HT : Hid ((Lib.trimSuffix x [100]).length ≤ 200) := Lib.hid (Nat.le_trans (trimSuffix_len x [100]) hx)
  have HX := Lib.hid hx
  have H198 := Lib.hid (c198 r (forW :: (x :: (y :: ws))) last nx w h (by simp; omega))
  have H191 := Lib.hid (c191 r forW (x :: (y :: ws)) last nx w h (by simp; omega))
  clear h hs hn hk hx
  unfold leEnd
  go_enter Tryz.func155, Tryz.ntmps155
  go_wp2_with (first
    | (go_at_call 191; refine (c191 r y ws last nx w6 hr6 (by omega)).mono ?_; rintro e w7 ⟨rfl, hr7, hg7⟩; unfold strv)
    | (go_at_call 192; refine (c192 x HX.out HK.out w5).mono ?_; rintro e w6 ⟨rfl, hb6⟩; have hr6 := hr5.grown hb6; have hg6 := hg5'.trans (Grown.by hb6 (some r)))
    | (go_at_call 191; refine (c191 r x (y :: ws) last nx w4 hr4 (by simp; omega)).mono ?_; rintro e w5 ⟨rfl, hr5, hg5⟩; unfold strv; have hg5' := hg4.trans hg5)
    | (go_at_call 191; refine H191.out.mono ?_; rintro e w1 ⟨rfl, hr1, hg1⟩; unfold strv forW; obtain ⟨⟨b, o, c, g0, g1, g2⟩, gL⟩ := reader_some hr1; have g3 := World.block_lt_of_cell? _ _ g1; simp only at g3; simp only [List.length_cons] at g0; have g4 := g2 _ _ rfl; clear g2)
    | (go_at_call 200; refine (c200 x HX.out w3).mono ?_; rintro e w4 ⟨rfl, hb4⟩; rw [HK.out]; have hr4 := (hr3).grown hb4; have hg4 := (hg3).trans (Grown.by hb4 (some r)); have m0 := (kept hb4 kL (i := 0)).trans k0; have m4 := (kept hb4 (Nat.lt_of_lt_of_le g3 hb3.size) (i := o + 1)).trans k4; have mL := Nat.lt_of_lt_of_le kL hb4.size)
    | (go_at_call 198; refine (c198 r (x :: (y :: ws)) last nx _ hr1 (by simp; omega)).mono ?_; rintro e w2 ⟨rfl, rfl⟩; unfold strv; simp only [List.headD_cons])
    | (go_at_call 198; refine H198.out.mono ?_; rintro e w2 ⟨rfl, rfl⟩; unfold strv forW; simp only [List.headD_cons])
    | (go_at_call 199; refine (c199 x [100] HX.out _).mono ?_; rintro e w2 ⟨rfl, rfl⟩; rw [HS.out])
    | (go_at_call 200; refine (c200 (Lib.trimSuffix x [100]) HT.out w1).mono ?_; rintro e w3 ⟨rfl, hb3⟩; rw [HN.out]; have hr3 := (hr1).grown hb3; have hg3 := (hg1).trans (Grown.by hb3 (some r)); have k0 := (kept hb3 gL (i := 0)).trans g0; have k1 := (kept hb3 g3 (i := o)).trans g1; have k4 := (kept hb3 g3 (i := o + 1)).trans g4; have kL := Nat.lt_of_lt_of_le gL hb3.size))
  go_ret
  exact ⟨rfl, hr7, hg6.trans hg7⟩
set_option maxRecDepth 100000 in
set_option maxHeartbeats 4000000 in
theorem c155_wmdays (r : Nat) (x y : List UInt8) (ws : List (List UInt8)) (last : Card) (nx : Bool) (w : World) (h : Reader w r (forW :: (x :: (y :: ws))) last nx) (hx : x.length ≤ 200) (hs : Lib.hasSuffix x [100] = true) (hn : isNum (Lib.trimSuffix x [100]) = false) (hl : ws.length ≤ 197) (hk : isNum x = true) (hy : (y == [100, 97, 121]) = false) (hz : (y == [100, 97, 121, 115]) = true) : Calls Tryz.prog 155 #[.pointer (some ⟨r, 0, none⟩)] w fun e w' => leEnd r last nx w (.got (numV x) ws) e w' := by
  have HS := Lib.hid hs
  have HN := Lib.hid hn
  have HK := Lib.hid hk
  have HT : Hid ((Lib.trimSuffix x [100]).length ≤ 200) := Lib.hid (Nat.le_trans (trimSuffix_len x [100]) hx)
  have HX := Lib.hid hx
  have H198 := Lib.hid (c198 r (forW :: (x :: (y :: ws))) last nx w h (by simp; omega))
  have H191 := Lib.hid (c191 r forW (x :: (y :: ws)) last nx w h (by simp; omega))
  clear h hs hn hk hx
  unfold leEnd
  go_enter Tryz.func155, Tryz.ntmps155
  go_wp2_with (first
    | (go_at_call 191; refine (c191 r y ws last nx w6 hr6 (by omega)).mono ?_; rintro e w7 ⟨rfl, hr7, hg7⟩; unfold strv)
    | (go_at_call 192; refine (c192 x HX.out HK.out w5).mono ?_; rintro e w6 ⟨rfl, hb6⟩; have hr6 := hr5.grown hb6; have hg6 := hg5'.trans (Grown.by hb6 (some r)))
    | (go_at_call 191; refine (c191 r x (y :: ws) last nx w4 hr4 (by simp; omega)).mono ?_; rintro e w5 ⟨rfl, hr5, hg5⟩; unfold strv; have hg5' := hg4.trans hg5)
    | (go_at_call 191; refine H191.out.mono ?_; rintro e w1 ⟨rfl, hr1, hg1⟩; unfold strv forW; obtain ⟨⟨b, o, c, g0, g1, g2⟩, gL⟩ := reader_some hr1; have g3 := World.block_lt_of_cell? _ _ g1; simp only at g3; simp only [List.length_cons] at g0; have g4 := g2 _ _ rfl; clear g2)
    | (go_at_call 200; refine (c200 x HX.out w3).mono ?_; rintro e w4 ⟨rfl, hb4⟩; rw [HK.out]; have hr4 := (hr3).grown hb4; have hg4 := (hg3).trans (Grown.by hb4 (some r)); have m0 := (kept hb4 kL (i := 0)).trans k0; have m4 := (kept hb4 (Nat.lt_of_lt_of_le g3 hb3.size) (i := o + 1)).trans k4; have mL := Nat.lt_of_lt_of_le kL hb4.size)
    | (go_at_call 198; refine (c198 r (x :: (y :: ws)) last nx _ hr1 (by simp; omega)).mono ?_; rintro e w2 ⟨rfl, rfl⟩; unfold strv; simp only [List.headD_cons])
    | (go_at_call 198; refine H198.out.mono ?_; rintro e w2 ⟨rfl, rfl⟩; unfold strv forW; simp only [List.headD_cons])
    | (go_at_call 199; refine (c199 x [100] HX.out _).mono ?_; rintro e w2 ⟨rfl, rfl⟩; rw [HS.out])
    | (go_at_call 200; refine (c200 (Lib.trimSuffix x [100]) HT.out w1).mono ?_; rintro e w3 ⟨rfl, hb3⟩; rw [HN.out]; have hr3 := (hr1).grown hb3; have hg3 := (hg1).trans (Grown.by hb3 (some r)); have k0 := (kept hb3 gL (i := 0)).trans g0; have k1 := (kept hb3 g3 (i := o)).trans g1; have k4 := (kept hb3 g3 (i := o + 1)).trans g4; have kL := Nat.lt_of_lt_of_le gL hb3.size))
  go_ret
  exact ⟨rfl, hr7, hg6.trans hg7⟩
set_option maxRecDepth 100000 in
set_option maxHeartbeats 4000000 in
theorem c155_wmneither (r : Nat) (x y : List UInt8) (ws : List (List UInt8)) (last : Card) (nx : Bool) (w : World) (h : Reader w r (forW :: (x :: (y :: ws))) last nx) (hx : x.length ≤ 200) (hs : Lib.hasSuffix x [100] = true) (hn : isNum (Lib.trimSuffix x [100]) = false) (hl : ws.length ≤ 197) (hk : isNum x = true) (hy : (y == [100, 97, 121]) = false) (hz : (y == [100, 97, 121, 115]) = false) : Calls Tryz.prog 155 #[.pointer (some ⟨r, 0, none⟩)] w fun e w' => leEnd r last nx w .stop e w' := by
  have HS := Lib.hid hs
  have HN := Lib.hid hn
  have HK := Lib.hid hk
  have HT : Hid ((Lib.trimSuffix x [100]).length ≤ 200) := Lib.hid (Nat.le_trans (trimSuffix_len x [100]) hx)
  have HX := Lib.hid hx
  have H198 := Lib.hid (c198 r (forW :: (x :: (y :: ws))) last nx w h (by simp; omega))
  have H191 := Lib.hid (c191 r forW (x :: (y :: ws)) last nx w h (by simp; omega))
  clear h hs hn hk hx
  unfold leEnd
  go_enter Tryz.func155, Tryz.ntmps155
  go_wp2_with (first
    | (go_at_call 191; refine H191.out.mono ?_; rintro e w1 ⟨rfl, hr1, hg1⟩; unfold strv forW; obtain ⟨⟨b, o, c, g0, g1, g2⟩, gL⟩ := reader_some hr1; have g3 := World.block_lt_of_cell? _ _ g1; simp only at g3; simp only [List.length_cons] at g0; have g4 := g2 _ _ rfl; clear g2)
    | (go_at_call 200; refine (c200 x HX.out w3).mono ?_; rintro e w4 ⟨rfl, hb4⟩; rw [HK.out]; have hr4 := (hr3).grown hb4; have hg4 := (hg3).trans (Grown.by hb4 (some r)); have m0 := (kept hb4 kL (i := 0)).trans k0; have m4 := (kept hb4 (Nat.lt_of_lt_of_le g3 hb3.size) (i := o + 1)).trans k4; have mL := Nat.lt_of_lt_of_le kL hb4.size)
    | (go_at_call 198; refine (c198 r (x :: (y :: ws)) last nx _ hr1 (by simp; omega)).mono ?_; rintro e w2 ⟨rfl, rfl⟩; unfold strv; simp only [List.headD_cons])
    | (go_at_call 198; refine H198.out.mono ?_; rintro e w2 ⟨rfl, rfl⟩; unfold strv forW; simp only [List.headD_cons])
    | (go_at_call 199; refine (c199 x [100] HX.out _).mono ?_; rintro e w2 ⟨rfl, rfl⟩; rw [HS.out])
    | (go_at_call 200; refine (c200 (Lib.trimSuffix x [100]) HT.out w1).mono ?_; rintro e w3 ⟨rfl, hb3⟩; rw [HN.out]; have hr3 := (hr1).grown hb3; have hg3 := (hg1).trans (Grown.by hb3 (some r)); have k0 := (kept hb3 gL (i := 0)).trans g0; have k1 := (kept hb3 g3 (i := o)).trans g1; have k4 := (kept hb3 g3 (i := o + 1)).trans g4; have kL := Nat.lt_of_lt_of_le gL hb3.size))
  exact ⟨rfl, rfl, hg4⟩
end Go.Proofs.YthifeoebefbalaaGreatDoor

namespace Go.Proofs.YthifeoebefbalaaGreatDoor
open Go.RowKit

set_option maxRecDepth 100000 in
set_option maxHeartbeats 4000000 in
theorem c155_wnil (r : Nat) (last : Card) (nx : Bool) (w : World) (h : Reader w r [forW] last nx) : Calls Tryz.prog 155 #[.pointer (some ⟨r, 0, none⟩)] w fun e w' => leEnd r last nx w .stop e w' := by
  have H198 := Lib.hid (c198 r [forW] last nx w h (by simp))
  have H191 := Lib.hid (c191 r forW [] last nx w h (by simp))
  unfold leEnd
  clear h
  go_enter Tryz.func155, Tryz.ntmps155
  go_wp2_with (first
    | (go_at_call 191; refine H191.out.mono ?_; rintro e w1 ⟨rfl, hr1, hg1⟩; unfold strv forW; obtain ⟨⟨a, c, q0⟩, qL⟩ := reader_none hr1)
    | (go_at_call 198; refine (c198 r [] last nx _ hr1 (by simp)).mono ?_; rintro e w2 ⟨rfl, rfl⟩; unfold strv; simp only [List.headD_nil])
    | (go_at_call 198; refine H198.out.mono ?_; rintro e w2 ⟨rfl, rfl⟩; unfold strv forW; simp only [List.headD_cons])
    | (go_at_call 199; refine (c199 [] [100] (by simp) _).mono ?_; rintro e w2 ⟨rfl, rfl⟩; rw [show Lib.hasSuffix [] [100] = false from rfl]))
  exact ⟨rfl, rfl, hg1⟩
theorem lump_o2 (r : Nat) (x y : List UInt8) (ws : List (List UInt8)) (last : Card) (nx : Bool) (w : World) (h : Reader w r (x :: y :: ws) last nx) (hd : isD x = false)
    (h1 : isNum x = false → Calls Tryz.prog 155 #[.pointer (some ⟨r, 0, none⟩)] w fun e w' => leEnd r last nx w (.got 1 (x :: y :: ws)) e w') (h2 : isNum x = true → (y == [100, 97, 121]) = true → Calls Tryz.prog 155 #[.pointer (some ⟨r, 0, none⟩)] w fun e w' => leEnd r last nx w (.got (numV x) ws) e w')
    (h3 : isNum x = true → (y == [100, 97, 121]) = false → (y == [100, 97, 121, 115]) = true → Calls Tryz.prog 155 #[.pointer (some ⟨r, 0, none⟩)] w fun e w' => leEnd r last nx w (.got (numV x) ws) e w') (h4 : isNum x = true → (y == [100, 97, 121]) = false → (y == [100, 97, 121, 115]) = false → Calls Tryz.prog 155 #[.pointer (some ⟨r, 0, none⟩)] w fun e w' => leEnd r last nx w (.got 1 (x :: y :: ws)) e w') :
    Calls Tryz.prog 155 #[.pointer (some ⟨r, 0, none⟩)] w fun e w' => leEnd r last nx w (lump2 false (x :: y :: ws)) e w' := by
  cases hk : isNum x with
  | false => rw [show lump2 false (x :: y :: ws) = .got 1 (x :: y :: ws) by simp [lump2, hd, hk]]; exact h1 hk
  | true =>
    by_cases hy : y = dayW
    · rw [show lump2 false (x :: y :: ws) = .got (numV x) ws by simp [lump2, hd, hk, hy]]
      exact h2 hk (by rw [hy]; rfl)
    · by_cases hz : y = daysW
      · rw [show lump2 false (x :: y :: ws) = .got (numV x) ws by simp [lump2, hd, hk, hz]]
        exact h3 hk (by rw [hz]; rfl) (by rw [hz]; rfl)
      · rw [show lump2 false (x :: y :: ws) = .got 1 (x :: y :: ws) by simp [lump2, hd, hk, hy, hz]]
        exact h4 hk (by simpa [dayW] using hy) (by simpa [daysW] using hz)
theorem lump_o (r : Nat) (x : List UInt8) (ws : List (List UInt8)) (last : Card) (nx : Bool) (w : World) (h : Reader w r (x :: ws) last nx) (hx : x.length ≤ 200) (hl : ws.length ≤ 197) (hf : (x == [102, 111, 114]) = false) : Calls Tryz.prog 155 #[.pointer (some ⟨r, 0, none⟩)] w fun e w' => leEnd r last nx w (lump2 false (x :: ws)) e w' := by
  cases hs : Lib.hasSuffix x [100] with
  | true =>
    cases hn : isNum (Lib.trimSuffix x [100]) with
    | true =>
      have e : lump2 false (x :: ws) = .got (numV (Lib.trimSuffix x [100])) ws := by cases ws <;> simp [lump2, isD, hs, hn]
      rw [e]
      exact c155_od r x ws last nx w h hx hl hs hn hf
    | false =>
      have hd : isD x = false := by simp [isD, hs, hn]
      cases ws with
      | nil => rw [show lump2 false [x] = .got 1 [x] by simp [lump2, hd]]; exact c155_omone r x last nx w h hx hs hn hf
      | cons y ws => exact lump_o2 r x y ws last nx w h hd (fun hk => c155_omnotnum r x y ws last nx w h hx hs hn (by simp at hl; omega) hk hf) (fun hk hy => c155_omday r x y ws last nx w h hx hs hn (by simp at hl; omega) hk hy hf) (fun hk hy hz => c155_omdays r x y ws last nx w h hx hs hn (by simp at hl; omega) hk hy hz hf) (fun hk hy hz => c155_omneither r x y ws last nx w h hx hs hn (by simp at hl; omega) hk hy hz hf)
  | false =>
    have hd : isD x = false := by simp [isD, hs]
    cases ws with
    | nil => rw [show lump2 false [x] = .got 1 [x] by simp [lump2, hd]]; exact c155_onone r x last nx w h hx hs hf
    | cons y ws => exact lump_o2 r x y ws last nx w h hd (fun hk => c155_onnotnum r x y ws last nx w h hx hs (by simp at hl; omega) hk hf) (fun hk hy => c155_onday r x y ws last nx w h hx hs (by simp at hl; omega) hk hy hf) (fun hk hy hz => c155_ondays r x y ws last nx w h hx hs (by simp at hl; omega) hk hy hz hf) (fun hk hy hz => c155_onneither r x y ws last nx w h hx hs (by simp at hl; omega) hk hy hz hf)
theorem lump_w2 (r : Nat) (x y : List UInt8) (ws : List (List UInt8)) (last : Card) (nx : Bool) (w : World) (h : Reader w r (forW :: x :: y :: ws) last nx) (hd : isD x = false)
    (h1 : isNum x = false → Calls Tryz.prog 155 #[.pointer (some ⟨r, 0, none⟩)] w fun e w' => leEnd r last nx w (.stop) e w') (h2 : isNum x = true → (y == [100, 97, 121]) = true → Calls Tryz.prog 155 #[.pointer (some ⟨r, 0, none⟩)] w fun e w' => leEnd r last nx w (.got (numV x) ws) e w')
    (h3 : isNum x = true → (y == [100, 97, 121]) = false → (y == [100, 97, 121, 115]) = true → Calls Tryz.prog 155 #[.pointer (some ⟨r, 0, none⟩)] w fun e w' => leEnd r last nx w (.got (numV x) ws) e w') (h4 : isNum x = true → (y == [100, 97, 121]) = false → (y == [100, 97, 121, 115]) = false → Calls Tryz.prog 155 #[.pointer (some ⟨r, 0, none⟩)] w fun e w' => leEnd r last nx w (.stop) e w') :
    Calls Tryz.prog 155 #[.pointer (some ⟨r, 0, none⟩)] w fun e w' => leEnd r last nx w (lump2 true (x :: y :: ws)) e w' := by
  cases hk : isNum x with
  | false => rw [show lump2 true (x :: y :: ws) = .stop by simp [lump2, hd, hk]]; exact h1 hk
  | true =>
    by_cases hy : y = dayW
    · rw [show lump2 true (x :: y :: ws) = .got (numV x) ws by simp [lump2, hd, hk, hy]]
      exact h2 hk (by rw [hy]; rfl)
    · by_cases hz : y = daysW
      · rw [show lump2 true (x :: y :: ws) = .got (numV x) ws by simp [lump2, hd, hk, hz]]
        exact h3 hk (by rw [hz]; rfl) (by rw [hz]; rfl)
      · rw [show lump2 true (x :: y :: ws) = .stop by simp [lump2, hd, hk, hy, hz]]
        exact h4 hk (by simpa [dayW] using hy) (by simpa [daysW] using hz)
theorem lump_w (r : Nat) (x : List UInt8) (ws : List (List UInt8)) (last : Card) (nx : Bool) (w : World) (h : Reader w r (forW :: x :: ws) last nx) (hx : x.length ≤ 200) (hl : ws.length ≤ 197) : Calls Tryz.prog 155 #[.pointer (some ⟨r, 0, none⟩)] w fun e w' => leEnd r last nx w (lump2 true (x :: ws)) e w' := by
  cases hs : Lib.hasSuffix x [100] with
  | true =>
    cases hn : isNum (Lib.trimSuffix x [100]) with
    | true =>
      have e : lump2 true (x :: ws) = .got (numV (Lib.trimSuffix x [100])) ws := by cases ws <;> simp [lump2, isD, hs, hn]
      rw [e]
      exact c155_wd r x ws last nx w h hx hl hs hn
    | false =>
      have hd : isD x = false := by simp [isD, hs, hn]
      cases ws with
      | nil => rw [show lump2 true [x] = .stop by simp [lump2, hd]]; exact c155_wmone r x last nx w h hx hs hn
      | cons y ws => exact lump_w2 r x y ws last nx w h hd (fun hk => c155_wmnotnum r x y ws last nx w h hx hs hn (by simp at hl; omega) hk) (fun hk hy => c155_wmday r x y ws last nx w h hx hs hn (by simp at hl; omega) hk hy) (fun hk hy hz => c155_wmdays r x y ws last nx w h hx hs hn (by simp at hl; omega) hk hy hz) (fun hk hy hz => c155_wmneither r x y ws last nx w h hx hs hn (by simp at hl; omega) hk hy hz)
  | false =>
    have hd : isD x = false := by simp [isD, hs]
    cases ws with
    | nil => rw [show lump2 true [x] = .stop by simp [lump2, hd]]; exact c155_wnone r x last nx w h hx hs
    | cons y ws => exact lump_w2 r x y ws last nx w h hd (fun hk => c155_wnnotnum r x y ws last nx w h hx hs (by simp at hl; omega) hk) (fun hk hy => c155_wnday r x y ws last nx w h hx hs (by simp at hl; omega) hk hy) (fun hk hy hz => c155_wndays r x y ws last nx w h hx hs (by simp at hl; omega) hk hy hz) (fun hk hy hz => c155_wnneither r x y ws last nx w h hx hs (by simp at hl; omega) hk hy hz)
theorem c155 (r : Nat) (ws : List (List UInt8)) (last : Card) (nx : Bool) (w : World) (h : Reader w r ws last nx) (hl : ws.length ≤ 198) (hws : ∀ x ∈ ws, x.length ≤ 200) : Calls Tryz.prog 155 #[.pointer (some ⟨r, 0, none⟩)] w fun e w' => leEnd r last nx w (lumpW ws) e w' := by
  cases ws with
  | nil => exact c155_nil r last nx w h
  | cons x ws =>
    by_cases hf : x = forW
    · subst hf
      rw [show lumpW (forW :: ws) = lump2 true ws by simp [lumpW]]
      cases ws with
      | nil => exact c155_wnil r last nx w h
      | cons y ws => exact lump_w r y ws last nx w h (hws y (by simp)) (by simp at hl; omega)
    · rw [show lumpW (x :: ws) = lump2 false (x :: ws) by simp [lumpW, hf]]
      exact lump_o r x ws last nx w h (hws x (by simp)) (by simp at hl; omega) (by simpa [forW] using hf)
end Go.Proofs.YthifeoebefbalaaGreatDoor
