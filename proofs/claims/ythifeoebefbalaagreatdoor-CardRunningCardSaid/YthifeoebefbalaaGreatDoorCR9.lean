/- Parts: Z10, Z11. -/
import Derived.Test.YthifeoebefbalaaGreatDoorCR8
import Derived.StillTailTactics
import Derived.Outline
import Derived.Test.YthifeoebefbalaaGreatDoorCR3
import Derived.Test.YthifeoebefbalaaGreatDoorCR5
import Derived.IntWalk
import Derived.Test.YthifeoebefbalaaGreatDoorCR2
import Derived.Test.YthifeoebefbalaaGreatDoorCR4
import Derived.Test.YthifeoebefbalaaGreatDoorCR6
import Derived.Test.YthifeoebefbalaaGreatDoorCR7
set_option linter.unusedVariables false
set_option linter.unusedSimpArgs false
set_option linter.unnecessarySimpa false
namespace Go.Proofs.YthifeoebefbalaaGreatDoor
open Go.RowKit

theorem CSt.start {w : World} {r : Nat} {ws : List (List UInt8)} {last : Card} (h : Reader w r ws last false) :
    CSt w ((w.alloc (.cells #[.int .i64 0, .int .i64 0, .int .i64 0, .int .i64 0, .int .i64 0, .int .i64 0] 24)).alloc (.cells #[.int .i64 0, .int .i64 0, .int .i64 0, .int .i64 0, .int .i64 0, .int .i64 0] 24)) r (w.heap.size + 1) [(w.heap.size, cellsOf zcard)] ws last false zcard := by
  have hrl : r < w.heap.size := by obtain ⟨v, h1, -⟩ := h; exact (Array.getElem?_eq_some_iff.1 h1).1
  have hb : Below w.heap.size w ((w.alloc (.cells #[.int .i64 0, .int .i64 0, .int .i64 0, .int .i64 0, .int .i64 0, .int .i64 0] 24)).alloc (.cells #[.int .i64 0, .int .i64 0, .int .i64 0, .int .i64 0, .int .i64 0, .int .i64 0] 24)) := xa (xa (xr _) _) _
  have h1 := World.alloc_heap_new (w.alloc (.cells #[.int .i64 0, .int .i64 0, .int .i64 0, .int .i64 0, .int .i64 0, .int .i64 0] 24)) (.cells #[.int .i64 0, .int .i64 0, .int .i64 0, .int .i64 0, .int .i64 0, .int .i64 0] 24 (0, 0))
  have h2 := World.alloc_heap_new w (.cells #[.int .i64 0, .int .i64 0, .int .i64 0, .int .i64 0, .int .i64 0, .int .i64 0] 24 (0, 0))
  refine ⟨h.grown hb, Grown.by hb _, by simpa [cellsOf, zcard] using h1, hrl, by omega, fun p hp => ?_⟩
  rcases List.mem_singleton.1 hp with rfl
  refine ⟨?_, by simp only; omega, by simp only; omega⟩
  rw [Below.heap_alloc _ _ w.heap.size (by simp)]
  exact h2

theorem cells_dt {w : World} {b : Nat} {y m d : Int} (h : w.heap[b]? = some (.cells #[.int .i64 y, .int .i64 m, .int .i64 d] 41 (0, 0))) :
    w.cell? ⟨b, 0, none⟩ = some (.int .i64 y) ∧ w.cell? ⟨b, 1, none⟩ = some (.int .i64 m) ∧ w.cell? ⟨b, 2, none⟩ = some (.int .i64 d) ∧ b < w.heap.size :=
  ⟨by simp [World.cell?, h], by simp [World.cell?, h], by simp [World.cell?, h], (Array.getElem?_eq_some_iff.1 h).1⟩
theorem reader_da {w : World} {r : Nat} {ws : List (List UInt8)} {last : Card} {nx : Bool} (h : Reader w r ws last nx) : w.cell? ⟨r, 2, none⟩ = some (.int .i64 last.da) ∧ w.cell? ⟨r, 7, none⟩ = some (.bool nx) ∧ r < w.heap.size := by
  obtain ⟨v, h1, -⟩ := h
  obtain ⟨-, -, q2, q7, -, qL⟩ := reader_cells h1
  exact ⟨q2, q7, qL⟩
/-- A card stored whole. -/
theorem store6 {X : World} {b : Nat} {c0 : Card} (h : X.heap[b]? = some (cellsOf c0)) (v0 v1 v2 v3 v4 v5 : Int) :
    ∃ Y, (((((X.setCell ⟨b, 0, none⟩ (.int .i64 v0)).setCell ⟨b, 1, none⟩ (.int .i64 v1)).setCell ⟨b, 2, none⟩ (.int .i64 v2)).setCell ⟨b, 3, none⟩ (.int .i64 v3)).setCell ⟨b, 4, none⟩ (.int .i64 v4)).setCell ⟨b, 5, none⟩ (.int .i64 v5) = Y ∧
      Y.heap[b]? = some (cellsOf ⟨v0, v1, v2, v3, v4, v5⟩) ∧ ∀ (W : World) (r : Nat), W.grownBy X (some r) → W.heap.size ≤ b → W.grownBy Y (some r) := by
  have h0 := cells_set h 0 (.int .i64 v0)
  have h1 := cells_set h0 1 (.int .i64 v1)
  have h2 := cells_set h1 2 (.int .i64 v2)
  have h3 := cells_set h2 3 (.int .i64 v3)
  have h4 := cells_set h3 4 (.int .i64 v4)
  have h5 := cells_set h4 5 (.int .i64 v5)
  exact ⟨_, rfl, by rw [h5]; rfl, fun W r hg hb => grownBy_new (grownBy_new (grownBy_new (grownBy_new (grownBy_new (grownBy_new hg hb _) hb _) hb _) hb _) hb _) hb _⟩
set_option maxRecDepth 100000 in
set_option maxHeartbeats 4000000 in
theorem c117_dstop (r : Nat) (hr0 : 0 < r) (x y : List UInt8) (ws : List (List UInt8)) (last : Card) (w : World) (hc : Cell0 w) (h : Reader w r (x :: y :: ws) last false) (hl : ws.length ≤ 198) (hx : x.length ≤ 200) (hy : y.length ≤ 200) (hyne : y ≠ []) (hws : ∀ z ∈ ws, z.length ≤ 200)
    (st : Int) (hs : stationO x last = some st) (hd : dateW y ws last = .stop) :
    Calls Tryz.prog 117 #[.pointer (some ⟨r, 0, none⟩)] w fun e w' => rdEnd (.form) e ∧ w.grownBy w' (some r) := by
  have st0 := CSt.start h
  have H153 := Lib.hid (st0.station (by simp; omega) hx)
  have HS := Lib.hid hs
  have HD := Lib.hid hd
  have HC := Lib.hid hc
  clear hs hd h st0 hc
  go_enter Tryz.func117, Tryz.ntmps117
  go_wp2_with (first
    | (go_at_call 153; refine H153.out.mono ?_; rw [HS.out]; rintro e X1 ⟨he, st1⟩; obtain rfl : e = .returned (.int .i64 st) := he; obtain ⟨g0, g1, g2, g3, g4, g5, gF, gL⟩ := cellsOf_at st1.bl)
    | (go_at_call 154; refine ((st1.set_st st).date HC.out hr0 (by omega) hy hyne hws).mono ?_; rw [HD.out]; rintro e X2 ⟨he, hgX⟩; obtain rfl : e = .panicked [unread] := he))
  exact ⟨rfl, rfl, hgX⟩
set_option maxRecDepth 100000 in
set_option maxHeartbeats 4000000 in
theorem c117_d_lstop (r : Nat) (hr0 : 0 < r) (x y : List UInt8) (ws : List (List UInt8)) (last : Card) (w : World) (hc : Cell0 w) (h : Reader w r (x :: y :: ws) last false) (hl : ws.length ≤ 198) (hx : x.length ≤ 200) (hy : y.length ≤ 200) (hyne : y ≠ []) (hws : ∀ z ∈ ws, z.length ≤ 200)
    (st : Int) (hs : stationO x last = some st)
    (d : Dt) (ws2 : List (List UInt8)) (hd : dateW y ws last = .date d ws2) (hl2 : ws2.length ≤ 198) (hws2 : ∀ z ∈ ws2, z.length ≤ 200) (hL : lumpW ws2 = .stop) :
    Calls Tryz.prog 117 #[.pointer (some ⟨r, 0, none⟩)] w fun e w' => rdEnd (.form) e ∧ w.grownBy w' (some r) := by
  have st0 := CSt.start h
  have H153 := Lib.hid (st0.station (by simp; omega) hx)
  have HS := Lib.hid hs
  have HD := Lib.hid hd
  have HC := Lib.hid hc
  clear hs hd h st0 hc
  have HL := Lib.hid hL
  clear hL
  obtain ⟨dy, dm, dd⟩ := d
  go_enter Tryz.func117, Tryz.ntmps117
  go_wp2_with (first
    | (go_at_call 153; refine H153.out.mono ?_; rw [HS.out]; rintro e X1 ⟨he, st1⟩; obtain rfl : e = .returned (.int .i64 st) := he; obtain ⟨g0, g1, g2, g3, g4, g5, gF, gL⟩ := cellsOf_at st1.bl)
    | (go_at_call 154; refine ((st1.set_st st).date HC.out hr0 (by omega) hy hyne hws).mono ?_; rw [HD.out]; rintro e X2 ⟨he, st2⟩; obtain rfl : e = .returned (dtv ⟨dy, dm, dd⟩) := he; unfold dtv)
    | (go_at_call 155; refine ((st2.add _).lump (by omega) hws2).mono ?_; rw [HL.out]; rintro e X3 ⟨he, hgX⟩; obtain rfl : e = .panicked [unread] := he))
  exact ⟨rfl, rfl, hgX⟩
set_option maxRecDepth 100000 in
set_option maxHeartbeats 4000000 in
theorem c117_n_lstop (r : Nat) (hr0 : 0 < r) (x y : List UInt8) (ws : List (List UInt8)) (last : Card) (w : World) (hc : Cell0 w) (h : Reader w r (x :: y :: ws) last false) (hl : ws.length ≤ 198) (hx : x.length ≤ 200) (hy : y.length ≤ 200) (hyne : y ≠ []) (hws : ∀ z ∈ ws, z.length ≤ 200)
    (st : Int) (hs : stationO x last = some st)
    (ws2 : List (List UInt8)) (hd : dateW y ws last = .next ws2) (hl2 : ws2.length ≤ 198) (hws2 : ∀ z ∈ ws2, z.length ≤ 200) (hL : lumpW ws2 = .stop) :
    Calls Tryz.prog 117 #[.pointer (some ⟨r, 0, none⟩)] w fun e w' => rdEnd (.form) e ∧ w.grownBy w' (some r) := by
  have st0 := CSt.start h
  have H153 := Lib.hid (st0.station (by simp; omega) hx)
  have HS := Lib.hid hs
  have HD := Lib.hid hd
  have HC := Lib.hid hc
  clear hs hd h st0 hc
  have HL := Lib.hid hL
  clear hL
  go_enter Tryz.func117, Tryz.ntmps117
  go_wp2_with (first
    | (go_at_call 153; refine H153.out.mono ?_; rw [HS.out]; rintro e X1 ⟨he, st1⟩; obtain rfl : e = .returned (.int .i64 st) := he; obtain ⟨g0, g1, g2, g3, g4, g5, gF, gL⟩ := cellsOf_at st1.bl)
    | (go_at_call 154; refine ((st1.set_st st).date HC.out hr0 (by omega) hy hyne hws).mono ?_; rw [HD.out]; rintro e X2 ⟨he, st2⟩; obtain rfl : e = .returned (dtv ⟨0, 0, 0⟩) := he; unfold dtv)
    | (go_at_call 155; refine ((st2.add _).lump (by omega) hws2).mono ?_; rw [HL.out]; rintro e X3 ⟨he, hgX⟩; obtain rfl : e = .panicked [unread] := he))
  exact ⟨rfl, rfl, hgX⟩
set_option maxRecDepth 100000 in
set_option maxHeartbeats 4000000 in
theorem c117_d_astop (r : Nat) (hr0 : 0 < r) (x y : List UInt8) (ws : List (List UInt8)) (last : Card) (w : World) (hc : Cell0 w) (h : Reader w r (x :: y :: ws) last false) (hl : ws.length ≤ 198) (hx : x.length ≤ 200) (hy : y.length ≤ 200) (hyne : y ≠ []) (hws : ∀ z ∈ ws, z.length ≤ 200)
    (st : Int) (hs : stationO x last = some st)
    (d : Dt) (ws2 : List (List UInt8)) (hd : dateW y ws last = .date d ws2) (hl2 : ws2.length ≤ 198) (hws2 : ∀ z ∈ ws2, z.length ≤ 200)
    (n : Int) (ws3 : List (List UInt8)) (hL : lumpW ws2 = .got n ws3) (hl3 : ws3.length ≤ 198) (hws3 : ∀ z ∈ ws3, z.length ≤ 200) (hA : amtW ws3 = .stop) :
    Calls Tryz.prog 117 #[.pointer (some ⟨r, 0, none⟩)] w fun e w' => rdEnd (.form) e ∧ w.grownBy w' (some r) := by
  have st0 := CSt.start h
  have H153 := Lib.hid (st0.station (by simp; omega) hx)
  have HS := Lib.hid hs
  have HD := Lib.hid hd
  have HC := Lib.hid hc
  clear hs hd h st0 hc
  have HL := Lib.hid hL
  clear hL
  have HA := Lib.hid hA
  clear hA
  obtain ⟨dy, dm, dd⟩ := d
  go_enter Tryz.func117, Tryz.ntmps117
  go_wp2_with (first
    | (go_at_call 153; refine H153.out.mono ?_; rw [HS.out]; rintro e X1 ⟨he, st1⟩; obtain rfl : e = .returned (.int .i64 st) := he; obtain ⟨g0, g1, g2, g3, g4, g5, gF, gL⟩ := cellsOf_at st1.bl)
    | (go_at_call 154; refine ((st1.set_st st).date HC.out hr0 (by omega) hy hyne hws).mono ?_; rw [HD.out]; rintro e X2 ⟨he, st2⟩; obtain rfl : e = .returned (dtv ⟨dy, dm, dd⟩) := he; unfold dtv)
    | (go_at_call 155; refine ((st2.add _).lump (by omega) hws2).mono ?_; rw [HL.out]; rintro e X3 ⟨he, st3⟩; obtain rfl : e = .returned (.int .i64 n) := he; obtain ⟨k0, k1, k2, k3, k4, k5, kF, kL⟩ := cellsOf_at st3.bl)
    | (go_at_call 156; refine (c156 w _ r _ _ ws3 last false _ (st3.set_dy n) (by omega) hws3 rfl rfl).mono ?_; rw [HA.out]; rintro e X4 ⟨he, hgX⟩; obtain rfl : e = .panicked [unread] := he))
  exact ⟨rfl, rfl, hgX⟩
set_option maxRecDepth 100000 in
set_option maxHeartbeats 4000000 in
theorem c117_n_astop (r : Nat) (hr0 : 0 < r) (x y : List UInt8) (ws : List (List UInt8)) (last : Card) (w : World) (hc : Cell0 w) (h : Reader w r (x :: y :: ws) last false) (hl : ws.length ≤ 198) (hx : x.length ≤ 200) (hy : y.length ≤ 200) (hyne : y ≠ []) (hws : ∀ z ∈ ws, z.length ≤ 200)
    (st : Int) (hs : stationO x last = some st)
    (ws2 : List (List UInt8)) (hd : dateW y ws last = .next ws2) (hl2 : ws2.length ≤ 198) (hws2 : ∀ z ∈ ws2, z.length ≤ 200)
    (n : Int) (ws3 : List (List UInt8)) (hL : lumpW ws2 = .got n ws3) (hl3 : ws3.length ≤ 198) (hws3 : ∀ z ∈ ws3, z.length ≤ 200) (hA : amtW ws3 = .stop) :
    Calls Tryz.prog 117 #[.pointer (some ⟨r, 0, none⟩)] w fun e w' => rdEnd (.form) e ∧ w.grownBy w' (some r) := by
  have st0 := CSt.start h
  have H153 := Lib.hid (st0.station (by simp; omega) hx)
  have HS := Lib.hid hs
  have HD := Lib.hid hd
  have HC := Lib.hid hc
  clear hs hd h st0 hc
  have HL := Lib.hid hL
  clear hL
  have HA := Lib.hid hA
  clear hA
  go_enter Tryz.func117, Tryz.ntmps117
  go_wp2_with (first
    | (go_at_call 153; refine H153.out.mono ?_; rw [HS.out]; rintro e X1 ⟨he, st1⟩; obtain rfl : e = .returned (.int .i64 st) := he; obtain ⟨g0, g1, g2, g3, g4, g5, gF, gL⟩ := cellsOf_at st1.bl)
    | (go_at_call 154; refine ((st1.set_st st).date HC.out hr0 (by omega) hy hyne hws).mono ?_; rw [HD.out]; rintro e X2 ⟨he, st2⟩; obtain rfl : e = .returned (dtv ⟨0, 0, 0⟩) := he; unfold dtv)
    | (go_at_call 155; refine ((st2.add _).lump (by omega) hws2).mono ?_; rw [HL.out]; rintro e X3 ⟨he, st3⟩; obtain rfl : e = .returned (.int .i64 n) := he; obtain ⟨k0, k1, k2, k3, k4, k5, kF, kL⟩ := cellsOf_at st3.bl)
    | (go_at_call 156; refine (c156 w _ r _ _ ws3 last true _ (st3.set_dy n) (by omega) hws3 rfl rfl).mono ?_; rw [HA.out]; rintro e X4 ⟨he, hgX⟩; obtain rfl : e = .panicked [unread] := he))
  exact ⟨rfl, rfl, hgX⟩
set_option maxRecDepth 100000 in
set_option maxHeartbeats 4000000 in
theorem c117_d_left (r : Nat) (hr0 : 0 < r) (x y : List UInt8) (ws : List (List UInt8)) (last : Card) (w : World) (hc : Cell0 w) (h : Reader w r (x :: y :: ws) last false) (hl : ws.length ≤ 198) (hx : x.length ≤ 200) (hy : y.length ≤ 200) (hyne : y ≠ []) (hws : ∀ z ∈ ws, z.length ≤ 200)
    (st : Int) (hs : stationO x last = some st)
    (d : Dt) (ws2 : List (List UInt8)) (hd : dateW y ws last = .date d ws2) (hl2 : ws2.length ≤ 198) (hws2 : ∀ z ∈ ws2, z.length ≤ 200)
    (n : Int) (ws3 : List (List UInt8)) (hL : lumpW ws2 = .got n ws3) (hl3 : ws3.length ≤ 198) (hws3 : ∀ z ∈ ws3, z.length ≤ 200) (k a f : Int) (x4 : List UInt8) (ws4 : List (List UInt8)) (hA : amtW ws3 = .got k a f (x4 :: ws4)) :
    Calls Tryz.prog 117 #[.pointer (some ⟨r, 0, none⟩)] w fun e w' => rdEnd (.form) e ∧ w.grownBy w' (some r) := by
  have st0 := CSt.start h
  have H153 := Lib.hid (st0.station (by simp; omega) hx)
  have HS := Lib.hid hs
  have HD := Lib.hid hd
  have HC := Lib.hid hc
  clear hs hd h st0 hc
  have HL := Lib.hid hL
  clear hL
  have HA := Lib.hid hA
  clear hA
  obtain ⟨dy, dm, dd⟩ := d
  go_enter Tryz.func117, Tryz.ntmps117
  go_wp2_with (first
    | (go_at_call 153; refine H153.out.mono ?_; rw [HS.out]; rintro e X1 ⟨he, st1⟩; obtain rfl : e = .returned (.int .i64 st) := he; obtain ⟨g0, g1, g2, g3, g4, g5, gF, gL⟩ := cellsOf_at st1.bl)
    | (go_at_call 154; refine ((st1.set_st st).date HC.out hr0 (by omega) hy hyne hws).mono ?_; rw [HD.out]; rintro e X2 ⟨he, st2⟩; obtain rfl : e = .returned (dtv ⟨dy, dm, dd⟩) := he; unfold dtv)
    | (go_at_call 155; refine ((st2.add _).lump (by omega) hws2).mono ?_; rw [HL.out]; rintro e X3 ⟨he, st3⟩; obtain rfl : e = .returned (.int .i64 n) := he; obtain ⟨k0, k1, k2, k3, k4, k5, kF, kL⟩ := cellsOf_at st3.bl)
    | (go_at_call 156; refine (c156 w _ r _ _ ws3 last false _ (st3.set_dy n) (by omega) hws3 rfl rfl).mono ?_; rw [HA.out]; rintro e X4 ⟨he, st4⟩; obtain rfl : e = .returned (.tuple #[]) := he; obtain ⟨m0, m1, m2, m3, m4, m5, mF, mL⟩ := cellsOf_at st4.bl; obtain ⟨q2, q7, -⟩ := reader_da st4.rd; obtain ⟨⟨rb, ro, rc, q0, -⟩, qL⟩ := reader_some st4.rd; obtain ⟨u0, u1, u2, uL⟩ := cells_dt (st4.dl _ (List.mem_cons_self ..)).1; obtain ⟨v0, v1, v2, v3, v4, v5, vF, vL⟩ := cellsOf_at (st4.dl (w.heap.size, cellsOf zcard) (by simp)).1; have hsz := st2.lt))
  exact ⟨rfl, rfl, st4.gr⟩
set_option maxRecDepth 100000 in
set_option maxHeartbeats 4000000 in
theorem c117_n_left (r : Nat) (hr0 : 0 < r) (x y : List UInt8) (ws : List (List UInt8)) (last : Card) (w : World) (hc : Cell0 w) (h : Reader w r (x :: y :: ws) last false) (hl : ws.length ≤ 198) (hx : x.length ≤ 200) (hy : y.length ≤ 200) (hyne : y ≠ []) (hws : ∀ z ∈ ws, z.length ≤ 200)
    (st : Int) (hs : stationO x last = some st)
    (ws2 : List (List UInt8)) (hd : dateW y ws last = .next ws2) (hl2 : ws2.length ≤ 198) (hws2 : ∀ z ∈ ws2, z.length ≤ 200)
    (n : Int) (ws3 : List (List UInt8)) (hL : lumpW ws2 = .got n ws3) (hl3 : ws3.length ≤ 198) (hws3 : ∀ z ∈ ws3, z.length ≤ 200) (k a f : Int) (x4 : List UInt8) (ws4 : List (List UInt8)) (hA : amtW ws3 = .got k a f (x4 :: ws4)) :
    Calls Tryz.prog 117 #[.pointer (some ⟨r, 0, none⟩)] w fun e w' => rdEnd (.form) e ∧ w.grownBy w' (some r) := by
  have st0 := CSt.start h
  have H153 := Lib.hid (st0.station (by simp; omega) hx)
  have HS := Lib.hid hs
  have HD := Lib.hid hd
  have HC := Lib.hid hc
  clear hs hd h st0 hc
  have HL := Lib.hid hL
  clear hL
  have HA := Lib.hid hA
  clear hA
  go_enter Tryz.func117, Tryz.ntmps117
  go_wp2_with (first
    | (go_at_call 153; refine H153.out.mono ?_; rw [HS.out]; rintro e X1 ⟨he, st1⟩; obtain rfl : e = .returned (.int .i64 st) := he; obtain ⟨g0, g1, g2, g3, g4, g5, gF, gL⟩ := cellsOf_at st1.bl)
    | (go_at_call 154; refine ((st1.set_st st).date HC.out hr0 (by omega) hy hyne hws).mono ?_; rw [HD.out]; rintro e X2 ⟨he, st2⟩; obtain rfl : e = .returned (dtv ⟨0, 0, 0⟩) := he; unfold dtv)
    | (go_at_call 155; refine ((st2.add _).lump (by omega) hws2).mono ?_; rw [HL.out]; rintro e X3 ⟨he, st3⟩; obtain rfl : e = .returned (.int .i64 n) := he; obtain ⟨k0, k1, k2, k3, k4, k5, kF, kL⟩ := cellsOf_at st3.bl)
    | (go_at_call 156; refine (c156 w _ r _ _ ws3 last true _ (st3.set_dy n) (by omega) hws3 rfl rfl).mono ?_; rw [HA.out]; rintro e X4 ⟨he, st4⟩; obtain rfl : e = .returned (.tuple #[]) := he; obtain ⟨m0, m1, m2, m3, m4, m5, mF, mL⟩ := cellsOf_at st4.bl; obtain ⟨q2, q7, -⟩ := reader_da st4.rd; obtain ⟨⟨rb, ro, rc, q0, -⟩, qL⟩ := reader_some st4.rd; obtain ⟨u0, u1, u2, uL⟩ := cells_dt (st4.dl _ (List.mem_cons_self ..)).1; obtain ⟨v0, v1, v2, v3, v4, v5, vF, vL⟩ := cellsOf_at (st4.dl (w.heap.size, cellsOf zcard) (by simp)).1; have hsz := st2.lt))
  exact ⟨rfl, rfl, st4.gr⟩
end Go.Proofs.YthifeoebefbalaaGreatDoor

namespace Go.Proofs.YthifeoebefbalaaGreatDoor
open Go.RowKit

set_option maxRecDepth 100000 in
set_option maxHeartbeats 4000000 in
theorem c117_d_yes (r : Nat) (hr0 : 0 < r) (x y : List UInt8) (ws : List (List UInt8)) (last : Card) (w : World) (hc : Cell0 w) (h : Reader w r (x :: y :: ws) last false) (hl : ws.length ≤ 198) (hx : x.length ≤ 200) (hy : y.length ≤ 200) (hyne : y ≠ []) (hws : ∀ z ∈ ws, z.length ≤ 200)
    (st : Int) (hs : stationO x last = some st)
    (dy dm dd : Int) (ws2 : List (List UInt8)) (hd : dateW y ws last = .date ⟨dy, dm, dd⟩ ws2) (hl2 : ws2.length ≤ 198) (hws2 : ∀ z ∈ ws2, z.length ≤ 200)
    (n : Int) (ws3 : List (List UInt8)) (hL : lumpW ws2 = .got n ws3) (hl3 : ws3.length ≤ 198) (hws3 : ∀ z ∈ ws3, z.length ≤ 200) (k a f : Int) (hA : amtW ws3 = .got k a f []) (da : Int) (hN : dnum dy dm dd = some da) (hI : isCard ⟨st, da, n, k, a, f⟩ = true) :
    Calls Tryz.prog 117 #[.pointer (some ⟨r, 0, none⟩)] w fun e w' => rdEnd (.got ⟨st, da, n, k, a, f⟩) e ∧ w.grownBy w' (some r) := by
  have st0 := CSt.start h
  have H153 := Lib.hid (st0.station (by simp; omega) hx)
  have HS := Lib.hid hs
  have HD := Lib.hid hd
  have HC := Lib.hid hc
  clear hs hd h st0 hc
  have HL := Lib.hid hL
  clear hL
  have HA := Lib.hid hA
  clear hA
  have HN := Lib.hid hN
  clear hN
  have HI := Lib.hid hI
  clear hI
  go_enter Tryz.func117, Tryz.ntmps117
  go_wp2_with (first
    | (go_at_call 153; refine H153.out.mono ?_; rw [HS.out]; rintro e X1 ⟨he, st1⟩; obtain rfl : e = .returned (.int .i64 st) := he; obtain ⟨g0, g1, g2, g3, g4, g5, gF, gL⟩ := cellsOf_at st1.bl)
    | (go_at_call 154; refine ((st1.set_st st).date HC.out hr0 (by omega) hy hyne hws).mono ?_; rw [HD.out]; rintro e X2 ⟨he, st2⟩; obtain rfl : e = .returned (dtv ⟨dy, dm, dd⟩) := he; unfold dtv)
    | (go_at_call 155; refine ((st2.add _).lump (by omega) hws2).mono ?_; rw [HL.out]; rintro e X3 ⟨he, st3⟩; obtain rfl : e = .returned (.int .i64 n) := he; obtain ⟨k0, k1, k2, k3, k4, k5, kF, kL⟩ := cellsOf_at st3.bl)
    | (go_at_call 156; refine (c156 w _ r _ _ ws3 last false _ (st3.set_dy n) (by omega) hws3 rfl rfl).mono ?_; rw [HA.out]; rintro e X4 ⟨he, st4⟩; obtain rfl : e = .returned (.tuple #[]) := he; obtain ⟨m0, m1, m2, m3, m4, m5, mF, mL⟩ := cellsOf_at st4.bl; obtain ⟨q2, q7, -⟩ := reader_da st4.rd; obtain ⟨⟨ra, rc, q0⟩, qL⟩ := reader_none st4.rd; obtain ⟨u0, u1, u2, uL⟩ := cells_dt (st4.dl _ (List.mem_cons_self ..)).1; obtain ⟨v0, v1, v2, v3, v4, v5, vF, vL⟩ := cellsOf_at (st4.dl (w.heap.size, cellsOf zcard) (by simp)).1; have hsz := st2.lt))
  clear g0 g1 g2 g3 g4 g5 gF gL k0 k1 k2 k3 k4 k5 kF kL H153
  go_still_tail 9, (by kernel_rfl)
  go_wp2_with (first
    | (go_at_call 157; refine (c157 _ _ _ _).mono ?_; rw [HN.out]; rintro e X5 ⟨rfl, hb5⟩; simp only [errno, Option.isSome_some, Option.isSome_none, Bool.false_eq_true, if_false, if_true, Option.getD_some, Option.getD_none]; have st5 := ((st4.set_da (wrap64 (last.da + n))).grown (xd (xr _))).grown hb5; obtain ⟨j0, j1, j2, j3, j4, j5, jF, jL⟩ := cellsOf_at st5.bl; obtain ⟨t0, t1, t2, t3, t4, t5, tF, tL⟩ := cellsOf_at (st5.dl (w.heap.size, cellsOf zcard) (by simp)).1)
    | (go_at_call 76; refine (c76 _ _ _ _ _ _ _).mono ?_; rw [HI.out]; rintro e X6 ⟨rfl, hb6⟩; have st6 := (st5.set_da da).grown hb6; obtain ⟨i0, i1, i2, i3, i4, i5, iF, iL⟩ := cellsOf_at st6.bl; obtain ⟨s0, s1, s2, s3, s4, s5, sF, sL⟩ := cellsOf_at (st6.dl (w.heap.size, cellsOf zcard) (by simp)).1))
  obtain ⟨Y, hY, hYb, hYg⟩ := store6 (st6.dl (w.heap.size, cellsOf zcard) (by simp)).1 st da n k a f
  rw [hY]
  obtain ⟨y0, y1, y2, y3, y4, y5, yF, yL⟩ := cellsOf_at hYb
  have hg := hYg w r st6.gr (Nat.le_refl _)
  clear hY hYb hYg
  exact bodyPost_ret (v := .tuple #[cv ⟨st, da, n, k, a, f⟩, .int .i64 0]) (by simp [results, Tryz.results117, go_sem, cv, zcard, y0, y1, y2, y3, y4, y5]) rfl ⟨rfl, hg⟩
set_option maxRecDepth 100000 in
set_option maxHeartbeats 4000000 in
theorem c117_d_no (r : Nat) (hr0 : 0 < r) (x y : List UInt8) (ws : List (List UInt8)) (last : Card) (w : World) (hc : Cell0 w) (h : Reader w r (x :: y :: ws) last false) (hl : ws.length ≤ 198) (hx : x.length ≤ 200) (hy : y.length ≤ 200) (hyne : y ≠ []) (hws : ∀ z ∈ ws, z.length ≤ 200)
    (st : Int) (hs : stationO x last = some st)
    (dy dm dd : Int) (ws2 : List (List UInt8)) (hd : dateW y ws last = .date ⟨dy, dm, dd⟩ ws2) (hl2 : ws2.length ≤ 198) (hws2 : ∀ z ∈ ws2, z.length ≤ 200)
    (n : Int) (ws3 : List (List UInt8)) (hL : lumpW ws2 = .got n ws3) (hl3 : ws3.length ≤ 198) (hws3 : ∀ z ∈ ws3, z.length ≤ 200) (k a f : Int) (hA : amtW ws3 = .got k a f []) (da : Int) (hN : dnum dy dm dd = some da) (hI : isCard ⟨st, da, n, k, a, f⟩ = false) :
    Calls Tryz.prog 117 #[.pointer (some ⟨r, 0, none⟩)] w fun e w' => rdEnd (.err 3) e ∧ w.grownBy w' (some r) := by
  have st0 := CSt.start h
  have H153 := Lib.hid (st0.station (by simp; omega) hx)
  have HS := Lib.hid hs
  have HD := Lib.hid hd
  have HC := Lib.hid hc
  clear hs hd h st0 hc
  have HL := Lib.hid hL
  clear hL
  have HA := Lib.hid hA
  clear hA
  have HN := Lib.hid hN
  clear hN
  have HI := Lib.hid hI
  clear hI
  go_enter Tryz.func117, Tryz.ntmps117
  go_wp2_with (first
    | (go_at_call 153; refine H153.out.mono ?_; rw [HS.out]; rintro e X1 ⟨he, st1⟩; obtain rfl : e = .returned (.int .i64 st) := he; obtain ⟨g0, g1, g2, g3, g4, g5, gF, gL⟩ := cellsOf_at st1.bl)
    | (go_at_call 154; refine ((st1.set_st st).date HC.out hr0 (by omega) hy hyne hws).mono ?_; rw [HD.out]; rintro e X2 ⟨he, st2⟩; obtain rfl : e = .returned (dtv ⟨dy, dm, dd⟩) := he; unfold dtv)
    | (go_at_call 155; refine ((st2.add _).lump (by omega) hws2).mono ?_; rw [HL.out]; rintro e X3 ⟨he, st3⟩; obtain rfl : e = .returned (.int .i64 n) := he; obtain ⟨k0, k1, k2, k3, k4, k5, kF, kL⟩ := cellsOf_at st3.bl)
    | (go_at_call 156; refine (c156 w _ r _ _ ws3 last false _ (st3.set_dy n) (by omega) hws3 rfl rfl).mono ?_; rw [HA.out]; rintro e X4 ⟨he, st4⟩; obtain rfl : e = .returned (.tuple #[]) := he; obtain ⟨m0, m1, m2, m3, m4, m5, mF, mL⟩ := cellsOf_at st4.bl; obtain ⟨q2, q7, -⟩ := reader_da st4.rd; obtain ⟨⟨ra, rc, q0⟩, qL⟩ := reader_none st4.rd; obtain ⟨u0, u1, u2, uL⟩ := cells_dt (st4.dl _ (List.mem_cons_self ..)).1; obtain ⟨v0, v1, v2, v3, v4, v5, vF, vL⟩ := cellsOf_at (st4.dl (w.heap.size, cellsOf zcard) (by simp)).1; have hsz := st2.lt))
  clear g0 g1 g2 g3 g4 g5 gF gL k0 k1 k2 k3 k4 k5 kF kL H153
  go_still_tail 9, (by kernel_rfl)
  go_wp2_with (first
    | (go_at_call 157; refine (c157 _ _ _ _).mono ?_; rw [HN.out]; rintro e X5 ⟨rfl, hb5⟩; simp only [errno, Option.isSome_some, Option.isSome_none, Bool.false_eq_true, if_false, if_true, Option.getD_some, Option.getD_none]; have st5 := ((st4.set_da (wrap64 (last.da + n))).grown (xd (xr _))).grown hb5; obtain ⟨j0, j1, j2, j3, j4, j5, jF, jL⟩ := cellsOf_at st5.bl; obtain ⟨t0, t1, t2, t3, t4, t5, tF, tL⟩ := cellsOf_at (st5.dl (w.heap.size, cellsOf zcard) (by simp)).1)
    | (go_at_call 76; refine (c76 _ _ _ _ _ _ _).mono ?_; rw [HI.out]; rintro e X6 ⟨rfl, hb6⟩; have st6 := (st5.set_da da).grown hb6; obtain ⟨i0, i1, i2, i3, i4, i5, iF, iL⟩ := cellsOf_at st6.bl; obtain ⟨s0, s1, s2, s3, s4, s5, sF, sL⟩ := cellsOf_at (st6.dl (w.heap.size, cellsOf zcard) (by simp)).1))
  obtain ⟨Y, hY, hYb, hYg⟩ := store6 (st6.dl (w.heap.size, cellsOf zcard) (by simp)).1 0 0 0 0 0 0
  rw [hY]
  obtain ⟨y0, y1, y2, y3, y4, y5, yF, yL⟩ := cellsOf_at hYb
  have hg := hYg w r st6.gr (Nat.le_refl _)
  clear hY hYb hYg
  exact bodyPost_ret (v := .tuple #[cv zcard, .int .i64 3]) (by simp [results, Tryz.results117, go_sem, cv, zcard, y0, y1, y2, y3, y4, y5]) rfl ⟨rfl, hg⟩
set_option maxRecDepth 100000 in
set_option maxHeartbeats 4000000 in
theorem c117_d_none (r : Nat) (hr0 : 0 < r) (x y : List UInt8) (ws : List (List UInt8)) (last : Card) (w : World) (hc : Cell0 w) (h : Reader w r (x :: y :: ws) last false) (hl : ws.length ≤ 198) (hx : x.length ≤ 200) (hy : y.length ≤ 200) (hyne : y ≠ []) (hws : ∀ z ∈ ws, z.length ≤ 200)
    (st : Int) (hs : stationO x last = some st)
    (dy dm dd : Int) (ws2 : List (List UInt8)) (hd : dateW y ws last = .date ⟨dy, dm, dd⟩ ws2) (hl2 : ws2.length ≤ 198) (hws2 : ∀ z ∈ ws2, z.length ≤ 200)
    (n : Int) (ws3 : List (List UInt8)) (hL : lumpW ws2 = .got n ws3) (hl3 : ws3.length ≤ 198) (hws3 : ∀ z ∈ ws3, z.length ≤ 200) (k a f : Int) (hA : amtW ws3 = .got k a f []) (hN : dnum dy dm dd = none) :
    Calls Tryz.prog 117 #[.pointer (some ⟨r, 0, none⟩)] w fun e w' => rdEnd (.err 3) e ∧ w.grownBy w' (some r) := by
  have st0 := CSt.start h
  have H153 := Lib.hid (st0.station (by simp; omega) hx)
  have HS := Lib.hid hs
  have HD := Lib.hid hd
  have HC := Lib.hid hc
  clear hs hd h st0 hc
  have HL := Lib.hid hL
  clear hL
  have HA := Lib.hid hA
  clear hA
  have HN := Lib.hid hN
  clear hN
  go_enter Tryz.func117, Tryz.ntmps117
  go_wp2_with (first
    | (go_at_call 153; refine H153.out.mono ?_; rw [HS.out]; rintro e X1 ⟨he, st1⟩; obtain rfl : e = .returned (.int .i64 st) := he; obtain ⟨g0, g1, g2, g3, g4, g5, gF, gL⟩ := cellsOf_at st1.bl)
    | (go_at_call 154; refine ((st1.set_st st).date HC.out hr0 (by omega) hy hyne hws).mono ?_; rw [HD.out]; rintro e X2 ⟨he, st2⟩; obtain rfl : e = .returned (dtv ⟨dy, dm, dd⟩) := he; unfold dtv)
    | (go_at_call 155; refine ((st2.add _).lump (by omega) hws2).mono ?_; rw [HL.out]; rintro e X3 ⟨he, st3⟩; obtain rfl : e = .returned (.int .i64 n) := he; obtain ⟨k0, k1, k2, k3, k4, k5, kF, kL⟩ := cellsOf_at st3.bl)
    | (go_at_call 156; refine (c156 w _ r _ _ ws3 last false _ (st3.set_dy n) (by omega) hws3 rfl rfl).mono ?_; rw [HA.out]; rintro e X4 ⟨he, st4⟩; obtain rfl : e = .returned (.tuple #[]) := he; obtain ⟨m0, m1, m2, m3, m4, m5, mF, mL⟩ := cellsOf_at st4.bl; obtain ⟨q2, q7, -⟩ := reader_da st4.rd; obtain ⟨⟨ra, rc, q0⟩, qL⟩ := reader_none st4.rd; obtain ⟨u0, u1, u2, uL⟩ := cells_dt (st4.dl _ (List.mem_cons_self ..)).1; obtain ⟨v0, v1, v2, v3, v4, v5, vF, vL⟩ := cellsOf_at (st4.dl (w.heap.size, cellsOf zcard) (by simp)).1; have hsz := st2.lt))
  clear g0 g1 g2 g3 g4 g5 gF gL k0 k1 k2 k3 k4 k5 kF kL H153
  go_still_tail 9, (by kernel_rfl)
  go_wp2_with (first
    | (go_at_call 157; refine (c157 _ _ _ _).mono ?_; rw [HN.out]; rintro e X5 ⟨rfl, hb5⟩; simp only [errno, Option.isSome_some, Option.isSome_none, Bool.false_eq_true, if_false, if_true, Option.getD_some, Option.getD_none]; have st5 := ((st4.set_da (wrap64 (last.da + n))).grown (xd (xr _))).grown hb5; obtain ⟨j0, j1, j2, j3, j4, j5, jF, jL⟩ := cellsOf_at st5.bl; obtain ⟨t0, t1, t2, t3, t4, t5, tF, tL⟩ := cellsOf_at (st5.dl (w.heap.size, cellsOf zcard) (by simp)).1))
  obtain ⟨Y, hY, hYb, hYg⟩ := store6 (st5.dl (w.heap.size, cellsOf zcard) (by simp)).1 0 0 0 0 0 0
  rw [hY]
  obtain ⟨y0, y1, y2, y3, y4, y5, yF, yL⟩ := cellsOf_at hYb
  have hg := hYg w r st5.gr (Nat.le_refl _)
  clear hY hYb hYg
  exact bodyPost_ret (v := .tuple #[cv zcard, .int .i64 3]) (by simp [results, Tryz.results117, go_sem, cv, zcard, y0, y1, y2, y3, y4, y5]) rfl ⟨rfl, hg⟩
set_option maxRecDepth 100000 in
set_option maxHeartbeats 4000000 in
theorem c117_n_yes (r : Nat) (hr0 : 0 < r) (x y : List UInt8) (ws : List (List UInt8)) (last : Card) (w : World) (hc : Cell0 w) (h : Reader w r (x :: y :: ws) last false) (hl : ws.length ≤ 198) (hx : x.length ≤ 200) (hy : y.length ≤ 200) (hyne : y ≠ []) (hws : ∀ z ∈ ws, z.length ≤ 200)
    (st : Int) (hs : stationO x last = some st)
    (ws2 : List (List UInt8)) (hd : dateW y ws last = .next ws2) (hl2 : ws2.length ≤ 198) (hws2 : ∀ z ∈ ws2, z.length ≤ 200)
    (n : Int) (ws3 : List (List UInt8)) (hL : lumpW ws2 = .got n ws3) (hl3 : ws3.length ≤ 198) (hws3 : ∀ z ∈ ws3, z.length ≤ 200) (k a f : Int) (hA : amtW ws3 = .got k a f []) (hI : isCard ⟨st, (wrap64 (last.da + n)), n, k, a, f⟩ = true) :
    Calls Tryz.prog 117 #[.pointer (some ⟨r, 0, none⟩)] w fun e w' => rdEnd (.got ⟨st, (wrap64 (last.da + n)), n, k, a, f⟩) e ∧ w.grownBy w' (some r) := by
  have st0 := CSt.start h
  have H153 := Lib.hid (st0.station (by simp; omega) hx)
  have HS := Lib.hid hs
  have HD := Lib.hid hd
  have HC := Lib.hid hc
  clear hs hd h st0 hc
  have HL := Lib.hid hL
  clear hL
  have HA := Lib.hid hA
  clear hA
  have HI := Lib.hid hI
  clear hI
  go_enter Tryz.func117, Tryz.ntmps117
  go_wp2_with (first
    | (go_at_call 153; refine H153.out.mono ?_; rw [HS.out]; rintro e X1 ⟨he, st1⟩; obtain rfl : e = .returned (.int .i64 st) := he; obtain ⟨g0, g1, g2, g3, g4, g5, gF, gL⟩ := cellsOf_at st1.bl)
    | (go_at_call 154; refine ((st1.set_st st).date HC.out hr0 (by omega) hy hyne hws).mono ?_; rw [HD.out]; rintro e X2 ⟨he, st2⟩; obtain rfl : e = .returned (dtv ⟨0, 0, 0⟩) := he; unfold dtv)
    | (go_at_call 155; refine ((st2.add _).lump (by omega) hws2).mono ?_; rw [HL.out]; rintro e X3 ⟨he, st3⟩; obtain rfl : e = .returned (.int .i64 n) := he; obtain ⟨k0, k1, k2, k3, k4, k5, kF, kL⟩ := cellsOf_at st3.bl)
    | (go_at_call 156; refine (c156 w _ r _ _ ws3 last true _ (st3.set_dy n) (by omega) hws3 rfl rfl).mono ?_; rw [HA.out]; rintro e X4 ⟨he, st4⟩; obtain rfl : e = .returned (.tuple #[]) := he; obtain ⟨m0, m1, m2, m3, m4, m5, mF, mL⟩ := cellsOf_at st4.bl; obtain ⟨q2, q7, -⟩ := reader_da st4.rd; obtain ⟨⟨ra, rc, q0⟩, qL⟩ := reader_none st4.rd; obtain ⟨u0, u1, u2, uL⟩ := cells_dt (st4.dl _ (List.mem_cons_self ..)).1; obtain ⟨v0, v1, v2, v3, v4, v5, vF, vL⟩ := cellsOf_at (st4.dl (w.heap.size, cellsOf zcard) (by simp)).1; have hsz := st2.lt))
  clear g0 g1 g2 g3 g4 g5 gF gL k0 k1 k2 k3 k4 k5 kF kL H153
  go_still_tail 9, (by kernel_rfl)
  go_wp2_with (first
    | (go_at_call 76; refine (c76 _ _ _ _ _ _ _).mono ?_; rw [HI.out]; rintro e X6 ⟨rfl, hb6⟩; have st6 := ((st4.set_da (wrap64 (last.da + n))).grown (xd (xr _))).grown hb6; obtain ⟨i0, i1, i2, i3, i4, i5, iF, iL⟩ := cellsOf_at st6.bl; obtain ⟨s0, s1, s2, s3, s4, s5, sF, sL⟩ := cellsOf_at (st6.dl (w.heap.size, cellsOf zcard) (by simp)).1))
  obtain ⟨Y, hY, hYb, hYg⟩ := store6 (st6.dl (w.heap.size, cellsOf zcard) (by simp)).1 st (wrap64 (last.da + n)) n k a f
  rw [hY]
  obtain ⟨y0, y1, y2, y3, y4, y5, yF, yL⟩ := cellsOf_at hYb
  have hg := hYg w r st6.gr (Nat.le_refl _)
  clear hY hYb hYg
  exact bodyPost_ret (v := .tuple #[cv ⟨st, (wrap64 (last.da + n)), n, k, a, f⟩, .int .i64 0]) (by simp [results, Tryz.results117, go_sem, cv, zcard, y0, y1, y2, y3, y4, y5]) rfl ⟨rfl, hg⟩
set_option maxRecDepth 100000 in
set_option maxHeartbeats 4000000 in
theorem c117_n_no (r : Nat) (hr0 : 0 < r) (x y : List UInt8) (ws : List (List UInt8)) (last : Card) (w : World) (hc : Cell0 w) (h : Reader w r (x :: y :: ws) last false) (hl : ws.length ≤ 198) (hx : x.length ≤ 200) (hy : y.length ≤ 200) (hyne : y ≠ []) (hws : ∀ z ∈ ws, z.length ≤ 200)
    (st : Int) (hs : stationO x last = some st)
    (ws2 : List (List UInt8)) (hd : dateW y ws last = .next ws2) (hl2 : ws2.length ≤ 198) (hws2 : ∀ z ∈ ws2, z.length ≤ 200)
    (n : Int) (ws3 : List (List UInt8)) (hL : lumpW ws2 = .got n ws3) (hl3 : ws3.length ≤ 198) (hws3 : ∀ z ∈ ws3, z.length ≤ 200) (k a f : Int) (hA : amtW ws3 = .got k a f []) (hI : isCard ⟨st, (wrap64 (last.da + n)), n, k, a, f⟩ = false) :
    Calls Tryz.prog 117 #[.pointer (some ⟨r, 0, none⟩)] w fun e w' => rdEnd (.err 3) e ∧ w.grownBy w' (some r) := by
  have st0 := CSt.start h
  have H153 := Lib.hid (st0.station (by simp; omega) hx)
  have HS := Lib.hid hs
  have HD := Lib.hid hd
  have HC := Lib.hid hc
  clear hs hd h st0 hc
  have HL := Lib.hid hL
  clear hL
  have HA := Lib.hid hA
  clear hA
  have HI := Lib.hid hI
  clear hI
  go_enter Tryz.func117, Tryz.ntmps117
  go_wp2_with (first
    | (go_at_call 153; refine H153.out.mono ?_; rw [HS.out]; rintro e X1 ⟨he, st1⟩; obtain rfl : e = .returned (.int .i64 st) := he; obtain ⟨g0, g1, g2, g3, g4, g5, gF, gL⟩ := cellsOf_at st1.bl)
    | (go_at_call 154; refine ((st1.set_st st).date HC.out hr0 (by omega) hy hyne hws).mono ?_; rw [HD.out]; rintro e X2 ⟨he, st2⟩; obtain rfl : e = .returned (dtv ⟨0, 0, 0⟩) := he; unfold dtv)
    | (go_at_call 155; refine ((st2.add _).lump (by omega) hws2).mono ?_; rw [HL.out]; rintro e X3 ⟨he, st3⟩; obtain rfl : e = .returned (.int .i64 n) := he; obtain ⟨k0, k1, k2, k3, k4, k5, kF, kL⟩ := cellsOf_at st3.bl)
    | (go_at_call 156; refine (c156 w _ r _ _ ws3 last true _ (st3.set_dy n) (by omega) hws3 rfl rfl).mono ?_; rw [HA.out]; rintro e X4 ⟨he, st4⟩; obtain rfl : e = .returned (.tuple #[]) := he; obtain ⟨m0, m1, m2, m3, m4, m5, mF, mL⟩ := cellsOf_at st4.bl; obtain ⟨q2, q7, -⟩ := reader_da st4.rd; obtain ⟨⟨ra, rc, q0⟩, qL⟩ := reader_none st4.rd; obtain ⟨u0, u1, u2, uL⟩ := cells_dt (st4.dl _ (List.mem_cons_self ..)).1; obtain ⟨v0, v1, v2, v3, v4, v5, vF, vL⟩ := cellsOf_at (st4.dl (w.heap.size, cellsOf zcard) (by simp)).1; have hsz := st2.lt))
  clear g0 g1 g2 g3 g4 g5 gF gL k0 k1 k2 k3 k4 k5 kF kL H153
  go_still_tail 9, (by kernel_rfl)
  go_wp2_with (first
    | (go_at_call 76; refine (c76 _ _ _ _ _ _ _).mono ?_; rw [HI.out]; rintro e X6 ⟨rfl, hb6⟩; have st6 := ((st4.set_da (wrap64 (last.da + n))).grown (xd (xr _))).grown hb6; obtain ⟨i0, i1, i2, i3, i4, i5, iF, iL⟩ := cellsOf_at st6.bl; obtain ⟨s0, s1, s2, s3, s4, s5, sF, sL⟩ := cellsOf_at (st6.dl (w.heap.size, cellsOf zcard) (by simp)).1))
  obtain ⟨Y, hY, hYb, hYg⟩ := store6 (st6.dl (w.heap.size, cellsOf zcard) (by simp)).1 0 0 0 0 0 0
  rw [hY]
  obtain ⟨y0, y1, y2, y3, y4, y5, yF, yL⟩ := cellsOf_at hYb
  have hg := hYg w r st6.gr (Nat.le_refl _)
  clear hY hYb hYg
  exact bodyPost_ret (v := .tuple #[cv zcard, .int .i64 3]) (by simp [results, Tryz.results117, go_sem, cv, zcard, y0, y1, y2, y3, y4, y5]) rfl ⟨rfl, hg⟩
end Go.Proofs.YthifeoebefbalaaGreatDoor

namespace Go.Proofs.YthifeoebefbalaaGreatDoor
open Go.RowKit

theorem c117_nil (r : Nat) (last : Card) (w : World) (h : Reader w r [] last false) : Calls Tryz.prog 117 #[.pointer (some ⟨r, 0, none⟩)] w fun e w' => rdEnd .form e ∧ w.grownBy w' (some r) := by
  have st0 := CSt.start h
  have H := Lib.hid ((c153_no r last false _ st0.rd).mono fun e w' h1 => (⟨h1.1, st0.gr.trans h1.2⟩ : e = .panicked [unread] ∧ w.grownBy w' (some r)))
  clear h st0
  go_enter Tryz.func117, Tryz.ntmps117
  go_wp2_with (go_at_call 153; refine H.out.mono ?_; rintro e X1 ⟨rfl, hg⟩)
  exact ⟨rfl, rfl, hg⟩
theorem c117_nost (r : Nat) (x : List UInt8) (ws : List (List UInt8)) (last : Card) (w : World) (h : Reader w r (x :: ws) last false) (hl : ws.length ≤ 200) (hx : x.length ≤ 200) (hs : stationO x last = none) : Calls Tryz.prog 117 #[.pointer (some ⟨r, 0, none⟩)] w fun e w' => rdEnd .form e ∧ w.grownBy w' (some r) := by
  have st0 := CSt.start h
  have H := Lib.hid (st0.station hl hx)
  have HS := Lib.hid hs
  clear h st0 hs
  go_enter Tryz.func117, Tryz.ntmps117
  go_wp2_with (go_at_call 153; refine H.out.mono ?_; rw [HS.out]; rintro e X1 ⟨he, st1⟩; obtain rfl : e = .panicked [unread] := he)
  exact ⟨rfl, rfl, st1.gr⟩
theorem c117_nodate (r : Nat) (x : List UInt8) (last : Card) (w : World) (h : Reader w r [x] last false) (hx : x.length ≤ 200) (st : Int) (hs : stationO x last = some st) : Calls Tryz.prog 117 #[.pointer (some ⟨r, 0, none⟩)] w fun e w' => rdEnd .form e ∧ w.grownBy w' (some r) := by
  have st0 := CSt.start h
  have H := Lib.hid (st0.station (by simp) hx)
  have HS := Lib.hid hs
  clear h st0 hs
  go_enter Tryz.func117, Tryz.ntmps117
  go_wp2_with (first
    | (go_at_call 153; refine H.out.mono ?_; rw [HS.out]; rintro e X1 ⟨he, st1⟩; obtain rfl : e = .returned (.int .i64 st) := he; obtain ⟨g0, g1, g2, g3, g4, g5, gF, gL⟩ := cellsOf_at st1.bl)
    | (go_at_call 154; refine ((st1.set_st st).nodate).mono ?_; rintro e X2 ⟨rfl, hg⟩))
  exact ⟨rfl, rfl, hg⟩

theorem suf_len {ws ws' : List (List UInt8)} (h : ws' <:+ ws) {N : Nat} (hl : ws.length ≤ N) (hws : ∀ z ∈ ws, z.length ≤ 200) : ws'.length ≤ N ∧ ∀ z ∈ ws', z.length ≤ 200 :=
  ⟨Nat.le_trans h.length_le hl, fun z hz => hws z (h.subset hz)⟩
theorem readDoes : ReadDoes readRs := by
  intro r v ws last w hc hr0 hv hs hws hl
  have h : Reader w r ws last false := ⟨v, hv, hs⟩
  have hws' : ∀ z ∈ ws, z.length ≤ 200 := fun z hz => (hws z hz).2
  cases ws with
  | nil => exact c117_nil r last w h
  | cons x ws =>
    have hx := hws' x (by simp)
    have hl1 : ws.length ≤ 199 := by simp at hl; omega
    cases hst : stationO x last with
    | none => rw [show readRs (x :: ws) last = .form by simp [readRs, hst]]; exact c117_nost r x ws last w h (by omega) hx hst
    | some st =>
      cases ws with
      | nil => rw [show readRs [x] last = .form by simp [readRs, hst]]; exact c117_nodate r x last w h hx st hst
      | cons y ws =>
        have hy := hws' y (by simp)
        have hyne := (hws y (by simp)).1
        have hl2 : ws.length ≤ 198 := by simp at hl1; omega
        have hws2 : ∀ z ∈ ws, z.length ≤ 200 := fun z hz => hws' z (by simp [hz])
        have hok := dateW_ok y ws last
        have part : ∀ (nx : Bool) (d : Dt) (ws2 : List (List UInt8)), ws2.length ≤ 198 → (∀ z ∈ ws2, z.length ≤ 200) → dateW y ws last = (if nx = true then .next ws2 else .date d ws2) → (nx = true → d = ⟨0, 0, 0⟩) →
            Calls Tryz.prog 117 #[.pointer (some ⟨r, 0, none⟩)] w fun e w' => rdEnd (restR st nx d last ws2) e ∧ w.grownBy w' (some r) := by
          intro nx d ws2 k1 k2 hd hd0
          have hlo := lumpW_ok ws2
          cases hL : lumpW ws2 with
          | stop =>
            rw [show restR st nx d last ws2 = .form by simp [restR, hL]]
            cases nx with
            | true => exact c117_n_lstop r hr0 x y ws last w hc h hl2 hx hy hyne hws2 st hst ws2 hd k1 k2 hL
            | false => exact c117_d_lstop r hr0 x y ws last w hc h hl2 hx hy hyne hws2 st hst d ws2 hd k1 k2 hL
          | got n ws3 =>
            rw [hL] at hlo
            obtain ⟨k3, k4⟩ := suf_len hlo k1 k2
            cases hA : amtW ws3 with
            | stop =>
              rw [show restR st nx d last ws2 = .form by simp [restR, hL, hA]]
              cases nx with
              | true => exact c117_n_astop r hr0 x y ws last w hc h hl2 hx hy hyne hws2 st hst ws2 hd k1 k2 n ws3 hL k3 k4 hA
              | false => exact c117_d_astop r hr0 x y ws last w hc h hl2 hx hy hyne hws2 st hst d ws2 hd k1 k2 n ws3 hL k3 k4 hA
            | got k a f ws4 =>
              cases ws4 with
              | cons x4 ws4 =>
                rw [show restR st nx d last ws2 = .form by simp [restR, hL, hA]]
                cases nx with
                | true => exact c117_n_left r hr0 x y ws last w hc h hl2 hx hy hyne hws2 st hst ws2 hd k1 k2 n ws3 hL k3 k4 k a f x4 ws4 hA
                | false => exact c117_d_left r hr0 x y ws last w hc h hl2 hx hy hyne hws2 st hst d ws2 hd k1 k2 n ws3 hL k3 k4 k a f x4 ws4 hA
              | nil =>
                cases nx with
                | true =>
                  obtain rfl := hd0 rfl
                  cases hI : isCard ⟨st, wrap64 (last.da + n), n, k, a, f⟩ with
                  | true => rw [show restR st true ⟨0, 0, 0⟩ last ws2 = .got ⟨st, wrap64 (last.da + n), n, k, a, f⟩ by simp [restR, hL, hA, dateR, cardR, hI]]; exact c117_n_yes r hr0 x y ws last w hc h hl2 hx hy hyne hws2 st hst ws2 hd k1 k2 n ws3 hL k3 k4 k a f hA hI
                  | false => rw [show restR st true ⟨0, 0, 0⟩ last ws2 = .err 3 by simp [restR, hL, hA, dateR, cardR, hI]]; exact c117_n_no r hr0 x y ws last w hc h hl2 hx hy hyne hws2 st hst ws2 hd k1 k2 n ws3 hL k3 k4 k a f hA hI
                | false =>
                  obtain ⟨dy, dm, dd⟩ := d
                  cases hN : dnum dy dm dd with
                  | none => rw [show restR st false ⟨dy, dm, dd⟩ last ws2 = .err 3 by simp [restR, hL, hA, dateR, cardR, hN]]; exact c117_d_none r hr0 x y ws last w hc h hl2 hx hy hyne hws2 st hst dy dm dd ws2 hd k1 k2 n ws3 hL k3 k4 k a f hA hN
                  | some da =>
                    cases hI : isCard ⟨st, da, n, k, a, f⟩ with
                    | true => rw [show restR st false ⟨dy, dm, dd⟩ last ws2 = .got ⟨st, da, n, k, a, f⟩ by simp [restR, hL, hA, dateR, cardR, hN, hI]]; exact c117_d_yes r hr0 x y ws last w hc h hl2 hx hy hyne hws2 st hst dy dm dd ws2 hd k1 k2 n ws3 hL k3 k4 k a f hA da hN hI
                    | false => rw [show restR st false ⟨dy, dm, dd⟩ last ws2 = .err 3 by simp [restR, hL, hA, dateR, cardR, hN, hI]]; exact c117_d_no r hr0 x y ws last w hc h hl2 hx hy hyne hws2 st hst dy dm dd ws2 hd k1 k2 n ws3 hL k3 k4 k a f hA da hN hI
        cases hd : dateW y ws last with
        | stop => rw [show readRs (x :: y :: ws) last = .form by simp [readRs, hst, hd]]; exact c117_dstop r hr0 x y ws last w hc h hl2 hx hy hyne hws2 st hst hd
        | next ws2 =>
          rw [hd] at hok
          obtain rfl : ws2 = ws := hok
          rw [show readRs (x :: y :: ws2) last = restR st true ⟨0, 0, 0⟩ last ws2 by simp [readRs, hst, hd]]
          exact part true ⟨0, 0, 0⟩ ws2 hl2 hws2 hd (fun _ => rfl)
        | date d ws2 =>
          rw [hd] at hok
          obtain ⟨k1, k2⟩ := suf_len hok hl2 hws2
          rw [show readRs (x :: y :: ws) last = restR st false d last ws2 by simp [readRs, hst, hd]]
          exact part false d ws2 k1 k2 hd (fun h => by cases h)
end Go.Proofs.YthifeoebefbalaaGreatDoor

namespace Go.Proofs.YthifeoebefbalaaGreatDoor
open Go.RowKit

/-- What a text comes to behind a card. -/
def lineR (text : List UInt8) (last : Card) : Rd := if 200 < text.length then .err 2 else readRs (wordsOf text) last
def rdC : Rd → Card
  | .got c => c
  | _ => zcard
def rdE : Rd → Int
  | .got _ => 0
  | .err x => x
  | .form => 7
theorem lineEnd_eq (v : Rd) : lineEnd v = .tuple #[cv (rdC v), .int .i64 (rdE v)] := by cases v <;> rfl
theorem c73 (text : List UInt8) (last : Card) (w : World) (hc : Cell0 w) : Calls Tryz.prog 73 #[strv text, cv last] w fun e w' => e = .returned (.tuple #[cv (rdC (lineR text last)), .int .i64 (rdE (lineR text last))]) ∧ Below w.heap.size w w' := by
  unfold lineR
  by_cases h : 200 < text.length
  · rw [if_pos h]; exact readLine_long text last w h
  · rw [if_neg h, ← lineEnd_eq]; exact readLine_short readRs readDoes text last w hc (by omega)
/-- A card stored whole into memory of the call's own. -/
theorem store6b {X : World} {b : Nat} {c0 : Card} (h : X.heap[b]? = some (cellsOf c0)) (v0 v1 v2 v3 v4 v5 : Int) :
    ∃ Y, (((((X.setCell ⟨b, 0, none⟩ (.int .i64 v0)).setCell ⟨b, 1, none⟩ (.int .i64 v1)).setCell ⟨b, 2, none⟩ (.int .i64 v2)).setCell ⟨b, 3, none⟩ (.int .i64 v3)).setCell ⟨b, 4, none⟩ (.int .i64 v4)).setCell ⟨b, 5, none⟩ (.int .i64 v5) = Y ∧
      Y.heap[b]? = some (cellsOf ⟨v0, v1, v2, v3, v4, v5⟩) ∧ (∀ (W : World), Below W.heap.size W X → W.heap.size ≤ b → Below W.heap.size W Y) ∧ (∀ k, k ≠ b → Y.heap[k]? = X.heap[k]?) ∧ Y.heap.size = X.heap.size := by
  have h0 := cells_set h 0 (.int .i64 v0)
  have h1 := cells_set h0 1 (.int .i64 v1)
  have h2 := cells_set h1 2 (.int .i64 v2)
  have h3 := cells_set h2 3 (.int .i64 v3)
  have h4 := cells_set h3 4 (.int .i64 v4)
  have h5 := cells_set h4 5 (.int .i64 v5)
  refine ⟨_, rfl, by rw [h5]; rfl, fun W hW hb => xs (xs (xs (xs (xs (xs hW hb _) hb _) hb _) hb _) hb _) hb _, fun k hk => ?_, by simp⟩
  rw [Below.heap_setCell _ ⟨b, 5, none⟩ _ k hk, Below.heap_setCell _ ⟨b, 4, none⟩ _ k hk, Below.heap_setCell _ ⟨b, 3, none⟩ _ k hk, Below.heap_setCell _ ⟨b, 2, none⟩ _ k hk, Below.heap_setCell _ ⟨b, 1, none⟩ _ k hk, Below.heap_setCell _ ⟨b, 0, none⟩ _ k hk]
/-- A variable of a card, just made. -/
theorem new_card {w W : World} {c : Card} (h : Below (w.alloc (.cells #[.int .i64 c.st, .int .i64 c.da, .int .i64 c.dy, .int .i64 c.ki, .int .i64 c.am, .int .i64 c.fi] 24)).heap.size (w.alloc (.cells #[.int .i64 c.st, .int .i64 c.da, .int .i64 c.dy, .int .i64 c.ki, .int .i64 c.am, .int .i64 c.fi] 24)) W) :
    W.heap[w.heap.size]? = some (cellsOf c) := (h.block _ (by simp)).trans (World.alloc_heap_new w _)
set_option maxHeartbeats 1000000 in
theorem c23 (text : List UInt8) (w : World) (hc : Cell0 w) : Calls Tryz.prog 23 #[strv text] w fun e w' => e = .returned (.tuple #[cv (rdC (lineR text zcard)), .int .i64 (rdE (lineR text zcard))]) ∧ Below w.heap.size w w' := by
  have H := fun (W : World) (hW : Cell0 W) => Lib.hid (c73 text zcard W hW)
  have HC := Lib.hid hc
  clear hc
  generalize rdC (lineR text zcard) = c at *
  generalize rdE (lineR text zcard) = x at *
  obtain ⟨st, da, dy, ki, am, fi⟩ := c
  unfold strv cv zcard at H
  unfold strv cv
  simp only at H ⊢
  go_enter Tryz.func23, Tryz.ntmps23
  go_wp2_with (go_at_call 73; refine (H _ (HC.out.below (below_alloc _ _) HC.out.lt)).out.mono ?_; rintro e w1 ⟨rfl, hb1⟩; have hblk := new_card (c := zcard) hb1; obtain ⟨t0, t1, t2, t3, t4, t5, tF, tL⟩ := cellsOf_at hblk; have hB := xa (xr w) (.cells #[.int .i64 0, .int .i64 0, .int .i64 0, .int .i64 0, .int .i64 0, .int .i64 0] 24))
  obtain ⟨Y, hY, hYb, hYg, -⟩ := store6b hblk st da dy ki am fi
  rw [hY]
  have hg := hYg w (hB.trans (hb1.mono (by simp))) (Nat.le_refl _)
  obtain ⟨y0, y1, y2, y3, y4, y5, yF, yL⟩ := cellsOf_at hYb
  clear hY hYb hYg
  exact bodyPost_ret (v := .tuple #[.agg #[.int .i64 st, .int .i64 da, .int .i64 dy, .int .i64 ki, .int .i64 am, .int .i64 fi], .int .i64 x]) (by simp [results, Tryz.results23, go_sem, y0, y1, y2, y3, y4, y5]) rfl ⟨rfl, hg⟩
end Go.Proofs.YthifeoebefbalaaGreatDoor

namespace Go.Proofs.YthifeoebefbalaaGreatDoor
open Go.RowKit

def readsB (v : Rd) (c : Card) (e : Int) : Bool := decide (rdC v = c) && decide (rdE v = e)
set_option maxHeartbeats 1000000 in
theorem c27 (text : List UInt8) (c : Card) (x : Int) (w : World) (hc : Cell0 w) : Calls Tryz.prog 27 #[strv text, cv c, .int .i64 x] w fun e w' => e = .returned (.bool (readsB (lineR text zcard) c x)) ∧ Below w.heap.size w w' := by
  have H := fun (W : World) (hW : Cell0 W) => Lib.hid (c23 text W hW)
  have HC := Lib.hid hc
  clear hc
  unfold readsB
  generalize rdC (lineR text zcard) = g at *
  generalize rdE (lineR text zcard) = u at *
  obtain ⟨st, da, dy, ki, am, fi⟩ := g
  obtain ⟨st2, da2, dy2, ki2, am2, fi2⟩ := c
  unfold strv cv at H
  unfold strv cv
  simp only at H ⊢
  go_enter Tryz.func27, Tryz.ntmps27
  go_wp2_with (go_at_call 23; refine (H _ (HC.out.below (below_alloc _ _) HC.out.lt)).out.mono ?_; rintro e w1 ⟨rfl, hb1⟩; have hblk := new_card (c := ⟨st2, da2, dy2, ki2, am2, fi2⟩) hb1; obtain ⟨t0, t1, t2, t3, t4, t5, tF, tL⟩ := cellsOf_at hblk; have hB := (xa (xr w) (.cells #[.int .i64 st2, .int .i64 da2, .int .i64 dy2, .int .i64 ki2, .int .i64 am2, .int .i64 fi2] 24)).trans (hb1.mono (by simp)))
  all_goals go_ret
  all_goals exact ⟨ret_bool (by first | (simp_all; done) | (simp_all; rfl)), by repeat (first | exact hB | apply xa)⟩
end Go.Proofs.YthifeoebefbalaaGreatDoor

namespace Go.Proofs.YthifeoebefbalaaGreatDoor
open Go.RowKit

def fitsB (c : Card) (s : Sp) : Bool := isCard c && decide (says c = s)
def spanOf (s : Sp) : Obj := .cells #[.int .i64 s.lo, .int .i64 s.hi] 33 (0, 0)
theorem span_at {w : World} {b : Nat} {s : Sp} (h : w.heap[b]? = some (spanOf s)) : w.cell? ⟨b, 0, none⟩ = some (.int .i64 s.lo) ∧ w.cell? ⟨b, 1, none⟩ = some (.int .i64 s.hi) ∧ b < w.heap.size := by
  unfold spanOf at h
  exact ⟨by simp [World.cell?, h], by simp [World.cell?, h], (Array.getElem?_eq_some_iff.1 h).1⟩
set_option maxRecDepth 100000 in
set_option maxHeartbeats 1000000 in
theorem c75_no (c : Card) (s : Sp) (b : Nat) (w : World) (_hb : w.heap[b]? = some (spanOf s)) (h : isCard c = false) : Calls Tryz.prog 75 #[cv c, .pointer (some ⟨b, 0, none⟩)] w fun e w' => e = .returned (.bool false) ∧ Below w.heap.size w w' := by
  have H := Lib.hid h
  clear h
  unfold cv
  obtain ⟨st, da, dy, ki, am, fi⟩ := c
  simp only
  go_enter Tryz.func75, Tryz.ntmps75
  go_wp2_with fail
  obtain ⟨W, hW⟩ : ∃ W, w.alloc (.cells #[.int .i64 st, .int .i64 da, .int .i64 dy, .int .i64 ki, .int .i64 am, .int .i64 fi] 24) = W := ⟨_, rfl⟩
  have hB := xa (xr w) (.cells #[.int .i64 st, .int .i64 da, .int .i64 dy, .int .i64 ki, .int .i64 am, .int .i64 fi] 24)
  have hblk : W.heap[w.heap.size]? = some (cellsOf ⟨st, da, dy, ki, am, fi⟩) := by rw [← hW]; exact World.alloc_heap_new w _
  obtain ⟨t0, t1, t2, t3, t4, t5, tF, tL⟩ := cellsOf_at hblk
  rw [hW] at hB ⊢
  clear hW hblk
  refine wp_region_gwn W (by kernel_rfl) (by kernel_rfl) (xr W) ?_
  repeat (go_big_quiet_step ((go_at_call 76; exact gw_call ((c76 st da dy ki am fi _).mono fun e w' h1 => (⟨by rw [h1.1, H.out], h1.2⟩ : e = .returned (.bool false) ∧ _)))))
  refine wpQuiet_nil ?_
  rintro _ ⟨x1, rfl⟩
  go_wp2
  go_ret
  exact ⟨rfl, hB.trans ((gw_below _ _).mono hB.size)⟩
set_option maxRecDepth 100000 in
set_option maxHeartbeats 1000000 in
theorem c75_yes (c : Card) (s : Sp) (b : Nat) (w : World) (hb : w.heap[b]? = some (spanOf s)) (h : isCard c = true) : Calls Tryz.prog 75 #[cv c, .pointer (some ⟨b, 0, none⟩)] w fun e w' => e = .returned (.bool (decide (says c = s))) ∧ Below w.heap.size w w' := by
  have H := Lib.hid h
  have H77 := fun W => Lib.hid (c77 c W h)
  clear h
  generalize says c = g at *
  unfold cv at H77
  unfold cv
  obtain ⟨st, da, dy, ki, am, fi⟩ := c
  obtain ⟨lo, hi⟩ := s
  obtain ⟨lo2, hi2⟩ := g
  simp only [spv] at H77 ⊢
  have hb' : (w.alloc (.cells #[.int .i64 st, .int .i64 da, .int .i64 dy, .int .i64 ki, .int .i64 am, .int .i64 fi] 24)).heap[b]? = some (spanOf ⟨lo, hi⟩) := (Below.heap_alloc w _ b (Array.getElem?_eq_some_iff.1 hb).1).trans hb
  obtain ⟨s0, s1, sL⟩ := span_at hb'
  clear hb
  go_enter Tryz.func75, Tryz.ntmps75
  go_wp2_with fail
  obtain ⟨W, hW⟩ : ∃ W, w.alloc (.cells #[.int .i64 st, .int .i64 da, .int .i64 dy, .int .i64 ki, .int .i64 am, .int .i64 fi] 24) = W := ⟨_, rfl⟩
  have hB := xa (xr w) (.cells #[.int .i64 st, .int .i64 da, .int .i64 dy, .int .i64 ki, .int .i64 am, .int .i64 fi] 24)
  have hblk : W.heap[w.heap.size]? = some (cellsOf ⟨st, da, dy, ki, am, fi⟩) := by rw [← hW]; exact World.alloc_heap_new w _
  obtain ⟨t0, t1, t2, t3, t4, t5, tF, tL⟩ := cellsOf_at hblk
  rw [hW] at hB s0 s1 sL ⊢
  clear hW hblk hb'
  refine wp_region_gwn W (by kernel_rfl) (by kernel_rfl) (xr W) ?_
  repeat (go_big_quiet_step ((first | (go_at_call 76; exact gw_call ((c76 st da dy ki am fi _).mono fun e w' h1 => (⟨by rw [h1.1, H.out], h1.2⟩ : e = .returned (.bool true) ∧ _))) | (go_at_call 77; exact gw_call ((H77 _).out)))))
  refine wpQuiet_step (fun K hK => ?_)
  go_simp
  refine ⟨.bool (decide (lo2 = lo) && decide (hi2 = hi)), fun a => by by_cases e1 : lo2 = lo <;> by_cases e2 : hi2 = hi <;> simp [e1, e2], hK _ ?_⟩
  clear hK K
  repeat (go_big_quiet_step (fail))
  refine wpQuiet_nil ?_
  rintro _ ⟨x1, rfl⟩
  go_wp2
  go_ret
  exact ⟨ret_bool (by simp), hB.trans ((gw_below _ _).mono hB.size)⟩
theorem c75 (c : Card) (s : Sp) (b : Nat) (w : World) (hb : w.heap[b]? = some (spanOf s)) : Calls Tryz.prog 75 #[cv c, .pointer (some ⟨b, 0, none⟩)] w fun e w' => e = .returned (.bool (fitsB c s)) ∧ Below w.heap.size w w' := by
  unfold fitsB
  cases h : isCard c with
  | true => rw [Bool.true_and]; exact c75_yes c s b w hb h
  | false => rw [Bool.false_and]; exact c75_no c s b w hb h
end Go.Proofs.YthifeoebefbalaaGreatDoor

namespace Go.Proofs.YthifeoebefbalaaGreatDoor
open Go.RowKit

def kindAt (i : Nat) : Int := if i = 0 then 3 else if i = 1 then 2 else 4
def kCard (st da dy : Int) (i : Nat) : Card := ⟨st, da, dy, kindAt i, 0, 0⟩
def fCard (st da dy : Int) (s : Sp) (i : Nat) : Card := ⟨st, da, dy, 1, s.hi - ((i : Int) + 1) / 2, (i : Int) + 1⟩
def writeR (st da dy : Int) (s : Sp) : Card × Int :=
  if s.lo < 0 ∨ s.hi < s.lo then (zcard, 1)
  else match (List.range 3).find? fun i => fitsB (kCard st da dy i) s with
    | some i => (kCard st da dy i, 0)
    | none => match (List.range 100).find? fun i => fitsB (fCard st da dy s i) s with
      | some i => (fCard st da dy s i, 0)
      | none => (zcard, 5)

set_option maxRecDepth 100000 in
set_option maxHeartbeats 4000000 in
theorem c25_arg (st da dy : Int) (s : Sp) (w : World) (h : s.lo < 0 ∨ s.hi < s.lo) : Calls Tryz.prog 25 #[.int .i64 st, .int .i64 da, .int .i64 dy, spv s] w fun e w' => e = .returned (.tuple #[cv zcard, .int .i64 1]) ∧ Below w.heap.size w w' := by
  obtain ⟨lo, hi⟩ := s
  simp only at h
  unfold spv cv zcard
  by_cases h0 : lo < 0
  all_goals
    go_enter Tryz.func25, Tryz.ntmps25
    go_wp2
    exact bodyPost_ret (v := .tuple #[cv zcard, .int .i64 1]) (by simp [results, Tryz.results25, go_sem, cv, zcard]) rfl ⟨rfl, by repeat (first | exact xr _ | apply xa)⟩

theorem c75' (st da dy ki am fi : Int) (s : Sp) (b : Nat) (w : World) (hb : w.heap[b]? = some (spanOf s)) : Calls Tryz.prog 75 #[.agg #[.int .i64 st, .int .i64 da, .int .i64 dy, .int .i64 ki, .int .i64 am, .int .i64 fi], .pointer (some ⟨b, 0, none⟩)] w fun e w' => e = .returned (.bool (fitsB ⟨st, da, dy, ki, am, fi⟩ s)) ∧ Below w.heap.size w w' := c75 ⟨st, da, dy, ki, am, fi⟩ s b w hb
theorem kind_at (k : Nat) (hk : k < 3) (w : World) : (Instr.index 109 (.agg #[.int .i64 3, .int .i64 2, .int .i64 4]) (.int .i64 (k : Int))).run Tryz.prog w = .ok (.int .i64 (kindAt k)) w := by
  obtain ⟨i0, hi, -, h2, -⟩ := info_parts A.info3
  refine run_index_arr Tryz.underlying109 Tryz.underlying3 rfl hi h2 _ k _ hk ?_ w
  match k with
  | 0 => rfl
  | 1 => rfl
  | 2 => rfl
  | k + 3 => omega
set_option maxRecDepth 100000 in
set_option maxHeartbeats 4000000 in
theorem c25 (st da dy : Int) (s : Sp) (w : World) (h : ¬ (s.lo < 0 ∨ s.hi < s.lo)) (hs : s.hi ≤ 9223372036854775807) : Calls Tryz.prog 25 #[.int .i64 st, .int .i64 da, .int .i64 dy, spv s] w fun e w' => e = .returned (.tuple #[cv (writeR st da dy s).1, .int .i64 (writeR st da dy s).2]) ∧ Below w.heap.size w w' := by
  obtain ⟨x, hx⟩ : ∃ x, writeR st da dy s = x := ⟨_, rfl⟩
  rw [hx]
  have HX := Lib.hid hx
  clear hx
  obtain ⟨lo, hi⟩ := s
  simp only at h hs
  have h0 : ¬ lo < 0 := by omega
  have h1 : ¬ hi < lo := by omega
  clear h
  unfold spv
  simp only
  go_enter Tryz.func25, Tryz.ntmps25
  go_wp2
  obtain ⟨W0, hW0⟩ : ∃ W0, (w.alloc (.cells #[.int .i64 lo, .int .i64 hi] 33)).alloc (.cells #[.int .i64 0, .int .i64 0, .int .i64 0, .int .i64 0, .int .i64 0, .int .i64 0] 24) = W0 := ⟨_, rfl⟩
  have hB0 : Below w.heap.size w W0 := by rw [← hW0]; exact xa (xa (xr _) _) _
  have hbox : W0.heap[w.heap.size]? = some (spanOf ⟨lo, hi⟩) := by rw [← hW0, Below.heap_alloc _ _ w.heap.size (by simp)]; exact World.alloc_heap_new w _
  have hres : W0.heap[w.heap.size + 1]? = some (cellsOf zcard) := by
    rw [← hW0]
    have := World.alloc_heap_new (w.alloc (.cells #[.int .i64 lo, .int .i64 hi] 33)) (.cells #[.int .i64 0, .int .i64 0, .int .i64 0, .int .i64 0, .int .i64 0, .int .i64 0] 24 (0, 0))
    simpa [cellsOf, zcard] using this
  have hsz : W0.heap.size = w.heap.size + 2 := by rw [← hW0]; simp
  rw [hW0]
  have HBOX := Lib.hid hbox
  have HRES := Lib.hid hres
  clear hW0 hbox hres
  go_loopw [29] (fun i wr => ∃ k : Nat, k ≤ 3 ∧ i = .int .i64 k ∧ Hid (∀ j, j < k → fitsB (kCard st da dy j) ⟨lo, hi⟩ = false) ∧ Below W0.heap.size W0 wr) (fun i _ => 3 - (intOf i).toNat)
  case atStart => exact ⟨0, by omega, rfl, Lib.hid fun j hj => by omega, xr _⟩
  case round =>
    obtain ⟨k, hk, rfl, hno, hbr⟩ := hrel
    have hX : ∀ X, Below wr.heap.size wr X → X.heap[w.heap.size]? = some (spanOf ⟨lo, hi⟩) ∧ X.heap[w.heap.size + 1]? = some (cellsOf zcard) := fun X hX => by
      have h2 := hbr.trans (hX.mono hbr.size)
      exact ⟨(h2.block _ (by omega)).trans HBOX.out, (h2.block _ (by omega)).trans HRES.out⟩
    have HXX := Lib.hid hX
    clear hX
    by_cases hlt : k < 3
    · have hidx := kind_at k hlt
      have HF : Hid (kCard st da dy k = ⟨st, da, dy, kindAt k, 0, 0⟩) := Lib.hid rfl
      generalize kindAt k = kk at *
      cases hf : fitsB (kCard st da dy k) ⟨lo, hi⟩ with
      | true =>
        rw [HF.out] at hf
        have HT := Lib.hid hf
        clear hf
        go_wp2_with (go_at_call 75; refine (c75' st da dy kk 0 0 ⟨lo, hi⟩ w.heap.size _ (HXX.out _ (below_alloc _ _)).1).mono ?_; rw [HT.out]; rintro e w1 ⟨rfl, hb1⟩; have hblk := new_card (c := ⟨st, da, dy, kk, 0, 0⟩) hb1; obtain ⟨t0, t1, t2, t3, t4, t5, tF, tL⟩ := cellsOf_at hblk; have hb2 : Below wr.heap.size wr w1 := (below_alloc _ _).trans (hb1.mono (by simp)); have hr := (HXX.out _ hb2).2; obtain ⟨u0, u1, u2, u3, u4, u5, uF, uL⟩ := cellsOf_at hr)
        obtain ⟨Y, hY, hYb, hYg, -⟩ := store6b hr st da dy kk 0 0
        rw [hY]
        have hg := hYg w (hB0.trans ((hbr.trans (hb2.mono hbr.size)).mono hB0.size)) (by omega)
        obtain ⟨y0, y1, y2, y3, y4, y5, yF, yL⟩ := cellsOf_at hYb
        have hfin : x = (⟨st, da, dy, kk, 0, 0⟩, 0) := by
          rw [← HX.out, writeR, if_neg (by simp only; omega), find_range _ k 3 hno.out (by rw [HF.out]; exact HT.out) hlt, ← HF.out]
        clear hY hYb hYg hb1 hb2 hblk hr
        rw [hfin]
        exact bodyPost_ret (v := .tuple #[cv ⟨st, da, dy, kk, 0, 0⟩, .int .i64 0]) (by simp [results, Tryz.results25, go_sem, cv, y0, y1, y2, y3, y4, y5]) rfl ⟨rfl, hg⟩
      | false =>
        rw [HF.out] at hf
        have HT := Lib.hid hf
        clear hf
        go_wp2_with (go_at_call 75; refine (c75' st da dy kk 0 0 ⟨lo, hi⟩ w.heap.size _ (HXX.out _ (below_alloc _ _)).1).mono ?_; rw [HT.out]; rintro e w1 ⟨rfl, hb1⟩)
        go_roundw
        case rel => exact ⟨k + 1, by omega, by go_num, Lib.hid fun j hj => by
          by_cases e : j = k
          · subst e; rw [HF.out]; exact HT.out
          · exact hno.out j (by omega), hbr.trans (((below_alloc _ _).trans (hb1.mono (by simp))).mono hbr.size)⟩
        case measure => simp [intOf]; omega
    · obtain rfl : k = 3 := by omega
      have HN := Lib.hid (find_none (fun i => fitsB (kCard st da dy i) ⟨lo, hi⟩) 3 (fun j hj => hno.out j hj))
      clear hno HXX
      go_wp2
      have HWO := Lib.hid hbr
      clear hbr
      obtain ⟨wo, rfl⟩ : ∃ wo : World, wo = wr := ⟨_, rfl⟩
      go_loopw [14] (fun f wr => ∃ k : Nat, k ≤ 100 ∧ f = .int .i64 ((k : Int) + 1) ∧ Hid (∀ j, j < k → fitsB (fCard st da dy ⟨lo, hi⟩ j) ⟨lo, hi⟩ = false) ∧ Below W0.heap.size W0 wr) (fun f _ => 101 - (intOf f).toNat)
      case atStart => exact ⟨0, by omega, rfl, Lib.hid fun j hj => by omega, HWO.out⟩
      case round =>
        obtain ⟨k, hk, rfl, hno, hbr⟩ := hrel
        clear HWO
        have hX : ∀ X, Below wr.heap.size wr X → X.heap[w.heap.size]? = some (spanOf ⟨lo, hi⟩) ∧ X.heap[w.heap.size + 1]? = some (cellsOf zcard) := fun X hX => by
          have h2 := hbr.trans (hX.mono hbr.size)
          exact ⟨(h2.block _ (by omega)).trans HBOX.out, (h2.block _ (by omega)).trans HRES.out⟩
        have hz : w.heap.size < wr.heap.size := by have := hbr.size; omega
        obtain ⟨s0, s1, sL⟩ := span_at (hX wr (xr _)).1
        have HXX := Lib.hid hX
        clear hX
        by_cases hlt : k < 100
        · have HF : Hid (fCard st da dy ⟨lo, hi⟩ k = ⟨st, da, dy, 1, hi - ((k : Int) + 1) / 2, (k : Int) + 1⟩) := Lib.hid rfl
          cases hf : fitsB (fCard st da dy ⟨lo, hi⟩ k) ⟨lo, hi⟩ with
          | true =>
            rw [HF.out] at hf
            have HT := Lib.hid hf
            clear hf
            go_wp2_with (go_at_call 75; refine (c75' st da dy 1 (hi - ((k : Int) + 1) / 2) ((k : Int) + 1) ⟨lo, hi⟩ w.heap.size _ (HXX.out _ (below_alloc _ _)).1).mono ?_; rw [HT.out]; rintro e w1 ⟨rfl, hb1⟩; have hblk := new_card (c := ⟨st, da, dy, 1, hi - ((k : Int) + 1) / 2, (k : Int) + 1⟩) hb1; obtain ⟨t0, t1, t2, t3, t4, t5, tF, tL⟩ := cellsOf_at hblk; have hb2 : Below wr.heap.size wr w1 := (below_alloc _ _).trans (hb1.mono (by simp)); have hr := (HXX.out _ hb2).2; obtain ⟨u0, u1, u2, u3, u4, u5, uF, uL⟩ := cellsOf_at hr)
            obtain ⟨Y, hY, hYb, hYg, -⟩ := store6b hr st da dy 1 (hi - ((k : Int) + 1) / 2) ((k : Int) + 1)
            rw [hY]
            have hg := hYg w (hB0.trans ((hbr.trans (hb2.mono hbr.size)).mono hB0.size)) (by omega)
            obtain ⟨y0, y1, y2, y3, y4, y5, yF, yL⟩ := cellsOf_at hYb
            have hfin : x = (⟨st, da, dy, 1, hi - ((k : Int) + 1) / 2, (k : Int) + 1⟩, 0) := by
              rw [← HX.out, writeR, if_neg (by simp only; omega), HN.out]
              simp only
              rw [find_range _ k 100 hno.out (by rw [HF.out]; exact HT.out) hlt, ← HF.out]
            clear hY hYb hYg hb1 hb2 hblk hr
            rw [hfin]
            exact bodyPost_ret (v := .tuple #[cv ⟨st, da, dy, 1, hi - ((k : Int) + 1) / 2, (k : Int) + 1⟩, .int .i64 0]) (by simp [results, Tryz.results25, go_sem, cv, y0, y1, y2, y3, y4, y5]) rfl ⟨rfl, hg⟩
          | false =>
            rw [HF.out] at hf
            have HT := Lib.hid hf
            clear hf
            go_wp2_with (go_at_call 75; refine (c75' st da dy 1 (hi - ((k : Int) + 1) / 2) ((k : Int) + 1) ⟨lo, hi⟩ w.heap.size _ (HXX.out _ (below_alloc _ _)).1).mono ?_; rw [HT.out]; rintro e w1 ⟨rfl, hb1⟩)
            go_roundw
            case rel =>
              have hno2 : ∀ j, j < k + 1 → fitsB (fCard st da dy ⟨lo, hi⟩ j) ⟨lo, hi⟩ = false := fun j hj => by
                by_cases e : j = k
                · subst e; rw [HF.out]; exact HT.out
                · exact hno.out j (by omega)
              have hb3 := hbr.trans (((below_alloc _ _).trans (hb1.mono (by simp))).mono hbr.size)
              repeat apply Exists.intro
              exact ⟨⟨k + 1, by omega, by go_num, Lib.hid hno2, hb3⟩, rfl⟩
            case measure => simp [intOf]; omega
        · obtain rfl : k = 100 := by omega
          have HM := Lib.hid (find_none (fun i => fitsB (fCard st da dy ⟨lo, hi⟩ i) ⟨lo, hi⟩) 100 (fun j hj => hno.out j hj))
          have hr := (HXX.out _ (xr _)).2
          obtain ⟨u0, u1, u2, u3, u4, u5, uF, uL⟩ := cellsOf_at hr
          go_wp2
          obtain ⟨Y, hY, hYb, hYg, -⟩ := store6b hr 0 0 0 0 0 0
          rw [hY]
          have hg := hYg w (hB0.trans (hbr.mono hB0.size)) (by omega)
          obtain ⟨y0, y1, y2, y3, y4, y5, yF, yL⟩ := cellsOf_at hYb
          have hfin : x = (zcard, 5) := by
            rw [← HX.out, writeR, if_neg (by simp only; omega), HN.out]
            simp only
            rw [HM.out]
          clear hY hYb hYg hr
          rw [hfin]
          exact bodyPost_ret (v := .tuple #[cv zcard, .int .i64 5]) (by simp [results, Tryz.results25, go_sem, cv, zcard, y0, y1, y2, y3, y4, y5]) rfl ⟨rfl, hg⟩
end Go.Proofs.YthifeoebefbalaaGreatDoor
