/- The reader of a card: its walk. -/
import Derived.Test.YthifeoebefbalaaGreatDoorZ9
import Derived.StillTailTactics
import Derived.Outline
set_option linter.unusedVariables false
set_option linter.unusedSimpArgs false
namespace Go.Proofs.YthifeoebefbalaaGreatDoor
open Go.RowKit

theorem CSt.start {w : World} {r : Nat} {ws : List (List UInt8)} {last : Card} (h : Reader w r ws last false) :
    CSt w ((w.alloc (.cells #[.int .i64 0, .int .i64 0, .int .i64 0, .int .i64 0, .int .i64 0, .int .i64 0] 24)).alloc (.cells #[.int .i64 0, .int .i64 0, .int .i64 0, .int .i64 0, .int .i64 0, .int .i64 0] 24)) r (w.heap.size + 1) [(w.heap.size, cellsOf zcard)] ws last false zcard := by
  have hrl : r < w.heap.size := by obtain ⟨v, h1, -⟩ := h; exact (Array.getElem?_eq_some_iff.1 h1).1
  have hb : Below w.heap.size w ((w.alloc (.cells #[.int .i64 0, .int .i64 0, .int .i64 0, .int .i64 0, .int .i64 0, .int .i64 0] 24)).alloc (.cells #[.int .i64 0, .int .i64 0, .int .i64 0, .int .i64 0, .int .i64 0, .int .i64 0] 24)) := xa (xa (xr _) _) _
  have h1 := World.alloc_heap_new (w.alloc (.cells #[.int .i64 0, .int .i64 0, .int .i64 0, .int .i64 0, .int .i64 0, .int .i64 0] 24)) (.cells #[.int .i64 0, .int .i64 0, .int .i64 0, .int .i64 0, .int .i64 0, .int .i64 0] 24 (0, 0))
  have h2 := World.alloc_heap_new w (.cells #[.int .i64 0, .int .i64 0, .int .i64 0, .int .i64 0, .int .i64 0, .int .i64 0] 24 (0, 0))
  refine ⟨h.grown hb, Grown.by hb _, by simpa [cellsOf, zcard] using h1, hrl, by omega, fun p hp => ?_⟩
  rcases List.mem_singleton.1 hp with rfl
  refine ⟨?_, by simp only; omega, by simp only; omega⟩
  rw [Below.heap_alloc _ _ w.heap.size (by simp)]
  exact h2

theorem cells_dt {w : World} {b : Nat} {y m d : Int} (h : w.heap[b]? = some (.cells #[.int .i64 y, .int .i64 m, .int .i64 d] 41 (0, 0))) :
    w.cell? ⟨b, 0, none⟩ = some (.int .i64 y) ∧ w.cell? ⟨b, 1, none⟩ = some (.int .i64 m) ∧ w.cell? ⟨b, 2, none⟩ = some (.int .i64 d) ∧ b < w.heap.size :=
  ⟨by simp [World.cell?, h], by simp [World.cell?, h], by simp [World.cell?, h], (Array.getElem?_eq_some_iff.1 h).1⟩
theorem reader_da {w : World} {r : Nat} {ws : List (List UInt8)} {last : Card} {nx : Bool} (h : Reader w r ws last nx) : w.cell? ⟨r, 2, none⟩ = some (.int .i64 last.da) ∧ w.cell? ⟨r, 7, none⟩ = some (.bool nx) ∧ r < w.heap.size := by
  obtain ⟨v, h1, -⟩ := h
  obtain ⟨-, -, q2, q7, -, qL⟩ := reader_cells h1
  exact ⟨q2, q7, qL⟩
/-- A card stored whole. -/
theorem store6 {X : World} {b : Nat} {c0 : Card} (h : X.heap[b]? = some (cellsOf c0)) (v0 v1 v2 v3 v4 v5 : Int) :
    ∃ Y, (((((X.setCell ⟨b, 0, none⟩ (.int .i64 v0)).setCell ⟨b, 1, none⟩ (.int .i64 v1)).setCell ⟨b, 2, none⟩ (.int .i64 v2)).setCell ⟨b, 3, none⟩ (.int .i64 v3)).setCell ⟨b, 4, none⟩ (.int .i64 v4)).setCell ⟨b, 5, none⟩ (.int .i64 v5) = Y ∧
      Y.heap[b]? = some (cellsOf ⟨v0, v1, v2, v3, v4, v5⟩) ∧ ∀ (W : World) (r : Nat), W.grownBy X (some r) → W.heap.size ≤ b → W.grownBy Y (some r) := by
  have h0 := cells_set h 0 (.int .i64 v0)
  have h1 := cells_set h0 1 (.int .i64 v1)
  have h2 := cells_set h1 2 (.int .i64 v2)
  have h3 := cells_set h2 3 (.int .i64 v3)
  have h4 := cells_set h3 4 (.int .i64 v4)
  have h5 := cells_set h4 5 (.int .i64 v5)
  exact ⟨_, rfl, by rw [h5]; rfl, fun W r hg hb => grownBy_new (grownBy_new (grownBy_new (grownBy_new (grownBy_new (grownBy_new hg hb _) hb _) hb _) hb _) hb _) hb _⟩
set_option maxRecDepth 100000 in
set_option maxHeartbeats 4000000 in
theorem c117_dstop (r : Nat) (hr0 : 0 < r) (x y : List UInt8) (ws : List (List UInt8)) (last : Card) (w : World) (hc : Cell0 w) (h : Reader w r (x :: y :: ws) last false) (hl : ws.length ≤ 198) (hx : x.length ≤ 200) (hy : y.length ≤ 200) (hyne : y ≠ []) (hws : ∀ z ∈ ws, z.length ≤ 200)
    (st : Int) (hs : stationO x last = some st) (hd : dateW y ws last = .stop) :
    Calls Tryz.prog 117 #[.pointer (some ⟨r, 0, none⟩)] w fun e w' => rdEnd (.form) e ∧ w.grownBy w' (some r) := by
  have st0 := CSt.start h
  have H153 := Lib.hid (st0.station (by simp; omega) hx)
  have HS := Lib.hid hs
  have HD := Lib.hid hd
  have HC := Lib.hid hc
  clear hs hd h st0 hc
  go_enter Tryz.func117, Tryz.ntmps117
  go_wp2_with (first
    | (go_at_call 153; refine H153.out.mono ?_; rw [HS.out]; rintro e X1 ⟨he, st1⟩; obtain rfl : e = .returned (.int .i64 st) := he; obtain ⟨g0, g1, g2, g3, g4, g5, gF, gL⟩ := cellsOf_at st1.bl)
    | (go_at_call 154; refine ((st1.set_st st).date HC.out hr0 (by omega) hy hyne hws).mono ?_; rw [HD.out]; rintro e X2 ⟨he, hgX⟩; obtain rfl : e = .panicked [unread] := he))
  exact ⟨rfl, rfl, hgX⟩
set_option maxRecDepth 100000 in
set_option maxHeartbeats 4000000 in
theorem c117_d_lstop (r : Nat) (hr0 : 0 < r) (x y : List UInt8) (ws : List (List UInt8)) (last : Card) (w : World) (hc : Cell0 w) (h : Reader w r (x :: y :: ws) last false) (hl : ws.length ≤ 198) (hx : x.length ≤ 200) (hy : y.length ≤ 200) (hyne : y ≠ []) (hws : ∀ z ∈ ws, z.length ≤ 200)
    (st : Int) (hs : stationO x last = some st)
    (d : Dt) (ws2 : List (List UInt8)) (hd : dateW y ws last = .date d ws2) (hl2 : ws2.length ≤ 198) (hws2 : ∀ z ∈ ws2, z.length ≤ 200) (hL : lumpW ws2 = .stop) :
    Calls Tryz.prog 117 #[.pointer (some ⟨r, 0, none⟩)] w fun e w' => rdEnd (.form) e ∧ w.grownBy w' (some r) := by
  have st0 := CSt.start h
  have H153 := Lib.hid (st0.station (by simp; omega) hx)
  have HS := Lib.hid hs
  have HD := Lib.hid hd
  have HC := Lib.hid hc
  clear hs hd h st0 hc
  have HL := Lib.hid hL
  clear hL
  obtain ⟨dy, dm, dd⟩ := d
  go_enter Tryz.func117, Tryz.ntmps117
  go_wp2_with (first
    | (go_at_call 153; refine H153.out.mono ?_; rw [HS.out]; rintro e X1 ⟨he, st1⟩; obtain rfl : e = .returned (.int .i64 st) := he; obtain ⟨g0, g1, g2, g3, g4, g5, gF, gL⟩ := cellsOf_at st1.bl)
    | (go_at_call 154; refine ((st1.set_st st).date HC.out hr0 (by omega) hy hyne hws).mono ?_; rw [HD.out]; rintro e X2 ⟨he, st2⟩; obtain rfl : e = .returned (dtv ⟨dy, dm, dd⟩) := he; unfold dtv)
    | (go_at_call 155; refine ((st2.add _).lump (by omega) hws2).mono ?_; rw [HL.out]; rintro e X3 ⟨he, hgX⟩; obtain rfl : e = .panicked [unread] := he))
  exact ⟨rfl, rfl, hgX⟩
set_option maxRecDepth 100000 in
set_option maxHeartbeats 4000000 in
theorem c117_n_lstop (r : Nat) (hr0 : 0 < r) (x y : List UInt8) (ws : List (List UInt8)) (last : Card) (w : World) (hc : Cell0 w) (h : Reader w r (x :: y :: ws) last false) (hl : ws.length ≤ 198) (hx : x.length ≤ 200) (hy : y.length ≤ 200) (hyne : y ≠ []) (hws : ∀ z ∈ ws, z.length ≤ 200)
    (st : Int) (hs : stationO x last = some st)
    (ws2 : List (List UInt8)) (hd : dateW y ws last = .next ws2) (hl2 : ws2.length ≤ 198) (hws2 : ∀ z ∈ ws2, z.length ≤ 200) (hL : lumpW ws2 = .stop) :
    Calls Tryz.prog 117 #[.pointer (some ⟨r, 0, none⟩)] w fun e w' => rdEnd (.form) e ∧ w.grownBy w' (some r) := by
  have st0 := CSt.start h
  have H153 := Lib.hid (st0.station (by simp; omega) hx)
  have HS := Lib.hid hs
  have HD := Lib.hid hd
  have HC := Lib.hid hc
  clear hs hd h st0 hc
  have HL := Lib.hid hL
  clear hL
  go_enter Tryz.func117, Tryz.ntmps117
  go_wp2_with (first
    | (go_at_call 153; refine H153.out.mono ?_; rw [HS.out]; rintro e X1 ⟨he, st1⟩; obtain rfl : e = .returned (.int .i64 st) := he; obtain ⟨g0, g1, g2, g3, g4, g5, gF, gL⟩ := cellsOf_at st1.bl)
    | (go_at_call 154; refine ((st1.set_st st).date HC.out hr0 (by omega) hy hyne hws).mono ?_; rw [HD.out]; rintro e X2 ⟨he, st2⟩; obtain rfl : e = .returned (dtv ⟨0, 0, 0⟩) := he; unfold dtv)
    | (go_at_call 155; refine ((st2.add _).lump (by omega) hws2).mono ?_; rw [HL.out]; rintro e X3 ⟨he, hgX⟩; obtain rfl : e = .panicked [unread] := he))
  exact ⟨rfl, rfl, hgX⟩
set_option maxRecDepth 100000 in
set_option maxHeartbeats 4000000 in
theorem c117_d_astop (r : Nat) (hr0 : 0 < r) (x y : List UInt8) (ws : List (List UInt8)) (last : Card) (w : World) (hc : Cell0 w) (h : Reader w r (x :: y :: ws) last false) (hl : ws.length ≤ 198) (hx : x.length ≤ 200) (hy : y.length ≤ 200) (hyne : y ≠ []) (hws : ∀ z ∈ ws, z.length ≤ 200)
    (st : Int) (hs : stationO x last = some st)
    (d : Dt) (ws2 : List (List UInt8)) (hd : dateW y ws last = .date d ws2) (hl2 : ws2.length ≤ 198) (hws2 : ∀ z ∈ ws2, z.length ≤ 200)
    (n : Int) (ws3 : List (List UInt8)) (hL : lumpW ws2 = .got n ws3) (hl3 : ws3.length ≤ 198) (hws3 : ∀ z ∈ ws3, z.length ≤ 200) (hA : amtW ws3 = .stop) :
    Calls Tryz.prog 117 #[.pointer (some ⟨r, 0, none⟩)] w fun e w' => rdEnd (.form) e ∧ w.grownBy w' (some r) := by
  have st0 := CSt.start h
  have H153 := Lib.hid (st0.station (by simp; omega) hx)
  have HS := Lib.hid hs
  have HD := Lib.hid hd
  have HC := Lib.hid hc
  clear hs hd h st0 hc
  have HL := Lib.hid hL
  clear hL
  have HA := Lib.hid hA
  clear hA
  obtain ⟨dy, dm, dd⟩ := d
  go_enter Tryz.func117, Tryz.ntmps117
  go_wp2_with (first
    | (go_at_call 153; refine H153.out.mono ?_; rw [HS.out]; rintro e X1 ⟨he, st1⟩; obtain rfl : e = .returned (.int .i64 st) := he; obtain ⟨g0, g1, g2, g3, g4, g5, gF, gL⟩ := cellsOf_at st1.bl)
    | (go_at_call 154; refine ((st1.set_st st).date HC.out hr0 (by omega) hy hyne hws).mono ?_; rw [HD.out]; rintro e X2 ⟨he, st2⟩; obtain rfl : e = .returned (dtv ⟨dy, dm, dd⟩) := he; unfold dtv)
    | (go_at_call 155; refine ((st2.add _).lump (by omega) hws2).mono ?_; rw [HL.out]; rintro e X3 ⟨he, st3⟩; obtain rfl : e = .returned (.int .i64 n) := he; obtain ⟨k0, k1, k2, k3, k4, k5, kF, kL⟩ := cellsOf_at st3.bl)
    | (go_at_call 156; refine (c156 w _ r _ _ ws3 last false _ (st3.set_dy n) (by omega) hws3 rfl rfl).mono ?_; rw [HA.out]; rintro e X4 ⟨he, hgX⟩; obtain rfl : e = .panicked [unread] := he))
  exact ⟨rfl, rfl, hgX⟩
set_option maxRecDepth 100000 in
set_option maxHeartbeats 4000000 in
theorem c117_n_astop (r : Nat) (hr0 : 0 < r) (x y : List UInt8) (ws : List (List UInt8)) (last : Card) (w : World) (hc : Cell0 w) (h : Reader w r (x :: y :: ws) last false) (hl : ws.length ≤ 198) (hx : x.length ≤ 200) (hy : y.length ≤ 200) (hyne : y ≠ []) (hws : ∀ z ∈ ws, z.length ≤ 200)
    (st : Int) (hs : stationO x last = some st)
    (ws2 : List (List UInt8)) (hd : dateW y ws last = .next ws2) (hl2 : ws2.length ≤ 198) (hws2 : ∀ z ∈ ws2, z.length ≤ 200)
    (n : Int) (ws3 : List (List UInt8)) (hL : lumpW ws2 = .got n ws3) (hl3 : ws3.length ≤ 198) (hws3 : ∀ z ∈ ws3, z.length ≤ 200) (hA : amtW ws3 = .stop) :
    Calls Tryz.prog 117 #[.pointer (some ⟨r, 0, none⟩)] w fun e w' => rdEnd (.form) e ∧ w.grownBy w' (some r) := by
  have st0 := CSt.start h
  have H153 := Lib.hid (st0.station (by simp; omega) hx)
  have HS := Lib.hid hs
  have HD := Lib.hid hd
  have HC := Lib.hid hc
  clear hs hd h st0 hc
  have HL := Lib.hid hL
  clear hL
  have HA := Lib.hid hA
  clear hA
  go_enter Tryz.func117, Tryz.ntmps117
  go_wp2_with (first
    | (go_at_call 153; refine H153.out.mono ?_; rw [HS.out]; rintro e X1 ⟨he, st1⟩; obtain rfl : e = .returned (.int .i64 st) := he; obtain ⟨g0, g1, g2, g3, g4, g5, gF, gL⟩ := cellsOf_at st1.bl)
    | (go_at_call 154; refine ((st1.set_st st).date HC.out hr0 (by omega) hy hyne hws).mono ?_; rw [HD.out]; rintro e X2 ⟨he, st2⟩; obtain rfl : e = .returned (dtv ⟨0, 0, 0⟩) := he; unfold dtv)
    | (go_at_call 155; refine ((st2.add _).lump (by omega) hws2).mono ?_; rw [HL.out]; rintro e X3 ⟨he, st3⟩; obtain rfl : e = .returned (.int .i64 n) := he; obtain ⟨k0, k1, k2, k3, k4, k5, kF, kL⟩ := cellsOf_at st3.bl)
    | (go_at_call 156; refine (c156 w _ r _ _ ws3 last true _ (st3.set_dy n) (by omega) hws3 rfl rfl).mono ?_; rw [HA.out]; rintro e X4 ⟨he, hgX⟩; obtain rfl : e = .panicked [unread] := he))
  exact ⟨rfl, rfl, hgX⟩
set_option maxRecDepth 100000 in
set_option maxHeartbeats 4000000 in
theorem c117_d_left (r : Nat) (hr0 : 0 < r) (x y : List UInt8) (ws : List (List UInt8)) (last : Card) (w : World) (hc : Cell0 w) (h : Reader w r (x :: y :: ws) last false) (hl : ws.length ≤ 198) (hx : x.length ≤ 200) (hy : y.length ≤ 200) (hyne : y ≠ []) (hws : ∀ z ∈ ws, z.length ≤ 200)
    (st : Int) (hs : stationO x last = some st)
    (d : Dt) (ws2 : List (List UInt8)) (hd : dateW y ws last = .date d ws2) (hl2 : ws2.length ≤ 198) (hws2 : ∀ z ∈ ws2, z.length ≤ 200)
    (n : Int) (ws3 : List (List UInt8)) (hL : lumpW ws2 = .got n ws3) (hl3 : ws3.length ≤ 198) (hws3 : ∀ z ∈ ws3, z.length ≤ 200) (k a f : Int) (x4 : List UInt8) (ws4 : List (List UInt8)) (hA : amtW ws3 = .got k a f (x4 :: ws4)) :
    Calls Tryz.prog 117 #[.pointer (some ⟨r, 0, none⟩)] w fun e w' => rdEnd (.form) e ∧ w.grownBy w' (some r) := by
  have st0 := CSt.start h
  have H153 := Lib.hid (st0.station (by simp; omega) hx)
  have HS := Lib.hid hs
  have HD := Lib.hid hd
  have HC := Lib.hid hc
  clear hs hd h st0 hc
  have HL := Lib.hid hL
  clear hL
  have HA := Lib.hid hA
  clear hA
  obtain ⟨dy, dm, dd⟩ := d
  go_enter Tryz.func117, Tryz.ntmps117
  go_wp2_with (first
    | (go_at_call 153; refine H153.out.mono ?_; rw [HS.out]; rintro e X1 ⟨he, st1⟩; obtain rfl : e = .returned (.int .i64 st) := he; obtain ⟨g0, g1, g2, g3, g4, g5, gF, gL⟩ := cellsOf_at st1.bl)
    | (go_at_call 154; refine ((st1.set_st st).date HC.out hr0 (by omega) hy hyne hws).mono ?_; rw [HD.out]; rintro e X2 ⟨he, st2⟩; obtain rfl : e = .returned (dtv ⟨dy, dm, dd⟩) := he; unfold dtv)
    | (go_at_call 155; refine ((st2.add _).lump (by omega) hws2).mono ?_; rw [HL.out]; rintro e X3 ⟨he, st3⟩; obtain rfl : e = .returned (.int .i64 n) := he; obtain ⟨k0, k1, k2, k3, k4, k5, kF, kL⟩ := cellsOf_at st3.bl)
    | (go_at_call 156; refine (c156 w _ r _ _ ws3 last false _ (st3.set_dy n) (by omega) hws3 rfl rfl).mono ?_; rw [HA.out]; rintro e X4 ⟨he, st4⟩; obtain rfl : e = .returned (.tuple #[]) := he; obtain ⟨m0, m1, m2, m3, m4, m5, mF, mL⟩ := cellsOf_at st4.bl; obtain ⟨q2, q7, -⟩ := reader_da st4.rd; obtain ⟨⟨rb, ro, rc, q0, -⟩, qL⟩ := reader_some st4.rd; obtain ⟨u0, u1, u2, uL⟩ := cells_dt (st4.dl _ (List.mem_cons_self ..)).1; obtain ⟨v0, v1, v2, v3, v4, v5, vF, vL⟩ := cellsOf_at (st4.dl (w.heap.size, cellsOf zcard) (by simp)).1; have hsz := st2.lt))
  exact ⟨rfl, rfl, st4.gr⟩
set_option maxRecDepth 100000 in
set_option maxHeartbeats 4000000 in
theorem c117_n_left (r : Nat) (hr0 : 0 < r) (x y : List UInt8) (ws : List (List UInt8)) (last : Card) (w : World) (hc : Cell0 w) (h : Reader w r (x :: y :: ws) last false) (hl : ws.length ≤ 198) (hx : x.length ≤ 200) (hy : y.length ≤ 200) (hyne : y ≠ []) (hws : ∀ z ∈ ws, z.length ≤ 200)
    (st : Int) (hs : stationO x last = some st)
    (ws2 : List (List UInt8)) (hd : dateW y ws last = .next ws2) (hl2 : ws2.length ≤ 198) (hws2 : ∀ z ∈ ws2, z.length ≤ 200)
    (n : Int) (ws3 : List (List UInt8)) (hL : lumpW ws2 = .got n ws3) (hl3 : ws3.length ≤ 198) (hws3 : ∀ z ∈ ws3, z.length ≤ 200) (k a f : Int) (x4 : List UInt8) (ws4 : List (List UInt8)) (hA : amtW ws3 = .got k a f (x4 :: ws4)) :
    Calls Tryz.prog 117 #[.pointer (some ⟨r, 0, none⟩)] w fun e w' => rdEnd (.form) e ∧ w.grownBy w' (some r) := by
  have st0 := CSt.start h
  have H153 := Lib.hid (st0.station (by simp; omega) hx)
  have HS := Lib.hid hs
  have HD := Lib.hid hd
  have HC := Lib.hid hc
  clear hs hd h st0 hc
  have HL := Lib.hid hL
  clear hL
  have HA := Lib.hid hA
  clear hA
  go_enter Tryz.func117, Tryz.ntmps117
  go_wp2_with (first
    | (go_at_call 153; refine H153.out.mono ?_; rw [HS.out]; rintro e X1 ⟨he, st1⟩; obtain rfl : e = .returned (.int .i64 st) := he; obtain ⟨g0, g1, g2, g3, g4, g5, gF, gL⟩ := cellsOf_at st1.bl)
    | (go_at_call 154; refine ((st1.set_st st).date HC.out hr0 (by omega) hy hyne hws).mono ?_; rw [HD.out]; rintro e X2 ⟨he, st2⟩; obtain rfl : e = .returned (dtv ⟨0, 0, 0⟩) := he; unfold dtv)
    | (go_at_call 155; refine ((st2.add _).lump (by omega) hws2).mono ?_; rw [HL.out]; rintro e X3 ⟨he, st3⟩; obtain rfl : e = .returned (.int .i64 n) := he; obtain ⟨k0, k1, k2, k3, k4, k5, kF, kL⟩ := cellsOf_at st3.bl)
    | (go_at_call 156; refine (c156 w _ r _ _ ws3 last true _ (st3.set_dy n) (by omega) hws3 rfl rfl).mono ?_; rw [HA.out]; rintro e X4 ⟨he, st4⟩; obtain rfl : e = .returned (.tuple #[]) := he; obtain ⟨m0, m1, m2, m3, m4, m5, mF, mL⟩ := cellsOf_at st4.bl; obtain ⟨q2, q7, -⟩ := reader_da st4.rd; obtain ⟨⟨rb, ro, rc, q0, -⟩, qL⟩ := reader_some st4.rd; obtain ⟨u0, u1, u2, uL⟩ := cells_dt (st4.dl _ (List.mem_cons_self ..)).1; obtain ⟨v0, v1, v2, v3, v4, v5, vF, vL⟩ := cellsOf_at (st4.dl (w.heap.size, cellsOf zcard) (by simp)).1; have hsz := st2.lt))
  exact ⟨rfl, rfl, st4.gr⟩
end Go.Proofs.YthifeoebefbalaaGreatDoor

namespace Go.Proofs.YthifeoebefbalaaGreatDoor
open Go.RowKit

set_option maxRecDepth 100000 in
set_option maxHeartbeats 4000000 in
theorem c117_d_yes (r : Nat) (hr0 : 0 < r) (x y : List UInt8) (ws : List (List UInt8)) (last : Card) (w : World) (hc : Cell0 w) (h : Reader w r (x :: y :: ws) last false) (hl : ws.length ≤ 198) (hx : x.length ≤ 200) (hy : y.length ≤ 200) (hyne : y ≠ []) (hws : ∀ z ∈ ws, z.length ≤ 200)
    (st : Int) (hs : stationO x last = some st)
    (dy dm dd : Int) (ws2 : List (List UInt8)) (hd : dateW y ws last = .date ⟨dy, dm, dd⟩ ws2) (hl2 : ws2.length ≤ 198) (hws2 : ∀ z ∈ ws2, z.length ≤ 200)
    (n : Int) (ws3 : List (List UInt8)) (hL : lumpW ws2 = .got n ws3) (hl3 : ws3.length ≤ 198) (hws3 : ∀ z ∈ ws3, z.length ≤ 200) (k a f : Int) (hA : amtW ws3 = .got k a f []) (da : Int) (hN : dnum dy dm dd = some da) (hI : isCard ⟨st, da, n, k, a, f⟩ = true) :
    Calls Tryz.prog 117 #[.pointer (some ⟨r, 0, none⟩)] w fun e w' => rdEnd (.got ⟨st, da, n, k, a, f⟩) e ∧ w.grownBy w' (some r) := by
  have st0 := CSt.start h
  have H153 := Lib.hid (st0.station (by simp; omega) hx)
  have HS := Lib.hid hs
  have HD := Lib.hid hd
  have HC := Lib.hid hc
  clear hs hd h st0 hc
  have HL := Lib.hid hL
  clear hL
  have HA := Lib.hid hA
  clear hA
  have HN := Lib.hid hN
  clear hN
  have HI := Lib.hid hI
  clear hI
  go_enter Tryz.func117, Tryz.ntmps117
  go_wp2_with (first
    | (go_at_call 153; refine H153.out.mono ?_; rw [HS.out]; rintro e X1 ⟨he, st1⟩; obtain rfl : e = .returned (.int .i64 st) := he; obtain ⟨g0, g1, g2, g3, g4, g5, gF, gL⟩ := cellsOf_at st1.bl)
    | (go_at_call 154; refine ((st1.set_st st).date HC.out hr0 (by omega) hy hyne hws).mono ?_; rw [HD.out]; rintro e X2 ⟨he, st2⟩; obtain rfl : e = .returned (dtv ⟨dy, dm, dd⟩) := he; unfold dtv)
    | (go_at_call 155; refine ((st2.add _).lump (by omega) hws2).mono ?_; rw [HL.out]; rintro e X3 ⟨he, st3⟩; obtain rfl : e = .returned (.int .i64 n) := he; obtain ⟨k0, k1, k2, k3, k4, k5, kF, kL⟩ := cellsOf_at st3.bl)
    | (go_at_call 156; refine (c156 w _ r _ _ ws3 last false _ (st3.set_dy n) (by omega) hws3 rfl rfl).mono ?_; rw [HA.out]; rintro e X4 ⟨he, st4⟩; obtain rfl : e = .returned (.tuple #[]) := he; obtain ⟨m0, m1, m2, m3, m4, m5, mF, mL⟩ := cellsOf_at st4.bl; obtain ⟨q2, q7, -⟩ := reader_da st4.rd; obtain ⟨⟨ra, rc, q0⟩, qL⟩ := reader_none st4.rd; obtain ⟨u0, u1, u2, uL⟩ := cells_dt (st4.dl _ (List.mem_cons_self ..)).1; obtain ⟨v0, v1, v2, v3, v4, v5, vF, vL⟩ := cellsOf_at (st4.dl (w.heap.size, cellsOf zcard) (by simp)).1; have hsz := st2.lt))
  clear g0 g1 g2 g3 g4 g5 gF gL k0 k1 k2 k3 k4 k5 kF kL H153
  go_still_tail 9, (by kernel_rfl)
  go_wp2_with (first
    | (go_at_call 157; refine (c157 _ _ _ _).mono ?_; rw [HN.out]; rintro e X5 ⟨rfl, hb5⟩; simp only [errno, Option.isSome_some, Option.isSome_none, Bool.false_eq_true, if_false, if_true, Option.getD_some, Option.getD_none]; have st5 := ((st4.set_da (wrap64 (last.da + n))).grown (xd (xr _))).grown hb5; obtain ⟨j0, j1, j2, j3, j4, j5, jF, jL⟩ := cellsOf_at st5.bl; obtain ⟨t0, t1, t2, t3, t4, t5, tF, tL⟩ := cellsOf_at (st5.dl (w.heap.size, cellsOf zcard) (by simp)).1)
    | (go_at_call 76; refine (c76 _ _ _ _ _ _ _).mono ?_; rw [HI.out]; rintro e X6 ⟨rfl, hb6⟩; have st6 := (st5.set_da da).grown hb6; obtain ⟨i0, i1, i2, i3, i4, i5, iF, iL⟩ := cellsOf_at st6.bl; obtain ⟨s0, s1, s2, s3, s4, s5, sF, sL⟩ := cellsOf_at (st6.dl (w.heap.size, cellsOf zcard) (by simp)).1))
  obtain ⟨Y, hY, hYb, hYg⟩ := store6 (st6.dl (w.heap.size, cellsOf zcard) (by simp)).1 st da n k a f
  rw [hY]
  obtain ⟨y0, y1, y2, y3, y4, y5, yF, yL⟩ := cellsOf_at hYb
  have hg := hYg w r st6.gr (Nat.le_refl _)
  clear hY hYb hYg
  exact bodyPost_ret (v := .tuple #[cv ⟨st, da, n, k, a, f⟩, .int .i64 0]) (by simp [results, Tryz.results117, go_sem, cv, zcard, y0, y1, y2, y3, y4, y5]) rfl ⟨rfl, hg⟩
set_option maxRecDepth 100000 in
set_option maxHeartbeats 4000000 in
theorem c117_d_no (r : Nat) (hr0 : 0 < r) (x y : List UInt8) (ws : List (List UInt8)) (last : Card) (w : World) (hc : Cell0 w) (h : Reader w r (x :: y :: ws) last false) (hl : ws.length ≤ 198) (hx : x.length ≤ 200) (hy : y.length ≤ 200) (hyne : y ≠ []) (hws : ∀ z ∈ ws, z.length ≤ 200)
    (st : Int) (hs : stationO x last = some st)
    (dy dm dd : Int) (ws2 : List (List UInt8)) (hd : dateW y ws last = .date ⟨dy, dm, dd⟩ ws2) (hl2 : ws2.length ≤ 198) (hws2 : ∀ z ∈ ws2, z.length ≤ 200)
    (n : Int) (ws3 : List (List UInt8)) (hL : lumpW ws2 = .got n ws3) (hl3 : ws3.length ≤ 198) (hws3 : ∀ z ∈ ws3, z.length ≤ 200) (k a f : Int) (hA : amtW ws3 = .got k a f []) (da : Int) (hN : dnum dy dm dd = some da) (hI : isCard ⟨st, da, n, k, a, f⟩ = false) :
    Calls Tryz.prog 117 #[.pointer (some ⟨r, 0, none⟩)] w fun e w' => rdEnd (.err 3) e ∧ w.grownBy w' (some r) := by
  have st0 := CSt.start h
  have H153 := Lib.hid (st0.station (by simp; omega) hx)
  have HS := Lib.hid hs
  have HD := Lib.hid hd
  have HC := Lib.hid hc
  clear hs hd h st0 hc
  have HL := Lib.hid hL
  clear hL
  have HA := Lib.hid hA
  clear hA
  have HN := Lib.hid hN
  clear hN
  have HI := Lib.hid hI
  clear hI
  go_enter Tryz.func117, Tryz.ntmps117
  go_wp2_with (first
    | (go_at_call 153; refine H153.out.mono ?_; rw [HS.out]; rintro e X1 ⟨he, st1⟩; obtain rfl : e = .returned (.int .i64 st) := he; obtain ⟨g0, g1, g2, g3, g4, g5, gF, gL⟩ := cellsOf_at st1.bl)
    | (go_at_call 154; refine ((st1.set_st st).date HC.out hr0 (by omega) hy hyne hws).mono ?_; rw [HD.out]; rintro e X2 ⟨he, st2⟩; obtain rfl : e = .returned (dtv ⟨dy, dm, dd⟩) := he; unfold dtv)
    | (go_at_call 155; refine ((st2.add _).lump (by omega) hws2).mono ?_; rw [HL.out]; rintro e X3 ⟨he, st3⟩; obtain rfl : e = .returned (.int .i64 n) := he; obtain ⟨k0, k1, k2, k3, k4, k5, kF, kL⟩ := cellsOf_at st3.bl)
    | (go_at_call 156; refine (c156 w _ r _ _ ws3 last false _ (st3.set_dy n) (by omega) hws3 rfl rfl).mono ?_; rw [HA.out]; rintro e X4 ⟨he, st4⟩; obtain rfl : e = .returned (.tuple #[]) := he; obtain ⟨m0, m1, m2, m3, m4, m5, mF, mL⟩ := cellsOf_at st4.bl; obtain ⟨q2, q7, -⟩ := reader_da st4.rd; obtain ⟨⟨ra, rc, q0⟩, qL⟩ := reader_none st4.rd; obtain ⟨u0, u1, u2, uL⟩ := cells_dt (st4.dl _ (List.mem_cons_self ..)).1; obtain ⟨v0, v1, v2, v3, v4, v5, vF, vL⟩ := cellsOf_at (st4.dl (w.heap.size, cellsOf zcard) (by simp)).1; have hsz := st2.lt))
  clear g0 g1 g2 g3 g4 g5 gF gL k0 k1 k2 k3 k4 k5 kF kL H153
  go_still_tail 9, (by kernel_rfl)
  go_wp2_with (first
    | (go_at_call 157; refine (c157 _ _ _ _).mono ?_; rw [HN.out]; rintro e X5 ⟨rfl, hb5⟩; simp only [errno, Option.isSome_some, Option.isSome_none, Bool.false_eq_true, if_false, if_true, Option.getD_some, Option.getD_none]; have st5 := ((st4.set_da (wrap64 (last.da + n))).grown (xd (xr _))).grown hb5; obtain ⟨j0, j1, j2, j3, j4, j5, jF, jL⟩ := cellsOf_at st5.bl; obtain ⟨t0, t1, t2, t3, t4, t5, tF, tL⟩ := cellsOf_at (st5.dl (w.heap.size, cellsOf zcard) (by simp)).1)
    | (go_at_call 76; refine (c76 _ _ _ _ _ _ _).mono ?_; rw [HI.out]; rintro e X6 ⟨rfl, hb6⟩; have st6 := (st5.set_da da).grown hb6; obtain ⟨i0, i1, i2, i3, i4, i5, iF, iL⟩ := cellsOf_at st6.bl; obtain ⟨s0, s1, s2, s3, s4, s5, sF, sL⟩ := cellsOf_at (st6.dl (w.heap.size, cellsOf zcard) (by simp)).1))
  obtain ⟨Y, hY, hYb, hYg⟩ := store6 (st6.dl (w.heap.size, cellsOf zcard) (by simp)).1 0 0 0 0 0 0
  rw [hY]
  obtain ⟨y0, y1, y2, y3, y4, y5, yF, yL⟩ := cellsOf_at hYb
  have hg := hYg w r st6.gr (Nat.le_refl _)
  clear hY hYb hYg
  exact bodyPost_ret (v := .tuple #[cv zcard, .int .i64 3]) (by simp [results, Tryz.results117, go_sem, cv, zcard, y0, y1, y2, y3, y4, y5]) rfl ⟨rfl, hg⟩
set_option maxRecDepth 100000 in
set_option maxHeartbeats 4000000 in
theorem c117_d_none (r : Nat) (hr0 : 0 < r) (x y : List UInt8) (ws : List (List UInt8)) (last : Card) (w : World) (hc : Cell0 w) (h : Reader w r (x :: y :: ws) last false) (hl : ws.length ≤ 198) (hx : x.length ≤ 200) (hy : y.length ≤ 200) (hyne : y ≠ []) (hws : ∀ z ∈ ws, z.length ≤ 200)
    (st : Int) (hs : stationO x last = some st)
    (dy dm dd : Int) (ws2 : List (List UInt8)) (hd : dateW y ws last = .date ⟨dy, dm, dd⟩ ws2) (hl2 : ws2.length ≤ 198) (hws2 : ∀ z ∈ ws2, z.length ≤ 200)
    (n : Int) (ws3 : List (List UInt8)) (hL : lumpW ws2 = .got n ws3) (hl3 : ws3.length ≤ 198) (hws3 : ∀ z ∈ ws3, z.length ≤ 200) (k a f : Int) (hA : amtW ws3 = .got k a f []) (hN : dnum dy dm dd = none) :
    Calls Tryz.prog 117 #[.pointer (some ⟨r, 0, none⟩)] w fun e w' => rdEnd (.err 3) e ∧ w.grownBy w' (some r) := by
  have st0 := CSt.start h
  have H153 := Lib.hid (st0.station (by simp; omega) hx)
  have HS := Lib.hid hs
  have HD := Lib.hid hd
  have HC := Lib.hid hc
  clear hs hd h st0 hc
  have HL := Lib.hid hL
  clear hL
  have HA := Lib.hid hA
  clear hA
  have HN := Lib.hid hN
  clear hN
  go_enter Tryz.func117, Tryz.ntmps117
  go_wp2_with (first
    | (go_at_call 153; refine H153.out.mono ?_; rw [HS.out]; rintro e X1 ⟨he, st1⟩; obtain rfl : e = .returned (.int .i64 st) := he; obtain ⟨g0, g1, g2, g3, g4, g5, gF, gL⟩ := cellsOf_at st1.bl)
    | (go_at_call 154; refine ((st1.set_st st).date HC.out hr0 (by omega) hy hyne hws).mono ?_; rw [HD.out]; rintro e X2 ⟨he, st2⟩; obtain rfl : e = .returned (dtv ⟨dy, dm, dd⟩) := he; unfold dtv)
    | (go_at_call 155; refine ((st2.add _).lump (by omega) hws2).mono ?_; rw [HL.out]; rintro e X3 ⟨he, st3⟩; obtain rfl : e = .returned (.int .i64 n) := he; obtain ⟨k0, k1, k2, k3, k4, k5, kF, kL⟩ := cellsOf_at st3.bl)
    | (go_at_call 156; refine (c156 w _ r _ _ ws3 last false _ (st3.set_dy n) (by omega) hws3 rfl rfl).mono ?_; rw [HA.out]; rintro e X4 ⟨he, st4⟩; obtain rfl : e = .returned (.tuple #[]) := he; obtain ⟨m0, m1, m2, m3, m4, m5, mF, mL⟩ := cellsOf_at st4.bl; obtain ⟨q2, q7, -⟩ := reader_da st4.rd; obtain ⟨⟨ra, rc, q0⟩, qL⟩ := reader_none st4.rd; obtain ⟨u0, u1, u2, uL⟩ := cells_dt (st4.dl _ (List.mem_cons_self ..)).1; obtain ⟨v0, v1, v2, v3, v4, v5, vF, vL⟩ := cellsOf_at (st4.dl (w.heap.size, cellsOf zcard) (by simp)).1; have hsz := st2.lt))
  clear g0 g1 g2 g3 g4 g5 gF gL k0 k1 k2 k3 k4 k5 kF kL H153
  go_still_tail 9, (by kernel_rfl)
  go_wp2_with (first
    | (go_at_call 157; refine (c157 _ _ _ _).mono ?_; rw [HN.out]; rintro e X5 ⟨rfl, hb5⟩; simp only [errno, Option.isSome_some, Option.isSome_none, Bool.false_eq_true, if_false, if_true, Option.getD_some, Option.getD_none]; have st5 := ((st4.set_da (wrap64 (last.da + n))).grown (xd (xr _))).grown hb5; obtain ⟨j0, j1, j2, j3, j4, j5, jF, jL⟩ := cellsOf_at st5.bl; obtain ⟨t0, t1, t2, t3, t4, t5, tF, tL⟩ := cellsOf_at (st5.dl (w.heap.size, cellsOf zcard) (by simp)).1))
  obtain ⟨Y, hY, hYb, hYg⟩ := store6 (st5.dl (w.heap.size, cellsOf zcard) (by simp)).1 0 0 0 0 0 0
  rw [hY]
  obtain ⟨y0, y1, y2, y3, y4, y5, yF, yL⟩ := cellsOf_at hYb
  have hg := hYg w r st5.gr (Nat.le_refl _)
  clear hY hYb hYg
  exact bodyPost_ret (v := .tuple #[cv zcard, .int .i64 3]) (by simp [results, Tryz.results117, go_sem, cv, zcard, y0, y1, y2, y3, y4, y5]) rfl ⟨rfl, hg⟩
set_option maxRecDepth 100000 in
set_option maxHeartbeats 4000000 in
theorem c117_n_yes (r : Nat) (hr0 : 0 < r) (x y : List UInt8) (ws : List (List UInt8)) (last : Card) (w : World) (hc : Cell0 w) (h : Reader w r (x :: y :: ws) last false) (hl : ws.length ≤ 198) (hx : x.length ≤ 200) (hy : y.length ≤ 200) (hyne : y ≠ []) (hws : ∀ z ∈ ws, z.length ≤ 200)
    (st : Int) (hs : stationO x last = some st)
    (ws2 : List (List UInt8)) (hd : dateW y ws last = .next ws2) (hl2 : ws2.length ≤ 198) (hws2 : ∀ z ∈ ws2, z.length ≤ 200)
    (n : Int) (ws3 : List (List UInt8)) (hL : lumpW ws2 = .got n ws3) (hl3 : ws3.length ≤ 198) (hws3 : ∀ z ∈ ws3, z.length ≤ 200) (k a f : Int) (hA : amtW ws3 = .got k a f []) (hI : isCard ⟨st, (wrap64 (last.da + n)), n, k, a, f⟩ = true) :
    Calls Tryz.prog 117 #[.pointer (some ⟨r, 0, none⟩)] w fun e w' => rdEnd (.got ⟨st, (wrap64 (last.da + n)), n, k, a, f⟩) e ∧ w.grownBy w' (some r) := by
  have st0 := CSt.start h
  have H153 := Lib.hid (st0.station (by simp; omega) hx)
  have HS := Lib.hid hs
  have HD := Lib.hid hd
  have HC := Lib.hid hc
  clear hs hd h st0 hc
  have HL := Lib.hid hL
  clear hL
  have HA := Lib.hid hA
  clear hA
  have HI := Lib.hid hI
  clear hI
  go_enter Tryz.func117, Tryz.ntmps117
  go_wp2_with (first
    | (go_at_call 153; refine H153.out.mono ?_; rw [HS.out]; rintro e X1 ⟨he, st1⟩; obtain rfl : e = .returned (.int .i64 st) := he; obtain ⟨g0, g1, g2, g3, g4, g5, gF, gL⟩ := cellsOf_at st1.bl)
    | (go_at_call 154; refine ((st1.set_st st).date HC.out hr0 (by omega) hy hyne hws).mono ?_; rw [HD.out]; rintro e X2 ⟨he, st2⟩; obtain rfl : e = .returned (dtv ⟨0, 0, 0⟩) := he; unfold dtv)
    | (go_at_call 155; refine ((st2.add _).lump (by omega) hws2).mono ?_; rw [HL.out]; rintro e X3 ⟨he, st3⟩; obtain rfl : e = .returned (.int .i64 n) := he; obtain ⟨k0, k1, k2, k3, k4, k5, kF, kL⟩ := cellsOf_at st3.bl)
    | (go_at_call 156; refine (c156 w _ r _ _ ws3 last true _ (st3.set_dy n) (by omega) hws3 rfl rfl).mono ?_; rw [HA.out]; rintro e X4 ⟨he, st4⟩; obtain rfl : e = .returned (.tuple #[]) := he; obtain ⟨m0, m1, m2, m3, m4, m5, mF, mL⟩ := cellsOf_at st4.bl; obtain ⟨q2, q7, -⟩ := reader_da st4.rd; obtain ⟨⟨ra, rc, q0⟩, qL⟩ := reader_none st4.rd; obtain ⟨u0, u1, u2, uL⟩ := cells_dt (st4.dl _ (List.mem_cons_self ..)).1; obtain ⟨v0, v1, v2, v3, v4, v5, vF, vL⟩ := cellsOf_at (st4.dl (w.heap.size, cellsOf zcard) (by simp)).1; have hsz := st2.lt))
  clear g0 g1 g2 g3 g4 g5 gF gL k0 k1 k2 k3 k4 k5 kF kL H153
  go_still_tail 9, (by kernel_rfl)
  go_wp2_with (first
    | (go_at_call 76; refine (c76 _ _ _ _ _ _ _).mono ?_; rw [HI.out]; rintro e X6 ⟨rfl, hb6⟩; have st6 := ((st4.set_da (wrap64 (last.da + n))).grown (xd (xr _))).grown hb6; obtain ⟨i0, i1, i2, i3, i4, i5, iF, iL⟩ := cellsOf_at st6.bl; obtain ⟨s0, s1, s2, s3, s4, s5, sF, sL⟩ := cellsOf_at (st6.dl (w.heap.size, cellsOf zcard) (by simp)).1))
  obtain ⟨Y, hY, hYb, hYg⟩ := store6 (st6.dl (w.heap.size, cellsOf zcard) (by simp)).1 st (wrap64 (last.da + n)) n k a f
  rw [hY]
  obtain ⟨y0, y1, y2, y3, y4, y5, yF, yL⟩ := cellsOf_at hYb
  have hg := hYg w r st6.gr (Nat.le_refl _)
  clear hY hYb hYg
  exact bodyPost_ret (v := .tuple #[cv ⟨st, (wrap64 (last.da + n)), n, k, a, f⟩, .int .i64 0]) (by simp [results, Tryz.results117, go_sem, cv, zcard, y0, y1, y2, y3, y4, y5]) rfl ⟨rfl, hg⟩
set_option maxRecDepth 100000 in
set_option maxHeartbeats 4000000 in
theorem c117_n_no (r : Nat) (hr0 : 0 < r) (x y : List UInt8) (ws : List (List UInt8)) (last : Card) (w : World) (hc : Cell0 w) (h : Reader w r (x :: y :: ws) last false) (hl : ws.length ≤ 198) (hx : x.length ≤ 200) (hy : y.length ≤ 200) (hyne : y ≠ []) (hws : ∀ z ∈ ws, z.length ≤ 200)
    (st : Int) (hs : stationO x last = some st)
    (ws2 : List (List UInt8)) (hd : dateW y ws last = .next ws2) (hl2 : ws2.length ≤ 198) (hws2 : ∀ z ∈ ws2, z.length ≤ 200)
    (n : Int) (ws3 : List (List UInt8)) (hL : lumpW ws2 = .got n ws3) (hl3 : ws3.length ≤ 198) (hws3 : ∀ z ∈ ws3, z.length ≤ 200) (k a f : Int) (hA : amtW ws3 = .got k a f []) (hI : isCard ⟨st, (wrap64 (last.da + n)), n, k, a, f⟩ = false) :
    Calls Tryz.prog 117 #[.pointer (some ⟨r, 0, none⟩)] w fun e w' => rdEnd (.err 3) e ∧ w.grownBy w' (some r) := by
  have st0 := CSt.start h
  have H153 := Lib.hid (st0.station (by simp; omega) hx)
  have HS := Lib.hid hs
  have HD := Lib.hid hd
  have HC := Lib.hid hc
  clear hs hd h st0 hc
  have HL := Lib.hid hL
  clear hL
  have HA := Lib.hid hA
  clear hA
  have HI := Lib.hid hI
  clear hI
  go_enter Tryz.func117, Tryz.ntmps117
  go_wp2_with (first
    | (go_at_call 153; refine H153.out.mono ?_; rw [HS.out]; rintro e X1 ⟨he, st1⟩; obtain rfl : e = .returned (.int .i64 st) := he; obtain ⟨g0, g1, g2, g3, g4, g5, gF, gL⟩ := cellsOf_at st1.bl)
    | (go_at_call 154; refine ((st1.set_st st).date HC.out hr0 (by omega) hy hyne hws).mono ?_; rw [HD.out]; rintro e X2 ⟨he, st2⟩; obtain rfl : e = .returned (dtv ⟨0, 0, 0⟩) := he; unfold dtv)
    | (go_at_call 155; refine ((st2.add _).lump (by omega) hws2).mono ?_; rw [HL.out]; rintro e X3 ⟨he, st3⟩; obtain rfl : e = .returned (.int .i64 n) := he; obtain ⟨k0, k1, k2, k3, k4, k5, kF, kL⟩ := cellsOf_at st3.bl)
    | (go_at_call 156; refine (c156 w _ r _ _ ws3 last true _ (st3.set_dy n) (by omega) hws3 rfl rfl).mono ?_; rw [HA.out]; rintro e X4 ⟨he, st4⟩; obtain rfl : e = .returned (.tuple #[]) := he; obtain ⟨m0, m1, m2, m3, m4, m5, mF, mL⟩ := cellsOf_at st4.bl; obtain ⟨q2, q7, -⟩ := reader_da st4.rd; obtain ⟨⟨ra, rc, q0⟩, qL⟩ := reader_none st4.rd; obtain ⟨u0, u1, u2, uL⟩ := cells_dt (st4.dl _ (List.mem_cons_self ..)).1; obtain ⟨v0, v1, v2, v3, v4, v5, vF, vL⟩ := cellsOf_at (st4.dl (w.heap.size, cellsOf zcard) (by simp)).1; have hsz := st2.lt))
  clear g0 g1 g2 g3 g4 g5 gF gL k0 k1 k2 k3 k4 k5 kF kL H153
  go_still_tail 9, (by kernel_rfl)
  go_wp2_with (first
    | (go_at_call 76; refine (c76 _ _ _ _ _ _ _).mono ?_; rw [HI.out]; rintro e X6 ⟨rfl, hb6⟩; have st6 := ((st4.set_da (wrap64 (last.da + n))).grown (xd (xr _))).grown hb6; obtain ⟨i0, i1, i2, i3, i4, i5, iF, iL⟩ := cellsOf_at st6.bl; obtain ⟨s0, s1, s2, s3, s4, s5, sF, sL⟩ := cellsOf_at (st6.dl (w.heap.size, cellsOf zcard) (by simp)).1))
  obtain ⟨Y, hY, hYb, hYg⟩ := store6 (st6.dl (w.heap.size, cellsOf zcard) (by simp)).1 0 0 0 0 0 0
  rw [hY]
  obtain ⟨y0, y1, y2, y3, y4, y5, yF, yL⟩ := cellsOf_at hYb
  have hg := hYg w r st6.gr (Nat.le_refl _)
  clear hY hYb hYg
  exact bodyPost_ret (v := .tuple #[cv zcard, .int .i64 3]) (by simp [results, Tryz.results117, go_sem, cv, zcard, y0, y1, y2, y3, y4, y5]) rfl ⟨rfl, hg⟩
end Go.Proofs.YthifeoebefbalaaGreatDoor

namespace Go.Proofs.YthifeoebefbalaaGreatDoor
open Go.RowKit

theorem c117_nil (r : Nat) (last : Card) (w : World) (h : Reader w r [] last false) : Calls Tryz.prog 117 #[.pointer (some ⟨r, 0, none⟩)] w fun e w' => rdEnd .form e ∧ w.grownBy w' (some r) := by
  have st0 := CSt.start h
  have H := Lib.hid ((c153_no r last false _ st0.rd).mono fun e w' h1 => (⟨h1.1, st0.gr.trans h1.2⟩ : e = .panicked [unread] ∧ w.grownBy w' (some r)))
  clear h st0
  go_enter Tryz.func117, Tryz.ntmps117
  go_wp2_with (go_at_call 153; refine H.out.mono ?_; rintro e X1 ⟨rfl, hg⟩)
  exact ⟨rfl, rfl, hg⟩
theorem c117_nost (r : Nat) (x : List UInt8) (ws : List (List UInt8)) (last : Card) (w : World) (h : Reader w r (x :: ws) last false) (hl : ws.length ≤ 200) (hx : x.length ≤ 200) (hs : stationO x last = none) : Calls Tryz.prog 117 #[.pointer (some ⟨r, 0, none⟩)] w fun e w' => rdEnd .form e ∧ w.grownBy w' (some r) := by
  have st0 := CSt.start h
  have H := Lib.hid (st0.station hl hx)
  have HS := Lib.hid hs
  clear h st0 hs
  go_enter Tryz.func117, Tryz.ntmps117
  go_wp2_with (go_at_call 153; refine H.out.mono ?_; rw [HS.out]; rintro e X1 ⟨he, st1⟩; obtain rfl : e = .panicked [unread] := he)
  exact ⟨rfl, rfl, st1.gr⟩
theorem c117_nodate (r : Nat) (x : List UInt8) (last : Card) (w : World) (h : Reader w r [x] last false) (hx : x.length ≤ 200) (st : Int) (hs : stationO x last = some st) : Calls Tryz.prog 117 #[.pointer (some ⟨r, 0, none⟩)] w fun e w' => rdEnd .form e ∧ w.grownBy w' (some r) := by
  have st0 := CSt.start h
  have H := Lib.hid (st0.station (by simp) hx)
  have HS := Lib.hid hs
  clear h st0 hs
  go_enter Tryz.func117, Tryz.ntmps117
  go_wp2_with (first
    | (go_at_call 153; refine H.out.mono ?_; rw [HS.out]; rintro e X1 ⟨he, st1⟩; obtain rfl : e = .returned (.int .i64 st) := he; obtain ⟨g0, g1, g2, g3, g4, g5, gF, gL⟩ := cellsOf_at st1.bl)
    | (go_at_call 154; refine ((st1.set_st st).nodate).mono ?_; rintro e X2 ⟨rfl, hg⟩))
  exact ⟨rfl, rfl, hg⟩

theorem suf_len {ws ws' : List (List UInt8)} (h : ws' <:+ ws) {N : Nat} (hl : ws.length ≤ N) (hws : ∀ z ∈ ws, z.length ≤ 200) : ws'.length ≤ N ∧ ∀ z ∈ ws', z.length ≤ 200 :=
  ⟨Nat.le_trans h.length_le hl, fun z hz => hws z (h.subset hz)⟩
theorem readDoes : ReadDoes readRs := by
  intro r v ws last w hc hr0 hv hs hws hl
  have h : Reader w r ws last false := ⟨v, hv, hs⟩
  have hws' : ∀ z ∈ ws, z.length ≤ 200 := fun z hz => (hws z hz).2
  cases ws with
  | nil => exact c117_nil r last w h
  | cons x ws =>
    have hx := hws' x (by simp)
    have hl1 : ws.length ≤ 199 := by simp at hl; omega
    cases hst : stationO x last with
    | none => rw [show readRs (x :: ws) last = .form by simp [readRs, hst]]; exact c117_nost r x ws last w h (by omega) hx hst
    | some st =>
      cases ws with
      | nil => rw [show readRs [x] last = .form by simp [readRs, hst]]; exact c117_nodate r x last w h hx st hst
      | cons y ws =>
        have hy := hws' y (by simp)
        have hyne := (hws y (by simp)).1
        have hl2 : ws.length ≤ 198 := by simp at hl1; omega
        have hws2 : ∀ z ∈ ws, z.length ≤ 200 := fun z hz => hws' z (by simp [hz])
        have hok := dateW_ok y ws last
        have part : ∀ (nx : Bool) (d : Dt) (ws2 : List (List UInt8)), ws2.length ≤ 198 → (∀ z ∈ ws2, z.length ≤ 200) → dateW y ws last = (if nx = true then .next ws2 else .date d ws2) → (nx = true → d = ⟨0, 0, 0⟩) →
            Calls Tryz.prog 117 #[.pointer (some ⟨r, 0, none⟩)] w fun e w' => rdEnd (restR st nx d last ws2) e ∧ w.grownBy w' (some r) := by
          intro nx d ws2 k1 k2 hd hd0
          have hlo := lumpW_ok ws2
          cases hL : lumpW ws2 with
          | stop =>
            rw [show restR st nx d last ws2 = .form by simp [restR, hL]]
            cases nx with
            | true => exact c117_n_lstop r hr0 x y ws last w hc h hl2 hx hy hyne hws2 st hst ws2 hd k1 k2 hL
            | false => exact c117_d_lstop r hr0 x y ws last w hc h hl2 hx hy hyne hws2 st hst d ws2 hd k1 k2 hL
          | got n ws3 =>
            rw [hL] at hlo
            obtain ⟨k3, k4⟩ := suf_len hlo k1 k2
            cases hA : amtW ws3 with
            | stop =>
              rw [show restR st nx d last ws2 = .form by simp [restR, hL, hA]]
              cases nx with
              | true => exact c117_n_astop r hr0 x y ws last w hc h hl2 hx hy hyne hws2 st hst ws2 hd k1 k2 n ws3 hL k3 k4 hA
              | false => exact c117_d_astop r hr0 x y ws last w hc h hl2 hx hy hyne hws2 st hst d ws2 hd k1 k2 n ws3 hL k3 k4 hA
            | got k a f ws4 =>
              cases ws4 with
              | cons x4 ws4 =>
                rw [show restR st nx d last ws2 = .form by simp [restR, hL, hA]]
                cases nx with
                | true => exact c117_n_left r hr0 x y ws last w hc h hl2 hx hy hyne hws2 st hst ws2 hd k1 k2 n ws3 hL k3 k4 k a f x4 ws4 hA
                | false => exact c117_d_left r hr0 x y ws last w hc h hl2 hx hy hyne hws2 st hst d ws2 hd k1 k2 n ws3 hL k3 k4 k a f x4 ws4 hA
              | nil =>
                cases nx with
                | true =>
                  obtain rfl := hd0 rfl
                  cases hI : isCard ⟨st, wrap64 (last.da + n), n, k, a, f⟩ with
                  | true => rw [show restR st true ⟨0, 0, 0⟩ last ws2 = .got ⟨st, wrap64 (last.da + n), n, k, a, f⟩ by simp [restR, hL, hA, dateR, cardR, hI]]; exact c117_n_yes r hr0 x y ws last w hc h hl2 hx hy hyne hws2 st hst ws2 hd k1 k2 n ws3 hL k3 k4 k a f hA hI
                  | false => rw [show restR st true ⟨0, 0, 0⟩ last ws2 = .err 3 by simp [restR, hL, hA, dateR, cardR, hI]]; exact c117_n_no r hr0 x y ws last w hc h hl2 hx hy hyne hws2 st hst ws2 hd k1 k2 n ws3 hL k3 k4 k a f hA hI
                | false =>
                  obtain ⟨dy, dm, dd⟩ := d
                  cases hN : dnum dy dm dd with
                  | none => rw [show restR st false ⟨dy, dm, dd⟩ last ws2 = .err 3 by simp [restR, hL, hA, dateR, cardR, hN]]; exact c117_d_none r hr0 x y ws last w hc h hl2 hx hy hyne hws2 st hst dy dm dd ws2 hd k1 k2 n ws3 hL k3 k4 k a f hA hN
                  | some da =>
                    cases hI : isCard ⟨st, da, n, k, a, f⟩ with
                    | true => rw [show restR st false ⟨dy, dm, dd⟩ last ws2 = .got ⟨st, da, n, k, a, f⟩ by simp [restR, hL, hA, dateR, cardR, hN, hI]]; exact c117_d_yes r hr0 x y ws last w hc h hl2 hx hy hyne hws2 st hst dy dm dd ws2 hd k1 k2 n ws3 hL k3 k4 k a f hA da hN hI
                    | false => rw [show restR st false ⟨dy, dm, dd⟩ last ws2 = .err 3 by simp [restR, hL, hA, dateR, cardR, hN, hI]]; exact c117_d_no r hr0 x y ws last w hc h hl2 hx hy hyne hws2 st hst dy dm dd ws2 hd k1 k2 n ws3 hL k3 k4 k a f hA da hN hI
        cases hd : dateW y ws last with
        | stop => rw [show readRs (x :: y :: ws) last = .form by simp [readRs, hst, hd]]; exact c117_dstop r hr0 x y ws last w hc h hl2 hx hy hyne hws2 st hst hd
        | next ws2 =>
          rw [hd] at hok
          obtain rfl : ws2 = ws := hok
          rw [show readRs (x :: y :: ws2) last = restR st true ⟨0, 0, 0⟩ last ws2 by simp [readRs, hst, hd]]
          exact part true ⟨0, 0, 0⟩ ws2 hl2 hws2 hd (fun _ => rfl)
        | date d ws2 =>
          rw [hd] at hok
          obtain ⟨k1, k2⟩ := suf_len hok hl2 hws2
          rw [show readRs (x :: y :: ws) last = restR st false d last ws2 by simp [readRs, hst, hd]]
          exact part false d ws2 k1 k2 hd (fun h => by cases h)
end Go.Proofs.YthifeoebefbalaaGreatDoor
