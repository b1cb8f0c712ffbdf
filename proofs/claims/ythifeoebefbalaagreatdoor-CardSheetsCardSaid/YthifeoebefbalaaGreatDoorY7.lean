/- The reference: the date at the beginning of words. -/
import Derived.Test.YthifeoebefbalaaGreatDoorY6
set_option linter.unusedVariables false
set_option linter.unusedSimpArgs false
namespace Go.Proofs.YthifeoebefbalaaGreatDoor
open Go.RowKit

/-- Take number i first; the worlds said as grown from V. -/
theorem WC_take0 {P : Program} {Q : Exit → Act → World → Prop} {C : World → Prop} {V : World} [PanicStill Q] (i : Nat) {l rest : List Oper} {oi : Oper} {v : Value} {fuel : Nat} {listed : Array Bool} {a a' : Act} {x : World} (hC : ∀ w w', C w → Grown w w' → C w') (hi : l.drop i = oi :: rest) (hs : Region.noSelect l.toArray = true)
    (hf : Region.free .any l.toArray listed i = true) (hr : (Region.ready .any l.toArray listed).contains i = true) (hV : C V)
    (hy : Region.wanted oi (yielded l.toArray a.tmps) = true ∧ ∀ w', C w' → oi.quiet P a (fun w'' => ∃ n, w'' = gw w' n) (fun b => b = a'))
    (ha : a' = a.put oi.dst v) (d : Nat) (hd : oi.dst = some d) (hl : decide (d < a.tmps.size) = true)
    (h : ∀ x, WC P l.toArray Q C fuel (listed.setIfInBounds i true) a' (gw V x)) : WC P l.toArray Q C (fuel + 1) listed a (gw V x) :=
  WC_take i hC hi hs hf hr (hC _ _ hV (Grown.gw _ _)) hy ha d hd hl fun y => by
    obtain ⟨z, hz⟩ := gw_step (gw_below (gw V x) y)
    rw [hz]
    exact h z
def datR : List (List UInt8) → Option (Dt × Int)
  | [] => none
  | x :: ws => match oneO x with
    | some d => some (d, 1)
    | none => match ws with
      | y :: z :: _ =>
        if orM (yearO z) < 0 then none
        else if 0 ≤ orM (domO x) ∧ 0 < (monthO y).getD 0 then some (⟨orM (yearO z), (monthO y).getD 0, orM (domO x)⟩, 3)
        else if 0 < (monthO x).getD 0 ∧ 0 ≤ orM (domO y) then some (⟨orM (yearO z), (monthO x).getD 0, orM (domO y)⟩, 3)
        else none
      | _ => none
def datV : Option (Dt × Int) → Value
  | some p => .agg #[.int .i64 p.1.y, .int .i64 p.1.m, .int .i64 p.1.d, .int .i64 p.2]
  | none => .agg #[.int .i64 0, .int .i64 0, .int .i64 0, .int .i64 0]
theorem c163_H {l : List UInt8} {x : Int} (h : orM (domO l) = x) (hl : l.length ≤ 4000) : ∀ W, Hid (Calls Tryz.prog 163 #[.string ⟨l.toArray⟩] W fun e w' => e = .returned (.int .i64 x) ∧ W = w') := fun W => Lib.hid (by rw [← h]; exact c163 l W hl)
theorem c164_H {l : List UInt8} {x : Int} (h : (monthO l).getD 0 = x) (hl : l.length ≤ 4000) : ∀ W, Hid (Calls Tryz.prog 164 #[.string ⟨l.toArray⟩] W fun e w' => e = .returned (.int .i64 x) ∧ Below W.heap.size W w') := fun W => Lib.hid (by rw [← h]; exact c164 l W hl)
theorem c161_none {l : List UInt8} (h : oneO l = none) (hl : l.length ≤ 4000) : ∀ W, Hid (Calls Tryz.prog 161 #[.string ⟨l.toArray⟩] W fun e w' => e = .returned (.agg #[.int .i64 0, .int .i64 0, .int .i64 0, .int .i64 0]) ∧ Below W.heap.size W w') := fun W => Lib.hid (by have := c161 l W hl; rw [h] at this; exact this)
theorem c161_some {l : List UInt8} {d : Dt} (h : oneO l = some d) (hl : l.length ≤ 4000) : ∀ W, Hid (Calls Tryz.prog 161 #[.string ⟨l.toArray⟩] W fun e w' => e = .returned (.agg #[.int .i64 d.y, .int .i64 d.m, .int .i64 d.d, .int .i64 1]) ∧ Below W.heap.size W w') := fun W => Lib.hid (by have := c161 l W hl; rw [h] at this; exact this)
theorem pair_grows {g o : Nat} {x y : List UInt8} : ∀ w w' : World, (w.cell? ⟨g, o, none⟩ = some (.string ⟨x.toArray⟩) ∧ w.cell? ⟨g, o + 1, none⟩ = some (.string ⟨y.toArray⟩)) → Grown w w' → (w'.cell? ⟨g, o, none⟩ = some (.string ⟨x.toArray⟩) ∧ w'.cell? ⟨g, o + 1, none⟩ = some (.string ⟨y.toArray⟩)) := fun w w' ⟨h0, h1⟩ hg =>
  ⟨(hg.cell (p := ⟨g, o, none⟩) (World.block_lt_of_cell? w _ h0)).trans h0, (hg.cell (p := ⟨g, o + 1, none⟩) (World.block_lt_of_cell? w _ h1)).trans h1⟩
structure DatSt (w V : World) (g o : Nat) (x y z : List UInt8) : Prop where
  b0 : Below w.heap.size w V
  gl : g < V.heap.size
  rl : w.heap.size < V.heap.size
  q0 : V.cell? ⟨g, o, none⟩ = some (.string ⟨x.toArray⟩)
  q1 : V.cell? ⟨g, o + 1, none⟩ = some (.string ⟨y.toArray⟩)
  q2 : V.cell? ⟨g, o + 2, none⟩ = some (.string ⟨z.toArray⟩)
  r0 : V.cell? ⟨w.heap.size, 0, none⟩ = some (.int .i64 0)
  r1 : V.cell? ⟨w.heap.size, 1, none⟩ = some (.int .i64 0)
  r2 : V.cell? ⟨w.heap.size, 2, none⟩ = some (.int .i64 0)
  r3 : V.cell? ⟨w.heap.size, 3, none⟩ = some (.int .i64 0)
  rF : ∀ i, V.frozen? ⟨w.heap.size, i, none⟩ = false
theorem DatSt.grow {w V V' : World} {g o : Nat} {x y z : List UInt8} (h : DatSt w V g o x y z) (hb : Below V.heap.size V V') : DatSt w V' g o x y z :=
  ⟨below_trans h.b0 hb, Nat.lt_of_lt_of_le h.gl hb.size, Nat.lt_of_lt_of_le h.rl hb.size, (hb.cell (p := ⟨g, o, none⟩) h.gl).trans h.q0, (hb.cell (p := ⟨g, o + 1, none⟩) h.gl).trans h.q1, (hb.cell (p := ⟨g, o + 2, none⟩) h.gl).trans h.q2,
    (hb.cell (p := ⟨w.heap.size, 0, none⟩) h.rl).trans h.r0, (hb.cell (p := ⟨w.heap.size, 1, none⟩) h.rl).trans h.r1, (hb.cell (p := ⟨w.heap.size, 2, none⟩) h.rl).trans h.r2, (hb.cell (p := ⟨w.heap.size, 3, none⟩) h.rl).trans h.r3,
    fun i => (hb.frozen (p := ⟨w.heap.size, i, none⟩) h.rl).trans (h.rF i)⟩
theorem DatSt.alloc {w V : World} {g o : Nat} {x y z : List UInt8} (h : DatSt w V g o x y z) (c : Obj) : DatSt w (V.alloc c) g o x y z := h.grow (below_alloc _ _)
theorem DatSt.start {w W1 : World} {g o : Nat} {x y z : List UInt8} (hg : g < w.heap.size) (q0 : w.cell? ⟨g, o, none⟩ = some (.string ⟨x.toArray⟩)) (q1 : w.cell? ⟨g, o + 1, none⟩ = some (.string ⟨y.toArray⟩)) (q2 : w.cell? ⟨g, o + 2, none⟩ = some (.string ⟨z.toArray⟩))
    (hb : Below (w.alloc (.cells #[.int .i64 0, .int .i64 0, .int .i64 0, .int .i64 0] 153)).heap.size (w.alloc (.cells #[.int .i64 0, .int .i64 0, .int .i64 0, .int .i64 0] 153)) W1) : DatSt w W1 g o x y z := by
  have h : DatSt w (w.alloc (.cells #[.int .i64 0, .int .i64 0, .int .i64 0, .int .i64 0] 153)) g o x y z :=
    ⟨below_alloc _ _, by simp; omega, by simp, ((below_alloc w _).cell (p := ⟨g, o, none⟩) hg).trans q0, ((below_alloc w _).cell (p := ⟨g, o + 1, none⟩) hg).trans q1, ((below_alloc w _).cell (p := ⟨g, o + 2, none⟩) hg).trans q2,
      by simp [go_sem], by simp [go_sem], by simp [go_sem], by simp [go_sem], by simp [go_sem]⟩
  exact h.grow hb
set_option maxRecDepth 100000 in
set_option maxHeartbeats 16000000 in
theorem c120_nil (v : Value) (w : World) (hv : WordsV w v []) : Calls Tryz.prog 120 #[v] w fun e w' => e = .returned (.agg #[.int .i64 0, .int .i64 0, .int .i64 0, .int .i64 0]) ∧ Below w.heap.size w w' := by
  obtain ⟨a, cap, rfl, hc, -⟩ := hv
  go_enter Tryz.func120, Tryz.ntmps120
  go_wp2_with fail
  exact bodyPost_ret (v := .agg #[.int .i64 (0), .int .i64 (0), .int .i64 (0), .int .i64 (0)]) (by simp [results, Tryz.results120, go_sem, *]) rfl ⟨rfl, by repeat (first | exact xr _ | exact hb0 | apply xa | apply xg | (refine xs ?_ (by simp) _))⟩
set_option maxRecDepth 100000 in
set_option maxHeartbeats 16000000 in
theorem c120_one (g o cap : Nat) (n : Nat) (x : List UInt8) (dy dm dd : Int) (w : World) (hcap : n + 1 ≤ cap) (hn : n + 1 ≤ 4000) (hg : g < w.heap.size) (q0 : w.cell? ⟨g, o, none⟩ = some (.string ⟨x.toArray⟩))
    (H161 : ∀ W, Hid (Calls Tryz.prog 161 #[.string ⟨x.toArray⟩] W fun e w' => e = .returned (.agg #[.int .i64 dy, .int .i64 dm, .int .i64 dd, .int .i64 1]) ∧ Below W.heap.size W w')) : Calls Tryz.prog 120 #[.slice (some ⟨g, o, none⟩) (n + 1) cap] w fun e w' => e = .returned (.agg #[.int .i64 dy, .int .i64 dm, .int .i64 dd, .int .i64 1]) ∧ Below w.heap.size w w' := by
  have hne : ¬ g = w.heap.size := by omega
  go_enter Tryz.func120, Tryz.ntmps120
  go_wp2_with fail
  refine (H161 _).out.mono ?_
  rintro e w1 ⟨rfl, hb1⟩
  obtain ⟨x1, rfl⟩ := of_below hb1
  clear hb1
  go_wp2_with fail
  exact bodyPost_ret (v := .agg #[.int .i64 (dy), .int .i64 (dm), .int .i64 (dd), .int .i64 (1)]) (by simp [results, Tryz.results120, go_sem, *]) rfl ⟨rfl, by repeat (first | exact xr _ | exact hb0 | apply xa | apply xg | (refine xs ?_ (by simp) _))⟩
set_option maxRecDepth 100000 in
set_option maxHeartbeats 16000000 in
theorem c120_few (g o cap : Nat) (n : Nat) (x : List UInt8) (hn2 : n < 2) (w : World) (hcap : n + 1 ≤ cap) (hn : n + 1 ≤ 4000) (hg : g < w.heap.size) (q0 : w.cell? ⟨g, o, none⟩ = some (.string ⟨x.toArray⟩))
    (H161 : ∀ W, Hid (Calls Tryz.prog 161 #[.string ⟨x.toArray⟩] W fun e w' => e = .returned (.agg #[.int .i64 0, .int .i64 0, .int .i64 0, .int .i64 0]) ∧ Below W.heap.size W w')) : Calls Tryz.prog 120 #[.slice (some ⟨g, o, none⟩) (n + 1) cap] w fun e w' => e = .returned (.agg #[.int .i64 0, .int .i64 0, .int .i64 0, .int .i64 0]) ∧ Below w.heap.size w w' := by
  have hne : ¬ g = w.heap.size := by omega
  go_enter Tryz.func120, Tryz.ntmps120
  go_wp2_with fail
  refine (H161 _).out.mono ?_
  rintro e w1 ⟨rfl, hb1⟩
  obtain ⟨x1, rfl⟩ := of_below hb1
  clear hb1
  go_wp2_with fail
  exact bodyPost_ret (v := .agg #[.int .i64 (0), .int .i64 (0), .int .i64 (0), .int .i64 (0)]) (by simp [results, Tryz.results120, go_sem, *]) rfl ⟨rfl, by repeat (first | exact xr _ | exact hb0 | apply xa | apply xg | (refine xs ?_ (by simp) _))⟩
set_option maxRecDepth 100000 in
set_option maxHeartbeats 16000000 in
theorem c120_neg (g o cap : Nat) (n : Nat) (x y z : List UInt8) (yz dx dy mx my : Int) (hz : yz < 0) (w : World) (hcap : n + 1 + 1 + 1 ≤ cap) (hn : n + 1 + 1 + 1 ≤ 4000) (hg : g < w.heap.size) (q0 : w.cell? ⟨g, o, none⟩ = some (.string ⟨x.toArray⟩)) (q1 : w.cell? ⟨g, o + 1, none⟩ = some (.string ⟨y.toArray⟩)) (q2 : w.cell? ⟨g, o + 2, none⟩ = some (.string ⟨z.toArray⟩))
    (H161 : ∀ W, Hid (Calls Tryz.prog 161 #[.string ⟨x.toArray⟩] W fun e w' => e = .returned (.agg #[.int .i64 0, .int .i64 0, .int .i64 0, .int .i64 0]) ∧ Below W.heap.size W w'))
    (HZ : ∀ W, Hid (Calls Tryz.prog 162 #[.string ⟨z.toArray⟩] W fun e w' => e = .returned (.int .i64 yz) ∧ W = w'))
    (HDX : ∀ W, Hid (Calls Tryz.prog 163 #[.string ⟨x.toArray⟩] W fun e w' => e = .returned (.int .i64 dx) ∧ W = w'))
    (HDY : ∀ W, Hid (Calls Tryz.prog 163 #[.string ⟨y.toArray⟩] W fun e w' => e = .returned (.int .i64 dy) ∧ W = w'))
    (HMX : ∀ W, Hid (Calls Tryz.prog 164 #[.string ⟨x.toArray⟩] W fun e w' => e = .returned (.int .i64 mx) ∧ Below W.heap.size W w'))
    (HMY : ∀ W, Hid (Calls Tryz.prog 164 #[.string ⟨y.toArray⟩] W fun e w' => e = .returned (.int .i64 my) ∧ Below W.heap.size W w')) : Calls Tryz.prog 120 #[.slice (some ⟨g, o, none⟩) (n + 1 + 1 + 1) cap] w fun e w' => e = .returned (.agg #[.int .i64 0, .int .i64 0, .int .i64 0, .int .i64 0]) ∧ Below w.heap.size w w' := by
  have hne : ¬ g = w.heap.size := by omega
  go_enter Tryz.func120, Tryz.ntmps120
  have hne3 : ¬ w.heap.size = g := by omega
  go_wp2_with fail
  refine (H161 _).out.mono ?_
  rintro e W1 ⟨rfl, hb1⟩
  have st := DatSt.start hg q0 q1 q2 hb1
  clear hb1 q0 q1 q2 hg hne
  obtain ⟨hb0, hg1, hr1, q0, q1, q2, r0, r1, r2, r3, rF⟩ := id st
  have hne1 : ¬ g = W1.heap.size := by omega
  have hne2 : ¬ w.heap.size = W1.heap.size := by omega
  go_wp2_with fail
  refine (HZ _).out.mono ?_
  rintro e w2 ⟨rfl, rfl⟩
  go_wp2_with fail
  exact bodyPost_ret (v := .agg #[.int .i64 (0), .int .i64 (0), .int .i64 (0), .int .i64 (0)]) (by simp [results, Tryz.results120, go_sem, *]) rfl ⟨rfl, by repeat (first | exact xr _ | exact hb0 | apply xa | apply xg | (refine xs ?_ (by simp) _))⟩
set_option maxRecDepth 100000 in
set_option maxHeartbeats 16000000 in
theorem c120_dm (g o cap : Nat) (n : Nat) (x y z : List UInt8) (yz dx dy mx my : Int) (hz : 0 ≤ yz) (h1 : 0 ≤ dx) (h2 : 0 < my) (w : World) (hcap : n + 1 + 1 + 1 ≤ cap) (hn : n + 1 + 1 + 1 ≤ 4000) (hg : g < w.heap.size) (q0 : w.cell? ⟨g, o, none⟩ = some (.string ⟨x.toArray⟩)) (q1 : w.cell? ⟨g, o + 1, none⟩ = some (.string ⟨y.toArray⟩)) (q2 : w.cell? ⟨g, o + 2, none⟩ = some (.string ⟨z.toArray⟩))
    (H161 : ∀ W, Hid (Calls Tryz.prog 161 #[.string ⟨x.toArray⟩] W fun e w' => e = .returned (.agg #[.int .i64 0, .int .i64 0, .int .i64 0, .int .i64 0]) ∧ Below W.heap.size W w'))
    (HZ : ∀ W, Hid (Calls Tryz.prog 162 #[.string ⟨z.toArray⟩] W fun e w' => e = .returned (.int .i64 yz) ∧ W = w'))
    (HDX : ∀ W, Hid (Calls Tryz.prog 163 #[.string ⟨x.toArray⟩] W fun e w' => e = .returned (.int .i64 dx) ∧ W = w'))
    (HDY : ∀ W, Hid (Calls Tryz.prog 163 #[.string ⟨y.toArray⟩] W fun e w' => e = .returned (.int .i64 dy) ∧ W = w'))
    (HMX : ∀ W, Hid (Calls Tryz.prog 164 #[.string ⟨x.toArray⟩] W fun e w' => e = .returned (.int .i64 mx) ∧ Below W.heap.size W w'))
    (HMY : ∀ W, Hid (Calls Tryz.prog 164 #[.string ⟨y.toArray⟩] W fun e w' => e = .returned (.int .i64 my) ∧ Below W.heap.size W w')) : Calls Tryz.prog 120 #[.slice (some ⟨g, o, none⟩) (n + 1 + 1 + 1) cap] w fun e w' => e = .returned (.agg #[.int .i64 yz, .int .i64 my, .int .i64 dx, .int .i64 3]) ∧ Below w.heap.size w w' := by
  have hne : ¬ g = w.heap.size := by omega
  go_enter Tryz.func120, Tryz.ntmps120
  have hne3 : ¬ w.heap.size = g := by omega
  go_wp2_with fail
  refine (H161 _).out.mono ?_
  rintro e W1 ⟨rfl, hb1⟩
  have st := DatSt.start hg q0 q1 q2 hb1
  clear hb1 q0 q1 q2 hg hne
  obtain ⟨hb0, hg1, hr1, q0, q1, q2, r0, r1, r2, r3, rF⟩ := id st
  have hne1 : ¬ g = W1.heap.size := by omega
  have hne2 : ¬ w.heap.size = W1.heap.size := by omega
  go_wp2_with fail
  refine (HZ _).out.mono ?_
  rintro e w2 ⟨rfl, rfl⟩
  go_wp2_with fail
  refine (HDX _).out.mono ?_
  rintro e w3 ⟨rfl, rfl⟩
  go_wp2_with fail
  clear hg1 hr1 q0 q1 q2 r0 r1 r2 r3 rF hb0 hne1 hne2
  refine (HMY _).out.mono ?_
  rintro e W4 ⟨rfl, hb⟩
  have st := (st.alloc _).grow hb
  clear hb
  obtain ⟨hb0, hg1, hr1, q0, q1, q2, r0, r1, r2, r3, rF⟩ := id st
  have hne1 : ¬ g = W4.heap.size := by omega
  have hne2 : ¬ w.heap.size = W4.heap.size := by omega
  go_wp2_with fail
  refine wp_region_class (fun w' => w'.cell? ⟨g, o, none⟩ = some (.string ⟨x.toArray⟩) ∧ w'.cell? ⟨g, o + 1, none⟩ = some (.string ⟨y.toArray⟩)) (by kernel_rfl) fun x0 => ?_
  refine WC_take0 (V := W4) (v := ?_) (a' := ?_) 0 pair_grows rfl (by kernel_rfl) (by kernel_rfl) (by kernel_rfl) ⟨q0, q1⟩ ⟨rfl, fun w' hw' => ?_⟩ ?_ 41 rfl (by kernel_rfl) fun x0 => ?_
  rotate_left 2
  · obtain ⟨c0, c1⟩ := hw'
    have hgl : g < w'.heap.size := World.block_lt_of_cell? _ _ c0
    go_big_quiet_op; exact rfl
  · exact rfl
  refine WC_take0 (V := W4) (v := ?_) (a' := ?_) 1 pair_grows rfl (by kernel_rfl) (by kernel_rfl) (by kernel_rfl) ⟨q0, q1⟩ ⟨rfl, fun w' hw' => ?_⟩ ?_ 42 rfl (by kernel_rfl) fun x0 => ?_
  rotate_left 2
  · obtain ⟨c0, c1⟩ := hw'
    have hgl : g < w'.heap.size := World.block_lt_of_cell? _ _ c0
    go_big_quiet_op; exact rfl
  · exact rfl
  refine WC_take0 (V := W4) (v := ?_) (a' := ?_) 2 pair_grows rfl (by kernel_rfl) (by kernel_rfl) (by kernel_rfl) ⟨q0, q1⟩ ⟨rfl, fun w' hw' => ?_⟩ ?_ 43 rfl (by kernel_rfl) fun x0 => ?_
  rotate_left 2
  · obtain ⟨c0, c1⟩ := hw'
    have hgl : g < w'.heap.size := World.block_lt_of_cell? _ _ c0
    go_big_quiet_op; exact rfl
  · exact rfl
  refine WC_take0 (V := W4) (v := ?_) (a' := ?_) 3 pair_grows rfl (by kernel_rfl) (by kernel_rfl) (by kernel_rfl) ⟨q0, q1⟩ ⟨rfl, fun w' hw' => ?_⟩ ?_ 44 rfl (by kernel_rfl) fun x0 => ?_
  rotate_left 2
  · obtain ⟨c0, c1⟩ := hw'
    have hgl : g < w'.heap.size := World.block_lt_of_cell? _ _ c0
    go_big_quiet_op; exact rfl
  · exact rfl
  refine WC_take0 (V := W4) (v := ?_) (a' := ?_) 4 pair_grows rfl (by kernel_rfl) (by kernel_rfl) (by kernel_rfl) ⟨q0, q1⟩ ⟨rfl, fun w' hw' => ?_⟩ ?_ 45 rfl (by kernel_rfl) fun x0 => ?_
  rotate_left 2
  · obtain ⟨c0, c1⟩ := hw'
    have hgl : g < w'.heap.size := World.block_lt_of_cell? _ _ c0
    go_big_quiet_op
    apply Exists.intro; refine ⟨fun n => ?_, ?_⟩
    · go_at_call 164
      exact gw_call (HMY _).out
    exact rfl
  · exact rfl
  refine WC_take0 (V := W4) (v := ?_) (a' := ?_) 5 pair_grows rfl (by kernel_rfl) (by kernel_rfl) (by kernel_rfl) ⟨q0, q1⟩ ⟨rfl, fun w' hw' => ?_⟩ ?_ 46 rfl (by kernel_rfl) fun x0 => ?_
  rotate_left 2
  · obtain ⟨c0, c1⟩ := hw'
    have hgl : g < w'.heap.size := World.block_lt_of_cell? _ _ c0
    go_big_quiet_op; exact rfl
  · exact rfl
  refine WC_take0 (V := W4) (v := ?_) (a' := ?_) 6 pair_grows rfl (by kernel_rfl) (by kernel_rfl) (by kernel_rfl) ⟨q0, q1⟩ ⟨rfl, fun w' hw' => ?_⟩ ?_ 47 rfl (by kernel_rfl) fun x0 => ?_
  rotate_left 2
  · obtain ⟨c0, c1⟩ := hw'
    have hgl : g < w'.heap.size := World.block_lt_of_cell? _ _ c0
    go_big_quiet_op; exact rfl
  · exact rfl
  refine WC_take0 (V := W4) (v := ?_) (a' := ?_) 7 pair_grows rfl (by kernel_rfl) (by kernel_rfl) (by kernel_rfl) ⟨q0, q1⟩ ⟨rfl, fun w' hw' => ?_⟩ ?_ 48 rfl (by kernel_rfl) fun x0 => ?_
  rotate_left 2
  · obtain ⟨c0, c1⟩ := hw'
    have hgl : g < w'.heap.size := World.block_lt_of_cell? _ _ c0
    go_big_quiet_op; exact rfl
  · exact rfl
  refine WC_take0 (V := W4) (v := ?_) (a' := ?_) 8 pair_grows rfl (by kernel_rfl) (by kernel_rfl) (by kernel_rfl) ⟨q0, q1⟩ ⟨rfl, fun w' hw' => ?_⟩ ?_ 49 rfl (by kernel_rfl) fun x0 => ?_
  rotate_left 2
  · obtain ⟨c0, c1⟩ := hw'
    have hgl : g < w'.heap.size := World.block_lt_of_cell? _ _ c0
    go_big_quiet_op
    apply Exists.intro; refine ⟨fun n => ?_, ?_⟩
    · go_at_call 163
      exact gw_same (HDX _).out
    exact rfl
  · exact rfl
  refine WC_take0 (V := W4) (v := ?_) (a' := ?_) 9 pair_grows rfl (by kernel_rfl) (by kernel_rfl) (by kernel_rfl) ⟨q0, q1⟩ ⟨rfl, fun w' hw' => ?_⟩ ?_ 50 rfl (by kernel_rfl) fun x0 => ?_
  rotate_left 2
  · obtain ⟨c0, c1⟩ := hw'
    have hgl : g < w'.heap.size := World.block_lt_of_cell? _ _ c0
    go_big_quiet_op; exact rfl
  · exact rfl
  refine WC_take0 (V := W4) (v := ?_) (a' := ?_) 10 pair_grows rfl (by kernel_rfl) (by kernel_rfl) (by kernel_rfl) ⟨q0, q1⟩ ⟨rfl, fun w' hw' => ?_⟩ ?_ 51 rfl (by kernel_rfl) fun x0 => ?_
  rotate_left 2
  · obtain ⟨c0, c1⟩ := hw'
    have hgl : g < w'.heap.size := World.block_lt_of_cell? _ _ c0
    go_big_quiet_op; exact rfl
  · exact rfl
  have st := st.grow (gw_below _ x0)
  obtain ⟨V, hV⟩ : ∃ V, gw W4 x0 = V := ⟨_, rfl⟩
  rw [hV] at st ⊢
  clear hV hb0 hg1 hr1 q0 q1 q2 r0 r1 r2 r3 rF hne1 hne2
  obtain ⟨hb0, hg1, hr1, q0, q1, q2, r0, r1, r2, r3, rF⟩ := id st
  have hne1 : ¬ g = V.heap.size := by omega
  have hne2 : ¬ w.heap.size = V.heap.size := by omega
  refine WC_all [11] (by kernel_rfl) (by simp) fun i hi => ?_
  rcases List.mem_singleton.1 hi with rfl
  refine WG_op rfl rfl fun K hK => ?_
  go_big_op
  refine hK _ _ ⟨⟨by simp [go_sem, hne3, q0], by simp [go_sem, hne3, q1]⟩, fun y0 => ?_⟩
  refine WC_done (by kernel_rfl) ?_ _
  unfold NoPanic
  go_wp2_with fail
  exact bodyPost_ret (v := .agg #[.int .i64 (yz), .int .i64 (my), .int .i64 (dx), .int .i64 (3)]) (by simp [results, Tryz.results120, go_sem, *]) rfl ⟨rfl, by repeat (first | exact xr _ | exact hb0 | apply xa | apply xg | (refine xs ?_ (by simp) _))⟩
  
set_option maxRecDepth 100000 in
set_option maxHeartbeats 16000000 in
theorem c120_mda (g o cap : Nat) (n : Nat) (x y z : List UInt8) (yz dx dy mx my : Int) (hz : 0 ≤ yz) (h1 : 0 ≤ dx) (h2 : ¬ 0 < my) (h3 : 0 < mx) (h4 : 0 ≤ dy) (w : World) (hcap : n + 1 + 1 + 1 ≤ cap) (hn : n + 1 + 1 + 1 ≤ 4000) (hg : g < w.heap.size) (q0 : w.cell? ⟨g, o, none⟩ = some (.string ⟨x.toArray⟩)) (q1 : w.cell? ⟨g, o + 1, none⟩ = some (.string ⟨y.toArray⟩)) (q2 : w.cell? ⟨g, o + 2, none⟩ = some (.string ⟨z.toArray⟩))
    (H161 : ∀ W, Hid (Calls Tryz.prog 161 #[.string ⟨x.toArray⟩] W fun e w' => e = .returned (.agg #[.int .i64 0, .int .i64 0, .int .i64 0, .int .i64 0]) ∧ Below W.heap.size W w'))
    (HZ : ∀ W, Hid (Calls Tryz.prog 162 #[.string ⟨z.toArray⟩] W fun e w' => e = .returned (.int .i64 yz) ∧ W = w'))
    (HDX : ∀ W, Hid (Calls Tryz.prog 163 #[.string ⟨x.toArray⟩] W fun e w' => e = .returned (.int .i64 dx) ∧ W = w'))
    (HDY : ∀ W, Hid (Calls Tryz.prog 163 #[.string ⟨y.toArray⟩] W fun e w' => e = .returned (.int .i64 dy) ∧ W = w'))
    (HMX : ∀ W, Hid (Calls Tryz.prog 164 #[.string ⟨x.toArray⟩] W fun e w' => e = .returned (.int .i64 mx) ∧ Below W.heap.size W w'))
    (HMY : ∀ W, Hid (Calls Tryz.prog 164 #[.string ⟨y.toArray⟩] W fun e w' => e = .returned (.int .i64 my) ∧ Below W.heap.size W w')) : Calls Tryz.prog 120 #[.slice (some ⟨g, o, none⟩) (n + 1 + 1 + 1) cap] w fun e w' => e = .returned (.agg #[.int .i64 yz, .int .i64 mx, .int .i64 dy, .int .i64 3]) ∧ Below w.heap.size w w' := by
  have hne : ¬ g = w.heap.size := by omega
  go_enter Tryz.func120, Tryz.ntmps120
  have hne3 : ¬ w.heap.size = g := by omega
  go_wp2_with fail
  refine (H161 _).out.mono ?_
  rintro e W1 ⟨rfl, hb1⟩
  have st := DatSt.start hg q0 q1 q2 hb1
  clear hb1 q0 q1 q2 hg hne
  obtain ⟨hb0, hg1, hr1, q0, q1, q2, r0, r1, r2, r3, rF⟩ := id st
  have hne1 : ¬ g = W1.heap.size := by omega
  have hne2 : ¬ w.heap.size = W1.heap.size := by omega
  go_wp2_with fail
  refine (HZ _).out.mono ?_
  rintro e w2 ⟨rfl, rfl⟩
  go_wp2_with fail
  refine (HDX _).out.mono ?_
  rintro e w3 ⟨rfl, rfl⟩
  go_wp2_with fail
  clear hg1 hr1 q0 q1 q2 r0 r1 r2 r3 rF hb0 hne1 hne2
  refine (HMY _).out.mono ?_
  rintro e W4 ⟨rfl, hb⟩
  have st := (st.alloc _).grow hb
  clear hb
  obtain ⟨hb0, hg1, hr1, q0, q1, q2, r0, r1, r2, r3, rF⟩ := id st
  have hne1 : ¬ g = W4.heap.size := by omega
  have hne2 : ¬ w.heap.size = W4.heap.size := by omega
  go_wp2_with fail
  clear hg1 hr1 q0 q1 q2 r0 r1 r2 r3 rF hb0 hne1 hne2
  refine (HMX _).out.mono ?_
  rintro e W5 ⟨rfl, hb⟩
  have st := st.grow hb
  clear hb
  obtain ⟨hb0, hg1, hr1, q0, q1, q2, r0, r1, r2, r3, rF⟩ := id st
  have hne1 : ¬ g = W5.heap.size := by omega
  have hne2 : ¬ w.heap.size = W5.heap.size := by omega
  go_wp2_with fail
  refine (HDY _).out.mono ?_
  rintro e w6 ⟨rfl, rfl⟩
  go_wp2_with fail
  refine wp_region_class (fun w' => w'.cell? ⟨g, o, none⟩ = some (.string ⟨x.toArray⟩) ∧ w'.cell? ⟨g, o + 1, none⟩ = some (.string ⟨y.toArray⟩)) (by kernel_rfl) fun x0 => ?_
  refine WC_take0 (V := W5) (v := ?_) (a' := ?_) 0 pair_grows rfl (by kernel_rfl) (by kernel_rfl) (by kernel_rfl) ⟨q0, q1⟩ ⟨rfl, fun w' hw' => ?_⟩ ?_ 64 rfl (by kernel_rfl) fun x0 => ?_
  rotate_left 2
  · obtain ⟨c0, c1⟩ := hw'
    have hgl : g < w'.heap.size := World.block_lt_of_cell? _ _ c0
    go_big_quiet_op; exact rfl
  · exact rfl
  refine WC_take0 (V := W5) (v := ?_) (a' := ?_) 1 pair_grows rfl (by kernel_rfl) (by kernel_rfl) (by kernel_rfl) ⟨q0, q1⟩ ⟨rfl, fun w' hw' => ?_⟩ ?_ 65 rfl (by kernel_rfl) fun x0 => ?_
  rotate_left 2
  · obtain ⟨c0, c1⟩ := hw'
    have hgl : g < w'.heap.size := World.block_lt_of_cell? _ _ c0
    go_big_quiet_op; exact rfl
  · exact rfl
  refine WC_take0 (V := W5) (v := ?_) (a' := ?_) 2 pair_grows rfl (by kernel_rfl) (by kernel_rfl) (by kernel_rfl) ⟨q0, q1⟩ ⟨rfl, fun w' hw' => ?_⟩ ?_ 66 rfl (by kernel_rfl) fun x0 => ?_
  rotate_left 2
  · obtain ⟨c0, c1⟩ := hw'
    have hgl : g < w'.heap.size := World.block_lt_of_cell? _ _ c0
    go_big_quiet_op; exact rfl
  · exact rfl
  refine WC_take0 (V := W5) (v := ?_) (a' := ?_) 3 pair_grows rfl (by kernel_rfl) (by kernel_rfl) (by kernel_rfl) ⟨q0, q1⟩ ⟨rfl, fun w' hw' => ?_⟩ ?_ 67 rfl (by kernel_rfl) fun x0 => ?_
  rotate_left 2
  · obtain ⟨c0, c1⟩ := hw'
    have hgl : g < w'.heap.size := World.block_lt_of_cell? _ _ c0
    go_big_quiet_op; exact rfl
  · exact rfl
  refine WC_take0 (V := W5) (v := ?_) (a' := ?_) 4 pair_grows rfl (by kernel_rfl) (by kernel_rfl) (by kernel_rfl) ⟨q0, q1⟩ ⟨rfl, fun w' hw' => ?_⟩ ?_ 68 rfl (by kernel_rfl) fun x0 => ?_
  rotate_left 2
  · obtain ⟨c0, c1⟩ := hw'
    have hgl : g < w'.heap.size := World.block_lt_of_cell? _ _ c0
    go_big_quiet_op
    apply Exists.intro; refine ⟨fun n => ?_, ?_⟩
    · go_at_call 164
      exact gw_call (HMX _).out
    exact rfl
  · exact rfl
  refine WC_take0 (V := W5) (v := ?_) (a' := ?_) 5 pair_grows rfl (by kernel_rfl) (by kernel_rfl) (by kernel_rfl) ⟨q0, q1⟩ ⟨rfl, fun w' hw' => ?_⟩ ?_ 69 rfl (by kernel_rfl) fun x0 => ?_
  rotate_left 2
  · obtain ⟨c0, c1⟩ := hw'
    have hgl : g < w'.heap.size := World.block_lt_of_cell? _ _ c0
    go_big_quiet_op; exact rfl
  · exact rfl
  refine WC_take0 (V := W5) (v := ?_) (a' := ?_) 6 pair_grows rfl (by kernel_rfl) (by kernel_rfl) (by kernel_rfl) ⟨q0, q1⟩ ⟨rfl, fun w' hw' => ?_⟩ ?_ 70 rfl (by kernel_rfl) fun x0 => ?_
  rotate_left 2
  · obtain ⟨c0, c1⟩ := hw'
    have hgl : g < w'.heap.size := World.block_lt_of_cell? _ _ c0
    go_big_quiet_op; exact rfl
  · exact rfl
  refine WC_take0 (V := W5) (v := ?_) (a' := ?_) 7 pair_grows rfl (by kernel_rfl) (by kernel_rfl) (by kernel_rfl) ⟨q0, q1⟩ ⟨rfl, fun w' hw' => ?_⟩ ?_ 71 rfl (by kernel_rfl) fun x0 => ?_
  rotate_left 2
  · obtain ⟨c0, c1⟩ := hw'
    have hgl : g < w'.heap.size := World.block_lt_of_cell? _ _ c0
    go_big_quiet_op; exact rfl
  · exact rfl
  refine WC_take0 (V := W5) (v := ?_) (a' := ?_) 8 pair_grows rfl (by kernel_rfl) (by kernel_rfl) (by kernel_rfl) ⟨q0, q1⟩ ⟨rfl, fun w' hw' => ?_⟩ ?_ 72 rfl (by kernel_rfl) fun x0 => ?_
  rotate_left 2
  · obtain ⟨c0, c1⟩ := hw'
    have hgl : g < w'.heap.size := World.block_lt_of_cell? _ _ c0
    go_big_quiet_op
    apply Exists.intro; refine ⟨fun n => ?_, ?_⟩
    · go_at_call 163
      exact gw_same (HDY _).out
    exact rfl
  · exact rfl
  refine WC_take0 (V := W5) (v := ?_) (a' := ?_) 9 pair_grows rfl (by kernel_rfl) (by kernel_rfl) (by kernel_rfl) ⟨q0, q1⟩ ⟨rfl, fun w' hw' => ?_⟩ ?_ 73 rfl (by kernel_rfl) fun x0 => ?_
  rotate_left 2
  · obtain ⟨c0, c1⟩ := hw'
    have hgl : g < w'.heap.size := World.block_lt_of_cell? _ _ c0
    go_big_quiet_op; exact rfl
  · exact rfl
  refine WC_take0 (V := W5) (v := ?_) (a' := ?_) 10 pair_grows rfl (by kernel_rfl) (by kernel_rfl) (by kernel_rfl) ⟨q0, q1⟩ ⟨rfl, fun w' hw' => ?_⟩ ?_ 74 rfl (by kernel_rfl) fun x0 => ?_
  rotate_left 2
  · obtain ⟨c0, c1⟩ := hw'
    have hgl : g < w'.heap.size := World.block_lt_of_cell? _ _ c0
    go_big_quiet_op; exact rfl
  · exact rfl
  have st := st.grow (gw_below _ x0)
  obtain ⟨V, hV⟩ : ∃ V, gw W5 x0 = V := ⟨_, rfl⟩
  rw [hV] at st ⊢
  clear hV hb0 hg1 hr1 q0 q1 q2 r0 r1 r2 r3 rF hne1 hne2
  obtain ⟨hb0, hg1, hr1, q0, q1, q2, r0, r1, r2, r3, rF⟩ := id st
  have hne1 : ¬ g = V.heap.size := by omega
  have hne2 : ¬ w.heap.size = V.heap.size := by omega
  refine WC_all [11] (by kernel_rfl) (by simp) fun i hi => ?_
  rcases List.mem_singleton.1 hi with rfl
  refine WG_op rfl rfl fun K hK => ?_
  go_big_op
  refine hK _ _ ⟨⟨by simp [go_sem, hne3, q0], by simp [go_sem, hne3, q1]⟩, fun y0 => ?_⟩
  refine WC_done (by kernel_rfl) ?_ _
  unfold NoPanic
  go_wp2_with fail
  exact bodyPost_ret (v := .agg #[.int .i64 (yz), .int .i64 (mx), .int .i64 (dy), .int .i64 (3)]) (by simp [results, Tryz.results120, go_sem, *]) rfl ⟨rfl, by repeat (first | exact xr _ | exact hb0 | apply xa | apply xg | (refine xs ?_ (by simp) _))⟩
  
set_option maxRecDepth 100000 in
set_option maxHeartbeats 16000000 in
theorem c120_noda (g o cap : Nat) (n : Nat) (x y z : List UInt8) (yz dx dy mx my : Int) (hz : 0 ≤ yz) (h1 : 0 ≤ dx) (h2 : ¬ 0 < my) (h3 : 0 < mx) (h4 : ¬ 0 ≤ dy) (w : World) (hcap : n + 1 + 1 + 1 ≤ cap) (hn : n + 1 + 1 + 1 ≤ 4000) (hg : g < w.heap.size) (q0 : w.cell? ⟨g, o, none⟩ = some (.string ⟨x.toArray⟩)) (q1 : w.cell? ⟨g, o + 1, none⟩ = some (.string ⟨y.toArray⟩)) (q2 : w.cell? ⟨g, o + 2, none⟩ = some (.string ⟨z.toArray⟩))
    (H161 : ∀ W, Hid (Calls Tryz.prog 161 #[.string ⟨x.toArray⟩] W fun e w' => e = .returned (.agg #[.int .i64 0, .int .i64 0, .int .i64 0, .int .i64 0]) ∧ Below W.heap.size W w'))
    (HZ : ∀ W, Hid (Calls Tryz.prog 162 #[.string ⟨z.toArray⟩] W fun e w' => e = .returned (.int .i64 yz) ∧ W = w'))
    (HDX : ∀ W, Hid (Calls Tryz.prog 163 #[.string ⟨x.toArray⟩] W fun e w' => e = .returned (.int .i64 dx) ∧ W = w'))
    (HDY : ∀ W, Hid (Calls Tryz.prog 163 #[.string ⟨y.toArray⟩] W fun e w' => e = .returned (.int .i64 dy) ∧ W = w'))
    (HMX : ∀ W, Hid (Calls Tryz.prog 164 #[.string ⟨x.toArray⟩] W fun e w' => e = .returned (.int .i64 mx) ∧ Below W.heap.size W w'))
    (HMY : ∀ W, Hid (Calls Tryz.prog 164 #[.string ⟨y.toArray⟩] W fun e w' => e = .returned (.int .i64 my) ∧ Below W.heap.size W w')) : Calls Tryz.prog 120 #[.slice (some ⟨g, o, none⟩) (n + 1 + 1 + 1) cap] w fun e w' => e = .returned (.agg #[.int .i64 0, .int .i64 0, .int .i64 0, .int .i64 0]) ∧ Below w.heap.size w w' := by
  have hne : ¬ g = w.heap.size := by omega
  go_enter Tryz.func120, Tryz.ntmps120
  have hne3 : ¬ w.heap.size = g := by omega
  go_wp2_with fail
  refine (H161 _).out.mono ?_
  rintro e W1 ⟨rfl, hb1⟩
  have st := DatSt.start hg q0 q1 q2 hb1
  clear hb1 q0 q1 q2 hg hne
  obtain ⟨hb0, hg1, hr1, q0, q1, q2, r0, r1, r2, r3, rF⟩ := id st
  have hne1 : ¬ g = W1.heap.size := by omega
  have hne2 : ¬ w.heap.size = W1.heap.size := by omega
  go_wp2_with fail
  refine (HZ _).out.mono ?_
  rintro e w2 ⟨rfl, rfl⟩
  go_wp2_with fail
  refine (HDX _).out.mono ?_
  rintro e w3 ⟨rfl, rfl⟩
  go_wp2_with fail
  clear hg1 hr1 q0 q1 q2 r0 r1 r2 r3 rF hb0 hne1 hne2
  refine (HMY _).out.mono ?_
  rintro e W4 ⟨rfl, hb⟩
  have st := (st.alloc _).grow hb
  clear hb
  obtain ⟨hb0, hg1, hr1, q0, q1, q2, r0, r1, r2, r3, rF⟩ := id st
  have hne1 : ¬ g = W4.heap.size := by omega
  have hne2 : ¬ w.heap.size = W4.heap.size := by omega
  go_wp2_with fail
  clear hg1 hr1 q0 q1 q2 r0 r1 r2 r3 rF hb0 hne1 hne2
  refine (HMX _).out.mono ?_
  rintro e W5 ⟨rfl, hb⟩
  have st := st.grow hb
  clear hb
  obtain ⟨hb0, hg1, hr1, q0, q1, q2, r0, r1, r2, r3, rF⟩ := id st
  have hne1 : ¬ g = W5.heap.size := by omega
  have hne2 : ¬ w.heap.size = W5.heap.size := by omega
  go_wp2_with fail
  refine (HDY _).out.mono ?_
  rintro e w6 ⟨rfl, rfl⟩
  go_wp2_with fail
  exact bodyPost_ret (v := .agg #[.int .i64 (0), .int .i64 (0), .int .i64 (0), .int .i64 (0)]) (by simp [results, Tryz.results120, go_sem, *]) rfl ⟨rfl, by repeat (first | exact xr _ | exact hb0 | apply xa | apply xg | (refine xs ?_ (by simp) _))⟩
set_option maxRecDepth 100000 in
set_option maxHeartbeats 16000000 in
theorem c120_noma (g o cap : Nat) (n : Nat) (x y z : List UInt8) (yz dx dy mx my : Int) (hz : 0 ≤ yz) (h1 : 0 ≤ dx) (h2 : ¬ 0 < my) (h3 : ¬ 0 < mx) (w : World) (hcap : n + 1 + 1 + 1 ≤ cap) (hn : n + 1 + 1 + 1 ≤ 4000) (hg : g < w.heap.size) (q0 : w.cell? ⟨g, o, none⟩ = some (.string ⟨x.toArray⟩)) (q1 : w.cell? ⟨g, o + 1, none⟩ = some (.string ⟨y.toArray⟩)) (q2 : w.cell? ⟨g, o + 2, none⟩ = some (.string ⟨z.toArray⟩))
    (H161 : ∀ W, Hid (Calls Tryz.prog 161 #[.string ⟨x.toArray⟩] W fun e w' => e = .returned (.agg #[.int .i64 0, .int .i64 0, .int .i64 0, .int .i64 0]) ∧ Below W.heap.size W w'))
    (HZ : ∀ W, Hid (Calls Tryz.prog 162 #[.string ⟨z.toArray⟩] W fun e w' => e = .returned (.int .i64 yz) ∧ W = w'))
    (HDX : ∀ W, Hid (Calls Tryz.prog 163 #[.string ⟨x.toArray⟩] W fun e w' => e = .returned (.int .i64 dx) ∧ W = w'))
    (HDY : ∀ W, Hid (Calls Tryz.prog 163 #[.string ⟨y.toArray⟩] W fun e w' => e = .returned (.int .i64 dy) ∧ W = w'))
    (HMX : ∀ W, Hid (Calls Tryz.prog 164 #[.string ⟨x.toArray⟩] W fun e w' => e = .returned (.int .i64 mx) ∧ Below W.heap.size W w'))
    (HMY : ∀ W, Hid (Calls Tryz.prog 164 #[.string ⟨y.toArray⟩] W fun e w' => e = .returned (.int .i64 my) ∧ Below W.heap.size W w')) : Calls Tryz.prog 120 #[.slice (some ⟨g, o, none⟩) (n + 1 + 1 + 1) cap] w fun e w' => e = .returned (.agg #[.int .i64 0, .int .i64 0, .int .i64 0, .int .i64 0]) ∧ Below w.heap.size w w' := by
  have hne : ¬ g = w.heap.size := by omega
  go_enter Tryz.func120, Tryz.ntmps120
  have hne3 : ¬ w.heap.size = g := by omega
  go_wp2_with fail
  refine (H161 _).out.mono ?_
  rintro e W1 ⟨rfl, hb1⟩
  have st := DatSt.start hg q0 q1 q2 hb1
  clear hb1 q0 q1 q2 hg hne
  obtain ⟨hb0, hg1, hr1, q0, q1, q2, r0, r1, r2, r3, rF⟩ := id st
  have hne1 : ¬ g = W1.heap.size := by omega
  have hne2 : ¬ w.heap.size = W1.heap.size := by omega
  go_wp2_with fail
  refine (HZ _).out.mono ?_
  rintro e w2 ⟨rfl, rfl⟩
  go_wp2_with fail
  refine (HDX _).out.mono ?_
  rintro e w3 ⟨rfl, rfl⟩
  go_wp2_with fail
  clear hg1 hr1 q0 q1 q2 r0 r1 r2 r3 rF hb0 hne1 hne2
  refine (HMY _).out.mono ?_
  rintro e W4 ⟨rfl, hb⟩
  have st := (st.alloc _).grow hb
  clear hb
  obtain ⟨hb0, hg1, hr1, q0, q1, q2, r0, r1, r2, r3, rF⟩ := id st
  have hne1 : ¬ g = W4.heap.size := by omega
  have hne2 : ¬ w.heap.size = W4.heap.size := by omega
  go_wp2_with fail
  clear hg1 hr1 q0 q1 q2 r0 r1 r2 r3 rF hb0 hne1 hne2
  refine (HMX _).out.mono ?_
  rintro e W5 ⟨rfl, hb⟩
  have st := st.grow hb
  clear hb
  obtain ⟨hb0, hg1, hr1, q0, q1, q2, r0, r1, r2, r3, rF⟩ := id st
  have hne1 : ¬ g = W5.heap.size := by omega
  have hne2 : ¬ w.heap.size = W5.heap.size := by omega
  go_wp2_with fail
  exact bodyPost_ret (v := .agg #[.int .i64 (0), .int .i64 (0), .int .i64 (0), .int .i64 (0)]) (by simp [results, Tryz.results120, go_sem, *]) rfl ⟨rfl, by repeat (first | exact xr _ | exact hb0 | apply xa | apply xg | (refine xs ?_ (by simp) _))⟩
set_option maxRecDepth 100000 in
set_option maxHeartbeats 16000000 in
theorem c120_mdb (g o cap : Nat) (n : Nat) (x y z : List UInt8) (yz dx dy mx my : Int) (hz : 0 ≤ yz) (h1 : ¬ 0 ≤ dx) (h3 : 0 < mx) (h4 : 0 ≤ dy) (w : World) (hcap : n + 1 + 1 + 1 ≤ cap) (hn : n + 1 + 1 + 1 ≤ 4000) (hg : g < w.heap.size) (q0 : w.cell? ⟨g, o, none⟩ = some (.string ⟨x.toArray⟩)) (q1 : w.cell? ⟨g, o + 1, none⟩ = some (.string ⟨y.toArray⟩)) (q2 : w.cell? ⟨g, o + 2, none⟩ = some (.string ⟨z.toArray⟩))
    (H161 : ∀ W, Hid (Calls Tryz.prog 161 #[.string ⟨x.toArray⟩] W fun e w' => e = .returned (.agg #[.int .i64 0, .int .i64 0, .int .i64 0, .int .i64 0]) ∧ Below W.heap.size W w'))
    (HZ : ∀ W, Hid (Calls Tryz.prog 162 #[.string ⟨z.toArray⟩] W fun e w' => e = .returned (.int .i64 yz) ∧ W = w'))
    (HDX : ∀ W, Hid (Calls Tryz.prog 163 #[.string ⟨x.toArray⟩] W fun e w' => e = .returned (.int .i64 dx) ∧ W = w'))
    (HDY : ∀ W, Hid (Calls Tryz.prog 163 #[.string ⟨y.toArray⟩] W fun e w' => e = .returned (.int .i64 dy) ∧ W = w'))
    (HMX : ∀ W, Hid (Calls Tryz.prog 164 #[.string ⟨x.toArray⟩] W fun e w' => e = .returned (.int .i64 mx) ∧ Below W.heap.size W w'))
    (HMY : ∀ W, Hid (Calls Tryz.prog 164 #[.string ⟨y.toArray⟩] W fun e w' => e = .returned (.int .i64 my) ∧ Below W.heap.size W w')) : Calls Tryz.prog 120 #[.slice (some ⟨g, o, none⟩) (n + 1 + 1 + 1) cap] w fun e w' => e = .returned (.agg #[.int .i64 yz, .int .i64 mx, .int .i64 dy, .int .i64 3]) ∧ Below w.heap.size w w' := by
  have hne : ¬ g = w.heap.size := by omega
  go_enter Tryz.func120, Tryz.ntmps120
  have hne3 : ¬ w.heap.size = g := by omega
  go_wp2_with fail
  refine (H161 _).out.mono ?_
  rintro e W1 ⟨rfl, hb1⟩
  have st := DatSt.start hg q0 q1 q2 hb1
  clear hb1 q0 q1 q2 hg hne
  obtain ⟨hb0, hg1, hr1, q0, q1, q2, r0, r1, r2, r3, rF⟩ := id st
  have hne1 : ¬ g = W1.heap.size := by omega
  have hne2 : ¬ w.heap.size = W1.heap.size := by omega
  go_wp2_with fail
  refine (HZ _).out.mono ?_
  rintro e w2 ⟨rfl, rfl⟩
  go_wp2_with fail
  refine (HDX _).out.mono ?_
  rintro e w3 ⟨rfl, rfl⟩
  go_wp2_with fail
  clear hg1 hr1 q0 q1 q2 r0 r1 r2 r3 rF hb0 hne1 hne2
  refine (HMX _).out.mono ?_
  rintro e W5 ⟨rfl, hb⟩
  have st := (st.alloc _).grow hb
  clear hb
  obtain ⟨hb0, hg1, hr1, q0, q1, q2, r0, r1, r2, r3, rF⟩ := id st
  have hne1 : ¬ g = W5.heap.size := by omega
  have hne2 : ¬ w.heap.size = W5.heap.size := by omega
  go_wp2_with fail
  refine (HDY _).out.mono ?_
  rintro e w6 ⟨rfl, rfl⟩
  go_wp2_with fail
  refine wp_region_class (fun w' => w'.cell? ⟨g, o, none⟩ = some (.string ⟨x.toArray⟩) ∧ w'.cell? ⟨g, o + 1, none⟩ = some (.string ⟨y.toArray⟩)) (by kernel_rfl) fun x0 => ?_
  refine WC_take0 (V := W5) (v := ?_) (a' := ?_) 0 pair_grows rfl (by kernel_rfl) (by kernel_rfl) (by kernel_rfl) ⟨q0, q1⟩ ⟨rfl, fun w' hw' => ?_⟩ ?_ 64 rfl (by kernel_rfl) fun x0 => ?_
  rotate_left 2
  · obtain ⟨c0, c1⟩ := hw'
    have hgl : g < w'.heap.size := World.block_lt_of_cell? _ _ c0
    go_big_quiet_op; exact rfl
  · exact rfl
  refine WC_take0 (V := W5) (v := ?_) (a' := ?_) 1 pair_grows rfl (by kernel_rfl) (by kernel_rfl) (by kernel_rfl) ⟨q0, q1⟩ ⟨rfl, fun w' hw' => ?_⟩ ?_ 65 rfl (by kernel_rfl) fun x0 => ?_
  rotate_left 2
  · obtain ⟨c0, c1⟩ := hw'
    have hgl : g < w'.heap.size := World.block_lt_of_cell? _ _ c0
    go_big_quiet_op; exact rfl
  · exact rfl
  refine WC_take0 (V := W5) (v := ?_) (a' := ?_) 2 pair_grows rfl (by kernel_rfl) (by kernel_rfl) (by kernel_rfl) ⟨q0, q1⟩ ⟨rfl, fun w' hw' => ?_⟩ ?_ 66 rfl (by kernel_rfl) fun x0 => ?_
  rotate_left 2
  · obtain ⟨c0, c1⟩ := hw'
    have hgl : g < w'.heap.size := World.block_lt_of_cell? _ _ c0
    go_big_quiet_op; exact rfl
  · exact rfl
  refine WC_take0 (V := W5) (v := ?_) (a' := ?_) 3 pair_grows rfl (by kernel_rfl) (by kernel_rfl) (by kernel_rfl) ⟨q0, q1⟩ ⟨rfl, fun w' hw' => ?_⟩ ?_ 67 rfl (by kernel_rfl) fun x0 => ?_
  rotate_left 2
  · obtain ⟨c0, c1⟩ := hw'
    have hgl : g < w'.heap.size := World.block_lt_of_cell? _ _ c0
    go_big_quiet_op; exact rfl
  · exact rfl
  refine WC_take0 (V := W5) (v := ?_) (a' := ?_) 4 pair_grows rfl (by kernel_rfl) (by kernel_rfl) (by kernel_rfl) ⟨q0, q1⟩ ⟨rfl, fun w' hw' => ?_⟩ ?_ 68 rfl (by kernel_rfl) fun x0 => ?_
  rotate_left 2
  · obtain ⟨c0, c1⟩ := hw'
    have hgl : g < w'.heap.size := World.block_lt_of_cell? _ _ c0
    go_big_quiet_op
    apply Exists.intro; refine ⟨fun n => ?_, ?_⟩
    · go_at_call 164
      exact gw_call (HMX _).out
    exact rfl
  · exact rfl
  refine WC_take0 (V := W5) (v := ?_) (a' := ?_) 5 pair_grows rfl (by kernel_rfl) (by kernel_rfl) (by kernel_rfl) ⟨q0, q1⟩ ⟨rfl, fun w' hw' => ?_⟩ ?_ 69 rfl (by kernel_rfl) fun x0 => ?_
  rotate_left 2
  · obtain ⟨c0, c1⟩ := hw'
    have hgl : g < w'.heap.size := World.block_lt_of_cell? _ _ c0
    go_big_quiet_op; exact rfl
  · exact rfl
  refine WC_take0 (V := W5) (v := ?_) (a' := ?_) 6 pair_grows rfl (by kernel_rfl) (by kernel_rfl) (by kernel_rfl) ⟨q0, q1⟩ ⟨rfl, fun w' hw' => ?_⟩ ?_ 70 rfl (by kernel_rfl) fun x0 => ?_
  rotate_left 2
  · obtain ⟨c0, c1⟩ := hw'
    have hgl : g < w'.heap.size := World.block_lt_of_cell? _ _ c0
    go_big_quiet_op; exact rfl
  · exact rfl
  refine WC_take0 (V := W5) (v := ?_) (a' := ?_) 7 pair_grows rfl (by kernel_rfl) (by kernel_rfl) (by kernel_rfl) ⟨q0, q1⟩ ⟨rfl, fun w' hw' => ?_⟩ ?_ 71 rfl (by kernel_rfl) fun x0 => ?_
  rotate_left 2
  · obtain ⟨c0, c1⟩ := hw'
    have hgl : g < w'.heap.size := World.block_lt_of_cell? _ _ c0
    go_big_quiet_op; exact rfl
  · exact rfl
  refine WC_take0 (V := W5) (v := ?_) (a' := ?_) 8 pair_grows rfl (by kernel_rfl) (by kernel_rfl) (by kernel_rfl) ⟨q0, q1⟩ ⟨rfl, fun w' hw' => ?_⟩ ?_ 72 rfl (by kernel_rfl) fun x0 => ?_
  rotate_left 2
  · obtain ⟨c0, c1⟩ := hw'
    have hgl : g < w'.heap.size := World.block_lt_of_cell? _ _ c0
    go_big_quiet_op
    apply Exists.intro; refine ⟨fun n => ?_, ?_⟩
    · go_at_call 163
      exact gw_same (HDY _).out
    exact rfl
  · exact rfl
  refine WC_take0 (V := W5) (v := ?_) (a' := ?_) 9 pair_grows rfl (by kernel_rfl) (by kernel_rfl) (by kernel_rfl) ⟨q0, q1⟩ ⟨rfl, fun w' hw' => ?_⟩ ?_ 73 rfl (by kernel_rfl) fun x0 => ?_
  rotate_left 2
  · obtain ⟨c0, c1⟩ := hw'
    have hgl : g < w'.heap.size := World.block_lt_of_cell? _ _ c0
    go_big_quiet_op; exact rfl
  · exact rfl
  refine WC_take0 (V := W5) (v := ?_) (a' := ?_) 10 pair_grows rfl (by kernel_rfl) (by kernel_rfl) (by kernel_rfl) ⟨q0, q1⟩ ⟨rfl, fun w' hw' => ?_⟩ ?_ 74 rfl (by kernel_rfl) fun x0 => ?_
  rotate_left 2
  · obtain ⟨c0, c1⟩ := hw'
    have hgl : g < w'.heap.size := World.block_lt_of_cell? _ _ c0
    go_big_quiet_op; exact rfl
  · exact rfl
  have st := st.grow (gw_below _ x0)
  obtain ⟨V, hV⟩ : ∃ V, gw W5 x0 = V := ⟨_, rfl⟩
  rw [hV] at st ⊢
  clear hV hb0 hg1 hr1 q0 q1 q2 r0 r1 r2 r3 rF hne1 hne2
  obtain ⟨hb0, hg1, hr1, q0, q1, q2, r0, r1, r2, r3, rF⟩ := id st
  have hne1 : ¬ g = V.heap.size := by omega
  have hne2 : ¬ w.heap.size = V.heap.size := by omega
  refine WC_all [11] (by kernel_rfl) (by simp) fun i hi => ?_
  rcases List.mem_singleton.1 hi with rfl
  refine WG_op rfl rfl fun K hK => ?_
  go_big_op
  refine hK _ _ ⟨⟨by simp [go_sem, hne3, q0], by simp [go_sem, hne3, q1]⟩, fun y0 => ?_⟩
  refine WC_done (by kernel_rfl) ?_ _
  unfold NoPanic
  go_wp2_with fail
  exact bodyPost_ret (v := .agg #[.int .i64 (yz), .int .i64 (mx), .int .i64 (dy), .int .i64 (3)]) (by simp [results, Tryz.results120, go_sem, *]) rfl ⟨rfl, by repeat (first | exact xr _ | exact hb0 | apply xa | apply xg | (refine xs ?_ (by simp) _))⟩
  
set_option maxRecDepth 100000 in
set_option maxHeartbeats 16000000 in
theorem c120_nodb (g o cap : Nat) (n : Nat) (x y z : List UInt8) (yz dx dy mx my : Int) (hz : 0 ≤ yz) (h1 : ¬ 0 ≤ dx) (h3 : 0 < mx) (h4 : ¬ 0 ≤ dy) (w : World) (hcap : n + 1 + 1 + 1 ≤ cap) (hn : n + 1 + 1 + 1 ≤ 4000) (hg : g < w.heap.size) (q0 : w.cell? ⟨g, o, none⟩ = some (.string ⟨x.toArray⟩)) (q1 : w.cell? ⟨g, o + 1, none⟩ = some (.string ⟨y.toArray⟩)) (q2 : w.cell? ⟨g, o + 2, none⟩ = some (.string ⟨z.toArray⟩))
    (H161 : ∀ W, Hid (Calls Tryz.prog 161 #[.string ⟨x.toArray⟩] W fun e w' => e = .returned (.agg #[.int .i64 0, .int .i64 0, .int .i64 0, .int .i64 0]) ∧ Below W.heap.size W w'))
    (HZ : ∀ W, Hid (Calls Tryz.prog 162 #[.string ⟨z.toArray⟩] W fun e w' => e = .returned (.int .i64 yz) ∧ W = w'))
    (HDX : ∀ W, Hid (Calls Tryz.prog 163 #[.string ⟨x.toArray⟩] W fun e w' => e = .returned (.int .i64 dx) ∧ W = w'))
    (HDY : ∀ W, Hid (Calls Tryz.prog 163 #[.string ⟨y.toArray⟩] W fun e w' => e = .returned (.int .i64 dy) ∧ W = w'))
    (HMX : ∀ W, Hid (Calls Tryz.prog 164 #[.string ⟨x.toArray⟩] W fun e w' => e = .returned (.int .i64 mx) ∧ Below W.heap.size W w'))
    (HMY : ∀ W, Hid (Calls Tryz.prog 164 #[.string ⟨y.toArray⟩] W fun e w' => e = .returned (.int .i64 my) ∧ Below W.heap.size W w')) : Calls Tryz.prog 120 #[.slice (some ⟨g, o, none⟩) (n + 1 + 1 + 1) cap] w fun e w' => e = .returned (.agg #[.int .i64 0, .int .i64 0, .int .i64 0, .int .i64 0]) ∧ Below w.heap.size w w' := by
  have hne : ¬ g = w.heap.size := by omega
  go_enter Tryz.func120, Tryz.ntmps120
  have hne3 : ¬ w.heap.size = g := by omega
  go_wp2_with fail
  refine (H161 _).out.mono ?_
  rintro e W1 ⟨rfl, hb1⟩
  have st := DatSt.start hg q0 q1 q2 hb1
  clear hb1 q0 q1 q2 hg hne
  obtain ⟨hb0, hg1, hr1, q0, q1, q2, r0, r1, r2, r3, rF⟩ := id st
  have hne1 : ¬ g = W1.heap.size := by omega
  have hne2 : ¬ w.heap.size = W1.heap.size := by omega
  go_wp2_with fail
  refine (HZ _).out.mono ?_
  rintro e w2 ⟨rfl, rfl⟩
  go_wp2_with fail
  refine (HDX _).out.mono ?_
  rintro e w3 ⟨rfl, rfl⟩
  go_wp2_with fail
  clear hg1 hr1 q0 q1 q2 r0 r1 r2 r3 rF hb0 hne1 hne2
  refine (HMX _).out.mono ?_
  rintro e W5 ⟨rfl, hb⟩
  have st := (st.alloc _).grow hb
  clear hb
  obtain ⟨hb0, hg1, hr1, q0, q1, q2, r0, r1, r2, r3, rF⟩ := id st
  have hne1 : ¬ g = W5.heap.size := by omega
  have hne2 : ¬ w.heap.size = W5.heap.size := by omega
  go_wp2_with fail
  refine (HDY _).out.mono ?_
  rintro e w6 ⟨rfl, rfl⟩
  go_wp2_with fail
  exact bodyPost_ret (v := .agg #[.int .i64 (0), .int .i64 (0), .int .i64 (0), .int .i64 (0)]) (by simp [results, Tryz.results120, go_sem, *]) rfl ⟨rfl, by repeat (first | exact xr _ | exact hb0 | apply xa | apply xg | (refine xs ?_ (by simp) _))⟩
set_option maxRecDepth 100000 in
set_option maxHeartbeats 16000000 in
theorem c120_nomb (g o cap : Nat) (n : Nat) (x y z : List UInt8) (yz dx dy mx my : Int) (hz : 0 ≤ yz) (h1 : ¬ 0 ≤ dx) (h3 : ¬ 0 < mx) (w : World) (hcap : n + 1 + 1 + 1 ≤ cap) (hn : n + 1 + 1 + 1 ≤ 4000) (hg : g < w.heap.size) (q0 : w.cell? ⟨g, o, none⟩ = some (.string ⟨x.toArray⟩)) (q1 : w.cell? ⟨g, o + 1, none⟩ = some (.string ⟨y.toArray⟩)) (q2 : w.cell? ⟨g, o + 2, none⟩ = some (.string ⟨z.toArray⟩))
    (H161 : ∀ W, Hid (Calls Tryz.prog 161 #[.string ⟨x.toArray⟩] W fun e w' => e = .returned (.agg #[.int .i64 0, .int .i64 0, .int .i64 0, .int .i64 0]) ∧ Below W.heap.size W w'))
    (HZ : ∀ W, Hid (Calls Tryz.prog 162 #[.string ⟨z.toArray⟩] W fun e w' => e = .returned (.int .i64 yz) ∧ W = w'))
    (HDX : ∀ W, Hid (Calls Tryz.prog 163 #[.string ⟨x.toArray⟩] W fun e w' => e = .returned (.int .i64 dx) ∧ W = w'))
    (HDY : ∀ W, Hid (Calls Tryz.prog 163 #[.string ⟨y.toArray⟩] W fun e w' => e = .returned (.int .i64 dy) ∧ W = w'))
    (HMX : ∀ W, Hid (Calls Tryz.prog 164 #[.string ⟨x.toArray⟩] W fun e w' => e = .returned (.int .i64 mx) ∧ Below W.heap.size W w'))
    (HMY : ∀ W, Hid (Calls Tryz.prog 164 #[.string ⟨y.toArray⟩] W fun e w' => e = .returned (.int .i64 my) ∧ Below W.heap.size W w')) : Calls Tryz.prog 120 #[.slice (some ⟨g, o, none⟩) (n + 1 + 1 + 1) cap] w fun e w' => e = .returned (.agg #[.int .i64 0, .int .i64 0, .int .i64 0, .int .i64 0]) ∧ Below w.heap.size w w' := by
  have hne : ¬ g = w.heap.size := by omega
  go_enter Tryz.func120, Tryz.ntmps120
  have hne3 : ¬ w.heap.size = g := by omega
  go_wp2_with fail
  refine (H161 _).out.mono ?_
  rintro e W1 ⟨rfl, hb1⟩
  have st := DatSt.start hg q0 q1 q2 hb1
  clear hb1 q0 q1 q2 hg hne
  obtain ⟨hb0, hg1, hr1, q0, q1, q2, r0, r1, r2, r3, rF⟩ := id st
  have hne1 : ¬ g = W1.heap.size := by omega
  have hne2 : ¬ w.heap.size = W1.heap.size := by omega
  go_wp2_with fail
  refine (HZ _).out.mono ?_
  rintro e w2 ⟨rfl, rfl⟩
  go_wp2_with fail
  refine (HDX _).out.mono ?_
  rintro e w3 ⟨rfl, rfl⟩
  go_wp2_with fail
  clear hg1 hr1 q0 q1 q2 r0 r1 r2 r3 rF hb0 hne1 hne2
  refine (HMX _).out.mono ?_
  rintro e W5 ⟨rfl, hb⟩
  have st := (st.alloc _).grow hb
  clear hb
  obtain ⟨hb0, hg1, hr1, q0, q1, q2, r0, r1, r2, r3, rF⟩ := id st
  have hne1 : ¬ g = W5.heap.size := by omega
  have hne2 : ¬ w.heap.size = W5.heap.size := by omega
  go_wp2_with fail
  exact bodyPost_ret (v := .agg #[.int .i64 (0), .int .i64 (0), .int .i64 (0), .int .i64 (0)]) (by simp [results, Tryz.results120, go_sem, *]) rfl ⟨rfl, by repeat (first | exact xr _ | exact hb0 | apply xa | apply xg | (refine xs ?_ (by simp) _))⟩
theorem c120 (v : Value) (ws : List (List UInt8)) (w : World) (hv : WordsV w v ws) (hl : ∀ u ∈ ws, u.length ≤ 4000) (hn : ws.length ≤ 4000) : Calls Tryz.prog 120 #[v] w fun e w' => e = .returned (datV (datR ws)) ∧ Below w.heap.size w w' := by
  cases ws with
  | nil => exact c120_nil v w hv
  | cons x r =>
    obtain ⟨g, o, cap, rfl, hcap, hg, HC⟩ := words_first hv
    have q0 := HC 0 x rfl
    have hx := hl x (by simp)
    simp only [List.length_cons] at hn
    cases hO : oneO x with
    | some d =>
      have e : datR (x :: r) = some (d, 1) := by
        simp only [datR, hO]
      rw [e]
      exact c120_one g o cap r.length x d.y d.m d.d w hcap hn hg q0 (c161_some hO hx)
    | none =>
      have H := c161_none hO hx
      match r, hv, hl, hn, hcap, HC with
      | [], hv, hl, hn, hcap, HC =>
        have e : datR [x] = none := by
          simp only [datR, hO]
        rw [e]
        exact c120_few g o cap 0 x (by omega) w hcap hn hg q0 H
      | [y], hv, hl, hn, hcap, HC =>
        have e : datR [x, y] = none := by
          simp only [datR, hO]
        rw [e]
        exact c120_few g o cap 1 x (by omega) w hcap hn hg q0 H
      | y :: z :: r, hv, hl, hn, hcap, HC =>
        have q1 := HC 1 y rfl
        have q2 := HC 2 z rfl
        have hy := hl y (by simp)
        have hz := hl z (by simp)
        simp only [List.length_cons] at hcap hn
        obtain ⟨yz, hyz⟩ : ∃ a, orM (yearO z) = a := ⟨_, rfl⟩
        obtain ⟨dx, hdx⟩ : ∃ a, orM (domO x) = a := ⟨_, rfl⟩
        obtain ⟨dy, hdy⟩ : ∃ a, orM (domO y) = a := ⟨_, rfl⟩
        obtain ⟨mx, hmx⟩ : ∃ a, (monthO x).getD 0 = a := ⟨_, rfl⟩
        obtain ⟨my, hmy⟩ : ∃ a, (monthO y).getD 0 = a := ⟨_, rfl⟩
        have e : datR (x :: y :: z :: r) = if yz < 0 then none else if 0 ≤ dx ∧ 0 < my then some (⟨yz, my, dx⟩, 3) else if 0 < mx ∧ 0 ≤ dy then some (⟨yz, mx, dy⟩, 3) else none := by
          simp only [datR, hO, hyz, hdx, hdy, hmx, hmy]
        rw [e]
        have HZ := c162_H hyz
        have HDX := c163_H hdx hx
        have HDY := c163_H hdy hy
        have HMX := c164_H hmx hx
        have HMY := c164_H hmy hy
        by_cases b0 : yz < 0
        · rw [if_pos b0]
          exact c120_neg g o cap r.length x y z yz dx dy mx my b0 w hcap hn hg q0 q1 q2 H HZ HDX HDY HMX HMY
        rw [if_neg b0]
        have b0 : 0 ≤ yz := by omega
        by_cases b1 : 0 ≤ dx
        · by_cases b2 : 0 < my
          · rw [if_pos ⟨b1, b2⟩]
            exact c120_dm g o cap r.length x y z yz dx dy mx my b0 b1 b2 w hcap hn hg q0 q1 q2 H HZ HDX HDY HMX HMY
          · rw [if_neg (fun h => b2 h.2)]
            by_cases b3 : 0 < mx
            · by_cases b4 : 0 ≤ dy
              · rw [if_pos ⟨b3, b4⟩]
                exact c120_mda g o cap r.length x y z yz dx dy mx my b0 b1 b2 b3 b4 w hcap hn hg q0 q1 q2 H HZ HDX HDY HMX HMY
              · rw [if_neg (fun h => b4 h.2)]
                exact c120_noda g o cap r.length x y z yz dx dy mx my b0 b1 b2 b3 b4 w hcap hn hg q0 q1 q2 H HZ HDX HDY HMX HMY
            · rw [if_neg (fun h => b3 h.1)]
              exact c120_noma g o cap r.length x y z yz dx dy mx my b0 b1 b2 b3 w hcap hn hg q0 q1 q2 H HZ HDX HDY HMX HMY
        · rw [if_neg (fun h => b1 h.1)]
          by_cases b3 : 0 < mx
          · by_cases b4 : 0 ≤ dy
            · rw [if_pos ⟨b3, b4⟩]
              exact c120_mdb g o cap r.length x y z yz dx dy mx my b0 b1 b3 b4 w hcap hn hg q0 q1 q2 H HZ HDX HDY HMX HMY
            · rw [if_neg (fun h => b4 h.2)]
              exact c120_nodb g o cap r.length x y z yz dx dy mx my b0 b1 b3 b4 w hcap hn hg q0 q1 q2 H HZ HDX HDY HMX HMY
          · rw [if_neg (fun h => b3 h.1)]
            exact c120_nomb g o cap r.length x y z yz dx dy mx my b0 b1 b3 w hcap hn hg q0 q1 q2 H HZ HDX HDY HMX HMY
end Go.Proofs.YthifeoebefbalaaGreatDoor
