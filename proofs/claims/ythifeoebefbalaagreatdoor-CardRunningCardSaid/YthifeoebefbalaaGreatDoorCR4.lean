/- Parts: Z4, Z13. -/
import Derived.Test.YthifeoebefbalaaGreatDoorCR3
import Derived.RangeFuncNested
import Derived.RangeFuncBound
import Derived.RangeFuncCalls
import Derived.RangeFuncLeaves
import Derived.Shelf.RegionOpen
import Derived.OwnWalkIn
import Derived.TacticsInMore
import Derived.LoopNIn
import Derived.LoopIn
import Derived.TacticsIn
import Derived.Test.YthifeoebefbalaaGreatDoorCR2
import Derived.RecoverIn
import Derived.Recover
import Derived.RangeFuncBox
import Derived.Maps.AppendAt
import Derived.Test.YthifeoebefbalaaGreatDoorProg
import Derived.Test.YthifeoebefbalaaGreatDoorCards
import Derived.Test.YthifeoebefbalaaGreatDoorTie
import Derived.ProofKit
import Derived.OpenShut
import Derived.Deep.DeepHandedRow
import Derived.Lib.LaidTab
import Derived.Lay
import Derived.Stop.LaidErr
import Derived.HandedShaped
import Derived.Shelf.Vars
set_option linter.unusedVariables false
set_option linter.unusedSimpArgs false
set_option linter.unnecessarySimpa false
namespace Go.Proofs.YthifeoebefbalaaGreatDoor
open Go.RowKit
attribute [local go_sem] Oper.semAt_some

/-- What a round that goes on keeps: the text's variable, and iterators. -/
def Kw (bx : Nat) (W W' : World) : Prop := W'.cell? ⟨bx, 0, none⟩ = W.cell? ⟨bx, 0, none⟩ ∧ KeepsWalks W W'

theorem grown_none {W W' : World} (h : Below W.heap.size W W') : W.grownBy W' none := ⟨h.os, h.tape, h.output, h.size, fun k hk _ => h.block k hk⟩
theorem grown_iter (W : World) (k : Nat) (s : ByteArray) (p : Nat) : W.grownBy (W.iterAt k s p) (some k) :=
  ⟨rfl, rfl, rfl, by simp [World.iterAt], fun j _ hj => by simp [World.iterAt, Array.getElem?_setIfInBounds_ne (show k ≠ j from fun e => hj (by rw [e]))]⟩

/-- What the variable 'begin' holds. -/
def Begins (l : List UInt8) (p : Nat) (bg : Int) : Prop :=
  ((wfold (l.take p)).2 = [] ∧ bg = -1) ∨ ∃ b : Nat, b < p ∧ bg = b ∧ (wfold (l.take p)).2 = smallL ((l.drop b).take (p - b))

set_option maxRecDepth 100000 in
set_option maxHeartbeats 4000000 in
theorem words_stop (bx : Nat) (l : List UInt8) (w : World) (n : Nat) (hbx : w.cell? ⟨bx, 0, none⟩ = some (.string ⟨l.toArray⟩)) (hl : l.length < 2 ^ 40) :
    SeqStopsK Fence.wide n Tryz.prog 150 #[.pointer (some ⟨bx, 0, none⟩)] (fun s : List UInt8 => #[.string ⟨s.toArray⟩]) (Kw bx) (fun xs => xs = wordsOf l) (fun _ => True) (l.length + 1) w := by
  intro ll J Jx W hbW hJ hJx hY h0
  have hbl : bx < w.heap.size := World.block_lt_of_cell? w _ hbx
  have hbx' : W.cell? ⟨bx, 0, none⟩ = some (.string ⟨l.toArray⟩) := by rw [hbW.cell (p := ⟨bx, 0, none⟩) hbl, hbx]
  have hblW : bx < W.heap.size := World.block_lt_of_cell? W _ hbx'
  have HBX := Lib.hid hbx'
  have hJ' := Lib.hid hJ
  have hJx' := Lib.hid hJx
  have hY' := Lib.hid hY
  have hk0 : (W.iter ⟨l.toArray⟩ 0).heap[W.heap.size]? = some (.stringIter ⟨l.toArray⟩ 0) := World.iter_heap W _ 0
  have hit : W.iter ⟨l.toArray⟩ 0 = W.alloc (.stringIter ⟨l.toArray⟩ 0) := rfl
  have hc0 : (W.iter ⟨l.toArray⟩ 0).cell? ⟨bx, 0, none⟩ = some (.string ⟨l.toArray⟩) := by
    rw [hit, World.cell?_alloc_lt _ _ _ hblW]; exact hbx'
  have hJ0 : J [] (W.iter ⟨l.toArray⟩ 0) := by
    rw [hit]; exact hJ _ _ _ none h0 (World.grownBy_alloc W _ none) (fun r e => by cases e)
  have HK0 := Lib.hid hk0
  have HC0 := Lib.hid hc0
  clear hbx hbW hbl hJ hJx hY h0 hit hk0 hc0
  have hfn : ∀ f, Fence.wide.fn f = True := fun _ => rfl
  have hdp : Fence.wide.depth.isSome = false := rfl
  refine callsIn_of_wp Tryz.func150 rfl trivial ?_ rfl
  simp only [Tryz.ntmps150, List.size_toArray, List.length_cons, List.length_nil, Nat.reduceAdd, Nat.reduceSub, Array.replicate_succ, Array.replicate_zero, List.push_toArray, List.append_toArray, List.nil_append, List.cons_append]
  gi_wp2
  gi_loopw [3] (fun bg wr => ∃ (p : Nat) (bi : Int), p ≤ l.length ∧ bg = .int .i64 bi ∧ Hid (Begins l p bi) ∧ Hid (wr.heap[W.heap.size]? = some (.stringIter ⟨l.toArray⟩ p)) ∧
      Hid (wr.cell? ⟨bx, 0, none⟩ = some (.string ⟨l.toArray⟩)) ∧ J (wfold (l.take p)).1 wr) (fun _ wr => l.length - wr.iterPos W.heap.size)
  case atStart => exact ⟨0, -1, Nat.zero_le _, rfl, Lib.hid (.inl ⟨rfl, rfl⟩), HK0, HC0, hJ0⟩
  case round =>
    obtain ⟨p, bi, hp, rfl, hB, hK, hC, hJs⟩ := hrel
    clear HK0 HC0 hJ0 hbx' HBX
    have hmu : wr.iterPos W.heap.size = p := by simp [World.iterPos, hK.out]
    have HMU := Lib.hid hmu
    clear hmu
    have hkW : W.heap.size < wr.heap.size := (Array.getElem?_eq_some_iff.1 hK.out).1
    by_cases hlt : p < l.length
    · obtain ⟨k1, k2, k3, k4⟩ := rune_step l p hlt
      have hnext : ∀ ty, (Instr.next (.pointer (some ⟨W.heap.size, 0, none⟩)) true ty).run Tryz.prog wr = _ := fun ty => Lib.run_next_any_at wr W.heap.size ⟨l.toArray⟩ p ty hK.out (by simpa [ByteArray.size] using hlt)
      have hJ2 := hJ'.out _ _ _ (some W.heap.size) hJs (grown_iter wr W.heap.size ⟨l.toArray⟩ (p + (Utf8.decode ⟨l.toArray⟩ p).2)) (fun r e => by cases e; exact ⟨Nat.le_refl _, _, hK.out, rfl⟩)
      have hK2 := Lib.iterAt_heap wr W.heap.size ⟨l.toArray⟩ p (p + (Utf8.decode ⟨l.toArray⟩ p).2) hK.out
      have hC2 : (wr.iterAt W.heap.size ⟨l.toArray⟩ (p + (Utf8.decode ⟨l.toArray⟩ p).2)).cell? ⟨bx, 0, none⟩ = some (.string ⟨l.toArray⟩) := by
        rw [← hC.out]
        exact World.cell?_of_block (by simp [World.iterAt, Array.getElem?_setIfInBounds_ne (show W.heap.size ≠ bx by omega)])
      generalize wr.iterAt W.heap.size ⟨l.toArray⟩ (p + (Utf8.decode ⟨l.toArray⟩ p).2) = V at *
      generalize Utf8.decode ⟨l.toArray⟩ p = rk at *
      obtain ⟨r, k⟩ := rk
      simp only at k1 k2 k3 k4 hnext hK2
      have hm2 : V.iterPos W.heap.size = p + k := by simp [World.iterPos, hK2]
      have HM2 := Lib.hid hm2
      have HK2 := Lib.hid hK2
      have HC2 := Lib.hid hC2
      clear hm2 hK2
      cases hg : isGapI (r : Int) with
      | true =>
        obtain ⟨rfl, k5⟩ := k3 hg
        have K5 := Lib.hid k5
        clear k3 k4 k5
        rcases hB.out with ⟨hB1, rfl⟩ | ⟨b, hb, rfl, hB2⟩
        · have HB1 := Lib.hid hB1
          rw [if_pos hB1] at K5
          clear hB1 hC2
          gi_wp2_with (gi_at_call 151; refine (callsIn_wide.2 (c151 (r : Int) V)).mono ?_; rintro e w1 ⟨rfl, rfl⟩; rw [hg])
          go_roundw
          case rel => exact ⟨p + 1, -1, k2, rfl, Lib.hid (.inl ⟨by rw [K5.out]; exact HB1.out, rfl⟩), HK2, HC2, by rw [K5.out]; exact hJ2⟩
          case measure => rw [HMU.out, HM2.out]; omega
        · have HB2 := Lib.hid hB2
          rw [if_neg (by rw [hB2]; intro h; have := congrArg List.length h; simp [smallL] at this; omega)] at K5
          clear hB2
          gi_wp2_with (first | (gi_at_call 151; refine (callsIn_wide.2 (c151 (r : Int) V)).mono ?_; rintro e w1 ⟨rfl, rfl⟩; rw [hg]) | (gi_at_call 152; refine (callsIn_wide.2 (c152 ((l.drop b).take (p - b)) V (by simp; omega))).mono ?_; rintro e w1 ⟨rfl, hb1⟩; have hJ1 := hJ'.out _ _ _ none hJ2 (grown_none hb1) (fun r e => by cases e); obtain ⟨x1, rfl⟩ := of_below hb1; clear hb1; obtain ⟨fn, tmps, assign, body, hy, hR⟩ := hY'.out _ (smallL ((l.drop b).take (p - b))) _ hJ1 (by have := wfold_len (l.take p); simp at this; omega)))
          refine hR.mono ?_
          rintro e W3 (⟨rfl, hJ3, hk3⟩ | ⟨rfl, hJx3⟩)
          · gi_wp2
            go_roundw
            case rel =>
              have e1 : (gw V x1).heap[W.heap.size]? = some (.stringIter ⟨l.toArray⟩ (p + 1)) := by rw [(gw_below V x1).block _ (Array.getElem?_eq_some_iff.1 HK2.out).1]; exact HK2.out
              refine ⟨p + 1, -1, k2, rfl, Lib.hid (.inl ⟨by rw [K5.out], rfl⟩), Lib.hid (hk3.2.same _ _ e1 rfl), Lib.hid ?_, by rw [K5.out]; rw [← HB2.out] at hJ3; exact hJ3⟩
              rw [hk3.1, gw_cell V x1 HC2.out]
            case measure =>
              have e1 : (gw V x1).heap[W.heap.size]? = some (.stringIter ⟨l.toArray⟩ (p + 1)) := by rw [(gw_below V x1).block _ (Array.getElem?_eq_some_iff.1 HK2.out).1]; exact HK2.out
              have e2 := hk3.2.same _ _ e1 rfl
              have e3 : W3.iterPos W.heap.size = p + 1 := by simp [World.iterPos, e2]
              rw [HMU.out, e3]; omega
          · gi_wp2
            refine bodyPost_ret (results_none rfl _ _ _) rfl ?_
            exact ⟨⟨_, rfl⟩, .inr ⟨_, trivial, hJx3⟩⟩
      | false =>
        have K5 := Lib.hid (k4 hg)
        clear k3 k4
        rcases hB.out with ⟨hB1, rfl⟩ | ⟨b, hb, rfl, hB2⟩
        · rw [hB1] at K5
          clear hB1 hC2
          gi_wp2_with (gi_at_call 151; refine (callsIn_wide.2 (c151 (r : Int) V)).mono ?_; rintro e w1 ⟨rfl, rfl⟩; rw [hg])
          go_roundw
          case rel => exact ⟨p + k, p, k2, rfl, Lib.hid (.inr ⟨p, by omega, rfl, by rw [K5.out, show p + k - p = k by omega]; rfl⟩), HK2, HC2, by rw [K5.out]; exact hJ2⟩
          case measure => rw [HMU.out, HM2.out]; omega
        · rw [hB2] at K5
          clear hB2 hC2
          gi_wp2_with (gi_at_call 151; refine (callsIn_wide.2 (c151 (r : Int) V)).mono ?_; rintro e w1 ⟨rfl, rfl⟩; rw [hg])
          go_roundw
          case rel =>
            refine ⟨p + k, b, k2, rfl, Lib.hid (.inr ⟨b, by omega, rfl, ?_⟩), HK2, HC2, by rw [K5.out]; exact hJ2⟩
            rw [K5.out, show p + k - b = (p - b) + k by omega, List.take_add, List.drop_drop, show b + (p - b) = p by omega]
            simp [smallL]
          case measure => rw [HMU.out, HM2.out]; omega
    · have hnext : ∀ ty, (Instr.next (.pointer (some ⟨W.heap.size, 0, none⟩)) true ty).run Tryz.prog wr = _ := fun ty => Lib.run_next_end_at wr W.heap.size ⟨l.toArray⟩ p ty hK.out (by simpa [ByteArray.size] using hlt)
      obtain rfl : p = l.length := by omega
      rw [List.take_length] at hJs
      rcases hB.out with ⟨hB1, rfl⟩ | ⟨b, hb, rfl, hB2⟩
      · have HB1 := Lib.hid hB1
        clear hB1
        gi_wp2
        go_end0
        exact ⟨⟨_, rfl⟩, .inl ⟨_, by rw [List.take_length] at HB1; simp [wordsOf, HB1.out], hJs⟩⟩
      · have HB2 := Lib.hid hB2
        have hCx := hC.out
        clear hB2
        gi_wp2_with (gi_at_call 152; refine (callsIn_wide.2 (c152 ((l.drop b).take (l.length - b)) wr (by simp; omega))).mono ?_; rintro e w1 ⟨rfl, hb1⟩; have hJ1 := hJ'.out _ _ _ none hJs (grown_none hb1) (fun r e => by cases e); obtain ⟨x1, rfl⟩ := of_below hb1; clear hb1; obtain ⟨fn, tmps, assign, body, hy, hR⟩ := hY'.out _ (smallL ((l.drop b).take (l.length - b))) _ hJ1 (by have := wfold_len l; omega))
        refine hR.mono ?_
        rintro e W3 (⟨rfl, hJ3, hk3⟩ | ⟨rfl, hJx3⟩)
        · gi_wp2
          go_end0
          refine ⟨⟨_, rfl⟩, .inl ⟨_, ?_, hJ3⟩⟩
          rw [List.take_length] at HB2
          unfold wordsOf
          rw [if_neg (by rw [HB2.out]; intro h; have := congrArg List.length h; simp [smallL] at this; omega), HB2.out]
        · gi_wp2
          go_end0
          exact ⟨⟨_, rfl⟩, .inr ⟨_, trivial, hJx3⟩⟩
end Go.Proofs.YthifeoebefbalaaGreatDoor

namespace Go.Proofs.YthifeoebefbalaaGreatDoor
open Go.RowKit

section
variable {P : Program} {ops : Array Oper} {Q : Exit → Act → World → Prop} {n lr : Nat}

theorem callsIn_round {f : FuncId} {args : Array Value} {w : World} {R : Ending → World → Prop} (h : Calls P f args w R) : CallsIn (Fence.wide.inRound lr) n P f args w R :=
  CallsIn.inRound lr (callsIn_wide.2 h)
theorem rowsIn_round {row : String} {args : Array Value} {w : World} {R : Value → World → Prop} (h : Rows P row args w R) : RowsIn (Fence.wide.inRound lr) n P row args w R :=
  fun c cs _ => let ⟨v, w', r, s⟩ := h c cs; ⟨v, w', r, stepsIn_wide.2 s⟩

def noDefer (ops : Array Oper) : Bool := ops.all fun o => match o.op with | .defer _ => false | _ => true
theorem noDefer_spec (h : noDefer ops = true) {i : Nat} {o : Oper} (hi : ops[i]? = some o) : ∀ c, o.op ≠ .defer c := fun c e => by
  have := Array.all_eq_true_iff_forall_mem.1 h o (Array.mem_of_getElem? hi)
  simp [e] at this

theorem wpOpsIn_of_wpOps (hd : noDefer ops = true) (hO : ∀ a w, ¬ Q .outgrown a w) : ∀ (l : List Nat) (a : Act) (w : World), wpOps P ops Q l a w → wpOpsIn (Fence.wide.inRound lr) n P ops Q l a w
  | [], _, _, h => h
  | i :: rest, a, w, h => by
    unfold wpOps at h
    unfold wpOpsIn
    cases ho : ops[i]? with
    | none =>
      simp only [ho] at h ⊢
      exact wpOpsIn_of_wpOps hd hO rest a w h
    | some o =>
      simp only [ho] at h ⊢
      split
      · rename_i hw
        simp only [hw, if_true] at h
        rcases h with h | ⟨_, a0, w0, hl⟩
        case inr => exact (hO a0 w0 hl).elim
        refine ⟨fun f _ => trivial, ?_⟩
        rw [show (Fence.wide.inRound lr).round = some lr from rfl, Oper.semAt_some lr _ o (noDefer_spec hd ho)]
        unfold Oper.wp at h
        generalize (execOp a.eval o).run P w = r at h ⊢
        cases r with
        | ok nx w' =>
          cases nx <;> simp only [Oper.upon] at h
          case value u => exact wpOpsIn_of_wpOps hd hO rest _ _ h
          case skip => exact wpOpsIn_of_wpOps hd hO rest _ _ h
          case defer d => exact wpOpsIn_of_wpOps hd hO rest _ _ h
          case enter f args =>
            refine ⟨(fun hd => nomatch hd), callsIn_round (h.mono fun e w'' he => ?_)⟩
            cases e with
            | returned u => exact wpOpsIn_of_wpOps hd hO rest _ _ he
            | panicked c => exact he
            | outgrown => exact he
          case row row args => exact ⟨(fun hd => nomatch hd), rowsIn_round (h.mono fun u w'' he => wpOpsIn_of_wpOps hd hO rest _ _ he)⟩
        | halt x w' =>
          cases x <;> simp only [Oper.upon] at h
          case panic u => exact h
      · rename_i hw
        simp only [hw] at h
        exact ⟨fun f _ => trivial, wpOpsIn_of_wpOps hd hO rest _ _ h⟩

/-- What is asked of a region that may panic, said of the world alone. -/
def PanicAs (R : List PanicEntry → World → Prop) (Q : Exit → Act → World → Prop) : Exit → Act → World → Prop
  | .panic c, a, w => a.defers = [] ∧ R c w
  | e, a, w => Q e a w
theorem put_defers (a : Act) (d : Option Tmp) (v : Value) : (a.put d v).defers = a.defers := by cases d <;> rfl
instance (R : List PanicEntry → World → Prop) (Q : Exit → Act → World → Prop) : PanicStill (PanicAs R Q) := ⟨fun c a d v w h => ⟨by rw [← put_defers a d v]; exact h.1, h.2⟩⟩
theorem PanicAs.imp {R : List PanicEntry → World → Prop} {Q : Exit → Act → World → Prop} (h : ∀ c a w, a.defers = [] → R c w → Q (.panic c) a w) : ∀ (e : Exit) (a : Act) (w : World), PanicAs R Q e a w → Q e a w := fun e a w k => by
  cases e with
  | panic c => exact h c a w k.1 k.2
  | _ => exact k
theorem wp_region_panics {id : Nat} {l : List Oper} {a : Act} {w : World} (C : World → Prop) (R : List PanicEntry → World → Prop) (hm : P.follows .mixedOrders = true) (hR : ∀ c a w, a.defers = [] → R c w → Q (.panic c) a w)
    (h : ∀ x, WC P l.toArray (PanicAs R Q) C l.length (Array.replicate l.length false) a (gw w x)) : (Code.region id l.toArray true).wp P Q a w := by
  refine Code.wp_mono (PanicAs.imp hR) (wp_region_any hm ?_)
  obtain ⟨x, hx⟩ := of_below (show Below w.heap.size w w.drew from Below.drew (Below.refl _ _))
  have := wpAny_of_WC _ _ _ _ (h x)
  rw [← hx] at this
  simpa using this

theorem wp_region_class {id : Nat} {l : List Oper} {a : Act} {w : World} (C : World → Prop) (hm : P.follows .mixedOrders = true)
    (h : ∀ x, WC P l.toArray (NoPanic Q) C l.length (Array.replicate l.length false) a (gw w x)) : (Code.region id l.toArray true).wp P Q a w := by
  refine wp_region_noPanic (wp_region_any hm ?_)
  obtain ⟨x, hx⟩ := of_below (show Below w.heap.size w w.drew from Below.drew (Below.refl _ _))
  have := wpAny_of_WC _ _ _ _ (h x)
  rw [← hx] at this
  simpa using this

theorem wpIn_region_class {id : Nat} {l : List Oper} {a : Act} {w : World} (C : World → Prop) (hm : P.follows .mixedOrders = true) (hd : noDefer l.toArray = true) (hO : ∀ a w, ¬ Q .outgrown a w)
    (h : ∀ x, WC P l.toArray (NoPanic Q) C l.length (Array.replicate l.length false) a (gw w x)) : (Code.region id l.toArray true).wpIn (Fence.wide.inRound lr) n P Q a w := by
  refine wpIn_mono (Q := NoPanic Q) ?_ NoPanic.imp
  refine wpIn_region_draw fun t => ?_
  simp only [Region.schedule, hm, Bool.true_or, if_true]
  refine wpOpsIn_of_wpOps (Q := NoPanic Q) hd (fun a w h => hO a w h) _ _ _ (wpAny_sound _ t _ a _ ?_)
  obtain ⟨x, hx⟩ := of_below (show Below w.heap.size w w.drew from Below.drew (Below.refl _ _))
  have := wpAny_of_WC _ _ _ _ (h x)
  rw [← hx] at this
  simpa using this

end
end Go.Proofs.YthifeoebefbalaaGreatDoor

namespace Go.Proofs.YthifeoebefbalaaGreatDoor
open Go.RowKit
attribute [local go_sem] Oper.semAt_some

theorem c116 (l : List UInt8) (w : World) : Calls Tryz.prog 116 #[.string ⟨l.toArray⟩] w fun e w' => e = .returned (.func (.func 150) #[] #[.pointer (some ⟨w.heap.size, 0, none⟩)]) ∧ w' = w.alloc (.cells #[.string ⟨l.toArray⟩] 9) := by
  have hmf : ∀ (fn : Fn) (first cap : Array Value) (w : World), (Instr.makeFunc fn first cap).run Tryz.prog w = .ok (.func fn first cap) w := fun _ _ _ _ => rfl
  go_enter Tryz.func116, Tryz.ntmps116
  go_wp2
  go_ret
  exact ⟨rfl, rfl⟩

def unread : PanicEntry := { v := .iface 141 (.agg #[]), recovered := false }
set_option maxRecDepth 100000 in
set_option maxHeartbeats 1000000 in
theorem catch_panic (n B b1 b2 : Nat) (w : World) (x0 x1 x2 x3 x4 x5 y : Int)
    (h1 : ∀ i, w.cell? ⟨b1, i, none⟩ = #[Value.int .i64 x0, .int .i64 x1, .int .i64 x2, .int .i64 x3, .int .i64 x4, .int .i64 x5][i]?) (h1f : ∀ i, w.frozen? ⟨b1, i, none⟩ = false)
    (h2 : w.cell? ⟨b2, 0, none⟩ = some (.int .i64 y)) (h2f : w.frozen? ⟨b2, 0, none⟩ = false) (hne : b1 ≠ b2) (hB1 : B ≤ b1) (hB2 : B ≤ b2) (hB : B ≤ w.heap.size) :
    CallsDIn Fence.wide n Tryz.prog 115 #[.pointer (some ⟨b1, 0, none⟩), .pointer (some ⟨b2, 0, none⟩)] (.panicking [unread]) w fun e u' w' =>
      e = .returned (.tuple #[]) ∧ u' = .panicking [{ v := .iface 141 (.agg #[]), recovered := true }] ∧ (∀ i, i < 6 → w'.cell? ⟨b1, i, none⟩ = some (.int .i64 0)) ∧ w'.cell? ⟨b2, 0, none⟩ = some (.int .i64 7) ∧ Below B w w' := by
  have l1 : b1 < w.heap.size := World.block_lt_of_cell? w ⟨b1, 0, none⟩ (h1 0)
  have l2 : b2 < w.heap.size := World.block_lt_of_cell? w ⟨b2, 0, none⟩ h2
  have q0 : w.cell? ⟨b1, 0, none⟩ = some (.int .i64 x0) := h1 0
  have q1 : w.cell? ⟨b1, 1, none⟩ = some (.int .i64 x1) := h1 1
  have q2 : w.cell? ⟨b1, 2, none⟩ = some (.int .i64 x2) := h1 2
  have q3 : w.cell? ⟨b1, 3, none⟩ = some (.int .i64 x3) := h1 3
  have q4 : w.cell? ⟨b1, 4, none⟩ = some (.int .i64 x4) := h1 4
  have q5 : w.cell? ⟨b1, 5, none⟩ = some (.int .i64 x5) := h1 5
  clear h1
  have hfn : ∀ f, Fence.wide.fn f = True := fun _ => rfl
  have hdp : Fence.wide.depth.isSome = false := rfl
  refine callsDIn_of_wpSIn Tryz.func115 rfl trivial fun c₀ cs hu => ?_
  apply wpSIn_seq
  apply wpSIn_region
  simp [wpOpsSIn, go_sem, recoverD, hu, unread, Tryz.ntmps115, Exit.thenS]
  refine wpSIn_of_wpIn rfl ?_
  simp only [Array.replicate_succ, Array.replicate_zero]
  simp
  have hta : ∀ w, (Instr.typeAssert (.iface 141 (.agg #[])) 20 141 true).run Tryz.prog w = .ok (.tuple #[.agg #[], .bool true]) w := fun w => by kernel_rfl
  gi_wp2
  refine ⟨rfl, _, rfl, .tuple #[], by simp [results, Tryz.results115, go_sem], rfl, rfl, fun i hi => ?_, ?_, ?_⟩
  · have : i = 0 ∨ i = 1 ∨ i = 2 ∨ i = 3 ∨ i = 4 ∨ i = 5 := by omega
    rcases this with rfl | rfl | rfl | rfl | rfl | rfl <;> simp [go_sem, q0, q1, q2, q3, q4, q5, l1, hne, Ne.symm hne]
  · simp [go_sem, h2, l2, hne, Ne.symm hne]
  · have hx : ∀ {W : World}, Below B w W → ∀ i v, Below B w (W.setCell ⟨b1, i, none⟩ v) := fun h i v => h.setCell (p := ⟨b1, i, none⟩) hB1 v
    refine Below.alloc ?_ (by simp; omega) _
    exact (hx (hx (hx (hx (hx (hx (Below.refl _ _) _ _) _ _) _ _) _ _) _ _) _ _).setCell (p := ⟨b2, 0, none⟩) hB2 _

set_option maxHeartbeats 1000000 in
theorem catch_idle (n b1 b2 : Nat) (w : World) :
    CallsDIn Fence.wide n Tryz.prog 115 #[.pointer (some ⟨b1, 0, none⟩), .pointer (some ⟨b2, 0, none⟩)] .returning w fun e u' w' => e = .returned (.tuple #[]) ∧ u' = .returning ∧ w' = w := by
  have hfn : ∀ f, Fence.wide.fn f = True := fun _ => rfl
  have hdp : Fence.wide.depth.isSome = false := rfl
  refine callsDIn_of_wpSIn Tryz.func115 rfl trivial fun c₀ cs hu => ?_
  apply wpSIn_seq
  apply wpSIn_region
  simp [wpOpsSIn, go_sem, recoverD, hu, Tryz.ntmps115, Exit.thenS]
  refine wpSIn_of_wpIn rfl ?_
  simp only [Array.replicate_succ, Array.replicate_zero]
  simp
  gi_wp2
  cases c₀
  simp only at hu
  subst hu
  exact ⟨rfl, _, rfl, .tuple #[], by simp [results, Tryz.results115, go_sem], rfl, rfl, rfl⟩

end Go.Proofs.YthifeoebefbalaaGreatDoor

namespace Go.Proofs.YthifeoebefbalaaGreatDoor
open Go.RowKit
attribute [local go_sem] Oper.semAt_some

/-- What the reader comes to: a card; an error; or it cannot go on. -/
inductive Rd where
  | got (c : Card)
  | err (e : Int)
  | form

def zcard : Card := ⟨0, 0, 0, 0, 0, 0⟩
def strv (s : List UInt8) : Value := .string ⟨s.toArray⟩
/-- A slice of texts, not in block r. -/
def StrsAt (w : World) (r : Nat) (v : Value) (ws : List (List UInt8)) : Prop :=
  (ws = [] ∧ ∃ a c, v = .slice a 0 c) ∨ ∃ b o c, b ≠ r ∧ v = .slice (some ⟨b, o, none⟩) ws.length c ∧ ws.length ≤ c ∧ ∀ i s, ws[i]? = some s → w.cell? ⟨b, o + i, none⟩ = some (strv s)
/-- The reader in block r. -/
def readerObj (v : Value) (last : Card) (nx : Bool) : Obj :=
  .cells #[v, .int .i64 last.st, .int .i64 last.da, .int .i64 last.dy, .int .i64 last.ki, .int .i64 last.am, .int .i64 last.fi, .bool nx] 145 (0, 0)

/-- Six blocks made one behind the other. -/
theorem heap6 (w : World) (o0 o1 o2 o3 o4 o5 : Obj) : ∃ W, (((((w.alloc o0).alloc o1).alloc o2).alloc o3).alloc o4).alloc o5 = W ∧ W.heap.size = w.heap.size + 6 ∧ Below w.heap.size w W ∧
    W.heap[w.heap.size + 1]? = some o1 ∧ W.heap[w.heap.size + 2]? = some o2 ∧ W.heap[w.heap.size + 3]? = some o3 ∧ W.heap[w.heap.size + 4]? = some o4 ∧ W.heap[w.heap.size + 5]? = some o5 := by
  have n0 : ((w.alloc o0).alloc o1).heap[w.heap.size + 1]? = some o1 := by simpa using World.alloc_heap_new (w.alloc o0) o1
  have n1 : (((w.alloc o0).alloc o1).alloc o2).heap[w.heap.size + 2]? = some o2 := by simpa using World.alloc_heap_new ((w.alloc o0).alloc o1) o2
  have n2 : ((((w.alloc o0).alloc o1).alloc o2).alloc o3).heap[w.heap.size + 3]? = some o3 := by simpa using World.alloc_heap_new (((w.alloc o0).alloc o1).alloc o2) o3
  have n3 : (((((w.alloc o0).alloc o1).alloc o2).alloc o3).alloc o4).heap[w.heap.size + 4]? = some o4 := by simpa using World.alloc_heap_new ((((w.alloc o0).alloc o1).alloc o2).alloc o3) o4
  have n4 : ((((((w.alloc o0).alloc o1).alloc o2).alloc o3).alloc o4).alloc o5).heap[w.heap.size + 5]? = some o5 := by simpa using World.alloc_heap_new (((((w.alloc o0).alloc o1).alloc o2).alloc o3).alloc o4) o5
  have up : ∀ (X : World) (k : Nat) (o o' : Obj), X.heap[k]? = some o → (X.alloc o').heap[k]? = some o := fun X k o o' h => (Below.heap_alloc X o' k (Array.getElem?_eq_some_iff.1 h).1).trans h
  exact ⟨_, rfl, by simp, xa (xa (xa (xa (xa (xa (xr _) _) _) _) _) _) _, up _ _ _ _ (up _ _ _ _ (up _ _ _ _ (up _ _ _ _ n0))), up _ _ _ _ (up _ _ _ _ (up _ _ _ _ n1)), up _ _ _ _ (up _ _ _ _ n2), up _ _ _ _ n3, n4⟩

def cellsOf (c : Card) : Obj := .cells #[.int .i64 c.st, .int .i64 c.da, .int .i64 c.dy, .int .i64 c.ki, .int .i64 c.am, .int .i64 c.fi] 24 (0, 0)
def rdEnd : Rd → Ending → Prop
  | .got c, e => e = .returned (.tuple #[cv c, .int .i64 0])
  | .err x, e => e = .returned (.tuple #[cv zcard, .int .i64 x])
  | .form, e => e = .panicked [unread]
def lineEnd : Rd → Value
  | .got c => .tuple #[cv c, .int .i64 0]
  | .err x => .tuple #[cv zcard, .int .i64 x]
  | .form => .tuple #[cv zcard, .int .i64 7]

theorem readLine_long (text : List UInt8) (last : Card) (w : World) (h : 200 < text.length) :
    Calls Tryz.prog 73 #[strv text, cv last] w fun e w' => e = .returned (lineEnd (.err 2)) ∧ Below w.heap.size w w' := by
  unfold cv strv
  have hfn : ∀ f, Fence.wide.fn f = True := fun _ => rfl
  have hdp : Fence.wide.depth.isSome = false := rfl
  refine (callsIn_wide (n := 3)).1 (callsIn_of_wp_marks Tryz.func73 rfl trivial ?_ rfl)
  simp only [Tryz.ntmps73, List.size_toArray, List.length_cons, List.length_nil, Nat.reduceAdd, Nat.reduceSub, Array.replicate_succ, Array.replicate_zero, List.push_toArray, List.append_toArray, List.nil_append, List.cons_append]
  gi_wp2
  exact ⟨lineEnd (.err 2), by simp [results, Tryz.results73, go_sem, lineEnd, zcard, cv], rfl, xa (xa (xa (xr _) _) _) _⟩

theorem info9 : ∃ i, Tryz.prog.info? 9 = some i ∧ i.zero = some (.string ⟨#[]⟩) ∧ i.size = 1 ∧ i.bytes = 16 := by
  have h : (Tryz.prog.info? 9).map (fun i => (i.zero, i.size, i.bytes)) = some (some (.string ⟨#[]⟩), 1, 16) := by kernel_rfl
  cases hi : Tryz.prog.info? 9 with
  | none => rw [hi] at h; cases h
  | some i => rw [hi] at h; simp at h; exact ⟨i, rfl, h.1, h.2.1, h.2.2⟩

theorem words_len (l : List UInt8) : ∀ x ∈ wordsOf l, x.length ≤ l.length := by
  have h : ∀ (m : List UInt8) (st : List (List UInt8) × List UInt8) (N : Nat), (∀ x ∈ st.1, x.length ≤ N) → st.2.length ≤ N → (∀ x ∈ (m.foldl wstep st).1, x.length ≤ N + m.length) ∧ (m.foldl wstep st).2.length ≤ N + m.length := by
    intro m
    induction m with
    | nil => intro st N h k; simpa using ⟨h, k⟩
    | cons c m ih =>
      intro st N h k
      have := ih (wstep st c) (N + 1) ?_ ?_
      · simp only [List.foldl_cons, List.length_cons]
        refine ⟨fun x hx => by have := this.1 x hx; omega, by omega⟩
      · unfold wstep
        split
        · split
          · intro x hx; have := h x hx; omega
          · intro x hx
            rcases List.mem_append.1 hx with hx | hx
            · have := h x hx; omega
            · simp at hx; rw [hx]; omega
        · intro x hx; have := h x hx; omega
      · unfold wstep
        split
        · split
          · omega
          · simp
        · simp; omega
  have h2 := h l ([], []) 0 (by simp) (by simp)
  intro x hx
  unfold wordsOf wfold at hx
  split at hx
  · have := h2.1 x hx; omega
  · rcases List.mem_append.1 hx with hx | hx
    · have := h2.1 x hx; omega
    · simp at hx; rw [hx]; omega
theorem readerObj_set {w : World} {r : Nat} {v v' : Value} {last : Card} {nx : Bool} (h : w.heap[r]? = some (readerObj v last nx)) : (w.setCell ⟨r, 0, none⟩ v').heap[r]? = some (readerObj v' last nx) := by
  obtain ⟨hlt, hk⟩ := Array.getElem?_eq_some_iff.1 h
  show (w.heap.modify r _)[r]? = _
  rw [Array.getElem?_eq_getElem (by rw [Array.size_modify]; exact hlt), Array.getElem_modify_self, hk]
  rfl
theorem setCell_other_block (w : World) (r k : Nat) (v : Value) (h : k ≠ r) : (w.setCell ⟨r, 0, none⟩ v).heap[k]? = w.heap[k]? :=
  Below.heap_setCell _ _ _ k h
theorem Grown.others {a b : World} (h : Grown a b) : KeepsOthers a b := ⟨h.size, fun k o hk _ => (h.block k (Array.getElem?_eq_some_iff.1 hk).1).trans hk⟩
theorem one_at {w : World} {b : Nat} {x : List UInt8} (h : w.cell? ⟨b, 0, none⟩ = #[Value.string ⟨x.toArray⟩][0]?) : ∀ j u, [strv x][j]? = some u → w.cell? ((⟨b, 0, none⟩ : Addr).add j) = some u := fun j u hj => by
  cases j with
  | zero => simp at hj; subst hj; exact h
  | succ j => simp at hj
theorem one_cell (x : List UInt8) : ∀ u ∈ [strv x], u.oneCell' = true := fun u hu => by simp at hu; subst hu; rfl
/-- What a round of readLine's loop leaves. -/
theorem round_end {W0 W V7 V8 V10 : World} {r bx n m : Nat} {v v' : Value} {last : Card} {xs ys : List Value} (y : World) (h3 : W0.grownBy W (some r)) (hr : r < W0.heap.size) (hbx : bx < W0.heap.size) (hne : bx ≠ r)
    (h1 : W.heap[r]? = some (readerObj v last false)) (hGV : Grown W V7) (hrow : V7.ownsRow W0.heap.size 9 1 v n xs) (hgrow : V7.grownBy V8 v.ownBlock) (hown : V8.ownsRow W0.heap.size 9 1 v' m ys) (h8 : Grown V8 V10) :
    KeepsFrom W0.heap.size W (gw (V10.setCell ⟨r, 0, none⟩ v') y) ∧ Kw bx W (gw (V10.setCell ⟨r, 0, none⟩ v') y) ∧ (gw (V10.setCell ⟨r, 0, none⟩ v') y).heap[r]? = some (readerObj v' last false) ∧
      (gw (V10.setCell ⟨r, 0, none⟩ v') y).ownsRow W0.heap.size 9 1 v' m ys ∧ W0.grownBy (gw (V10.setCell ⟨r, 0, none⟩ v') y) (some r) := by
  have own8 : ∀ k, v.ownBlock = some k → W0.heap.size ≤ k := fun k hk => (hrow.lt k hk).1
  have own9 : ∀ k, v'.ownBlock = some k → W0.heap.size ≤ k := fun k hk => (hown.lt k hk).1
  have hlt : r < W.heap.size := (Array.getElem?_eq_some_iff.1 h1).1
  have hbW : bx < W.heap.size := Nat.lt_of_lt_of_le hbx h3.size
  have hs7 : W.heap.size ≤ V7.heap.size := hGV.size
  have hs8 : V7.heap.size ≤ V8.heap.size := hgrow.size
  have hs10 : V8.heap.size ≤ V10.heap.size := h8.size
  have hF : Grown (V10.setCell ⟨r, 0, none⟩ v') (gw (V10.setCell ⟨r, 0, none⟩ v') y) := Grown.gw _ _
  have hsF : (V10.setCell ⟨r, 0, none⟩ v').heap.size = V10.heap.size := by simp
  have hcell : ∀ j o, v.ownBlock = some j → V7.heap[j]? = some o → o.isCells = true := fun j o ej hj => by
    rcases hrow.2 with ⟨rfl, _⟩ | ⟨g, cap, cur, rfl, _, hgb, _⟩
    · simp [Value.ownBlock] at ej
    · obtain rfl : g = j := by simpa [Value.ownBlock] using ej
      rw [hgb] at hj; cases hj; rfl
  -- a block below W0's size, not r's, lies as it lay
  have old : ∀ k, k < W.heap.size → k ≠ r → v.ownBlock ≠ some k → (gw (V10.setCell ⟨r, 0, none⟩ v') y).heap[k]? = W.heap[k]? := fun k hk hkr hko => by
    rw [hF.block k (by omega), setCell_other_block _ _ _ _ hkr, h8.block k (by omega), hgrow.block k (by omega) (fun e => hko e.symm), hGV.block k hk]
  have hko : KeepsOthers W (gw (V10.setCell ⟨r, 0, none⟩ v') y) :=
    hGV.others.trans ((KeepsOthers.of_grownBy hgrow hcell).trans (h8.others.trans ((KeepsOthers.setCell _ _ _).trans hF.others)))
  refine ⟨hko.from _, ⟨?_, hko.walks⟩, ?_, ?_, ⟨?_, ?_, ?_, ?_, fun k hk he => ?_⟩⟩
  · exact World.cell?_of_block (old bx hbW hne fun e => by have := own8 _ e; omega)
  · rw [hF.block r (by omega)]
    refine readerObj_set (v := v) ?_
    rw [h8.block r (by omega), hgrow.block r (by omega) (fun e => by have := own8 _ e.symm; omega), hGV.block r hlt, h1]
  · refine ((hown.kept (grown_none h8) (by cases v'.ownBlock <;> simp)).kept (grownBy_setCell' _ r v') (.inr fun e => by have := own9 _ e; omega)).kept (grown_none hF) (by cases v'.ownBlock <;> simp)
  · exact (hF.os.trans h8.os).trans ((hgrow.os.trans hGV.os).trans h3.os)
  · exact (hF.tape.trans h8.tape).trans ((hgrow.tape.trans hGV.tape).trans h3.tape)
  · exact (hF.output.trans h8.output).trans ((hgrow.output.trans hGV.output).trans h3.output)
  · have := h3.size
    have := hF.size
    omega
  · rw [old k (Nat.lt_of_lt_of_le hk h3.size) (fun e => he (by rw [e])) (fun e => by have := own8 _ e; omega), h3.block k hk he]

theorem cells6 {w : World} {b : Nat} (h : w.heap[b]? = some (.cells #[.int .i64 0, .int .i64 0, .int .i64 0, .int .i64 0, .int .i64 0, .int .i64 0] 24 (0, 0))) :
    w.cell? ⟨b, 0, none⟩ = some (.int .i64 0) ∧ w.cell? ⟨b, 1, none⟩ = some (.int .i64 0) ∧ w.cell? ⟨b, 2, none⟩ = some (.int .i64 0) ∧ w.cell? ⟨b, 3, none⟩ = some (.int .i64 0) ∧ w.cell? ⟨b, 4, none⟩ = some (.int .i64 0) ∧ w.cell? ⟨b, 5, none⟩ = some (.int .i64 0) ∧ (∀ i, w.frozen? ⟨b, i, none⟩ = false) ∧ b < w.heap.size :=
  ⟨by simp [World.cell?, h], by simp [World.cell?, h], by simp [World.cell?, h], by simp [World.cell?, h], by simp [World.cell?, h], by simp [World.cell?, h], fun i => by simp [World.frozen?, h], (Array.getElem?_eq_some_iff.1 h).1⟩
theorem cells1 {w : World} {b : Nat} (h : w.heap[b]? = some (.cells #[.int .i64 0] 25 (0, 0))) : w.cell? ⟨b, 0, none⟩ = some (.int .i64 0) ∧ w.frozen? ⟨b, 0, none⟩ = false ∧ b < w.heap.size :=
  ⟨by simp [World.cell?, h], by simp [World.frozen?, h], (Array.getElem?_eq_some_iff.1 h).1⟩
/-- The library's variable in the first block: the greatest length that it looks at in one go. -/
def Cell0 (w : World) : Prop := ∃ m : Int, w.cell? ⟨0, 0, none⟩ = some (.int .i64 m)
theorem Cell0.lt {w : World} (h : Cell0 w) : 0 < w.heap.size := by
  obtain ⟨m, hm⟩ := h
  exact World.block_lt_of_cell? w _ hm
theorem Cell0.grownBy {w w' : World} {r : Nat} (h : Cell0 w) (hg : w.grownBy w' (some r)) (hr : 0 < r) : Cell0 w' := by
  have hl := h.lt
  obtain ⟨m, hm⟩ := h
  exact ⟨m, by rw [World.cell?_of_block (w := w) (hg.block 0 hl (by simp; omega)), hm]⟩
theorem Cell0.below {w w' : World} {B : Nat} (h : Cell0 w) (hg : Below B w w') (hB : 0 < B) : Cell0 w' := by
  obtain ⟨m, hm⟩ := h
  exact ⟨m, by rw [hg.cell (p := ⟨0, 0, none⟩) hB, hm]⟩

/-- What read must do, whatever it does. -/
def ReadDoes (rs : List (List UInt8) → Card → Rd) : Prop :=
  ∀ (r : Nat) (v : Value) (ws : List (List UInt8)) (last : Card) (w : World), Cell0 w → 0 < r → w.heap[r]? = some (readerObj v last false) → StrsAt w r v ws → (∀ x ∈ ws, x ≠ [] ∧ x.length ≤ 200) → ws.length ≤ 200 →
    Calls Tryz.prog 117 #[.pointer (some ⟨r, 0, none⟩)] w fun e w' => rdEnd (rs ws last) e ∧ w.grownBy w' (some r)

set_option maxRecDepth 100000 in
set_option maxHeartbeats 4000000 in
theorem readLine_short (rs : List (List UInt8) → Card → Rd) (hrs : ReadDoes rs) (text : List UInt8) (last : Card) (w : World) (h0 : Cell0 w) (h : text.length ≤ 200) :
    Calls Tryz.prog 73 #[strv text, cv last] w fun e w' => e = .returned (lineEnd (rs (wordsOf text) last)) ∧ Below w.heap.size w w' := by
  unfold cv strv
  have hfn : ∀ f, Fence.wide.fn f = True := fun _ => rfl
  have hdp : Fence.wide.depth.isSome = false := rfl
  have hmf : ∀ (fn : Fn) (first cap : Array Value) (w : World), (Instr.makeFunc fn first cap).run Tryz.prog w = .ok (.func fn first cap) w := fun _ _ _ _ => rfl
  have HRS := Lib.hid hrs
  have HC0 := Lib.hid h0
  clear hrs h0
  refine (callsIn_wide (n := 3)).1 (callsIn_of_wp_marks Tryz.func73 rfl trivial ?_ rfl)
  simp only [Tryz.ntmps73, List.size_toArray, List.length_cons, List.length_nil, Nat.reduceAdd, Nat.reduceSub, Array.replicate_succ, Array.replicate_zero, List.push_toArray, List.append_toArray, List.nil_append, List.cons_append]
  gi_wp2_with (gi_at_call 116; refine (callsIn_wide.2 (c116 text _)).mono ?_; rintro e w1 ⟨rfl, rfl⟩)
  obtain ⟨W0, hW0, f0, fb, f1, f2, f3, f4, f5⟩ := heap6 w (cellsOf last) (.cells #[.int .i64 0, .int .i64 0, .int .i64 0, .int .i64 0, .int .i64 0, .int .i64 0] 24 (0, 0)) (.cells #[.int .i64 0] 25 (0, 0)) (readerObj (.slice none 0 0) last false) (.cells #[.pointer (some ⟨w.heap.size + 3, 0, none⟩)] 143 (0, 0)) (.cells #[.string ⟨text.toArray⟩] 9 (0, 0))
  unfold cellsOf readerObj at hW0
  have g3 : w.heap.size + 1 + 1 + 1 + 1 + 1 = w.heap.size + 5 := rfl
  rw [show (w.heap.size + 1 + 1 + 1 + 1 + 1 : Nat) = w.heap.size + 5 from rfl, show (w.heap.size + 1 + 1 + 1 + 1 : Nat) = w.heap.size + 4 from rfl, show (w.heap.size + 1 + 1 + 1 : Nat) = w.heap.size + 3 from rfl, show (w.heap.size + 1 + 1 : Nat) = w.heap.size + 2 from rfl, hW0]
  obtain ⟨B, hB⟩ : ∃ B, w.heap.size = B := ⟨_, rfl⟩
  rw [hB] at f0 f1 f2 f3 f4 f5 ⊢
  clear hW0 g3
  have hbx : W0.cell? ⟨B + 5, 0, none⟩ = some (.string ⟨text.toArray⟩) := by simp [World.cell?, f5]
  refine wpIn_rangeFunc_ownG (α := List UInt8) rfl (by omega) (gf := 150) (lb := #[.pointer (some ⟨B + 5, 0, none⟩)]) rfl trivial (enters_of Tryz.func150 (by kernel_rfl) rfl)
    (words_stop (B + 5) text W0 _ hbx (by omega)) (fun h k => ⟨k.1.trans h.1, h.2.trans k.2⟩) (fun W l o o' hl hh hc hw => ⟨?cellkept, KeepsWalks.putObj _ hh hw⟩) (Below.refl _ _) (fun _ => rfl)
    (fun pre W => ∃ v, W.heap[B + 3]? = some (readerObj v last false) ∧ W.ownsRow W0.heap.size 9 1 v pre.length (pre.map strv) ∧ W0.grownBy W (some (B + 3)))
    (fun _ _ _ => False) ?own (fun _ _ _ _ _ h _ _ => h) ?start ?a1 ?assign ?body ?done ?stop
  case cellkept => exact World.cell?_of_block (World.putObj_heap_other (by simp only; omega))
  case own =>
    rintro s A A' row ⟨v, h1, h2, h3⟩ hg hr
    have hne : ∀ k, k < W0.heap.size → some k ≠ row := fun k hk e => by have := (hr k e.symm).1; omega
    refine ⟨v, (hg.block _ (Array.getElem?_eq_some_iff.1 h1).1 (hne _ (by omega))).trans h1, h2.kept hg ?_, ⟨hg.os.trans h3.os, hg.tape.trans h3.tape, hg.output.trans h3.output, Nat.le_trans h3.size hg.size, fun k hk he => (hg.block k (Nat.lt_of_lt_of_le hk h3.size) (hne k hk)).trans (h3.block k hk he)⟩⟩
    rcases h2.2 with ⟨rfl, _⟩ | ⟨g, cap, cur, rfl, _, hgb, _⟩
    · exact .inl rfl
    · refine .inr fun e' => ?_
      obtain ⟨_, o, ho1, ho2⟩ := hr g e'.symm
      rw [hgb] at ho1; cases ho1; cases ho2
  case start => exact ⟨.slice none 0 0, f3, World.ownsRow_nil _ _ _ _, ⟨rfl, rfl, rfl, Nat.le_refl _, fun _ _ _ => rfl⟩⟩
  case assign =>
    intro l x W K hK
    gi_wp2
    exact hK
  case body =>
    rintro l pre x W ⟨v, h1, h2, h3⟩ hlen
    have h4 : W.heap[B + 4]? = some (.cells #[.pointer (some ⟨B + 3, 0, none⟩)] 143 (0, 0)) := (h3.block _ (by omega) (by simp)).trans f4
    have hC : ∀ w w' : World, (fun X => X.heap[B + 4]? = some (.cells #[.pointer (some ⟨B + 3, 0, none⟩)] 143 (0, 0))) w → Grown w w' → (fun X => X.heap[B + 4]? = some (.cells #[.pointer (some ⟨B + 3, 0, none⟩)] 143 (0, 0))) w' := fun w w' h hg => (hg.block _ (Array.getElem?_eq_some_iff.1 h).1).trans h
    have facts : ∀ w' : World, (fun X => X.heap[B + 4]? = some (.cells #[.pointer (some ⟨B + 3, 0, none⟩)] 143 (0, 0))) w' → w'.cell? ⟨B + 4, 0, none⟩ = some (.pointer (some ⟨B + 3, 0, none⟩)) ∧ B + 4 < w'.heap.size := fun w' hw' =>
      ⟨by simp [World.cell?, hw'], (Array.getElem?_eq_some_iff.1 hw').1⟩
    refine wpIn_block ?_
    refine wpIn_region_class (fun X => X.heap[B + 4]? = some (.cells #[.pointer (some ⟨B + 3, 0, none⟩)] 143 (0, 0))) (by kernel_rfl) (by kernel_rfl) (fun _ _ h => h) fun x1 => ?_
    obtain ⟨V0, hV⟩ : ∃ V0, gw W x1 = V0 := ⟨_, rfl⟩
    have hCV := hC _ _ h4 (show Grown W V0 by rw [← hV]; exact Grown.gw _ _)
    have hGV : Grown W V0 := by rw [← hV]; exact Grown.gw _ _
    rw [hV]
    clear hV x1
    refine WC_take (v := ?_) (a' := ?_) 0 hC rfl (by kernel_rfl) (by kernel_rfl) (by kernel_rfl) hCV ⟨rfl, fun w' hw' => ?_⟩ ?_ 19 rfl (by kernel_rfl) fun y => ?_
    rotate_left 2
    · obtain ⟨c1, c2⟩ := facts w' hw'
      go_big_quiet_op; exact rfl
    · exact rfl
    obtain ⟨V1, hV⟩ : ∃ V', gw V0 y = V' := ⟨_, rfl⟩
    rw [hV]
    replace hCV := hC _ V1 hCV (by rw [← hV]; exact Grown.gw _ _)
    replace hGV : Grown W V1 := Grown.trans hGV (by rw [← hV]; exact Grown.gw _ _)
    clear hV y V0
    refine WC_take (v := ?_) (a' := ?_) 1 hC rfl (by kernel_rfl) (by kernel_rfl) (by kernel_rfl) hCV ⟨rfl, fun w' hw' => ?_⟩ ?_ 20 rfl (by kernel_rfl) fun y => ?_
    rotate_left 2
    · obtain ⟨c1, c2⟩ := facts w' hw'
      go_big_quiet_op; exact rfl
    · exact rfl
    obtain ⟨V2, hV⟩ : ∃ V', gw V1 y = V' := ⟨_, rfl⟩
    rw [hV]
    replace hCV := hC _ V2 hCV (by rw [← hV]; exact Grown.gw _ _)
    replace hGV : Grown W V2 := Grown.trans hGV (by rw [← hV]; exact Grown.gw _ _)
    clear hV y V1
    refine WC_take (v := ?_) (a' := ?_) 2 hC rfl (by kernel_rfl) (by kernel_rfl) (by kernel_rfl) hCV ⟨rfl, fun w' hw' => ?_⟩ ?_ 21 rfl (by kernel_rfl) fun y => ?_
    rotate_left 2
    · obtain ⟨c1, c2⟩ := facts w' hw'
      go_big_quiet_op; exact rfl
    · exact rfl
    obtain ⟨V3, hV⟩ : ∃ V', gw V2 y = V' := ⟨_, rfl⟩
    rw [hV]
    replace hCV := hC _ V3 hCV (by rw [← hV]; exact Grown.gw _ _)
    replace hGV : Grown W V3 := Grown.trans hGV (by rw [← hV]; exact Grown.gw _ _)
    clear hV y V2
    refine WC_take (v := ?_) (a' := ?_) 3 hC rfl (by kernel_rfl) (by kernel_rfl) (by kernel_rfl) hCV ⟨rfl, fun w' hw' => ?_⟩ ?_ 22 rfl (by kernel_rfl) fun y => ?_
    rotate_left 2
    · obtain ⟨c1, c2⟩ := facts w' hw'
      go_big_quiet_op; exact rfl
    · exact rfl
    obtain ⟨V4, hV⟩ : ∃ V', gw V3 y = V' := ⟨_, rfl⟩
    rw [hV]
    replace hCV := hC _ V4 hCV (by rw [← hV]; exact Grown.gw _ _)
    replace hGV : Grown W V4 := Grown.trans hGV (by rw [← hV]; exact Grown.gw _ _)
    clear hV y V3
    refine WC_take (v := ?_) (a' := ?_) 5 hC rfl (by kernel_rfl) (by kernel_rfl) (by kernel_rfl) hCV ⟨rfl, fun w' hw' => ?_⟩ ?_ 24 rfl (by kernel_rfl) fun y => ?_
    rotate_left 2
    · obtain ⟨c1, c2⟩ := facts w' hw'
      go_big_quiet_op; exact rfl
    · exact rfl
    obtain ⟨V5, hV⟩ : ∃ V', gw V4 y = V' := ⟨_, rfl⟩
    rw [hV]
    replace hCV := hC _ V5 hCV (by rw [← hV]; exact Grown.gw _ _)
    replace hGV : Grown W V5 := Grown.trans hGV (by rw [← hV]; exact Grown.gw _ _)
    clear hV y V4
    have r1 : ∀ X, Grown W X → X.heap[B + 3]? = some (readerObj v last false) := fun X hX => (hX.block _ (Array.getElem?_eq_some_iff.1 h1).1).trans h1
    have r2 : ∀ X : World, X.heap[B + 3]? = some (readerObj v last false) → X.cell? ⟨B + 3, 0, none⟩ = some v := fun X hX => by simp [World.cell?, hX, readerObj]
    refine WC_all [4, 6] (by kernel_rfl) (by simp) fun i hi => ?_
    rcases List.mem_cons.1 hi with rfl | hi
    case' inl =>
      have r3 := r2 _ (r1 _ hGV)
      refine WG_op rfl rfl fun K hK => ?_
      go_big_op
      refine hK _ _ ⟨hCV, fun y => ?_⟩
      obtain ⟨V6, hV⟩ : ∃ V', gw V5 y = V' := ⟨_, rfl⟩
      rw [hV]
      replace hCV := hC _ V6 hCV (by rw [← hV]; exact Grown.gw _ _)
      replace hGV : Grown W V6 := Grown.trans hGV (by rw [← hV]; exact Grown.gw _ _)
      clear hV y r3 hK K V5
      refine WC_all [6] (by kernel_rfl) (by simp) fun i hi => ?_
      rcases List.mem_singleton.1 hi with rfl
      refine WG_op rfl rfl fun K hK => ?_
      go_big_op
      refine hK _ _ ⟨hC _ _ hCV (below_alloc _ _), fun y => ?_⟩
      obtain ⟨b7, V7, e1, e2, q1, q2, q3, q4, qF, q5⟩ := new_at hGV #[.string ⟨x.toArray⟩] 9 y
      replace hCV := hC _ V7 hCV q3
      replace hGV : Grown W V7 := Grown.trans hGV q3
      have q6 := q5 0
      rw [e1, e2]
      clear e1 e2 q1 q2 q3 q5 qF V6 hK K
    case' inr =>
      rcases List.mem_singleton.1 hi with rfl
      refine WG_op rfl rfl fun K hK => ?_
      go_big_op
      refine hK _ _ ⟨hC _ _ hCV (below_alloc _ _), fun y => ?_⟩
      obtain ⟨b7, V6, e1, e2, q1, q2, q3, q4, qF, q5⟩ := new_at hGV #[.string ⟨x.toArray⟩] 9 y
      replace hCV := hC _ V6 hCV q3
      replace hGV : Grown W V6 := Grown.trans hGV q3
      have q6' := q5 0
      rw [e1, e2]
      clear e1 e2 q1 q2 q3 q5 qF V5 hK K
      have r3 := r2 _ (r1 _ hGV)
      refine WC_all [4] (by kernel_rfl) (by simp) fun i hi => ?_
      rcases List.mem_singleton.1 hi with rfl
      refine WG_op rfl rfl fun K hK => ?_
      go_big_op
      refine hK _ _ ⟨hCV, fun y => ?_⟩
      obtain ⟨V7, hV⟩ : ∃ V', gw V6 y = V' := ⟨_, rfl⟩
      have hVV : Grown V6 V7 := by rw [← hV]; exact Grown.gw _ _
      rw [hV]
      replace hCV := hC _ V7 hCV hVV
      replace hGV : Grown W V7 := Grown.trans hGV hVV
      have q6 := (kept hVV q4 (i := 0)).trans q6'
      replace q4 : b7 < V7.heap.size := Nat.lt_of_lt_of_le q4 hVV.size
      clear hV y r3 hK K q6' hVV V6
    all_goals
      refine WC_all [7] (by kernel_rfl) (by simp) fun i hi => ?_
      rcases List.mem_singleton.1 hi with rfl
      refine WG_op rfl rfl fun K hK => ?_
      have hrow := h2.kept (grown_none hGV) (by cases v.ownBlock <;> simp)
      obtain ⟨inf, i1, i2, i3, i4⟩ := info9
      refine wp_append_own (.tmp 23) (.tmp 25) 44 rfl W0.heap.size 9 inf _ 1 16 Tryz.underlying44 i1 i2 i3 i4 rfl (by decide) v rfl pre.length (pre.map strv) hrow ⟨b7, 0, none⟩ 1 1 rfl [strv x] rfl (one_at q6) (one_cell x) (by simp only [maxLen]; omega) (by omega) (by have := h3.size; have := hGV.size; omega) fun v' V8 hown hgrow => ?_
    all_goals
      have own8 : ∀ k, v.ownBlock = some k → B + 6 ≤ k := fun k hk => by have := (hrow.lt k hk).1; omega
      have hC8 : V8.heap[B + 4]? = some (.cells #[.pointer (some ⟨B + 3, 0, none⟩)] 143 (0, 0)) := (hgrow.block _ (Array.getElem?_eq_some_iff.1 hCV).1 (fun e => by have := own8 _ e.symm; omega)).trans hCV
      have hR8 : V8.heap[B + 3]? = some (readerObj v last false) := (hgrow.block _ (Array.getElem?_eq_some_iff.1 (r1 _ hGV)).1 (fun e => by have := own8 _ e.symm; omega)).trans (r1 _ hGV)
      refine hK _ _ ⟨hC8, fun y => ?_⟩
      simp [Act.put]
      clear hK K
      obtain ⟨V9, hV⟩ : ∃ V', gw V8 y = V' := ⟨_, rfl⟩
      have hC9 := hC _ V9 hC8 (by rw [← hV]; exact Grown.gw _ _)
      have hG9 : Grown V8 V9 := by rw [← hV]; exact Grown.gw _ _
      rw [hV]
      clear hV y
      refine WC_take (v := ?_) (a' := ?_) 8 hC rfl (by kernel_rfl) (by kernel_rfl) (by kernel_rfl) hC9 ⟨rfl, fun w' hw' => ?_⟩ ?_ 27 rfl (by kernel_rfl) fun y => ?_
      rotate_left 2
      · go_big_quiet_op; exact rfl
      · exact rfl
      obtain ⟨V10, hV⟩ : ∃ V', gw V9 y = V' := ⟨_, rfl⟩
      rw [hV]
      replace hC9 := hC _ V10 hC9 (by rw [← hV]; exact Grown.gw _ _)
      replace hG9 : Grown V8 V10 := Grown.trans hG9 (by rw [← hV]; exact Grown.gw _ _)
      clear hV y V9
      refine WC_take (v := ?_) (a' := ?_) 9 hC rfl (by kernel_rfl) (by kernel_rfl) (by kernel_rfl) hC9 ⟨rfl, fun w' hw' => ?_⟩ ?_ 28 rfl (by kernel_rfl) fun y => ?_
      rotate_left 2
      · go_big_quiet_op; exact rfl
      · exact rfl
      obtain ⟨V11, hV⟩ : ∃ V', gw V10 y = V' := ⟨_, rfl⟩
      rw [hV]
      replace hC9 := hC _ V11 hC9 (by rw [← hV]; exact Grown.gw _ _)
      replace hG9 : Grown V8 V11 := Grown.trans hG9 (by rw [← hV]; exact Grown.gw _ _)
      clear hV y V10
      refine WC_all [10] (by kernel_rfl) (by simp) fun i hi => ?_
      rcases List.mem_singleton.1 hi with rfl
      have hR10 : V11.heap[B + 3]? = some (readerObj v last false) := (hG9.block _ (Array.getElem?_eq_some_iff.1 hR8).1).trans hR8
      have hv1 := r2 _ hR10
      have hv2 : V11.frozen? ⟨B + 3, 0, none⟩ = false := by simp [World.frozen?, hR10, readerObj]
      have hv3 : v'.oneCell' = true ∧ v'.cells = #[v'] := by
        rcases hown.2 with ⟨h, h0⟩ | ⟨g, cap, cur, rfl, _⟩
        · omega
        · exact ⟨rfl, rfl⟩
      obtain ⟨g8, cap8, rfl⟩ := ownsRow_succ hown
      refine WG_op rfl rfl fun K hK => ?_
      go_big_op
      refine hK _ _ ⟨(setCell_other_block _ _ _ _ (by omega)).trans hC9, fun y => ?_⟩
      refine WC_done (by kernel_rfl) ?_ _
      obtain ⟨j1, j2, j3, j4, j5⟩ := round_end y h3 (by omega) (bx := B + 5) (by omega) (by omega) h1 hGV hrow hgrow hown hG9
      exact ⟨j1, j2, _, j3, by simpa using j4, j5⟩
  case stop =>
    intro D c pre W _ _ hx _
    exact hx.elim
  case done =>
    rintro D xs W hD rfl ⟨v, h1, h2, h3⟩ hK
    have hs : StrsAt W (B + 3) v (wordsOf text) := by
      rcases h2.2 with ⟨rfl, h0⟩ | ⟨g, cap, cur, rfl, hb, hgb, hle, hm, hcs, htk⟩
      · exact .inl ⟨List.length_eq_zero_iff.1 h0, _, _, rfl⟩
      · refine .inr ⟨g, 0, cap, by omega, rfl, hle, fun i s hi => ?_⟩
        have hlt := (List.getElem?_eq_some_iff.1 hi).1
        have := h2.cellAt i (by omega)
        rw [Nat.zero_add, this]
        simp [hi]
    have hwl := wordsOf_len text
    have hbW : Below B w W := by
      rw [hB] at fb
      exact fb.trans ⟨h3.os, h3.tape, h3.output, h3.size, fun k hk => h3.block k (by omega) (by simp; omega)⟩
    have hc0 : Cell0 W := HC0.out.below hbW (by have := HC0.out.lt; omega)
    have H117 := HRS.out (B + 3) v (wordsOf text) last W hc0 (by omega) h1 hs (fun x hx => ⟨words_ne text x hx, Nat.le_trans (words_len text x hx) h⟩) (by omega)
    have k4 : W.heap[B + 4]? = some (.cells #[.pointer (some ⟨B + 3, 0, none⟩)] 143 (0, 0)) := (h3.block _ (by omega) (by simp)).trans f4
    have k1 : W.heap[B + 1]? = some (.cells #[.int .i64 0, .int .i64 0, .int .i64 0, .int .i64 0, .int .i64 0, .int .i64 0] 24 (0, 0)) := (h3.block _ (by omega) (by simp)).trans f1
    have k2 : W.heap[B + 2]? = some (.cells #[.int .i64 0] 25 (0, 0)) := (h3.block _ (by omega) (by simp)).trans f2
    have m4 : W.cell? ⟨B + 4, 0, none⟩ = some (.pointer (some ⟨B + 3, 0, none⟩)) := by simp [World.cell?, k4]
    have hsW : B + 6 ≤ W.heap.size := by have := h3.size; omega
    have hDl : D < W.heap.size := (Array.getElem?_eq_some_iff.1 hK).1
    have HK := Lib.hid hK
    have HK1 := Lib.hid k1
    have HK2 := Lib.hid k2
    clear k4 k1 k2 hK h1 h2 h3 f1 f2 f3 f4 f5 hbx hs
    cases hres : rs (wordsOf text) last with
    | got c =>
      rw [hres] at H117
      have H := Lib.hid H117
      have HRE := Lib.hid hres
      clear H117 hres
      gi_wp2_with (gi_at_call 117; refine (callsIn_wide.2 H.out).mono ?_; rintro e w' ⟨he, hg⟩; obtain rfl : e = .returned (.tuple #[cv c, .int .i64 0]) := he; unfold cv; obtain ⟨a0, a1, a2, a3, a4, a5, aF, aL⟩ := cells6 ((hg.block (B + 1) (by omega) (by simp)).trans HK1.out); obtain ⟨b0, bF, bL⟩ := cells1 ((hg.block (B + 2) (by omega) (by simp)).trans HK2.out))
      generalize hX : ((((((w'.setCell ⟨B + 1, 0, none⟩ (.int .i64 c.st)).setCell ⟨B + 1, 1, none⟩ (.int .i64 c.da)).setCell ⟨B + 1, 2, none⟩ (.int .i64 c.dy)).setCell ⟨B + 1, 3, none⟩ (.int .i64 c.ki)).setCell ⟨B + 1, 4, none⟩ (.int .i64 c.am)).setCell ⟨B + 1, 5, none⟩ (.int .i64 c.fi)).setCell ⟨B + 2, 0, none⟩ (.int .i64 0) = X
      have x0 : X.cell? ⟨B + 1, 0, none⟩ = some (.int .i64 c.st) := by rw [← hX]; simp [go_sem, a0, a1, a2, a3, a4, a5, b0]
      have x1 : X.cell? ⟨B + 1, 1, none⟩ = some (.int .i64 c.da) := by rw [← hX]; simp [go_sem, a0, a1, a2, a3, a4, a5, b0]
      have x2 : X.cell? ⟨B + 1, 2, none⟩ = some (.int .i64 c.dy) := by rw [← hX]; simp [go_sem, a0, a1, a2, a3, a4, a5, b0]
      have x3 : X.cell? ⟨B + 1, 3, none⟩ = some (.int .i64 c.ki) := by rw [← hX]; simp [go_sem, a0, a1, a2, a3, a4, a5, b0]
      have x4 : X.cell? ⟨B + 1, 4, none⟩ = some (.int .i64 c.am) := by rw [← hX]; simp [go_sem, a0, a1, a2, a3, a4, a5, b0]
      have x5 : X.cell? ⟨B + 1, 5, none⟩ = some (.int .i64 c.fi) := by rw [← hX]; simp [go_sem, a0, a1, a2, a3, a4, a5, b0]
      have x6 : X.cell? ⟨B + 2, 0, none⟩ = some (.int .i64 0) := by rw [← hX]; simp [go_sem, a0, a1, a2, a3, a4, a5, b0]
      have xb : Below B w X := by
        rw [← hX]
        have hw' : Below B w w' := hbW.trans ⟨hg.os, hg.tape, hg.output, hg.size, fun k hk => hg.block k (by omega) (by simp; omega)⟩
        have hx : ∀ {Y : World}, Below B w Y → ∀ b i v, B ≤ b → Below B w (Y.setCell ⟨b, i, none⟩ v) := fun h b i v hb => h.setCell (p := ⟨b, i, none⟩) hb v
        exact hx (hx (hx (hx (hx (hx (hx hw' _ _ _ (by omega)) _ _ _ (by omega)) _ _ _ (by omega)) _ _ _ (by omega)) _ _ _ (by omega)) _ _ _ (by omega)) _ _ _ (by omega)
      have xD : X.heap[D]? = some (.deferred (some [])) := by
        rw [← hX]
        have hx : ∀ (Y : World) b i v, D ≠ b → (Y.setCell ⟨b, i, none⟩ v).heap[D]? = Y.heap[D]? := fun Y b i v hb => Below.heap_setCell _ _ _ D hb
        rw [hx _ _ _ _ (by omega), hx _ _ _ _ (by omega), hx _ _ _ _ (by omega), hx _ _ _ _ (by omega), hx _ _ _ _ (by omega), hx _ _ _ _ (by omega), hx _ _ _ _ (by omega), hg.block D hDl (by simp; omega)]
        exact HK.out
      clear hX a0 a1 a2 a3 a4 a5 aF aL b0 bF bL
      refine ⟨by simp, .inl ⟨_, _, rfl, run_takeDeferred xD, ?_⟩⟩
      have hp : ∀ k i, k ≠ D → (X.putObj D (.deferred none)).cell? ⟨k, i, none⟩ = X.cell? ⟨k, i, none⟩ := fun k i hk => World.cell?_of_block (World.putObj_heap_other (fun e => hk e))
      have y0 := (hp (B + 1) 0 (by omega)).trans x0
      have y1 := (hp (B + 1) 1 (by omega)).trans x1
      have y2 := (hp (B + 1) 2 (by omega)).trans x2
      have y3 := (hp (B + 1) 3 (by omega)).trans x3
      have y4 := (hp (B + 1) 4 (by omega)).trans x4
      have y5 := (hp (B + 1) 5 (by omega)).trans x5
      have y6 := (hp (B + 2) 0 (by omega)).trans x6
      have yb : Below B w (X.putObj D (.deferred none)) := xb.trans ⟨rfl, rfl, rfl, by simp, fun k hk => World.putObj_heap_other (by omega)⟩
      generalize X.putObj D (.deferred none) = Y at *
      refine ⟨by simp, .inr ⟨fun h => (nomatch h), _, _, 115, #[.pointer (some ⟨B + 1, 0, none⟩), .pointer (some ⟨B + 2, 0, none⟩)], rfl, by simp [invoke, go_sem], fun _ _ => trivial, ?_⟩⟩
      refine (catch_idle _ _ _ _).mono ?_
      rintro e u' w'' ⟨rfl, rfl, rfl⟩
      exact ⟨lineEnd (.got c), by simp [results, Tryz.results73, go_sem, lineEnd, cv, zcard, y0, y1, y2, y3, y4, y5, y6], by rw [HRE.out], by rw [hB]; exact yb⟩
    | err x =>
      rw [hres] at H117
      have H := Lib.hid H117
      have HRE := Lib.hid hres
      clear H117 hres
      gi_wp2_with (gi_at_call 117; refine (callsIn_wide.2 H.out).mono ?_; rintro e w' ⟨he, hg⟩; obtain rfl : e = .returned (.tuple #[cv zcard, .int .i64 x]) := he; unfold cv zcard; obtain ⟨a0, a1, a2, a3, a4, a5, aF, aL⟩ := cells6 ((hg.block (B + 1) (by omega) (by simp)).trans HK1.out); obtain ⟨b0, bF, bL⟩ := cells1 ((hg.block (B + 2) (by omega) (by simp)).trans HK2.out))
      generalize hX : ((((((w'.setCell ⟨B + 1, 0, none⟩ (.int .i64 0)).setCell ⟨B + 1, 1, none⟩ (.int .i64 0)).setCell ⟨B + 1, 2, none⟩ (.int .i64 0)).setCell ⟨B + 1, 3, none⟩ (.int .i64 0)).setCell ⟨B + 1, 4, none⟩ (.int .i64 0)).setCell ⟨B + 1, 5, none⟩ (.int .i64 0)).setCell ⟨B + 2, 0, none⟩ (.int .i64 x) = X
      have x0 : X.cell? ⟨B + 1, 0, none⟩ = some (.int .i64 0) := by rw [← hX]; simp [go_sem, a0, a1, a2, a3, a4, a5, b0]
      have x1 : X.cell? ⟨B + 1, 1, none⟩ = some (.int .i64 0) := by rw [← hX]; simp [go_sem, a0, a1, a2, a3, a4, a5, b0]
      have x2 : X.cell? ⟨B + 1, 2, none⟩ = some (.int .i64 0) := by rw [← hX]; simp [go_sem, a0, a1, a2, a3, a4, a5, b0]
      have x3 : X.cell? ⟨B + 1, 3, none⟩ = some (.int .i64 0) := by rw [← hX]; simp [go_sem, a0, a1, a2, a3, a4, a5, b0]
      have x4 : X.cell? ⟨B + 1, 4, none⟩ = some (.int .i64 0) := by rw [← hX]; simp [go_sem, a0, a1, a2, a3, a4, a5, b0]
      have x5 : X.cell? ⟨B + 1, 5, none⟩ = some (.int .i64 0) := by rw [← hX]; simp [go_sem, a0, a1, a2, a3, a4, a5, b0]
      have x6 : X.cell? ⟨B + 2, 0, none⟩ = some (.int .i64 x) := by rw [← hX]; simp [go_sem, a0, a1, a2, a3, a4, a5, b0]
      have xb : Below B w X := by
        rw [← hX]
        have hw' : Below B w w' := hbW.trans ⟨hg.os, hg.tape, hg.output, hg.size, fun k hk => hg.block k (by omega) (by simp; omega)⟩
        have hx : ∀ {Y : World}, Below B w Y → ∀ b i v, B ≤ b → Below B w (Y.setCell ⟨b, i, none⟩ v) := fun h b i v hb => h.setCell (p := ⟨b, i, none⟩) hb v
        exact hx (hx (hx (hx (hx (hx (hx hw' _ _ _ (by omega)) _ _ _ (by omega)) _ _ _ (by omega)) _ _ _ (by omega)) _ _ _ (by omega)) _ _ _ (by omega)) _ _ _ (by omega)
      have xD : X.heap[D]? = some (.deferred (some [])) := by
        rw [← hX]
        have hx : ∀ (Y : World) b i v, D ≠ b → (Y.setCell ⟨b, i, none⟩ v).heap[D]? = Y.heap[D]? := fun Y b i v hb => Below.heap_setCell _ _ _ D hb
        rw [hx _ _ _ _ (by omega), hx _ _ _ _ (by omega), hx _ _ _ _ (by omega), hx _ _ _ _ (by omega), hx _ _ _ _ (by omega), hx _ _ _ _ (by omega), hx _ _ _ _ (by omega), hg.block D hDl (by simp; omega)]
        exact HK.out
      clear hX a0 a1 a2 a3 a4 a5 aF aL b0 bF bL
      refine ⟨by simp, .inl ⟨_, _, rfl, run_takeDeferred xD, ?_⟩⟩
      have hp : ∀ k i, k ≠ D → (X.putObj D (.deferred none)).cell? ⟨k, i, none⟩ = X.cell? ⟨k, i, none⟩ := fun k i hk => World.cell?_of_block (World.putObj_heap_other (fun e => hk e))
      have y0 := (hp (B + 1) 0 (by omega)).trans x0
      have y1 := (hp (B + 1) 1 (by omega)).trans x1
      have y2 := (hp (B + 1) 2 (by omega)).trans x2
      have y3 := (hp (B + 1) 3 (by omega)).trans x3
      have y4 := (hp (B + 1) 4 (by omega)).trans x4
      have y5 := (hp (B + 1) 5 (by omega)).trans x5
      have y6 := (hp (B + 2) 0 (by omega)).trans x6
      have yb : Below B w (X.putObj D (.deferred none)) := xb.trans ⟨rfl, rfl, rfl, by simp, fun k hk => World.putObj_heap_other (by omega)⟩
      generalize X.putObj D (.deferred none) = Y at *
      refine ⟨by simp, .inr ⟨fun h => (nomatch h), _, _, 115, #[.pointer (some ⟨B + 1, 0, none⟩), .pointer (some ⟨B + 2, 0, none⟩)], rfl, by simp [invoke, go_sem], fun _ _ => trivial, ?_⟩⟩
      refine (catch_idle _ _ _ _).mono ?_
      rintro e u' w'' ⟨rfl, rfl, rfl⟩
      exact ⟨lineEnd (.err x), by simp [results, Tryz.results73, go_sem, lineEnd, cv, zcard, y0, y1, y2, y3, y4, y5, y6], by rw [HRE.out], by rw [hB]; exact yb⟩
    | form =>
      rw [hres] at H117
      have H := Lib.hid H117
      have HRE := Lib.hid hres
      clear H117 hres
      gi_wp2_with (gi_at_call 117; refine (callsIn_wide.2 H.out).mono ?_; rintro e w' ⟨he, hg⟩; obtain rfl : e = .panicked [unread] := he)
      have xD : w'.heap[D]? = some (.deferred (some [])) := (hg.block D hDl (by simp; omega)).trans HK.out
      obtain ⟨a0, a1, a2, a3, a4, a5, aF, aL⟩ := cells6 ((hg.block (B + 1) (by omega) (by simp)).trans HK1.out)
      obtain ⟨b0, bF, bL⟩ := cells1 ((hg.block (B + 2) (by omega) (by simp)).trans HK2.out)
      have c1 : w'.heap[B + 1]? = some (.cells #[.int .i64 0, .int .i64 0, .int .i64 0, .int .i64 0, .int .i64 0, .int .i64 0] 24 (0, 0)) := (hg.block (B + 1) (by omega) (by simp)).trans HK1.out
      have hw' : Below B w w' := hbW.trans ⟨hg.os, hg.tape, hg.output, hg.size, fun k hk => hg.block k (by omega) (by simp; omega)⟩
      refine ⟨by simp, .inl ⟨_, _, rfl, run_takeDeferred xD, ?_⟩⟩
      have hp : ∀ k i, k ≠ D → (w'.putObj D (.deferred none)).cell? ⟨k, i, none⟩ = w'.cell? ⟨k, i, none⟩ := fun k i hk => World.cell?_of_block (World.putObj_heap_other (fun e => hk e))
      have hq : ∀ k i, k ≠ D → (w'.putObj D (.deferred none)).frozen? ⟨k, i, none⟩ = w'.frozen? ⟨k, i, none⟩ := fun k i hk => World.frozen?_of_block (World.putObj_heap_other (fun e => hk e))
      have yb : Below B w (w'.putObj D (.deferred none)) := hw'.trans ⟨rfl, rfl, rfl, by simp, fun k hk => World.putObj_heap_other (by omega)⟩
      have y1 : ∀ i, (w'.putObj D (.deferred none)).cell? ⟨B + 1, i, none⟩ = #[Value.int .i64 0, .int .i64 0, .int .i64 0, .int .i64 0, .int .i64 0, .int .i64 0][i]? := fun i => by
        rw [hp _ _ (by omega)]; simp [World.cell?, c1]
      have y2 := (hp (B + 2) 0 (by omega)).trans b0
      have y3 : ∀ i, (w'.putObj D (.deferred none)).frozen? ⟨B + 1, i, none⟩ = false := fun i => (hq (B + 1) i (by omega)).trans (aF i)
      have y4 := (hq (B + 2) 0 (by omega)).trans bF
      have hsY : B ≤ (w'.putObj D (.deferred none)).heap.size := by simp; omega
      generalize w'.putObj D (.deferred none) = Y at *
      refine ⟨by simp, .inr ⟨fun h => (nomatch h), _, _, 115, #[.pointer (some ⟨B + 1, 0, none⟩), .pointer (some ⟨B + 2, 0, none⟩)], rfl, by simp [invoke, go_sem], fun _ _ => trivial, ?_⟩⟩
      refine (catch_panic _ B _ _ _ 0 0 0 0 0 0 0 y1 y3 y2 y4 (by omega) (by omega) (by omega) hsY).mono ?_
      rintro e u' w'' ⟨rfl, rfl, z1, z2, z3⟩
      have t0 := z1 0 (by omega)
      have t1 := z1 1 (by omega)
      have t2 := z1 2 (by omega)
      have t3 := z1 3 (by omega)
      have t4 := z1 4 (by omega)
      have t5 := z1 5 (by omega)
      exact ⟨lineEnd .form, by simp [results, Tryz.results73, go_sem, lineEnd, cv, zcard, t0, t1, t2, t3, t4, t5, z2], by rw [HRE.out], by rw [hB]; exact yb.trans z3⟩
end Go.Proofs.YthifeoebefbalaaGreatDoor

namespace Go.Proofs.YthifeoebefbalaaGreatDoor

def intIn (x : Int) : Prop := -9223372036854775808 ≤ x ∧ x ≤ 9223372036854775807
end Go.Proofs.YthifeoebefbalaaGreatDoor

namespace Go.Proofs.YthifeoebefbalaaGreatDoor
open Go.ChangeShapes Go.WideShapes Go.ChangeAt Go.RowKit

theorem own : ownKnob Tryz.prog.godebug = none := by kernel_rfl
theorem laidOut : laidOutB Tryz.prog = true := by kernel_rfl
noncomputable def laidL : List (String × DataW Unit) := Rows.cardMovesRow.laid
theorem plainL : (laidL.all fun x => x.2.handleName?.isNone) = true := by kernel_rfl
theorem gTab : Tryz.prog.globalNamed "internal/strconv.uint64pow10" = some 3 := by kernel_rfl
theorem env_of {W : World} (h : laidMetH Tryz.prog laidL W) (hsh : W.ShapedOpen Tryz.prog) : Env W := by
  refine ⟨cell_of_shapedOpen_int (P := Tryz.prog) (g := 0) (t := 3) (zero := #[.int .i64 0]) hsh (of_decide_eq_true (by kernel_rfl)) (by kernel_rfl) rfl (by kernel_rfl) (by kernel_rfl) Tryz.underlying3, ?_⟩
  have hp : laidMet Tryz.prog laidL W := (MakeChecks.laidMetH_plain Tryz.prog laidL W plainL) ▸ h
  have h2 : laidMet Tryz.prog (("internal/strconv.uint64pow10", Lib.tabData .u64 Lib.pow10Tab) :: laidL.drop 3) W := (show laidMet Tryz.prog (_ :: _ :: _ :: _) W from hp).tail.tail
  exact Lib.tabIs_of_head gTab (by kernel_rfl) Tryz.underlying263 Tryz.underlying208 (by kernel_rfl) (by kernel_rfl) h2
theorem cell0_of {W : World} (h : Env W) : Cell0 W := h.maxLen
end Go.Proofs.YthifeoebefbalaaGreatDoor

namespace Go.Proofs.YthifeoebefbalaaGreatDoor
open Go.ChangeShapes Go.WideShapes Go.ChangeAt Go.RowKit

theorem intIn_of {x : Int} (h : (Lit.int .i64 x).wf = true) : intIn x := by
  simpa [Lit.wf, IntKind.min, IntKind.max, IntKind.signed, IntKind.bits, intIn] using h
end Go.Proofs.YthifeoebefbalaaGreatDoor

namespace Go.Proofs.YthifeoebefbalaaGreatDoor
open Go.ChangeShapes Go.WideShapes Go.ChangeAt Go.RowKit

theorem and2 {a b : Bool} (ha : a = true) (hb : b = true) : (a && b) = true := by rw [ha, hb]; rfl
theorem s_laidOut : laidOutB Tryz.pinned.checked.prog = true := by kernel_rfl
theorem s_mapsRowed : mapsRowed Tryz.pinned.checked.prog = true := by kernel_rfl
theorem s_stops : (Tryz.pinned.checked.prog.stops == []) = true := by kernel_rfl
theorem s_knobs : (Tryz.pinned.checked.prog.stopKnobs == []) = true := by kernel_rfl
theorem s_heard : Tryz.pinned.checked.prog.stopsHeard = true := by kernel_rfl
theorem s_may : Tryz.pinned.checked.prog.mayEnter = true := by kernel_rfl
theorem s_looks : true = Tryz.pinned.checked.prog.looks [] := by kernel_rfl
end Go.Proofs.YthifeoebefbalaaGreatDoor
