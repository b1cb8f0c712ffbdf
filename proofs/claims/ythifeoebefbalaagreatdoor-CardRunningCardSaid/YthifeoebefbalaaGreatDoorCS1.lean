/- Parts: Z13, U8, U12. -/
import Derived.Test.YthifeoebefbalaaGreatDoorCR1
import Derived.Test.YthifeoebefbalaaGreatDoorCR2
import Derived.Test.YthifeoebefbalaaGreatDoorCR3
import Derived.Test.YthifeoebefbalaaGreatDoorCR4
import Derived.Test.YthifeoebefbalaaGreatDoorCR5
import Derived.Test.YthifeoebefbalaaGreatDoorCR6
import Derived.Test.YthifeoebefbalaaGreatDoorCR7
import Derived.Test.YthifeoebefbalaaGreatDoorCR8
import Derived.Test.YthifeoebefbalaaGreatDoorCR9
import Derived.Test.YthifeoebefbalaaGreatDoorCR10
import Derived.Test.YthifeoebefbalaaGreatDoorCR11
import Derived.Test.YthifeoebefbalaaGreatDoorCR12
import Derived.Test.YthifeoebefbalaaGreatDoorCR13
import Derived.Test.YthifeoebefbalaaGreatDoorCR14
import Derived.Test.YthifeoebefbalaaGreatDoorCR15
import Derived.Test.YthifeoebefbalaaGreatDoorCR16
import Derived.Test.YthifeoebefbalaaGreatDoorProg
import Derived.Test.YthifeoebefbalaaGreatDoorCards
import Derived.Test.YthifeoebefbalaaGreatDoorTie
import Derived.WalkKit
import Derived.WalkLawsBesides
import Derived.WalkSpells
import Derived.Lib.Hide
import Derived.BigQuiet
import Derived.Deep.QuietTactic
import Derived.Shelf.Small.Wraps
import Derived.Shelf.LaysM
import Derived.Shelf.Strconv.Itoa3
import Derived.Shelf.LaysC
import Derived.Shelf.Strconv.AtoiAll
import Derived.Shelf.Strings.Prefix
import Derived.Shelf.Strings.SplitShaped
import Derived.Shelf.Strings.Split
import Derived.Shelf.Small.Utf8
import Derived.Shelf.Small.Strs
import Derived.Shelf.Strings.Runes
import Derived.Lib.AppendIntMem
import Derived.Lib.ItoaLen
import Derived.Deep.RegionHeld3
import Derived.Maps.AppendAt
import Derived.Lib.ConvBytes
import Derived.Lib.AtoiErrMem
import Derived.Laws.IdiomStrings
import Derived.Lib.DecodeN
import Derived.Lib.OthersKept
import Derived.Lib.RuneCountTail
import Derived.RangeFuncNested
import Derived.RangeFuncBound
import Derived.RangeFuncCalls
import Derived.RangeFuncLeaves
import Derived.Shelf.RegionOpen
import Derived.OwnWalkIn
import Derived.TacticsInMore
import Derived.LoopNIn
import Derived.LoopIn
import Derived.TacticsIn
import Derived.RecoverIn
import Derived.Recover
import Derived.RangeFuncBox
import Derived.ProofKit
import Derived.OpenShut
import Derived.Deep.DeepHandedRow
import Derived.Lib.LaidTab
import Derived.Lay
import Derived.Stop.LaidErr
import Derived.HandedShaped
import Derived.Shelf.Vars
import Derived.Shelf.Strings.SlTrimAscii
import Derived.Laws.Runes
import Derived.Outline
import Derived.WalkMore
import Derived.Lib.IndexAny
import Derived.Shelf.Strings.IndexAnyAll
import Derived.IntWalk
import Derived.Maps.OwnSet
import Derived.StringKeys
import Derived.Maps.OwnOps
import Derived.StillTailTactics
import Derived.Deep.Slices
import Derived.Deep.Upon
import Derived.Deep.AppendSrc
import Derived.Sort.Statements
import Derived.Maps.RangeWalk
import Derived.Shelf.Sort.Plain
import Derived.Shelf.Slices.In.SortNone
import Derived.Sort.OwnSortedInts
import Derived.Shelf.Spec.SlicesGrow
import Derived.Deep.CutRange
set_option linter.unusedVariables false
set_option linter.unusedSimpArgs false
set_option linter.unnecessarySimpa false
namespace Go.Proofs.YthifeoebefbalaaGreatDoor

def u8In (x : Int) : Prop := 0 ≤ x ∧ x ≤ 255
end Go.Proofs.YthifeoebefbalaaGreatDoor

namespace Go.Proofs.YthifeoebefbalaaGreatDoor
open Go.ChangeShapes Go.WideShapes Go.ChangeAt Go.RowKit

end Go.Proofs.YthifeoebefbalaaGreatDoor

namespace Go.Proofs.YthifeoebefbalaaGreatDoor
open Go.ChangeShapes Go.WideShapes Go.ChangeAt Go.RowKit

theorem u8In_of {x : Int} (h : (Lit.int .u8 x).wf = true) : u8In x := by
  simpa [Lit.wf, IntKind.min, IntKind.max, IntKind.signed, IntKind.bits, u8In] using h
end Go.Proofs.YthifeoebefbalaaGreatDoor

namespace Go.Proofs.YthifeoebefbalaaGreatDoor
open Go.ChangeShapes Go.WideShapes Go.ChangeAt Go.RowKit

end Go.Proofs.YthifeoebefbalaaGreatDoor

namespace Go.Proofs.YthifeoebefbalaaGreatDoor
open Go.RowKit

/-- Just one of the runs has a day. -/
theorem one_run {x : Int} : ∀ {out : List (Int × Int)} {ds : List Int}, RunsOf out ds → x ∈ ds → (out.filter fun r => decide (r.1 ≤ x) && decide (x < r.1 + r.2)).length = 1 := by
  intro out ds h hx
  obtain ⟨r, hr, h1, h2⟩ := (h.has x).1 hx
  obtain ⟨P, Q, rfl⟩ := List.append_of_mem hr
  have hg := List.pairwise_append.1 h.gap
  have hgQ := List.pairwise_cons.1 hg.2.1
  have e1 : (P.filter fun r => decide (r.1 ≤ x) && decide (x < r.1 + r.2)) = [] := by
    rw [List.filter_eq_nil_iff]
    intro s hs
    have := hg.2.2 s hs r (by simp)
    simp
    omega
  have e2 : (Q.filter fun r => decide (r.1 ≤ x) && decide (x < r.1 + r.2)) = [] := by
    rw [List.filter_eq_nil_iff]
    intro s hs
    have := hgQ.1 s hs
    simp
    omega
  rw [List.filter_append, List.filter_cons, e1, e2, if_pos (by simp [h1, h2])]
  rfl
/-- Days one behind the other lie in one run. -/
theorem in_one_run {out : List (Int × Int)} {ds : List Int} (h : RunsOf out ds) {d t : Int} (ht : 1 ≤ t) (hd : ∀ x, d ≤ x → x < d + t → x ∈ ds) : ∃ r ∈ out, r.1 ≤ d ∧ d + t ≤ r.1 + r.2 := by
  obtain ⟨r, hr, h1, h2⟩ := (h.has d).1 (hd d (by omega) (by omega))
  refine ⟨r, hr, h1, ?_⟩
  by_cases hc : d + t ≤ r.1 + r.2
  · exact hc
  · exfalso
    obtain ⟨s, hs, h3, h4⟩ := (h.has (r.1 + r.2)).1 (hd _ (by omega) (by omega))
    have hp := h.pos r hr
    obtain ⟨P, Q, rfl⟩ := List.append_of_mem hr
    have hg := List.pairwise_append.1 h.gap
    have hgQ := List.pairwise_cons.1 hg.2.1
    rcases List.mem_append.1 hs with hs | hs
    · have := hg.2.2 s hs r (by simp); omega
    · rcases List.mem_cons.1 hs with hs | hs
      · subst hs; omega
      · have := hgQ.1 s hs; omega
theorem sayEq_comm (x y : Card) : sayEq x y = sayEq y x := by simp [sayEq, eq_comm]
theorem day_comm (l : List Card) (a b : Int) : dayR l a b = dayR l b a := by
  funext d
  simp only [dayR]
  congr 1
  · rw [Bool.and_comm (!(dailiesR l a d).isEmpty)]
    congr 1
    rw [Bool.eq_iff_iff]
    simp only [List.all_eq_true]
    constructor
    · intro h x hx y hy; rw [sayEq_comm]; exact h y hy x hx
    · intro h x hx y hy; rw [sayEq_comm]; exact h y hy x hx
  · exact Bool.or_comm _ _
theorem daily_rev (l : List Card) (st d : Int) : dailiesR l.reverse st d = (dailiesR l st d).reverse := by rw [dailiesR, dailiesR, List.filter_reverse]
theorem day_rev (l : List Card) (a b : Int) : dayR l.reverse a b = dayR l a b := by
  funext d
  simp [dayR, daily_rev]
/-- Rising lists of the same numbers are one. -/
theorem rise_ext {xs ys : List Int} (hx : xs.Pairwise (· < ·)) (hy : ys.Pairwise (· < ·)) (h : ∀ d, d ∈ xs ↔ d ∈ ys) : xs = ys := by
  have hn : ∀ {zs : List Int}, zs.Pairwise (· < ·) → zs.Nodup := fun h => h.imp fun h => by omega
  refine ((List.perm_ext_iff_of_nodup (hn hx) (hn hy)).2 h).eq_of_pairwise (le := fun x y => x < y) ?_ hx hy
  intro a b _ _ h1 h2
  omega
theorem cop_comm (l : List Card) (a b : Int) : copR l a b = copR l b a := by
  rw [copR, copR, sameD, sameD, day_comm l a b]
theorem cop_rev (l : List Card) (a b : Int) : copR l.reverse a b = copR l a b := by
  have : sameD l.reverse a b = sameD l a b := rise_ext (same_rise _ _ _) (same_rise _ _ _) fun d => by rw [same_iff, same_iff, day_rev]
  rw [copR, copR, this, day_rev]
theorem cop_in {l : List Card} {a b : Int} (h : (copR l a b).2 ≠ 0) : 1 ≤ (copR l a b).2 ∧ ∃ r ∈ runsR l a, r.1 ≤ (copR l a b).1 ∧ (copR l a b).1 + (copR l a b).2 ≤ r.1 + r.2 := by
  have hk := runs_of _ (sameD l a b) rfl (same_rise l a b)
  have hi : copR l a b ∈ runsF (sameD l a b) := by
    rcases fold_best (D := dayR l a b) (runsF (sameD l a b)) (0, 0) with h1 | h1
    · rw [copR, copP, h1] at h; exact absurd rfl h
    · exact h1
  refine ⟨hk.pos _ hi, ?_⟩
  refine in_one_run (runs_of _ _ rfl ((dates_rise l).filter _)) (hk.pos _ hi) fun x h1 h2 => ?_
  have hx : x ∈ sameD l a b := (hk.has x).2 ⟨_, hi, h1, h2⟩
  have := same_a (same_iff.1 hx)
  exact List.mem_filter.2 ⟨daily_in this.1, by simp [this.1]⟩
theorem runsR_one {l : List Card} {st : Int} {c : Card} (hc : c ∈ l) (h1 : c.st = st) (h2 : c.dy = 1) : ((runsR l st).filter fun r => decide (r.1 ≤ c.da) && decide (c.da < r.1 + r.2)).length = 1 := by
  refine one_run (runsR_of l st) (List.mem_filter.2 ⟨dates_iff.2 ⟨c, hc, rfl⟩, ?_⟩)
  have : c ∈ dailiesR l st c.da := List.mem_filter.2 ⟨hc, by simp [dailyB, h1, h2]⟩
  cases hl : dailiesR l st c.da with
  | nil => rw [hl] at this; simp at this
  | cons => rfl
end Go.Proofs.YthifeoebefbalaaGreatDoor

namespace Go.Proofs.YthifeoebefbalaaGreatDoor
open Go.RowKit Go.Maps

theorem copE_comm (l : List Card) (a b : Int) : copE l b a = copE l a b := by
  unfold copE
  rw [cop_comm l b a]
  by_cases h : a = b
  · subst h; rfl
  · rw [if_neg (show ¬ b = a from fun e => h e.symm), if_neg h]
theorem allErr_rev (l : List Card) : allErr l.reverse = allErr l := by
  unfold allErr eachErr
  rw [List.length_reverse, List.all_reverse]
theorem copE_rev (l : List Card) (a b : Int) : copE l.reverse a b = copE l a b := by
  unfold copE
  rw [allErr_rev, cop_rev]
theorem copE_no {l : List Card} {a b : Int} (h : (copE l a b).2 ≠ 0) : (copE l a b).1 = (0, 0) := by
  unfold copE at *
  split
  · rfl
  · rename_i h1
    rw [if_neg h1] at h
    split
    · rfl
    · rename_i h2
      rw [if_neg h2] at h
      simp only at h ⊢
      by_cases h3 : (copR l a b).2 = 0
      · exact cop_zero h3
      · rw [if_neg h3] at h; exact absurd rfl h
theorem copE_in {l : List Card} {a b : Int} (h : (copE l a b).2 = 0) : 1 ≤ (copE l a b).1.2 ∧ ∃ r ∈ runsR l a, r.1 ≤ (copE l a b).1.1 ∧ (copE l a b).1.1 + (copE l a b).1.2 ≤ r.1 + r.2 := by
  unfold copE at *
  by_cases h1 : allErr l ≠ 0
  · rw [if_pos h1] at h; exact absurd h h1
  · rw [if_neg h1] at h ⊢
    by_cases h2 : a = b
    · rw [if_pos h2] at h; exact absurd h (by decide)
    · rw [if_neg h2] at h ⊢
      simp only at h ⊢
      have h3 : (copR l a b).2 ≠ 0 := fun h3 => by rw [if_pos h3] at h; exact absurd h (by decide)
      exact cop_in h3
/-- Has a run a day? -/
def covB (d : Int) (r : Int × Int) : Bool := decide (r.1 ≤ d) && decide (d < r.1 + r.2)
def inI (rs : List (Int × Int)) (d : Int) (i : Nat) : Nat := ((rs.take i).filter (covB d)).length
def sumI (rs : List (Int × Int)) (i : Nat) : Int := ((rs.take i).map (·.2)).sum
theorem inI_step {rs : List (Int × Int)} {d : Int} {i : Nat} {r : Int × Int} (h : rs[i]? = some r) : inI rs d (i + 1) = inI rs d i + (if covB d r = true then 1 else 0) := by
  rw [inI, inI, List.take_add_one, h, List.filter_append, List.length_append]
  cases hc : covB d r <;> simp [hc]
theorem sumI_step {rs : List (Int × Int)} {i : Nat} {r : Int × Int} (h : rs[i]? = some r) : sumI rs (i + 1) = sumI rs i + r.2 := by
  rw [sumI, sumI, List.take_add_one, h]
  simp
theorem sum_pos : ∀ L : List (Int × Int), (∀ r ∈ L, 1 ≤ r.2) → (0 : Int) ≤ (L.map (·.2)).sum := by
  intro L
  induction L with
  | nil => intro _; simp
  | cons r L ih =>
    intro h
    have h3 := ih fun r hr => h r (by simp [hr])
    have h4 := h r (by simp)
    simp only [List.map_cons, List.sum_cons]
    omega
theorem sumI_bd {rs : List (Int × Int)} (hp : ∀ r ∈ rs, 1 ≤ r.2) (i : Nat) : 0 ≤ sumI rs i ∧ sumI rs i ≤ (rs.map (·.2)).sum := by
  refine ⟨sum_pos _ fun r hr => hp r (List.mem_of_mem_take hr), ?_⟩
  have h1 := sum_pos (rs.drop i) fun r hr => hp r (List.mem_of_mem_drop hr)
  have h2 : (rs.map (·.2)).sum = sumI rs i + ((rs.drop i).map (·.2)).sum := by
    have e : rs.map (·.2) = (rs.take i).map (·.2) ++ (rs.drop i).map (·.2) := by rw [← List.map_append, List.take_append_drop]
    rw [e, List.sum_append]
    rfl
  omega
theorem rem_nat (k n : Nat) : ((k : Int).tmod (n : Int)) = ((k % n : Nat) : Int) := by
  rw [Int.tmod_eq_emod_of_nonneg (by omega)]
  rfl
theorem card6 {w : World} {b : Nat} {c1 c2 c3 c4 c5 c6 : Int} (h : w.heap[b]? = some (.cells #[.int .i64 c1, .int .i64 c2, .int .i64 c3, .int .i64 c4, .int .i64 c5, .int .i64 c6] 24 (0, 0))) : w.cell? ⟨b, 0, none⟩ = some (.int .i64 c1) ∧ w.cell? ⟨b, 1, none⟩ = some (.int .i64 c2) ∧ w.cell? ⟨b, 2, none⟩ = some (.int .i64 c3) ∧ w.cell? ⟨b, 3, none⟩ = some (.int .i64 c4) ∧ w.cell? ⟨b, 4, none⟩ = some (.int .i64 c5) ∧ w.cell? ⟨b, 5, none⟩ = some (.int .i64 c6) ∧ (∀ i, w.frozen? ⟨b, i, none⟩ = false) ∧ b < w.heap.size :=
  ⟨by simp [World.cell?, h], by simp [World.cell?, h], by simp [World.cell?, h], by simp [World.cell?, h], by simp [World.cell?, h], by simp [World.cell?, h], fun i => by simp [World.frozen?, h], (Array.getElem?_eq_some_iff.1 h).1⟩
theorem gap_at {rs : List (Int × Int)} {i : Nat} {r s : Int × Int} (h : rs.Pairwise fun r s => r.1 + r.2 < s.1) (hr : rs[i]? = some r) (hs : rs[i + 1]? = some s) : r.1 + r.2 < s.1 := by
  obtain ⟨h1, e1⟩ := List.getElem?_eq_some_iff.1 hr
  obtain ⟨h2, e2⟩ := List.getElem?_eq_some_iff.1 hs
  rw [← e1, ← e2]
  exact List.pairwise_iff_getElem.1 h i (i + 1) h1 h2 (by omega)
set_option maxRecDepth 100000 in
set_option maxHeartbeats 16000000 in
theorem c21_main (l : List Card) (v : Value) (a b : Int) (kw : Nat) (w : World) (hE : Env w) (hC : Cell0 w) (hcv : CardsV w v l) (hn : l.length ≤ 60) (hn0 : 0 < l.length) (hx : allErr l = 0) (hkw : kw ≤ 255) : Calls Tryz.prog 21 #[v, .int .i64 a, .int .i64 b, .int .u8 kw] w fun e w' => e = .returned (.bool true) ∧ Below w.heap.size w w' := by
  have HE := Lib.hid hE
  have HC := Lib.hid hC
  have HCV := Lib.hid hcv
  have hv := allErr_valid hx
  obtain ⟨rs, hrs⟩ : ∃ rs, runsR l a = rs := ⟨_, rfl⟩
  obtain ⟨m, hm⟩ : ∃ m, rs.length = m := ⟨_, rfl⟩
  obtain ⟨⟨⟨X, Y⟩, er⟩, hEr⟩ : ∃ q, copE l a b = q := ⟨_, rfl⟩
  have HNO : Hid (er ≠ 0 → X = 0 ∧ Y = 0) := Lib.hid fun h => by
    have := copE_no (l := l) (a := a) (b := b) (by rw [hEr]; exact h)
    rw [hEr] at this
    injection this with h1 h2
    exact ⟨h1, h2⟩
  have HIN : Hid (er = 0 → 1 ≤ Y ∧ ∃ r ∈ rs, r.1 ≤ X ∧ X + Y ≤ r.1 + r.2) := Lib.hid fun h => by
    have := copE_in (l := l) (a := a) (b := b) (by rw [hEr]; exact h)
    rw [hEr, hrs] at this
    exact this
  have hm60 : m ≤ 60 := by rw [← hm, ← hrs]; have := runs_small (l := l) (st := a); omega
  have hro := runsR_of l a
  rw [hrs] at hro
  have hsum := runsR_sum l a
  rw [hrs] at hsum
  obtain ⟨n, hnl⟩ : ∃ n, l.length = n := ⟨_, rfl⟩
  rw [hnl] at hn hn0 hsum
  obtain ⟨c, hc⟩ : ∃ c, l[kw % n]? = some c := by
    have : kw % n < n := Nat.mod_lt _ (by omega)
    exact ⟨l[kw % n]'(by omega), by simp⟩
  have HONE : Hid (c.st = a → c.dy = 1 → ((rs.filter (covB c.da)).length = 1)) := Lib.hid fun h1 h2 => by
    have := runsR_one (List.mem_of_getElem? hc) h1 h2
    rw [hrs] at this
    exact this
  have hcd := isCard_da (hv c (List.mem_of_getElem? hc))
  have HRB : Hid (∀ r ∈ rs, 0 ≤ r.1 ∧ r.1 ≤ 60000 ∧ 1 ≤ r.2 ∧ r.2 ≤ 60) := Lib.hid fun r hr => by
    have hp := hro.pos r hr
    have h1 := (hro.has r.1).2 ⟨r, hr, by omega, by omega⟩
    have h2 := days_bd hv r.1 (List.mem_filter.1 h1).1
    obtain ⟨i, hi⟩ := List.getElem?_of_mem hr
    have h3 := sumI_step hi
    have h4 := sumI_bd hro.pos i
    have h5 := sumI_bd hro.pos (i + 1)
    omega
  have HSB : Hid (∀ i, 0 ≤ sumI rs i ∧ sumI rs i ≤ (n : Int)) := Lib.hid fun i => by
    have := sumI_bd hro.pos i
    omega
  have HGAP := Lib.hid hro.gap
  have H68 : Hid (∀ W, Below w.heap.size w W → Calls Tryz.prog 68 #[v, .int .i64 a] W fun e w' => (∃ p c, e = .returned (.tuple #[.slice p m c, .int .i64 0]) ∧ w'.ownsRow W.heap.size 99 2 (.slice p m c) rs.length (prsC rs)) ∧ Below W.heap.size W w') := Lib.hid fun W hW => (c68 l v a W (hcv.below hW) (by omega)).mono fun e w' h => by
    obtain ⟨u, out, rfl, ho, hout, hb⟩ := h
    rw [hx, if_pos rfl, hrs] at hout
    subst hout
    obtain ⟨p, c, rfl⟩ := prs_len ho
    rw [hm] at ho ⊢
    exact ⟨⟨p, c, by rw [hx], ho⟩, hb⟩
  have H69 : Hid (∀ W, Below w.heap.size w W → Calls Tryz.prog 69 #[v, .int .i64 a, .int .i64 b] W fun e w' => e = .returned (.tuple #[.agg #[.int .i64 X, .int .i64 Y], .int .i64 er]) ∧ Below W.heap.size W w') := Lib.hid fun W hW => by
    have := c69 l v a b W (hcv.below hW) (by omega)
    rw [hEr] at this
    exact this
  have H69b : Hid (∀ W, Below w.heap.size w W → Calls Tryz.prog 69 #[v, .int .i64 b, .int .i64 a] W fun e w' => e = .returned (.tuple #[.agg #[.int .i64 X, .int .i64 Y], .int .i64 er]) ∧ Below W.heap.size W w') := Lib.hid fun W hW => by
    have := c69 l v b a W (hcv.below hW) (by omega)
    rw [copE_comm, hEr] at this
    exact this
  have H69r : Hid (∀ W u, CardsV W u l.reverse → Calls Tryz.prog 69 #[u, .int .i64 a, .int .i64 b] W fun e w' => e = .returned (.tuple #[.agg #[.int .i64 X, .int .i64 Y], .int .i64 er]) ∧ Below W.heap.size W w') := Lib.hid fun W u hu => by
    have := c69 l.reverse u a b W hu (by rw [List.length_reverse]; omega)
    rw [copE_rev, hEr] at this
    exact this
  have HM := Lib.hid hm
  have HNL := Lib.hid hnl
  have HCC := Lib.hid hc
  obtain ⟨c1, c2, c3, c4, c5, c6⟩ := c
  simp only at hcd HONE
  have hrem := rem_nat kw n
  have hidx : kw % n < n := Nat.mod_lt _ (by omega)
  obtain ⟨z, hz⟩ : ∃ z, kw % n = z := ⟨_, rfl⟩
  rw [hz] at hrem hidx HCC
  obtain ⟨q0, o0, e0, hca⟩ : ∃ q o, (∃ cap, v = .slice (some ⟨q, o, none⟩) n cap) ∧ CardsAt w q o l := by
    obtain ⟨aa, cap, e, hk⟩ := id hcv
    rw [hnl] at e
    obtain ⟨q, o, e1, h⟩ := hk (fun e => by rw [e] at hnl; simp at hnl; omega)
    exact ⟨q, o, ⟨cap, by rw [e, e1]⟩, h⟩
  obtain ⟨cap, rfl⟩ := e0
  have HCA := Lib.hid hca
  clear hE hC hcv hv hx hrs hm hEr hro hsum hnl hc hca hz
  have hn0' : ((n : Int) == 0) = false := by simp; omega
  go_enter Tryz.func21, Tryz.ntmps21
  go_wp2_with fail
  refine (H68.out _ (xr _)).mono ?_
  rintro e w1 ⟨⟨pr, cr, rfl, ho1⟩, hb1⟩
  have HB1 := Lib.hid hb1
  have HO1 := Lib.hid ho1
  obtain ⟨h0, h1, h2, h3, h4, h5⟩ := (HCA.out.below hb1) z _ HCC.out
  simp only at h0 h1 h2 h3 h4 h5
  clear hb1 H68 ho1
  go_wp2_with fail
  obtain ⟨W0, hW0⟩ : ∃ W0, w1.alloc (.cells #[.int .i64 c1, .int .i64 c2, .int .i64 c3, .int .i64 c4, .int .i64 c5, .int .i64 c6] 24) = W0 := ⟨_, rfl⟩
  obtain ⟨U, hU⟩ : ∃ U, w1.heap.size = U := ⟨_, rfl⟩
  have HU0 : Hid (W0.heap[U]? = some (.cells #[.int .i64 c1, .int .i64 c2, .int .i64 c3, .int .i64 c4, .int .i64 c5, .int .i64 c6] 24 (0, 0))) := Lib.hid (by rw [← hW0, ← hU]; exact World.alloc_heap_new w1 _)
  have HB0 : Hid (Below w.heap.size w W0) := Lib.hid (by rw [← hW0]; exact below_trans HB1.out (below_alloc _ _))
  have HO0 : Hid (W0.ownsRow w.heap.size 99 2 (.slice pr m cr) rs.length (prsC rs)) := Lib.hid (by rw [← hW0]; exact own_keepN HO1.out (below_alloc _ _))
  rw [hW0, hU]
  clear hW0 hU h0 h1 h2 h3 h4 h5 HO1 HB1
  go_loopw [12, 13, 14] (fun p s k wr => ∃ (i pn : Nat) (sn : Int), i ≤ m ∧ pn ≤ i ∧ 0 ≤ sn ∧ sn ≤ 60 ∧ p = .int .i64 pn ∧ s = .int .i64 sn ∧ k = .int .i64 i ∧ Hid (pn = inI rs c2 i ∧ sn = sumI rs i) ∧ Hid (Below W0.heap.size W0 wr)) (fun _ _ k _ => m - (intOf k).toNat)
  case atStart => exact ⟨0, 0, 0, by omega, by omega, by omega, by omega, rfl, rfl, rfl, Lib.hid ⟨rfl, rfl⟩, Lib.hid (xr _)⟩
  case round =>
    obtain ⟨i, pn, sn, hi, hpi, hs0, hs6, rfl, rfl, rfl, HPS, HB⟩ := hrel
    have hUw := heap_on HU0.out HB.out
    obtain ⟨f0, f1, f2, f3, f4, f5, fF, fL⟩ := card6 hUw
    by_cases hlt : i < m
    · obtain ⟨⟨d0, t0⟩, hr⟩ : ∃ r, rs[i]? = some r := by
        have := HM.out
        exact ⟨rs[i]'(by omega), by simp⟩
      have hrb := HRB.out _ (List.mem_of_getElem? hr)
      simp only at hrb
      obtain ⟨qr, kr, er, hkr, lqr, -, x0, x1⟩ := prs_cell (own_keepN HO0.out HB.out) hr
      injection er with er1 er2 er3
      subst er1
      have hin := inI_step (d := c2) hr
      have hsu := sumI_step hr
      have hsb := HSB.out (i + 1)
      rw [hsu, ← HPS.out.2] at hsb
      rw [← HPS.out.1] at hin
      rw [← HPS.out.2] at hsu
      simp only at hsu hsb
      have HIN2 := Lib.hid hin
      have HSU2 := Lib.hid hsu
      have hpn60 : pn ≤ 60 := by omega
      have hsn60 : sn + t0 ≤ 60 := by omega
      have ht1 : decide (t0 < 1) = false := by simp; omega
      clear f0 f1 f2 f3 f4 f5 fF fL
      cases i with
      | zero =>
        have hz0 : decide ((0 : Int) < ((0 : Nat) : Int)) = false := by simp
        clear hr hin hsu hsb er2 er3 hkr
        go_wp2_with fail
        obtain ⟨X0, hX0⟩ : ∃ X0, wr.alloc (.cells #[.int .i64 d0, .int .i64 t0] 99) = X0 := ⟨_, rfl⟩
        obtain ⟨S, hS⟩ : ∃ S, wr.heap.size = S := ⟨_, rfl⟩
        have HBX : Hid (Below W0.heap.size W0 X0) := Lib.hid (by rw [← hX0]; exact below_trans HB.out (below_alloc _ _))
        obtain ⟨s0, s1, sF, sL⟩ := two_at9 (show X0.heap[S]? = some (.cells #[.int .i64 d0, .int .i64 t0] 99 (0, 0)) by rw [← hX0, ← hS]; exact World.alloc_heap_new wr _)
        rw [hX0, hS]
        clear hX0 hS x0 x1 lqr
        refine wp_region_gw (by kernel_rfl) (by kernel_rfl) ?_
        repeat (go_big_quiet_step (fail))
        refine wpQuiet_nil ?_
        rintro _ ⟨y, rfl⟩
        obtain ⟨Z, hZ⟩ : ∃ Z, gw X0 y = Z := ⟨_, rfl⟩
        have hZb : Below X0.heap.size X0 Z := by rw [← hZ]; exact gw_below _ _
        have HBZ := Lib.hid (below_trans HBX.out hZb)
        have z0 := (hZb.cell (p := ⟨S, 0, none⟩) sL).trans s0
        have z1 := (hZb.cell (p := ⟨S, 1, none⟩) sL).trans s1
        obtain ⟨f0, f1, f2, f3, f4, f5, fF, fL⟩ := card6 (heap_on HU0.out HBZ.out)
        rw [hZ]
        clear hZ hZb s0 s1 sF sL
        by_cases hc1 : d0 ≤ c2
        · by_cases hc2 : c2 < d0 + t0
          · go_wp2_with fail
            go_roundw
            case rel => exact ⟨0 + 1, pn + 1, sn + t0, by omega, by omega, by omega, by omega, by go_num, by go_num, by go_num, Lib.hid ⟨by rw [HIN2.out, if_pos (by simp [covB, hc1, hc2])], HSU2.out.symm⟩, HBZ⟩
            case measure => simp [intOf]; omega
          · go_wp2_with fail
            go_roundw
            case rel => exact ⟨0 + 1, pn, sn + t0, by omega, by omega, by omega, by omega, by go_num, by go_num, by go_num, Lib.hid ⟨by rw [HIN2.out, if_neg (by simp only [covB, Bool.and_eq_true, decide_eq_true_eq]; omega)]; rfl, HSU2.out.symm⟩, HBZ⟩
            case measure => simp [intOf]; omega
        · go_wp2_with fail
          go_roundw
          case rel => exact ⟨0 + 1, pn, sn + t0, by omega, by omega, by omega, by omega, by go_num, by go_num, by go_num, Lib.hid ⟨by rw [HIN2.out, if_neg (by simp only [covB, Bool.and_eq_true, decide_eq_true_eq]; omega)]; rfl, HSU2.out.symm⟩, HBZ⟩
          case measure => simp [intOf]; omega

      | succ j =>
        obtain ⟨⟨x', y'⟩, hr'⟩ : ∃ r, rs[j]? = some r := by
          have := HM.out
          exact ⟨rs[j]'(by omega), by simp⟩
        obtain ⟨qr', kr', er', hkr', lqr', -, y0, y1⟩ := prs_cell (own_keepN HO0.out HB.out) hr'
        injection er' with er1' er2' er3'
        injection er1' with er1'
        injection er1' with er1'
        subst er1'
        have hgp := gap_at HGAP.out hr' hr
        have hrb' := HRB.out _ (List.mem_of_getElem? hr')
        simp only at hgp hrb'
        have hgd : decide (d0 ≤ x' + y') = false := by simp; omega
        have hsub : (((j + 1 : Nat) : Int) - 1) = (j : Int) := by omega
        clear hr' er2' er3' hkr'
        clear hr hin hsu hsb er2 er3 hkr
        go_wp2_with fail
        obtain ⟨X0, hX0⟩ : ∃ X0, wr.alloc (.cells #[.int .i64 d0, .int .i64 t0] 99) = X0 := ⟨_, rfl⟩
        obtain ⟨S, hS⟩ : ∃ S, wr.heap.size = S := ⟨_, rfl⟩
        have HBX : Hid (Below W0.heap.size W0 X0) := Lib.hid (by rw [← hX0]; exact below_trans HB.out (below_alloc _ _))
        obtain ⟨s0, s1, sF, sL⟩ := two_at9 (show X0.heap[S]? = some (.cells #[.int .i64 d0, .int .i64 t0] 99 (0, 0)) by rw [← hX0, ← hS]; exact World.alloc_heap_new wr _)
        have w0 := ((below_alloc wr (.cells #[.int .i64 d0, .int .i64 t0] 99)).cell (p := ⟨qr, j * 2, none⟩) lqr).trans y0
        have w1' := ((below_alloc wr (.cells #[.int .i64 d0, .int .i64 t0] 99)).cell (p := ⟨qr, j * 2 + 1, none⟩) lqr).trans y1
        rw [hX0] at w0 w1'
        have lw0 := World.block_lt_of_cell? _ _ w0
        simp only at lw0
        rw [hX0, hS]
        clear hX0 hS x0 x1 lqr y0 y1 lqr'
        refine wp_region_gw (by kernel_rfl) (by kernel_rfl) ?_
        repeat (go_big_quiet_step (fail))
        refine wpQuiet_nil ?_
        rintro _ ⟨y, rfl⟩
        obtain ⟨Z, hZ⟩ : ∃ Z, gw X0 y = Z := ⟨_, rfl⟩
        have hZb : Below X0.heap.size X0 Z := by rw [← hZ]; exact gw_below _ _
        have HBZ := Lib.hid (below_trans HBX.out hZb)
        have z0 := (hZb.cell (p := ⟨S, 0, none⟩) sL).trans s0
        have z1 := (hZb.cell (p := ⟨S, 1, none⟩) sL).trans s1
        obtain ⟨f0, f1, f2, f3, f4, f5, fF, fL⟩ := card6 (heap_on HU0.out HBZ.out)
        rw [hZ]
        clear hZ hZb s0 s1 sF sL w0 w1' lw0
        by_cases hc1 : d0 ≤ c2
        · by_cases hc2 : c2 < d0 + t0
          · go_wp2_with fail
            go_roundw
            case rel => exact ⟨j + 1 + 1, pn + 1, sn + t0, by omega, by omega, by omega, by omega, by go_num, by go_num, by go_num, Lib.hid ⟨by rw [HIN2.out, if_pos (by simp [covB, hc1, hc2])], HSU2.out.symm⟩, HBZ⟩
            case measure => simp [intOf]; omega
          · go_wp2_with fail
            go_roundw
            case rel => exact ⟨j + 1 + 1, pn, sn + t0, by omega, by omega, by omega, by omega, by go_num, by go_num, by go_num, Lib.hid ⟨by rw [HIN2.out, if_neg (by simp only [covB, Bool.and_eq_true, decide_eq_true_eq]; omega)]; rfl, HSU2.out.symm⟩, HBZ⟩
            case measure => simp [intOf]; omega
        · go_wp2_with fail
          go_roundw
          case rel => exact ⟨j + 1 + 1, pn, sn + t0, by omega, by omega, by omega, by omega, by go_num, by go_num, by go_num, Lib.hid ⟨by rw [HIN2.out, if_neg (by simp only [covB, Bool.and_eq_true, decide_eq_true_eq]; omega)]; rfl, HSU2.out.symm⟩, HBZ⟩
          case measure => simp [intOf]; omega
    · obtain rfl : m = i := by omega
      have hsn : sn ≤ (n : Int) := by rw [HPS.out.2]; exact (HSB.out m).2
      have HP1 : Hid (c1 = a → c3 = 1 → pn = 1) := Lib.hid fun h1 h2 => by
        have := HONE.out h1 h2
        rw [HPS.out.1, inI, List.take_of_length_le (by rw [HM.out]; exact Nat.le_refl _)]
        exact this
      have HBw := Lib.hid (below_trans HB0.out HB.out)
      have HOw := Lib.hid (own_keepN HO0.out HB.out)
      clear HU0 HO0 HB0 HPS hUw
      go_upto_region 18 with fail
      go_cut [126] from 108 (fun s wx => s = .bool false ∧ wx = wr)
      case first =>
        by_cases hca : c1 = a
        · by_cases hcd : c3 = 1
          · have hpn := HP1.out hca hcd
            subst hpn
            subst hca
            subst hcd
            go_wp2_with fail
            go_meet
            exact ⟨by simp; omega, rfl⟩
          · have hcd' : (c3 == 1) = false := by simpa using hcd
            go_wp2_with fail
            go_meet
            exact ⟨by simp; omega, rfl⟩
        · have hca' : (c1 == a) = false := by simpa using hca
          go_wp2_with fail
          go_meet
          exact ⟨by simp; omega, rfl⟩
      case rest =>
        obtain ⟨rfl, rfl⟩ := hcut
        clear f0 f1 f2 f3 f4 f5 fF fL
        go_wp2_with fail
        refine (H69.out _ HBw.out).mono ?_
        rintro e w3 ⟨rfl, hb3⟩
        have HB3 := Lib.hid (below_trans (below_trans HBw.out hb3) (below_alloc w3 (.cells #[.int .i64 X, .int .i64 Y] 99)))
        have HT1 := Lib.hid (World.alloc_heap_new w3 (.cells #[.int .i64 X, .int .i64 Y] 99))
        have HO3 := Lib.hid (own_keepN (own_keepN HOw.out hb3) (below_alloc w3 (.cells #[.int .i64 X, .int .i64 Y] 99)))
        obtain ⟨T1, hT1⟩ : ∃ T, w3.heap.size = T := ⟨_, rfl⟩
        rw [hT1] at HT1
        clear hb3 H69 HOw HBw
        go_wp2_with fail
        refine (H69b.out _ HB3.out).mono ?_
        rintro e w4 ⟨rfl, hb4⟩
        have HB4 := Lib.hid (below_trans (below_trans HB3.out hb4) (below_alloc w4 (.cells #[.int .i64 X, .int .i64 Y] 99)))
        have HT2 := Lib.hid (World.alloc_heap_new w4 (.cells #[.int .i64 X, .int .i64 Y] 99))
        replace HT1 := Lib.hid (heap_on (heap_on HT1.out hb4) (below_alloc w4 (.cells #[.int .i64 X, .int .i64 Y] 99)))
        have HO4 := Lib.hid (own_keepN (own_keepN HO3.out hb4) (below_alloc w4 (.cells #[.int .i64 X, .int .i64 Y] 99)))
        obtain ⟨T2, hT2⟩ : ∃ T, w4.heap.size = T := ⟨_, rfl⟩
        rw [hT2] at HT2
        clear hb4 H69b HO3 HB3 hT1
        go_wp2_with fail
        obtain ⟨W4, hW4⟩ : ∃ W, w4.alloc (.cells #[.int .i64 X, .int .i64 Y] 99) = W := ⟨_, rfl⟩
        rw [hW4] at HB4 HT2 HT1 HO4 ⊢
        clear hW4 hT2
        obtain ⟨inf, i1, i2, i3, i4⟩ := info24
        go_loopw [20, 21] (fun v k wr => ∃ (j : Nat) (out : List Card), j ≤ n ∧ k = .int .i64 ((j : Int) - 1) ∧ out.length + j = n ∧ Hid (out = (l.drop j).reverse) ∧ Hid (wr.ownsRow W4.heap.size 24 6 v out.length (flatC out)) ∧ Hid (Below W4.heap.size W4 wr)) (fun _ k _ => (intOf k + 1).toNat)
        case atStart => exact ⟨n, [], by omega, rfl, by simp, Lib.hid (by rw [List.drop_eq_nil_of_le (by rw [HNL.out]; exact Nat.le_refl _)]; rfl), Lib.hid (ownsNil _ _), Lib.hid (xr _)⟩
        case round =>
          obtain ⟨j, out, hj, rfl, hol, hout, hown, hb⟩ := hrel
          cases j with
          | succ j =>
            obtain ⟨cj, hcj⟩ : ∃ c, l[j]? = some c := by
              have := HNL.out
              exact ⟨l[j]'(by omega), by simp⟩
            have hcs := (HCA.out.below (below_trans HB4.out hb.out)) j cj hcj
            have hH : Hid (out ++ [cj] = (l.drop j).reverse) := Lib.hid (by
              obtain ⟨h1, h2⟩ := List.getElem?_eq_some_iff.1 hcj
              rw [hout.out, List.drop_eq_getElem_cons h1, h2, List.reverse_cons])
            have hsub : (((j + 1 : Nat) : Int) - 1) = (j : Int) := by omega
            obtain ⟨e1, e2, e3, e4, e5, e6⟩ := cj
            obtain ⟨h0, h1, h2, h3, h4, h5⟩ := hcs
            simp only at h0 h1 h2 h3 h4 h5
            clear hcj hout
            go_wp2_with (at_builtin; refine wpList_append_own _ rfl (.tmp 148) (.tmp 153) 49 rfl W4.heap.size 24 inf _ 6 48 Tryz.underlying49 i1 i2 i3 i4 rfl (by decide) _ _ _ rfl (hown.out.alloc _) ⟨wr.heap.size, 0, none⟩ 1 1 (cardCells ⟨e1, e2, e3, e4, e5, e6⟩) rfl rfl (card_at _ _ _ _ _ _ fun j => by simp [go_sem]) (card_one _) (by simp only [maxLen]; omega) (by omega) (by have := hb.out.size; simp; omega) ?_; intro v1 w5 hown1 hgrow1 _; have hB1 := Lib.hid (own_belowN (xa hb.out _) (hown.out.alloc _) hgrow1); clear hgrow1)
            go_roundw
            case rel => exact ⟨j, out ++ [⟨e1, e2, e3, e4, e5, e6⟩], by omega, by go_num, by simp; omega, hH, Lib.hid (cards_snoc hown1), hB1⟩
            case measure => simp [intOf] <;> omega
          | zero =>
            have hrev : Hid (out = l.reverse) := Lib.hid (by rw [hout.out, List.drop_zero])
            have hneg : decide ((0 : Int) ≤ ((0 : Nat) : Int) - 1) = false := by decide
            have HCR := Lib.hid (own_cardsR hown.out).1
            have hfr : ∃ p c, u20 = .slice p out.length c := slice_len hown.out
            obtain ⟨p20, c20, rfl⟩ := hfr
            have HT1b := Lib.hid (heap_on HT1.out hb.out)
            have HT2b := Lib.hid (heap_on HT2.out hb.out)
            have HO5 := Lib.hid (own_keepN HO4.out hb.out)
            have HB5 := Lib.hid (below_trans HB4.out hb.out)
            have HCR2 : Hid (CardsV wr (.slice p20 out.length c20) l.reverse) := Lib.hid (by have h := HCR.out; rw [hrev.out] at h ⊢; exact h)
            clear hout hown HCR hb HT1 HT2 HO4 HB4 i1 i2 i3 i4
            go_wp2_with fail
            refine (H69r.out _ _ HCR2.out).mono ?_
            rintro e w6 ⟨rfl, hb6⟩
            obtain ⟨W7, hW7⟩ : ∃ W, w6.alloc (.cells #[.int .i64 X, .int .i64 Y] 99) = W := ⟨_, rfl⟩
            obtain ⟨T3, hT3⟩ : ∃ T, w6.heap.size = T := ⟨_, rfl⟩
            have h67 : Below w6.heap.size w6 W7 := by rw [← hW7]; exact below_alloc _ _
            have HT1c := Lib.hid (heap_on (heap_on HT1b.out hb6) h67)
            have HT2c := Lib.hid (heap_on (heap_on HT2b.out hb6) h67)
            have HT3c : Hid (W7.heap[T3]? = some (.cells #[.int .i64 X, .int .i64 Y] 99 (0, 0))) := Lib.hid (by rw [← hW7, ← hT3]; exact World.alloc_heap_new w6 _)
            have HO7 := Lib.hid (own_keepN (own_keepN HO5.out hb6) h67)
            have HB7 := Lib.hid (below_trans (below_trans HB5.out hb6) h67)
            clear HT1b HT2b HO5 HB5 HCR2 hb6 h67 H69r
            go_upto_region 28 with fail
            clear hW7 hT3
            obtain ⟨a0, a1, aF, aL⟩ := two_at9 HT1c.out
            obtain ⟨d0, d1, dF, dL⟩ := two_at9 HT2c.out
            obtain ⟨g0, g1, gF, gL⟩ := two_at9 HT3c.out
            clear HT2c HT3c
            by_cases he : er = 0
            · obtain ⟨hY1, rk, hrk, hk1, hk2⟩ := HIN.out he
              subst he
              have HEX : Hid (rs.any (fun r => decide (r.1 ≤ X) && decide (X + Y ≤ r.1 + r.2)) = true) := Lib.hid (List.any_eq_true.2 ⟨rk, hrk, by simp [hk1, hk2]⟩)
              have hrkb := HRB.out rk hrk
              have hXY : -200000 ≤ X ∧ X + Y ≤ 200000 := ⟨by omega, by omega⟩
              clear hrk
              go_wp2_with fail
              go_loopw [24, 25] (fun f k wr => ∃ (i : Nat) (fb : Bool), i ≤ m ∧ f = .bool fb ∧ k = .int .i64 i ∧ Hid (fb = (rs.take i).any (fun r => decide (r.1 ≤ X) && decide (X + Y ≤ r.1 + r.2))) ∧ Hid (Below W7.heap.size W7 wr)) (fun _ k _ => m - (intOf k).toNat)
              case atStart => exact ⟨0, false, by omega, rfl, rfl, Lib.hid rfl, Lib.hid (xr _)⟩
              case round =>
                clear a0 a1 aF aL d0 d1 dF dL g0 g1 gF gL
                obtain ⟨i, fb, hi, rfl, rfl, hfb, HB⟩ := hrel
                obtain ⟨a0, a1, aF, aL⟩ := two_at9 (heap_on HT1c.out HB.out)
                by_cases hlt : i < m
                · obtain ⟨⟨d0, t0⟩, hr⟩ : ∃ r, rs[i]? = some r := by
                    have := HM.out
                    exact ⟨rs[i]'(by omega), by simp⟩
                  have hrb := HRB.out _ (List.mem_of_getElem? hr)
                  simp only at hrb
                  obtain ⟨qr, kr, er, hkr, lqr, -, x0, x1⟩ := prs_cell (own_keepN HO7.out HB.out) hr
                  injection er with er1 er2 er3
                  subst er1
                  have hst : Hid ((rs.take (i + 1)).any (fun r => decide (r.1 ≤ X) && decide (X + Y ≤ r.1 + r.2)) = (fb || (decide (d0 ≤ X) && decide (X + Y ≤ d0 + t0)))) := Lib.hid (by rw [List.take_add_one, hr, List.any_append, ← hfb.out]; simp)
                  clear hr er2 er3 hkr
                  cases fb with
                  | true =>
                    go_wp2_with fail
                    refine wp_region_gw (by kernel_rfl) (by kernel_rfl) ?_
                    repeat (go_big_quiet_step (fail))
                    refine wpQuiet_nil ?_
                    rintro _ ⟨y, rfl⟩
                    have HBy := Lib.hid (below_trans HB.out (gw_below wr y))
                    clear x0 x1 lqr a0 a1 aF aL
                    go_wp2_with fail
                    go_roundw
                    case rel => exact ⟨i + 1, true, by omega, rfl, by go_num, Lib.hid (by rw [hst.out]; simp [*]), HBy⟩
                    case measure => simp [intOf]; omega
                  | false =>
                    by_cases q1 : d0 ≤ X
                    · by_cases q2 : X + Y ≤ d0 + t0
                      · have q1' : decide (d0 ≤ X) = true := by simpa using q1
                        have q2' : decide (X + Y ≤ d0 + t0) = true := by simpa using q2
                        go_wp2_with fail
                        refine wp_region_gw (by kernel_rfl) (by kernel_rfl) ?_
                        repeat (go_big_quiet_step (fail))
                        refine wpQuiet_nil ?_
                        rintro _ ⟨y, rfl⟩
                        have HBy := Lib.hid (below_trans HB.out (gw_below wr y))
                        clear x0 x1 lqr a0 a1 aF aL
                        go_wp2_with fail
                        go_roundw
                        case rel => exact ⟨i + 1, true, by omega, rfl, by go_num, Lib.hid (by rw [hst.out]; simp [*]), HBy⟩
                        case measure => simp [intOf]; omega
                      · have q1' : decide (d0 ≤ X) = true := by simpa using q1
                        have q2' : decide (X + Y ≤ d0 + t0) = false := by simpa using q2
                        go_wp2_with fail
                        refine wp_region_gw (by kernel_rfl) (by kernel_rfl) ?_
                        repeat (go_big_quiet_step (fail))
                        refine wpQuiet_nil ?_
                        rintro _ ⟨y, rfl⟩
                        have HBy := Lib.hid (below_trans HB.out (gw_below wr y))
                        clear x0 x1 lqr a0 a1 aF aL
                        go_wp2_with fail
                        go_roundw
                        case rel => exact ⟨i + 1, false, by omega, rfl, by go_num, Lib.hid (by rw [hst.out]; simp [*]), HBy⟩
                        case measure => simp [intOf]; omega
                    · have q1' : decide (d0 ≤ X) = false := by simpa using q1
                      go_wp2_with fail
                      refine wp_region_gw (by kernel_rfl) (by kernel_rfl) ?_
                      repeat (go_big_quiet_step (fail))
                      refine wpQuiet_nil ?_
                      rintro _ ⟨y, rfl⟩
                      have HBy := Lib.hid (below_trans HB.out (gw_below wr y))
                      clear x0 x1 lqr a0 a1 aF aL
                      go_wp2_with fail
                      go_roundw
                      case rel => exact ⟨i + 1, false, by omega, rfl, by go_num, Lib.hid (by rw [hst.out]; simp [*]), HBy⟩
                      case measure => simp [intOf]; omega
                · obtain rfl : i = m := by omega
                  have hfb1 : fb = true := by rw [hfb.out, List.take_of_length_le (by rw [HM.out]; exact Nat.le_refl _)]; exact HEX.out
                  subst hfb1
                  have HBe := Lib.hid (below_trans HB7.out HB.out)
                  have HT1d := Lib.hid (heap_on HT1c.out HB.out)
                  clear a0 a1 aF aL
                  go_wp2_with fail
                  refine (c22 _ (HE.out.below HBe.out) (HC.out.below HBe.out HC.out.lt)).mono ?_
                  rintro e w8 ⟨rfl, hb8⟩
                  obtain ⟨a0, a1, aF, aL⟩ := two_at9 (heap_on HT1d.out hb8)
                  have HBf := Lib.hid (below_trans HBe.out hb8)
                  clear hb8
                  go_wp2_with fail
                  go_ret
                  exact ⟨by simp <;> omega, HBf.out⟩
            · obtain ⟨hX0, hY0⟩ := HNO.out he
              subst hX0
              subst hY0
              have he1 : (er == 0) = false := by simpa using he
              have he2 : (er != 0) = true := by simpa using he
              go_wp2_with fail
              refine (c22 _ (HE.out.below HB7.out) (HC.out.below HB7.out HC.out.lt)).mono ?_
              rintro e w8 ⟨rfl, hb8⟩
              obtain ⟨a0, a1, aF, aL⟩ := two_at9 (heap_on HT1c.out hb8)
              have HB8 := Lib.hid (below_trans HB7.out hb8)
              clear hb8
              go_wp2_with fail
              go_ret
              exact ⟨rfl, HB8.out⟩
set_option maxRecDepth 100000 in
set_option maxHeartbeats 16000000 in
theorem c21_triv (l : List Card) (v : Value) (a b : Int) (kw : Int) (w : World) (hE : Env w) (hC : Cell0 w) (hcv : CardsV w v l) (hn : 60 < l.length ∨ l.length = 0) (hm : l.length ≤ maxLen) : Calls Tryz.prog 21 #[v, .int .i64 a, .int .i64 b, .int .u8 kw] w fun e w' => e = .returned (.bool true) ∧ Below w.heap.size w w' := by
  have HE := Lib.hid hE
  have HC := Lib.hid hC
  obtain ⟨pv, cp, rfl, -⟩ := hcv
  generalize l.length = n at *
  clear hE hC
  by_cases h0 : n = 0
  · subst h0
    clear hn
    go_enter Tryz.func21, Tryz.ntmps21
    go_wp2_with fail
    refine (c22 _ HE.out HC.out).mono ?_
    rintro e w1 ⟨rfl, hb1⟩
    go_wp2_with fail
    go_ret
    exact ⟨rfl, hb1⟩
  · have h1 : 60 < n := by omega
    have h2 : decide ((60 : Int) < (n : Int)) = true := by simp; omega
    clear hn h0
    go_enter Tryz.func21, Tryz.ntmps21
    go_wp2_with fail
    refine (c22 _ HE.out HC.out).mono ?_
    rintro e w1 ⟨rfl, hb1⟩
    go_wp2_with fail
    go_ret
    exact ⟨rfl, hb1⟩
set_option maxRecDepth 100000 in
set_option maxHeartbeats 16000000 in
theorem c21_bad (l : List Card) (v : Value) (a b x : Int) (kw : Int) (w : World) (hE : Env w) (hC : Cell0 w) (hcv : CardsV w v l) (hn : l.length ≤ 60) (hn0 : 0 < l.length) (hx : allErr l = x) (h0 : ¬ x = 0) : Calls Tryz.prog 21 #[v, .int .i64 a, .int .i64 b, .int .u8 kw] w fun e w' => e = .returned (.bool true) ∧ Below w.heap.size w w' := by
  have HE := Lib.hid hE
  have HC := Lib.hid hC
  have H68 : Hid (Calls Tryz.prog 68 #[v, .int .i64 a] w fun e w' => (∃ p c, e = .returned (.tuple #[.slice p 0 c, .int .i64 x])) ∧ Below w.heap.size w w') := Lib.hid ((c68 l v a w hcv (by omega)).mono fun e w' h => by
    obtain ⟨u, out, rfl, ho, hout, hb⟩ := h
    rw [hx, if_neg h0] at hout
    subst hout
    obtain ⟨p, c, rfl⟩ := prs_len ho
    exact ⟨⟨p, c, by rw [hx]; rfl⟩, hb⟩)
  have hxb : (x != 0) = true := by simpa using h0
  obtain ⟨pv, cp, rfl, -⟩ := hcv
  clear hE hC hx
  generalize l.length = n at *
  have hn0' : ((n : Int) == 0) = false := by simp; omega
  go_enter Tryz.func21, Tryz.ntmps21
  go_wp2_with fail
  refine H68.out.mono ?_
  rintro e w1 ⟨⟨p1, c1, rfl⟩, hb1⟩
  have HB1 := Lib.hid hb1
  clear hb1 H68
  go_wp2_with fail
  refine (c22 _ (HE.out.below HB1.out) (HC.out.below HB1.out HC.out.lt)).mono ?_
  rintro e w4 ⟨rfl, hb4⟩
  have HB4 := Lib.hid (below_trans HB1.out hb4)
  clear hb4
  go_wp2_with fail
  go_ret
  exact ⟨rfl, HB4.out⟩
theorem w21 (v : Value) (a b : Int) (which : Int) (w : World) (hV : ∃ l : List Card, CardsV w v l ∧ l.length ≤ maxLen) (_ : intIn a) (_ : intIn b) (hu : u8In which) (hE : Env w) (hC : Cell0 w) : Calls Tryz.prog 21 #[v, .int .i64 a, .int .i64 b, .int .u8 which] w fun e w' => e = .returned (.bool true) ∧ Below w.heap.size w w' := by
  obtain ⟨l, h1, h2⟩ := hV
  by_cases hn : 60 < l.length ∨ l.length = 0
  · exact c21_triv l v a b which w hE hC h1 hn h2
  · by_cases hx : allErr l = 0
    · obtain ⟨kw, rfl⟩ : ∃ k : Nat, which = (k : Int) := ⟨which.toNat, by have := hu.1; omega⟩
      exact c21_main l v a b kw w hE hC h1 (by omega) (by omega) hx (by have := hu.2; omega)
    · exact c21_bad l v a b _ which w hE hC h1 (by omega) (by omega) rfl hx
end Go.Proofs.YthifeoebefbalaaGreatDoor
