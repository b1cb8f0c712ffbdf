/- The range of a whole number that comes in. -/
import Derived.Test.YthifeoebefbalaaGreatDoorProg
import Derived.Test.YthifeoebefbalaaGreatDoorCards
import Derived.Test.YthifeoebefbalaaGreatDoorTie
import Derived.Test.YthifeoebefbalaaGreatDoorZ4
import Derived.Test.YthifeoebefbalaaGreatDoorZ2
import Derived.ProofKit
import Derived.OpenShut
import Derived.Deep.DeepHandedRow
import Derived.Lib.LaidTab
import Derived.Lay
import Derived.Stop.LaidErr
import Derived.HandedShaped
import Derived.Shelf.Vars
set_option linter.unusedVariables false
set_option linter.unusedSimpArgs false
namespace Go.Proofs.YthifeoebefbalaaGreatDoor

def intIn (x : Int) : Prop := -9223372036854775808 ≤ x ∧ x ≤ 9223372036854775807
def u8In (x : Int) : Prop := 0 ≤ x ∧ x ≤ 255
end Go.Proofs.YthifeoebefbalaaGreatDoor

namespace Go.Proofs.YthifeoebefbalaaGreatDoor
open Go.ChangeShapes Go.WideShapes Go.ChangeAt Go.RowKit

theorem own : ownKnob Tryz.prog.godebug = none := by kernel_rfl
theorem laidOut : laidOutB Tryz.prog = true := by kernel_rfl
noncomputable def laidL : List (String × DataW Unit) := Rows.cardMovesRow.laid
theorem plainL : (laidL.all fun x => x.2.handleName?.isNone) = true := by kernel_rfl
theorem gTab : Tryz.prog.globalNamed "internal/strconv.uint64pow10" = some 3 := by kernel_rfl
theorem env_of {W : World} (h : laidMetH Tryz.prog laidL W) (hsh : W.ShapedOpen Tryz.prog) : Env W := by
  refine ⟨cell_of_shapedOpen_int (P := Tryz.prog) (g := 0) (t := 3) (zero := #[.int .i64 0]) hsh (of_decide_eq_true (by kernel_rfl)) (by kernel_rfl) rfl (by kernel_rfl) (by kernel_rfl) Tryz.underlying3, ?_⟩
  have hp : laidMet Tryz.prog laidL W := (MakeChecks.laidMetH_plain Tryz.prog laidL W plainL) ▸ h
  have h2 : laidMet Tryz.prog (("internal/strconv.uint64pow10", Lib.tabData .u64 Lib.pow10Tab) :: laidL.drop 3) W := (show laidMet Tryz.prog (_ :: _ :: _ :: _) W from hp).tail.tail
  exact Lib.tabIs_of_head gTab (by kernel_rfl) Tryz.underlying263 Tryz.underlying208 (by kernel_rfl) (by kernel_rfl) h2
theorem cell0_of {W : World} (h : Env W) : Cell0 W := h.maxLen
end Go.Proofs.YthifeoebefbalaaGreatDoor

namespace Go.Proofs.YthifeoebefbalaaGreatDoor
open Go.ChangeShapes Go.WideShapes Go.ChangeAt Go.RowKit

theorem intIn_of {x : Int} (h : (Lit.int .i64 x).wf = true) : intIn x := by
  simpa [Lit.wf, IntKind.min, IntKind.max, IntKind.signed, IntKind.bits, intIn] using h
theorem u8In_of {x : Int} (h : (Lit.int .u8 x).wf = true) : u8In x := by
  simpa [Lit.wf, IntKind.min, IntKind.max, IntKind.signed, IntKind.bits, u8In] using h
def intsOf (cs : List Value) : List Int := cs.map fun v => match v with
  | .int _ a => a
  | _ => 0
theorem open_whole {H : Type} {enc : TypeId × Value → H} {P : Program} {w : World} {base b0 : Nat} {sp : Nat → Bool} {held : Bool} {r : Reach} {t : TypeId} {fs : Array Field} {v : Value} {d : DataW H} {p : List MemPlace}
    (hs : P.underlying t = some (.struct fs)) (h3 : P.underlying 3 = some (.int .i64)) (hc3 : P.cellsOf 3 = 1) (hall : (List.range fs.size).all (fun i => (fs[i]?).any fun f => f.type == 3 && f.offset == i) = true) (hC : P.cellsOf t = fs.size)
    (hv : Value.okWide P w r b0 t v) (h : DataW.Trod enc P w base sp held t v d p) : ∃ l : List Int, v = .agg (l.map (Value.int .i64)).toArray ∧ l.length = fs.size ∧ ∀ x ∈ l, intIn x := by
  obtain ⟨cs, rfl, hsz⟩ := okWide_struct hs hv
  obtain ⟨fuel, hf⟩ := h
  obtain ⟨xs, n, -, -, -, hxl, hg⟩ := DataW.trod_struct hs hf
  have hcell : ∀ i, i < cs.size → ∃ a, cs.toList[i]? = some (.int .i64 a) ∧ intIn a := fun i hi => by
    have hi2 : i < fs.size := by omega
    have h1 := List.all_eq_true.1 hall i (List.mem_range.2 hi2)
    rw [Array.getElem?_eq_getElem hi2] at h1
    simp only [Option.any_some, Bool.and_eq_true, beq_iff_eq] at h1
    have h2 := hg i fs[i] (Array.getElem?_eq_getElem hi2)
    rw [h1.1, h1.2, hc3] at h2
    rw [List.getElem?_eq_getElem (show i < xs.length by omega)] at h2
    obtain ⟨a, ha, -, hw⟩ := DataW.trod_int h3 h2
    refine ⟨a, ?_, intIn_of hw⟩
    have h4 := congrArg (fun l : List Value => l[0]?) ha
    simpa [Value.cells] using h4
  have hl : cs.toList = (intsOf cs.toList).map (Value.int .i64) := by
    apply List.ext_getElem?
    intro i
    by_cases hi : i < cs.size
    · obtain ⟨a, ha, -⟩ := hcell i hi
      simp [intsOf, ha]
    · rw [List.getElem?_eq_none (by simp; omega), List.getElem?_eq_none (by simp [intsOf]; omega)]
  refine ⟨intsOf cs.toList, ?_, by simp [intsOf]; omega, fun x hx => ?_⟩
  · rw [← hl]
  · obtain ⟨i, hi, rfl⟩ := List.mem_iff_getElem.1 hx
    obtain ⟨a, ha, hw⟩ := hcell i (by simpa [intsOf] using hi)
    have : (intsOf cs.toList)[i] = a := by
      have h5 : (intsOf cs.toList)[i]? = some a := by simp [intsOf, ha]
      rw [List.getElem?_eq_getElem hi] at h5
      injection h5
    rw [this]; exact hw
set_option maxRecDepth 100000 in
/-- A card that comes in. -/
theorem open_card {H : Type} {enc : TypeId × Value → H} {w : World} {base b0 : Nat} {sp : Nat → Bool} {held : Bool} {r : Reach} {v : Value} {d : DataW H} {p : List MemPlace}
    (hv : Value.okWide Tryz.prog w r b0 24 v) (h : DataW.Trod enc Tryz.prog w base sp held 24 v d p) : ∃ c : Card, v = cv c ∧ intIn c.st ∧ intIn c.da ∧ intIn c.dy ∧ intIn c.ki ∧ intIn c.am ∧ intIn c.fi := by
  obtain ⟨l, rfl, hl, hw⟩ := open_whole Tryz.underlying24 Tryz.underlying3 (by kernel_rfl) (by kernel_rfl) (by kernel_rfl) hv h
  have hl6 : l.length = 6 := hl
  clear hl
  match l, hl6 with
  | [a, b, c, d, e, f], _ => exact ⟨⟨a, b, c, d, e, f⟩, rfl, hw a (by simp), hw b (by simp), hw c (by simp), hw d (by simp), hw e (by simp), hw f (by simp)⟩
set_option maxRecDepth 100000 in
theorem open_span {H : Type} {enc : TypeId × Value → H} {w : World} {base b0 : Nat} {sp : Nat → Bool} {held : Bool} {r : Reach} {v : Value} {d : DataW H} {p : List MemPlace}
    (hv : Value.okWide Tryz.prog w r b0 33 v) (h : DataW.Trod enc Tryz.prog w base sp held 33 v d p) : ∃ s : Sp, v = spv s ∧ intIn s.lo ∧ intIn s.hi := by
  obtain ⟨l, rfl, hl, hw⟩ := open_whole Tryz.underlying33 Tryz.underlying3 (by kernel_rfl) (by kernel_rfl) (by kernel_rfl) hv h
  have hl2 : l.length = 2 := hl
  clear hl
  match l, hl2 with
  | [a, b], _ => exact ⟨⟨a, b⟩, rfl, hw a (by simp), hw b (by simp)⟩
end Go.Proofs.YthifeoebefbalaaGreatDoor

namespace Go.Proofs.YthifeoebefbalaaGreatDoor
open Go.ChangeShapes Go.WideShapes Go.ChangeAt Go.RowKit

theorem and2 {a b : Bool} (ha : a = true) (hb : b = true) : (a && b) = true := by rw [ha, hb]; rfl
theorem s_laidOut : laidOutB Tryz.pinned.checked.prog = true := by kernel_rfl
theorem s_mapsRowed : mapsRowed Tryz.pinned.checked.prog = true := by kernel_rfl
theorem s_stops : (Tryz.pinned.checked.prog.stops == []) = true := by kernel_rfl
theorem s_knobs : (Tryz.pinned.checked.prog.stopKnobs == []) = true := by kernel_rfl
theorem s_heard : Tryz.pinned.checked.prog.stopsHeard = true := by kernel_rfl
theorem s_may : Tryz.pinned.checked.prog.mayEnter = true := by kernel_rfl
theorem s_looks : true = Tryz.pinned.checked.prog.looks [] := by kernel_rfl
end Go.Proofs.YthifeoebefbalaaGreatDoor
