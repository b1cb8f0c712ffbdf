/- Parts: Z8, Z9. -/
import Derived.Test.YthifeoebefbalaaGreatDoorCR7
import Derived.Test.YthifeoebefbalaaGreatDoorCR1
import Derived.Laws.Runes
import Derived.Outline
import Derived.WalkMore
import Derived.Test.YthifeoebefbalaaGreatDoorCR3
import Derived.Lib.IndexAny
import Derived.Shelf.Strings.IndexAnyAll
import Derived.Test.YthifeoebefbalaaGreatDoorCR5
import Derived.IntWalk
import Derived.Maps.OwnSet
import Derived.StringKeys
import Derived.Test.YthifeoebefbalaaGreatDoorCR6
import Derived.Maps.OwnOps
import Derived.Test.YthifeoebefbalaaGreatDoorCR2
import Derived.Test.YthifeoebefbalaaGreatDoorCR4
set_option linter.unusedVariables false
set_option linter.unusedSimpArgs false
set_option linter.unnecessarySimpa false
namespace Go.Proofs.YthifeoebefbalaaGreatDoor
open Go.RowKit

def pc : List UInt8 := [46, 44]
theorem c215_low (r : Int) (h0 : 0 ≤ r) (h1 : r < 128) (w : World) : Calls Tryz.prog 215 #[.string ⟨#[46, 44]⟩, .int .i32 r] w fun e w' => e = .returned (.int .i64 (Lib.indexByte pc r.toNat.toUInt8)) ∧ w = w' :=
  (Tryz.strings_IndexRune_ascii ⟨#[46, 44]⟩ r w h0 h1).mono fun _ _ h => ⟨h.1, h.2.symm⟩
set_option maxRecDepth 100000 in
set_option maxHeartbeats 4000000 in
theorem c215_bad (w : World) : Calls Tryz.prog 215 #[.string ⟨#[46, 44]⟩, .int .i32 65533] w fun e w' => e = .returned (.int .i64 (-1)) ∧ Below w.heap.size w w' := by
  go_enter Tryz.func215, Tryz.ntmps215
  go_wp2
  have hk0 : (w.iter ⟨#[46, 44]⟩ 0).heap[w.heap.size]? = some (.stringIter ⟨#[46, 44]⟩ 0) := World.iter_heap w _ 0
  have HK0 := Lib.hid hk0
  clear hk0
  go_loopw [5] (fun _ wr => ∃ p : Nat, p ≤ 2 ∧ Hid (wr.heap[w.heap.size]? = some (.stringIter ⟨#[46, 44]⟩ p)) ∧ Below w.heap.size w wr) (fun _ wr => 2 - wr.iterPos w.heap.size)
  case atStart => exact ⟨0, by omega, HK0, below_alloc w _⟩
  case round =>
    obtain ⟨p, hp, hK, hb⟩ := hrel
    clear HK0
    have hmu : wr.iterPos w.heap.size = p := by simp [World.iterPos, hK.out]
    have HMU := Lib.hid hmu
    clear hmu
    by_cases hlt : p < 2
    · have h128 : ((⟨#[46, 44]⟩ : ByteArray)[p]'hlt).toNat < 128 := by
        have : p = 0 ∨ p = 1 := by omega
        rcases this with rfl | rfl
        · show (46 : UInt8).toNat < 128; decide
        · show (44 : UInt8).toNat < 128; decide
      have hne : (((⟨#[46, 44]⟩ : ByteArray)[p]'hlt).toNat : Int) ≠ 65533 := by omega
      have hnext : ∀ ty, (Instr.next (.pointer (some ⟨w.heap.size, 0, none⟩)) true ty).run Tryz.prog wr = _ := fun ty => Lib.run_next_ascii_at wr w.heap.size ⟨#[46, 44]⟩ p ty hK.out hlt h128
      have hK2 := Lib.iterAt_heap wr w.heap.size ⟨#[46, 44]⟩ p (p + 1) hK.out
      have hb2 : Below w.heap.size w (wr.iterAt w.heap.size ⟨#[46, 44]⟩ (p + 1)) := Lib.below_iterAt hb (Nat.le_refl _) _ _
      generalize wr.iterAt w.heap.size ⟨#[46, 44]⟩ (p + 1) = V at *
      generalize ((⟨#[46, 44]⟩ : ByteArray)[p]'hlt).toNat = cc at *
      have hm2 : V.iterPos w.heap.size = p + 1 := by simp [World.iterPos, hK2]
      have HM2 := Lib.hid hm2
      have HK2 := Lib.hid hK2
      clear hm2 hK2
      have hne' : ((cc : Int) == 65533) = false := by simpa using hne
      go_wp2
      go_roundw
      case rel => exact ⟨p + 1, by omega, HK2, hb2⟩
      case measure => rw [HMU.out, HM2.out]; omega
    · have hnext : ∀ ty, (Instr.next (.pointer (some ⟨w.heap.size, 0, none⟩)) true ty).run Tryz.prog wr = _ := fun ty => Lib.run_next_end_at wr w.heap.size ⟨#[46, 44]⟩ p ty hK.out hlt
      go_wp2
      go_ret
      exact ⟨rfl, hb⟩
end Go.Proofs.YthifeoebefbalaaGreatDoor

namespace Go.Proofs.YthifeoebefbalaaGreatDoor
open Go.RowKit

set_option maxRecDepth 100000 in
set_option maxHeartbeats 4000000 in
theorem c215_big (r : Int) (h0 : 128 ≤ r) (hne : r ≠ 65533) (hv : Lib.validRune r = true) (w : World) : Calls Tryz.prog 215 #[.string ⟨#[46, 44]⟩, .int .i32 r] w fun e w' => e = .returned (.int .i64 (-1)) ∧ Below w.heap.size w w' := by
  have hu : Utf8.valid r = true := by
    simp only [Lib.validRune, Bool.or_eq_true, Bool.and_eq_true, decide_eq_true_eq] at hv
    simp only [Utf8.valid, Bool.or_eq_true, Bool.and_eq_true, decide_eq_true_eq]
    omega
  obtain ⟨e1, e2, e3⟩ := encode_facts r hu h0
  have hconv := fun W => run_convert_int_string (P := Tryz.prog) W 21 9 .i32 r (by rw [Tryz.underlying21]; rfl) Tryz.underlying9
  generalize Utf8.encode r = rs at *
  have HV := Lib.hid hv
  have hne' : (r == 65533) = false := by simpa using hne
  clear hv hne hu
  by_cases h2 : rs.size = 2
  · have hb : 128 ≤ (rs[1]'(by omega)).toNat := by
      have := e3 (by omega)
      simpa [h2] using this
    clear e1 e2 e3
    have hlt : 1 < rs.size := by omega
    have hz : ((((⟨#[46, 44]⟩ : ByteArray)[1]'(by decide)).toNat : Int) != ((rs[1]'hlt).toNat : Int)) = true := by
      rw [bne_iff_ne, show ((⟨#[46, 44]⟩ : ByteArray)[1]'(by decide)).toNat = 44 from rfl]; omega
    go_enter Tryz.func215, Tryz.ntmps215
    go_wp2_with (go_at_call 244; refine (Tryz.utf8_ValidRune r w).mono ?_; rintro e w1 ⟨rfl, rfl⟩; rw [HV.out])
    go_step3
    go_wp2
    refine wp_loop_rounds 1 ?_
    rw [rounds_succ]
    go_wp2
    go_step3
    go_wp2
    go_quiet (fail)
    go_wp2_with fail
    have hw2 : IntKind.i64.wrap 2 = 2 := by rfl
    refine wp_region_gwn w1 (by kernel_rfl) (by kernel_rfl) (below_drewN (xr _) _) ?_
    go_big_quiet_step (fail)
    go_big_quiet_step (fail)
    go_big_quiet_step (fail)
    refine wpQuiet_step (fun K hK => ?_)
    go_simp
    refine hK _ ?_
    clear hK K
    repeat (go_big_quiet_step ((go_at_call 243; exact gw_same ((Tryz.strings_IndexByte _ _ _).mono fun _ _ h => ⟨h.1, h.2.symm⟩))))
    refine wpQuiet_nil ?_
    rintro _ ⟨x1, rfl⟩
    have hi : ∀ c, Lib.indexByte ByteArray.empty.data.toList c = -1 := fun c => rfl
    go_wp2_with fail
    rw [Exit.noGoto_ret]
    simp only [Exit.inBlock, Exit.then]
    rw [Exit.noGoto_ret]
    go_ret
    exact ⟨rfl, gw_below _ _⟩
  · have h3 : 3 ≤ rs.size := by omega
    have h4 : decide ((rs.size : Int) - 1 < 2) = false := by rw [decide_eq_false_iff_not]; omega
    clear h2 e1 e3
    go_enter Tryz.func215, Tryz.ntmps215
    go_wp2_with (go_at_call 244; refine (Tryz.utf8_ValidRune r w).mono ?_; rintro e w1 ⟨rfl, rfl⟩; rw [HV.out])
    go_step3
    go_wp2
    refine wp_loop_rounds 1 ?_
    rw [rounds_succ]
    go_wp2
    rw [Exit.noGoto_ret]
    go_ret
    exact ⟨rfl, xr _⟩
end Go.Proofs.YthifeoebefbalaaGreatDoor

namespace Go.Proofs.YthifeoebefbalaaGreatDoor
open Go.RowKit

set_option maxRecDepth 100000 in
set_option maxHeartbeats 4000000 in
theorem c215_inv (r : Int) (h0 : 128 ≤ r) (hne : r ≠ 65533) (hv : Lib.validRune r = false) (w : World) : Calls Tryz.prog 215 #[.string ⟨#[46, 44]⟩, .int .i32 r] w fun e w' => e = .returned (.int .i64 (-1)) ∧ Below w.heap.size w w' := by
  have HV := Lib.hid hv
  have hne' : (r == 65533) = false := by simpa using hne
  clear hv hne
  go_enter Tryz.func215, Tryz.ntmps215
  go_wp2_with (go_at_call 244; refine (Tryz.utf8_ValidRune r w).mono ?_; rintro e w1 ⟨rfl, rfl⟩; rw [HV.out])
  go_ret
  exact ⟨rfl, xr _⟩
/-- A rune among the two signs. -/
def pcR (r : Nat) : Bool := decide (r = 46) || decide (r = 44)
theorem pc_contains (c : UInt8) : pc.contains c = pcR c.toNat := by
  unfold pc pcR
  rw [Bool.eq_iff_iff]
  simp [← UInt8.toNat_inj]
theorem c215_no (r : Nat) (h : pcR r = false) (w : World) : Calls Tryz.prog 215 #[.string ⟨#[46, 44]⟩, .int .i32 r] w fun e w' => (∃ v : Int, v < 0 ∧ e = .returned (.int .i64 v)) ∧ Below w.heap.size w w' := by
  by_cases h1 : r < 128
  · refine (c215_low r (by omega) (by omega) w).mono fun e w' ⟨h2, h3⟩ => ⟨⟨_, ?_, h2⟩, h3 ▸ xr _⟩
    have hcon := Lib.contains_iff_indexByte pc ((r : Int).toNat.toUInt8)
    rw [pc_contains, show ((r : Int).toNat.toUInt8).toNat = r by simp; omega, h] at hcon
    have := of_decide_eq_false hcon.symm
    omega
  · by_cases h2 : r = 65533
    · subst h2
      exact (c215_bad w).mono fun e w' ⟨h3, h4⟩ => ⟨⟨_, by omega, h3⟩, h4⟩
    · cases hv : Lib.validRune (r : Int) with
      | true => exact (c215_big r (by omega) (by omega) hv w).mono fun e w' ⟨h3, h4⟩ => ⟨⟨_, by omega, h3⟩, h4⟩
      | false => exact (c215_inv r (by omega) (by omega) hv w).mono fun e w' ⟨h3, h4⟩ => ⟨⟨_, by omega, h3⟩, h4⟩
theorem c215_yes (r : Nat) (h : pcR r = true) (w : World) : Calls Tryz.prog 215 #[.string ⟨#[46, 44]⟩, .int .i32 r] w fun e w' => (∃ v : Int, 0 ≤ v ∧ e = .returned (.int .i64 v)) ∧ w = w' := by
  have h1 : r < 128 := by simp [pcR] at h; omega
  refine (c215_low r (by omega) (by omega) w).mono fun e w' ⟨h2, h3⟩ => ⟨⟨_, ?_, h2⟩, h3⟩
  have hcon := Lib.contains_iff_indexByte pc ((r : Int).toNat.toUInt8)
  rw [pc_contains, show ((r : Int).toNat.toUInt8).toNat = r by simp; omega, h] at hcon
  exact of_decide_eq_true hcon.symm

/-- One rune, and whether it is one of the two signs. -/
theorem rune_pc (l : List UInt8) (p : Nat) (h : p < l.length) (hn : Lib.NoAny l pc p) :
    1 ≤ (Utf8.decode ⟨l.toArray⟩ p).2 ∧ p + (Utf8.decode ⟨l.toArray⟩ p).2 ≤ l.length ∧
    (pcR (Utf8.decode ⟨l.toArray⟩ p).1 = true → Lib.indexAny l pc = p) ∧
    (pcR (Utf8.decode ⟨l.toArray⟩ p).1 = false → Lib.NoAny l pc (p + (Utf8.decode ⟨l.toArray⟩ p).2)) := by
  have hd := Lib.decode_at ⟨l.toArray⟩ p
  have hsz : (ByteArray.mk l.toArray).size = l.length := by simp [ByteArray.size]
  have hD := decN ((ByteArray.mk l.toArray).size - p) ((ByteArray.mk l.toArray).get! p).toNat ((ByteArray.mk l.toArray).get! (p + 1)).toNat ((ByteArray.mk l.toArray).get! (p + 2)).toNat ((ByteArray.mk l.toArray).get! (p + 3)).toNat (by omega)
  rw [← hd, hsz] at hD
  have g1 : ∀ j, p + j < l.length → (ByteArray.mk l.toArray).get! (p + j) = l.getD (p + j) 0 := fun j hj => by
    rw [get_of_list l (p + j) hj]; simp [List.getD, hj]
  rw [show (ByteArray.mk l.toArray).get! p = l.getD p 0 from g1 0 (by omega)] at hD
  generalize Utf8.decode ⟨l.toArray⟩ p = rk at *
  obtain ⟨r, k⟩ := rk
  simp only at hD ⊢
  obtain ⟨d1, d2, d3, d4, d5⟩ := hD
  have hx : l[p]? = some (l.getD p 0) := by simp [List.getD, h]
  by_cases hb : (l.getD p 0).toNat < 128
  · have e := d4 hb
    simp only [Prod.mk.injEq] at e
    obtain ⟨rfl, rfl⟩ := e
    rw [← pc_contains]
    exact ⟨d1, by omega, fun hg => Lib.indexAny_hit hn hx hg, fun hg => hn.succ hx hg⟩
  · obtain ⟨e1, e2, e3, e4⟩ := d5 (by omega)
    refine ⟨d1, by omega, fun hg => ?_, fun _ => ?_⟩
    · simp [pcR] at hg; omega
    · intro j b hj hjb
      by_cases hjp : j < p
      · exact hn j b hjp hjb
      · have hbig : 128 ≤ b.toNat := by
          obtain ⟨i, rfl⟩ : ∃ i, j = p + i := ⟨j - p, by omega⟩
          have hlt : p + i < l.length := (List.getElem?_eq_some_iff.1 hjb).1
          have hv : l.getD (p + i) 0 = b := by simp [List.getD, hjb]
          match i with
          | 0 => rw [← hv]; simp only [Nat.add_zero]; omega
          | 1 => rw [← hv, ← g1 1 (by omega)]; exact e2 (by omega)
          | 2 => rw [← hv, ← g1 2 (by omega)]; exact e3 (by omega)
          | 3 => rw [← hv, ← g1 3 (by omega)]; exact e4 (by omega)
          | i + 4 => omega
        rw [pc_contains]
        simp [pcR]
        omega

set_option maxRecDepth 100000 in
set_option maxHeartbeats 4000000 in
theorem c237_short (l : List UInt8) (h8 : l.length ≤ 8) (w : World) : Calls Tryz.prog 237 #[.string ⟨l.toArray⟩, .string ⟨#[46, 44]⟩] w fun e w' => e = .returned (.int .i64 (Lib.indexAny l pc)) ∧ Below w.heap.size w w' := by
  have h8z : decide ((8 : Int) < (l.length : Int)) = false := decide_eq_false (by omega)
  go_enter Tryz.func237, Tryz.ntmps237
  go_wp2
  have hk0 : (w.iter ⟨l.toArray⟩ 0).heap[w.heap.size]? = some (.stringIter ⟨l.toArray⟩ 0) := World.iter_heap w _ 0
  have HK0 := Lib.hid hk0
  clear hk0
  go_loopw [9, 10] (fun _ _ wr => ∃ p : Nat, p ≤ l.length ∧ Hid (Lib.NoAny l pc p) ∧ Hid (wr.heap[w.heap.size]? = some (.stringIter ⟨l.toArray⟩ p)) ∧ Below w.heap.size w wr) (fun _ _ wr => l.length - wr.iterPos w.heap.size)
  case atStart => exact ⟨0, by omega, Lib.hid (Lib.NoAny.zero _ _), HK0, below_alloc w _⟩
  case round =>
    obtain ⟨p, hp, hN, hK, hb⟩ := hrel
    clear HK0
    have hmu : wr.iterPos w.heap.size = p := by simp [World.iterPos, hK.out]
    have HMU := Lib.hid hmu
    clear hmu
    by_cases hlt : p < l.length
    · obtain ⟨k1, k2, k3, k4⟩ := rune_pc l p hlt hN.out
      have hnext : ∀ ty, (Instr.next (.pointer (some ⟨w.heap.size, 0, none⟩)) true ty).run Tryz.prog wr = _ := fun ty => Lib.run_next_any_at wr w.heap.size ⟨l.toArray⟩ p ty hK.out (by simpa [ByteArray.size] using hlt)
      have hK2 := Lib.iterAt_heap wr w.heap.size ⟨l.toArray⟩ p (p + (Utf8.decode ⟨l.toArray⟩ p).2) hK.out
      have hb2 : Below w.heap.size w (wr.iterAt w.heap.size ⟨l.toArray⟩ (p + (Utf8.decode ⟨l.toArray⟩ p).2)) := Lib.below_iterAt hb (Nat.le_refl _) _ _
      generalize wr.iterAt w.heap.size ⟨l.toArray⟩ (p + (Utf8.decode ⟨l.toArray⟩ p).2) = V at *
      generalize Utf8.decode ⟨l.toArray⟩ p = rk at *
      obtain ⟨r, k⟩ := rk
      simp only at k1 k2 k3 k4 hnext hK2
      have hm2 : V.iterPos w.heap.size = p + k := by simp [World.iterPos, hK2]
      have HM2 := Lib.hid hm2
      have HK2 := Lib.hid hK2
      clear hm2 hK2
      cases hg : pcR r with
      | true =>
        have K3 := Lib.hid (k3 hg)
        have HG := Lib.hid hg
        clear k3 k4 hg
        go_wp2_with (go_at_call 215; refine (c215_yes r HG.out _).mono ?_; rintro e w1 ⟨⟨v, hv, rfl⟩, rfl⟩)
        go_ret
        exact ⟨ret_int K3.out.symm, hb2⟩
      | false =>
        have K4 := Lib.hid (k4 hg)
        have HG := Lib.hid hg
        clear k3 k4 hg
        go_wp2_with (go_at_call 215; refine (c215_no r HG.out _).mono ?_; rintro e w1 ⟨⟨v, hv, rfl⟩, hb1⟩; have hge : decide ((0 : Int) ≤ v) = false := decide_eq_false (by omega); have hK3 := Lib.hid ((hb1.block _ (Array.getElem?_eq_some_iff.1 HK2.out).1).trans HK2.out))
        go_roundw
        case rel => exact ⟨_, _, _, _, _, _, _, _, _, _, _, _, ⟨p + k, k2, K4, hK3, hb2.trans (hb1.mono hb2.size)⟩, rfl⟩
        case measure =>
          have e3 : w1.iterPos w.heap.size = p + k := by simp [World.iterPos, hK3.out]
          rw [HMU.out, e3]; omega
    · have hnext : ∀ ty, (Instr.next (.pointer (some ⟨w.heap.size, 0, none⟩)) true ty).run Tryz.prog wr = _ := fun ty => Lib.run_next_end_at wr w.heap.size ⟨l.toArray⟩ p ty hK.out (by simpa [ByteArray.size] using hlt)
      obtain rfl : p = l.length := by omega
      go_wp2
      go_ret
      exact ⟨ret_int (Lib.indexAny_none hN.out).symm, hb⟩
end Go.Proofs.YthifeoebefbalaaGreatDoor

namespace Go.Proofs.YthifeoebefbalaaGreatDoor
open Go.RowKit

theorem c237 (l : List UInt8) (hl : l.length ≤ 200) (w : World) : Calls Tryz.prog 237 #[.string ⟨l.toArray⟩, .string ⟨#[46, 44]⟩] w fun e w' => e = .returned (.int .i64 (Lib.indexAny l pc)) ∧ Below w.heap.size w w' := by
  by_cases h8 : l.length ≤ 8
  · exact c237_short l h8 w
  · have h116 : (Tryz.prog.info? 160).map (fun i => (i.zero, i.size)) = some (some (.agg (Array.replicate 256 (.bool false))), 256) := by kernel_rfl
    refine (Any.strings_IndexAny_long Tryz.lays153 (zero_of_info h116).1 (zero_of_info h116).2 ⟨l.toArray⟩ ⟨#[46, 44]⟩ w (by decide) (by simp [ByteArray.size]; omega) (by simp [ByteArray.size]; omega) (by decide) ?_).mono ?_
    · intro j b hb
      match j with
      | 0 => simp at hb; subst hb; decide
      | 1 => simp at hb; subst hb; decide
      | j + 2 => simp at hb
    · rintro e w' ⟨h1, rfl⟩
      exact ⟨h1, xa (xa (xr _) _) _⟩
end Go.Proofs.YthifeoebefbalaaGreatDoor

namespace Go.Proofs.YthifeoebefbalaaGreatDoor
open Go.RowKit

/-- A decimal's value and fineness, of what stands ahead of the sign and behind it. -/
def hun2 (wh pt : List UInt8) : Option (Int × Int) :=
  match (if wh.isEmpty = true then some 0 else (numO wh).map (100 * ·)) with
  | none => none
  | some n => if pt.length = 1 then (numO pt).map fun p => (n + 10 * p, 10) else if pt.length = 2 then (numO pt).map fun p => (n + p, 1) else none
def hunO (l : List UInt8) : Option (Int × Int) :=
  if Lib.indexAny l pc < 0 then (numO l).map fun v => (100 * v, 100) else hun2 (l.take (Lib.indexAny l pc).toNat) (l.drop ((Lib.indexAny l pc).toNat + 1))
def hEnd : Option (Int × Int) → Ending → Prop
  | some x => fun e => e = .returned (.tuple #[.int .i64 x.1, .int .i64 x.2])
  | none => fun e => e = .panicked [unread]

set_option maxHeartbeats 1000000 in
theorem c202_no (l : List UInt8) (hl : l.length ≤ 200) (hi : Lib.indexAny l pc < 0) (w : World) : Calls Tryz.prog 202 #[.string ⟨l.toArray⟩] w fun e w' => hEnd (hunO l) e ∧ Below w.heap.size w w' := by
  rw [hunO, if_pos hi]
  have hge : decide (Lib.indexAny l pc < 0) = true := decide_eq_true hi
  cases hv : numO l with
  | some v =>
    have hb := numO_bd hv
    have HV := Lib.hid hv
    clear hv
    simp only [Option.map_some, hEnd]
    go_enter Tryz.func202, Tryz.ntmps202
    go_wp2_with (first
      | (go_at_call 192; refine (c192o l hl _).mono ?_; rw [HV.out]; rintro e w3 ⟨he, hb3⟩; obtain rfl : e = .returned (.int .i64 v) := he; obtain ⟨x3, rfl⟩ := gw_step hb3)
      | (go_at_call 237; refine (c237 l hl _).mono ?_; rintro e w1 ⟨rfl, hb1⟩; obtain ⟨x1, rfl⟩ := of_below hb1))
    go_ret2
    exact ⟨rfl, by repeat (first | exact xr _ | apply xg)⟩
  | none =>
    have HV := Lib.hid hv
    clear hv
    simp only [Option.map_none, hEnd]
    go_enter Tryz.func202, Tryz.ntmps202
    go_wp2_with (first
      | (go_at_call 192; refine (c192o l hl _).mono ?_; rw [HV.out]; rintro e w3 ⟨he, hb3⟩; obtain rfl : e = .panicked [unread] := he; obtain ⟨x3, rfl⟩ := gw_step hb3)
      | (go_at_call 237; refine (c237 l hl _).mono ?_; rintro e w1 ⟨rfl, hb1⟩; obtain ⟨x1, rfl⟩ := of_below hb1))
    exact ⟨rfl, rfl, by repeat (first | exact xr _ | apply xg)⟩

set_option maxRecDepth 100000 in
set_option maxHeartbeats 4000000 in
theorem c202_at (l : List UInt8) (hl : l.length ≤ 200) (n : Nat) (hn : n < l.length) (hi : Lib.indexAny l pc = n) (w : World) : Calls Tryz.prog 202 #[.string ⟨l.toArray⟩] w fun e w' => hEnd (hunO l) e ∧ Below w.heap.size w w' := by
  rw [hunO, if_neg (by omega), hi, Int.toNat_natCast]
  obtain ⟨o, ho⟩ : ∃ o, hun2 (l.take n) (l.drop (n + 1)) = o := ⟨_, rfl⟩
  rw [ho]
  have HO := Lib.hid ho
  clear ho
  have hlw : (l.take n).length ≤ 200 := by simp; omega
  have hlp : (l.drop (n + 1)).length ≤ 200 := by simp; omega
  have HI := Lib.hid hi
  clear hi
  go_enter Tryz.func202, Tryz.ntmps202
  go_wp2_with (go_at_call 237; refine (c237 l hl _).mono ?_; rw [HI.out]; rintro e w1 ⟨rfl, hb1⟩)
  have hw1 : IntKind.i64.wrap ((n : Int) + 1) = (n : Int) + 1 := IntWalk.i64_in _ (by omega)
  refine wp_region_gwn w (by kernel_rfl) (by kernel_rfl) hb1 ?_
  repeat (first | go_big_quiet_step (fail) | (refine wpQuiet_step (fun K hK => ?_); go_simp; (refine hK _ ?_); clear hK K))
  refine wpQuiet_nil ?_
  rintro _ ⟨x2, rfl⟩
  have etd : List.take (l.length - (n + 1)) (List.drop (n + 1) l) = List.drop (n + 1) l := List.take_of_length_le (by simp)
  try rw [etd]
  clear etd hw1 HI hb1 w1
  generalize List.take n l = wh at *
  generalize List.drop (n + 1) l = pt at *
  have hW : (wh.isEmpty = true) ∨ (wh.isEmpty = false ∧ ∃ v, numO wh = some v) ∨ (wh.isEmpty = false ∧ numO wh = none) := by
    cases wh.isEmpty <;> cases h : numO wh <;> simp
  have hP : (((pt.length : Int) == 1) = true ∧ ∃ v, numO pt = some v) ∨ (((pt.length : Int) == 1) = true ∧ numO pt = none) ∨ (((pt.length : Int) == 1) = false ∧ ((pt.length : Int) == 2) = true ∧ ∃ v, numO pt = some v) ∨
      (((pt.length : Int) == 1) = false ∧ ((pt.length : Int) == 2) = true ∧ numO pt = none) ∨ (((pt.length : Int) == 1) = false ∧ ((pt.length : Int) == 2) = false) := by
    cases (pt.length : Int) == 1 <;> cases (pt.length : Int) == 2 <;> cases h : numO pt <;> simp
  have ep1 : (pt.length = 1) = (((pt.length : Int) == 1) = true) := by rw [beq_iff_eq, eq_iff_iff]; omega
  have ep2 : (pt.length = 2) = (((pt.length : Int) == 2) = true) := by rw [beq_iff_eq, eq_iff_iff]; omega
  have E1 := Lib.hid ep1
  have E2 := Lib.hid ep2
  clear ep1 ep2
  rcases hW with hw | ⟨hw, v, hv⟩ | ⟨hw, hv⟩
  · clear hlw
    rcases hP with ⟨hp, u, hu⟩ | ⟨hp, hu⟩ | ⟨hp, hq, u, hu⟩ | ⟨hp, hq, hu⟩ | ⟨hp, hq⟩
    · have hub := numO_bd hu
      have HU := Lib.hid hu
      clear hu
      go_wp2_with (first | (go_at_call 192; (with_reducible refine (c192o pt hlp _).mono ?_); rw [HU.out]; rintro e w3 ⟨he, hb3⟩; obtain rfl : e = .returned (.int .i64 u) := he; obtain ⟨x3, rfl⟩ := gw_step hb3))
      go_ret2
      refine ⟨?_, by repeat (first | exact xr _ | apply xg)⟩
      rw [← HO.out, hun2]
      simp [E1.out, E2.out, hw, hp, HU.out, hEnd]
    · have HU := Lib.hid hu
      clear hu
      go_wp2_with (first | (go_at_call 192; (with_reducible refine (c192o pt hlp _).mono ?_); rw [HU.out]; rintro e w3 ⟨he, hb3⟩; obtain rfl : e = .panicked [unread] := he; obtain ⟨x3, rfl⟩ := gw_step hb3))
      refine ⟨rfl, ?_, by repeat (first | exact xr _ | apply xg)⟩
      rw [← HO.out, hun2]
      simp [E1.out, E2.out, hw, hp, HU.out, hEnd]
    · have hub := numO_bd hu
      have HU := Lib.hid hu
      clear hu
      go_wp2_with (first | (go_at_call 192; (with_reducible refine (c192o pt hlp _).mono ?_); rw [HU.out]; rintro e w3 ⟨he, hb3⟩; obtain rfl : e = .returned (.int .i64 u) := he; obtain ⟨x3, rfl⟩ := gw_step hb3))
      go_ret2
      refine ⟨?_, by repeat (first | exact xr _ | apply xg)⟩
      rw [← HO.out, hun2]
      simp [E1.out, E2.out, hw, hp, hq, HU.out, hEnd]
    · have HU := Lib.hid hu
      clear hu
      go_wp2_with (first | (go_at_call 192; (with_reducible refine (c192o pt hlp _).mono ?_); rw [HU.out]; rintro e w3 ⟨he, hb3⟩; obtain rfl : e = .panicked [unread] := he; obtain ⟨x3, rfl⟩ := gw_step hb3))
      refine ⟨rfl, ?_, by repeat (first | exact xr _ | apply xg)⟩
      rw [← HO.out, hun2]
      simp [E1.out, E2.out, hw, hp, hq, HU.out, hEnd]
    · go_wp2
      refine ⟨rfl, ?_, by repeat (first | exact xr _ | apply xg)⟩
      rw [← HO.out, hun2]
      simp [E1.out, E2.out, hw, hp, hq, hEnd]
      rfl
  · have hvb := numO_bd hv
    have HV := Lib.hid hv
    clear hv
    rcases hP with ⟨hp, u, hu⟩ | ⟨hp, hu⟩ | ⟨hp, hq, u, hu⟩ | ⟨hp, hq, hu⟩ | ⟨hp, hq⟩
    · have hub := numO_bd hu
      have HU := Lib.hid hu
      clear hu
      go_wp2_with (first | (go_at_call 192; (with_reducible refine (c192o pt hlp _).mono ?_); rw [HU.out]; rintro e w3 ⟨he, hb3⟩; obtain rfl : e = .returned (.int .i64 u) := he; obtain ⟨x3, rfl⟩ := gw_step hb3) | (go_at_call 192; (with_reducible refine (c192o wh hlw _).mono ?_); rw [HV.out]; rintro e w4 ⟨he, hb4⟩; obtain rfl : e = .returned (.int .i64 v) := he; obtain ⟨x4, rfl⟩ := gw_step hb4))
      go_ret2
      refine ⟨?_, by repeat (first | exact xr _ | apply xg)⟩
      rw [← HO.out, hun2]
      simp [E1.out, E2.out, hw, hp, HV.out, HU.out, hEnd]
    · have HU := Lib.hid hu
      clear hu
      go_wp2_with (first | (go_at_call 192; (with_reducible refine (c192o pt hlp _).mono ?_); rw [HU.out]; rintro e w3 ⟨he, hb3⟩; obtain rfl : e = .panicked [unread] := he; obtain ⟨x3, rfl⟩ := gw_step hb3) | (go_at_call 192; (with_reducible refine (c192o wh hlw _).mono ?_); rw [HV.out]; rintro e w4 ⟨he, hb4⟩; obtain rfl : e = .returned (.int .i64 v) := he; obtain ⟨x4, rfl⟩ := gw_step hb4))
      refine ⟨rfl, ?_, by repeat (first | exact xr _ | apply xg)⟩
      rw [← HO.out, hun2]
      simp [E1.out, E2.out, hw, hp, HV.out, HU.out, hEnd]
    · have hub := numO_bd hu
      have HU := Lib.hid hu
      clear hu
      go_wp2_with (first | (go_at_call 192; (with_reducible refine (c192o pt hlp _).mono ?_); rw [HU.out]; rintro e w3 ⟨he, hb3⟩; obtain rfl : e = .returned (.int .i64 u) := he; obtain ⟨x3, rfl⟩ := gw_step hb3) | (go_at_call 192; (with_reducible refine (c192o wh hlw _).mono ?_); rw [HV.out]; rintro e w4 ⟨he, hb4⟩; obtain rfl : e = .returned (.int .i64 v) := he; obtain ⟨x4, rfl⟩ := gw_step hb4))
      go_ret2
      refine ⟨?_, by repeat (first | exact xr _ | apply xg)⟩
      rw [← HO.out, hun2]
      simp [E1.out, E2.out, hw, hp, hq, HV.out, HU.out, hEnd]
    · have HU := Lib.hid hu
      clear hu
      go_wp2_with (first | (go_at_call 192; (with_reducible refine (c192o pt hlp _).mono ?_); rw [HU.out]; rintro e w3 ⟨he, hb3⟩; obtain rfl : e = .panicked [unread] := he; obtain ⟨x3, rfl⟩ := gw_step hb3) | (go_at_call 192; (with_reducible refine (c192o wh hlw _).mono ?_); rw [HV.out]; rintro e w4 ⟨he, hb4⟩; obtain rfl : e = .returned (.int .i64 v) := he; obtain ⟨x4, rfl⟩ := gw_step hb4))
      refine ⟨rfl, ?_, by repeat (first | exact xr _ | apply xg)⟩
      rw [← HO.out, hun2]
      simp [E1.out, E2.out, hw, hp, hq, HV.out, HU.out, hEnd]
    · go_wp2_with (first | (go_at_call 192; (with_reducible refine (c192o wh hlw _).mono ?_); rw [HV.out]; rintro e w4 ⟨he, hb4⟩; obtain rfl : e = .returned (.int .i64 v) := he; obtain ⟨x4, rfl⟩ := gw_step hb4))
      refine ⟨rfl, ?_, by repeat (first | exact xr _ | apply xg)⟩
      rw [← HO.out, hun2]
      simp [E1.out, E2.out, hw, hp, hq, HV.out, hEnd]
      rfl
  · have HV := Lib.hid hv
    clear hv hP
    go_wp2_with (go_at_call 192; refine (c192o wh hlw _).mono ?_; rw [HV.out]; rintro e w4 ⟨he, hb4⟩; obtain rfl : e = .panicked [unread] := he; obtain ⟨x4, rfl⟩ := gw_step hb4)
    refine ⟨rfl, ?_, by repeat (first | exact xr _ | apply xg)⟩
    rw [← HO.out, hun2]
    simp [hw, HV.out, hEnd]
theorem indexAny_lt (chars : List UInt8) : ∀ l : List UInt8, Lib.indexAny l chars < l.length
  | [] => by simp [Lib.indexAny]
  | b :: l => by
    have := indexAny_lt chars l
    rw [Lib.indexAny]
    split
    · simp
    · split
      · simp; omega
      · simp only [List.length_cons]; omega
theorem c202 (l : List UInt8) (hl : l.length ≤ 200) (w : World) : Calls Tryz.prog 202 #[.string ⟨l.toArray⟩] w fun e w' => hEnd (hunO l) e ∧ Below w.heap.size w w' := by
  by_cases hi : Lib.indexAny l pc < 0
  · exact c202_no l hl hi w
  · have h := indexAny_lt pc l
    exact c202_at l hl (Lib.indexAny l pc).toNat (by omega) (by omega) w
end Go.Proofs.YthifeoebefbalaaGreatDoor

namespace Go.Proofs.YthifeoebefbalaaGreatDoor
open Go.RowKit Go.ChangeMaps Go.MapKept Go.Maps
open Go.WideElems (Fit rd rg pl rd_val elemAt)

def kindL : List (List UInt8 × Int) := [([45], 3), ([63], 4), ([109, 105, 115, 115], 4), ([109, 105, 115, 115, 105, 110, 103], 4), ([110, 105, 108], 3), ([110, 111, 110, 101], 3), ([116], 2), ([116, 114], 2), ([116, 114, 97, 99, 101], 2)]
def kindO (s : List UInt8) : Option Int := (kindL.find? fun p => p.1 == s).map (·.2)
def kindsD : DataW Unit := .map (kindL.map fun p => (.string p.1, .lit (.int .i64 p.2)))
theorem kindsD_has (s : List UInt8) : Maps.has kindsD (.string s) = (kindO s).isSome := by
  unfold kindsD kindO
  rw [has_eq, List.any_map]
  induction kindL with
  | nil => rfl
  | cons p l ih =>
    simp only [List.any_cons, List.find?_cons, Function.comp]
    rw [ih]
    cases h : p.1 == s <;> simp [Lit.sameKey, h]
theorem kindsD_at (s : List UInt8) (z : DataW Unit) : kindsD.atKey (.string s) z = match kindO s with | some k => .lit (.int .i64 k) | none => z := by
  unfold kindsD kindO DataW.atKey
  simp only
  induction kindL with
  | nil => rfl
  | cons p l ih =>
    simp only [List.map_cons, List.find?_cons]
    cases h : p.1 == s <;> simp [Lit.sameKey, h]
    simpa [Lit.sameKey] using ih
theorem law9 : Keyed Tryz.prog 9 := string_keyed Tryz.underlying9
noncomputable abbrev RK : Value → Option (DataW Unit × List MemPlace) := plainElem (H := Unit) Tryz.prog 3
theorem put_kind {w : World} {b n : Nat} {D : DataW Unit} (h : w.ownsMap Tryz.prog 9 RK b n D) (hn : n < 100) (s : List UInt8) (hs : s.length < 100) (k : Int) (hk : (Lit.int .i64 k).wf = true) :
    ∃ w', (Instr.mapUpdate 215 (.map (some b)) (.string ⟨s.toArray⟩) (.int .i64 k)).run Tryz.prog w = .ok () w' ∧ w'.ownsMap Tryz.prog 9 RK b (n + 1) (D.put (.string s) (.lit (.int .i64 k))) ∧ w.grownBy w' (some b) := by
  have hkey : keyOf Tryz.prog 9 (.string ⟨s.toArray⟩) = some (.string s) := Go.WideMaps.keyOf_string_mk Tryz.underlying9 (by simp [ByteArray.size]; unfold maxLen; omega)
  exact h.update law9 Tryz.underlying215 (by unfold maxLen; omega) hkey (plainElem_int Tryz.underlying3 hk)
set_option maxRecDepth 100000 in
set_option maxHeartbeats 4000000 in
theorem c201 (w : World) : Calls Tryz.prog 201 #[] w fun e w' => e = .returned (.map (some w.heap.size)) ∧ w'.ownsMap Tryz.prog 9 RK w.heap.size 9 kindsD ∧ Below w.heap.size w w' := by
  have hmm := @run_makeMap Tryz.prog
  have m0 := World.ownsMap_made w Tryz.prog 9 RK
  have g0 : w.grownBy (w.alloc (.map #[] 0)) (some w.heap.size) := Grown.by (below_alloc w _) _
  obtain ⟨w1, e1, m1, h1⟩ := put_kind m0 (by omega) [110, 105, 108] (by decide) 3 (by decide)
  have g1 := g0.trans h1
  clear m0 h1 g0
  obtain ⟨w2, e2, m2, h2⟩ := put_kind m1 (by omega) [110, 111, 110, 101] (by decide) 3 (by decide)
  have g2 := g1.trans h2
  clear m1 h2 g1
  obtain ⟨w3, e3, m3, h3⟩ := put_kind m2 (by omega) [45] (by decide) 3 (by decide)
  have g3 := g2.trans h3
  clear m2 h3 g2
  obtain ⟨w4, e4, m4, h4⟩ := put_kind m3 (by omega) [116, 114, 97, 99, 101] (by decide) 2 (by decide)
  have g4 := g3.trans h4
  clear m3 h4 g3
  obtain ⟨w5, e5, m5, h5⟩ := put_kind m4 (by omega) [116, 114] (by decide) 2 (by decide)
  have g5 := g4.trans h5
  clear m4 h5 g4
  obtain ⟨w6, e6, m6, h6⟩ := put_kind m5 (by omega) [116] (by decide) 2 (by decide)
  have g6 := g5.trans h6
  clear m5 h6 g5
  obtain ⟨w7, e7, m7, h7⟩ := put_kind m6 (by omega) [109, 105, 115, 115, 105, 110, 103] (by decide) 4 (by decide)
  have g7 := g6.trans h7
  clear m6 h7 g6
  obtain ⟨w8, e8, m8, h8⟩ := put_kind m7 (by omega) [109, 105, 115, 115] (by decide) 4 (by decide)
  have g8 := g7.trans h8
  clear m7 h8 g7
  obtain ⟨w9, e9, m9, h9⟩ := put_kind m8 (by omega) [63] (by decide) 4 (by decide)
  have g9 := g8.trans h9
  clear m8 h9 g8
  have hD : ((((((((((DataW.map [] : DataW Unit).put (.string [110, 105, 108]) (.lit (.int .i64 3))).put (.string [110, 111, 110, 101]) (.lit (.int .i64 3))).put (.string [45]) (.lit (.int .i64 3))).put (.string [116, 114, 97, 99, 101]) (.lit (.int .i64 2))).put (.string [116, 114]) (.lit (.int .i64 2))).put (.string [116]) (.lit (.int .i64 2))).put (.string [109, 105, 115, 115, 105, 110, 103]) (.lit (.int .i64 4))).put (.string [109, 105, 115, 115]) (.lit (.int .i64 4))).put (.string [63]) (.lit (.int .i64 4))) = kindsD := by rfl
  rw [hD] at m9
  have M9 := Lib.hid m9
  clear m9 hD
  go_enter Tryz.func201, Tryz.ntmps201
  go_wp2
  go_ret
  exact ⟨rfl, M9.out, ⟨g9.os, g9.tape, g9.output, g9.size, fun k hk => g9.block k hk (by simp; omega)⟩⟩
end Go.Proofs.YthifeoebefbalaaGreatDoor

namespace Go.Proofs.YthifeoebefbalaaGreatDoor
open Go.RowKit

/-- Where the reader of a card stands: its words, the card's variable in block B. -/
structure CSt (w X : World) (r B : Nat) (L : List (Nat × Obj)) (ws : List (List UInt8)) (last : Card) (nx : Bool) (c : Card) : Prop where
  rd : Reader X r ws last nx
  gr : w.grownBy X (some r)
  bl : X.heap[B]? = some (cellsOf c)
  rw : r < w.heap.size
  ge : w.heap.size ≤ B
  dl : ∀ p ∈ L, X.heap[p.1]? = some p.2 ∧ p.1 ≠ r ∧ p.1 ≠ B
theorem CSt.lt {w X : World} {r B : Nat} {L : List (Nat × Obj)} {ws : List (List UInt8)} {last : Card} {nx : Bool} {c : Card} (h : CSt w X r B L ws last nx c) : B < X.heap.size := (Array.getElem?_eq_some_iff.1 h.bl).1
theorem cellsOf_at {w : World} {b : Nat} {c : Card} (h : w.heap[b]? = some (cellsOf c)) :
    w.cell? ⟨b, 0, none⟩ = some (.int .i64 c.st) ∧ w.cell? ⟨b, 1, none⟩ = some (.int .i64 c.da) ∧ w.cell? ⟨b, 2, none⟩ = some (.int .i64 c.dy) ∧ w.cell? ⟨b, 3, none⟩ = some (.int .i64 c.ki) ∧ w.cell? ⟨b, 4, none⟩ = some (.int .i64 c.am) ∧ w.cell? ⟨b, 5, none⟩ = some (.int .i64 c.fi) ∧
      (∀ i, w.frozen? ⟨b, i, none⟩ = false) ∧ b < w.heap.size := by
  unfold cellsOf at h
  exact ⟨by simp [World.cell?, h], by simp [World.cell?, h], by simp [World.cell?, h], by simp [World.cell?, h], by simp [World.cell?, h], by simp [World.cell?, h], fun i => by simp [World.frozen?, h], (Array.getElem?_eq_some_iff.1 h).1⟩
theorem CSt.of {w X Y : World} {r B : Nat} {L : List (Nat × Obj)} {ws ws' : List (List UInt8)} {last : Card} {nx nx' : Bool} {c : Card} (h : CSt w X r B L ws last nx c) (hg : X.grownBy Y (some r)) (hr : Reader Y r ws' last nx') : CSt w Y r B L ws' last nx' c := by
  have h1 := h.rw
  have h2 := h.ge
  exact ⟨hr, h.gr.trans hg, (hg.block B h.lt (by simp; omega)).trans h.bl, h1, h2, fun p hp => by
    obtain ⟨h3, h4, h5⟩ := h.dl p hp
    exact ⟨(hg.block p.1 (Array.getElem?_eq_some_iff.1 h3).1 (by simp; omega)).trans h3, h4, h5⟩⟩
theorem CSt.grown {w X Y : World} {r B : Nat} {L : List (Nat × Obj)} {ws : List (List UInt8)} {last : Card} {nx : Bool} {c : Card} (h : CSt w X r B L ws last nx c) (hb : Below X.heap.size X Y) : CSt w Y r B L ws last nx c := h.of (Grown.by hb _) (h.rd.grown hb)
theorem CSt.word {w X : World} {r B : Nat} {L : List (Nat × Obj)} {y : List UInt8} {ws : List (List UInt8)} {last : Card} {nx : Bool} {c : Card} (h : CSt w X r B L (y :: ws) last nx c) (hl : ws.length ≤ 200) :
    Calls Tryz.prog 191 #[.pointer (some ⟨r, 0, none⟩)] X fun e X' => e = .returned (strv y) ∧ CSt w X' r B L ws last nx c :=
  (c191 r y ws last nx X h.rd hl).mono fun _ _ ⟨h1, h2, h3⟩ => ⟨h1, h.of h3 h2⟩
theorem CSt.noword {w X : World} {r B : Nat} {L : List (Nat × Obj)} {last : Card} {nx : Bool} {c : Card} (h : CSt w X r B L [] last nx c) : Calls Tryz.prog 191 #[.pointer (some ⟨r, 0, none⟩)] X fun e X' => e = .panicked [unread] ∧ CSt w X' r B L [] last nx c :=
  (c191_no r last nx X h.rd).mono fun _ _ ⟨h1, h2⟩ => ⟨h1, h2 ▸ h⟩
theorem CSt.at {w X : World} {r B : Nat} {L : List (Nat × Obj)} {ws : List (List UInt8)} {last : Card} {nx : Bool} {c : Card} (h : CSt w X r B L ws last nx c) (hl : ws.length ≤ 200) : Calls Tryz.prog 198 #[.pointer (some ⟨r, 0, none⟩)] X fun e X' => e = .returned (strv (ws.headD [])) ∧ X = X' := c198 r ws last nx X h.rd hl
theorem cells_set {X : World} {B : Nat} {cs : Array Value} {T : TypeId} {fr : Nat × Nat} (h : X.heap[B]? = some (.cells cs T fr)) (i : Nat) (v : Value) : (X.setCell ⟨B, i, none⟩ v).heap[B]? = some (.cells (cs.setIfInBounds i v) T fr) := by
  obtain ⟨hlt, hk⟩ := Array.getElem?_eq_some_iff.1 h
  show (X.heap.modify B _)[B]? = _
  rw [Array.getElem?_eq_getElem (by rw [Array.size_modify]; exact hlt), Array.getElem_modify_self, hk]
  simp
theorem CSt.set_st {w X : World} {r B : Nat} {L : List (Nat × Obj)} {ws : List (List UInt8)} {last : Card} {nx : Bool} {c : Card} (h : CSt w X r B L ws last nx c) (v : Int) : CSt w (X.setCell ⟨B, 0, none⟩ (.int .i64 v)) r B L ws last nx { c with st := v } := by
  have h1 := h.rw
  have h2 := h.ge
  have hc := (cellsOf_at h.bl).1
  exact ⟨h.rd.set_int hc (by omega) _, grownBy_new h.gr h2 _, by rw [cells_set h.bl 0 _]; simp [cellsOf], h1, h2, fun p hp => by
    obtain ⟨h3, h4, h5⟩ := h.dl p hp
    exact ⟨(Below.heap_setCell X ⟨B, 0, none⟩ _ p.1 h5).trans h3, h4, h5⟩⟩
theorem CSt.set_da {w X : World} {r B : Nat} {L : List (Nat × Obj)} {ws : List (List UInt8)} {last : Card} {nx : Bool} {c : Card} (h : CSt w X r B L ws last nx c) (v : Int) : CSt w (X.setCell ⟨B, 1, none⟩ (.int .i64 v)) r B L ws last nx { c with da := v } := by
  have h1 := h.rw
  have h2 := h.ge
  have hc := (cellsOf_at h.bl).2.1
  exact ⟨h.rd.set_int hc (by omega) _, grownBy_new h.gr h2 _, by rw [cells_set h.bl 1 _]; simp [cellsOf], h1, h2, fun p hp => by
    obtain ⟨h3, h4, h5⟩ := h.dl p hp
    exact ⟨(Below.heap_setCell X ⟨B, 1, none⟩ _ p.1 h5).trans h3, h4, h5⟩⟩
theorem CSt.set_dy {w X : World} {r B : Nat} {L : List (Nat × Obj)} {ws : List (List UInt8)} {last : Card} {nx : Bool} {c : Card} (h : CSt w X r B L ws last nx c) (v : Int) : CSt w (X.setCell ⟨B, 2, none⟩ (.int .i64 v)) r B L ws last nx { c with dy := v } := by
  have h1 := h.rw
  have h2 := h.ge
  have hc := (cellsOf_at h.bl).2.2.1
  exact ⟨h.rd.set_int hc (by omega) _, grownBy_new h.gr h2 _, by rw [cells_set h.bl 2 _]; simp [cellsOf], h1, h2, fun p hp => by
    obtain ⟨h3, h4, h5⟩ := h.dl p hp
    exact ⟨(Below.heap_setCell X ⟨B, 2, none⟩ _ p.1 h5).trans h3, h4, h5⟩⟩
theorem CSt.set_ki {w X : World} {r B : Nat} {L : List (Nat × Obj)} {ws : List (List UInt8)} {last : Card} {nx : Bool} {c : Card} (h : CSt w X r B L ws last nx c) (v : Int) : CSt w (X.setCell ⟨B, 3, none⟩ (.int .i64 v)) r B L ws last nx { c with ki := v } := by
  have h1 := h.rw
  have h2 := h.ge
  have hc := (cellsOf_at h.bl).2.2.2.1
  exact ⟨h.rd.set_int hc (by omega) _, grownBy_new h.gr h2 _, by rw [cells_set h.bl 3 _]; simp [cellsOf], h1, h2, fun p hp => by
    obtain ⟨h3, h4, h5⟩ := h.dl p hp
    exact ⟨(Below.heap_setCell X ⟨B, 3, none⟩ _ p.1 h5).trans h3, h4, h5⟩⟩
theorem CSt.set_am {w X : World} {r B : Nat} {L : List (Nat × Obj)} {ws : List (List UInt8)} {last : Card} {nx : Bool} {c : Card} (h : CSt w X r B L ws last nx c) (v : Int) : CSt w (X.setCell ⟨B, 4, none⟩ (.int .i64 v)) r B L ws last nx { c with am := v } := by
  have h1 := h.rw
  have h2 := h.ge
  have hc := (cellsOf_at h.bl).2.2.2.2.1
  exact ⟨h.rd.set_int hc (by omega) _, grownBy_new h.gr h2 _, by rw [cells_set h.bl 4 _]; simp [cellsOf], h1, h2, fun p hp => by
    obtain ⟨h3, h4, h5⟩ := h.dl p hp
    exact ⟨(Below.heap_setCell X ⟨B, 4, none⟩ _ p.1 h5).trans h3, h4, h5⟩⟩
theorem CSt.set_fi {w X : World} {r B : Nat} {L : List (Nat × Obj)} {ws : List (List UInt8)} {last : Card} {nx : Bool} {c : Card} (h : CSt w X r B L ws last nx c) (v : Int) : CSt w (X.setCell ⟨B, 5, none⟩ (.int .i64 v)) r B L ws last nx { c with fi := v } := by
  have h1 := h.rw
  have h2 := h.ge
  have hc := (cellsOf_at h.bl).2.2.2.2.2.1
  exact ⟨h.rd.set_int hc (by omega) _, grownBy_new h.gr h2 _, by rw [cells_set h.bl 5 _]; simp [cellsOf], h1, h2, fun p hp => by
    obtain ⟨h3, h4, h5⟩ := h.dl p hp
    exact ⟨(Below.heap_setCell X ⟨B, 5, none⟩ _ p.1 h5).trans h3, h4, h5⟩⟩

/-- What the amount comes to: it cannot be read; a kind, an amount and a fineness, and the words that are left. -/
inductive Ae where
  | stop
  | got (k a f : Int) (ws : List (List UInt8))
def toW : List UInt8 := [116, 111]
/-- Behind an amount: its fineness. -/
def fineW (a f : Int) : List (List UInt8) → Ae
  | [] => .got 1 a f []
  | y :: ws => if y = toW then (match ws with
      | [] => .stop
      | z :: ws => match hunO z with
        | none => .stop
        | some x => .got 1 a x.1 ws) else .got 1 a f (y :: ws)
def amtW : List (List UInt8) → Ae
  | [] => .stop
  | x :: ws => match kindO x with
    | some k => .got k 0 0 ws
    | none => match hunO x with
      | none => .stop
      | some v => fineW v.1 v.2 ws
def aEnd (w : World) (r B : Nat) (L : List (Nat × Obj)) (last : Card) (nx : Bool) (c : Card) : Ae → Ending → World → Prop
  | .stop, e, w' => e = .panicked [unread] ∧ w.grownBy w' (some r)
  | .got k a f ws, e, w' => e = .returned (.tuple #[]) ∧ CSt w w' r B L ws last nx { c with ki := k, am := a, fi := f }
theorem zero3 (w : World) : (zeroValue 3).run Tryz.prog w = .ok (.int .i64 0) w := by kernel_rfl
theorem c156_nil (w X : World) (r B : Nat) (L : List (Nat × Obj)) (last : Card) (nx : Bool) (c : Card) (h : CSt w X r B L [] last nx c) : Calls Tryz.prog 156 #[.pointer (some ⟨r, 0, none⟩), .pointer (some ⟨B, 0, none⟩)] X fun e X' => aEnd w r B L last nx c .stop e X' := by
  have H := Lib.hid h.noword
  unfold aEnd
  clear h
  go_enter Tryz.func156, Tryz.ntmps156
  go_wp2_with (go_at_call 191; refine H.out.mono ?_; rintro e X1 ⟨rfl, st1⟩)
  exact ⟨rfl, rfl, st1.gr⟩
theorem hasD (s : List UInt8) {k : Int} (h : kindO s = some k) : Maps.has kindsD (.string s) = true := by rw [kindsD_has, h]; rfl
theorem hasN (s : List UInt8) (h : kindO s = none) : Maps.has kindsD (.string s) = false := by rw [kindsD_has, h]; rfl
theorem keyS (x : List UInt8) (hx : x.length ≤ 200) : keyOf Tryz.prog 9 (.string ⟨x.toArray⟩) = some (.string x) := Go.WideMaps.keyOf_string_mk Tryz.underlying9 (by simp [ByteArray.size]; unfold maxLen; omega)
theorem lit_int {a b : Int} (h : (DataW.lit (.int .i64 a) : DataW Unit) = .lit (.int .i64 b)) : a = b := by injection h with h; injection h

set_option maxRecDepth 100000 in
set_option maxHeartbeats 4000000 in
theorem c156_kind (w X : World) (r B : Nat) (L : List (Nat × Obj)) (x : List UInt8) (ws : List (List UInt8)) (last : Card) (nx : Bool) (c : Card) (h : CSt w X r B L (x :: ws) last nx c) (hx : x.length ≤ 200) (hl : ws.length ≤ 200) (ha : c.am = 0) (hf : c.fi = 0) (k : Int) (hk : kindO x = some k) :
    Calls Tryz.prog 156 #[.pointer (some ⟨r, 0, none⟩), .pointer (some ⟨B, 0, none⟩)] X fun e X' => aEnd w r B L last nx c (.got k 0 0 ws) e X' := by
  have H := Lib.hid (h.word hl)
  have HK := Lib.hid hk
  have hkey := keyS x hx
  have HE : Hid (∀ (v : Int), { c with ki := v } = ({ c with ki := v, am := 0, fi := 0 } : Card)) := Lib.hid fun v => by rw [ha, hf]
  unfold aEnd
  clear h ha hf hk
  go_enter Tryz.func156, Tryz.ntmps156
  go_wp2_with (first
    | (go_at_call 191; refine H.out.mono ?_; rintro e X1 ⟨rfl, st1⟩; unfold strv)
    | (go_at_call 201; refine (c201 _).mono ?_; rintro e X2 ⟨rfl, hown, hb2⟩; have st2 := st1.grown hb2; obtain ⟨g0, g1, g2, g3, g4, g5, gF, gL⟩ := cellsOf_at st2.bl; have HOwn := Lib.hid hown; clear hown)
    | (at_lookup; refine wpList_lookup_own_ok_int _ rfl _ _ 215 rfl 9 3 .i64 law9 Tryz.underlying215 Tryz.underlying3 (zero3 _) _ 9 kindsD rfl HOwn.out _ _ rfl hkey ?_; intro v hat hwc; rw [hasD x HK.out]; rw [kindsD_at, HK.out] at hat; obtain rfl := lit_int hat; clear hat hwc hkey))
  refine bodyPost_ret (results_none rfl _ _ _) rfl ?_
  exact ⟨rfl, HE.out k ▸ st2.set_ki k⟩
set_option maxRecDepth 100000 in
set_option maxHeartbeats 4000000 in
theorem c156_bad (w X : World) (r B : Nat) (L : List (Nat × Obj)) (x : List UInt8) (ws : List (List UInt8)) (last : Card) (nx : Bool) (c : Card) (h : CSt w X r B L (x :: ws) last nx c) (hx : x.length ≤ 200) (hl : ws.length ≤ 200) (hk : kindO x = none) (hv : hunO x = none) :
    Calls Tryz.prog 156 #[.pointer (some ⟨r, 0, none⟩), .pointer (some ⟨B, 0, none⟩)] X fun e X' => aEnd w r B L last nx c (.stop) e X' := by
  have H := Lib.hid (h.word hl)
  have HK := Lib.hid hk
  have hkey := keyS x hx
  unfold aEnd
  clear h hk
  have HV := Lib.hid hv
  clear hv
  go_enter Tryz.func156, Tryz.ntmps156
  go_wp2_with (first
    | (go_at_call 191; refine H.out.mono ?_; rintro e X1 ⟨rfl, st1⟩; unfold strv)
    | (go_at_call 201; refine (c201 _).mono ?_; rintro e X2 ⟨rfl, hown, hb2⟩; have st2 := st1.grown hb2; obtain ⟨g0, g1, g2, g3, g4, g5, gF, gL⟩ := cellsOf_at st2.bl; have HOwn := Lib.hid hown; clear hown)
    | (at_lookup; refine wpList_lookup_own_ok_int _ rfl _ _ 215 rfl 9 3 .i64 law9 Tryz.underlying215 Tryz.underlying3 (zero3 _) _ 9 kindsD rfl HOwn.out _ _ rfl hkey ?_; intro v hat hwc; rw [hasN x HK.out]; clear hat hwc hkey)
    | (go_at_call 202; refine (c202 x hx _).mono ?_; rw [HV.out]; rintro e X3 ⟨he, hb3⟩; obtain rfl : e = .panicked [unread] := he))
  exact ⟨rfl, rfl, ((st2.set_ki 1).grown hb3).gr⟩
set_option maxRecDepth 100000 in
set_option maxHeartbeats 4000000 in
theorem c156_amt (w X : World) (r B : Nat) (L : List (Nat × Obj)) (x : List UInt8) (ws : List (List UInt8)) (last : Card) (nx : Bool) (c : Card) (h : CSt w X r B L (x :: ws) last nx c) (hx : x.length ≤ 200) (hl : (ws).length ≤ 200) (hk : kindO x = none) (a f : Int) (hv : hunO x = some (a, f)) (ht : (ws.head?.getD [] == [116, 111]) = false) :
    Calls Tryz.prog 156 #[.pointer (some ⟨r, 0, none⟩), .pointer (some ⟨B, 0, none⟩)] X fun e X' => aEnd w r B L last nx c (.got 1 a f ws) e X' := by
  have H := Lib.hid (h.word hl)
  have HK := Lib.hid hk
  have hkey := keyS x hx
  have HV := Lib.hid hv
  unfold aEnd
  clear h hk hv
  go_enter Tryz.func156, Tryz.ntmps156
  go_wp2_with (first
    | (go_at_call 191; refine H.out.mono ?_; rintro e X1 ⟨rfl, st1⟩; unfold strv)
    | (go_at_call 201; refine (c201 _).mono ?_; rintro e X2 ⟨rfl, hown, hb2⟩; have st2 := st1.grown hb2; obtain ⟨g0, g1, g2, g3, g4, g5, gF, gL⟩ := cellsOf_at st2.bl; have HOwn := Lib.hid hown; clear hown)
    | (at_lookup; refine wpList_lookup_own_ok_int _ rfl _ _ 215 rfl 9 3 .i64 law9 Tryz.underlying215 Tryz.underlying3 (zero3 _) _ 9 kindsD rfl HOwn.out _ _ rfl hkey ?_; intro v hat hwc; rw [hasN x HK.out]; clear hat hwc hkey)
    | (go_at_call 202; (with_reducible refine (c202 x hx _).mono ?_); rw [HV.out]; rintro e X3 ⟨he, hb3⟩; obtain rfl : e = .returned (.tuple #[.int .i64 a, .int .i64 f]) := he; have st3 := (st2.set_ki 1).grown hb3; obtain ⟨k0, k1, k2, k3, k4, k5, kF, kL⟩ := cellsOf_at st3.bl)
    | (go_at_call 198; refine (((st3.set_am a).set_fi f).at hl).mono ?_; rintro e X4 ⟨rfl, rfl⟩; unfold strv))
  go_end0
  exact ⟨rfl, (st3.set_am a).set_fi f⟩
set_option maxRecDepth 100000 in
set_option maxHeartbeats 4000000 in
theorem c156_to_nil (w X : World) (r B : Nat) (L : List (Nat × Obj)) (x : List UInt8) (last : Card) (nx : Bool) (c : Card) (h : CSt w X r B L (x :: [toW]) last nx c) (hx : x.length ≤ 200) (hl : ([toW]).length ≤ 200) (hk : kindO x = none) (a f : Int) (hv : hunO x = some (a, f)) :
    Calls Tryz.prog 156 #[.pointer (some ⟨r, 0, none⟩), .pointer (some ⟨B, 0, none⟩)] X fun e X' => aEnd w r B L last nx c (.stop) e X' := by
  have H := Lib.hid (h.word hl)
  have HK := Lib.hid hk
  have hkey := keyS x hx
  have HV := Lib.hid hv
  unfold aEnd
  clear h hk hv
  have hl1 : ([] : List (List UInt8)).length ≤ 200 := by simp
  go_enter Tryz.func156, Tryz.ntmps156
  go_wp2_with (first
    | (go_at_call 201; refine (c201 _).mono ?_; rintro e X2 ⟨rfl, hown, hb2⟩; have st2 := st1.grown hb2; obtain ⟨g0, g1, g2, g3, g4, g5, gF, gL⟩ := cellsOf_at st2.bl; have HOwn := Lib.hid hown; clear hown)
    | (at_lookup; refine wpList_lookup_own_ok_int _ rfl _ _ 215 rfl 9 3 .i64 law9 Tryz.underlying215 Tryz.underlying3 (zero3 _) _ 9 kindsD rfl HOwn.out _ _ rfl hkey ?_; intro v hat hwc; rw [hasN x HK.out]; clear hat hwc hkey)
    | (go_at_call 202; (with_reducible refine (c202 x hx _).mono ?_); rw [HV.out]; rintro e X3 ⟨he, hb3⟩; obtain rfl : e = .returned (.tuple #[.int .i64 a, .int .i64 f]) := he; have st3 := (st2.set_ki 1).grown hb3; obtain ⟨k0, k1, k2, k3, k4, k5, kF, kL⟩ := cellsOf_at st3.bl)
    | (go_at_call 198; refine (((st3.set_am a).set_fi f).at hl).mono ?_; rintro e X4 ⟨rfl, rfl⟩; unfold strv toW; simp only [List.headD_cons])
    | (go_at_call 191; (with_reducible refine H.out.mono ?_); rintro e X1 ⟨rfl, st1⟩; unfold strv)
    | (go_at_call 191; (with_reducible refine (((st3.set_am a).set_fi f).word hl1).mono ?_); rintro e X5 ⟨rfl, st5⟩)
    | (go_at_call 191; (with_reducible refine st5.noword.mono ?_); rintro e X6 ⟨rfl, st6⟩))
  exact ⟨rfl, rfl, st6.gr⟩
set_option maxRecDepth 100000 in
set_option maxHeartbeats 4000000 in
theorem c156_to_bad (w X : World) (r B : Nat) (L : List (Nat × Obj)) (x y : List UInt8) (ws : List (List UInt8)) (last : Card) (nx : Bool) (c : Card) (h : CSt w X r B L (x :: toW :: y :: ws) last nx c) (hx : x.length ≤ 200) (hl : (toW :: y :: ws).length ≤ 200) (hk : kindO x = none) (a f : Int) (hv : hunO x = some (a, f)) (hy : y.length ≤ 200) (hu : hunO y = none) :
    Calls Tryz.prog 156 #[.pointer (some ⟨r, 0, none⟩), .pointer (some ⟨B, 0, none⟩)] X fun e X' => aEnd w r B L last nx c (.stop) e X' := by
  have H := Lib.hid (h.word hl)
  have HK := Lib.hid hk
  have hkey := keyS x hx
  have HV := Lib.hid hv
  unfold aEnd
  clear h hk hv
  have hl1 : (y :: ws).length ≤ 200 := by simp only [List.length_cons] at hl ⊢; omega
  have hl2 : ws.length ≤ 200 := by simp only [List.length_cons] at hl ⊢; omega
  have HU := Lib.hid hu
  clear hu
  go_enter Tryz.func156, Tryz.ntmps156
  go_wp2_with (first
    | (go_at_call 201; refine (c201 _).mono ?_; rintro e X2 ⟨rfl, hown, hb2⟩; have st2 := st1.grown hb2; obtain ⟨g0, g1, g2, g3, g4, g5, gF, gL⟩ := cellsOf_at st2.bl; have HOwn := Lib.hid hown; clear hown)
    | (at_lookup; refine wpList_lookup_own_ok_int _ rfl _ _ 215 rfl 9 3 .i64 law9 Tryz.underlying215 Tryz.underlying3 (zero3 _) _ 9 kindsD rfl HOwn.out _ _ rfl hkey ?_; intro v hat hwc; rw [hasN x HK.out]; clear hat hwc hkey)
    | (go_at_call 202; (with_reducible refine (c202 x hx _).mono ?_); rw [HV.out]; rintro e X3 ⟨he, hb3⟩; obtain rfl : e = .returned (.tuple #[.int .i64 a, .int .i64 f]) := he; have st3 := (st2.set_ki 1).grown hb3; obtain ⟨k0, k1, k2, k3, k4, k5, kF, kL⟩ := cellsOf_at st3.bl)
    | (go_at_call 202; (with_reducible refine (c202 y hy _).mono ?_); rw [HU.out]; rintro e X7 ⟨he, hb7⟩; obtain rfl : e = .panicked [unread] := he)
    | (go_at_call 198; refine (((st3.set_am a).set_fi f).at hl).mono ?_; rintro e X4 ⟨rfl, rfl⟩; unfold strv toW; simp only [List.headD_cons])
    | (go_at_call 191; (with_reducible refine H.out.mono ?_); rintro e X1 ⟨rfl, st1⟩; unfold strv)
    | (go_at_call 191; (with_reducible refine (((st3.set_am a).set_fi f).word hl1).mono ?_); rintro e X5 ⟨rfl, st5⟩)
    | (go_at_call 191; (with_reducible refine (st5.word hl2).mono ?_); rintro e X6 ⟨rfl, st6⟩; unfold strv))
  exact ⟨rfl, rfl, (st6.grown hb7).gr⟩
set_option maxRecDepth 100000 in
set_option maxHeartbeats 4000000 in
theorem c156_to_got (w X : World) (r B : Nat) (L : List (Nat × Obj)) (x y : List UInt8) (ws : List (List UInt8)) (last : Card) (nx : Bool) (c : Card) (h : CSt w X r B L (x :: toW :: y :: ws) last nx c) (hx : x.length ≤ 200) (hl : (toW :: y :: ws).length ≤ 200) (hk : kindO x = none) (a f : Int) (hv : hunO x = some (a, f)) (hy : y.length ≤ 200) (g u : Int) (hu : hunO y = some (g, u)) :
    Calls Tryz.prog 156 #[.pointer (some ⟨r, 0, none⟩), .pointer (some ⟨B, 0, none⟩)] X fun e X' => aEnd w r B L last nx c (.got 1 a g ws) e X' := by
  have H := Lib.hid (h.word hl)
  have HK := Lib.hid hk
  have hkey := keyS x hx
  have HV := Lib.hid hv
  unfold aEnd
  clear h hk hv
  have hl1 : (y :: ws).length ≤ 200 := by simp only [List.length_cons] at hl ⊢; omega
  have hl2 : ws.length ≤ 200 := by simp only [List.length_cons] at hl ⊢; omega
  have HU := Lib.hid hu
  clear hu
  go_enter Tryz.func156, Tryz.ntmps156
  go_wp2_with (first
    | (go_at_call 201; refine (c201 _).mono ?_; rintro e X2 ⟨rfl, hown, hb2⟩; have st2 := st1.grown hb2; obtain ⟨g0, g1, g2, g3, g4, g5, gF, gL⟩ := cellsOf_at st2.bl; have HOwn := Lib.hid hown; clear hown)
    | (at_lookup; refine wpList_lookup_own_ok_int _ rfl _ _ 215 rfl 9 3 .i64 law9 Tryz.underlying215 Tryz.underlying3 (zero3 _) _ 9 kindsD rfl HOwn.out _ _ rfl hkey ?_; intro v hat hwc; rw [hasN x HK.out]; clear hat hwc hkey)
    | (go_at_call 202; (with_reducible refine (c202 x hx _).mono ?_); rw [HV.out]; rintro e X3 ⟨he, hb3⟩; obtain rfl : e = .returned (.tuple #[.int .i64 a, .int .i64 f]) := he; have st3 := (st2.set_ki 1).grown hb3; obtain ⟨k0, k1, k2, k3, k4, k5, kF, kL⟩ := cellsOf_at st3.bl)
    | (go_at_call 202; (with_reducible refine (c202 y hy _).mono ?_); rw [HU.out]; rintro e X7 ⟨he, hb7⟩; obtain rfl : e = .returned (.tuple #[.int .i64 g, .int .i64 u]) := he; have st7 := st6.grown hb7; obtain ⟨m0, m1, m2, m3, m4, m5, mF, mL⟩ := cellsOf_at st7.bl)
    | (go_at_call 198; refine (((st3.set_am a).set_fi f).at hl).mono ?_; rintro e X4 ⟨rfl, rfl⟩; unfold strv toW; simp only [List.headD_cons])
    | (go_at_call 191; (with_reducible refine H.out.mono ?_); rintro e X1 ⟨rfl, st1⟩; unfold strv)
    | (go_at_call 191; (with_reducible refine (((st3.set_am a).set_fi f).word hl1).mono ?_); rintro e X5 ⟨rfl, st5⟩)
    | (go_at_call 191; (with_reducible refine (st5.word hl2).mono ?_); rintro e X6 ⟨rfl, st6⟩; unfold strv))
  go_end0
  exact ⟨rfl, st7.set_fi g⟩
theorem c156 (w X : World) (r B : Nat) (L : List (Nat × Obj)) (ws : List (List UInt8)) (last : Card) (nx : Bool) (c : Card) (h : CSt w X r B L ws last nx c) (hl : ws.length ≤ 200) (hws : ∀ x ∈ ws, x.length ≤ 200) (ha : c.am = 0) (hf : c.fi = 0) :
    Calls Tryz.prog 156 #[.pointer (some ⟨r, 0, none⟩), .pointer (some ⟨B, 0, none⟩)] X fun e X' => aEnd w r B L last nx c (amtW ws) e X' := by
  cases ws with
  | nil => exact c156_nil w X r B L last nx c h
  | cons x ws =>
    have hx := hws x (by simp)
    have hl1 : ws.length ≤ 200 := by simp at hl; omega
    cases hk : kindO x with
    | some k => rw [show amtW (x :: ws) = .got k 0 0 ws by simp [amtW, hk]]; exact c156_kind w X r B L x ws last nx c h hx hl1 ha hf k hk
    | none =>
      cases hv : hunO x with
      | none => rw [show amtW (x :: ws) = .stop by simp [amtW, hk, hv]]; exact c156_bad w X r B L x ws last nx c h hx hl1 hk hv
      | some v =>
        obtain ⟨a, f⟩ := v
        rw [show amtW (x :: ws) = fineW a f ws by simp [amtW, hk, hv]]
        cases ws with
        | nil => exact c156_amt w X r B L x [] last nx c h hx hl1 hk a f hv rfl
        | cons y ws =>
          by_cases hy : y = toW
          · subst hy
            cases ws with
            | nil => exact c156_to_nil w X r B L x last nx c h hx hl1 hk a f hv
            | cons z ws =>
              have hz := hws z (by simp)
              cases hu : hunO z with
              | none => rw [show fineW a f (toW :: z :: ws) = .stop by simp [fineW, hu]]; exact c156_to_bad w X r B L x z ws last nx c h hx hl1 hk a f hv hz hu
              | some g => rw [show fineW a f (toW :: z :: ws) = .got 1 a g.1 ws by simp [fineW, hu]]; exact c156_to_got w X r B L x z ws last nx c h hx hl1 hk a f hv hz g.1 g.2 hu
          · rw [show fineW a f (y :: ws) = .got 1 a f (y :: ws) by simp [fineW, hy]]
            exact c156_amt w X r B L x (y :: ws) last nx c h hx hl1 hk a f hv (by simpa [toW] using hy)
end Go.Proofs.YthifeoebefbalaaGreatDoor

namespace Go.Proofs.YthifeoebefbalaaGreatDoor
open Go.RowKit

/-- The date that a card gets. -/
def dateR (nx : Bool) (d : Dt) (last : Card) (n : Int) : Option Int := if nx = true then some (wrap64 (last.da + n)) else dnum d.y d.m d.d
def cardR (st : Int) (o : Option Int) (n k a f : Int) : Rd := match o with
  | none => .err 3
  | some da => if isCard ⟨st, da, n, k, a, f⟩ = true then .got ⟨st, da, n, k, a, f⟩ else .err 3
def restR (st : Int) (nx : Bool) (d : Dt) (last : Card) (ws : List (List UInt8)) : Rd := match lumpW ws with
  | .stop => .form
  | .got n ws => match amtW ws with
    | .stop => .form
    | .got k a f ws => if ws.isEmpty = true then cardR st (dateR nx d last n) n k a f else .form
def readRs (ws : List (List UInt8)) (last : Card) : Rd := match ws with
  | [] => .form
  | x :: ws => match stationO x last with
    | none => .form
    | some st => match ws with
      | [] => .form
      | y :: ws => match dateW y ws last with
        | .stop => .form
        | .next ws => restR st true ⟨0, 0, 0⟩ last ws
        | .date d ws => restR st false d last ws

/-- What the date leaves of the words. -/
def De.ok (ws : List (List UInt8)) : De → Prop
  | .stop => True
  | .next ws' => ws' = ws
  | .date _ ws' => ws' <:+ ws
theorem threeW_ok (b : Bool) (y : List UInt8) (ws : List (List UInt8)) : (threeW b y ws).ok ws := by
  match ws with
  | [] => trivial
  | [a] => trivial
  | a :: c :: ws =>
    simp only [threeW]
    repeat' split
    all_goals first | trivial | exact ⟨[a, c], rfl⟩
theorem dateW_ok (y : List UInt8) (ws : List (List UInt8)) (last : Card) : (dateW y ws last).ok ws := by
  unfold dateW
  split
  · rfl
  · split
    · exact List.suffix_refl _
    · trivial
    · exact threeW_ok _ _ _
def Le.ok (ws : List (List UInt8)) : Le → Prop
  | .stop => True
  | .got _ ws' => ws' <:+ ws
theorem lump2_ok (b : Bool) (ws : List (List UInt8)) : (lump2 b ws).ok ws := by
  unfold lump2
  repeat' split
  all_goals first | trivial | exact List.suffix_refl _ | exact ⟨[_], rfl⟩ | exact ⟨[_, _], rfl⟩
theorem Le.ok_cons {x : List UInt8} {ws : List (List UInt8)} : ∀ {l : Le}, l.ok ws → l.ok (x :: ws)
  | .stop, _ => trivial
  | .got _ _, h => List.IsSuffix.trans h ⟨[x], rfl⟩
theorem lumpW_ok (ws : List (List UInt8)) : (lumpW ws).ok ws := by
  cases ws with
  | nil => exact lump2_ok false []
  | cons x ws =>
    by_cases h : x = forW
    · rw [show lumpW (x :: ws) = lump2 true ws by simp [lumpW, h]]
      exact Le.ok_cons (lump2_ok true ws)
    · rw [show lumpW (x :: ws) = lump2 false (x :: ws) by simp [lumpW, h]]
      exact lump2_ok false (x :: ws)

section
variable {w X : World} {r B : Nat} {L : List (Nat × Obj)} {last : Card} {c : Card}
theorem CSt.cell0 {ws : List (List UInt8)} {nx : Bool} (h : CSt w X r B L ws last nx c) (hc : Cell0 w) (hr : 0 < r) : Cell0 X := hc.grownBy h.gr hr
theorem CSt.station {x : List UInt8} {ws : List (List UInt8)} {nx : Bool} (h : CSt w X r B L (x :: ws) last nx c) (hl : ws.length ≤ 200) (hx : x.length ≤ 200) :
    Calls Tryz.prog 153 #[.pointer (some ⟨r, 0, none⟩)] X fun e X' => optEnd (stationO x last) e ∧ CSt w X' r B L ws last nx c :=
  (c153 r x ws last nx X h.rd hl hx).mono fun _ _ ⟨h1, h2, h3⟩ => ⟨h1, h.of h3 h2⟩
def dEnd (w : World) (r B : Nat) (L : List (Nat × Obj)) (last c : Card) : De → Ending → World → Prop
  | .stop, e, w' => e = .panicked [unread] ∧ w.grownBy w' (some r)
  | .next ws, e, w' => e = .returned (dtv ⟨0, 0, 0⟩) ∧ CSt w w' r B L ws last true c
  | .date d ws, e, w' => e = .returned (dtv d) ∧ CSt w w' r B L ws last false c
theorem CSt.date {x : List UInt8} {ws : List (List UInt8)} (h : CSt w X r B L (x :: ws) last false c) (hc : Cell0 w) (hr : 0 < r) (hl : ws.length ≤ 200) (hx : x.length ≤ 200) (hne : x ≠ []) (hws : ∀ y ∈ ws, y.length ≤ 200) :
    Calls Tryz.prog 154 #[.pointer (some ⟨r, 0, none⟩)] X fun e X' => dEnd w r B L last c (dateW x ws last) e X' :=
  (c154 r hr x ws last X (h.cell0 hc hr) h.rd hl hx hne hws).mono fun e X' h1 => by
    cases hd : dateW x ws last with
    | stop => rw [hd] at h1; exact ⟨h1.1, h.gr.trans h1.2⟩
    | next ws' => rw [hd] at h1; exact ⟨h1.1, h.of h1.2.2 h1.2.1⟩
    | date d ws' => rw [hd] at h1; exact ⟨h1.1, h.of h1.2.2 h1.2.1⟩
theorem CSt.nodate (h : CSt w X r B L [] last false c) : Calls Tryz.prog 154 #[.pointer (some ⟨r, 0, none⟩)] X fun e X' => e = .panicked [unread] ∧ w.grownBy X' (some r) :=
  (c154_no r last false X h.rd).mono fun _ _ h1 => ⟨h1.1, h.gr.trans h1.2⟩
def lEnd (w : World) (r B : Nat) (L : List (Nat × Obj)) (last c : Card) (nx : Bool) : Le → Ending → World → Prop
  | .stop, e, w' => e = .panicked [unread] ∧ w.grownBy w' (some r)
  | .got n ws, e, w' => e = .returned (.int .i64 n) ∧ CSt w w' r B L ws last nx c
theorem CSt.lump {ws : List (List UInt8)} {nx : Bool} (h : CSt w X r B L ws last nx c) (hl : ws.length ≤ 198) (hws : ∀ y ∈ ws, y.length ≤ 200) :
    Calls Tryz.prog 155 #[.pointer (some ⟨r, 0, none⟩)] X fun e X' => lEnd w r B L last c nx (lumpW ws) e X' :=
  (c155 r ws last nx X h.rd hl hws).mono fun e X' h1 => by
    cases hd : lumpW ws with
    | stop => rw [hd] at h1; exact ⟨h1.1, h.gr.trans h1.2⟩
    | got n ws' => rw [hd] at h1; exact ⟨h1.1, h.of h1.2.2 h1.2.1⟩
theorem CSt.add {ws : List (List UInt8)} {nx : Bool} (h : CSt w X r B L ws last nx c) (o : Obj) : CSt w (X.alloc o) r B ((X.heap.size, o) :: L) ws last nx c := by
  have h1 := h.grown (below_alloc X o)
  have h2 := h.lt
  have h3 := h.rw
  have h4 := h.gr.size
  refine ⟨h1.rd, h1.gr, h1.bl, h1.rw, h1.ge, fun p hp => ?_⟩
  rcases List.mem_cons.1 hp with rfl | hp
  · exact ⟨World.alloc_heap_new X o, by simp only; omega, by simp only; omega⟩
  · exact h1.dl p hp
end
end Go.Proofs.YthifeoebefbalaaGreatDoor
