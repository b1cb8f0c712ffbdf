/- Points and commas: IndexRune at '.,'. -/
import Derived.Test.YthifeoebefbalaaGreatDoorZ7
import Derived.Test.YthifeoebefbalaaGreatDoorZ1
import Derived.Laws.Runes
import Derived.Outline
import Derived.WalkMore
import Derived.Test.YthifeoebefbalaaGreatDoorZ3
import Derived.Lib.IndexAny
import Derived.Shelf.Strings.IndexAnyAll
import Derived.Test.YthifeoebefbalaaGreatDoorZ5
import Derived.IntWalk
set_option linter.unusedVariables false
set_option linter.unusedSimpArgs false
namespace Go.Proofs.YthifeoebefbalaaGreatDoor
open Go.RowKit

def pc : List UInt8 := [46, 44]
theorem c215_low (r : Int) (h0 : 0 ≤ r) (h1 : r < 128) (w : World) : Calls Tryz.prog 215 #[.string ⟨#[46, 44]⟩, .int .i32 r] w fun e w' => e = .returned (.int .i64 (Lib.indexByte pc r.toNat.toUInt8)) ∧ w = w' :=
  (Tryz.strings_IndexRune_ascii ⟨#[46, 44]⟩ r w h0 h1).mono fun _ _ h => ⟨h.1, h.2.symm⟩
set_option maxRecDepth 100000 in
set_option maxHeartbeats 4000000 in
theorem c215_bad (w : World) : Calls Tryz.prog 215 #[.string ⟨#[46, 44]⟩, .int .i32 65533] w fun e w' => e = .returned (.int .i64 (-1)) ∧ Below w.heap.size w w' := by
  go_enter Tryz.func215, Tryz.ntmps215
  go_wp2
  have hk0 : (w.iter ⟨#[46, 44]⟩ 0).heap[w.heap.size]? = some (.stringIter ⟨#[46, 44]⟩ 0) := World.iter_heap w _ 0
  have HK0 := Lib.hid hk0
  clear hk0
  go_loopw [5] (fun _ wr => ∃ p : Nat, p ≤ 2 ∧ Hid (wr.heap[w.heap.size]? = some (.stringIter ⟨#[46, 44]⟩ p)) ∧ Below w.heap.size w wr) (fun _ wr => 2 - wr.iterPos w.heap.size)
  case atStart => exact ⟨0, by omega, HK0, below_alloc w _⟩
  case round =>
    obtain ⟨p, hp, hK, hb⟩ := hrel
    clear HK0
    have hmu : wr.iterPos w.heap.size = p := by simp [World.iterPos, hK.out]
    have HMU := Lib.hid hmu
    clear hmu
    by_cases hlt : p < 2
    · have h128 : ((⟨#[46, 44]⟩ : ByteArray)[p]'hlt).toNat < 128 := by
        have : p = 0 ∨ p = 1 := by omega
        rcases this with rfl | rfl
        · show (46 : UInt8).toNat < 128; decide
        · show (44 : UInt8).toNat < 128; decide
      have hne : (((⟨#[46, 44]⟩ : ByteArray)[p]'hlt).toNat : Int) ≠ 65533 := by omega
      have hnext : ∀ ty, (Instr.next (.pointer (some ⟨w.heap.size, 0, none⟩)) true ty).run Tryz.prog wr = _ := fun ty => Lib.run_next_ascii_at wr w.heap.size ⟨#[46, 44]⟩ p ty hK.out hlt h128
      have hK2 := Lib.iterAt_heap wr w.heap.size ⟨#[46, 44]⟩ p (p + 1) hK.out
      have hb2 : Below w.heap.size w (wr.iterAt w.heap.size ⟨#[46, 44]⟩ (p + 1)) := Lib.below_iterAt hb (Nat.le_refl _) _ _
      generalize wr.iterAt w.heap.size ⟨#[46, 44]⟩ (p + 1) = V at *
      generalize ((⟨#[46, 44]⟩ : ByteArray)[p]'hlt).toNat = cc at *
      have hm2 : V.iterPos w.heap.size = p + 1 := by simp [World.iterPos, hK2]
      have HM2 := Lib.hid hm2
      have HK2 := Lib.hid hK2
      clear hm2 hK2
      have hne' : ((cc : Int) == 65533) = false := by simpa using hne
      go_wp2
      go_roundw
      case rel => exact ⟨p + 1, by omega, HK2, hb2⟩
      case measure => rw [HMU.out, HM2.out]; omega
    · have hnext : ∀ ty, (Instr.next (.pointer (some ⟨w.heap.size, 0, none⟩)) true ty).run Tryz.prog wr = _ := fun ty => Lib.run_next_end_at wr w.heap.size ⟨#[46, 44]⟩ p ty hK.out hlt
      go_wp2
      go_ret
      exact ⟨rfl, hb⟩
end Go.Proofs.YthifeoebefbalaaGreatDoor

namespace Go.Proofs.YthifeoebefbalaaGreatDoor
open Go.RowKit

set_option maxRecDepth 100000 in
set_option maxHeartbeats 4000000 in
theorem c215_big (r : Int) (h0 : 128 ≤ r) (hne : r ≠ 65533) (hv : Lib.validRune r = true) (w : World) : Calls Tryz.prog 215 #[.string ⟨#[46, 44]⟩, .int .i32 r] w fun e w' => e = .returned (.int .i64 (-1)) ∧ Below w.heap.size w w' := by
  have hu : Utf8.valid r = true := by
    simp only [Lib.validRune, Bool.or_eq_true, Bool.and_eq_true, decide_eq_true_eq] at hv
    simp only [Utf8.valid, Bool.or_eq_true, Bool.and_eq_true, decide_eq_true_eq]
    omega
  obtain ⟨e1, e2, e3⟩ := encode_facts r hu h0
  have hconv := fun W => run_convert_int_string (P := Tryz.prog) W 21 9 .i32 r (by rw [Tryz.underlying21]; rfl) Tryz.underlying9
  generalize Utf8.encode r = rs at *
  have HV := Lib.hid hv
  have hne' : (r == 65533) = false := by simpa using hne
  clear hv hne hu
  by_cases h2 : rs.size = 2
  · have hb : 128 ≤ (rs[1]'(by omega)).toNat := by
      have := e3 (by omega)
      simpa [h2] using this
    clear e1 e2 e3
    have hlt : 1 < rs.size := by omega
    have hz : ((((⟨#[46, 44]⟩ : ByteArray)[1]'(by decide)).toNat : Int) != ((rs[1]'hlt).toNat : Int)) = true := by
      rw [bne_iff_ne, show ((⟨#[46, 44]⟩ : ByteArray)[1]'(by decide)).toNat = 44 from rfl]; omega
    go_enter Tryz.func215, Tryz.ntmps215
    go_wp2_with (go_at_call 244; refine (Tryz.utf8_ValidRune r w).mono ?_; rintro e w1 ⟨rfl, rfl⟩; rw [HV.out])
    go_step3
    go_wp2
    refine wp_loop_rounds 1 ?_
    rw [rounds_succ]
    go_wp2
    go_step3
    go_wp2
    go_quiet (fail)
    go_wp2_with fail
    have hw2 : IntKind.i64.wrap 2 = 2 := by rfl
    refine wp_region_gwn w1 (by kernel_rfl) (by kernel_rfl) (below_drewN (xr _) _) ?_
    go_big_quiet_step (fail)
    go_big_quiet_step (fail)
    go_big_quiet_step (fail)
    refine wpQuiet_step (fun K hK => ?_)
    go_simp
    refine hK _ ?_
    clear hK K
    repeat (go_big_quiet_step ((go_at_call 243; exact gw_same ((Tryz.strings_IndexByte _ _ _).mono fun _ _ h => ⟨h.1, h.2.symm⟩))))
    refine wpQuiet_nil ?_
    rintro _ ⟨x1, rfl⟩
    have hi : ∀ c, Lib.indexByte ByteArray.empty.data.toList c = -1 := fun c => rfl
    go_wp2_with fail
    rw [Exit.noGoto_ret]
    simp only [Exit.inBlock, Exit.then]
    rw [Exit.noGoto_ret]
    go_ret
    exact ⟨rfl, gw_below _ _⟩
  · have h3 : 3 ≤ rs.size := by omega
    have h4 : decide ((rs.size : Int) - 1 < 2) = false := by rw [decide_eq_false_iff_not]; omega
    clear h2 e1 e3
    go_enter Tryz.func215, Tryz.ntmps215
    go_wp2_with (go_at_call 244; refine (Tryz.utf8_ValidRune r w).mono ?_; rintro e w1 ⟨rfl, rfl⟩; rw [HV.out])
    go_step3
    go_wp2
    refine wp_loop_rounds 1 ?_
    rw [rounds_succ]
    go_wp2
    rw [Exit.noGoto_ret]
    go_ret
    exact ⟨rfl, xr _⟩
end Go.Proofs.YthifeoebefbalaaGreatDoor

namespace Go.Proofs.YthifeoebefbalaaGreatDoor
open Go.RowKit

set_option maxRecDepth 100000 in
set_option maxHeartbeats 4000000 in
theorem c215_inv (r : Int) (h0 : 128 ≤ r) (hne : r ≠ 65533) (hv : Lib.validRune r = false) (w : World) : Calls Tryz.prog 215 #[.string ⟨#[46, 44]⟩, .int .i32 r] w fun e w' => e = .returned (.int .i64 (-1)) ∧ Below w.heap.size w w' := by
  have HV := Lib.hid hv
  have hne' : (r == 65533) = false := by simpa using hne
  clear hv hne
  go_enter Tryz.func215, Tryz.ntmps215
  go_wp2_with (go_at_call 244; refine (Tryz.utf8_ValidRune r w).mono ?_; rintro e w1 ⟨rfl, rfl⟩; rw [HV.out])
  go_ret
  exact ⟨rfl, xr _⟩
/-- A rune among the two signs. -/
def pcR (r : Nat) : Bool := decide (r = 46) || decide (r = 44)
theorem pc_contains (c : UInt8) : pc.contains c = pcR c.toNat := by
  unfold pc pcR
  rw [Bool.eq_iff_iff]
  simp [← UInt8.toNat_inj]
theorem c215_no (r : Nat) (h : pcR r = false) (w : World) : Calls Tryz.prog 215 #[.string ⟨#[46, 44]⟩, .int .i32 r] w fun e w' => (∃ v : Int, v < 0 ∧ e = .returned (.int .i64 v)) ∧ Below w.heap.size w w' := by
  by_cases h1 : r < 128
  · refine (c215_low r (by omega) (by omega) w).mono fun e w' ⟨h2, h3⟩ => ⟨⟨_, ?_, h2⟩, h3 ▸ xr _⟩
    have hcon := Lib.contains_iff_indexByte pc ((r : Int).toNat.toUInt8)
    rw [pc_contains, show ((r : Int).toNat.toUInt8).toNat = r by simp; omega, h] at hcon
    have := of_decide_eq_false hcon.symm
    omega
  · by_cases h2 : r = 65533
    · subst h2
      exact (c215_bad w).mono fun e w' ⟨h3, h4⟩ => ⟨⟨_, by omega, h3⟩, h4⟩
    · cases hv : Lib.validRune (r : Int) with
      | true => exact (c215_big r (by omega) (by omega) hv w).mono fun e w' ⟨h3, h4⟩ => ⟨⟨_, by omega, h3⟩, h4⟩
      | false => exact (c215_inv r (by omega) (by omega) hv w).mono fun e w' ⟨h3, h4⟩ => ⟨⟨_, by omega, h3⟩, h4⟩
theorem c215_yes (r : Nat) (h : pcR r = true) (w : World) : Calls Tryz.prog 215 #[.string ⟨#[46, 44]⟩, .int .i32 r] w fun e w' => (∃ v : Int, 0 ≤ v ∧ e = .returned (.int .i64 v)) ∧ w = w' := by
  have h1 : r < 128 := by simp [pcR] at h; omega
  refine (c215_low r (by omega) (by omega) w).mono fun e w' ⟨h2, h3⟩ => ⟨⟨_, ?_, h2⟩, h3⟩
  have hcon := Lib.contains_iff_indexByte pc ((r : Int).toNat.toUInt8)
  rw [pc_contains, show ((r : Int).toNat.toUInt8).toNat = r by simp; omega, h] at hcon
  exact of_decide_eq_true hcon.symm

/-- One rune, and whether it is one of the two signs. -/
theorem rune_pc (l : List UInt8) (p : Nat) (h : p < l.length) (hn : Lib.NoAny l pc p) :
    1 ≤ (Utf8.decode ⟨l.toArray⟩ p).2 ∧ p + (Utf8.decode ⟨l.toArray⟩ p).2 ≤ l.length ∧
    (pcR (Utf8.decode ⟨l.toArray⟩ p).1 = true → Lib.indexAny l pc = p) ∧
    (pcR (Utf8.decode ⟨l.toArray⟩ p).1 = false → Lib.NoAny l pc (p + (Utf8.decode ⟨l.toArray⟩ p).2)) := by
  have hd := Lib.decode_at ⟨l.toArray⟩ p
  have hsz : (ByteArray.mk l.toArray).size = l.length := by simp [ByteArray.size]
  have hD := decN ((ByteArray.mk l.toArray).size - p) ((ByteArray.mk l.toArray).get! p).toNat ((ByteArray.mk l.toArray).get! (p + 1)).toNat ((ByteArray.mk l.toArray).get! (p + 2)).toNat ((ByteArray.mk l.toArray).get! (p + 3)).toNat (by omega)
  rw [← hd, hsz] at hD
  have g1 : ∀ j, p + j < l.length → (ByteArray.mk l.toArray).get! (p + j) = l.getD (p + j) 0 := fun j hj => by
    rw [get_of_list l (p + j) hj]; simp [List.getD, hj]
  rw [show (ByteArray.mk l.toArray).get! p = l.getD p 0 from g1 0 (by omega)] at hD
  generalize Utf8.decode ⟨l.toArray⟩ p = rk at *
  obtain ⟨r, k⟩ := rk
  simp only at hD ⊢
  obtain ⟨d1, d2, d3, d4, d5⟩ := hD
  have hx : l[p]? = some (l.getD p 0) := by simp [List.getD, h]
  by_cases hb : (l.getD p 0).toNat < 128
  · have e := d4 hb
    simp only [Prod.mk.injEq] at e
    obtain ⟨rfl, rfl⟩ := e
    rw [← pc_contains]
    exact ⟨d1, by omega, fun hg => Lib.indexAny_hit hn hx hg, fun hg => hn.succ hx hg⟩
  · obtain ⟨e1, e2, e3, e4⟩ := d5 (by omega)
    refine ⟨d1, by omega, fun hg => ?_, fun _ => ?_⟩
    · simp [pcR] at hg; omega
    · intro j b hj hjb
      by_cases hjp : j < p
      · exact hn j b hjp hjb
      · have hbig : 128 ≤ b.toNat := by
          obtain ⟨i, rfl⟩ : ∃ i, j = p + i := ⟨j - p, by omega⟩
          have hlt : p + i < l.length := (List.getElem?_eq_some_iff.1 hjb).1
          have hv : l.getD (p + i) 0 = b := by simp [List.getD, hjb]
          match i with
          | 0 => rw [← hv]; simp only [Nat.add_zero]; omega
          | 1 => rw [← hv, ← g1 1 (by omega)]; exact e2 (by omega)
          | 2 => rw [← hv, ← g1 2 (by omega)]; exact e3 (by omega)
          | 3 => rw [← hv, ← g1 3 (by omega)]; exact e4 (by omega)
          | i + 4 => omega
        rw [pc_contains]
        simp [pcR]
        omega

set_option maxRecDepth 100000 in
set_option maxHeartbeats 4000000 in
theorem c237_short (l : List UInt8) (h8 : l.length ≤ 8) (w : World) : Calls Tryz.prog 237 #[.string ⟨l.toArray⟩, .string ⟨#[46, 44]⟩] w fun e w' => e = .returned (.int .i64 (Lib.indexAny l pc)) ∧ Below w.heap.size w w' := by
  have h8z : decide ((8 : Int) < (l.length : Int)) = false := decide_eq_false (by omega)
  go_enter Tryz.func237, Tryz.ntmps237
  go_wp2
  have hk0 : (w.iter ⟨l.toArray⟩ 0).heap[w.heap.size]? = some (.stringIter ⟨l.toArray⟩ 0) := World.iter_heap w _ 0
  have HK0 := Lib.hid hk0
  clear hk0
  go_loopw [9, 10] (fun _ _ wr => ∃ p : Nat, p ≤ l.length ∧ Hid (Lib.NoAny l pc p) ∧ Hid (wr.heap[w.heap.size]? = some (.stringIter ⟨l.toArray⟩ p)) ∧ Below w.heap.size w wr) (fun _ _ wr => l.length - wr.iterPos w.heap.size)
  case atStart => exact ⟨0, by omega, Lib.hid (Lib.NoAny.zero _ _), HK0, below_alloc w _⟩
  case round =>
    obtain ⟨p, hp, hN, hK, hb⟩ := hrel
    clear HK0
    have hmu : wr.iterPos w.heap.size = p := by simp [World.iterPos, hK.out]
    have HMU := Lib.hid hmu
    clear hmu
    by_cases hlt : p < l.length
    · obtain ⟨k1, k2, k3, k4⟩ := rune_pc l p hlt hN.out
      have hnext : ∀ ty, (Instr.next (.pointer (some ⟨w.heap.size, 0, none⟩)) true ty).run Tryz.prog wr = _ := fun ty => Lib.run_next_any_at wr w.heap.size ⟨l.toArray⟩ p ty hK.out (by simpa [ByteArray.size] using hlt)
      have hK2 := Lib.iterAt_heap wr w.heap.size ⟨l.toArray⟩ p (p + (Utf8.decode ⟨l.toArray⟩ p).2) hK.out
      have hb2 : Below w.heap.size w (wr.iterAt w.heap.size ⟨l.toArray⟩ (p + (Utf8.decode ⟨l.toArray⟩ p).2)) := Lib.below_iterAt hb (Nat.le_refl _) _ _
      generalize wr.iterAt w.heap.size ⟨l.toArray⟩ (p + (Utf8.decode ⟨l.toArray⟩ p).2) = V at *
      generalize Utf8.decode ⟨l.toArray⟩ p = rk at *
      obtain ⟨r, k⟩ := rk
      simp only at k1 k2 k3 k4 hnext hK2
      have hm2 : V.iterPos w.heap.size = p + k := by simp [World.iterPos, hK2]
      have HM2 := Lib.hid hm2
      have HK2 := Lib.hid hK2
      clear hm2 hK2
      cases hg : pcR r with
      | true =>
        have K3 := Lib.hid (k3 hg)
        have HG := Lib.hid hg
        clear k3 k4 hg
        go_wp2_with (go_at_call 215; refine (c215_yes r HG.out _).mono ?_; rintro e w1 ⟨⟨v, hv, rfl⟩, rfl⟩)
        go_ret
        exact ⟨ret_int K3.out.symm, hb2⟩
      | false =>
        have K4 := Lib.hid (k4 hg)
        have HG := Lib.hid hg
        clear k3 k4 hg
        go_wp2_with (go_at_call 215; refine (c215_no r HG.out _).mono ?_; rintro e w1 ⟨⟨v, hv, rfl⟩, hb1⟩; have hge : decide ((0 : Int) ≤ v) = false := decide_eq_false (by omega); have hK3 := Lib.hid ((hb1.block _ (Array.getElem?_eq_some_iff.1 HK2.out).1).trans HK2.out))
        go_roundw
        case rel => exact ⟨_, _, _, _, _, _, _, _, _, _, _, _, ⟨p + k, k2, K4, hK3, hb2.trans (hb1.mono hb2.size)⟩, rfl⟩
        case measure =>
          have e3 : w1.iterPos w.heap.size = p + k := by simp [World.iterPos, hK3.out]
          rw [HMU.out, e3]; omega
    · have hnext : ∀ ty, (Instr.next (.pointer (some ⟨w.heap.size, 0, none⟩)) true ty).run Tryz.prog wr = _ := fun ty => Lib.run_next_end_at wr w.heap.size ⟨l.toArray⟩ p ty hK.out (by simpa [ByteArray.size] using hlt)
      obtain rfl : p = l.length := by omega
      go_wp2
      go_ret
      exact ⟨ret_int (Lib.indexAny_none hN.out).symm, hb⟩
end Go.Proofs.YthifeoebefbalaaGreatDoor

namespace Go.Proofs.YthifeoebefbalaaGreatDoor
open Go.RowKit

theorem c237 (l : List UInt8) (hl : l.length ≤ 200) (w : World) : Calls Tryz.prog 237 #[.string ⟨l.toArray⟩, .string ⟨#[46, 44]⟩] w fun e w' => e = .returned (.int .i64 (Lib.indexAny l pc)) ∧ Below w.heap.size w w' := by
  by_cases h8 : l.length ≤ 8
  · exact c237_short l h8 w
  · have h116 : (Tryz.prog.info? 160).map (fun i => (i.zero, i.size)) = some (some (.agg (Array.replicate 256 (.bool false))), 256) := by kernel_rfl
    refine (Any.strings_IndexAny_long Tryz.lays153 (zero_of_info h116).1 (zero_of_info h116).2 ⟨l.toArray⟩ ⟨#[46, 44]⟩ w (by decide) (by simp [ByteArray.size]; omega) (by simp [ByteArray.size]; omega) (by decide) ?_).mono ?_
    · intro j b hb
      match j with
      | 0 => simp at hb; subst hb; decide
      | 1 => simp at hb; subst hb; decide
      | j + 2 => simp at hb
    · rintro e w' ⟨h1, rfl⟩
      exact ⟨h1, xa (xa (xr _) _) _⟩
end Go.Proofs.YthifeoebefbalaaGreatDoor

namespace Go.Proofs.YthifeoebefbalaaGreatDoor
open Go.RowKit

/-- A decimal's value and fineness, of what stands ahead of the sign and behind it. -/
def hun2 (wh pt : List UInt8) : Option (Int × Int) :=
  match (if wh.isEmpty = true then some 0 else (numO wh).map (100 * ·)) with
  | none => none
  | some n => if pt.length = 1 then (numO pt).map fun p => (n + 10 * p, 10) else if pt.length = 2 then (numO pt).map fun p => (n + p, 1) else none
def hunO (l : List UInt8) : Option (Int × Int) :=
  if Lib.indexAny l pc < 0 then (numO l).map fun v => (100 * v, 100) else hun2 (l.take (Lib.indexAny l pc).toNat) (l.drop ((Lib.indexAny l pc).toNat + 1))
def hEnd : Option (Int × Int) → Ending → Prop
  | some x => fun e => e = .returned (.tuple #[.int .i64 x.1, .int .i64 x.2])
  | none => fun e => e = .panicked [unread]

set_option maxHeartbeats 1000000 in
theorem c202_no (l : List UInt8) (hl : l.length ≤ 200) (hi : Lib.indexAny l pc < 0) (w : World) : Calls Tryz.prog 202 #[.string ⟨l.toArray⟩] w fun e w' => hEnd (hunO l) e ∧ Below w.heap.size w w' := by
  rw [hunO, if_pos hi]
  have hge : decide (Lib.indexAny l pc < 0) = true := decide_eq_true hi
  cases hv : numO l with
  | some v =>
    have hb := numO_bd hv
    have HV := Lib.hid hv
    clear hv
    simp only [Option.map_some, hEnd]
    go_enter Tryz.func202, Tryz.ntmps202
    go_wp2_with (first
      | (go_at_call 192; refine (c192o l hl _).mono ?_; rw [HV.out]; rintro e w3 ⟨he, hb3⟩; obtain rfl : e = .returned (.int .i64 v) := he; obtain ⟨x3, rfl⟩ := gw_step hb3)
      | (go_at_call 237; refine (c237 l hl _).mono ?_; rintro e w1 ⟨rfl, hb1⟩; obtain ⟨x1, rfl⟩ := of_below hb1))
    go_ret2
    exact ⟨rfl, by repeat (first | exact xr _ | apply xg)⟩
  | none =>
    have HV := Lib.hid hv
    clear hv
    simp only [Option.map_none, hEnd]
    go_enter Tryz.func202, Tryz.ntmps202
    go_wp2_with (first
      | (go_at_call 192; refine (c192o l hl _).mono ?_; rw [HV.out]; rintro e w3 ⟨he, hb3⟩; obtain rfl : e = .panicked [unread] := he; obtain ⟨x3, rfl⟩ := gw_step hb3)
      | (go_at_call 237; refine (c237 l hl _).mono ?_; rintro e w1 ⟨rfl, hb1⟩; obtain ⟨x1, rfl⟩ := of_below hb1))
    exact ⟨rfl, rfl, by repeat (first | exact xr _ | apply xg)⟩

set_option maxRecDepth 100000 in
set_option maxHeartbeats 4000000 in
theorem c202_at (l : List UInt8) (hl : l.length ≤ 200) (n : Nat) (hn : n < l.length) (hi : Lib.indexAny l pc = n) (w : World) : Calls Tryz.prog 202 #[.string ⟨l.toArray⟩] w fun e w' => hEnd (hunO l) e ∧ Below w.heap.size w w' := by
  rw [hunO, if_neg (by omega), hi, Int.toNat_natCast]
  obtain ⟨o, ho⟩ : ∃ o, hun2 (l.take n) (l.drop (n + 1)) = o := ⟨_, rfl⟩
  rw [ho]
  have HO := Lib.hid ho
  clear ho
  have hlw : (l.take n).length ≤ 200 := by simp; omega
  have hlp : (l.drop (n + 1)).length ≤ 200 := by simp; omega
  have HI := Lib.hid hi
  clear hi
  go_enter Tryz.func202, Tryz.ntmps202
  go_wp2_with (go_at_call 237; refine (c237 l hl _).mono ?_; rw [HI.out]; rintro e w1 ⟨rfl, hb1⟩)
  have hw1 : IntKind.i64.wrap ((n : Int) + 1) = (n : Int) + 1 := IntWalk.i64_in _ (by omega)
  refine wp_region_gwn w (by kernel_rfl) (by kernel_rfl) hb1 ?_
  repeat (first | go_big_quiet_step (fail) | (refine wpQuiet_step (fun K hK => ?_); go_simp; (refine hK _ ?_); clear hK K))
  refine wpQuiet_nil ?_
  rintro _ ⟨x2, rfl⟩
  have etd : List.take (l.length - (n + 1)) (List.drop (n + 1) l) = List.drop (n + 1) l := List.take_of_length_le (by simp)
  try rw [etd]
  clear etd hw1 HI hb1 w1
  generalize List.take n l = wh at *
  generalize List.drop (n + 1) l = pt at *
  have hW : (wh.isEmpty = true) ∨ (wh.isEmpty = false ∧ ∃ v, numO wh = some v) ∨ (wh.isEmpty = false ∧ numO wh = none) := by
    cases wh.isEmpty <;> cases h : numO wh <;> simp
  have hP : (((pt.length : Int) == 1) = true ∧ ∃ v, numO pt = some v) ∨ (((pt.length : Int) == 1) = true ∧ numO pt = none) ∨ (((pt.length : Int) == 1) = false ∧ ((pt.length : Int) == 2) = true ∧ ∃ v, numO pt = some v) ∨
      (((pt.length : Int) == 1) = false ∧ ((pt.length : Int) == 2) = true ∧ numO pt = none) ∨ (((pt.length : Int) == 1) = false ∧ ((pt.length : Int) == 2) = false) := by
    cases (pt.length : Int) == 1 <;> cases (pt.length : Int) == 2 <;> cases h : numO pt <;> simp
  have ep1 : (pt.length = 1) = (((pt.length : Int) == 1) = true) := by rw [beq_iff_eq, eq_iff_iff]; omega
  have ep2 : (pt.length = 2) = (((pt.length : Int) == 2) = true) := by rw [beq_iff_eq, eq_iff_iff]; omega
  have E1 := Lib.hid ep1
  have E2 := Lib.hid ep2
  clear ep1 ep2
  rcases hW with hw | ⟨hw, v, hv⟩ | ⟨hw, hv⟩
  · clear hlw
    rcases hP with ⟨hp, u, hu⟩ | ⟨hp, hu⟩ | ⟨hp, hq, u, hu⟩ | ⟨hp, hq, hu⟩ | ⟨hp, hq⟩
    · have hub := numO_bd hu
      have HU := Lib.hid hu
      clear hu
      go_wp2_with (first | (go_at_call 192; (with_reducible refine (c192o pt hlp _).mono ?_); rw [HU.out]; rintro e w3 ⟨he, hb3⟩; obtain rfl : e = .returned (.int .i64 u) := he; obtain ⟨x3, rfl⟩ := gw_step hb3))
      go_ret2
      refine ⟨?_, by repeat (first | exact xr _ | apply xg)⟩
      rw [← HO.out, hun2]
      simp [E1.out, E2.out, hw, hp, HU.out, hEnd]
    · have HU := Lib.hid hu
      clear hu
      go_wp2_with (first | (go_at_call 192; (with_reducible refine (c192o pt hlp _).mono ?_); rw [HU.out]; rintro e w3 ⟨he, hb3⟩; obtain rfl : e = .panicked [unread] := he; obtain ⟨x3, rfl⟩ := gw_step hb3))
      refine ⟨rfl, ?_, by repeat (first | exact xr _ | apply xg)⟩
      rw [← HO.out, hun2]
      simp [E1.out, E2.out, hw, hp, HU.out, hEnd]
    · have hub := numO_bd hu
      have HU := Lib.hid hu
      clear hu
      go_wp2_with (first | (go_at_call 192; (with_reducible refine (c192o pt hlp _).mono ?_); rw [HU.out]; rintro e w3 ⟨he, hb3⟩; obtain rfl : e = .returned (.int .i64 u) := he; obtain ⟨x3, rfl⟩ := gw_step hb3))
      go_ret2
      refine ⟨?_, by repeat (first | exact xr _ | apply xg)⟩
      rw [← HO.out, hun2]
      simp [E1.out, E2.out, hw, hp, hq, HU.out, hEnd]
    · have HU := Lib.hid hu
      clear hu
      go_wp2_with (first | (go_at_call 192; (with_reducible refine (c192o pt hlp _).mono ?_); rw [HU.out]; rintro e w3 ⟨he, hb3⟩; obtain rfl : e = .panicked [unread] := he; obtain ⟨x3, rfl⟩ := gw_step hb3))
      refine ⟨rfl, ?_, by repeat (first | exact xr _ | apply xg)⟩
      rw [← HO.out, hun2]
      simp [E1.out, E2.out, hw, hp, hq, HU.out, hEnd]
    · go_wp2
      refine ⟨rfl, ?_, by repeat (first | exact xr _ | apply xg)⟩
      rw [← HO.out, hun2]
      simp [E1.out, E2.out, hw, hp, hq, hEnd]
      rfl
  · have hvb := numO_bd hv
    have HV := Lib.hid hv
    clear hv
    rcases hP with ⟨hp, u, hu⟩ | ⟨hp, hu⟩ | ⟨hp, hq, u, hu⟩ | ⟨hp, hq, hu⟩ | ⟨hp, hq⟩
    · have hub := numO_bd hu
      have HU := Lib.hid hu
      clear hu
      go_wp2_with (first | (go_at_call 192; (with_reducible refine (c192o pt hlp _).mono ?_); rw [HU.out]; rintro e w3 ⟨he, hb3⟩; obtain rfl : e = .returned (.int .i64 u) := he; obtain ⟨x3, rfl⟩ := gw_step hb3) | (go_at_call 192; (with_reducible refine (c192o wh hlw _).mono ?_); rw [HV.out]; rintro e w4 ⟨he, hb4⟩; obtain rfl : e = .returned (.int .i64 v) := he; obtain ⟨x4, rfl⟩ := gw_step hb4))
      go_ret2
      refine ⟨?_, by repeat (first | exact xr _ | apply xg)⟩
      rw [← HO.out, hun2]
      simp [E1.out, E2.out, hw, hp, HV.out, HU.out, hEnd]
    · have HU := Lib.hid hu
      clear hu
      go_wp2_with (first | (go_at_call 192; (with_reducible refine (c192o pt hlp _).mono ?_); rw [HU.out]; rintro e w3 ⟨he, hb3⟩; obtain rfl : e = .panicked [unread] := he; obtain ⟨x3, rfl⟩ := gw_step hb3) | (go_at_call 192; (with_reducible refine (c192o wh hlw _).mono ?_); rw [HV.out]; rintro e w4 ⟨he, hb4⟩; obtain rfl : e = .returned (.int .i64 v) := he; obtain ⟨x4, rfl⟩ := gw_step hb4))
      refine ⟨rfl, ?_, by repeat (first | exact xr _ | apply xg)⟩
      rw [← HO.out, hun2]
      simp [E1.out, E2.out, hw, hp, HV.out, HU.out, hEnd]
    · have hub := numO_bd hu
      have HU := Lib.hid hu
      clear hu
      go_wp2_with (first | (go_at_call 192; (with_reducible refine (c192o pt hlp _).mono ?_); rw [HU.out]; rintro e w3 ⟨he, hb3⟩; obtain rfl : e = .returned (.int .i64 u) := he; obtain ⟨x3, rfl⟩ := gw_step hb3) | (go_at_call 192; (with_reducible refine (c192o wh hlw _).mono ?_); rw [HV.out]; rintro e w4 ⟨he, hb4⟩; obtain rfl : e = .returned (.int .i64 v) := he; obtain ⟨x4, rfl⟩ := gw_step hb4))
      go_ret2
      refine ⟨?_, by repeat (first | exact xr _ | apply xg)⟩
      rw [← HO.out, hun2]
      simp [E1.out, E2.out, hw, hp, hq, HV.out, HU.out, hEnd]
    · have HU := Lib.hid hu
      clear hu
      go_wp2_with (first | (go_at_call 192; (with_reducible refine (c192o pt hlp _).mono ?_); rw [HU.out]; rintro e w3 ⟨he, hb3⟩; obtain rfl : e = .panicked [unread] := he; obtain ⟨x3, rfl⟩ := gw_step hb3) | (go_at_call 192; (with_reducible refine (c192o wh hlw _).mono ?_); rw [HV.out]; rintro e w4 ⟨he, hb4⟩; obtain rfl : e = .returned (.int .i64 v) := he; obtain ⟨x4, rfl⟩ := gw_step hb4))
      refine ⟨rfl, ?_, by repeat (first | exact xr _ | apply xg)⟩
      rw [← HO.out, hun2]
      simp [E1.out, E2.out, hw, hp, hq, HV.out, HU.out, hEnd]
    · go_wp2_with (first | (go_at_call 192; (with_reducible refine (c192o wh hlw _).mono ?_); rw [HV.out]; rintro e w4 ⟨he, hb4⟩; obtain rfl : e = .returned (.int .i64 v) := he; obtain ⟨x4, rfl⟩ := gw_step hb4))
      refine ⟨rfl, ?_, by repeat (first | exact xr _ | apply xg)⟩
      rw [← HO.out, hun2]
      simp [E1.out, E2.out, hw, hp, hq, HV.out, hEnd]
      rfl
  · have HV := Lib.hid hv
    clear hv hP
    go_wp2_with (go_at_call 192; refine (c192o wh hlw _).mono ?_; rw [HV.out]; rintro e w4 ⟨he, hb4⟩; obtain rfl : e = .panicked [unread] := he; obtain ⟨x4, rfl⟩ := gw_step hb4)
    refine ⟨rfl, ?_, by repeat (first | exact xr _ | apply xg)⟩
    rw [← HO.out, hun2]
    simp [hw, HV.out, hEnd]
theorem indexAny_lt (chars : List UInt8) : ∀ l : List UInt8, Lib.indexAny l chars < l.length
  | [] => by simp [Lib.indexAny]
  | b :: l => by
    have := indexAny_lt chars l
    rw [Lib.indexAny]
    split
    · simp
    · split
      · simp; omega
      · simp only [List.length_cons]; omega
theorem c202 (l : List UInt8) (hl : l.length ≤ 200) (w : World) : Calls Tryz.prog 202 #[.string ⟨l.toArray⟩] w fun e w' => hEnd (hunO l) e ∧ Below w.heap.size w w' := by
  by_cases hi : Lib.indexAny l pc < 0
  · exact c202_no l hl hi w
  · have h := indexAny_lt pc l
    exact c202_at l hl (Lib.indexAny l pc).toNat (by omega) (by omega) w
end Go.Proofs.YthifeoebefbalaaGreatDoor
