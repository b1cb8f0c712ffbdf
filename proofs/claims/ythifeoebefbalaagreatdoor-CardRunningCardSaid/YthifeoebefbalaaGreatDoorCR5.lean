/- Parts: Z5. -/
import Derived.Test.YthifeoebefbalaaGreatDoorCR4
import Derived.Test.YthifeoebefbalaaGreatDoorCR1
import Derived.Shelf.Strings.SlTrimAscii
import Derived.Test.YthifeoebefbalaaGreatDoorCR2
import Derived.Test.YthifeoebefbalaaGreatDoorCR3
set_option linter.unusedVariables false
set_option linter.unusedSimpArgs false
set_option linter.unnecessarySimpa false
namespace Go.Proofs.YthifeoebefbalaaGreatDoor
open Go.RowKit

def isDig (c : UInt8) : Bool := decide (48 ≤ c.toNat) && decide (c.toNat ≤ 57)
def isNum (l : List UInt8) : Bool := decide (1 ≤ l.length) && decide (l.length ≤ 10) && l.all isDig
def numF (n : Nat) (c : UInt8) : Nat := n * 10 + (c.toNat - 48)
def numV (l : List UInt8) : Nat := l.foldl numF 0
def digs : List UInt8 := [48, 49, 50, 51, 52, 53, 54, 55, 56, 57]

set_option maxRecDepth 100000 in
theorem isDig_digs (c : UInt8) : digs.contains c = isDig c := by
  have h : ∀ n : Fin 256, digs.contains (UInt8.ofNat n.1) = isDig (UInt8.ofNat n.1) := by decide
  have := h ⟨c.toNat, c.toNat_lt⟩
  simpa using this

theorem dropWhile_nil {p : UInt8 → Bool} (l : List UInt8) : l.dropWhile p = [] ↔ l.all p = true := by
  induction l with
  | nil => simp
  | cons c l ih =>
    cases h : p c <;> simp [List.dropWhile, h, ih]
theorem trim_nil (l : List UInt8) : Lib.trimS l digs = [] ↔ l.all isDig = true := by
  have e : (fun c => digs.contains c) = isDig := funext isDig_digs
  unfold Lib.trimS Lib.trimLeftS Lib.trimRightS
  rw [e, dropWhile_nil]
  have h2 : ∀ m : List UInt8, ((m.dropWhile isDig).all isDig = true) ↔ m.all isDig = true := by
    intro m
    induction m with
    | nil => simp
    | cons c m ih => cases h : isDig c <;> simp [List.dropWhile, h, ih]
  rw [List.all_reverse, h2, List.all_reverse]

theorem parse_digits : ∀ (l : List UInt8) (acc k : Nat), l.all isDig = true → k + l.length ≤ 10 → acc < 10 ^ k → Lib.parseUint10 acc l = .ok (l.foldl numF acc)
  | [], acc, k, _, _, _ => rfl
  | c :: r, acc, k, h, hk, ha => by
    simp only [List.all_cons, Bool.and_eq_true] at h
    obtain ⟨hc, hr⟩ := h
    simp only [isDig, Bool.and_eq_true, decide_eq_true_eq] at hc
    simp only [List.length_cons] at hk
    have h10 : (10 : Nat) ^ k ≤ 10 ^ 9 := Nat.pow_le_pow_right (by omega) (by omega)
    have hp : (10 : Nat) ^ (k + 1) = 10 ^ k * 10 := Nat.pow_succ _ _
    have e9 : (10 : Nat) ^ 9 = 1000000000 := rfl
    rw [Lib.parseUint10, if_pos hc, if_neg (by omega), if_neg (by omega), parse_digits r _ (k + 1) hr (by omega) (by omega)]
    rfl
theorem isNum_spec {l : List UInt8} (h : isNum l = true) : 1 ≤ l.length ∧ l.length ≤ 10 ∧ l.all isDig = true := by
  simpa [isNum, and_assoc] using h
theorem numV_lt {l : List UInt8} (h : isNum l = true) : numV l < 10 ^ l.length := by
  obtain ⟨-, -, h3⟩ := isNum_spec h
  have : ∀ (m : List UInt8) (acc k : Nat), m.all isDig = true → acc < 10 ^ k → m.foldl numF acc < 10 ^ (k + m.length) := by
    intro m
    induction m with
    | nil => intro acc k _ h; simpa using h
    | cons c m ih =>
      intro acc k hm ha
      simp only [List.all_cons, Bool.and_eq_true] at hm
      obtain ⟨hc, hr⟩ := hm
      simp only [isDig, Bool.and_eq_true, decide_eq_true_eq] at hc
      have hp : (10 : Nat) ^ (k + 1) = 10 ^ k * 10 := Nat.pow_succ _ _
      have := ih (numF acc c) (k + 1) hr (by unfold numF; omega)
      simp only [List.foldl_cons, List.length_cons]
      rw [show k + (m.length + 1) = k + 1 + m.length by omega]
      exact this
  have h4 := this l 0 0 h3 (by simp)
  simpa [numV] using h4
theorem numV_bd {l : List UInt8} (h : isNum l = true) : numV l < 10000000000 := by
  have h1 := numV_lt h
  obtain ⟨-, h2, -⟩ := isNum_spec h
  exact Nat.lt_of_lt_of_le h1 (Nat.pow_le_pow_right (n := 10) (by omega) h2)
theorem atoi_num {l : List UInt8} (h : isNum l = true) : Lib.atoiAll l = .ok (numV l : Int) := by
  have hb := numV_bd h
  obtain ⟨h1, h2, h3⟩ := isNum_spec h
  have hp := parse_digits l 0 0 h3 (by omega) (by simp)
  cases l with
  | nil => simp at h1
  | cons c r =>
    simp only [List.all_cons, Bool.and_eq_true, isDig, decide_eq_true_eq] at h3
    have hm : Lib.parseMag (c :: r) = .ok (numV (c :: r)) := by rw [Lib.parseMag, if_neg (by simp), hp]; rfl
    have e1 : ¬ (c.toNat = 43 ∨ c.toNat = 45) := by omega
    simp only [Lib.atoiAll, if_neg e1, hm]
    rw [if_neg (by omega), if_neg (by omega), if_neg (by omega)]

theorem c84 (l : List UInt8) (hl : l.length ≤ 200) (w : World) : Calls Tryz.prog 84 #[.string ⟨l.toArray⟩, .string ⟨#[48, 49, 50, 51, 52, 53, 54, 55, 56, 57]⟩] w fun e w' =>
    e = .returned (.string ⟨(Lib.trimS l digs).toArray⟩) ∧ Below w.heap.size w w' := by
  have := Any.strings_Trim_laid Tryz.lays160 (by kernel_rfl) ⟨l.toArray⟩ ⟨#[48, 49, 50, 51, 52, 53, 54, 55, 56, 57]⟩ w (by simp [ByteArray.size]; omega) (by decide) (ascii_of_all (by decide))
  exact this

theorem trim_num (l : List UInt8) (h1 : 1 ≤ l.length) (h2 : l.length ≤ 10) : (Lib.trimS l digs).isEmpty = isNum l := by
  rw [isNum, decide_eq_true h1, decide_eq_true h2]
  have := trim_nil l
  cases h : l.all isDig with
  | true => rw [this.2 h]; rfl
  | false =>
    have : Lib.trimS l digs ≠ [] := fun e => by rw [this.1 e] at h; cases h
    simpa using this
theorem c200 (l : List UInt8) (hl : l.length ≤ 200) (w : World) : Calls Tryz.prog 200 #[.string ⟨l.toArray⟩] w fun e w' => e = .returned (.bool (isNum l)) ∧ Below w.heap.size w w' := by
  obtain ⟨n, hn⟩ : ∃ n, l.length = n := ⟨_, rfl⟩
  have HN := Lib.hid hn
  by_cases h1 : 1 ≤ n
  · by_cases h2 : n ≤ 10
    · go_enter Tryz.func200, Tryz.ntmps200
      go_wp2_with (go_at_call 84; refine (c84 l hl _).mono ?_; rintro e w1 ⟨rfl, hb1⟩; obtain ⟨x1, rfl⟩ := of_below hb1; clear hb1)
      go_ret
      exact ⟨ret_bool (trim_num l (by rw [HN.out]; exact h1) (by rw [HN.out]; exact h2)), gw_below _ _⟩
    · go_enter Tryz.func200, Tryz.ntmps200
      go_wp2
      go_ret
      exact ⟨ret_bool (by rw [isNum, HN.out, decide_eq_false h2]; simp), xr _⟩
  · go_enter Tryz.func200, Tryz.ntmps200
    go_wp2
    go_ret
    exact ⟨ret_bool (by rw [isNum, HN.out, decide_eq_false h1]; simp), xr _⟩

theorem atoi_below {w w' : World} (h : w' = w ∨ ∃ t, w' = Lib.bytesWorld w 5 t) : Below w.heap.size w w' := by
  rcases h with rfl | ⟨t, rfl⟩
  · exact xr _
  · exact Lib.bytesWorld_below w 5 t
theorem c192 (l : List UInt8) (hl : l.length ≤ 200) (h : isNum l = true) (w : World) : Calls Tryz.prog 192 #[.string ⟨l.toArray⟩] w fun e w' => e = .returned (.int .i64 (numV l)) ∧ Below w.heap.size w w' := by
  have H := Lib.hid h
  clear h
  go_enter Tryz.func192, Tryz.ntmps192
  go_wp2_with (first
    | (go_at_call 200; refine (c200 l hl _).mono ?_; rintro e w1 ⟨rfl, hb1⟩; rw [H.out]; obtain ⟨x1, rfl⟩ := of_below hb1; clear hb1)
    | (go_at_call 232; refine (Tryz.strconv_Atoi_ok ⟨l.toArray⟩ (by simp [ByteArray.size]; omega) (numV l) (atoi_num H.out) _).mono ?_; rintro e w2 ⟨rfl, hb2⟩; obtain ⟨x2, rfl⟩ := gw_step (atoi_below hb2); clear hb2))
  go_ret
  exact ⟨rfl, gw_below _ _⟩
theorem c192_no (l : List UInt8) (hl : l.length ≤ 200) (h : isNum l = false) (w : World) : Calls Tryz.prog 192 #[.string ⟨l.toArray⟩] w fun e w' => e = .panicked [unread] ∧ Below w.heap.size w w' := by
  have H := Lib.hid h
  clear h
  go_enter Tryz.func192, Tryz.ntmps192
  go_wp2_with (first
    | (go_at_call 200; refine (c200 l hl _).mono ?_; rintro e w1 ⟨rfl, hb1⟩; rw [H.out]; obtain ⟨x1, rfl⟩ := of_below hb1; clear hb1))
  exact ⟨rfl, rfl, gw_below _ _⟩

/-- A number, or the reader cannot go on. -/
def optEnd : Option Int → Ending → Prop
  | some v, e => e = .returned (.int .i64 v)
  | none, e => e = .panicked [unread]
def numO (l : List UInt8) : Option Int := if isNum l then some (numV l : Int) else none
def yearO (l : List UInt8) : Option Int := if l.length = 4 then numO l else none
theorem c192o (l : List UInt8) (hl : l.length ≤ 200) (w : World) : Calls Tryz.prog 192 #[.string ⟨l.toArray⟩] w fun e w' => optEnd (numO l) e ∧ Below w.heap.size w w' := by
  unfold numO
  cases h : isNum l with
  | true => exact c192 l hl h w
  | false => exact c192_no l hl h w
theorem numO_bd {l : List UInt8} {v : Int} (h : numO l = some v) : 0 ≤ v ∧ v < 10000000000 := by
  unfold numO at h
  split at h
  · rename_i hn
    have := numV_bd hn
    cases h
    omega
  · cases h

theorem c197 (l : List UInt8) (hl : l.length ≤ 200) (w : World) : Calls Tryz.prog 197 #[.string ⟨l.toArray⟩] w fun e w' => optEnd (yearO l) e ∧ Below w.heap.size w w' := by
  obtain ⟨n, hn⟩ : ∃ n, l.length = n := ⟨_, rfl⟩
  have HN := Lib.hid hn
  unfold yearO
  rw [hn]
  by_cases h4 : n = 4
  · rw [if_pos h4]
    cases hv : numO l with
    | some v =>
      have HV := Lib.hid hv
      clear hv
      go_enter Tryz.func197, Tryz.ntmps197
      go_wp2_with (go_at_call 192; refine (c192o l hl _).mono ?_; rw [HV.out]; rintro e w1 ⟨he, hb1⟩; obtain rfl : e = .returned (.int .i64 v) := he; obtain ⟨x1, rfl⟩ := of_below hb1; clear hb1)
      go_ret
      exact ⟨rfl, gw_below _ _⟩
    | none =>
      have HV := Lib.hid hv
      clear hv
      go_enter Tryz.func197, Tryz.ntmps197
      go_wp2_with (go_at_call 192; refine (c192o l hl _).mono ?_; rw [HV.out]; rintro e w1 ⟨he, hb1⟩; obtain rfl : e = .panicked [unread] := he; obtain ⟨x1, rfl⟩ := of_below hb1; clear hb1)
      exact ⟨rfl, rfl, gw_below _ _⟩
  · rw [if_neg h4]
    go_enter Tryz.func197, Tryz.ntmps197
    go_wp2
    exact ⟨rfl, rfl, xr _⟩
end Go.Proofs.YthifeoebefbalaaGreatDoor

namespace Go.Proofs.YthifeoebefbalaaGreatDoor
open Go.RowKit

def monNames : List (List UInt8) := [[106, 97, 110, 117, 97, 114, 121], [102, 101, 98, 114, 117, 97, 114, 121], [109, 97, 114, 99, 104], [97, 112, 114, 105, 108], [109, 97, 121], [106, 117, 110, 101], [106, 117, 108, 121], [97, 117, 103, 117, 115, 116], [115, 101, 112, 116, 101, 109, 98, 101, 114], [111, 99, 116, 111, 98, 101, 114], [110, 111, 118, 101, 109, 98, 101, 114], [100, 101, 99, 101, 109, 98, 101, 114]]
def monArr : Array Value := (monNames.map strv).toArray
theorem c234 (w : World) : Calls Tryz.prog 234 #[] w fun e w' => e = .returned (.agg monArr) ∧ Below w.heap.size w w' := by
  go_enter Tryz.func234, Tryz.ntmps234
  go_wp2
  exact bodyPost_ret (v := .agg monArr) (by simp [results, Tryz.results234, go_sem]; rfl) rfl ⟨rfl, by repeat (first | exact xr _ | apply xd | apply xa | (refine xs ?_ (by simp) _))⟩
theorem c83 (l p : List UInt8) (hl : l.length ≤ 200) (w : World) : Calls Tryz.prog 83 #[.string ⟨l.toArray⟩, .string ⟨p.toArray⟩] w fun e w' => e = .returned (.string ⟨(Lib.trimSuffix l p).toArray⟩) ∧ w = w' :=
  (Tryz.strings_TrimSuffix ⟨l.toArray⟩ ⟨p.toArray⟩ w (by simp [ByteArray.size]; omega)).mono fun _ _ h => ⟨h.1, h.2.symm⟩
theorem c235 (l p : List UInt8) (w : World) : Calls Tryz.prog 235 #[.string ⟨l.toArray⟩, .string ⟨p.toArray⟩] w fun e w' => e = .returned (.bool (Lib.hasPrefix l p)) ∧ w = w' :=
  (Tryz.strings_HasPrefix ⟨l.toArray⟩ ⟨p.toArray⟩ w).mono fun _ _ h => ⟨h.1, h.2.symm⟩
theorem trimSuffix_len (l p : List UInt8) : (Lib.trimSuffix l p).length ≤ l.length := by
  unfold Lib.trimSuffix; split
  · simp <;> omega
  · omega

def monAt (s : List UInt8) (i : Nat) : Bool := decide (3 ≤ s.length) && Lib.hasPrefix (monNames.getD i []) s
def monthO (s : List UInt8) : Option Int := ((List.range 12).find? (monAt (Lib.trimSuffix s [46]))).map fun i => (i : Int) + 1

theorem find_range (p : Nat → Bool) (i n : Nat) (h : ∀ j, j < i → p j = false) (hp : p i = true) (hi : i < n) : (List.range n).find? p = some i := by
  rw [List.find?_eq_some_iff_append]
  refine ⟨hp, List.range i, (List.range (n - i - 1)).map (· + i + 1), ?_, fun a ha => by simp [h a (List.mem_range.1 ha)]⟩
  apply List.ext_getElem?
  intro k
  by_cases hk : k < i
  · rw [List.getElem?_append_left (by simpa using hk)]; simp [hk, Nat.lt_trans hk hi]
  · rw [List.getElem?_append_right (by simp; omega)]
    simp only [List.length_range]
    by_cases hk2 : k = i
    · subst hk2; simp [hi]
    · rw [show k - i = (k - i - 1) + 1 by omega, List.getElem?_cons_succ]
      by_cases hk3 : k < n
      · simp [List.getElem?_range, hk3]
        rw [List.getElem?_range (by omega)]
        simp; omega
      · rw [List.getElem?_eq_none (by simp; omega), List.getElem?_eq_none (by simp; omega)]
theorem find_none (p : Nat → Bool) (n : Nat) (h : ∀ j, j < n → p j = false) : (List.range n).find? p = none := by
  rw [List.find?_eq_none]
  intro a ha
  simp [h a (List.mem_range.1 ha)]

theorem monArr_at (i : Nat) (h : i < 12) : monArr[i]? = some (strv (monNames.getD i [])) := by
  have : i = 0 ∨ i = 1 ∨ i = 2 ∨ i = 3 ∨ i = 4 ∨ i = 5 ∨ i = 6 ∨ i = 7 ∨ i = 8 ∨ i = 9 ∨ i = 10 ∨ i = 11 := by omega
  rcases this with rfl | rfl | rfl | rfl | rfl | rfl | rfl | rfl | rfl | rfl | rfl | rfl <;> rfl

set_option maxRecDepth 100000 in
set_option maxHeartbeats 1000000 in
theorem c196 (l : List UInt8) (hl : l.length ≤ 200) (w : World) : Calls Tryz.prog 196 #[.string ⟨l.toArray⟩] w fun e w' => optEnd (monthO l) e ∧ Below w.heap.size w w' := by
  unfold monthO
  have hs := trimSuffix_len l [46]
  obtain ⟨s, hsd⟩ : ∃ s, Lib.trimSuffix l [46] = s := ⟨_, rfl⟩
  rw [hsd] at hs ⊢
  have HS := Lib.hid hsd
  clear hsd
  obtain ⟨arr, harr⟩ : ∃ arr, arr = monArr := ⟨_, rfl⟩
  have HA := Lib.hid harr
  clear harr
  go_enter Tryz.func196, Tryz.ntmps196
  go_wp2_with (first
    | (go_at_call 83; refine (c83 l [46] hl _).mono ?_; rintro e w1 ⟨rfl, rfl⟩; rw [HS.out])
    | (go_at_call 234; refine (c234 _).mono ?_; rw [← HA.out]; rintro e w1 ⟨rfl, hb1⟩; obtain ⟨x1, rfl⟩ := of_below hb1; clear hb1))
  go_loopw [8] (fun k wr => ∃ i : Nat, i ≤ 12 ∧ k = .int .i64 i ∧ Hid (∀ j, j < i → monAt s j = false) ∧ Below w.heap.size w wr) (fun k _ => 20 - (intOf k).toNat)
  case atStart => exact ⟨0, by omega, rfl, Lib.hid (fun j hj => by omega), gw_below _ _⟩
  case round =>
    obtain ⟨i, hi, rfl, hf, hb⟩ := hrel
    by_cases hlt : i < 12
    · obtain ⟨inf, i1, -, i3, -⟩ := info9
      have hix := fun W => run_index_arr (P := Tryz.prog) Tryz.underlying245 Tryz.underlying9 rfl i1 i3 arr i (strv (monNames.getD i [])) hlt (by rw [HA.out]; exact monArr_at i hlt) W
      obtain ⟨nm, hnm⟩ : ∃ nm, monNames.getD i [] = nm := ⟨_, rfl⟩
      have HM := Lib.hid hnm
      rw [hnm] at hix
      clear hnm
      unfold strv at hix
      by_cases h3 : 3 ≤ s.length
      · cases hp : Lib.hasPrefix nm s with
        | true =>
          have hm : monAt s i = true := by rw [monAt, HM.out, decide_eq_true h3, hp]; rfl
          have HR := Lib.hid (find_range (monAt s) i 12 hf.out hm hlt)
          have HP := Lib.hid hp
          clear hp hm
          go_wp2_with (go_at_call 235; refine (c235 nm s _).mono ?_; rintro e w1 ⟨rfl, rfl⟩; rw [HP.out])
          go_ret
          exact ⟨by rw [HR.out]; exact ret_int (by go_num), hb⟩
        | false =>
          have HP := Lib.hid hp
          clear hp
          go_wp2_with (go_at_call 235; refine (c235 nm s _).mono ?_; rintro e w1 ⟨rfl, rfl⟩; rw [HP.out])
          go_roundw
          case rel =>
            refine ⟨i + 1, by omega, by go_num, Lib.hid (fun j hj => ?_), hb⟩
            by_cases hji : j < i
            · exact hf.out j hji
            · obtain rfl : j = i := by omega
              rw [monAt, HM.out, HP.out, Bool.and_false]
          case measure => simp [intOf]; omega
      · go_wp2
        go_roundw
        case rel =>
          refine ⟨i + 1, by omega, by go_num, Lib.hid (fun j hj => ?_), hb⟩
          rw [monAt, decide_eq_false h3, Bool.false_and]
        case measure => simp [intOf]; omega
    · obtain rfl : i = 12 := by omega
      have HR := Lib.hid (find_none (monAt s) 12 hf.out)
      go_wp2
      exact ⟨rfl, by rw [HR.out]; rfl, hb⟩
theorem c199 (l p : List UInt8) (hl : l.length ≤ 200) (w : World) : Calls Tryz.prog 199 #[.string ⟨l.toArray⟩, .string ⟨p.toArray⟩] w fun e w' =>
    e = .returned (.tuple #[.string ⟨(Lib.trimSuffix l p).toArray⟩, .bool (Lib.hasSuffix l p)]) ∧ w = w' :=
  (Tryz.strings_CutSuffix ⟨l.toArray⟩ ⟨p.toArray⟩ w (by simp [ByteArray.size]; omega)).mono fun _ _ h => ⟨h.1, h.2.symm⟩

def endsL : List (List UInt8) := [[115, 116], [110, 100], [114, 100], [116, 104]]
def endsArr : Array Value := (endsL.map strv).toArray
theorem endsArr_at (i : Nat) (h : i < 4) : endsArr[i]? = some (strv (endsL.getD i [])) := by
  have : i = 0 ∨ i = 1 ∨ i = 2 ∨ i = 3 := by omega
  rcases this with rfl | rfl | rfl | rfl <;> rfl
def domO (s : List UInt8) : Option Int :=
  match (List.range 4).find? (fun i => Lib.hasSuffix (Lib.trimSuffix s [44]) (endsL.getD i [])) with
  | some i => numO (Lib.trimSuffix (Lib.trimSuffix s [44]) (endsL.getD i []))
  | none => numO (Lib.trimSuffix s [44])

theorem optEnd_walk {o : Option Int} {P : Program} {f : FuncId} {args : Array Value} {w : World} (h : Calls P f args w fun e w' => optEnd o e ∧ Below w.heap.size w w') :
    (∃ v, o = some v ∧ Calls P f args w fun e w' => e = .returned (.int .i64 v) ∧ Below w.heap.size w w') ∨ (o = none ∧ Calls P f args w fun e w' => e = .panicked [unread] ∧ Below w.heap.size w w') := by
  cases o with
  | some v => exact .inl ⟨v, rfl, h⟩
  | none => exact .inr ⟨rfl, h⟩

set_option maxRecDepth 100000 in
set_option maxHeartbeats 1000000 in
theorem c195 (l : List UInt8) (hl : l.length ≤ 200) (w : World) : Calls Tryz.prog 195 #[.string ⟨l.toArray⟩] w fun e w' => optEnd (domO l) e ∧ Below w.heap.size w w' := by
  obtain ⟨o, ho⟩ : ∃ o, domO l = o := ⟨_, rfl⟩
  have HO := Lib.hid ho
  rw [ho]
  clear ho
  have hs := trimSuffix_len l [44]
  obtain ⟨s, hsd⟩ : ∃ s, Lib.trimSuffix l [44] = s := ⟨_, rfl⟩
  rw [hsd] at hs
  have HS := Lib.hid hsd
  clear hsd
  have hs200 : s.length ≤ 200 := by omega
  clear hs
  obtain ⟨arr, harr⟩ : ∃ arr, arr = endsArr := ⟨_, rfl⟩
  have HA := Lib.hid harr
  have harr' : arr = #[.string ⟨#[115, 116]⟩, .string ⟨#[110, 100]⟩, .string ⟨#[114, 100]⟩, .string ⟨#[116, 104]⟩] := harr
  clear harr
  go_enter Tryz.func195, Tryz.ntmps195
  go_wp2_with (first
    | (go_at_call 83; refine (c83 l [44] hl _).mono ?_; rintro e w1 ⟨rfl, rfl⟩; rw [HS.out]))
  rw [← harr']
  clear harr'
  go_loopw [10] (fun k wr => ∃ i : Nat, i ≤ 4 ∧ k = .int .i64 i ∧ Hid (∀ j, j < i → Lib.hasSuffix s (endsL.getD j []) = false) ∧ Below w.heap.size w wr) (fun k _ => 20 - (intOf k).toNat)
  case atStart => exact ⟨0, by omega, rfl, Lib.hid (fun j hj => by omega), xr _⟩
  case round =>
    obtain ⟨i, hi, rfl, hf, hb⟩ := hrel
    by_cases hlt : i < 4
    · obtain ⟨inf, i1, -, i3, -⟩ := info9
      have hix := fun W => run_index_arr (P := Tryz.prog) Tryz.underlying244 Tryz.underlying9 rfl i1 i3 arr i (strv (endsL.getD i [])) hlt (by rw [HA.out]; exact endsArr_at i hlt) W
      obtain ⟨nm, hnm⟩ : ∃ nm, endsL.getD i [] = nm := ⟨_, rfl⟩
      have HM := Lib.hid hnm
      rw [hnm] at hix
      clear hnm
      unfold strv at hix
      cases hp : Lib.hasSuffix s nm with
      | true =>
        have HR := Lib.hid (find_range (fun i => Lib.hasSuffix s (endsL.getD i [])) i 4 hf.out (by simp only [HM.out]; exact hp) hlt)
        have HP := Lib.hid hp
        clear hp
        have hlen : (Lib.trimSuffix s nm).length ≤ 200 := Nat.le_trans (trimSuffix_len s nm) hs200
        rcases optEnd_walk (c192o (Lib.trimSuffix s nm) hlen wr) with ⟨v, hv, hc⟩ | ⟨hv, hc⟩
        · have HC := Lib.hid hc
          have HV := Lib.hid hv
          clear hc hv
          go_wp2_with (first
            | (go_at_call 199; refine (c199 s nm hs200 _).mono ?_; rintro e w1 ⟨rfl, rfl⟩; rw [HP.out])
            | (go_at_call 192; refine HC.out.mono ?_; rintro e w1 ⟨rfl, hb1⟩; obtain ⟨x1, rfl⟩ := of_below hb1; clear hb1))
          go_ret
          exact ⟨by rw [← HO.out]; unfold domO; rw [HS.out, HR.out]; simp only [HM.out, HV.out]; rfl, xg hb _⟩
        · have HC := Lib.hid hc
          have HV := Lib.hid hv
          clear hc hv
          go_wp2_with (first
            | (go_at_call 199; refine (c199 s nm hs200 _).mono ?_; rintro e w1 ⟨rfl, rfl⟩; rw [HP.out])
            | (go_at_call 192; refine HC.out.mono ?_; rintro e w1 ⟨rfl, hb1⟩; obtain ⟨x1, rfl⟩ := of_below hb1; clear hb1))
          exact ⟨rfl, by rw [← HO.out]; unfold domO; rw [HS.out, HR.out]; simp only [HM.out, HV.out]; rfl, xg hb _⟩
      | false =>
        have HP := Lib.hid hp
        clear hp
        go_wp2_with (first
          | (go_at_call 199; refine (c199 s nm hs200 _).mono ?_; rintro e w1 ⟨rfl, rfl⟩; rw [HP.out]))
        go_roundw
        case rel =>
          refine ⟨i + 1, by omega, by go_num, Lib.hid (fun j hj => ?_), hb⟩
          by_cases hji : j < i
          · exact hf.out j hji
          · obtain rfl : j = i := by omega
            rw [HM.out, HP.out]
        case measure => simp [intOf]; omega
    · obtain rfl : i = 4 := by omega
      have HR := Lib.hid (find_none (fun i => Lib.hasSuffix s (endsL.getD i [])) 4 hf.out)
      rcases optEnd_walk (c192o s hs200 wr) with ⟨v, hv, hc⟩ | ⟨hv, hc⟩
      · have HC := Lib.hid hc
        have HV := Lib.hid hv
        clear hc hv
        go_wp2_with (go_at_call 192; refine HC.out.mono ?_; rintro e w1 ⟨rfl, hb1⟩; obtain ⟨x1, rfl⟩ := of_below hb1; clear hb1)
        go_ret
        exact ⟨by rw [← HO.out]; unfold domO; rw [HS.out, HR.out]; simp only [HV.out]; rfl, xg hb _⟩
      · have HC := Lib.hid hc
        have HV := Lib.hid hv
        clear hc hv
        go_wp2_with (go_at_call 192; refine HC.out.mono ?_; rintro e w1 ⟨rfl, hb1⟩; obtain ⟨x1, rfl⟩ := of_below hb1; clear hb1)
        exact ⟨rfl, by rw [← HO.out]; unfold domO; rw [HS.out, HR.out]; simp only [HV.out]; rfl, xg hb _⟩
end Go.Proofs.YthifeoebefbalaaGreatDoor

namespace Go.Proofs.YthifeoebefbalaaGreatDoor
open Go.RowKit

/-- The reader in block r: its words, the card before, and whether the date is that of it. -/
def Reader (w : World) (r : Nat) (ws : List (List UInt8)) (last : Card) (nx : Bool) : Prop := ∃ v, w.heap[r]? = some (readerObj v last nx) ∧ StrsAt w r v ws

theorem reader_cells {w : World} {r : Nat} {v : Value} {last : Card} {nx : Bool} (h : w.heap[r]? = some (readerObj v last nx)) :
    w.cell? ⟨r, 0, none⟩ = some v ∧ w.cell? ⟨r, 1, none⟩ = some (.int .i64 last.st) ∧ w.cell? ⟨r, 2, none⟩ = some (.int .i64 last.da) ∧ w.cell? ⟨r, 7, none⟩ = some (.bool nx) ∧ (∀ i, w.frozen? ⟨r, i, none⟩ = false) ∧ r < w.heap.size :=
  ⟨by simp [World.cell?, h, readerObj], by simp [World.cell?, h, readerObj], by simp [World.cell?, h, readerObj], by simp [World.cell?, h, readerObj], fun i => by simp [World.frozen?, h, readerObj], (Array.getElem?_eq_some_iff.1 h).1⟩

theorem c198 (r : Nat) (ws : List (List UInt8)) (last : Card) (nx : Bool) (w : World) (h : Reader w r ws last nx) (hl : ws.length ≤ 200) : Calls Tryz.prog 198 #[.pointer (some ⟨r, 0, none⟩)] w fun e w' => e = .returned (strv (ws.headD [])) ∧ w = w' := by
  obtain ⟨v, h1, h2⟩ := h
  obtain ⟨q0, -, -, -, -, qL⟩ := reader_cells h1
  rcases h2 with ⟨rfl, a, c, rfl⟩ | ⟨b, o, c, hb, rfl, hc, hs⟩
  · go_enter Tryz.func198, Tryz.ntmps198
    go_wp2
    go_ret
    exact ⟨rfl, rfl⟩
  · cases ws with
    | nil =>
      simp only [List.length_nil] at q0
      go_enter Tryz.func198, Tryz.ntmps198
      go_wp2
      go_ret
      exact ⟨rfl, rfl⟩
    | cons x ws =>
      have hx := hs 0 x rfl
      unfold strv at hx
      rw [Nat.add_zero] at hx
      obtain ⟨n, hn⟩ : ∃ n, ws.length = n := ⟨_, rfl⟩
      simp only [List.length_cons, hn] at q0 hl
      clear hs h1 hn
      go_enter Tryz.func198, Tryz.ntmps198
      go_wp2
      go_ret
      exact ⟨rfl, rfl⟩
theorem c191_no (r : Nat) (last : Card) (nx : Bool) (w : World) (h : Reader w r [] last nx) : Calls Tryz.prog 191 #[.pointer (some ⟨r, 0, none⟩)] w fun e w' => e = .panicked [unread] ∧ w = w' := by
  obtain ⟨v, h1, h2⟩ := h
  obtain ⟨q0, -, -, -, -, qL⟩ := reader_cells h1
  rcases h2 with ⟨-, a, c, rfl⟩ | ⟨b, o, c, hb, rfl, hc, hs⟩
  · go_enter Tryz.func191, Tryz.ntmps191
    go_wp2
    exact ⟨rfl, rfl, rfl⟩
  · simp only [List.length_nil] at q0
    go_enter Tryz.func191, Tryz.ntmps191
    go_wp2
    exact ⟨rfl, rfl, rfl⟩
theorem c191 (r : Nat) (x : List UInt8) (ws : List (List UInt8)) (last : Card) (nx : Bool) (w : World) (h : Reader w r (x :: ws) last nx) (hl : ws.length ≤ 200) :
    Calls Tryz.prog 191 #[.pointer (some ⟨r, 0, none⟩)] w fun e w' => e = .returned (strv x) ∧ Reader w' r ws last nx ∧ w.grownBy w' (some r) := by
  obtain ⟨v, h1, h2⟩ := h
  obtain ⟨q0, -, -, -, qF, qL⟩ := reader_cells h1
  have qf := qF 0
  clear qF
  rcases h2 with ⟨hn, -⟩ | ⟨b, o, c, hb, rfl, hc, hs⟩
  · cases hn
  · have hx := hs 0 x rfl
    unfold strv at hx
    rw [Nat.add_zero] at hx
    obtain ⟨n, hn⟩ : ∃ n, ws.length = n := ⟨_, rfl⟩
    simp only [List.length_cons, hn] at q0 hl hc
    have HS := Lib.hid hs
    have H1 := Lib.hid h1
    have HN := Lib.hid hn
    clear hs h1 hn
    go_enter Tryz.func191, Tryz.ntmps191
    go_wp2
    case inr =>
      go_ret
      refine ⟨rfl, ⟨_, readerObj_set H1.out, .inr ⟨b, o + 1, c - 1, hb, by rw [HN.out], by rw [HN.out]; omega, fun i s hi => ?_⟩⟩, grownBy_setCell' _ _ _⟩
      rw [World.cell?_setCell_far _ _ _ _ (by exact fun e => hb e.symm), show o + 1 + i = o + (i + 1) by omega]
      exact HS.out (i + 1) s (by simpa using hi)
    case inl =>
      go_ret
      have h0 : ws = [] := List.length_eq_zero_iff.1 (by rw [HN.out]; omega)
      have hn0 : n = 0 := by omega
      subst hn0
      exact ⟨rfl, ⟨_, readerObj_set H1.out, .inl ⟨h0, _, _, rfl⟩⟩, grownBy_setCell' _ _ _⟩

theorem Reader.grown {w w' : World} {r : Nat} {ws : List (List UInt8)} {last : Card} {nx : Bool} (h : Reader w r ws last nx) (hb : Below w.heap.size w w') : Reader w' r ws last nx := by
  obtain ⟨v, h1, h2⟩ := h
  refine ⟨v, (hb.block r (Array.getElem?_eq_some_iff.1 h1).1).trans h1, ?_⟩
  rcases h2 with h2 | ⟨b, o, c, hb', rfl, hc, hs⟩
  · exact .inl h2
  · refine .inr ⟨b, o, c, hb', rfl, hc, fun i s hi => ?_⟩
    rw [hb.cell (p := ⟨b, o + i, none⟩) (World.block_lt_of_cell? w _ (hs i s hi)), hs i s hi]
/-- The same words behind a step that turns the reader's own block alone. -/
theorem Grown.by {w w' : World} (h : Below w.heap.size w w') (row : Option Nat) : w.grownBy w' row := ⟨h.os, h.tape, h.output, h.size, fun k hk _ => h.block k hk⟩
end Go.Proofs.YthifeoebefbalaaGreatDoor

namespace Go.Proofs.YthifeoebefbalaaGreatDoor
open Go.RowKit

theorem c193 (l p : List UInt8) (w : World) : Calls Tryz.prog 193 #[.string ⟨l.toArray⟩, .string ⟨p.toArray⟩] w fun e w' => e = .returned (.string ⟨(Lib.trimPrefix l p).toArray⟩) ∧ w = w' :=
  (Tryz.strings_TrimPrefix ⟨l.toArray⟩ ⟨p.toArray⟩ w).mono fun _ _ h => ⟨h.1, h.2.symm⟩
theorem trimPrefix_len (l p : List UInt8) : (Lib.trimPrefix l p).length ≤ l.length := by
  unfold Lib.trimPrefix; split
  · simp <;> omega
  · omega

def isDo (x : List UInt8) : Bool := decide (x = [100, 111])
def stationO (x : List UInt8) (last : Card) : Option Int := if isDo x && decide (0 < last.st) then some last.st else numO (Lib.trimPrefix x [35])

theorem c153_no (r : Nat) (last : Card) (nx : Bool) (w : World) (h : Reader w r [] last nx) : Calls Tryz.prog 153 #[.pointer (some ⟨r, 0, none⟩)] w fun e w' => e = .panicked [unread] ∧ w.grownBy w' (some r) := by
  have H := Lib.hid (c191_no r last nx w h)
  clear h
  go_enter Tryz.func153, Tryz.ntmps153
  go_wp2_with (go_at_call 191; refine H.out.mono ?_; rintro e w1 ⟨rfl, rfl⟩)
  exact ⟨rfl, rfl, Grown.by (xr _) _⟩

set_option maxHeartbeats 1000000 in
theorem c153 (r : Nat) (x : List UInt8) (ws : List (List UInt8)) (last : Card) (nx : Bool) (w : World) (h : Reader w r (x :: ws) last nx) (hl : ws.length ≤ 200) (hx : x.length ≤ 200) :
    Calls Tryz.prog 153 #[.pointer (some ⟨r, 0, none⟩)] w fun e w' => optEnd (stationO x last) e ∧ Reader w' r ws last nx ∧ w.grownBy w' (some r) := by
  obtain ⟨o, ho⟩ : ∃ o, stationO x last = o := ⟨_, rfl⟩
  have HO := Lib.hid ho
  rw [ho]
  clear ho
  have H := Lib.hid (c191 r x ws last nx w h hl)
  clear h
  by_cases hd : x = [100, 111] ∧ 0 < last.st
  · obtain ⟨hd, h0⟩ := hd
    subst hd
    go_enter Tryz.func153, Tryz.ntmps153
    go_wp2_with (go_at_call 191; refine H.out.mono ?_; rintro e w1 ⟨rfl, hr1, hg1⟩; unfold strv; obtain ⟨v1, hv1, -⟩ := id hr1; obtain ⟨q0, q1, -, -, -, qL⟩ := reader_cells hv1; clear hv1)
    go_ret
    refine ⟨?_, hr1, hg1⟩
    rw [← HO.out, stationO, decide_eq_true h0]
    rfl
  · have hs : stationO x last = numO (Lib.trimPrefix x [35]) := by
      rw [stationO, if_neg]
      simp only [isDo, Bool.and_eq_true, decide_eq_true_eq]
      exact hd
    have HSt := Lib.hid hs
    have hlen : (Lib.trimPrefix x [35]).length ≤ 200 := Nat.le_trans (trimPrefix_len x [35]) hx
    clear hs
    have hb : (isDo x = false) ∨ (isDo x = true ∧ ¬ 0 < last.st) := by
      by_cases h1 : x = [100, 111]
      · exact .inr ⟨by simp [isDo, h1], fun h => hd ⟨h1, h⟩⟩
      · exact .inl (by simp [isDo, h1])
    clear hd
    cases hv : numO (Lib.trimPrefix x [35]) with
    | some v =>
      have HV := Lib.hid hv
      clear hv
      rcases hb with hb | ⟨hb, h0⟩
      · have hb' : x ≠ [100, 111] := by simpa [isDo] using hb
        clear hb
        go_enter Tryz.func153, Tryz.ntmps153
        go_wp2_with (first
          | (go_at_call 191; refine H.out.mono ?_; rintro e w1 ⟨rfl, hr1, hg1⟩; unfold strv; obtain ⟨v1, hv1, -⟩ := id hr1; obtain ⟨q0, q1, -, -, -, qL⟩ := reader_cells hv1; clear hv1)
          | (go_at_call 193; refine (c193 x [35] _).mono ?_; rintro e w2 ⟨rfl, rfl⟩)
          | (go_at_call 192; refine (c192o _ hlen _).mono ?_; rw [HV.out]; rintro e w3 ⟨he, hb3⟩; obtain rfl : e = .returned (.int .i64 v) := he))
        go_ret
        exact ⟨by rw [← HO.out, HSt.out, HV.out]; rfl, hr1.grown hb3, hg1.trans (Grown.by hb3 _)⟩
      · have hb' : (x == [100, 111]) = true := by simpa [isDo] using hb
        clear hb
        go_enter Tryz.func153, Tryz.ntmps153
        go_wp2_with (first
          | (go_at_call 191; refine H.out.mono ?_; rintro e w1 ⟨rfl, hr1, hg1⟩; unfold strv; obtain ⟨v1, hv1, -⟩ := id hr1; obtain ⟨q0, q1, -, -, -, qL⟩ := reader_cells hv1; clear hv1)
          | (go_at_call 193; refine (c193 x [35] _).mono ?_; rintro e w2 ⟨rfl, rfl⟩)
          | (go_at_call 192; refine (c192o _ hlen _).mono ?_; rw [HV.out]; rintro e w3 ⟨he, hb3⟩; obtain rfl : e = .returned (.int .i64 v) := he))
        go_ret
        exact ⟨by rw [← HO.out, HSt.out, HV.out]; rfl, hr1.grown hb3, hg1.trans (Grown.by hb3 _)⟩
    | none =>
      have HV := Lib.hid hv
      clear hv
      rcases hb with hb | ⟨hb, h0⟩
      · have hb' : x ≠ [100, 111] := by simpa [isDo] using hb
        clear hb
        go_enter Tryz.func153, Tryz.ntmps153
        go_wp2_with (first
          | (go_at_call 191; refine H.out.mono ?_; rintro e w1 ⟨rfl, hr1, hg1⟩; unfold strv; obtain ⟨v1, hv1, -⟩ := id hr1; obtain ⟨q0, q1, -, -, -, qL⟩ := reader_cells hv1; clear hv1)
          | (go_at_call 193; refine (c193 x [35] _).mono ?_; rintro e w2 ⟨rfl, rfl⟩)
          | (go_at_call 192; refine (c192o _ hlen _).mono ?_; rw [HV.out]; rintro e w3 ⟨he, hb3⟩; obtain rfl : e = .panicked [unread] := he))
        exact ⟨rfl, by rw [← HO.out, HSt.out, HV.out]; rfl, hr1.grown hb3, hg1.trans (Grown.by hb3 _)⟩
      · have hb' : (x == [100, 111]) = true := by simpa [isDo] using hb
        clear hb
        go_enter Tryz.func153, Tryz.ntmps153
        go_wp2_with (first
          | (go_at_call 191; refine H.out.mono ?_; rintro e w1 ⟨rfl, hr1, hg1⟩; unfold strv; obtain ⟨v1, hv1, -⟩ := id hr1; obtain ⟨q0, q1, -, -, -, qL⟩ := reader_cells hv1; clear hv1)
          | (go_at_call 193; refine (c193 x [35] _).mono ?_; rintro e w2 ⟨rfl, rfl⟩)
          | (go_at_call 192; refine (c192o _ hlen _).mono ?_; rw [HV.out]; rintro e w3 ⟨he, hb3⟩; obtain rfl : e = .panicked [unread] := he))
        exact ⟨rfl, by rw [← HO.out, HSt.out, HV.out]; rfl, hr1.grown hb3, hg1.trans (Grown.by hb3 _)⟩
end Go.Proofs.YthifeoebefbalaaGreatDoor

namespace Go.Proofs.YthifeoebefbalaaGreatDoor
open Go.RowKit

/-- The parts of a text between equal bytes. -/
def splitL (c : UInt8) : List UInt8 → List (List UInt8)
  | [] => [[]]
  | x :: l => if x = c then [] :: splitL c l else match splitL c l with
    | [] => [[x]]
    | p :: ps => (x :: p) :: ps

theorem splitL_none (c : UInt8) (l : List UInt8) (h : c ∉ l) : splitL c l = [l] := by
  induction l with
  | nil => rfl
  | cons x l ih =>
    simp only [List.mem_cons, not_or] at h
    rw [splitL, if_neg (fun e => h.1 e.symm), ih h.2]
theorem splitL_hit (c : UInt8) (a b : List UInt8) (h : c ∉ a) : splitL c (a ++ c :: b) = a :: splitL c b := by
  induction a with
  | nil => simp [splitL]
  | cons x a ih =>
    simp only [List.mem_cons, not_or] at h
    rw [List.cons_append, splitL, if_neg (fun e => h.1 e.symm), ih h.2]

theorem indexByte_miss (c : UInt8) (l : List UInt8) (h : Lib.indexByte l c = -1) : c ∉ l := by
  induction l with
  | nil => simp
  | cons x l ih =>
    unfold Lib.indexByte at h
    have hge := Lib.indexByte_ge l c
    split at h
    · omega
    · rename_i hx
      split at h
      · rename_i h2
        simp only [List.mem_cons, not_or]
        exact ⟨fun e => hx (by simp [e]), ih (by simpa using h2)⟩
      · omega
theorem indexByte_hit (c : UInt8) : ∀ (l : List UInt8) (i : Nat), Lib.indexByte l c = (i : Int) → l = l.take i ++ c :: l.drop (i + 1) ∧ c ∉ l.take i ∧ i < l.length := by
  intro l
  induction l with
  | nil => intro i h; simp [Lib.indexByte] at h
  | cons x l ih =>
    intro i h
    unfold Lib.indexByte at h
    have hge := Lib.indexByte_ge l c
    split at h
    · rename_i hx
      have : i = 0 := by omega
      subst this
      simp at hx
      simp [hx]
    · rename_i hx
      split at h
      · omega
      · cases i with
        | zero => rename_i h2; simp at h2; omega
        | succ i =>
          obtain ⟨h1, h2, h3⟩ := ih i (by omega)
          refine ⟨?_, ?_, ?_⟩
          · simp only [List.take_succ_cons, List.cons_append, List.drop_succ_cons, List.cons.injEq, true_and]
            exact h1
          · simp only [List.take_succ_cons, List.mem_cons, not_or]
            exact ⟨fun e => hx (by simp [e]), h2⟩
          · simp; omega

theorem splitK_eq (c : UInt8) : ∀ (n : Nat) (l : List UInt8), l.length ≤ n → Lib.splitK [c] 0 (Lib.count l [c]) l = splitL c l := by
  intro n
  induction n with
  | zero =>
    intro l hl
    have : l = [] := List.length_eq_zero_iff.1 (by omega)
    subst this
    rfl
  | succ n ih =>
    intro l hl
    have hge := Lib.indexByte_ge l c
    by_cases h : Lib.indexByte l c = -1
    · rw [Lib.count_miss (by rw [Lib.index_one]; exact h), splitL_none c l (indexByte_miss c l h)]
      rfl
    · obtain ⟨i, hi⟩ : ∃ i : Nat, Lib.indexByte l c = (i : Int) := ⟨(Lib.indexByte l c).toNat, by omega⟩
      obtain ⟨h1, h2, h3⟩ := indexByte_hit c l i hi
      have hx : Lib.index l [c] = (i : Int) := by rw [Lib.index_one]; exact hi
      rw [Lib.count_hit (by simp) hx, Nat.add_comm 1, Lib.splitK, if_neg (by rw [hx]; simp), hx]
      simp only [Int.toNat_natCast, Nat.add_zero, List.length_singleton]
      rw [ih _ (by simp; omega)]
      conv => rhs; rw [h1]
      rw [splitL_hit c _ _ h2]

theorem splitL_mem (c : UInt8) (l : List UInt8) : ∀ p ∈ splitL c l, p.length ≤ l.length := by
  induction l with
  | nil => intro p hp; simp [splitL] at hp; simp [hp]
  | cons x l ih =>
    intro p hp
    unfold splitL at hp
    split at hp
    · rcases List.mem_cons.1 hp with rfl | hp
      · simp
      · have := ih p hp; simp; omega
    · split at hp
      · simp at hp; subst hp; simp
      · rename_i h
        rcases List.mem_cons.1 hp with rfl | hp
        · have := ih _ (by rw [h]; exact List.mem_cons_self); simp; omega
        · have := ih p (by rw [h]; exact List.mem_cons_of_mem _ hp); simp; omega

theorem c82 (l : List UInt8) (c : UInt8) (m : Int) (hl : l.length ≤ 4000) (w : World) (hm : w.cell? ⟨0, 0, none⟩ = some (.int .i64 m)) : Calls Tryz.prog 82 #[.string ⟨l.toArray⟩, .string ⟨#[c]⟩] w fun e w' =>
    e = .returned (.slice (some ⟨w.heap.size, 0, none⟩) (splitL c l).length (splitL c l).length) ∧ w' = w.alloc (.cells ((splitL c l).map strv).toArray 9) := by
  have e1 := splitK_eq c l.length l (Nat.le_refl _)
  have e2 := Lib.splitB_data ⟨#[c]⟩ 0 (Lib.countB ⟨l.toArray⟩ ⟨#[c]⟩) ⟨l.toArray⟩
  have e3 := Lib.splitB_all ⟨#[c]⟩ (by simp [ByteArray.size]) 0 (Lib.countB ⟨l.toArray⟩ ⟨#[c]⟩) ⟨l.toArray⟩ rfl
  have e4 : (Lib.splitB ⟨#[c]⟩ 0 (Lib.countB ⟨l.toArray⟩ ⟨#[c]⟩) ⟨l.toArray⟩).map (·.data.toList) = splitL c l := by rw [e2]; exact e1
  have e5 : (Lib.splitB ⟨#[c]⟩ 0 (Lib.countB ⟨l.toArray⟩ ⟨#[c]⟩) ⟨l.toArray⟩).map Value.string = (splitL c l).map strv := by
    rw [← e4, List.map_map]
    apply List.map_congr_left
    intro x _
    cases x
    simp [strv]
  have e6 : Lib.countB ⟨l.toArray⟩ ⟨#[c]⟩ + 1 = (splitL c l).length := by rw [← e3, ← e4]; simp
  have := Tryz.strings_Split ⟨l.toArray⟩ ⟨#[c]⟩ m w (by simp [ByteArray.size]; omega) hm (by simp [ByteArray.size])
  rw [e5, e6] at this
  exact this
end Go.Proofs.YthifeoebefbalaaGreatDoor
