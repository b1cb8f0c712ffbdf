/- What the reference reads in a line is what Read reads. -/
import Derived.Test.YthifeoebefbalaaGreatDoorY7
import Derived.Test.YthifeoebefbalaaGreatDoorZ11
import Derived.Test.YthifeoebefbalaaGreatDoorV6
set_option linter.unusedVariables false
set_option linter.unusedSimpArgs false
namespace Go.Proofs.YthifeoebefbalaaGreatDoor
open Go.RowKit

def cardF (c : Card) : Rd := if isCard c = true then .got c else .err 3
/-- Behind the number of days. -/
def finB (st da n : Int) : List (List UInt8) → Rd
  | [x] => match kindO x with
    | some k => cardF ⟨st, da, n, k, 0, 0⟩
    | none => if (decR x).2 = 0 then .form else cardF ⟨st, da, n, 1, (decR x).1, (decR x).2⟩
  | [x, y, z] => if y = toW then (match kindO x with
      | some _ => .form
      | none => if (decR z).2 = 0 then .form else if (decR x).2 = 0 then .form else cardF ⟨st, da, n, 1, (decR x).1, (decR z).1⟩) else .form
  | _ => .form
def finR (st da : Int) (nx : Bool) (ws : List (List UInt8)) : Rd := finB st (if nx = true then da + (lumpR ws).1 else da) (lumpR ws).1 (ws.drop (lumpR ws).2.toNat)
def stR (has : Bool) (b : Card) (x : List UInt8) : Int := if isDo x && has then b.st else orM (numO (Lib.trimPrefix x [35]))
def lineF (has : Bool) (b : Card) : List (List UInt8) → Rd
  | [] => .form
  | x :: ws => if stR has b x < 0 then .form else
      if has = true ∧ ws.head? = some nextW then finR (stR has b x) b.da true ws.tail else
      match datR ws with
      | none => .form
      | some p => finR (stR has b x) (orM (dnum p.1.y p.1.m p.1.d)) false (ws.drop p.2.toNat)

theorem hun_fine {x : List UInt8} {v : Int × Int} (h : hunO x = some v) : v.2 ≠ 0 := by
  unfold hunO at h
  split at h
  · cases hn : numO x with
    | none => rw [hn] at h; cases h
    | some u => rw [hn] at h; cases h; exact (by decide : (100 : Int) ≠ 0)
  · unfold hun2 at h
    split at h
    · cases h
    · split at h
      · rename_i n _ _
        cases hn : numO (x.drop ((Lib.indexAny x pc).toNat + 1)) with
        | none => rw [hn] at h; cases h
        | some u => rw [hn] at h; cases h; exact (by decide : (10 : Int) ≠ 0)
      · split at h
        · cases hn : numO (x.drop ((Lib.indexAny x pc).toNat + 1)) with
          | none => rw [hn] at h; cases h
          | some u => rw [hn] at h; cases h; exact (by decide : (1 : Int) ≠ 0)
        · cases h
theorem dec_none {x : List UInt8} (h : hunO x = none) : (decR x).2 = 0 := by rw [decR, h]; rfl
theorem dec_some {x : List UInt8} {v : Int × Int} (h : hunO x = some v) : decR x = v := by rw [decR, h]; rfl

/-- Kind and amount. -/
theorem amt_same (st da n : Int) (ws : List (List UInt8)) : finB st da n ws = match amtW ws with
    | .stop => .form
    | .got k a f ws' => if ws'.isEmpty = true then cardF ⟨st, da, n, k, a, f⟩ else .form := by
  match ws with
  | [] => rfl
  | x :: r =>
    cases hk : kindO x with
    | some k =>
      rw [amtW, hk]
      match r with
      | [] => simp only [finB, hk]; rfl
      | [y] => rfl
      | [y, z] =>
        simp only [finB, hk]
        split <;> rfl
      | y :: z :: u :: r => rfl
    | none =>
      rw [amtW, hk]
      cases hx : hunO x with
      | none =>
        have e := dec_none hx
        match r with
        | [] => simp only [finB, hk, e, if_true]
        | [y] => rfl
        | [y, z] =>
          simp only [finB, hk, e, if_true]
          split
          · split <;> rfl
          · rfl
        | y :: z :: u :: r => rfl
      | some v =>
        have hv := hun_fine hx
        have e := dec_some hx
        match r with
        | [] => simp only [finB, hk, e, if_neg hv, fineW]; rfl
        | [y] =>
          simp only [finB, fineW]
          by_cases hy : y = toW
          · rw [if_pos hy]
          · rw [if_neg hy]; rfl
        | y :: z :: r =>
          simp only [fineW]
          by_cases hy : y = toW
          · rw [if_pos hy]
            cases hz : hunO z with
            | none =>
              have ez := dec_none hz
              match r with
              | [] => simp only [finB, hk, if_pos hy, ez, if_true]
              | u :: r => rfl
            | some u =>
              have hu := hun_fine hz
              have ez := dec_some hz
              match r with
              | [] => simp only [finB, hk, if_pos hy, ez, e, if_neg hu, if_neg hv]; rfl
              | u :: r => rfl
          · rw [if_neg hy]
            match r with
            | [] => simp only [finB, if_neg hy]; rfl
            | u :: r => rfl

theorem wrap64_fit (n : Int) (h : -9223372036854775808 ≤ n ∧ n ≤ 9223372036854775807) : wrap64 n = n := by unfold wrap64; omega
theorem digs_not {x : List UInt8} (h : ∀ c ∈ x, isDig c = true) (d : UInt8) (hd : isDig d = false) : ∀ c ∈ x, c ≠ d := fun c hc e => by
  have := h c hc
  rw [e, hd] at this
  cases this
theorem isD_num {x : List UInt8} (h : isD x = true) : isNum x = false := by
  cases hn : isNum x with
  | false => rfl
  | true =>
    have h1 := (isNum_spec hn).2.2
    have h2 : Lib.hasSuffix x [100] = true := by
      unfold isD at h
      simp only [Bool.and_eq_true] at h
      exact h.1
    rw [suffix_no (d := 100) (by decide) (digs_not (fun c hc => List.all_eq_true.1 h1 c hc) _ (by decide))] at h2
    exact absurd h2 (by decide)
/-- The number of days. -/
theorem lump_same (ws : List (List UInt8)) : lumpW ws = .got (lumpR ws).1 (ws.drop (lumpR ws).2.toNat) ∨ (lumpW ws = .stop ∧ (lumpR ws).2 = 0 ∧ ∃ r, ws = forW :: r) := by
  match ws with
  | [] => exact .inl rfl
  | x :: r =>
    by_cases hf : x = forW
    · rw [lumpW, lumpR, if_pos hf, if_pos hf]
      match r with
      | [] => exact .inr ⟨rfl, rfl, [], by rw [hf]⟩
      | [y] =>
        rw [lump2, lumpR2]
        cases hd : isD y with
        | true => exact .inl rfl
        | false => exact .inr ⟨rfl, rfl, [y], by rw [hf]⟩
      | y :: z :: r =>
        rw [lump2, lumpR2]
        cases hd : isD y with
        | true =>
          rw [isD_num hd]
          exact .inl rfl
        | false =>
          cases hn : (isNum y && (decide (z = dayW) || decide (z = daysW))) with
          | true => exact .inl rfl
          | false => exact .inr ⟨rfl, rfl, y :: z :: r, by rw [hf]⟩
    · rw [lumpW, lumpR, if_neg hf, if_neg hf]
      match r with
      | [] =>
        rw [lump2, lumpR2]
        cases hd : isD x with
        | true => exact .inl rfl
        | false => exact .inl rfl
      | z :: r =>
        rw [lump2, lumpR2]
        cases hd : isD x with
        | true =>
          rw [isD_num hd]
          exact .inl rfl
        | false =>
          cases hn : (isNum x && (decide (z = dayW) || decide (z = daysW))) with
          | true => exact .inl rfl
          | false => exact .inl rfl
theorem fin_for (st da n : Int) (r : List (List UInt8)) : finB st da n (forW :: r) = .form := by
  have e : (decR forW).2 = 0 := by decide
  have k : kindO forW = none := by decide
  match r with
  | [] => simp only [finB, k, e, if_true]
  | [y] => rfl
  | [y, z] =>
    simp only [finB, k, e, if_true]
    split
    · split <;> rfl
    · rfl
  | y :: z :: u :: r => rfl
theorem isD_small {x : List UInt8} (h : isD x = true) : numV (Lib.trimSuffix x [100]) < 10000000000 := by
  unfold isD at h
  simp only [Bool.and_eq_true] at h
  exact numV_small h.2
theorem lumpR2_bd (n : Int) (ws : List (List UInt8)) : 0 ≤ (lumpR2 n ws).1 ∧ (lumpR2 n ws).1 < 10000000000 := by
  match ws with
  | [] => simp [lumpR2]
  | [x] =>
    rw [lumpR2]
    split
    · rename_i h
      have := isD_small h
      simp only
      omega
    · simp
  | x :: y :: r =>
    rw [lumpR2]
    split
    · rename_i h
      have := numV_small (l := x) (by simp only [Bool.and_eq_true] at h; exact h.1)
      simp only
      omega
    · split
      · rename_i h
        have := isD_small h
        simp only
        omega
      · simp
theorem lumpR_bd (ws : List (List UInt8)) : 0 ≤ (lumpR ws).1 ∧ (lumpR ws).1 < 10000000000 := by
  match ws with
  | [] => simp [lumpR]
  | x :: r =>
    rw [lumpR]
    split
    · exact lumpR2_bd _ _
    · exact lumpR2_bd _ _
theorem bad_date (st n k a f : Int) : cardF ⟨st, -1, n, k, a, f⟩ = .err 3 := by
  have h : isCard ⟨st, -1, n, k, a, f⟩ = false := by simp [isCard, within]
  rw [cardF, h]
  rfl
theorem rest_same (st da : Int) (nx : Bool) (d : Dt) (last : Card) (ws : List (List UInt8)) (h1 : nx = true → da = last.da ∧ -1 ≤ da ∧ da ≤ 100000) (h2 : nx = false → da = orM (dnum d.y d.m d.d)) : finR st da nx ws = restR st nx d last ws := by
  unfold finR restR
  rcases lump_same ws with h | ⟨h, h0, r, rfl⟩
  · rw [h, amt_same]
    have hb := lumpR_bd ws
    obtain ⟨n, hn⟩ : ∃ n, (lumpR ws).1 = n := ⟨_, rfl⟩
    rw [hn] at hb ⊢
    simp only
    cases h5 : amtW (ws.drop (lumpR ws).2.toNat) with
    | stop => rfl
    | got k a f ws' =>
      dsimp only
      by_cases he : ws'.isEmpty = true
      · rw [if_pos he, if_pos he]
        cases nx with
        | true =>
          obtain ⟨a1, a2, a3⟩ := h1 rfl
          rw [if_pos rfl, dateR, if_pos rfl, ← a1, wrap64_fit _ (by omega)]
          rfl
        | false =>
          have a1 := h2 rfl
          rw [if_neg (by decide), dateR, if_neg (by decide)]
          cases ho : dnum d.y d.m d.d with
          | none =>
            rw [ho] at a1
            rw [a1]
            exact bad_date st n k a f
          | some u =>
            rw [ho] at a1
            rw [a1]
            rfl
      · rw [if_neg he, if_neg he]
  · rw [h, h0]
    exact fin_for _ _ _ _
end Go.Proofs.YthifeoebefbalaaGreatDoor
