/- Parts: W10, U8, W12. -/
import Derived.Test.YthifeoebefbalaaGreatDoorCR12
import Derived.Test.YthifeoebefbalaaGreatDoorCR13
import Derived.Test.YthifeoebefbalaaGreatDoorCR14
import Derived.Test.YthifeoebefbalaaGreatDoorCR2
import Derived.Test.YthifeoebefbalaaGreatDoorCR3
import Derived.Test.YthifeoebefbalaaGreatDoorCR4
import Derived.Test.YthifeoebefbalaaGreatDoorCR5
import Derived.Test.YthifeoebefbalaaGreatDoorCR8
import Derived.Test.YthifeoebefbalaaGreatDoorCR10
import Derived.Test.YthifeoebefbalaaGreatDoorCR11
set_option linter.unusedVariables false
set_option linter.unusedSimpArgs false
set_option linter.unnecessarySimpa false
namespace Go.Proofs.YthifeoebefbalaaGreatDoor
open Go.RowKit

/-- From a date on: the best of before, or a longer one. -/
def fromF (D : Int → Bool × Bool) (d : Int) : Nat → Nat → Bool → Int × Int → Int × Int
  | _, 0, _, best => best
  | n, m + 1, sm, best => if (D (d + n - 1)).1 = true then
      fromF D d (n + 1) m (sm || (D (d + n - 1)).2) (if (sm || (D (d + n - 1)).2) = true ∧ best.2 < (n : Int) then (d, (n : Int)) else best)
    else best
def copiedF (D : Int → Bool × Bool) (k : Nat) : List Int → Int × Int → Int × Int
  | [], best => best
  | d :: ds, best => copiedF D k ds (fromF D d 1 k false best)
def copiedR (D : Int → Bool × Bool) (ds : List Int) : Int × Int := copiedF D ds.length ds (0, 0)
theorem fromF_stop {D : Int → Bool × Bool} {d : Int} {n m : Nat} {s : Bool} {b : Int × Int} (h : (D (d + n - 1)).1 = false) : fromF D d n m s b = b := by
  cases m with
  | zero => rfl
  | succ m => rw [fromF, if_neg (by rw [h]; exact Bool.false_ne_true)]
theorem fromF_go {D : Int → Bool × Bool} {d : Int} {n k : Nat} {s s' : Bool} {b : Int × Int} (hn : n ≤ k) (h : (D (d + n - 1)).1 = true) (h2 : (s || (D (d + n - 1)).2) = s') : fromF D d n (k + 1 - n) s b = fromF D d (n + 1) (k + 1 - (n + 1)) s' (if s' = true ∧ b.2 < (n : Int) then (d, (n : Int)) else b) := by
  rw [show k + 1 - n = (k + 1 - (n + 1)) + 1 by omega, fromF, if_pos h, h2]
theorem fromF_end {D : Int → Bool × Bool} {d : Int} {k : Nat} {s : Bool} {b : Int × Int} : fromF D d (k + 1) (k + 1 - (k + 1)) s b = b := by rw [Nat.sub_self, fromF]
theorem two_ints {w : World} {b : Nat} {x y : Int} (h : w.heap[b]? = some (.cells #[.int .i64 x, .int .i64 y] 99 (0, 0))) : w.cell? ⟨b, 0, none⟩ = some (.int .i64 x) ∧ w.cell? ⟨b, 1, none⟩ = some (.int .i64 y) ∧ (∀ i, w.frozen? ⟨b, i, none⟩ = false) ∧ b < w.heap.size :=
  ⟨by simp [World.cell?, h], by simp [World.cell?, h], fun i => by simp [World.frozen?, h], (Array.getElem?_eq_some_iff.1 h).1⟩
theorem grown_cell {w w' : World} {B k i : Nat} {u : Value} (h : w.grownBy w' (some B)) (hu : w.cell? ⟨k, i, none⟩ = some u) (hk : k ≠ B) : w'.cell? ⟨k, i, none⟩ = some u := by
  rw [World.cell?_of_block (h.block k (World.block_lt_of_cell? w _ hu) (by simp; omega)), hu]
theorem grown_below {w w1 w' : World} {B : Nat} (h0 : Below w.heap.size w w1) (h : w1.grownBy w' (some B)) (hB : w.heap.size ≤ B) : Below w.heap.size w w' :=
  ⟨h.os.trans h0.os, h.tape.trans h0.tape, h.output.trans h0.output, Nat.le_trans h0.size h.size, fun k hk => (h.block k (Nat.lt_of_lt_of_le hk h0.size) (by simp; omega)).trans (h0.block k hk)⟩
theorem two_set {w : World} {b : Nat} {x y : Int} (h : w.heap[b]? = some (.cells #[.int .i64 x, .int .i64 y] 99 (0, 0))) (u v : Int) : ((w.setCell ⟨b, 0, none⟩ (.int .i64 u)).setCell ⟨b, 1, none⟩ (.int .i64 v)).heap[b]? = some (.cells #[.int .i64 u, .int .i64 v] 99 (0, 0)) := by
  have h1 := cells_set (cells_set h 0 (.int .i64 u)) 1 (.int .i64 v)
  simpa using h1
theorem set_grown {w1 w : World} {b : Nat} (h : w1.grownBy w (some b)) (i : Nat) (v : Value) : w1.grownBy (w.setCell ⟨b, i, none⟩ v) (some b) :=
  ⟨h.os, h.tape, h.output, by simpa using h.size, fun k hk hne => by
    have hkb : k ≠ b := fun e => hne (by rw [e])
    rw [← h.block k hk hne]
    show (w.heap.modify b _)[k]? = _
    rw [Array.getElem?_modify, if_neg (fun e => hkb e.symm)]⟩
end Go.Proofs.YthifeoebefbalaaGreatDoor

namespace Go.Proofs.YthifeoebefbalaaGreatDoor
open Go.RowKit

/-- Days d, d + 1, .. as many. -/
def upFrom (d : Int) : Nat → List Int
  | 0 => []
  | n + 1 => d :: upFrom (d + 1) n
theorem upFrom_len (d : Int) (n : Nat) : (upFrom d n).length = n := by
  induction n generalizing d with
  | zero => rfl
  | succ n ih => simp [upFrom, ih]
theorem upFrom_mem {d x : Int} {n : Nat} : x ∈ upFrom d n ↔ d ≤ x ∧ x < d + n := by
  induction n generalizing d with
  | zero => simp [upFrom] <;> omega
  | succ n ih => simp [upFrom, ih]; omega
theorem upFrom_snoc (d : Int) (n : Nat) : upFrom d (n + 1) = upFrom d n ++ [d + n] := by
  induction n generalizing d with
  | zero => simp [upFrom]
  | succ n ih =>
    rw [upFrom, ih, upFrom]
    simp
    try omega
def wetF (D : Int → Bool × Bool) (r : Int × Int) : Bool := (upFrom r.1 r.2.toNat).any fun d => (D d).2
def bestF (D : Int → Bool × Bool) (best r : Int × Int) : Int × Int := if wetF D r = true ∧ best.2 < r.2 then r else best
def copP (D : Int → Bool × Bool) (ks : List Int) : Int × Int := (runsF ks).foldl (bestF D) (0, 0)
theorem best_step (d : Int) (n t : Nat) (s u : Bool) (b : Int × Int) (hu : t = 0 → u = false) : (if 0 < t ∧ (s || u) = true ∧ (if s = true ∧ b.2 < (n : Int) then (d, (n : Int)) else b).2 < (n : Int) + t then (d, (n : Int) + t) else if s = true ∧ b.2 < (n : Int) then (d, (n : Int)) else b) = if 0 < t + 1 ∧ (s || u) = true ∧ b.2 < (n : Int) + t then (d, (n : Int) + t) else b := by
  obtain ⟨x, y⟩ := b
  by_cases h0 : t = 0
  · subst h0
    rw [hu rfl]
    cases s <;> simp
  · have h0' : 0 < t := by omega
    have hy : (n : Int) < n + t := by omega
    by_cases h1 : s = true ∧ y < (n : Int)
    · simp only [if_pos h1]
      rw [if_pos ⟨h0', by simp [h1.1], hy⟩, if_pos ⟨by omega, by simp [h1.1], by omega⟩]
    · simp only [if_neg h1]
      by_cases h2 : (s || u) = true ∧ y < (n : Int) + t
      · rw [if_pos ⟨h0', h2⟩, if_pos ⟨by omega, h2⟩]
      · rw [if_neg fun h => h2 h.2, if_neg fun h => h2 h.2]
/-- From a date on: as far as it goes. -/
theorem fromF_run {D : Int → Bool × Bool} {d : Int} : ∀ (t n m : Nat) (s : Bool) (b : Int × Int), 1 ≤ n → (∀ j : Nat, j < t → (D (d + n - 1 + j)).1 = true) → t ≤ m → (t = m ∨ (D (d + n - 1 + t)).1 = false) →
    fromF D d n m s b = if 0 < t ∧ (s || (upFrom (d + n - 1) t).any fun x => (D x).2) = true ∧ b.2 < (n : Int) - 1 + t then (d, (n : Int) - 1 + t) else b := by
  intro t
  induction t with
  | zero =>
    intro n m s b hn h1 h2 h3
    rw [if_neg (by omega)]
    rcases h3 with h3 | h3
    · subst h3; rfl
    · exact fromF_stop (by simpa using h3)
  | succ t ih =>
    intro n m s b hn h1 h2 h3
    obtain ⟨m, rfl⟩ : ∃ k, m = k + 1 := ⟨m - 1, by omega⟩
    have h0 : (D (d + n - 1)).1 = true := by simpa using h1 0 (by omega)
    have e1 : (d + ((n + 1 : Nat) : Int) - 1) = d + n - 1 + 1 := by omega
    rw [fromF, if_pos h0, ih (n + 1) m _ _ (by omega) (fun j hj => by rw [e1]; have := h1 (j + 1) (by omega); rw [show d + n - 1 + 1 + (j : Int) = d + n - 1 + ((j + 1 : Nat) : Int) by omega]; exact this) (by omega) (by
      rcases h3 with h3 | h3
      · exact .inl (by omega)
      · right; rw [e1, show d + n - 1 + 1 + (t : Int) = d + n - 1 + ((t + 1 : Nat) : Int) by omega]; exact h3)]
    rw [e1, upFrom, List.any_cons, ← Bool.or_assoc]
    rw [show ((n + 1 : Nat) : Int) - 1 + t = (n : Int) + t by omega, show (n : Int) - 1 + ((t + 1 : Nat) : Int) = n + t by omega]
    exact best_step d n t _ _ b (by rintro rfl; rfl)
theorem fold_up (d : Int) : ∀ (n : Nat) (P : List (Int × Int)) (y : Int), (upFrom (d + y) n).foldl runStep (P ++ [(d, y)]) = P ++ [(d, y + n)] := by
  intro n
  induction n with
  | zero => intro P y; simp [upFrom]
  | succ n ih =>
    intro P y
    rw [upFrom, List.foldl_cons, runStep_on P d y _ rfl, show d + y + 1 = d + (y + 1) by omega, ih]
    simp
    omega
theorem run_ne (P : List (Int × Int)) (d : Int) : runStep P d ≠ [] := by
  unfold runStep
  split
  · split <;> simp
  · simp
theorem run_pre (P Q : List (Int × Int)) (d : Int) (h : Q ≠ []) : runStep (P ++ Q) d = P ++ runStep Q d := by
  obtain ⟨Q, r, rfl⟩ : ∃ Q' r, Q = Q' ++ [r] := ⟨Q.dropLast, Q.getLast h, (List.dropLast_concat_getLast h).symm⟩
  rw [← List.append_assoc]
  by_cases hr : r.1 + r.2 = d
  · rw [runStep_on (P ++ Q) r.1 r.2 d hr, runStep_on Q r.1 r.2 d hr, List.append_assoc]
  · rw [runStep_new (P ++ Q) r.1 r.2 d hr, runStep_new Q r.1 r.2 d hr]
    simp
theorem fold_pre (P : List (Int × Int)) : ∀ (L : List Int) (Q : List (Int × Int)), Q ≠ [] → L.foldl runStep (P ++ Q) = P ++ L.foldl runStep Q := by
  intro L
  induction L with
  | nil => intros; rfl
  | cons x L ih =>
    intro Q h
    rw [List.foldl_cons, run_pre P Q x h, ih _ (run_ne Q x), List.foldl_cons]
/-- A run, and what is behind it. -/
theorem runs_split (d : Int) (n : Nat) (L : List Int) (h : ∀ x ∈ L.head?, x ≠ d + (n + 1 : Nat)) : runsF (upFrom d (n + 1) ++ L) = (d, ((n + 1 : Nat) : Int)) :: runsF L := by
  rw [runsF, List.foldl_append, upFrom, List.foldl_cons]
  rw [show runStep [] d = [] ++ [(d, 1)] from rfl, fold_up d n [] 1]
  rw [show (1 : Int) + n = ((n + 1 : Nat) : Int) by omega]
  cases L with
  | nil => rfl
  | cons x L =>
    rw [List.foldl_cons, runStep_new [] _ _ _ (by have := h x (by simp); omega)]
    rw [fold_pre _ _ _ (by simp)]
    rfl
theorem copiedF_app (D : Int → Bool × Bool) (k : Nat) : ∀ (L M : List Int) (b : Int × Int), copiedF D k (L ++ M) b = copiedF D k M (copiedF D k L b) := by
  intro L
  induction L with
  | nil => intros; rfl
  | cons x L ih => intro M b; simp [copiedF, ih]
/-- The dates of a run behind its first one tell nothing new. -/
theorem copiedF_rest {D : Int → Bool × Bool} {k : Nat} {d : Int} {t : Nat} (hD : ∀ x, d ≤ x → x < d + t → (D x).1 = true) (he : (D (d + t)).1 = false) (hk : t ≤ k) : ∀ (n : Nat) (c : Int) (b : Int × Int), d ≤ c → c + n = d + t → (wetF D (d, t) = true → (t : Int) ≤ b.2) → copiedF D k (upFrom c n) b = b := by
  intro n
  induction n with
  | zero => intros; rfl
  | succ n ih =>
    intro c b hc hcn hw
    rw [upFrom, copiedF, fromF_run (n + 1) 1 k false b (by omega) (fun j hj => hD _ (by omega) (by omega)) (by omega) (.inr (by rw [← he]; congr 2; omega)), if_neg]
    · exact ih (c + 1) b (by omega) (by omega) hw
    · rintro ⟨-, h2, h3⟩
      have : wetF D (d, (t : Int)) = true := by
        simp only [Bool.false_or, List.any_eq_true] at h2
        obtain ⟨x, hx, hx2⟩ := h2
        rw [upFrom_mem] at hx
        rw [wetF, List.any_eq_true]
        exact ⟨x, by rw [upFrom_mem]; simp; omega, hx2⟩
      have := hw this
      omega
theorem copiedF_run {D : Int → Bool × Bool} {k : Nat} {d : Int} {t : Nat} (ht : 0 < t) (hD : ∀ x, d ≤ x → x < d + t → (D x).1 = true) (he : (D (d + t)).1 = false) (hk : t ≤ k) (b : Int × Int) : copiedF D k (upFrom d t) b = bestF D b (d, t) := by
  obtain ⟨n, rfl⟩ : ∃ n, t = n + 1 := ⟨t - 1, by omega⟩
  rw [upFrom, copiedF, fromF_run (n + 1) 1 k false b (by omega) (fun j hj => hD _ (by omega) (by omega)) hk (.inr (by rw [← he]; congr 2; omega))]
  have e : (if 0 < n + 1 ∧ (false || (upFrom (d + ((1 : Nat) : Int) - 1) (n + 1)).any fun x => (D x).2) = true ∧ b.2 < ((1 : Nat) : Int) - 1 + ((n + 1 : Nat) : Int) then (d, ((1 : Nat) : Int) - 1 + ((n + 1 : Nat) : Int)) else b) = bestF D b (d, ((n + 1 : Nat) : Int)) := by
    rw [bestF, wetF]
    simp only [show d + ((1 : Nat) : Int) - 1 = d by omega, show ((1 : Nat) : Int) - 1 + ((n + 1 : Nat) : Int) = ((n + 1 : Nat) : Int) by omega, Int.toNat_natCast, Bool.false_or]
    simp
  rw [e]
  refine copiedF_rest (d := d) (t := n + 1) hD he hk n (d + 1) _ (by omega) (by omega) (fun hw => ?_)
  rw [bestF]
  split
  · simp
  · rename_i h
    have : ¬ b.2 < ((n + 1 : Nat) : Int) := fun h' => h ⟨hw, h'⟩
    omega
/-- A rising list that has all days of a run: it begins with it. -/
theorem rise_run : ∀ (t : Nat) (d : Int) (ds : List Int), (d :: ds).Pairwise (· < ·) → (∀ x, d ≤ x → x < d + (t + 1 : Nat) → x ∈ d :: ds) → ∃ L, d :: ds = upFrom d (t + 1) ++ L ∧ ∀ x ∈ L, d + (t + 1 : Nat) ≤ x := by
  intro t
  induction t with
  | zero =>
    intro d ds hs hm
    refine ⟨ds, by simp [upFrom], fun x hx => ?_⟩
    have := (List.pairwise_cons.1 hs).1 x hx
    omega
  | succ t ih =>
    intro d ds hs hm
    have hs' := List.pairwise_cons.1 hs
    have h1 : d + 1 ∈ ds := by
      have := hm (d + 1) (by omega) (by omega)
      rcases List.mem_cons.1 this with h | h
      · omega
      · exact h
    obtain ⟨c, ds, rfl⟩ : ∃ c cs, ds = c :: cs := by
      cases ds with
      | nil => simp at h1
      | cons c cs => exact ⟨c, cs, rfl⟩
    have hc : c = d + 1 := by
      have h2 := hs'.1 c (by simp)
      rcases List.mem_cons.1 h1 with h | h
      · exact h.symm
      · have := (List.pairwise_cons.1 hs'.2).1 _ h
        omega
    subst hc
    obtain ⟨L, hL, hL2⟩ := ih (d + 1) ds hs'.2 (fun x h1 h2 => by
      have := hm x (by omega) (by omega)
      rcases List.mem_cons.1 this with h | h
      · omega
      · exact h)
    refine ⟨L, by rw [hL]; rfl, fun x hx => ?_⟩
    have := hL2 x hx
    omega
theorem run_len {D : Int → Bool × Bool} : ∀ (k : Nat) (d : Int), (D d).1 = true → (∀ t : Nat, (∀ x, d ≤ x → x < d + t → (D x).1 = true) → t ≤ k) → ∃ t : Nat, 0 < t ∧ (∀ x, d ≤ x → x < d + t → (D x).1 = true) ∧ (D (d + t)).1 = false ∧ t ≤ k := by
  intro k d h0 hk
  have aux : ∀ n : Nat, (∀ x, d ≤ x → x < d + n → (D x).1 = true) ∨ ∃ t : Nat, t < n ∧ (∀ x, d ≤ x → x < d + t → (D x).1 = true) ∧ (D (d + t)).1 = false := by
    intro n
    induction n with
    | zero => left; intro x h1 h2; omega
    | succ n ih =>
      rcases ih with ih | ⟨t, h1, h2, h3⟩
      · cases hn : (D (d + n)).1 with
        | false => exact .inr ⟨n, by omega, ih, hn⟩
        | true =>
          left; intro x h1 h2
          by_cases hx : x = d + n
          · rw [hx, hn]
          · exact ih x h1 (by omega)
      · exact .inr ⟨t, by omega, h2, h3⟩
  rcases aux (k + 1) with h | ⟨t, h1, h2, h3⟩
  · have := hk _ h; omega
  · refine ⟨t, ?_, h2, h3, hk _ h2⟩
    rcases Nat.eq_zero_or_pos t with h | h
    · subst h; simp [h0] at h3
    · exact h
/-- The search from every date finds what the search over the runs finds. -/
theorem copied_eqF {D : Int → Bool × Bool} {k : Nat} : ∀ (n : Nat) (ds : List Int) (b : Int × Int), ds.length ≤ n → ds.length ≤ k → ds.Pairwise (· < ·) → (∀ x d, d ∈ ds.head? → d ≤ x → (D x).1 = true → x ∈ ds) → copiedF D k ds b = (runsF (ds.filter fun d => (D d).1)).foldl (bestF D) b := by
  intro n
  induction n with
  | zero =>
    intro ds b h
    have : ds = [] := List.eq_nil_of_length_eq_zero (by omega)
    subst this
    intros; rfl
  | succ n ih =>
    intro ds b hn hk hs hm
    cases ds with
    | nil => rfl
    | cons d ds =>
      have hs' := List.pairwise_cons.1 hs
      cases hd : (D d).1 with
      | false =>
        rw [copiedF, fromF_stop (by rw [← hd]; congr 2; omega), List.filter_cons, if_neg (by simp [hd])]
        refine ih ds b (by simpa using hn) (by simp at hk; omega) hs'.2 (fun x e he h1 h2 => ?_)
        have hde := hs'.1 e (by cases ds <;> simp_all)
        have := hm x d (by simp) (by omega) h2
        rcases List.mem_cons.1 this with h | h
        · omega
        · exact h
      | true =>
        obtain ⟨t, ht, hD, he, htk⟩ := run_len (D := D) (d :: ds).length d hd (fun t ht => by
          have h1 : ∀ x ∈ upFrom d t, x ∈ d :: ds := fun x hx => by
            rw [upFrom_mem] at hx
            exact hm x d (by simp) hx.1 (ht x hx.1 hx.2)
          have h2 : (upFrom d t).Nodup := by
            clear ht h1
            induction t generalizing d with
            | zero => simp [upFrom]
            | succ t ih =>
              have : ∀ (m : Nat) (c : Int), (upFrom c m).Nodup := by
                intro m
                induction m with
                | zero => intro c; simp [upFrom]
                | succ m ihm =>
                  intro c
                  rw [upFrom, List.nodup_cons]
                  exact ⟨by rw [upFrom_mem]; omega, ihm _⟩
              exact this _ _
          have := h2.length_le_of_subset h1
          rwa [upFrom_len] at this)
        obtain ⟨m, rfl⟩ : ∃ m, t = m + 1 := ⟨t - 1, by omega⟩
        obtain ⟨L, hL, hL2⟩ := rise_run m d ds hs (fun x h1 h2 => hm x d (by simp) h1 (hD x h1 h2))
        have hsL : L.Pairwise (· < ·) := by rw [hL] at hs; exact (List.pairwise_append.1 hs).2.1
        have hlen : (d :: ds).length = m + 1 + L.length := by rw [hL, List.length_append, upFrom_len]
        have hh : ∀ x ∈ (L.filter fun d => (D d).1).head?, x ≠ d + (m + 1 : Nat) := fun x hx hx2 => by
          have : x ∈ L.filter fun d => (D d).1 := List.mem_of_mem_head? hx
          have := (List.mem_filter.1 this).2
          rw [hx2] at this
          exact absurd (he.symm.trans this) Bool.false_ne_true
        have hfil : (upFrom d (m + 1)).filter (fun d => (D d).1) = upFrom d (m + 1) := by
          rw [List.filter_eq_self]
          intro x hx
          rw [upFrom_mem] at hx
          exact hD x hx.1 hx.2
        rw [hL, copiedF_app, copiedF_run ht hD he (by omega), List.filter_append, hfil, runs_split d m _ hh, List.foldl_cons]
        refine ih L _ (by simp at hn hlen; omega) (by omega) hsL (fun x e hxe h1 h2 => ?_)
        have hLe := hL2 e (List.mem_of_mem_head? hxe)
        have := hm x d (by simp) (by omega) h2
        rw [hL, List.mem_append, upFrom_mem] at this
        rcases this with h | h
        · omega
        · exact h
theorem copied_eq {D : Int → Bool × Bool} {ds : List Int} (hs : ds.Pairwise (· < ·)) (hm : ∀ x, (D x).1 = true → x ∈ ds) : copiedR D ds = copP D (ds.filter fun d => (D d).1) :=
  copied_eqF ds.length ds (0, 0) (Nat.le_refl _) (Nat.le_refl _) hs fun x _ _ _ h => hm x h
theorem mem_take_lt {d x : Int} {out : List Int} (h : x ∈ out.take (cutI d out)) : x < d := by
  rw [cutI, ← List.prefix_iff_eq_take.1 (List.takeWhile_prefix _)] at h
  have : ∀ L : List Int, x ∈ L.takeWhile (fun x => decide (x < d)) → x < d := by
    intro L
    induction L with
    | nil => simp
    | cons y L ih =>
      rw [List.takeWhile_cons]
      split
      · rename_i hy
        intro h
        rcases List.mem_cons.1 h with rfl | h
        · simpa using hy
        · exact ih h
      · simp
  exact this out h
theorem cut_drop_ge {d x : Int} : ∀ {out : List Int}, out.Pairwise (· < ·) → x ∈ out.drop (cutI d out) → d ≤ x
  | [], _, h => by simp at h
  | y :: out, hs, h => by
    have hs' := List.pairwise_cons.1 hs
    by_cases hy : y < d
    · have e : cutI d (y :: out) = cutI d out + 1 := by simp [cutI, List.takeWhile_cons, hy]
      rw [e, List.drop_succ_cons] at h
      exact cut_drop_ge hs'.2 h
    · have e : cutI d (y :: out) = 0 := by simp [cutI, List.takeWhile_cons, hy]
      rw [e, List.drop_zero] at h
      rcases List.mem_cons.1 h with h | h
      · omega
      · have := hs'.1 x h; omega
theorem insD_rise {out : List Int} {d : Int} (hs : out.Pairwise (· < ·)) : (insD out d).Pairwise (· < ·) ∧ ∀ x, x ∈ insD out d ↔ x ∈ out ∨ x = d := by
  unfold insD
  split
  · rename_i h
    refine ⟨hs, fun x => ⟨.inl, ?_⟩⟩
    rintro (h1 | rfl)
    · exact h1
    · exact List.mem_of_getElem? h
  · rename_i h
    have hg : ∀ x ∈ out.drop (cutI d out), d < x := fun x hx => by
      have h1 := cut_drop_ge hs hx
      rcases Int.lt_or_eq_of_le h1 with h2 | h2
      · exact h2
      · subst h2
        exfalso
        apply h
        have hsd : (out.drop (cutI d out)).Pairwise (· < ·) := hs.sublist (List.drop_sublist _ _)
        cases hD : out.drop (cutI d out) with
        | nil => rw [hD] at hx; simp at hx
        | cons y L =>
          have hy : d ≤ y := cut_drop_ge hs (by rw [hD]; simp)
          rw [hD] at hx hsd
          have : y = d := by
            rcases List.mem_cons.1 hx with h3 | h3
            · exact h3.symm
            · have := (List.pairwise_cons.1 hsd).1 _ h3; omega
          have h5 : (out.drop (cutI d out))[0]? = some y := by rw [hD]; rfl
          rw [List.getElem?_drop] at h5
          rw [← this]; simpa [this] using h5
    refine ⟨?_, fun x => ?_⟩
    · rw [List.append_assoc, List.pairwise_append]
      refine ⟨hs.sublist (List.take_sublist _ _), ?_, fun x hx y hy => ?_⟩
      · rw [List.singleton_append, List.pairwise_cons]
        exact ⟨hg, hs.sublist (List.drop_sublist _ _)⟩
      · have h1 := mem_take_lt hx
        rw [List.singleton_append] at hy
        rcases List.mem_cons.1 hy with h2 | h2
        · omega
        · have := hg y h2; omega
    · rw [List.mem_append, List.mem_append, List.mem_singleton]
      have : x ∈ out ↔ x ∈ out.take (cutI d out) ∨ x ∈ out.drop (cutI d out) := by
        conv => lhs; rw [← List.take_append_drop (cutI d out) out]
        exact List.mem_append
      rw [this]
      constructor
      · rintro ((h | h) | h)
        · exact .inl (.inl h)
        · exact .inr h
        · exact .inl (.inr h)
      · rintro ((h | h) | h)
        · exact .inl (.inl h)
        · exact .inr h
        · exact .inl (.inr h)
theorem dates_fold (l : List Int) : ∀ out : List Int, out.Pairwise (· < ·) → (l.foldl insD out).Pairwise (· < ·) ∧ ∀ x, x ∈ l.foldl insD out ↔ x ∈ out ∨ x ∈ l := by
  induction l with
  | nil => intro out h; exact ⟨h, fun x => by simp⟩
  | cons d l ih =>
    intro out h
    obtain ⟨h1, h2⟩ := insD_rise (d := d) h
    obtain ⟨h3, h4⟩ := ih _ h1
    refine ⟨h3, fun x => ?_⟩
    rw [List.foldl_cons, h4, h2, List.mem_cons, or_assoc]
theorem dates_rise (l : List Card) : (datesR l).Pairwise (· < ·) := (dates_fold _ [] List.Pairwise.nil).1
theorem dates_iff {l : List Card} {x : Int} : x ∈ datesR l ↔ ∃ c ∈ l, c.da = x := by
  rw [datesR, (dates_fold _ [] List.Pairwise.nil).2]
  simp
/-- What is known of the runs of rising days. -/
structure RunsOf (out : List (Int × Int)) (ds : List Int) : Prop where
  gap : out.Pairwise fun r s => r.1 + r.2 < s.1
  pos : ∀ r ∈ out, 1 ≤ r.2
  has : ∀ x, x ∈ ds ↔ ∃ r ∈ out, r.1 ≤ x ∧ x < r.1 + r.2
  sum : (out.map (·.2)).sum = ds.length
theorem runs_of_step {out : List (Int × Int)} {ds : List Int} {d : Int} (h : RunsOf out ds) (hd : ∀ x ∈ ds, x < d) : RunsOf (runStep out d) (ds ++ [d]) := by
  rcases List.eq_nil_or_concat out with rfl | ⟨P, r, rfl⟩
  · have hn : ds = [] := by
      cases ds with
      | nil => rfl
      | cons y ds => have := (h.has y).1 (by simp); simp at this
    subst hn
    refine ⟨by simp [runStep], by simp [runStep], fun x => ?_, by simp [runStep]⟩
    simp [runStep]
    omega
  · rw [List.concat_eq_append] at h ⊢
    have hr1 := h.pos r (by simp)
    have hin : r.1 + r.2 - 1 ∈ ds := (h.has _).2 ⟨r, by simp, by omega, by omega⟩
    have hlt := hd _ hin
    have hgP := List.pairwise_append.1 h.gap
    have hPr : ∀ s ∈ P, s.1 + s.2 < r.1 := fun s hs => hgP.2.2 s hs r (by simp)
    by_cases hrd : r.1 + r.2 = d
    · obtain ⟨x0, y0⟩ := r
      rw [runStep_on P x0 y0 d hrd]
      simp only at hr1 hin hlt hPr hrd
      refine ⟨?_, ?_, fun x => ?_, ?_⟩
      · rw [List.pairwise_append]
        exact ⟨hgP.1, by simp, fun s hs t ht => by simp at ht; subst ht; exact hPr s hs⟩
      · intro s hs
        rcases List.mem_append.1 hs with hs | hs
        · exact h.pos s (by simp [hs])
        · simp at hs; subst hs; simp; omega
      · rw [List.mem_append, h.has, List.mem_singleton]
        constructor
        · rintro (⟨s, hs, h1, h2⟩ | rfl)
          · rcases List.mem_append.1 hs with hs | hs
            · exact ⟨s, by simp [hs], h1, h2⟩
            · simp at hs; subst hs
              exact ⟨(x0, y0 + 1), by simp, h1, by simp only at h2 ⊢; omega⟩
          · exact ⟨(x0, y0 + 1), by simp, by simp only; omega, by simp only; omega⟩
        · rintro ⟨s, hs, h1, h2⟩
          rcases List.mem_append.1 hs with hs | hs
          · exact .inl ⟨s, by simp [hs], h1, h2⟩
          · simp at hs; subst hs
            simp only at h1 h2
            by_cases hx : x = d
            · exact .inr hx
            · exact .inl ⟨(x0, y0), by simp, h1, by simp only; omega⟩
      · have := h.sum
        simp at this ⊢
        omega
    · rw [show P ++ [r] = P ++ [(r.1, r.2)] from rfl, runStep_new P r.1 r.2 d hrd]
      rw [show P ++ [(r.1, r.2)] = P ++ [r] from rfl]
      refine ⟨?_, ?_, fun x => ?_, ?_⟩
      · rw [List.pairwise_append]
        refine ⟨h.gap, by simp, fun s hs t ht => ?_⟩
        simp at ht; subst ht
        simp only
        rcases List.mem_append.1 hs with hs | hs
        · have := hPr s hs; omega
        · simp at hs; subst hs; omega
      · intro s hs
        rcases List.mem_append.1 hs with hs | hs
        · exact h.pos s hs
        · simp at hs; subst hs; simp
      · rw [List.mem_append, h.has, List.mem_singleton]
        constructor
        · rintro (⟨s, hs, h1, h2⟩ | rfl)
          · exact ⟨s, List.mem_append_left _ hs, h1, h2⟩
          · exact ⟨(x, 1), by simp, by simp only; omega, by simp only; omega⟩
        · rintro ⟨s, hs, h1, h2⟩
          rcases List.mem_append.1 hs with hs | hs
          · exact .inl ⟨s, hs, h1, h2⟩
          · simp at hs; subst hs
            simp only at h1 h2
            exact .inr (by omega)
      · have := h.sum
        simp at this ⊢
        omega
theorem runs_of : ∀ (n : Nat) (ds : List Int), ds.length = n → ds.Pairwise (· < ·) → RunsOf (runsF ds) ds := by
  intro n
  induction n with
  | zero =>
    intro ds h hs
    have : ds = [] := List.eq_nil_of_length_eq_zero h
    subst this
    exact ⟨by simp [runsF], by simp [runsF], fun x => by simp [runsF], by simp [runsF]⟩
  | succ n ih =>
    intro ds h hs
    rcases List.eq_nil_or_concat ds with rfl | ⟨L, d, rfl⟩
    · simp at h
    · rw [List.concat_eq_append] at h hs ⊢
      have hp := List.pairwise_append.1 hs
      have := ih L (by simpa using h) hp.1
      rw [runsF, List.foldl_append]
      exact runs_of_step this fun x hx => hp.2.2 x hx d (by simp)
/-- The days of which two stations say the same. -/
def sameD (l : List Card) (a b : Int) : List Int := (datesR l).filter fun d => (dayR l a b d).1
def copR (l : List Card) (a b : Int) : Int × Int := copP (dayR l a b) (sameD l a b)
theorem daily_da {l : List Card} {st d : Int} {c : Card} (h : c ∈ dailiesR l st d) : c ∈ l ∧ c.st = st ∧ c.da = d ∧ c.dy = 1 := by
  obtain ⟨h1, h2⟩ := List.mem_filter.1 h
  simp [dailyB] at h2
  exact ⟨h1, h2.1, h2.2.1, h2.2.2⟩
theorem daily_in {l : List Card} {st d : Int} (h : (dailiesR l st d).isEmpty = false) : d ∈ datesR l := by
  cases hl : dailiesR l st d with
  | nil => rw [hl] at h; simp at h
  | cons c L =>
    have := daily_da (l := l) (st := st) (d := d) (c := c) (by rw [hl]; simp)
    exact dates_iff.2 ⟨c, this.1, this.2.2.1⟩
theorem same_a {l : List Card} {a b d : Int} (h : (dayR l a b d).1 = true) : (dailiesR l a d).isEmpty = false ∧ (dailiesR l b d).isEmpty = false := by
  simp only [dayR, Bool.and_eq_true, Bool.not_eq_true'] at h
  exact h.1
theorem same_iff {l : List Card} {a b d : Int} : d ∈ sameD l a b ↔ (dayR l a b d).1 = true := by
  rw [sameD, List.mem_filter]
  exact ⟨fun h => h.2, fun h => ⟨daily_in (same_a h).1, h⟩⟩
theorem same_rise (l : List Card) (a b : Int) : (sameD l a b).Pairwise (· < ·) := (dates_rise l).filter _
/-- The reference's search is the program's. -/
theorem cop_ref (l : List Card) (a b : Int) : copiedR (dayR l a b) (datesR l) = copR l a b :=
  copied_eq (dates_rise l) fun x h => daily_in (same_a h).1
theorem fold_best {D : Int → Bool × Bool} : ∀ (rs : List (Int × Int)) (b : Int × Int), rs.foldl (bestF D) b = b ∨ rs.foldl (bestF D) b ∈ rs := by
  intro rs
  induction rs with
  | nil => intro b; exact .inl rfl
  | cons r rs ih =>
    intro b
    rw [List.foldl_cons]
    rcases ih (bestF D b r) with h | h
    · rw [h, bestF]
      split
      · exact .inr (by simp)
      · exact .inl rfl
    · exact .inr (by simp [h])
theorem cop_zero {l : List Card} {a b : Int} (h : (copR l a b).2 = 0) : copR l a b = (0, 0) := by
  have hk := runs_of _ (sameD l a b) rfl (same_rise l a b)
  rcases fold_best (D := dayR l a b) (runsF (sameD l a b)) (0, 0) with h1 | h1
  · exact h1
  · have := hk.pos _ h1
    have e : (copR l a b).2 = ((runsF (sameD l a b)).foldl (bestF (dayR l a b)) (0, 0)).2 := rfl
    omega
/-- The runs of a station. -/
theorem runsR_of (l : List Card) (st : Int) : RunsOf (runsR l st) ((datesR l).filter fun d => !(dailiesR l st d).isEmpty) := runs_of _ _ rfl ((dates_rise l).filter _)
theorem runsR_sum (l : List Card) (st : Int) : ((runsR l st).map (·.2)).sum ≤ l.length := by
  rw [(runsR_of l st).sum]
  have := List.length_filter_le (fun d => !(dailiesR l st d).isEmpty) (datesR l)
  have := datesR_len l
  omega
end Go.Proofs.YthifeoebefbalaaGreatDoor

namespace Go.Proofs.YthifeoebefbalaaGreatDoor
open Go.RowKit

theorem isCard_da {c : Card} (h : isCard c = true) : 0 ≤ c.da ∧ c.da ≤ 60000 := by
  unfold isCard within at h
  simp only [Bool.and_eq_true, decide_eq_true_eq] at h
  exact h.1.1.1.2
theorem two_at9 {w : World} {b : Nat} {x y : Int} (h : w.heap[b]? = some (.cells #[.int .i64 x, .int .i64 y] 99 (0, 0))) : w.cell? ⟨b, 0, none⟩ = some (.int .i64 x) ∧ w.cell? ⟨b, 1, none⟩ = some (.int .i64 y) ∧ (∀ i, w.frozen? ⟨b, i, none⟩ = false) ∧ b < w.heap.size := two_ints h
theorem grown_on {w1 w w' : World} {B : Nat} (h : w1.grownBy w (some B)) (hb : Below w.heap.size w w') : w1.grownBy w' (some B) :=
  ⟨hb.os.trans h.os, hb.tape.trans h.tape, hb.output.trans h.output, Nat.le_trans h.size hb.size, fun k hk hne => (hb.block k (Nat.lt_of_lt_of_le hk h.size)).trans (h.block k hk hne)⟩
theorem heap_on {w w' : World} {B : Nat} {o : Obj} (h : w.heap[B]? = some o) (hb : Below w.heap.size w w') : w'.heap[B]? = some o := (hb.block _ (Array.getElem?_eq_some_iff.1 h).1).trans h
set_option maxRecDepth 100000 in
set_option maxHeartbeats 16000000 in
theorem c71 (l : List Card) (v : Value) (a b : Int) (w : World) (hcv : CardsV w v l) (hn : l.length ≤ 200) (hval : ∀ c ∈ l, isCard c = true) : Calls Tryz.prog 71 #[v, .int .i64 a, .int .i64 b] w fun e w' => e = .returned (.agg #[.int .i64 (copR l a b).1, .int .i64 (copR l a b).2]) ∧ Below w.heap.size w w' := by
  have H114 : ∀ (W : World) (d : Int), Below w.heap.size w W → Hid (Calls Tryz.prog 114 #[v, .int .i64 a, .int .i64 b, .int .i64 d] W fun e w' => e = .returned (.agg #[.bool (dayR l a b d).1, .bool (dayR l a b d).2]) ∧ Below W.heap.size W w') := fun W d hW => Lib.hid (c114 l v a b d W (hcv.below hW) hn hval)
  have H112 : ∀ (W : World), Below w.heap.size w W → Hid (Calls Tryz.prog 112 #[v] W fun e w' => ∃ v, e = .returned v ∧ w'.ownsRow W.heap.size 3 1 v (datesR l).length (intsC (datesR l)) ∧ Below W.heap.size W w') := fun W hW => Lib.hid (c112 l v W (hcv.below hW) hn)
  have hdl := datesR_len l
  have HDB : Hid (∀ d ∈ datesR l, 0 ≤ d ∧ d ≤ 60000) := Lib.hid fun d hd => by
    obtain ⟨c, hc, e⟩ := dates_mem hd
    rw [← e]; exact isCard_da (hval c hc)
  have HRES := Lib.hid (cop_ref l a b)
  obtain ⟨D, hD⟩ : ∃ D, dayR l a b = D := ⟨_, rfl⟩
  rw [hD] at HRES
  simp only [hD] at H114
  have HV : Hid (∃ p c, v = .slice p l.length c) := Lib.hid (by obtain ⟨p, c, e, -⟩ := hcv; exact ⟨p, c, e⟩)
  clear hval hcv hD
  obtain ⟨pv, cp, rfl⟩ := HV.out
  clear HV
  go_enter Tryz.func71, Tryz.ntmps71
  go_wp2_with fail
  refine (H112 _ (xa (xa (xr _) _) _)).out.mono ?_
  rintro e w1 ⟨vd, rfl, hod, hb1⟩
  obtain ⟨ds, hds⟩ : ∃ ds, datesR l = ds := ⟨_, rfl⟩
  obtain ⟨n, hnd⟩ : ∃ n, ds.length = n := ⟨_, rfl⟩
  have hfd : ∃ p c, vd = .slice p n c := by
    rcases hod.2 with ⟨e1, e2⟩ | ⟨g, cp, cur, e1, -⟩
    · rw [hds, hnd] at e2; exact ⟨none, 0, by rw [e1, e2]⟩
    · rw [hds, hnd] at e1; exact ⟨_, cp, e1⟩
  obtain ⟨pd, cd, rfl⟩ := hfd
  have hsz1 := hb1.size
  simp at hsz1
  have hB7 : w1.heap[w.heap.size + 1]? = some (.cells #[.int .i64 0, .int .i64 0] 99 (0, 0)) := (hb1.block _ (by simp)).trans (by have := World.alloc_heap_new (w.alloc (.cells #[.int .i64 0, .int .i64 0] 99)) (.cells #[.int .i64 0, .int .i64 0] 99); simpa using this)
  have hR6 : w1.heap[w.heap.size]? = some (.cells #[.int .i64 0, .int .i64 0] 99 (0, 0)) := (hb1.block _ (by simp; omega)).trans (by
    have h1 := World.alloc_heap_new w (.cells #[.int .i64 0, .int .i64 0] 99)
    exact ((below_alloc (w.alloc (.cells #[.int .i64 0, .int .i64 0] 99)) _).block _ (by simp)).trans h1)
  have HB1 := Lib.hid (below_trans (xa (xa (xr w) _) _) hb1)
  rw [hds] at hod hdl HDB HRES
  rw [hnd] at hdl
  have HOD := Lib.hid hod
  have HND := Lib.hid hnd
  have HR6 := Lib.hid hR6
  have HB7 := Lib.hid hB7
  clear hod hb1 hnd hds H112 hR6 hB7
  obtain ⟨B, hB⟩ : ∃ B, w.heap.size + 1 = B := ⟨_, rfl⟩
  rw [hB] at HB7 ⊢
  go_wp2_with fail
  go_loopw [9] (fun k wr => ∃ (i : Nat) (x y : Int), i ≤ n ∧ k = .int .i64 i ∧ Hid (copiedF D n (ds.drop i) (x, y) = copR l a b) ∧ Hid (wr.heap[B]? = some (.cells #[.int .i64 x, .int .i64 y] 99 (0, 0))) ∧ Hid (w1.grownBy wr (some B))) (fun k _ => n - (intOf k).toNat)
  case atStart => exact ⟨0, 0, 0, by omega, rfl, Lib.hid (by rw [← HRES.out, copiedR, HND.out]; rfl), HB7, Lib.hid ⟨rfl, rfl, rfl, Nat.le_refl _, fun _ _ _ => rfl⟩⟩
  case round =>
    obtain ⟨i, x0, y0, hi, rfl, hF, HBB, HGR⟩ := hrel
    by_cases hlt : i < n
    · obtain ⟨d, hd⟩ : ∃ d, ds[i]? = some d := by
        have := HND.out
        exact ⟨ds[i]'(by omega), by simp⟩
      have hdb := HDB.out d (List.mem_of_getElem? hd)
      obtain ⟨qd, cpd, ed, hcpd, lqd, hqB, hall⟩ := ints_at HOD.out hd
      have hdrop : ds.drop i = d :: ds.drop (i + 1) := by
        obtain ⟨h1, h2⟩ := List.getElem?_eq_some_iff.1 hd
        rw [List.drop_eq_getElem_cons h1, h2]
      have hF2 : Hid (copiedF D n (ds.drop (i + 1)) (fromF D d 1 n false (x0, y0)) = copR l a b) := Lib.hid (by rw [← hF.out, hdrop, copiedF])
      have hqne : qd ≠ B := by simp at hqB; omega
      have hdq1 := Lib.hid (hall i d hd)
      injection ed with ed1 ed2 ed3
      subst ed1
      clear hd hall ed2 ed3 hcpd lqd hF hdrop hqB
      go_wp2_with fail
      go_loopw [10, 11] (fun s k wr => ∃ (m : Nat) (sb : Bool) (x y : Int), 1 ≤ m ∧ m ≤ n + 1 ∧ s = .bool sb ∧ k = .int .i64 m ∧ Hid (fromF D d m (n + 1 - m) sb (x, y) = fromF D d 1 n false (x0, y0)) ∧ Hid (wr.heap[B]? = some (.cells #[.int .i64 x, .int .i64 y] 99 (0, 0))) ∧ Hid (w1.grownBy wr (some B))) (fun _ k _ => n + 1 - (intOf k).toNat)
      case atStart => exact ⟨1, false, x0, y0, by omega, by omega, rfl, rfl, Lib.hid (by rw [show n + 1 - 1 = n by omega]), HBB, HGR⟩
      case round =>
        obtain ⟨m, sb, x, y, hm1, hm2, rfl, rfl, hFm, HBm, HGm⟩ := hrel
        have hBw := grown_below HB1.out HGm.out (by omega)
        by_cases hle : m ≤ n
        · have hdq := grown_cell HGm.out hdq1.out hqne
          have lqd2 := World.block_lt_of_cell? _ _ hdq
          simp only at lqd2
          obtain ⟨⟨sa, so⟩, hDm⟩ : ∃ p, D (d + m - 1) = p := ⟨_, rfl⟩
          have HC := H114 wr (d + m - 1) hBw
          rw [hDm] at HC
          have HDM := Lib.hid hDm
          clear hDm H114
          go_wp2_with fail
          refine HC.out.mono ?_
          rintro e w2 ⟨rfl, hb2⟩
          have HB2 := Lib.hid (heap_on HBm.out hb2)
          have HG2 := Lib.hid (grown_on HGm.out hb2)
          have hdq2 := (hb2.cell (p := ⟨qd, i, none⟩) lqd2).trans hdq
          have lqd3 := World.block_lt_of_cell? _ _ hdq2
          simp only at lqd3
          obtain ⟨b0, b1, bF, bL⟩ := two_at9 HB2.out
          clear hb2 HC hdq lqd2 hBw HBm HGm
          cases sa with
          | false =>
            have hend : Hid ((x, y) = fromF D d 1 n false (x0, y0)) := Lib.hid (by rw [← hFm.out, fromF_stop (by rw [HDM.out])])
            go_wp2_with fail
            go_roundw
            case rel => exact ⟨i + 1, x, y, by omega, by go_num, Lib.hid (by rw [hend.out, hF2.out]), Lib.hid (heap_on HB2.out (below_alloc _ _)), Lib.hid (grown_on HG2.out (below_alloc _ _))⟩
            case measure => simp [intOf]; omega
          | true =>
            have hstep : ∀ s', (sb || so) = s' → fromF D d (m + 1) (n + 1 - (m + 1)) s' (if s' = true ∧ y < (m : Int) then (d, (m : Int)) else (x, y)) = fromF D d 1 n false (x0, y0) := fun s' h => by
              rw [← hFm.out]
              exact (fromF_go (D := D) (d := d) (b := (x, y)) hle (by rw [HDM.out]) (by rw [HDM.out]; exact h)).symm
            cases sb with
            | false =>
              cases so with
              | false =>
                have hs := Lib.hid (hstep false rfl)
                clear hstep
                go_wp2_with fail
                go_roundw
                case rel => exact ⟨m + 1, false, x, y, by omega, by omega, rfl, by go_num, Lib.hid (by have h := hs.out; rw [if_neg (by simp)] at h; exact h), Lib.hid (heap_on HB2.out (below_alloc _ _)), Lib.hid (grown_on HG2.out (below_alloc _ _))⟩
                case measure => simp [intOf]; omega
              | true =>
                have hs := Lib.hid (hstep true rfl)
                clear hstep
                have hb3 := two_at9 (heap_on HB2.out (below_alloc w2 (.cells #[.bool true, .bool true] 139)))
                by_cases hy : y < (m : Int)
                · go_wp2_with fail
                  go_roundw
                  case rel => exact ⟨m + 1, true, d, m, by omega, by omega, rfl, by go_num, Lib.hid (by have h := hs.out; simpa [hy] using h), Lib.hid (heap_on (two_set HB2.out _ _) (below_alloc _ _)), Lib.hid (grown_on (set_grown (set_grown HG2.out _ _) _ _) (below_alloc _ _))⟩
                  case measure => simp [intOf]; omega
                · go_wp2_with fail
                  go_roundw
                  case rel => exact ⟨m + 1, true, x, y, by omega, by omega, rfl, by go_num, Lib.hid (by have h := hs.out; simpa [show ¬ y < (m : Int) by omega] using h), Lib.hid (heap_on HB2.out (below_alloc _ _)), Lib.hid (grown_on HG2.out (below_alloc _ _))⟩
                  case measure => simp [intOf]; omega
            | true =>
              cases so with
              | false =>
                have hs := Lib.hid (hstep true rfl)
                clear hstep
                have hb3 := two_at9 (heap_on HB2.out (below_alloc w2 (.cells #[.bool true, .bool false] 139)))
                by_cases hy : y < (m : Int)
                · go_wp2_with fail
                  go_roundw
                  case rel => exact ⟨m + 1, true, d, m, by omega, by omega, rfl, by go_num, Lib.hid (by have h := hs.out; simpa [hy] using h), Lib.hid (heap_on (two_set HB2.out _ _) (below_alloc _ _)), Lib.hid (grown_on (set_grown (set_grown HG2.out _ _) _ _) (below_alloc _ _))⟩
                  case measure => simp [intOf]; omega
                · go_wp2_with fail
                  go_roundw
                  case rel => exact ⟨m + 1, true, x, y, by omega, by omega, rfl, by go_num, Lib.hid (by have h := hs.out; simpa [show ¬ y < (m : Int) by omega] using h), Lib.hid (heap_on HB2.out (below_alloc _ _)), Lib.hid (grown_on HG2.out (below_alloc _ _))⟩
                  case measure => simp [intOf]; omega
              | true =>
                have hs := Lib.hid (hstep true rfl)
                clear hstep
                have hb3 := two_at9 (heap_on HB2.out (below_alloc w2 (.cells #[.bool true, .bool true] 139)))
                by_cases hy : y < (m : Int)
                · go_wp2_with fail
                  go_roundw
                  case rel => exact ⟨m + 1, true, d, m, by omega, by omega, rfl, by go_num, Lib.hid (by have h := hs.out; simpa [hy] using h), Lib.hid (heap_on (two_set HB2.out _ _) (below_alloc _ _)), Lib.hid (grown_on (set_grown (set_grown HG2.out _ _) _ _) (below_alloc _ _))⟩
                  case measure => simp [intOf]; omega
                · go_wp2_with fail
                  go_roundw
                  case rel => exact ⟨m + 1, true, x, y, by omega, by omega, rfl, by go_num, Lib.hid (by have h := hs.out; simpa [show ¬ y < (m : Int) by omega] using h), Lib.hid (heap_on HB2.out (below_alloc _ _)), Lib.hid (grown_on HG2.out (below_alloc _ _))⟩
                  case measure => simp [intOf]; omega
        · obtain rfl : m = n + 1 := by omega
          have hend : Hid ((x, y) = fromF D d 1 n false (x0, y0)) := Lib.hid (by rw [← hFm.out, fromF_end])
          have hle' : ¬ ((n + 1 : Nat) : Int) ≤ (n : Int) := Int.not_le.2 (by exact_mod_cast Nat.lt_succ_self n)
          go_wp2_with fail
          go_roundw
          case rel => exact ⟨i + 1, x, y, by omega, by go_num, Lib.hid (by rw [hend.out, hF2.out]), HBm, HGm⟩
          case measure => simp [intOf]; omega
    · obtain rfl : i = n := by omega
      have hend : Hid ((x0, y0) = copR l a b) := Lib.hid (by rw [← hF.out, List.drop_eq_nil_of_le (by rw [HND.out]; exact Nat.le_refl _)]; rfl)
      obtain ⟨b0, b1, bF, bL⟩ := two_at9 HBB.out
      obtain ⟨r0, r1, rF, rL⟩ := two_at9 ((HGR.out.block _ (Array.getElem?_eq_some_iff.1 HR6.out).1 (by simp; omega)).trans HR6.out)
      have hbw := Lib.hid (grown_below HB1.out HGR.out (by omega))
      have hne : w.heap.size ≠ B := by omega
      go_wp2_with fail
      exact bodyPost_ret (v := .agg #[.int .i64 x0, .int .i64 y0]) (by simp [results, Tryz.results71, go_sem, b0, b1, r0, r1, rF]) rfl ⟨by rw [← hend.out], xs (xs hbw.out (by simp) _) (by simp) _⟩
end Go.Proofs.YthifeoebefbalaaGreatDoor
