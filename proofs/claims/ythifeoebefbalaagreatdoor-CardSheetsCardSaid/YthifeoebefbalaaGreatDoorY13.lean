/- The reference: what ends a card. -/
import Derived.Test.YthifeoebefbalaaGreatDoorY10
import Derived.Test.YthifeoebefbalaaGreatDoorY11
import Derived.Test.YthifeoebefbalaaGreatDoorZ14
set_option linter.unusedVariables false
set_option linter.unusedSimpArgs false
namespace Go.Proofs.YthifeoebefbalaaGreatDoor
open Go.RowKit

def gotV (r : Rd) : Value := .agg #[.int .i64 (rdC r).st, .int .i64 (rdC r).da, .int .i64 (rdC r).dy, .int .i64 (rdC r).ki, .int .i64 (rdC r).am, .int .i64 (rdC r).fi, .int .i64 (rdE r)]
theorem lumpR2_k (n : Nat) (ws : List (List UInt8)) : ∃ k : Nat, (lumpR2 n ws).2 = k ∧ k ≤ n + ws.length := by
  match ws with
  | [] => exact ⟨0, rfl, by omega⟩
  | [x] =>
    rw [lumpR2]
    split
    · exact ⟨n + 1, rfl, by simp⟩
    · exact ⟨0, rfl, by omega⟩
  | x :: y :: r =>
    rw [lumpR2]
    split
    · exact ⟨n + 2, rfl, by simp <;> omega⟩
    · split
      · exact ⟨n + 1, rfl, by simp <;> omega⟩
      · exact ⟨0, rfl, by omega⟩
theorem lumpR_k (ws : List (List UInt8)) : ∃ k : Nat, (lumpR ws).2 = k ∧ k ≤ ws.length := by
  match ws with
  | [] => exact ⟨0, rfl, by omega⟩
  | x :: r =>
    rw [lumpR]
    split
    · obtain ⟨k, h1, h2⟩ := lumpR2_k 1 r
      exact ⟨k, h1, by simp; omega⟩
    · obtain ⟨k, h1, h2⟩ := lumpR2_k 0 (x :: r)
      exact ⟨k, h1, by simpa using h2⟩
theorem kind_ne {x : List UInt8} {k : Int} (h : kindO x = some k) : ¬ k = 1 := by
  unfold kindO at h
  cases hf : kindL.find? (fun p => p.1 == x) with
  | none => rw [hf] at h; cases h
  | some p =>
    rw [hf] at h
    have hm := List.mem_of_find?_eq_some hf
    simp at h
    have : ∀ p ∈ kindL, ¬ p.2 = 1 := by decide
    rw [← h]
    exact this p hm
theorem c159_H {x : List UInt8} {k : Int} (h : (kindO x).getD 1 = k) (hl : x.length ≤ 4000) : ∀ W, Hid (Calls Tryz.prog 159 #[.string ⟨x.toArray⟩] W fun e w' => e = .returned (.int .i64 k) ∧ Below W.heap.size W w') := fun W => Lib.hid (by rw [← h]; exact (c159 x W).mono fun _ _ hh => ⟨hh.1, by rw [← hh.2]; exact xr _⟩)
theorem c160_H {x : List UInt8} {d : Int × Int} (h : decR x = d) (hl : x.length ≤ 4000) : ∀ W, Hid (Calls Tryz.prog 160 #[.string ⟨x.toArray⟩] W fun e w' => e = .returned (.agg #[.int .i64 d.1, .int .i64 d.2]) ∧ Below W.heap.size W w') := fun W => Lib.hid (by rw [← h]; exact c160 x W hl)
theorem c37_G {st da dy ki am fi : Int} {b : Bool} (h : isCard ⟨st, da, dy, ki, am, fi⟩ = b) : ∀ W, Hid (Calls Tryz.prog 37 #[.agg #[.int .i64 st, .int .i64 da, .int .i64 dy, .int .i64 ki, .int .i64 am, .int .i64 fi]] W fun e w' => e = .returned (.bool b) ∧ Below W.heap.size W w') := fun W => Lib.hid (by rw [← h]; exact c37 st da dy ki am fi W)
theorem wordsV_ne {w : World} {v : Value} {l : List (List UInt8)} (h : WordsV w v l) (hne : l ≠ []) : ∃ g o cap, v = .slice (some ⟨g, o, none⟩) l.length cap ∧ l.length ≤ cap ∧ g < w.heap.size ∧ ∀ i u, l[i]? = some u → w.cell? ⟨g, o + i, none⟩ = some (.string ⟨u.toArray⟩) := by
  obtain ⟨a, cap, rfl, hc, k⟩ := h
  obtain ⟨g, o, rfl, hg, hk⟩ := k hne
  exact ⟨g, o, cap, rfl, hc, hg, hk⟩
theorem got_of {args : Array Value} {w : World} {v : Value} (r : Rd) (h : Calls Tryz.prog 119 args w fun e w' => e = .returned v ∧ Below w.heap.size w w') (hv : v = gotV r) : Calls Tryz.prog 119 args w fun e w' => e = .returned (gotV r) ∧ Below w.heap.size w w' := by rw [← hv]; exact h
set_option maxRecDepth 100000 in
set_option maxHeartbeats 4000000 in
theorem c119n (st da : Int) (v : Value) (ws : List (List UInt8)) (w : World) (hne : ws ≠ []) (hv : WordsV w v ws) (hl : ∀ u ∈ ws, u.length ≤ 4000) (hN : ws.length ≤ 4000) (hd0 : -1 ≤ da) (hd1 : da ≤ 100000) : Calls Tryz.prog 119 #[.agg #[.int .i64 st, .int .i64 da, .int .i64 0, .int .i64 0, .int .i64 0, .int .i64 0], v, .bool true] w fun e w' => e = .returned (gotV (finR st da true ws)) ∧ Below w.heap.size w w' := by
  obtain ⟨g, o, cap, rfl, hcap, hg, HC⟩ := wordsV_ne hv hne
  obtain ⟨k, hk, hkl⟩ := lumpR_k ws
  obtain ⟨hn0, hn1⟩ := lumpR_bd ws
  obtain ⟨n, hn⟩ : ∃ n, (lumpR ws).1 = n := ⟨_, rfl⟩
  have H158 : ∀ W, Below w.heap.size w W → Hid (Calls Tryz.prog 158 #[.slice (some ⟨g, o, none⟩) ws.length cap] W fun e w' => e = .returned (.agg #[.int .i64 n, .int .i64 (k : Int)]) ∧ Below W.heap.size W w') := fun W hb => Lib.hid (by
    have := c158 _ ws W (hv.below hb) hl hN
    rw [hn, hk] at this
    exact this)
  rw [hn] at hn0 hn1
  obtain ⟨r, hr⟩ : ∃ r, ws.drop k = r := ⟨_, rfl⟩
  have hlen : ws.length = k + r.length := by rw [← hr, List.length_drop]; omega
  have HR : ∀ i u, r[i]? = some u → w.cell? ⟨g, o + k + i, none⟩ = some (.string ⟨u.toArray⟩) := fun i u h => by
    rw [Nat.add_assoc]
    exact HC (k + i) u (by rw [← hr, List.getElem?_drop] at h; exact h)
  have hL : ∀ u ∈ r, u.length ≤ 4000 := fun u hu => hl u (by rw [← hr] at hu; exact List.mem_of_mem_drop hu)
  unfold finR
  rw [hn, hk, Int.toNat_natCast, hr, if_pos rfl]
  clear HC hv hne hl hkl hn hk hr
  cases r with
  | nil =>
    have hlen : ws.length = k := hlen
    rw [hlen] at hcap hN H158 ⊢
    by_cases hck : cap = k
    · subst hck
      exact got_of .form (c119n_s0 g o cap st da n w hN hg hn0 hn1 hd0 hd1 H158) rfl
    · exact got_of .form (c119n_s1 g o cap k st da n 0 (by omega) (by omega) w hcap hN hg hck hn0 hn1 hd0 hd1 H158) rfl
  | cons x r =>
    have q0 := HR 0 x rfl
    have hx := hL x (by simp)
    cases r with
    | nil =>
      have hlen : ws.length = k + 1 := hlen
      rw [hlen] at hcap hN H158 ⊢
      cases hk : kindO x with
      | some ki =>
        have h1 := kind_ne hk
        have e : finB st (da + n) n [x] = cardF ⟨st, da + n, n, ki, 0, 0⟩ := by simp only [finB, hk]
        rw [e]
        cases hc : isCard ⟨st, da + n, n, ki, 0, 0⟩ with
        | false =>
          rw [cardF, hc]
          exact got_of (.err 3) (c119n_k0 g o cap k st da n x ki h1 (by simpa using h1) w hcap hN hg (by omega) hn0 hn1 hd0 hd1 q0 H158 (c159_H (by rw [hk]; rfl) hx) (c37_G hc)) rfl
        | true =>
          rw [cardF, hc]
          exact got_of (.got _) (c119n_k1 g o cap k st da n x ki h1 (by simpa using h1) w hcap hN hg (by omega) hn0 hn1 hd0 hd1 q0 H158 (c159_H (by rw [hk]; rfl) hx) (c37_G hc)) rfl
      | none =>
        have H159 := c159_H (x := x) (k := 1) (by rw [hk]; rfl) hx
        obtain ⟨⟨a1, a2⟩, hd⟩ : ∃ d, decR x = d := ⟨_, rfl⟩
        have HA := c160_H hd hx
        have e : finB st (da + n) n [x] = if a2 = 0 then .form else cardF ⟨st, da + n, n, 1, a1, a2⟩ := by simp only [finB, hk, hd]
        rw [e]
        by_cases h2 : a2 = 0
        · subst h2
          rw [if_pos rfl]
          exact got_of .form (c119n_n g o cap k st da n x a1 w hcap hN hg (by omega) hn0 hn1 hd0 hd1 q0 H158 H159 HA) rfl
        · rw [if_neg h2]
          cases hc : isCard ⟨st, da + n, n, 1, a1, a2⟩ with
          | false =>
            rw [cardF, hc]
            exact got_of (.err 3) (c119n_a0 g o cap k st da n x a1 a2 h2 (by simpa using h2) w hcap hN hg (by omega) hn0 hn1 hd0 hd1 q0 H158 H159 HA (c37_G hc)) rfl
          | true =>
            rw [cardF, hc]
            exact got_of (.got _) (c119n_a1 g o cap k st da n x a1 a2 h2 (by simpa using h2) w hcap hN hg (by omega) hn0 hn1 hd0 hd1 q0 H158 H159 HA (c37_G hc)) rfl
    | cons y r =>
      have q1 := HR 1 y rfl
      cases r with
      | nil =>
        have hlen : ws.length = k + 2 := hlen
        rw [hlen] at hcap hN H158 ⊢
        exact got_of .form (c119n_s1 g o cap k st da n 2 (by omega) (by omega) w hcap hN hg (by omega) hn0 hn1 hd0 hd1 H158) rfl
      | cons z r =>
        have q2 := HR 2 z rfl
        have hz := hL z (by simp)
        cases r with
        | cons u r =>
          have hlen : ws.length = k + (r.length + 1 + 1 + 1 + 1) := hlen
          rw [hlen] at hcap hN H158 ⊢
          exact got_of .form (c119n_s1 g o cap k st da n (r.length + 1 + 1 + 1 + 1) (by omega) (by omega) w hcap hN hg (by omega) hn0 hn1 hd0 hd1 H158) rfl
        | nil =>
          have hlen : ws.length = k + 3 := hlen
          rw [hlen] at hcap hN H158 ⊢
          by_cases hy : y = toW
          · subst hy
            cases hk : kindO x with
            | some ki =>
              have h1 := kind_ne hk
              have e : finB st (da + n) n [x, toW, z] = .form := by simp only [finB, hk, if_true]
              rw [e]
              exact got_of .form (c119n_u g o cap k st da n x z ki h1 (by simpa using h1) w hcap hN hg (by omega) hn0 hn1 hd0 hd1 q0 q1 q2 H158 (c159_H (by rw [hk]; rfl) hx)) rfl
            | none =>
              have H159 := c159_H (x := x) (k := 1) (by rw [hk]; rfl) hx
              obtain ⟨⟨a1, a2⟩, hd⟩ : ∃ d, decR x = d := ⟨_, rfl⟩
              obtain ⟨⟨f1, f2⟩, hf⟩ : ∃ d, decR z = d := ⟨_, rfl⟩
              have HA := c160_H hd hx
              have HF := c160_H hf hz
              have e : finB st (da + n) n [x, toW, z] = if f2 = 0 then .form else if a2 = 0 then .form else cardF ⟨st, da + n, n, 1, a1, f1⟩ := by simp only [finB, hk, hd, hf, if_true]
              rw [e]
              by_cases h4 : f2 = 0
              · subst h4
                rw [if_pos rfl]
                exact got_of .form (c119n_f g o cap k st da n x z a1 a2 f1 w hcap hN hg (by omega) hn0 hn1 hd0 hd1 q0 q1 q2 H158 H159 HA HF) rfl
              · rw [if_neg h4]
                by_cases h2 : a2 = 0
                · subst h2
                  rw [if_pos rfl]
                  exact got_of .form (c119n_d g o cap k st da n x z a1 f1 f2 h4 (by simpa using h4) w hcap hN hg (by omega) hn0 hn1 hd0 hd1 q0 q1 q2 H158 H159 HA HF) rfl
                · rw [if_neg h2]
                  cases hc : isCard ⟨st, da + n, n, 1, a1, f1⟩ with
                  | false =>
                    rw [cardF, hc]
                    exact got_of (.err 3) (c119n_v0 g o cap k st da n x z a1 a2 f1 f2 h4 (by simpa using h4) h2 (by simpa using h2) w hcap hN hg (by omega) hn0 hn1 hd0 hd1 q0 q1 q2 H158 H159 HA HF (c37_G hc)) rfl
                  | true =>
                    rw [cardF, hc]
                    exact got_of (.got _) (c119n_v1 g o cap k st da n x z a1 a2 f1 f2 h4 (by simpa using h4) h2 (by simpa using h2) w hcap hN hg (by omega) hn0 hn1 hd0 hd1 q0 q1 q2 H158 H159 HA HF (c37_G hc)) rfl
          · have e : finB st (da + n) n [x, y, z] = .form := by simp only [finB, if_neg hy]
            rw [e]
            exact got_of .form (c119n_t g o cap k st da n x z y (beq_eq_false_iff_ne.2 hy) w hcap hN hg (by omega) hn0 hn1 hd0 hd1 q0 q1 q2 H158) rfl
set_option maxRecDepth 100000 in
set_option maxHeartbeats 4000000 in
theorem c119f (st da : Int) (v : Value) (ws : List (List UInt8)) (w : World) (hne : ws ≠ []) (hv : WordsV w v ws) (hl : ∀ u ∈ ws, u.length ≤ 4000) (hN : ws.length ≤ 4000) (hd0 : -1 ≤ da) (hd1 : da ≤ 100000) : Calls Tryz.prog 119 #[.agg #[.int .i64 st, .int .i64 da, .int .i64 0, .int .i64 0, .int .i64 0, .int .i64 0], v, .bool false] w fun e w' => e = .returned (gotV (finR st da false ws)) ∧ Below w.heap.size w w' := by
  obtain ⟨g, o, cap, rfl, hcap, hg, HC⟩ := wordsV_ne hv hne
  obtain ⟨k, hk, hkl⟩ := lumpR_k ws
  obtain ⟨hn0, hn1⟩ := lumpR_bd ws
  obtain ⟨n, hn⟩ : ∃ n, (lumpR ws).1 = n := ⟨_, rfl⟩
  have H158 : ∀ W, Below w.heap.size w W → Hid (Calls Tryz.prog 158 #[.slice (some ⟨g, o, none⟩) ws.length cap] W fun e w' => e = .returned (.agg #[.int .i64 n, .int .i64 (k : Int)]) ∧ Below W.heap.size W w') := fun W hb => Lib.hid (by
    have := c158 _ ws W (hv.below hb) hl hN
    rw [hn, hk] at this
    exact this)
  rw [hn] at hn0 hn1
  obtain ⟨r, hr⟩ : ∃ r, ws.drop k = r := ⟨_, rfl⟩
  have hlen : ws.length = k + r.length := by rw [← hr, List.length_drop]; omega
  have HR : ∀ i u, r[i]? = some u → w.cell? ⟨g, o + k + i, none⟩ = some (.string ⟨u.toArray⟩) := fun i u h => by
    rw [Nat.add_assoc]
    exact HC (k + i) u (by rw [← hr, List.getElem?_drop] at h; exact h)
  have hL : ∀ u ∈ r, u.length ≤ 4000 := fun u hu => hl u (by rw [← hr] at hu; exact List.mem_of_mem_drop hu)
  unfold finR
  rw [hn, hk, Int.toNat_natCast, hr, if_neg (by decide)]
  clear HC hv hne hl hkl hn hk hr
  cases r with
  | nil =>
    have hlen : ws.length = k := hlen
    rw [hlen] at hcap hN H158 ⊢
    by_cases hck : cap = k
    · subst hck
      exact got_of .form (c119f_s0 g o cap st da n w hN hg hn0 hn1 hd0 hd1 H158) rfl
    · exact got_of .form (c119f_s1 g o cap k st da n 0 (by omega) (by omega) w hcap hN hg hck hn0 hn1 hd0 hd1 H158) rfl
  | cons x r =>
    have q0 := HR 0 x rfl
    have hx := hL x (by simp)
    cases r with
    | nil =>
      have hlen : ws.length = k + 1 := hlen
      rw [hlen] at hcap hN H158 ⊢
      cases hk : kindO x with
      | some ki =>
        have h1 := kind_ne hk
        have e : finB st (da) n [x] = cardF ⟨st, da, n, ki, 0, 0⟩ := by simp only [finB, hk]
        rw [e]
        cases hc : isCard ⟨st, da, n, ki, 0, 0⟩ with
        | false =>
          rw [cardF, hc]
          exact got_of (.err 3) (c119f_k0 g o cap k st da n x ki h1 (by simpa using h1) w hcap hN hg (by omega) hn0 hn1 hd0 hd1 q0 H158 (c159_H (by rw [hk]; rfl) hx) (c37_G hc)) rfl
        | true =>
          rw [cardF, hc]
          exact got_of (.got _) (c119f_k1 g o cap k st da n x ki h1 (by simpa using h1) w hcap hN hg (by omega) hn0 hn1 hd0 hd1 q0 H158 (c159_H (by rw [hk]; rfl) hx) (c37_G hc)) rfl
      | none =>
        have H159 := c159_H (x := x) (k := 1) (by rw [hk]; rfl) hx
        obtain ⟨⟨a1, a2⟩, hd⟩ : ∃ d, decR x = d := ⟨_, rfl⟩
        have HA := c160_H hd hx
        have e : finB st (da) n [x] = if a2 = 0 then .form else cardF ⟨st, da, n, 1, a1, a2⟩ := by simp only [finB, hk, hd]
        rw [e]
        by_cases h2 : a2 = 0
        · subst h2
          rw [if_pos rfl]
          exact got_of .form (c119f_n g o cap k st da n x a1 w hcap hN hg (by omega) hn0 hn1 hd0 hd1 q0 H158 H159 HA) rfl
        · rw [if_neg h2]
          cases hc : isCard ⟨st, da, n, 1, a1, a2⟩ with
          | false =>
            rw [cardF, hc]
            exact got_of (.err 3) (c119f_a0 g o cap k st da n x a1 a2 h2 (by simpa using h2) w hcap hN hg (by omega) hn0 hn1 hd0 hd1 q0 H158 H159 HA (c37_G hc)) rfl
          | true =>
            rw [cardF, hc]
            exact got_of (.got _) (c119f_a1 g o cap k st da n x a1 a2 h2 (by simpa using h2) w hcap hN hg (by omega) hn0 hn1 hd0 hd1 q0 H158 H159 HA (c37_G hc)) rfl
    | cons y r =>
      have q1 := HR 1 y rfl
      cases r with
      | nil =>
        have hlen : ws.length = k + 2 := hlen
        rw [hlen] at hcap hN H158 ⊢
        exact got_of .form (c119f_s1 g o cap k st da n 2 (by omega) (by omega) w hcap hN hg (by omega) hn0 hn1 hd0 hd1 H158) rfl
      | cons z r =>
        have q2 := HR 2 z rfl
        have hz := hL z (by simp)
        cases r with
        | cons u r =>
          have hlen : ws.length = k + (r.length + 1 + 1 + 1 + 1) := hlen
          rw [hlen] at hcap hN H158 ⊢
          exact got_of .form (c119f_s1 g o cap k st da n (r.length + 1 + 1 + 1 + 1) (by omega) (by omega) w hcap hN hg (by omega) hn0 hn1 hd0 hd1 H158) rfl
        | nil =>
          have hlen : ws.length = k + 3 := hlen
          rw [hlen] at hcap hN H158 ⊢
          by_cases hy : y = toW
          · subst hy
            cases hk : kindO x with
            | some ki =>
              have h1 := kind_ne hk
              have e : finB st (da) n [x, toW, z] = .form := by simp only [finB, hk, if_true]
              rw [e]
              exact got_of .form (c119f_u g o cap k st da n x z ki h1 (by simpa using h1) w hcap hN hg (by omega) hn0 hn1 hd0 hd1 q0 q1 q2 H158 (c159_H (by rw [hk]; rfl) hx)) rfl
            | none =>
              have H159 := c159_H (x := x) (k := 1) (by rw [hk]; rfl) hx
              obtain ⟨⟨a1, a2⟩, hd⟩ : ∃ d, decR x = d := ⟨_, rfl⟩
              obtain ⟨⟨f1, f2⟩, hf⟩ : ∃ d, decR z = d := ⟨_, rfl⟩
              have HA := c160_H hd hx
              have HF := c160_H hf hz
              have e : finB st (da) n [x, toW, z] = if f2 = 0 then .form else if a2 = 0 then .form else cardF ⟨st, da, n, 1, a1, f1⟩ := by simp only [finB, hk, hd, hf, if_true]
              rw [e]
              by_cases h4 : f2 = 0
              · subst h4
                rw [if_pos rfl]
                exact got_of .form (c119f_f g o cap k st da n x z a1 a2 f1 w hcap hN hg (by omega) hn0 hn1 hd0 hd1 q0 q1 q2 H158 H159 HA HF) rfl
              · rw [if_neg h4]
                by_cases h2 : a2 = 0
                · subst h2
                  rw [if_pos rfl]
                  exact got_of .form (c119f_d g o cap k st da n x z a1 f1 f2 h4 (by simpa using h4) w hcap hN hg (by omega) hn0 hn1 hd0 hd1 q0 q1 q2 H158 H159 HA HF) rfl
                · rw [if_neg h2]
                  cases hc : isCard ⟨st, da, n, 1, a1, f1⟩ with
                  | false =>
                    rw [cardF, hc]
                    exact got_of (.err 3) (c119f_v0 g o cap k st da n x z a1 a2 f1 f2 h4 (by simpa using h4) h2 (by simpa using h2) w hcap hN hg (by omega) hn0 hn1 hd0 hd1 q0 q1 q2 H158 H159 HA HF (c37_G hc)) rfl
                  | true =>
                    rw [cardF, hc]
                    exact got_of (.got _) (c119f_v1 g o cap k st da n x z a1 a2 f1 f2 h4 (by simpa using h4) h2 (by simpa using h2) w hcap hN hg (by omega) hn0 hn1 hd0 hd1 q0 q1 q2 H158 H159 HA HF (c37_G hc)) rfl
          · have e : finB st (da) n [x, y, z] = .form := by simp only [finB, if_neg hy]
            rw [e]
            exact got_of .form (c119f_t g o cap k st da n x z y (beq_eq_false_iff_ne.2 hy) w hcap hN hg (by omega) hn0 hn1 hd0 hd1 q0 q1 q2 H158) rfl
theorem c119n_nil (st da : Int) (v : Value) (w : World) (hv : WordsV w v []) (hd0 : -1 ≤ da) (hd1 : da ≤ 100000) : Calls Tryz.prog 119 #[.agg #[.int .i64 st, .int .i64 da, .int .i64 0, .int .i64 0, .int .i64 0, .int .i64 0], v, .bool true] w fun e w' => e = .returned (gotV (finR st da true [])) ∧ Below w.heap.size w w' := by
  have hv0 := hv
  obtain ⟨a, cap, rfl, hc, -⟩ := hv
  have H158 : ∀ W, Below w.heap.size w W → Hid (Calls Tryz.prog 158 #[.slice a 0 cap] W fun e w' => e = .returned (.agg #[.int .i64 1, .int .i64 0]) ∧ Below W.heap.size W w') := fun W hb => Lib.hid (c158 _ [] W (hv0.below hb) (by simp) (by simp))
  clear hv0
  cases a with
  | none =>
    by_cases hck : cap = 0
    · subst hck
      exact got_of .form (c119n_z1 st da w hd0 hd1 H158) rfl
    · exact got_of .form (c119n_z0 cap hck st da w hd0 hd1 H158) rfl
  | some p =>
    by_cases hck : cap = 0
    · subst hck
      exact got_of .form (c119n_z3 p st da w hd0 hd1 H158) rfl
    · exact got_of .form (c119n_z2 p cap hck st da w hd0 hd1 H158) rfl
theorem c119f_nil (st da : Int) (v : Value) (w : World) (hv : WordsV w v []) (hd0 : -1 ≤ da) (hd1 : da ≤ 100000) : Calls Tryz.prog 119 #[.agg #[.int .i64 st, .int .i64 da, .int .i64 0, .int .i64 0, .int .i64 0, .int .i64 0], v, .bool false] w fun e w' => e = .returned (gotV (finR st da false [])) ∧ Below w.heap.size w w' := by
  have hv0 := hv
  obtain ⟨a, cap, rfl, hc, -⟩ := hv
  have H158 : ∀ W, Below w.heap.size w W → Hid (Calls Tryz.prog 158 #[.slice a 0 cap] W fun e w' => e = .returned (.agg #[.int .i64 1, .int .i64 0]) ∧ Below W.heap.size W w') := fun W hb => Lib.hid (c158 _ [] W (hv0.below hb) (by simp) (by simp))
  clear hv0
  cases a with
  | none =>
    by_cases hck : cap = 0
    · subst hck
      exact got_of .form (c119f_z1 st da w hd0 hd1 H158) rfl
    · exact got_of .form (c119f_z0 cap hck st da w hd0 hd1 H158) rfl
  | some p =>
    by_cases hck : cap = 0
    · subst hck
      exact got_of .form (c119f_z3 p st da w hd0 hd1 H158) rfl
    · exact got_of .form (c119f_z2 p cap hck st da w hd0 hd1 H158) rfl
theorem c119 (nx : Bool) (st da : Int) (v : Value) (ws : List (List UInt8)) (w : World) (hv : WordsV w v ws) (hl : ∀ u ∈ ws, u.length ≤ 4000) (hN : ws.length ≤ 4000) (hd0 : -1 ≤ da) (hd1 : da ≤ 100000) : Calls Tryz.prog 119 #[.agg #[.int .i64 st, .int .i64 da, .int .i64 0, .int .i64 0, .int .i64 0, .int .i64 0], v, .bool nx] w fun e w' => e = .returned (gotV (finR st da nx ws)) ∧ Below w.heap.size w w' := by
  by_cases hne : ws = []
  · subst hne
    cases nx with
    | false => exact c119f_nil st da v w hv hd0 hd1
    | true => exact c119n_nil st da v w hv hd0 hd1
  · cases nx with
    | false => exact c119f st da v ws w hne hv hl hN hd0 hd1
    | true => exact c119n st da v ws w hne hv hl hN hd0 hd1
end Go.Proofs.YthifeoebefbalaaGreatDoor
