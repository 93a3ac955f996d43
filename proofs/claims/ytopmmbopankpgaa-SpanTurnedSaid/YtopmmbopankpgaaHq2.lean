/- Spans, plainly: the document's Resolve, At and Cut come to what the program's come to. -/
import Derived.Test.YtopmmbopankpgaaHq1
namespace Go.Proofs.Ytopmmbopankpgaa.H
open Go.RowKit Go.Proofs.Ytopmmbopankpgaa Go.Proofs.YtopmmbopankpgaaW.PrintWords Go.Proofs.YtopmmbopankpgaaW.PrintLast Go.Proofs.YtopmmbopankpgaaW.PrintMore SpTh
set_option linter.unusedVariables false
set_option linter.unusedSimpArgs false

/-- What the first i of the spans' ends above an instant come to. -/
structure NX (xs : List Spn) (t : Int) (i : Nat) (n : Int) (has : Bool) : Prop where
  no : has = false → ∀ e ∈ endsOf (xs.take i), e ≤ t
  yes : has = true → n ∈ endsOf xs ∧ t < n ∧ ∀ e ∈ endsOf (xs.take i), t < e → n ≤ e
theorem NX.step {xs : List Spn} {t : Int} {i : Nat} {n n2 : Int} {has has2 : Bool} (h : NX xs t i n has) (hi : i < xs.length)
    (h0 : has2 = false → has = false ∧ (rdS xs i).f0 ≤ t ∧ (rdS xs i).f1 ≤ t)
    (h1 : has2 = true → (has = true ∧ n2 = n ∨ n2 = (rdS xs i).f0 ∨ n2 = (rdS xs i).f1) ∧ t < n2 ∧ (t < (rdS xs i).f0 → n2 ≤ (rdS xs i).f0) ∧ (t < (rdS xs i).f1 → n2 ≤ (rdS xs i).f1) ∧ (has = true → n2 ≤ n)) : NX xs t (i + 1) n2 has2 := by
  have hm := mem_endsOf (l := xs) (s := rdS xs i) (by rw [rdS_getElem xs i hi]; exact List.getElem_mem hi)
  refine ⟨fun hh e he => ?_, fun hh => ⟨?_, (h1 hh).2.1, fun e he hte => ?_⟩⟩
  · rw [endsOf_step xs i hi] at he
    obtain ⟨g1, g2, g3⟩ := h0 hh
    rcases List.mem_append.1 he with he | he
    · exact h.no g1 e he
    · simp at he
      rcases he with rfl | rfl <;> assumption
  · rcases (h1 hh).1 with ⟨g, rfl⟩ | rfl | rfl
    · exact (h.yes g).1
    · exact hm.1
    · exact hm.2
  · obtain ⟨_, _, g1, g2, g3⟩ := h1 hh
    rw [endsOf_step xs i hi] at he
    rcases List.mem_append.1 he with he | he
    · cases hc : has with
      | false => have := h.no hc e he; omega
      | true => have := (h.yes hc).2.2 e he hte; have := g3 hc; omega
    · simp at he
      rcases he with rfl | rfl
      · exact g1 hte
      · exact g2 hte
theorem next_loop (xs : List Spn) (t : Int) (hn : xs.length ≤ 4611686018427387903) (d : Nat) : ∀ (k i : Nat) (n : Int) (has : Bool), NX xs t i n has → i + d = xs.length → 2 * d < k →
    ∃ n2 has2, newelref13_next.l0 k xs t n has (i : Int) = some (n2, has2) ∧ NX xs t xs.length n2 has2 := by
  induction d with
  | zero =>
    intro k i n has h hi hk
    obtain ⟨k, rfl⟩ : ∃ m, k = m + 1 := ⟨k - 1, by omega⟩
    obtain rfl : i = xs.length := by omega
    simp only [newelref13_next.l0]
    rw [if_neg (by omega)]
    exact ⟨n, has, rfl, h⟩
  | succ d ih =>
    intro k i n has h hi hk
    obtain ⟨k, rfl⟩ : ∃ m, k = m + 2 := ⟨k - 2, by omega⟩
    have hlt : i < xs.length := by omega
    have hw := wrap_succ (n := xs.length) hlt (by omega)
    have p1 : (0 : Int) ≤ (i : Int) := by omega
    have p2 : (i : Int) < (xs.length : Int) := by omega
    have go : ∀ n2 has2, (has2 = false → has = false ∧ (rdS xs i).f0 ≤ t ∧ (rdS xs i).f1 ≤ t) →
        (has2 = true → (has = true ∧ n2 = n ∨ n2 = (rdS xs i).f0 ∨ n2 = (rdS xs i).f1) ∧ t < n2 ∧ (t < (rdS xs i).f0 → n2 ≤ (rdS xs i).f0) ∧ (t < (rdS xs i).f1 → n2 ≤ (rdS xs i).f1) ∧ (has = true → n2 ≤ n)) →
        ∃ n3 has3, newelref13_next.l0 k xs t n2 has2 ((i + 1 : Nat) : Int) = some (n3, has3) ∧ NX xs t xs.length n3 has3 :=
      fun n2 has2 h0 h1 => ih k (i + 1) n2 has2 (h.step hlt h0 h1) (by omega) (by omega)
    have hy := h.yes
    simp only [newelref13_next.l0, newelref13_next.j1]
    simp only [p1, p2, if_true, rdT_eq, hw]
    generalize (rdS xs i).f0 = a at go ⊢
    generalize (rdS xs i).f1 = b at go ⊢
    cases has with
    | false =>
      by_cases h1 : a > t
      · rw [if_pos h1, if_neg (by simp)]
        by_cases h2 : b > t
        · rw [if_pos h2]
          by_cases h3 : b < a
          · rw [if_pos h3]
            exact go b true (by simp) (fun _ => ⟨.inr (.inr rfl), by omega, fun _ => by omega, fun _ => by omega, by simp⟩)
          · rw [if_neg h3]
            exact go a true (by simp) (fun _ => ⟨.inr (.inl rfl), by omega, fun _ => by omega, fun _ => by omega, by simp⟩)
        · rw [if_neg h2]
          exact go a true (by simp) (fun _ => ⟨.inr (.inl rfl), by omega, fun _ => by omega, fun _ => by omega, by simp⟩)
      · rw [if_neg h1, if_neg (by simp)]
        by_cases h2 : b > t
        · rw [if_pos h2, if_neg (by simp)]
          exact go b true (by simp) (fun _ => ⟨.inr (.inr rfl), by omega, fun _ => by omega, fun _ => by omega, by simp⟩)
        · rw [if_neg h2]
          exact go n false (fun _ => ⟨rfl, by omega, by omega⟩) (by simp)
    | true =>
      have hyy := hy rfl
      by_cases h1 : a > t
      · rw [if_pos h1]
        simp only [if_true]
        by_cases h4 : a < n
        · rw [if_pos (by simpa using h4)]
          by_cases h2 : b > t
          · rw [if_pos h2]
            by_cases h3 : b < a
            · rw [if_pos h3]
              exact go b true (by simp) (fun _ => ⟨.inr (.inr rfl), by omega, fun _ => by omega, fun _ => by omega, fun _ => by omega⟩)
            · rw [if_neg h3]
              exact go a true (by simp) (fun _ => ⟨.inr (.inl rfl), by omega, fun _ => by omega, fun _ => by omega, fun _ => by omega⟩)
          · rw [if_neg h2]
            exact go a true (by simp) (fun _ => ⟨.inr (.inl rfl), by omega, fun _ => by omega, fun _ => by omega, fun _ => by omega⟩)
        · rw [if_neg (by simpa using h4)]
          by_cases h2 : b > t
          · rw [if_pos h2]
            by_cases h3 : b < n
            · rw [if_pos h3]
              exact go b true (by simp) (fun _ => ⟨.inr (.inr rfl), by omega, fun _ => by omega, fun _ => by omega, fun _ => by omega⟩)
            · rw [if_neg h3]
              exact go n true (by simp) (fun _ => ⟨.inl ⟨rfl, rfl⟩, by omega, fun _ => by omega, fun _ => by omega, fun _ => by omega⟩)
          · rw [if_neg h2]
            exact go n true (by simp) (fun _ => ⟨.inl ⟨rfl, rfl⟩, by omega, fun _ => by omega, fun _ => by omega, fun _ => by omega⟩)
      · rw [if_neg h1, if_neg (by simp)]
        by_cases h2 : b > t
        · rw [if_pos h2]
          simp only [if_true]
          by_cases h3 : b < n
          · rw [if_pos h3]
            exact go b true (by simp) (fun _ => ⟨.inr (.inr rfl), by omega, fun _ => by omega, fun _ => by omega, fun _ => by omega⟩)
          · rw [if_neg h3]
            exact go n true (by simp) (fun _ => ⟨.inl ⟨rfl, rfl⟩, by omega, fun _ => by omega, fun _ => by omega, fun _ => by omega⟩)
        · rw [if_neg h2]
          exact go n true (by simp) (fun _ => ⟨.inl ⟨rfl, rfl⟩, by omega, fun _ => by omega, fun _ => by omega, fun _ => by omega⟩)
theorem next_eq (xs : List Spn) (t : Int) (hn : xs.length ≤ 4611686018427387903) (k : Nat) (hk : 2 * xs.length < k) :
    ∃ n has, newelref13_next.f k xs t = some (n, has) ∧ (has = false → ∀ e ∈ endsOf xs, e ≤ t) ∧ (has = true → n ∈ endsOf xs ∧ t < n ∧ ∀ e ∈ endsOf xs, e ≤ t ∨ n ≤ e) := by
  unfold newelref13_next.f
  obtain ⟨n, has, h1, h2⟩ := next_loop xs t hn xs.length k 0 0 false ⟨fun _ e he => by simp [endsOf] at he, fun h => by cases h⟩ (by omega) hk
  refine ⟨n, has, h1, fun h => ?_, fun h => ?_⟩
  · have := h2.no h; rwa [List.take_length] at this
  · obtain ⟨g1, g2, g3⟩ := h2.yes h
    rw [List.take_length] at g3
    refine ⟨g1, g2, fun e he => ?_⟩
    rcases Int.lt_or_le t e with hl | hl
    · exact .inr (g3 e he hl)
    · exact .inl hl
theorem least_loop (xs : List Spn) (hn : xs.length ≤ 9223372036854775807) (d : Nat) : ∀ (k i : Nat) (n : Int), i + d = xs.length → d < k → (∀ j, j < i → n ≤ (rdS xs j).f0) → n ∈ endsOf xs →
    ∃ m, newelref13_least.l0 k xs n (i : Int) = some m ∧ (∀ s ∈ xs, m ≤ s.f0) ∧ m ∈ endsOf xs := by
  induction d with
  | zero =>
    intro k i n hi hk h hm
    obtain ⟨k, rfl⟩ : ∃ m, k = m + 1 := ⟨k - 1, by omega⟩
    simp only [newelref13_least.l0]
    rw [if_neg (by omega)]
    refine ⟨n, rfl, fun s hs => ?_, hm⟩
    obtain ⟨j, hj, rfl⟩ := List.mem_iff_getElem.1 hs
    rw [← rdS_getElem xs j hj]; exact h j (by omega)
  | succ d ih =>
    intro k i n hi hk h hm
    obtain ⟨k, rfl⟩ : ∃ m, k = m + 1 := ⟨k - 1, by omega⟩
    have hlt : i < xs.length := by omega
    have hw := wrap_succ (n := xs.length) hlt (by omega)
    simp only [newelref13_least.l0]
    rw [if_pos (by omega), if_pos (by omega), rdT_eq, hw]
    have hx := mem_endsOf (l := xs) (s := rdS xs i) (by rw [rdS_getElem xs i hlt]; exact List.getElem_mem hlt)
    by_cases h1 : (rdS xs i).f0 < n
    · rw [if_pos h1]
      refine ih k (i + 1) _ (by omega) (by omega) (fun j hj => ?_) hx.1
      rcases Nat.lt_or_ge j i with hji | hji
      · have := h j hji; omega
      · obtain rfl : j = i := by omega
        exact Int.le_refl _
    · rw [if_neg h1]
      refine ih k (i + 1) _ (by omega) (by omega) (fun j hj => ?_) hm
      rcases Nat.lt_or_ge j i with hji | hji
      · exact h j hji
      · obtain rfl : j = i := by omega
        omega
/-- How many ends are above an instant. -/
def above (l : List Int) (a : Int) : Nat := (l.filter (fun e => decide (a < e))).length
theorem above_le (l : List Int) (a b : Int) (h : a ≤ b) : above l b ≤ above l a := by
  unfold above
  induction l with
  | nil => simp
  | cons e r ih =>
    simp only [List.filter_cons]
    by_cases h1 : b < e
    · have h2 : a < e := by omega
      simp [h1, h2]; exact ih
    · by_cases h2 : a < e
      · simp [h1, h2]; omega
      · simp [h1, h2]; exact ih
theorem above_lt (l : List Int) (a b : Int) (h : a < b) (hb : b ∈ l) : above l b < above l a := by
  induction l with
  | nil => simp at hb
  | cons e r ih =>
    have hle := above_le r a b (Int.le_of_lt h)
    unfold above at hle ih ⊢
    simp only [List.filter_cons]
    rcases List.mem_cons.1 hb with rfl | hb
    · simp [h]; omega
    · have ih := ih hb
      by_cases h1 : b < e
      · have h2 : a < e := by omega
        simp [h1, h2]; exact ih
      · by_cases h2 : a < e
        · simp [h1, h2]; omega
        · simp [h1, h2]; exact ih
theorem res_loop (xs : List Spn) (hn : xs.length ≤ 1000) (hb : ∀ s ∈ xs, s.f0 < s.f1) (d : Nat) : ∀ (k : Nat) (out : List Spn) (a b : Int) (more : Bool), Inv xs out a →
    (more = false → ∀ e ∈ endsOf xs, e ≤ a) → (more = true → b ∈ endsOf xs ∧ a < b ∧ ∀ e ∈ endsOf xs, e ≤ a ∨ b ≤ e) → above (endsOf xs) a ≤ d → out.length + d ≤ 10000 → 3000 + d < k →
    ∃ r, newelref13_Resolve.l0 k xs out a b more = some r ∧ SpTh.Comes xs r := by
  induction d with
  | zero =>
    intro k out a b more h h0 h1 hd hl hk
    obtain ⟨k, rfl⟩ : ∃ m, k = m + 1 := ⟨k - 1, by omega⟩
    simp only [newelref13_Resolve.l0]
    cases more with
    | false =>
      rw [if_neg (by simp)]
      exact ⟨out, rfl, comes_end h (fun s hs => h0 rfl _ (mem_endsOf hs).2)⟩
    | true =>
      obtain ⟨g1, g2, _⟩ := h1 rfl
      have := above_lt (endsOf xs) a b g2 g1
      omega
  | succ d ih =>
    intro k out a b more h h0 h1 hd hl hk
    obtain ⟨k, rfl⟩ : ∃ m, k = m + 1 := ⟨k - 1, by omega⟩
    simp only [newelref13_Resolve.l0]
    cases more with
    | false =>
      rw [if_neg (by simp)]
      exact ⟨out, rfl, comes_end h (fun s hs => h0 rfl _ (mem_endsOf hs).2)⟩
    | true =>
      obtain ⟨g1, g2, g3⟩ := h1 rfl
      have hab := above_lt (endsOf xs) a b g2 g1
      obtain ⟨n, has, e1, e2, e3⟩ := next_eq xs b (by omega) k (by omega)
      have hst : Inv xs (stepR xs out a b) b := inv_step h g2 (fun s hs => ⟨g3 _ (mem_endsOf hs).1, g3 _ (mem_endsOf hs).2⟩)
      have hsl := stepR_length xs out a b
      obtain ⟨r, hr, hc⟩ := ih k (stepR xs out a b) b n has hst e2 e3 (by omega) (by omega) (by omega)
      refine ⟨r, ?_, hc⟩
      have hwt := wt_of_wtI xs a xs.length (Nat.le_refl _)
      rw [List.take_length] at hwt
      have hwb := wtI_bd xs a xs.length
      rw [if_pos rfl, weight_eq xs a (by omega) k (by omega)]
      simp only [Option.bind_some, e1]
      generalize wtI xs a xs.length = i at hwt hwb ⊢
      by_cases hi : i < 0
      · rw [if_neg (by omega)]
        rw [if_pos hi] at hwt
        rw [stepR_none hwt] at hr
        exact hr
      · obtain ⟨j, rfl⟩ : ∃ j : Nat, i = j := ⟨i.toNat, by omega⟩
        rw [if_neg hi, Int.toNat_natCast] at hwt
        have q1 : (j : Int) ≥ 0 := by omega
        have q2 : (0 : Int) ≤ (j : Int) := by omega
        have q3 : (j : Int) < (xs.length : Int) := by omega
        have q4 : out.length < 4398046511104 := by omega
        simp only [q1, q2, q3, q4, if_true, rdT_eq]
        by_cases hz : out.length = 0
        · obtain rfl := List.length_eq_zero_iff.1 hz
          rw [if_neg (by simp [wrap64])]
          rw [stepR_first hwt] at hr
          exact hr
        · obtain ⟨m, hm⟩ : ∃ m, out.length = m + 1 := ⟨out.length - 1, by omega⟩
          have hw : wrap64 ((out.length : Int) - 1) = (m : Int) := by unfold wrap64; omega
          have q5 : (m : Int) ≥ 0 := by omega
          have q6 : (0 : Int) ≤ (m : Int) := by omega
          have q7 : (m : Int) < (out.length : Int) := by omega
          simp only [hw, q5, q6, q7, if_true, rdT_eq, Int.toNat_natCast]
          by_cases c1 : (rdS out m).f1 = a
          · rw [if_pos c1]
            by_cases c2 : (rdS out m).f2 = (rdS xs j).f2
            · rw [if_pos c2]
              rw [stepR_join hwt hm ⟨c1, c2⟩] at hr
              exact hr
            · rw [if_neg c2]
              rw [stepR_more hwt hm (fun h => c2 h.2)] at hr
              exact hr
          · rw [if_neg c1]
            rw [stepR_more hwt hm (fun h => c1 h.1)] at hr
            exact hr
theorem resolve_eq (xs : List Spn) (hn : xs.length ≤ 1000) (hb : ∀ s ∈ xs, s.f0 < s.f1) (k : Nat) (hk : 6000 < k) : newelref13_Resolve.f k xs = some (resS xs) := by
  unfold newelref13_Resolve.f
  by_cases h0 : xs.length = 0
  · obtain rfl := List.length_eq_zero_iff.1 h0
    rw [if_pos (by simp)]
    rw [show resS [] = [] from by simp [resS, sortedEnds, endsOf, Go.Lib.compact, Go.Lib.compactUpTo, resN]]
  · rw [if_neg (by omega)]
    have hx := mem_endsOf (l := xs) (s := rdS xs 0) (by rw [rdS_getElem xs 0 (by omega)]; exact List.getElem_mem _)
    obtain ⟨m, e1, e2, e3⟩ := least_loop xs (by omega) xs.length k 0 (rdS xs 0).f0 (by omega) (by omega) (fun j hj => absurd hj (Nat.not_lt_zero _)) hx.1
    have e1' : newelref13_least.f k xs = some m := by
      unfold newelref13_least.f
      rw [if_pos (by omega), show (0 : Int) = ((0 : Nat) : Int) from rfl, rdT_eq]
      exact e1
    obtain ⟨n, has, g1, g2, g3⟩ := next_eq xs m (by omega) k (by omega)
    rw [e1']
    simp only [Option.bind_some, g1]
    have hab : above (endsOf xs) m ≤ (endsOf xs).length := List.length_filter_le _ _
    rw [endsOf_length] at hab
    obtain ⟨r, hr, hc⟩ := res_loop xs hn hb 2000 k [] m n has (inv_start e2) g2 g3 (by omega) (by simp) (by omega)
    rw [hr, comes_unique hc (comes_resS xs)]
end Go.Proofs.Ytopmmbopankpgaa.H
