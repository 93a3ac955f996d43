/- Spans, plainly: At and Cut of the document's answer; the chapter's example. -/
import Derived.Test.YtopmmbopankpgaaHq2
import Derived.Test.YtopmmbopankpgaaH6
namespace Go.Proofs.Ytopmmbopankpgaa.H
open Go.RowKit Go.Proofs.Ytopmmbopankpgaa Go.Proofs.YtopmmbopankpgaaW.PrintWords Go.Proofs.YtopmmbopankpgaaW.PrintLast Go.Proofs.YtopmmbopankpgaaW.PrintMore SpTh
set_option linter.unusedVariables false
set_option linter.unusedSimpArgs false

def atT (p : Spn × Bool) : Int × Int × Int × Int × Bool := (p.1.f0, p.1.f1, p.1.f2, p.1.f3, p.2)
theorem at_loop (xs : List Spn) (t : Int) (hn : xs.length ≤ 9223372036854775807) (d : Nat) : ∀ (k i : Nat), i + d = xs.length → d < k → idxP (inS · t) xs i = -1 → newelref13_At.l0 k xs t (i : Int) = some (atT (atP xs t)) := by
  induction d with
  | zero =>
    intro k i hi hk h
    obtain ⟨k, rfl⟩ : ∃ m, k = m + 1 := ⟨k - 1, by omega⟩
    obtain rfl : i = xs.length := by omega
    simp only [newelref13_At.l0]
    rw [if_neg (by omega)]
    unfold atP
    rw [h]
    rfl
  | succ d ih =>
    intro k i hi hk h
    obtain ⟨k, rfl⟩ : ∃ m, k = m + 1 := ⟨k - 1, by omega⟩
    have hlt : i < xs.length := by omega
    have hw := wrap_succ (n := xs.length) hlt hn
    simp only [newelref13_At.l0]
    rw [if_pos (by omega), if_pos (by omega), rdT_eq, hw]
    cases hin : inS (rdS xs i) t with
    | true =>
      have hin' := (inS_iff _ _).1 hin
      rw [if_pos hin'.1, if_pos hin'.2]
      have := idxP_found (f := (inS · t)) h hin hlt
      unfold atP
      rw [this]
      rw [if_neg (by omega)]
      rfl
    | false =>
      have hnx : idxP (inS · t) xs (i + 1) = -1 := by
        simp [idxP, h, hin]
      have := ih k (i + 1) (by omega) (by omega) hnx
      have hin' := (inS_no _ _).1 hin
      by_cases h1 : t ≥ (rdS xs i).f0
      · rw [if_pos h1, if_neg (by omega)]; exact this
      · rw [if_neg h1]; exact this
theorem at_eq (xs : List Spn) (t : Int) (hn : xs.length ≤ 9223372036854775807) (k : Nat) (hk : xs.length < k) : newelref13_At.f k xs t = span_At.f xs t := by
  unfold newelref13_At.f
  rw [show (0 : Int) = ((0 : Nat) : Int) from rfl, at_loop xs t hn xs.length k 0 (by omega) hk rfl]
  rfl
theorem cut_loop (xs : List Spn) (fr upto : Int) (hn : xs.length ≤ 100000) (d : Nat) : ∀ (k i : Nat), i + d = xs.length → 2 * d < k → newelref13_Cut.l0 k xs fr upto (cutS fr upto (xs.take i)) (i : Int) = some (cutS fr upto xs) := by
  induction d with
  | zero =>
    intro k i hi hk
    obtain ⟨k, rfl⟩ : ∃ m, k = m + 1 := ⟨k - 1, by omega⟩
    obtain rfl : i = xs.length := by omega
    simp only [newelref13_Cut.l0]
    rw [if_neg (by omega), List.take_length]
  | succ d ih =>
    intro k i hi hk
    obtain ⟨k, rfl⟩ : ∃ m, k = m + 2 := ⟨k - 2, by omega⟩
    have hlt : i < xs.length := by omega
    have hw := wrap_succ (n := xs.length) hlt (by omega)
    have hs := cutS_step fr upto xs i hlt
    have hl := cutS_length fr upto (xs.take i)
    rw [List.length_take] at hl
    have ih2 := ih k (i + 1) (by omega) (by omega)
    simp only [newelref13_Cut.l0, newelref13_Cut.j1]
    rw [if_pos (by omega), if_pos (by omega), rdT_eq, hw]
    generalize rdS xs i = s at hs ⊢
    generalize cutS fr upto (xs.take i) = out at hs hl ⊢
    have hq : out.length < 4398046511104 := by omega
    rw [hs] at ih2
    unfold cut1 at ih2
    dsimp only at ih2
    by_cases h1 : s.f0 < fr
    · rw [if_pos h1] at ih2 ⊢
      by_cases h2 : s.f1 > upto
      · rw [if_pos (show upto < s.f1 from h2)] at ih2
        rw [if_pos h2]
        by_cases h3 : fr < upto
        · rw [if_pos h3] at ih2 ⊢
          rw [if_pos hq]; exact ih2
        · rw [if_neg h3] at ih2 ⊢
          rwa [List.append_nil] at ih2
      · rw [if_neg (show ¬ upto < s.f1 from h2)] at ih2
        rw [if_neg h2]
        by_cases h3 : fr < s.f1
        · rw [if_pos h3] at ih2 ⊢
          rw [if_pos hq]; exact ih2
        · rw [if_neg h3] at ih2 ⊢
          rwa [List.append_nil] at ih2
    · rw [if_neg h1] at ih2 ⊢
      by_cases h2 : s.f1 > upto
      · rw [if_pos (show upto < s.f1 from h2)] at ih2
        rw [if_pos h2]
        by_cases h3 : s.f0 < upto
        · rw [if_pos h3] at ih2 ⊢
          rw [if_pos hq]; exact ih2
        · rw [if_neg h3] at ih2 ⊢
          rwa [List.append_nil] at ih2
      · rw [if_neg (show ¬ upto < s.f1 from h2)] at ih2
        rw [if_neg h2]
        by_cases h3 : s.f0 < s.f1
        · rw [if_pos h3] at ih2 ⊢
          rw [if_pos hq]; exact ih2
        · rw [if_neg h3] at ih2 ⊢
          rwa [List.append_nil] at ih2
theorem cut_eq (xs : List Spn) (fr upto : Int) (hn : xs.length ≤ 100000) (k : Nat) (hk : 2 * xs.length < k) : newelref13_Cut.f k xs fr upto = some (cutS fr upto xs) := by
  unfold newelref13_Cut.f
  exact cut_loop xs fr upto hn xs.length k 0 (by omega) hk
theorem spanCut_eq (xs : List Spn) (fr upto : Int) (hn : xs.length ≤ 100000) : span_Cut.f xs fr upto = some (cutS fr upto xs) := by
  unfold span_Cut.f; rw [if_pos hn]
def exL : List Spn := [⟨0, 10, 1, 0⟩, ⟨3, 5, 2, 1⟩]
def exR : List Spn := [⟨0, 3, 1, 0⟩, ⟨3, 5, 2, 0⟩, ⟨5, 10, 1, 0⟩]
theorem ex_comes : SpTh.Comes exL exR := by
  refine ⟨by unfold exR Nrm Nrm Nrm good sep; decide, fun t => ?_⟩
  unfold exR exL SpTh.look md wt
  simp only [List.foldl_cons, List.foldl_nil, wtStep, inS, lessS, List.find?_cons, List.find?_nil]
  by_cases h0 : 0 ≤ t <;> by_cases h3 : 3 ≤ t <;> by_cases h5 : 5 ≤ t <;> by_cases h10 : 10 ≤ t <;> first
    | (exfalso; omega)
    | (simp [h0, h3, h5, h10, show (t < 3) ↔ ¬ (3 ≤ t) from by omega, show (t < 5) ↔ ¬ (5 ≤ t) from by omega, show (t < 10) ↔ ¬ (10 ≤ t) from by omega])
theorem ex_res : resS exL = exR := comes_unique (comes_resS exL) ex_comes
theorem awake_eq (k : Nat) (hk : 10 < k) : newellaw13_awake.f k = some true := by
  have h1 : span_Resolve.f ([(⟨0, 10, 1, 0⟩ : S63), (⟨3, 5, 2, 1⟩ : S63)] : List (S63)) = some (exR, 0) := by
    have : mayS exL = true := by decide
    show some (resR exL, resE exL) = _
    unfold resR resE
    rw [this, ex_res]
    rfl
  unfold newellaw13_awake.f
  rw [h1]
  simp only [Option.bind_some]
  have h2 : span_At.f exR 4 = some (3, 5, 2, 0, true) := by unfold exR; decide
  have h3 : span_Cut.f exR 4 6 = some [⟨4, 5, 2, 0⟩, ⟨5, 6, 1, 0⟩] := by rw [spanCut_eq exR 4 6 (by decide)]; rfl
  have h4 := same_refl exR (by decide) k (by unfold exR; simp; omega)
  rw [h2]
  simp only [Option.bind_some, if_true]
  rw [show newelref13_Same.f k exR ([(⟨0, 3, 1, 0⟩ : S63), (⟨3, 5, 2, 0⟩ : S63), (⟨5, 10, 1, 0⟩ : S63)] : List (S63)) = some true from h4]
  simp only [Option.bind_some, if_true]
  rw [h3]
  rfl
end Go.Proofs.Ytopmmbopankpgaa.H
