/- Spans: the law SpanCuts, as a plain statement. -/
import Derived.Test.YtopmmbopankpgaaHq4
import Derived.Test.YtopmmbopankpgaaH20
namespace Go.Proofs.Ytopmmbopankpgaa.H
open Go.RowKit Go.Proofs.Ytopmmbopankpgaa Go.Proofs.YtopmmbopankpgaaW.PrintWords Go.Proofs.YtopmmbopankpgaaW.PrintLast Go.Proofs.YtopmmbopankpgaaW.PrintMore SpTh
set_option linter.unusedVariables false
set_option linter.unusedSimpArgs false

theorem spanCuts_pure (l : List Spn) (a b c : Int) : ∃ k, newellaw13_SpanCuts.f k l a b c = some true := by
  refine ⟨l.length + 7001, ?_⟩
  have main : ∀ q : Bool, (q = false → l.length ≤ 60 ∧ a ≤ b ∧ b ≤ c) → newellaw13_SpanCuts.j0 (l.length + 7001) l a b c q = some true := by
    intro q hq
    simp only [newellaw13_SpanCuts.j0]
    cases q with
    | true =>
      rw [if_pos rfl, awake_eq _ (by omega)]
      rfl
    | false =>
      obtain ⟨hl, hab, hbc⟩ := hq rfl
      rw [if_neg (by simp), own_eq l (by omega)]
      simp only [Option.bind_some]
      rw [resolve_f]
      simp only [Option.bind_some]
      rw [awake_eq _ (by omega)]
      cases hm : mayS l with
      | false =>
        rw [if_neg (by unfold resE; rw [hm]; decide)]
        rfl
      | true =>
        rw [if_pos (by unfold resE; rw [hm]; rfl)]
        have hn := resR_nrm l
        have h2 := resR_length l
        generalize resR l = r at hn h2 ⊢
        have c1 := cutS_length a b r
        have c2 := cutS_length b c r
        have c3 := cutS_length a c r
        rw [own_eq r (by omega)]
        simp only [Option.bind_some]
        rw [spanCut_eq r a b (by omega), spanCut_eq r b c (by omega), spanCut_eq r a c (by omega)]
        simp only [Option.bind_some]
        rw [own_eq _ (by omega)]
        simp only [Option.bind_some]
        rw [if_pos (by omega)]
        have hr : span_Resolve.f (cutS a b r ++ cutS b c r) = some (cutS a c r, 0) := by
          have hmm : mayS (cutS a b r ++ cutS b c r) = true := good_may (by rw [List.length_append]; omega) (fun s hs => by
            rcases List.mem_append.1 hs with hs | hs
            · obtain ⟨_, _, _, g⟩ := cutS_mem hs; exact g
            · obtain ⟨_, _, _, g⟩ := cutS_mem hs; exact g)
          rw [resolve_f]
          unfold resR resE
          rw [hmm, comes_unique (comes_resS _) (comes_two hn hab hbc)]
          rfl
        rw [hr]
        simp only [Option.bind_some, if_true]
        rw [same_refl _ (by omega) _ (by omega)]
        rfl
  unfold newellaw13_SpanCuts.f
  by_cases hl : (l.length : Int) > 60
  · rw [if_pos hl]; exact main true (by simp)
  · rw [if_neg hl]
    by_cases h1 : a > b
    · rw [if_pos h1]; exact main true (by simp)
    · rw [if_neg h1]
      exact main _ (fun hq => by simp at hq; omega)
end Go.Proofs.Ytopmmbopankpgaa.H
