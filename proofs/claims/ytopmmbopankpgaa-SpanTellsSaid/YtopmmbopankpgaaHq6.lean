/- Spans: the law SpanTells, as a plain statement. -/
import Derived.Test.YtopmmbopankpgaaHq4
import Derived.Test.YtopmmbopankpgaaH17
namespace Go.Proofs.Ytopmmbopankpgaa.H
open Go.RowKit Go.Proofs.Ytopmmbopankpgaa Go.Proofs.YtopmmbopankpgaaW.PrintWords Go.Proofs.YtopmmbopankpgaaW.PrintLast Go.Proofs.YtopmmbopankpgaaW.PrintMore SpTh
set_option linter.unusedVariables false
set_option linter.unusedSimpArgs false

theorem spanTells_pure (l : List Spn) (a1 a2 : Int) : ∃ k, newellaw13_SpanTells.f k l a1 a2 = some true := by
  refine ⟨l.length + 7001, ?_⟩
  unfold newellaw13_SpanTells.f
  by_cases hl : (l.length : Int) > 60
  · rw [if_pos hl, awake_eq _ (by omega)]
    rfl
  · rw [if_neg hl, own_eq l (by omega)]
    simp only [Option.bind_some]
    rw [at_eq l a1 (by omega) _ (by omega)]
    obtain ⟨p, hp⟩ : ∃ p, span_At.f l a1 = some p := ⟨_, rfl⟩
    rw [hp]
    simp only [Option.bind_some]
    rw [awake_eq _ (by omega)]
    simp only [Option.bind_some, if_true]
    rw [if_pos (by simp), if_pos (by simp), spanCut_eq l a1 a2 (by omega)]
    simp only [Option.bind_some]
    rw [cut_eq l a1 a2 (by omega) _ (by omega)]
    simp only [Option.bind_some]
    have := cutS_length a1 a2 l
    rw [same_refl _ (by omega) _ (by omega)]
    rfl
end Go.Proofs.Ytopmmbopankpgaa.H
