/- Spans: the law SpanResolves, as a plain statement. -/
import Derived.Test.YtopmmbopankpgaaHq4
import Derived.Test.YtopmmbopankpgaaH14
namespace Go.Proofs.Ytopmmbopankpgaa.H
open Go.RowKit Go.Proofs.Ytopmmbopankpgaa Go.Proofs.YtopmmbopankpgaaW.PrintWords Go.Proofs.YtopmmbopankpgaaW.PrintLast Go.Proofs.YtopmmbopankpgaaW.PrintMore SpTh
set_option linter.unusedVariables false
set_option linter.unusedSimpArgs false

theorem spanResolves_pure (l : List Spn) (h : l.length * 32 ≤ 140737488351232) : ∃ k, newellaw13_SpanResolves.f k l = some true := by
  refine ⟨l.length + 7001, ?_⟩
  have main : ∀ b : Bool, (b = true → True) → (b = false → l.length ≤ 60 ∨ 500 < l.length) → newellaw13_SpanResolves.j0 (l.length + 7001) l b = some true := by
    intro b _ hb
    simp only [newellaw13_SpanResolves.j0]
    cases b with
    | true =>
      rw [if_pos rfl, awake_eq _ (by omega)]
      rfl
    | false =>
      rw [if_neg (by simp), own_eq l (by omega)]
      simp only [Option.bind_some]
      rw [resolve_f]
      simp only [Option.bind_some]
      rw [may_eq l (by omega) _ (by omega)]
      simp only [Option.bind_some]
      rw [awake_eq _ (by omega)]
      cases hm : mayS l with
      | true =>
        obtain ⟨h5, hg⟩ := may_good hm
        rw [if_pos rfl]
        simp only [Option.bind_some, if_true]
        rw [if_pos (by unfold resE; rw [hm]; rfl), resolve_eq l (by omega) hg _ (by omega)]
        simp only [Option.bind_some]
        have hr : resR l = resS l := by unfold resR; rw [hm]; rfl
        rw [hr]
        have hl := resS_length l
        rw [same_refl _ (by omega) _ (by omega)]
        rfl
      | false =>
        rw [if_neg (by simp)]
        simp only [Option.bind_some, if_true]
        rw [if_pos (by unfold resE; rw [hm]; rfl)]
        unfold resR
        rw [hm]
        rfl
  unfold newellaw13_SpanResolves.f
  by_cases hl : (l.length : Int) > 60
  · rw [if_pos hl]
    exact main _ (fun _ => trivial) (fun hb => by simp at hb; omega)
  · rw [if_neg hl]
    exact main _ (fun _ => trivial) (fun hb => by omega)
end Go.Proofs.Ytopmmbopankpgaa.H
