/- Spans: words that the laws share. -/
import Derived.Test.YtopmmbopankpgaaHq3
namespace Go.Proofs.Ytopmmbopankpgaa.H
open Go.RowKit Go.Proofs.Ytopmmbopankpgaa Go.Proofs.YtopmmbopankpgaaW.PrintWords Go.Proofs.YtopmmbopankpgaaW.PrintLast Go.Proofs.YtopmmbopankpgaaW.PrintMore SpTh
set_option linter.unusedVariables false
set_option linter.unusedSimpArgs false

theorem resolve_f (l : List Spn) : span_Resolve.f l = some (resR l, resE l) := rfl
theorem may_good {l : List Spn} (h : mayS l = true) : l.length ≤ 500 ∧ ∀ s ∈ l, s.f0 < s.f1 := by
  unfold mayS at h
  simp only [Bool.and_eq_true, decide_eq_true_eq, Bool.not_eq_true'] at h
  refine ⟨h.1, fun s hs => ?_⟩
  have := (List.any_eq_false.1 h.2) s hs
  simp [oddS] at this
  exact this
theorem good_may {l : List Spn} (h : l.length ≤ 500) (g : ∀ s ∈ l, s.f0 < s.f1) : mayS l = true := by
  unfold mayS
  simp only [Bool.and_eq_true, decide_eq_true_eq, Bool.not_eq_true']
  refine ⟨h, List.any_eq_false.2 fun s hs => ?_⟩
  have := g s hs
  simp [oddS]
  exact this
theorem resR_nrm (l : List Spn) : Nrm (resR l) := by
  unfold resR
  split
  · exact (comes_resS l).nrm
  · trivial
theorem resR_length (l : List Spn) : (resR l).length ≤ 2 * l.length := by
  unfold resR
  split
  · exact resS_length l
  · simp
theorem resR_row {r : List Spn} (h : Nrm r) (hl : r.length ≤ 500) : span_Resolve.f r = some (r, 0) := by
  have hm := good_may hl (fun s hs => (Nrm_mem h s hs).1)
  rw [resolve_f]
  unfold resR resE
  rw [hm, comes_unique (comes_resS r) (comes_row h)]
  rfl
end Go.Proofs.Ytopmmbopankpgaa.H
