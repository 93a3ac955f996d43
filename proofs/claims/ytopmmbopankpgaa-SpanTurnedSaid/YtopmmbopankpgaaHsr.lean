/- Spans: span.Resolve, as the printed functions want it. -/
import Derived.Test.YtopmmbopankpgaaHsp5
namespace Go.Proofs.Ytopmmbopankpgaa.H
open Go.RowKit Go.Proofs.Ytopmmbopankpgaa Go.Proofs.YtopmmbopankpgaaW.PrintWords Go.Proofs.YtopmmbopankpgaaW.PrintLast Go.Proofs.YtopmmbopankpgaaW.PrintMore SpTh
set_option linter.unusedVariables false

def span_Resolve.f (l : List Spn) : Option (List Spn × Int) := some (resR l, resE l)
theorem span_Resolve.calls (A0 : Option Addr) (c0 : Nat) (l0 : List Spn) (r1 : List Spn) (r2 : Int) (w : World) (hr0 : Kd.C kSpn w A0 l0.length l0) (hc0 : l0.length ≤ c0) (h : span_Resolve.f l0 = some (r1, r2)) :
    Calls Try.prog 23 #[.slice A0 l0.length c0] w fun e w' => ∃ v0_ : Value, e = .returned (.tuple #[v0_, .int .i64 r2]) ∧ Kd.R kSpn 63 w' w.heap.size (fun _ => True) v0_ r1 ∧ Below w.heap.size w w' := by
  unfold span_Resolve.f at h
  injection h with h
  injection h with h1 h2
  subst h1 h2
  unfold resR resE
  cases hm : mayS l0
  · exact (resolve_no A0 c0 l0 w hr0 hm).mono fun e w' ⟨he, hb⟩ => ⟨_, he, Kd.R_nil _ _ _ _ _, hb⟩
  · exact resolve_yes A0 c0 l0 w hr0 hm
end Go.Proofs.Ytopmmbopankpgaa.H
