/- What any spans come to is the document's: SpanResolves returns true at every row of spans that can be read. Its arguments read behind the call as they read before. -/
import Derived.Test.YtopmmbopankpgaaRows
import Derived.Test.YtopmmbopankpgaaHrd
import Derived.Test.YtopmmbopankpgaaHq5
import Derived.WalkKit
import Derived.ProofKit
import Derived.OpenShut
import Derived.ShutString
import Derived.ChangeOld
import Derived.Below
import Derived.SizedLaws
namespace Go.Proofs.Ytopmmbopankpgaa.spanResolves
open Go.RowKit Go.Proofs.Ytopmmbopankpgaa Go.Proofs.Ytopmmbopankpgaa.H Go.Proofs.YtopmmbopankpgaaW.PrintWords Go.Proofs.YtopmmbopankpgaaW.PrintLast Go.Proofs.YtopmmbopankpgaaW.PrintMore
open Go.ChangeShapes Go.WideShapes Go.ChangeAt
set_option linter.unusedVariables false
theorem own : ownKnob Try.prog.godebug = none := by kernel_rfl
theorem laidOut : laidOutB Try.prog = true := by kernel_rfl
theorem bytes_span : Try.prog.bytesOf 63 = 32 := by kernel_rfl
set_option maxRecDepth 100000 in
theorem lifted (os : Os) (started : os.Started) (H : Type) (enc : TypeId × Value → H) :
    ReturnsInHanded {} Try.checked os 5 .any (Rows.spanResolvesSpec.pre6 enc Try.prog Try.f5 Rows.spanResolvesRow.domain false) (Rows.spanResolvesSpec.post enc Try.prog Try.f5 false true false false) := by
  refine returnsInHanded_of_change_sized (C := Try.checked) own started (by kernel_rfl) Try.func5
    (ChangeSpec.witness6 (enc := enc) (C := Try.checked) false ⟨#[], #[.slice none 0 0], []⟩ 8 (by kernel_rfl) (by kernel_rfl) (by kernel_rfl) (by kernel_rfl)) ?_
  intro W base args ds gs before hval0 hW hcnd hsz0 _
  have hsz : (DataW.weightsEach Try.prog (Try.f5.params.toList ++ Rows.spanResolvesSpec.plain.varTypes Try.prog) (ds ++ gs)).all (· ≤ reachBytes) = true := hsz0
  have hval : ∀ (j : Nat) t v, Try.f5.params[j]? = some t → args[j]? = some v → Value.okWide Try.prog W .any base t v := hval0
  have hW' := hW
  obtain ⟨p, q, hA0, hV, rfl, hfz, hnd⟩ := hW
  have hA : DataW.TrodAll enc Try.prog W 0 (fun _ => true) true Try.f5.params.toList args.toList ds p := hA0
  rw [Try.params5] at hA hval hsz
  obtain ⟨v0, vs0, d0, ds0, p0, q0, hargs, rfl, rfl, h0, r0⟩ := trodAll_cons hA
  obtain ⟨rfl, rfl, rfl⟩ := trodAll_nil r0
  obtain rfl : args = #[v0] := by cases args; simp_all
  obtain ⟨rfl, rfl⟩ := trodVars_none hV
  have k0 := h0
  have lt0 : ∀ x ∈ p0, x.block < W.heap.size := by obtain ⟨m, hm⟩ := k0; exact DataW.trod_lt m _ _ _ hm
  obtain ⟨a0, len0, cap0, rfl⟩ := okWide_slice Try.underlying56 (hval 0 56 v0 rfl rfl)
  obtain ⟨fuel0, hf0⟩ := h0
  obtain ⟨A0, c0, xs0, e0, hc0, hC0, hD0⟩ := spans_of hf0
  have e0' : Value.slice a0 len0 cap0 = .slice A0 xs0.length c0 := by simpa [Value.cells] using e0
  injection e0' with e1 e2 e3
  subst e1 e2 e3
  have y0 : xs0.length * 32 ≤ 140737488351232 := by
    rcases hD0 with hD | ⟨el, sp, hD, hl⟩
    · subst hD; decide
    · have hD' : d0 = DataW.slice el sp := hD
      subst hD'
      have z := sized_slice hsz (j := 0) (t := 56) rfl rfl Try.underlying56
      rw [bytes_span] at z
      have z2 : (el.length + sp.length) * 32 ≤ 140737488351232 := z
      omega
  clear hA0 hval0 hsz0 hsz
  obtain ⟨k, hk⟩ := spanResolves_pure xs0 y0
  refine (newellaw13_SpanResolves.calls k _ _ xs0 true W hC0 hc0 hk).mono fun e W' ⟨he, bel⟩ => ?_
  subst he
  exact ⟨_, rfl, _, _, _, [], _, [], hW', trodAll_mk1 (shut_bool Try.underlying4 _), (trodAll_cons_mk (Below.trod laidOut (by kernel_rfl) (of_decide_eq_true (by kernel_rfl)) k0 bel lt0) trodAll_mk0), rfl, bel.frame _, fun h => by cases h⟩
theorem over : Rows.spanResolvesRow.holds Try.pinned (OpenSpec.ofChange Rows.spanResolvesSpec) :=
  OpenClaim.holds_of_wide 5 Try.f5 rfl rfl rfl rfl rfl rfl rfl ⟨rfl, rfl, rfl, rfl, rfl⟩ rfl rfl rfl rfl rfl (by kernel_rfl) Try.func5 (by kernel_rfl)
    (of_decide_eq_true (by kernel_rfl)) (by unfold Func.isWrapper; first | (rw [if_pos (by decide +kernel)]; kernel_rfl) | (rw [if_neg (by decide +kernel)]; exact ⟨rfl, rfl⟩))
    (fun os started H enc _ => lifted os started H enc)
theorem proved : Rows.SpanResolvesSaid := over
#print axioms proved
end Go.Proofs.Ytopmmbopankpgaa.spanResolves
namespace Go.Proofs.Ytopmmbopankpgaa
/-- The row, under a short name, for the claim. -/
theorem spanResolves_holds : Rows.SpanResolvesSaid := spanResolves.proved
end Go.Proofs.Ytopmmbopankpgaa
