/- A region that draws its order, at a class of worlds of one's own: each operation's law, and the walk in the text's order. -/
import Derived.Test.YtopmmbopankpgaaWd
import Derived.Deep.Quiet
import Derived.Deep.QuietTactic
import Derived.Laws.Rows
namespace Go.Proofs.Ytopmmbopankpgaa
open Go.RowKit Go.Proofs.YtopmmbopankpgaaW.PrintWords Go.Proofs.YtopmmbopankpgaaW.PrintLast Go.Proofs.YtopmmbopankpgaaW.PrintMore
set_option linter.unusedVariables false

section
variable {P : Program} {ops : Array Oper} {C : World → Prop} {o : Oper} {a : Act} {K : Act → Prop}
theorem qs_val {v : Value} (hw : Region.wanted o (yielded ops a.tmps) = true) (h : ∀ w, (execOp a.eval o).run P w = .ok (.value v) w) (k : K (a.put o.dst v)) :
    if Region.wanted o (yielded ops a.tmps) = true then o.quiet P a C K else K (a.put o.dst undef) := by
  rw [if_pos hw]
  refine ⟨v, fun w _ => ?_, k⟩
  unfold Oper.quietAt
  rw [h w]
  exact ⟨rfl, rfl⟩
/-- An operation whose value hangs on the class alone. -/
theorem qs_read {v : Value} (hw : Region.wanted o (yielded ops a.tmps) = true) (h : ∀ w, C w → (execOp a.eval o).run P w = .ok (.value v) w) (k : K (a.put o.dst v)) :
    if Region.wanted o (yielded ops a.tmps) = true then o.quiet P a C K else K (a.put o.dst undef) := by
  rw [if_pos hw]
  refine ⟨v, fun w hc => ?_, k⟩
  unfold Oper.quietAt
  rw [h w hc]
  exact ⟨rfl, rfl⟩
theorem qs_off (hw : Region.wanted o (yielded ops a.tmps) = false) (k : K (a.put o.dst undef)) :
    if Region.wanted o (yielded ops a.tmps) = true then o.quiet P a C K else K (a.put o.dst undef) := by
  rw [hw]; exact k
theorem qs_row (hw : Region.wanted o (yielded ops a.tmps) = true) (ty : TypeId) (x : Operand) (ho : o.op = .load ty x)
    (g : Nat) (hx : a.eval x = .pointer (some ⟨g, 0, none⟩)) (t : TypeId) (cs : Array Value) (fr : Nat × Nat) (d : TypeDesc) (hg : ∀ w, C w → w.heap[g]? = some (.cells cs t fr))
    (hu : P.underlying ty = some d) (hd : (match d with | .struct _ | .array _ _ => true | _ => false) = true) (hi : (P.info? ty).map (·.size) = some cs.size)
    (k : K (a.put o.dst (.agg cs))) :
    if Region.wanted o (yielded ops a.tmps) = true then o.quiet P a C K else K (a.put o.dst undef) := by
  rw [if_pos hw]
  refine ⟨.agg cs, fun w hc => ?_, k⟩
  unfold Oper.quietAt execOp
  simp only [ho, hx, Instr.loadAt, Instr.sureAddr, Sem.run_bind, Sem.run_pure, Result.andThen_ok, run_loadVar_row w g t ty cs fr d (hg w hc) hu hd hi]
  exact ⟨rfl, rfl⟩
theorem qs_call {f : FuncId} {args : Array Value} {v : Value} (hw : Region.wanted o (yielded ops a.tmps) = true) (he : ∀ w, (execOp a.eval o).run P w = .ok (.enter f args) w)
    (hc : ∀ w, C w → Calls P f args w fun e w' => e = .returned v ∧ C w') (k : K (a.put o.dst v)) :
    if Region.wanted o (yielded ops a.tmps) = true then o.quiet P a C K else K (a.put o.dst undef) := by
  rw [if_pos hw]
  refine ⟨v, fun w h => ?_, k⟩
  unfold Oper.quietAt
  rw [he w]
  exact ⟨rfl, hc w h⟩
end
/-- The walk of a region that reads and calls quietly, told so that nothing looks into it. -/
structure WQ (P : Program) (ops : Array Oper) (C : World → Prop) (Q : Act → Prop) (l : List Oper) (a : Act) : Prop where
  out : wpQuiet P ops C Q l a
section
variable {P : Program} {ops : Array Oper} {C : World → Prop} {Q : Act → Prop} {o : Oper} {l : List Oper} {a : Act}
theorem WQ.nil (h : Q a) : WQ P ops C Q [] a := ⟨wpQuiet_nil h⟩
theorem WQ.off (hw : Region.wanted o (yielded ops a.tmps) = false) (k : WQ P ops C Q l (a.put o.dst undef)) : WQ P ops C Q (o :: l) a :=
  ⟨wpQuiet_step fun K hK => qs_off hw (hK _ k.out)⟩
theorem WQ.val {v : Value} (hw : Region.wanted o (yielded ops a.tmps) = true) (h : ∀ w, (execOp a.eval o).run P w = .ok (.value v) w) (k : WQ P ops C Q l (a.put o.dst v)) : WQ P ops C Q (o :: l) a :=
  ⟨wpQuiet_step fun K hK => qs_val hw h (hK _ k.out)⟩
theorem WQ.read {v : Value} (hw : Region.wanted o (yielded ops a.tmps) = true) (h : ∀ w, C w → (execOp a.eval o).run P w = .ok (.value v) w) (k : WQ P ops C Q l (a.put o.dst v)) : WQ P ops C Q (o :: l) a :=
  ⟨wpQuiet_step fun K hK => qs_read hw h (hK _ k.out)⟩
theorem WQ.row (hw : Region.wanted o (yielded ops a.tmps) = true) (ty : TypeId) (x : Operand) (ho : o.op = .load ty x)
    (g : Nat) (hx : a.eval x = .pointer (some ⟨g, 0, none⟩)) (t : TypeId) (cs : Array Value) (fr : Nat × Nat) (d : TypeDesc) (hg : ∀ w, C w → w.heap[g]? = some (.cells cs t fr))
    (hu : P.underlying ty = some d) (hd : (match d with | .struct _ | .array _ _ => true | _ => false) = true) (hi : (P.info? ty).map (·.size) = some cs.size)
    (k : WQ P ops C Q l (a.put o.dst (.agg cs))) : WQ P ops C Q (o :: l) a :=
  ⟨wpQuiet_step fun K hK => qs_row hw ty x ho g hx t cs fr d hg hu hd hi (hK _ k.out)⟩
theorem WQ.call {f : FuncId} {args : Array Value} {v : Value} (hw : Region.wanted o (yielded ops a.tmps) = true) (he : ∀ w, (execOp a.eval o).run P w = .ok (.enter f args) w)
    (hc : ∀ w, C w → Calls P f args w fun e w' => e = .returned v ∧ C w') (k : WQ P ops C Q l (a.put o.dst v)) : WQ P ops C Q (o :: l) a :=
  ⟨wpQuiet_step fun K hK => qs_call hw he hc (hK _ k.out)⟩
end
theorem wp_region_cls {P : Program} {id : Nat} {Q : Exit → Act → World → Prop} {a : Act} {w : World} {l : List Oper} (C : World → Prop) (hm : P.follows .mixedOrders = true) (hB : Region.lexB .any l.toArray = true) (hC : C (w.drewN 1))
    (h : wpQuiet P l.toArray C (fun a' => ∀ w', C w' → Q .normal a' w') l a) : (Code.region id l.toArray true).wp P Q a w :=
  wp_region_quiet (C := C) hm hB hC (by simpa using h)
theorem wp_region_wq {P : Program} {id : Nat} {Q : Exit → Act → World → Prop} {a : Act} {w : World} {l : List Oper} (C : World → Prop) (hm : P.follows .mixedOrders = true) (hB : Region.lexB .any l.toArray = true) (hC : C (w.drewN 1))
    (h : WQ P l.toArray C (fun a' => ∀ w', C w' → Q .normal a' w') l a) : (Code.region id l.toArray true).wp P Q a w :=
  wp_region_cls C hm hB hC h.out
end Go.Proofs.Ytopmmbopankpgaa
