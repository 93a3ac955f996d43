/- A region that draws its order, in a round of a loop over a function: what holds of it outside of rounds holds of it there. -/
import Derived.Test.YtopmmbopankpgaaWd
import Derived.RangeFuncNested
import Derived.RangeFuncBound
import Derived.RangeFuncCalls
import Derived.RangeFuncLeaves
import Derived.Shelf.Abstract
import Derived.Shelf.RegionOpen
import Derived.WalkKit
import Derived.OwnWalkIn
import Derived.TacticsInMore
import Derived.LoopNIn
import Derived.LoopIn
import Derived.OrdersIn
import Derived.Deep.Quiet
import Derived.StillTail
import Derived.StillTailTactics
namespace Go.Proofs.Ytopmmbopankpgaa
open Go.RowKit
/-- The wide fence, in a round or outside of one. -/
def FW (ro : Option Nat) : Fence := { Fence.wide with round := ro }
theorem FW_round (ro : Option Nat) : (FW ro).round = ro := rfl
section
variable {P : Program} {ops : Array Oper} {n : Nat} {ro : Option Nat} {md : Region.Mode} {Q : Exit → Act → World → Prop}
theorem calls_FW {f : FuncId} {args : Array Value} {w : World} {R : Ending → World → Prop} (h : Calls P f args w R) : CallsIn (FW ro) n P f args w R := by
  cases ro with
  | none => exact callsIn_wide.2 h
  | some l => exact CallsIn.inRound l (callsIn_wide.2 h)
theorem rows_round {row : String} {args : Array Value} {w : World} {R : Value → World → Prop} (h : Rows P row args w R) : RowsIn (FW ro) n P row args w R :=
  fun c cs _ => let ⟨v, w', r, s⟩ := h c cs; ⟨v, w', r, stepsIn_wide.2 s⟩
theorem upon_round {o : Oper} {a : Act} {next : Act → World → Prop} {r : Result Next} (h : o.upon P a next Q r) : o.uponIn (FW ro) n P a next Q r := by
  cases r with
  | ok x w' =>
    cases x <;> simp only [Oper.upon, Oper.uponIn] at h ⊢ <;> first
      | exact h
      | exact ⟨fun hd => absurd hd (by simp [FW, Fence.wide]), calls_FW (Calls.mono h (fun e w'' he => by cases e <;> exact he))⟩
      | exact ⟨fun hd => absurd hd (by simp [FW, Fence.wide]), rows_round h⟩
  | halt x w' => cases x <;> simp only [Oper.upon, Oper.uponIn] at h ⊢ <;> exact h
/-- No operation of a region defers. -/
def noDefer (ops : Array Oper) : Bool := ops.all fun o => match o.op with | .defer _ => false | _ => true
theorem noDefer_spec (h : noDefer ops = true) {i : Nat} {o : Oper} (hi : ops[i]? = some o) : ∀ c, o.op ≠ .defer c := by
  intro c hc
  unfold noDefer at h
  rw [Array.all_eq_true] at h
  obtain ⟨hlt, e⟩ := Array.getElem?_eq_some_iff.1 hi
  have := h i hlt
  rw [e, hc] at this
  simp at this
theorem wpOp_round (hnd : noDefer ops = true) (hQ : ¬ LetsOut Q) {i : Nat} {K : Act → World → Prop} {a : Act} {w : World} (h : wpOp P ops Q i K a w) : wpOpIn (FW ro) n P ops Q i K a w := by
  unfold wpOp at h
  unfold wpOpIn
  cases ho : ops[i]? with
  | none => simpa [ho] using h
  | some o =>
    simp only [ho] at h ⊢
    split
    · rename_i hw
      simp only [hw, if_true] at h
      rcases h with h | h
      · refine ⟨fun _ _ => trivial, ?_⟩
        rw [FW_round, Oper.semAt_eq ro _ _ (noDefer_spec hnd ho)]
        exact upon_round h
      · exact absurd h.2 hQ
    · rename_i hw
      simp only [hw] at h
      exact ⟨fun _ _ => trivial, h⟩
theorem wpAny_round (hnd : noDefer ops = true) (hQ : ¬ LetsOut Q) : ∀ (fuel : Nat) (listed : Array Bool) (a : Act) (w : World), wpAny P md ops Q fuel listed a w → wpAnyIn (FW ro) n P md ops Q fuel listed a w
  | 0, _, _, _, h => h
  | fuel + 1, _, _, _, h => ⟨h.1, fun i hi => wpOpIn_mono (fun a w => wpAny_round hnd hQ fuel _ a w) (wpOp_round hnd hQ (h.2 i hi))⟩
theorem wpIn_any_round {id : Nat} {a : Act} {w : World} (hm : P.follows .mixedOrders = true) (hnd : noDefer ops = true) (hQ : ¬ LetsOut Q)
    (h : wpAny P .any ops Q ops.size (Array.replicate ops.size false) a { w with drawn := w.drawn + 1 }) : (Code.region id ops true).wpIn (FW ro) n P Q a w :=
  wpIn_region_any hm (wpAny_round hnd hQ _ _ _ _ h)
/-- Reads and calls that stay in a class of worlds. -/
theorem wpIn_region_cls {id : Nat} {a : Act} {w : World} {L : List Oper} (C : World → Prop) (hm : P.follows .mixedOrders = true) (hB : Region.lexB .any L.toArray = true) (hnd : noDefer L.toArray = true) (hQ : ¬ LetsOut Q) (hC : C (w.drewN 1))
    (h : wpQuiet P L.toArray C (fun a' => ∀ w', C w' → Q .normal a' w') L a) : (Code.region id L.toArray true).wpIn (FW ro) n P Q a w := by
  simp only [Region.lexB, Bool.and_eq_true] at hB
  refine wpIn_any_round hm hnd hQ (wpAny_of_quiet (C := C) (Q := fun a' => ∀ w', C w' → Q .normal a' w') (fun _ w' hw' h => h w' hw') _ _ _ _ hC ?_)
  have := wpAnyQ_lex (C := C) (md := .any) hB.1 L 0 (Array.replicate L.toArray.size false) a (by simp) (by simpa using hB.2) h
  simpa using this
/-- Reads ahead of what writes. -/
theorem wpIn_region_tail {id : Nat} {a : Act} {w : World} {L : List Oper} (m : Nat) (hm : P.follows .mixedOrders = true) (hB : Region.lexTailB .any L.toArray m = true) (hnd : noDefer L.toArray = true) (hQ : ¬ LetsOut Q)
    (h : wpStill P L.toArray (w.drewN 1) (fun a' => wpList P L.toArray Q (L.drop m) a' (w.drewN 1)) (L.take m) a) : (Code.region id L.toArray true).wpIn (FW ro) n P Q a w := by
  have h : wpStill P L.toArray { w with drawn := w.drawn + 1 } (fun a' => wpList P L.toArray Q (L.drop m) a' { w with drawn := w.drawn + 1 }) (L.take m) a := h
  simp only [Region.lexTailB, Bool.and_eq_true, decide_eq_true_eq] at hB
  obtain ⟨⟨⟨⟨hsel, hn⟩, hs⟩, hc⟩, hlex⟩ := hB
  have hn' : m < L.length := by simpa using hn
  have htl : (L.take m).length = m := by simp; omega
  have hdl : (L.drop m).length = L.toArray.size - m := by simp
  have inv0 : HeadInv .any L.toArray m (Array.replicate L.toArray.size false) :=
    ⟨by simp, fun j oj _ hl => (by rw [getD_replicate_false] at hl; cases hl), fun t _ ht => getD_in (by simpa using ht) (getD_replicate_false _ _)⟩
  have H := wpAnyL_lex (md := .any) (g := L.toArray.size - m) hsel hs hc hn (L.take m) 0 _ a (fun j hj => by
    have hj' : j < m := by rw [htl] at hj; exact hj
    simp [hj']) (by simpa using htl) inv0 (by rw [htl]; exact hlex) h
  refine wpIn_any_round hm hnd hQ ?_
  have := wpAny_of_head (Q' := Q) (g := L.toArray.size - m) (fun listed a' hL => by
    have := wpAny_of_seq (md := .any) (Q' := Q) (L.drop m) m listed a' { w with drawn := w.drawn + 1 } (fun j => by simp [List.getElem?_drop]) (by rw [hdl]; exact hL.1) hL.2
    rwa [hdl] at this) _ _ _ H
  rw [htl, show m + (L.toArray.size - m) = L.toArray.size by omega] at this
  exact this
/-- Reads ahead of what only a round's laws know (a call of yield). -/
theorem opIn_of_stOp (hnd : noDefer ops = true) {i : Nat} {K : Act → Prop} {K' : Act → World → Prop} {a : Act} {w : World} (hK : ∀ a', K a' → K' a' w) (h : stOp P ops w i K a) : wpOpIn (FW ro) n P ops Q i K' a w := by
  have h1 := wpOp_round (n := n) (ro := ro) (Q := fun _ _ _ => False) hnd (fun h => by obtain ⟨_, _, h⟩ := h; exact h) (wpOp_of_stOp hK h)
  unfold wpOpIn at h1 ⊢
  cases ho : ops[i]? with
  | none => simpa [ho] using h1
  | some o =>
    simp only [ho] at h1 ⊢
    split
    · rename_i hw
      simp only [hw, if_true] at h1
      refine ⟨h1.1, ?_⟩
      have h2 := h1.2
      generalize (o.semAt (FW ro).round a.eval).run P w = r at h2 ⊢
      cases r with
      | ok x w' =>
        cases x <;> simp only [Oper.uponIn] at h2 ⊢ <;> first
          | exact h2
          | exact ⟨h2.1, CallsIn.mono h2.2 (fun e w'' he => by cases e <;> first | exact he | exact he.elim | (obtain ⟨_, _, h⟩ := he; exact h.elim))⟩
          | exact ⟨h2.1, RoundIn.mono h2.2 (fun e w'' he => by cases e <;> first | exact he | exact he.elim | (obtain ⟨_, _, h⟩ := he; exact h.elim))⟩
      | halt x w' => cases x <;> simp only [Oper.uponIn] at h2 ⊢ <;> exact h2.elim
    · rename_i hw
      simp only [hw] at h1
      exact h1
theorem anyIn_of_head (hnd : noDefer ops = true) {m g : Nat} {w : World} {L : Array Bool → Act → Prop} (hL : ∀ listed a, L listed a → wpAnyIn (FW ro) n P md ops Q g listed a w) :
    ∀ (f : Nat) (listed : Array Bool) (a : Act), wpAnyL P md ops w m L f listed a → wpAnyIn (FW ro) n P md ops Q (f + g) listed a w
  | 0, listed, a, h => by rw [Nat.zero_add]; exact hL _ _ h
  | f + 1, listed, a, h => by
    rw [show f + 1 + g = (f + g) + 1 by omega]
    exact ⟨fun h0 => absurd h0 h.1, fun i hi => opIn_of_stOp hnd (fun a' h' => anyIn_of_head hnd hL f _ a' h') (h.2 i hi).2⟩
theorem anyIn_of_seq {F : Fence} : ∀ (l : List Oper) (k : Nat) (listed : Array Bool) (a : Act) (w : World), (∀ j, l[j]? = ops[k + j]?) →
    Region.seqB md ops l.length k listed = true → wpListIn F n P ops Q l a w → wpAnyIn F n P md ops Q l.length listed a w
  | [], _, _, _, _, _, hB, h => ⟨by simpa [Region.seqB] using hB, h⟩
  | o :: l, k, listed, a, w, hl, hB, h => by
    have h0 : ops[k]? = some o := by simpa using (hl 0).symm
    simp only [List.length_cons, Region.seqB, Bool.and_eq_true, decide_eq_true_eq] at hB
    refine ⟨fun h1 => (by rw [hB.1] at h1; cases h1), fun i hi => ?_⟩
    rw [hB.1] at hi
    have hik : i = k := by simpa using hi
    subst hik
    have hw : wpOpIn F n P ops Q i (wpListIn F n P ops Q l) a w := by unfold wpOpIn; simp only [h0]; exact h
    exact wpOpIn_mono (fun a' w' h' => anyIn_of_seq l (i + 1) _ a' w' (fun j => by have := hl (j + 1); simpa [Nat.add_assoc, Nat.add_comm 1 j] using this) hB.2 h') hw
/-- The walk of a region's reads, told so that nothing looks into it. -/
structure WS (P : Program) (ops : Array Oper) (w : World) (Q : Act → Prop) (l : List Oper) (a : Act) : Prop where
  out : wpStill P ops w Q l a
theorem WS.nil {w : World} {Q : Act → Prop} {a : Act} (h : Q a) : WS P ops w Q [] a := ⟨wpStill_nil h⟩
theorem WS.off {w : World} {Q : Act → Prop} {a : Act} {o : Oper} {l : List Oper} (hw : Region.wanted o (yielded ops a.tmps) = false) (k : WS P ops w Q l (a.put o.dst undef)) : WS P ops w Q (o :: l) a :=
  ⟨wpStill_step fun K hK => by rw [hw]; exact hK _ k.out⟩
theorem WS.val {w : World} {Q : Act → Prop} {a : Act} {o : Oper} {l : List Oper} {v : Value} (hw : Region.wanted o (yielded ops a.tmps) = true) (h : (execOp a.eval o).run P w = .ok (.value v) w) (k : WS P ops w Q l (a.put o.dst v)) : WS P ops w Q (o :: l) a :=
  ⟨wpStill_step fun K hK => by rw [if_pos hw]; unfold Oper.still; rw [h]; exact ⟨rfl, hK _ k.out⟩⟩
theorem wpIn_region_tailIn {id : Nat} {a : Act} {w : World} {L : List Oper} (m : Nat) (hm : P.follows .mixedOrders = true) (hB : Region.lexTailB .any L.toArray m = true) (hnd : noDefer L.toArray = true)
    (h : WS P L.toArray (w.drewN 1) (fun a' => wpListIn (FW ro) n P L.toArray Q (L.drop m) a' (w.drewN 1)) (L.take m) a) : (Code.region id L.toArray true).wpIn (FW ro) n P Q a w := by
  have h : wpStill P L.toArray { w with drawn := w.drawn + 1 } (fun a' => wpListIn (FW ro) n P L.toArray Q (L.drop m) a' { w with drawn := w.drawn + 1 }) (L.take m) a := h.out
  simp only [Region.lexTailB, Bool.and_eq_true, decide_eq_true_eq] at hB
  obtain ⟨⟨⟨⟨hsel, hn⟩, hs⟩, hc⟩, hlex⟩ := hB
  have hn' : m < L.length := by simpa using hn
  have htl : (L.take m).length = m := by simp; omega
  have hdl : (L.drop m).length = L.toArray.size - m := by simp
  have inv0 : HeadInv .any L.toArray m (Array.replicate L.toArray.size false) :=
    ⟨by simp, fun j oj _ hl => (by rw [getD_replicate_false] at hl; cases hl), fun t _ ht => getD_in (by simpa using ht) (getD_replicate_false _ _)⟩
  have H := wpAnyL_lex (md := .any) (g := L.toArray.size - m) hsel hs hc hn (L.take m) 0 _ a (fun j hj => by
    have hj' : j < m := by rw [htl] at hj; exact hj
    simp [hj']) (by simpa using htl) inv0 (by rw [htl]; exact hlex) h
  refine wpIn_region_any hm ?_
  have := anyIn_of_head (Q := Q) (ro := ro) (n := n) (g := L.toArray.size - m) hnd (fun listed a' hL => by
    have := anyIn_of_seq (md := .any) (Q := Q) (F := FW ro) (n := n) (L.drop m) m listed a' { w with drawn := w.drawn + 1 } (fun j => by simp [List.getElem?_drop]) (by rw [hdl]; exact hL.1) hL.2
    rwa [hdl] at this) _ _ _ H
  rw [htl, show m + (L.toArray.size - m) = L.toArray.size by omega] at this
  exact this
end
end Go.Proofs.Ytopmmbopankpgaa
