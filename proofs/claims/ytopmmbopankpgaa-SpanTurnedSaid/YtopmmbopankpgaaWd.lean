/- Words of mine: rows that a call has just made, read. -/
import Derived.Test.YtopmmbopankpgaaProg
import Derived.Below
import Derived.Deep.Draws
import Derived.Tactics
import Derived.Laws.Slices
import Derived.WalkKit
import Derived.KernelRfl
import Derived.RowKit3
import Derived.Deep.LoopGhost
import Derived.Deep.QuietTactic
import Derived.BigQuiet
import Derived.Deep.CutBlock
import Derived.Deep.DeepCutAuto
import Derived.Deep.RegionHeld3
import Derived.Laws.Rows
import Derived.Test.YtopmmbopankpgaaWWords
import Derived.Test.YtopmmbopankpgaaWEqStruct
import Derived.Test.YtopmmbopankpgaaWMore
import Derived.Test.YtopmmbopankpgaaWGuard
import Derived.WalkSpells
import Derived.WalkLawsBesides
namespace Go.Proofs.Ytopmmbopankpgaa
open Go.RowKit Go.Proofs.YtopmmbopankpgaaW.PrintWords Go.Proofs.YtopmmbopankpgaaW.PrintLast Go.Proofs.YtopmmbopankpgaaW.PrintMore

theorem at_intN {kd : IntKind} {w : World} {A : Option Addr} {n : Nat} {xs : List Int} (h : (Kd.int kd).C w A n xs) (i : Nat) (h1 : i < n) : ∃ ad, A = some ad ∧ w.cell? (ad.add i) = some (.int kd (rd xs i)) := by
  obtain ⟨ad, e, hc⟩ := Kd.at_int h (i : Int) (by omega) (by omega)
  exact ⟨ad, e, by simpa using hc⟩
theorem add_zero_block (b n : Nat) : Addr.add ⟨b, 0, none⟩ n = ⟨b, n, none⟩ := by
  unfold Addr.add
  by_cases h : n = 0
  · subst h; simp
  · simp [h]
/-- A row that a call has just made reads as what was laid. -/
theorem C_new {α : Type} (d : Kd α) (W : World) (e : TypeId) (xs : List α) (cs : List Value) (b : Nat) (hb : b = W.heap.size) (hr : Reps (d.K (W.alloc (.cells cs.toArray e))) d.sz xs cs) (hl : xs.length ≤ 9223372036854775807) :
    Kd.C d (W.alloc (.cells cs.toArray e)) (some ⟨b, 0, none⟩) xs.length xs := by
  subst hb
  refine ⟨rfl, hl, fun _ => ⟨_, rfl, fun j p hj => ⟨(cs.drop (j * d.sz)).take d.sz, ?_, hr.2 j p hj, fun i u hu => ?_⟩⟩⟩
  · have hjl := (List.getElem?_eq_some_iff.1 hj).1
    have h1 : j * d.sz + d.sz ≤ cs.length := by rw [hr.1, ← Nat.succ_mul]; exact Nat.mul_le_mul_right _ hjl
    rw [List.length_take, List.length_drop]
    omega
  · rw [add_zero_block]
    rw [blk_cell (heap_alloc_new W _)]
    rw [List.getElem?_take] at hu
    split at hu
    · rw [List.getElem?_drop] at hu
      simpa using hu
    · cases hu
theorem Reps_one {α : Type} {R : α → List Value → Prop} {size : Nat} {p : α} {c : List Value} (h : R p c) (hc : c.length = size) : Reps R size [p] c := by
  have := (Reps.none R size).snoc h hc
  simpa using this
theorem Reps_ints (kd : IntKind) (w : World) (xs : List Int) : Reps ((Kd.int kd).K w) (Kd.int kd).sz xs (xs.map (Value.int kd)) := by
  refine ⟨by simp [Kd.int, Kd.scalar], fun j p hj => ?_⟩
  show List.take 1 (List.drop (j * 1) (xs.map (Value.int kd))) = [Value.int kd p]
  have hl := (List.getElem?_eq_some_iff.1 hj).1
  have hp := (List.getElem?_eq_some_iff.1 hj).2
  rw [Nat.mul_one, List.drop_eq_getElem_cons (by simpa using hl)]
  simp [hp]
theorem bcell {W w1 : World} (hb : Below W.heap.size W w1) : (∀ b o, b < W.heap.size → w1.cell? ⟨b, o, none⟩ = W.cell? ⟨b, o, none⟩) ∧ (∀ b o, b < W.heap.size → w1.frozen? ⟨b, o, none⟩ = W.frozen? ⟨b, o, none⟩) :=
  ⟨fun b o h => hb.cell (p := ⟨b, o, none⟩) h, fun b o h => hb.frozen (p := ⟨b, o, none⟩) h⟩
theorem infoInt : (Try.prog.info? 3).map (fun i => (i.zero, i.size, i.bytes)) = some (some (.int .i64 0), 1, 8) := by kernel_rfl
theorem blk_step {W w' : World} {g : Nat} {o : Obj} (h : W.heap[g]? = some o) (hb : Below W.heap.size W w') : w'.heap[g]? = some o := (hb.block g (blk_lt h)).trans h
end Go.Proofs.Ytopmmbopankpgaa
