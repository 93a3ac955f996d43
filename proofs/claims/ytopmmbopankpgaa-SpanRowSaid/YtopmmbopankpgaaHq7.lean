/- Spans: the law SpanRow, as a plain statement. -/
import Derived.Test.YtopmmbopankpgaaHq4
import Derived.Test.YtopmmbopankpgaaH19
namespace Go.Proofs.Ytopmmbopankpgaa.H
open Go.RowKit Go.Proofs.Ytopmmbopankpgaa Go.Proofs.YtopmmbopankpgaaW.PrintWords Go.Proofs.YtopmmbopankpgaaW.PrintLast Go.Proofs.YtopmmbopankpgaaW.PrintMore SpTh
set_option linter.unusedVariables false
set_option linter.unusedSimpArgs false

theorem Nrm_sep : ∀ (r : List Spn) (i : Nat), Nrm r → i + 1 < r.length → sep (rdS r i) (rdS r (i + 1))
  | [], i, _, h => absurd h (by simp)
  | [a], i, _, h => absurd h (by simp)
  | a :: b :: r, 0, h, _ => h.2.1
  | a :: b :: r, i + 1, h, hl => Nrm_sep (b :: r) i h.2.2 (by simpa using hl)
theorem row_loop (r : List Spn) (e : Int) (hr : Nrm r) (hl : r.length ≤ 500) (he : e = 0 ∨ r = []) (d : Nat) : ∀ (k i : Nat), i + d = r.length → d + 1000 < k → newellaw13_SpanRow.l0 k r e (i : Int) = some true := by
  induction d with
  | zero =>
    intro k i hi hk
    obtain ⟨k, rfl⟩ : ∃ m, k = m + 1 := ⟨k - 1, by omega⟩
    simp only [newellaw13_SpanRow.l0]
    rw [if_neg (by omega), own_eq r (by omega)]
    simp only [Option.bind_some]
    rw [resR_row hr hl]
    simp only [Option.bind_some]
    rw [awake_eq _ (by omega)]
    simp only [Option.bind_some, if_true]
    rw [same_refl r (by omega) _ (by omega)]
    simp only [Option.bind_some, if_true]
    by_cases h0 : e = 0
    · rw [if_pos h0]
    · rw [if_neg h0]
      rcases he with he | he
      · exact absurd he h0
      · rw [he]; rfl
  | succ d ih =>
    intro k i hi hk
    obtain ⟨k, rfl⟩ : ∃ m, k = m + 1 := ⟨k - 1, by omega⟩
    have hlt : i < r.length := by omega
    have hw := wrap_succ (n := r.length) hlt (by omega)
    have hg : good (rdS r i) := by rw [rdS_getElem r i hlt]; exact Nrm_mem hr _ (List.getElem_mem hlt)
    have ih2 := ih k (i + 1) (by omega) (by omega)
    simp only [newellaw13_SpanRow.l0]
    rw [if_pos (by omega), if_pos (by omega), rdT_eq, hw, if_neg (by have := hg.1; omega)]
    cases i with
    | zero => rw [if_neg (by simp)]; exact ih2
    | succ j =>
      have hs := Nrm_sep r j hr hlt
      have hw2 : wrap64 (((j + 1 : Nat) : Int) - 1) = (j : Int) := by unfold wrap64; omega
      rw [if_pos (by omega), hw2, if_pos (by omega), if_pos (by omega), rdT_eq]
      unfold sep at hs
      rw [if_neg (by omega)]
      by_cases h1 : (rdS r (j + 1)).f0 = (rdS r j).f1
      · rw [if_pos h1, if_neg (fun h2 => by
          rcases hs with hs | hs
          · omega
          · exact hs.2 h2.symm)]
        exact ih2
      · rw [if_neg h1]; exact ih2
theorem spanRow_pure (l : List Spn) : ∃ k, newellaw13_SpanRow.f k l = some true := by
  obtain ⟨k, hk⟩ : ∃ k, k = l.length + 7001 := ⟨_, rfl⟩
  refine ⟨k, ?_⟩
  unfold newellaw13_SpanRow.f
  by_cases hl : (l.length : Int) > 60
  · rw [if_pos hl, awake_eq _ (by omega)]
    rfl
  · rw [if_neg hl, own_eq l (by omega)]
    simp only [Option.bind_some]
    rw [resolve_f]
    simp only [Option.bind_some]
    have h2 := resR_length l
    refine row_loop (resR l) (resE l) (resR_nrm l) (by omega) ?_ (resR l).length k 0 (by omega) (by omega)
    unfold resE resR
    cases mayS l <;> simp
end Go.Proofs.Ytopmmbopankpgaa.H
