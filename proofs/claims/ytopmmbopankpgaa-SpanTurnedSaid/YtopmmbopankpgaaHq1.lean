/- Spans, plainly: what the printed functions of the document's answer come to. -/
import Derived.Test.YtopmmbopankpgaaH5
import Derived.Test.YtopmmbopankpgaaH8
import Derived.Test.YtopmmbopankpgaaH13
import Derived.Test.YtopmmbopankpgaaH15
import Derived.Test.YtopmmbopankpgaaH16
import Derived.Test.YtopmmbopankpgaaH7
import Derived.Test.YtopmmbopankpgaaHsr
import Derived.Test.YtopmmbopankpgaaHsa
import Derived.Test.YtopmmbopankpgaaHsc
namespace Go.Proofs.Ytopmmbopankpgaa.H
open Go.RowKit Go.Proofs.Ytopmmbopankpgaa Go.Proofs.YtopmmbopankpgaaW.PrintWords Go.Proofs.YtopmmbopankpgaaW.PrintLast Go.Proofs.YtopmmbopankpgaaW.PrintMore SpTh
set_option linter.unusedVariables false
set_option linter.unusedSimpArgs false

theorem rdT_eq (xs : List Spn) (i : Nat) : rd_T63 xs (i : Int) = rdS xs i := by unfold rd_T63 rdS; rw [Int.toNat_natCast]; rfl
theorem wrap_succ {i n : Nat} (h : i < n) (hn : n ≤ 9223372036854775807) : wrap64 ((i : Int) + 1) = ((i + 1 : Nat) : Int) := by unfold wrap64; omega
theorem same_loop (xs : List Spn) (hn : xs.length ≤ 9223372036854775807) (d : Nat) : ∀ (k i : Nat), i + d = xs.length → d < k → newelref13_Same.l0 k xs xs (i : Int) = some true := by
  induction d with
  | zero =>
    intro k i hi hk
    obtain ⟨k, rfl⟩ : ∃ m, k = m + 1 := ⟨k - 1, by omega⟩
    simp only [newelref13_Same.l0]
    rw [if_neg (by omega)]
  | succ d ih =>
    intro k i hi hk
    obtain ⟨k, rfl⟩ : ∃ m, k = m + 1 := ⟨k - 1, by omega⟩
    simp only [newelref13_Same.l0]
    rw [if_pos (by omega), if_pos (by omega), if_pos (by omega), if_neg (by simp), wrap_succ (n := xs.length) (by omega) hn]
    exact ih k (i + 1) (by omega) (by omega)
theorem same_refl (xs : List Spn) (hn : xs.length ≤ 9223372036854775807) (k : Nat) (hk : xs.length < k) : newelref13_Same.f k xs xs = some true := by
  unfold newelref13_Same.f
  rw [if_pos rfl]
  exact same_loop xs hn xs.length k 0 (by omega) hk
theorem own_eq (xs : List Spn) (h : xs.length < 4398046511104) : newellaw13_own.f xs = some xs := by
  unfold newellaw13_own.f
  simp [h]
theorem may_loop (xs : List Spn) (hn : xs.length ≤ 9223372036854775807) (d : Nat) : ∀ (k i : Nat), i + d = xs.length → d < k → newelref13_May.l0 k xs (i : Int) = some (!(xs.drop i).any oddS && decide (xs.length ≤ 500)) := by
  induction d with
  | zero =>
    intro k i hi hk
    obtain ⟨k, rfl⟩ : ∃ m, k = m + 1 := ⟨k - 1, by omega⟩
    simp only [newelref13_May.l0]
    rw [if_neg (by omega), List.drop_of_length_le (by omega)]
    simp
    omega
  | succ d ih =>
    intro k i hi hk
    obtain ⟨k, rfl⟩ : ∃ m, k = m + 1 := ⟨k - 1, by omega⟩
    simp only [newelref13_May.l0]
    have hlt : i < xs.length := by omega
    rw [if_pos (by omega), if_pos (by omega), rdT_eq, wrap_succ (n := xs.length) (by omega) hn, ih k (i + 1) (by omega) (by omega), List.drop_eq_getElem_cons hlt, List.any_cons, rdS_getElem xs i hlt]
    unfold oddS
    by_cases h : xs[i].f0 ≥ xs[i].f1
    · rw [if_pos h]; simp [h]
    · rw [if_neg h]; simp [h]
theorem may_eq (xs : List Spn) (hn : xs.length ≤ 9223372036854775807) (k : Nat) (hk : xs.length < k) : newelref13_May.f k xs = some (mayS xs) := by
  unfold newelref13_May.f mayS
  rw [show (0 : Int) = ((0 : Nat) : Int) from rfl, may_loop xs hn xs.length k 0 (by omega) hk]
  simp [Bool.and_comm]
theorem over_eq (a b : Spn) : newelref13_over.f a.f0 a.f1 a.f2 a.f3 b.f0 b.f1 b.f2 b.f3 = some (!lessS a b) := by
  unfold newelref13_over.f lessS
  by_cases h : a.f3 = b.f3
  · rw [if_pos h]
    congr 1
    rw [Bool.eq_iff_iff]
    simp [h]
  · rw [if_neg h]
    congr 1
    rw [Bool.eq_iff_iff]
    simp [h]
    omega
theorem weight_loop (xs : List Spn) (t : Int) (hn : xs.length ≤ 4611686018427387903) (d : Nat) : ∀ (k i : Nat), i + d = xs.length → 2 * d < k → newelref13_Weightiest.l0 k xs t (wtI xs t i) (i : Int) = some (wtI xs t xs.length) := by
  induction d with
  | zero =>
    intro k i hi hk
    obtain ⟨k, rfl⟩ : ∃ m, k = m + 1 := ⟨k - 1, by omega⟩
    simp only [newelref13_Weightiest.l0]
    rw [if_neg (by omega)]
    obtain rfl : i = xs.length := by omega
    rfl
  | succ d ih =>
    intro k i hi hk
    obtain ⟨k, rfl⟩ : ∃ m, k = m + 2 := ⟨k - 2, by omega⟩
    have hlt : i < xs.length := by omega
    have hb := wtI_bd xs t i
    have ih2 := ih k (i + 1) (by omega) (by omega)
    have hw := wrap_succ (n := xs.length) hlt (by omega)
    have hst : wtI xs t (i + 1) = if inS (rdS xs i) t && (decide (wtI xs t i < 0) || !lessS (rdS xs i) (rdS xs (wtI xs t i).toNat)) then (i : Int) else wtI xs t i := rfl
    generalize wtI xs t i = b at hb hst ⊢
    have key : newelref13_Weightiest.j1 (k + 1) xs t b (i : Int) (!inS (rdS xs i) t) = some (wtI xs t xs.length) := by
      simp only [newelref13_Weightiest.j1]
      by_cases hin : inS (rdS xs i) t = true
      · rw [if_neg (by simp [hin])]
        by_cases hb0 : b < 0
        · rw [if_pos hb0, hw]
          rw [hst] at ih2
          simpa [hin, hb0] using ih2
        · obtain ⟨j, rfl⟩ : ∃ j : Nat, b = j := ⟨b.toNat, by omega⟩
          rw [if_neg hb0, if_pos (by omega), if_pos (by omega), if_pos (by omega), if_pos (by omega), rdT_eq, rdT_eq, over_eq, hw]
          rw [hst] at ih2
          rw [Int.toNat_natCast] at ih2
          simp only [Option.bind_some]
          cases hl : lessS (rdS xs i) (rdS xs j)
          · simpa [hin, hl] using ih2
          · have hj : ¬ ((j : Int) < 0) := by omega
            simpa [hin, hl, hj] using ih2
      · rw [if_pos (by simpa using hin), hw]
        rw [hst] at ih2
        simpa [hin] using ih2
    simp only [newelref13_Weightiest.l0]
    rw [if_pos (by omega), if_pos (by omega), rdT_eq]
    by_cases h1 : t < (rdS xs i).f0
    · rw [if_pos h1]
      rw [show (!inS (rdS xs i) t) = true from by simp [inS]; omega] at key
      exact key
    · rw [if_neg h1]
      rw [show (!inS (rdS xs i) t) = decide (t ≥ (rdS xs i).f1) from by rw [Bool.eq_iff_iff]; simp [inS]; omega] at key
      exact key
theorem weight_eq (xs : List Spn) (t : Int) (hn : xs.length ≤ 4611686018427387903) (k : Nat) (hk : 2 * xs.length < k) : newelref13_Weightiest.f k xs t = some (wtI xs t xs.length) := by
  unfold newelref13_Weightiest.f
  exact weight_loop xs t hn xs.length k 0 (by omega) hk
end Go.Proofs.Ytopmmbopankpgaa.H
