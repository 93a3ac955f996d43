/- What slices.Equal answers of two rows of numbers, and of windows. -/
import Derived.Test.YtopmmbopankpgaaCfgE
namespace Go.Proofs.Ytopmmbopankpgaa
open Go.RowKit Go.Proofs.YtopmmbopankpgaaW.PrintWords Go.Proofs.YtopmmbopankpgaaW.PrintLast Go.Proofs.YtopmmbopankpgaaW.PrintMore
set_option linter.unusedVariables false
set_option linter.unusedSimpArgs false

theorem rd_getElem (xs : List Int) (i : Nat) (h : i < xs.length) : rd xs i = xs[i] := by
  unfold rd; rw [Int.toNat_natCast, List.getD_eq_getElem?_getD, List.getElem?_eq_getElem h]; rfl
theorem eqI_of (xs ys : List Int) (hl : xs.length = ys.length) (h : ∀ i : Nat, i < xs.length → rd xs i = rd ys i) : (xs == ys) = true := by
  rw [beq_iff_eq]
  refine List.ext_getElem hl fun i h1 h2 => ?_
  rw [← rd_getElem xs i h1, ← rd_getElem ys i h2]; exact h i h1
theorem neI_of (xs ys : List Int) (i : Nat) (hi : i < xs.length) (hl : xs.length = ys.length) (h : ¬ rd xs i = rd ys i) : (xs == ys) = false := by
  rw [beq_eq_false_iff_ne]; rintro rfl; exact h rfl
set_option maxHeartbeats 1000000 in
theorem eqI_any (A B : Option Addr) (ca cb : Nat) (xs ys : List Int) (w : World) (hx : Kd.C (Kd.int .i64) w A xs.length xs) (hy : Kd.C (Kd.int .i64) w B ys.length ys) :
    Calls Try.prog 43 #[.slice A xs.length ca, .slice B ys.length cb] w fun e w' => e = .returned (.bool (xs == ys)) ∧ ∃ n, w' = w.drewN n := by
  obtain ⟨n, hn⟩ : ∃ n, n = xs.length := ⟨_, rfl⟩
  obtain ⟨m, hm⟩ : ∃ m, m = ys.length := ⟨_, rfl⟩
  have hn1 : n ≤ 9223372036854775807 := by have := hx.2.1; omega
  have hm1 : m ≤ 9223372036854775807 := by have := hy.2.1; omega
  have HX := Aside0.mk hx
  have HY := Aside0.mk hy
  clear hx hy
  rw [← hn] at HX ⊢
  rw [← hm] at HY ⊢
  have HN := Aside0.mk hn
  have HM := Aside0.mk hm
  clear hn hm
  by_cases hl : n = m
  · subst hl
    go_enter Try.func43, Try.ntmps43
    go_wp2_with fail
    go_loopw [13] (fun i wr => ∃ k : Nat, k ≤ n ∧ i = .int .i64 k ∧ Aside0 (∀ i : Nat, i < k → rd xs i = rd ys i) ∧ Aside0 (∃ q, wr = w.drewN q)) (fun i _ => n - (intOf i).toNat)
    case atStart => exact ⟨0, Nat.zero_le _, rfl, ⟨fun i h => absurd h (Nat.not_lt_zero _)⟩, ⟨0, rfl⟩⟩
    case round =>
      obtain ⟨k, hk, rfl, HI, HQ⟩ := hrel
      obtain ⟨q, rfl⟩ := HQ.out
      by_cases hlt : k < n
      · obtain ⟨ad, e, hc0⟩ := at_intN HX.out k hlt
        subst e
        obtain ⟨bd, e, hd0⟩ := at_intN HY.out k hlt
        subst e
        obtain ⟨x, ex⟩ : ∃ x, x = rd xs k := ⟨_, rfl⟩
        obtain ⟨y, ey⟩ : ∃ y, y = rd ys k := ⟨_, rfl⟩
        rw [← ex] at hc0
        rw [← ey] at hd0
        have EX := Aside0.mk ex
        have EY := Aside0.mk ey
        clear ex ey
        by_cases h : x = y
        · subst h
          go_wp2_with fail
          go_quiet (fail)
          go_wp2
          go_roundw
          case rel => exact ⟨k + 1, by omega, by go_num, ⟨fun i hi => by rcases Nat.lt_or_ge i k with h1 | h1; exact HI.out i h1; (obtain rfl : i = k := by omega); rw [← EX.out, ← EY.out]⟩, ⟨_, rfl⟩⟩
          case measure => simp [intOf]; omega
        · have h' : (x != y) = true := by simpa using h
          go_wp2_with fail
          go_quiet (fail)
          go_wp2
          go_ret
          exact ⟨by rw [neI_of xs ys k (by rw [← HN.out]; exact hlt) (by rw [← HN.out, ← HM.out]) (by rw [← EX.out, ← EY.out]; exact h)]; rfl, _, World.drewN_drewN _ _ _⟩
      · obtain rfl : k = n := by omega
        go_wp2
        go_ret
        exact ⟨by rw [eqI_of xs ys (by rw [← HN.out, ← HM.out]) (by rw [← HN.out]; exact HI.out)]; rfl, _, rfl⟩
  · have hl' : ((n : Int) != m) = true := by simp; omega
    go_enter Try.func43, Try.ntmps43
    go_wp2
    go_ret
    exact ⟨by rw [show (xs == ys) = false by rw [beq_eq_false_iff_ne]; rintro rfl; exact hl (HN.out.trans HM.out.symm)]; rfl, 0, rfl⟩
end Go.Proofs.Ytopmmbopankpgaa
