/- Spans: what small functions answer (within, the closures' tests); where the first one is of which something holds. -/
import Derived.Test.YtopmmbopankpgaaWd
import Derived.Test.YtopmmbopankpgaaHsp1
namespace Go.Proofs.Ytopmmbopankpgaa.H
open Go.RowKit Go.Proofs.Ytopmmbopankpgaa Go.Proofs.YtopmmbopankpgaaW.PrintWords Go.Proofs.YtopmmbopankpgaaW.PrintLast Go.Proofs.YtopmmbopankpgaaW.PrintMore SpTh
set_option linter.unusedVariables false
set_option linter.unusedSimpArgs false

abbrev spnA (s : Spn) : Array Value := #[.int .i64 s.f0, .int .i64 s.f1, .int .i64 s.f2, .int .i64 s.f3]
abbrev kSpn : Kd Spn := k63
abbrev zSpn : Spn := ⟨0, 0, 0, 0⟩
def rdS (xs : List Spn) (i : Nat) : Spn := xs.getD i zSpn
theorem at_Spn {w : World} {A : Option Addr} {n : Nat} {xs : List Spn} (h : Kd.C kSpn w A n xs) (i : Nat) (h1 : i < n) : ∃ ad, A = some ad ∧ w.cell? (ad.add (i * 4)) = some (.int .i64 (rdS xs i).f0) ∧ w.cell? ⟨(ad.add (i * 4)).block, (ad.add (i * 4)).off + 1, none⟩ = some (.int .i64 (rdS xs i).f1) ∧ w.cell? ⟨(ad.add (i * 4)).block, (ad.add (i * 4)).off + 2, none⟩ = some (.int .i64 (rdS xs i).f2) ∧ w.cell? ⟨(ad.add (i * 4)).block, (ad.add (i * 4)).off + 3, none⟩ = some (.int .i64 (rdS xs i).f3) := by
  obtain ⟨ad, c, e, _, hK, hc0⟩ := Kd.C_get h zSpn (i : Int) (by omega) (by omega)
  have hc : ∀ j u, c[j]? = some u → w.cell? (ad.add (i * 4 + j)) = some u := hc0
  obtain rfl := k63_open hK
  exact ⟨ad, e, hc 0 _ rfl, by rw [← add_field _ _ 1 (by omega)]; exact hc 1 _ rfl, by rw [← add_field _ _ 2 (by omega)]; exact hc 2 _ rfl, by rw [← add_field _ _ 3 (by omega)]; exact hc 3 _ rfl⟩
theorem rdS_getElem (xs : List Spn) (i : Nat) (h : i < xs.length) : rdS xs i = xs[i] := by
  unfold rdS; rw [List.getD_eq_getElem?_getD, List.getElem?_eq_getElem h]; rfl

theorem inS_any (s : Spn) (t : Int) (w : World) :
    Calls Try.prog 61 #[.agg (spnA s), .int .i64 t] w fun e w' => e = .returned (.bool (inS s t)) ∧ Below w.heap.size w w' := by
  unfold inS
  cases h : decide (s.f0 ≤ t)
  all_goals
    go_enter Try.func61, Try.ntmps61
    go_wp2
    go_ret
    exact ⟨by simp, by repeat (first | exact Below.refl _ _ | apply below_alloc)⟩
theorem lessS_any (a b : Spn) (w : World) :
    Calls Try.prog 78 #[.agg (spnA a), .agg (spnA b)] w fun e w' => e = .returned (.bool (lessS a b)) ∧ Below w.heap.size w w' := by
  unfold lessS
  cases h : decide (a.f3 < b.f3) <;> cases h2 : (a.f3 == b.f3)
  all_goals
    go_enter Try.func78, Try.ntmps78
    go_wp2
    go_ret
    exact ⟨by simp, by repeat (first | exact Below.refl _ _ | apply below_alloc)⟩
def oddS (s : Spn) : Bool := decide (s.f0 ≥ s.f1)
theorem oddS_any (s : Spn) (w : World) :
    Calls Try.prog 52 #[.agg (spnA s)] w fun e w' => e = .returned (.bool (oddS s)) ∧ Below w.heap.size w w' := by
  unfold oddS
  go_enter Try.func52, Try.ntmps52
  go_wp2
  go_ret
  exact ⟨rfl, by repeat (first | exact Below.refl _ _ | apply below_alloc)⟩
def idxP (f : Spn → Bool) (xs : List Spn) : Nat → Int
  | 0 => -1
  | k + 1 => if idxP f xs k = -1 then (if f (rdS xs k) then k else -1) else idxP f xs k
theorem idxP_keep {f : Spn → Bool} {xs : List Spn} {k : Nat} {r : Int} (h : idxP f xs k = r) (hr : r ≠ -1) : ∀ n, k ≤ n → idxP f xs n = r := by
  intro n hn
  induction n with
  | zero => obtain rfl : k = 0 := by omega
            exact h
  | succ m ih =>
    rcases Nat.lt_or_ge m k with hm | hm
    · obtain rfl : k = m + 1 := by omega
      exact h
    · simp only [idxP]
      rw [if_neg (by rw [ih hm]; exact hr)]
      exact ih hm
theorem idxP_found {f : Spn → Bool} {xs : List Spn} {k n : Nat} (h : idxP f xs k = -1) (ho : f (rdS xs k) = true) (hk : k < n) : idxP f xs n = k :=
  idxP_keep (k := k + 1) (by simp only [idxP]; rw [if_pos h, ho]; rfl) (by omega) n hk
theorem idxP_ge (f : Spn → Bool) (xs : List Spn) (n : Nat) : -1 ≤ idxP f xs n := by
  induction n with
  | zero => simp [idxP]
  | succ m ih =>
    simp only [idxP]
    split
    · split <;> omega
    · exact ih
theorem idxP_lt (f : Spn → Bool) (xs : List Spn) (n : Nat) : idxP f xs n < n := by
  induction n with
  | zero => simp [idxP]
  | succ m ih =>
    simp only [idxP]
    split
    · split <;> omega
    · omega
/-- What it is: none ahead of it; it is one. -/
theorem idxP_spec (f : Spn → Bool) (xs : List Spn) (n : Nat) : (∀ j, j < n → (j : Int) < idxP f xs n ∨ idxP f xs n = -1 → f (rdS xs j) = false) ∧ (0 ≤ idxP f xs n → f (rdS xs (idxP f xs n).toNat) = true) := by
  induction n with
  | zero => exact ⟨fun j hj => absurd hj (Nat.not_lt_zero _), fun h => by simp [idxP] at h⟩
  | succ m ih =>
    obtain ⟨h1, h2⟩ := ih
    simp only [idxP]
    by_cases hm : idxP f xs m = -1
    · rw [if_pos hm]
      cases hf : f (rdS xs m)
      · refine ⟨fun j hj _ => ?_, fun h => absurd h (by simp)⟩
        rcases Nat.lt_or_ge j m with hj2 | hj2
        · exact h1 j hj2 (.inr hm)
        · obtain rfl : j = m := by omega
          exact hf
      · refine ⟨fun j hj h => ?_, fun _ => by simpa using hf⟩
        rcases Nat.lt_or_ge j m with hj2 | hj2
        · exact h1 j hj2 (.inr hm)
        · exfalso
          simp at h
          omega
    · rw [if_neg hm]
      have hl := idxP_lt f xs m
      have hg := idxP_ge f xs m
      exact ⟨fun j hj h => h1 j (by rcases h with h | h <;> omega) h, h2⟩
set_option maxHeartbeats 1000000 in
theorem idxOdd_any (A : Option Addr) (cap : Nat) (xs : List Spn) (w : World) (hr : Kd.C kSpn w A xs.length xs) :
    Calls Try.prog 59 #[.slice A xs.length cap, .func (.func 52) #[] #[]] w fun e w' => e = .returned (.int .i64 (idxP oddS xs xs.length)) ∧ Below w.heap.size w w' := by
  obtain ⟨n, hn⟩ : ∃ n, n = xs.length := ⟨_, rfl⟩
  have hm : n ≤ 9223372036854775807 := by have := hr.2.1; omega
  have HR := Aside0.mk hr
  clear hr
  rw [← hn] at HR ⊢
  have HN := Aside0.mk hn
  clear hn
  go_enter Try.func59, Try.ntmps59
  go_wp2_with fail
  go_loopw [8] (fun i wr => ∃ k : Nat, k ≤ n ∧ i = .int .i64 k ∧ Aside0 (idxP oddS xs k = -1) ∧ Aside0 (Below w.heap.size w wr)) (fun i _ => n - (intOf i).toNat)
  case atStart => exact ⟨0, Nat.zero_le _, rfl, ⟨rfl⟩, ⟨Below.refl _ _⟩⟩
  case round =>
    obtain ⟨k, hk, rfl, HI, HB⟩ := hrel
    by_cases hlt : k < n
    · obtain ⟨ad, e, hc0, hc1, hc2, hc3⟩ := at_Spn (Kd.C_below HR.out HB.out) k hlt
      subst e
      cases ho : oddS (rdS xs k)
      all_goals
        go_wp2_with (go_at_call 52; (with_reducible refine (oddS_any (rdS xs k) _).mono ?_); rintro e w' ⟨rfl, hb⟩)
        first
        | (go_ret; exact ⟨by rw [idxP_found HI.out ho hlt]; rfl, below_step HB.out hb⟩)
        | (go_roundw
           case rel => exact ⟨k + 1, by omega, by go_num, ⟨by simp only [idxP]; rw [if_pos HI.out, ho]; rfl⟩, ⟨below_step HB.out hb⟩⟩
           case measure => simp [intOf]; omega)
    · obtain rfl : k = n := by omega
      go_wp2
      go_ret
      exact ⟨by rw [HI.out]; rfl, HB.out⟩
theorem hasOdd_any (A : Option Addr) (cap : Nat) (xs : List Spn) (w : World) (hr : Kd.C kSpn w A xs.length xs) :
    Calls Try.prog 53 #[.slice A xs.length cap, .func (.func 52) #[] #[]] w fun e w' => e = .returned (.bool (xs.any oddS)) ∧ Below w.heap.size w w' := by
  have HE : Aside0 (decide (0 ≤ idxP oddS xs xs.length) = xs.any oddS) := ⟨by
    obtain ⟨h1, h2⟩ := idxP_spec oddS xs xs.length
    have hl := idxP_lt oddS xs xs.length
    have hg := idxP_ge oddS xs xs.length
    by_cases h : 0 ≤ idxP oddS xs xs.length
    · rw [show decide (0 ≤ idxP oddS xs xs.length) = true by simpa using h]
      symm
      rw [List.any_eq_true]
      have hlt : (idxP oddS xs xs.length).toNat < xs.length := by omega
      exact ⟨_, List.getElem_mem hlt, by rw [← rdS_getElem xs _ hlt]; exact h2 h⟩
    · rw [show decide (0 ≤ idxP oddS xs xs.length) = false by simpa using h]
      symm
      rw [List.any_eq_false]
      intro x hx
      obtain ⟨j, hj, rfl⟩ := List.mem_iff_getElem.1 hx
      rw [← rdS_getElem xs j hj, h1 j hj (.inr (by omega))]
      simp⟩
  rw [← HE.out]
  clear HE
  go_enter Try.func53, Try.ntmps53
  go_wp2_with (go_at_call 59; (with_reducible refine (idxOdd_any _ _ _ _ hr).mono ?_); rintro e w' ⟨rfl, hb⟩)
  go_ret
  exact ⟨rfl, hb⟩
end Go.Proofs.Ytopmmbopankpgaa.H
