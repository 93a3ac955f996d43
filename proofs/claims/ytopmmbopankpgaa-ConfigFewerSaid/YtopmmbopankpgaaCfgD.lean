/- What config.Window answers, for every window. -/
import Derived.Test.YtopmmbopankpgaaCfgA
import Derived.Deep.DeepCutAuto
namespace Go.Proofs.Ytopmmbopankpgaa
open Go.RowKit Go.Proofs.YtopmmbopankpgaaW.PrintWords Go.Proofs.YtopmmbopankpgaaW.PrintLast Go.Proofs.YtopmmbopankpgaaW.PrintMore
set_option linter.unusedVariables false
set_option linter.unusedSimpArgs false

def winOk (x : Win) : Bool :=
  (inB x.mode 0 5 && inB x.prio 0 99) &&
  (if x.kind = 1 then (inB x.minute 0 1439 && inB x.len 1 10080) && (inB x.arg 1 127 && x.shift == 0)
   else if x.kind = 2 then (inB x.minute 0 1439 && inB x.len 1 10080) && (inB x.arg 401 3651998 && x.shift == 0)
   else if x.kind = 3 then (inB x.minute 0 1439 && inB x.len 1 10080) && (inB x.arg 1 7 && inB x.shift (-7) 7)
   else if x.kind = 4 then (x.arg == 0 && (x.shift == 0 && (inB x.minute 0 180 && inB x.len 0 180)))
   else false)
theorem four (p q a b : Bool) : p = false ∨ (p = true ∧ q = false) ∨ (p = true ∧ q = true ∧ a = false) ∨ (p = true ∧ q = true ∧ a = true ∧ b = false) ∨ (p = true ∧ q = true ∧ a = true ∧ b = true) := by
  cases p <;> cases q <;> cases a <;> cases b <;> simp
theorem five (p q a b c : Bool) : p = false ∨ (p = true ∧ q = false) ∨ (p = true ∧ q = true ∧ a = false) ∨ (p = true ∧ q = true ∧ a = true ∧ b = false) ∨ (p = true ∧ q = true ∧ a = true ∧ b = true ∧ c = false) ∨ (p = true ∧ q = true ∧ a = true ∧ b = true ∧ c = true) := by
  cases p <;> cases q <;> cases a <;> cases b <;> cases c <;> simp
def winE (x : Win) : Int := must (winOk x) 104
set_option maxRecDepth 100000 in
set_option maxHeartbeats 4000000 in
theorem win_any (x : Win) (w : World) :
    Calls Try.prog 42 #[.agg (winA x)] w fun e w' => e = .returned (.int .i64 (winE x)) ∧ Below w.heap.size w w' := by
  obtain ⟨kind, mode, prio, arg, shift, minute, len⟩ := x
  simp only [winA]
  have HE : Aside0 (∀ b : Bool, winOk ⟨kind, mode, prio, arg, shift, minute, len⟩ = b → winE ⟨kind, mode, prio, arg, shift, minute, len⟩ = if b then 0 else 104) := ⟨fun b h => by unfold winE must; rw [h]⟩
  generalize winE ⟨kind, mode, prio, arg, shift, minute, len⟩ = E at HE ⊢
  obtain ⟨W, hW⟩ : ∃ W, W = w.alloc (.cells #[.int .i64 kind, .int .i64 mode, .int .i64 prio, .int .i64 arg, .int .i64 shift, .int .i64 minute, .int .i64 len] 81) := ⟨_, rfl⟩
  have HB : Below w.heap.size w W := by rw [hW]; exact below_alloc (Below.refl _ _) _
  go_enter Try.func42, Try.ntmps42
  go_upto_region 1 with fail
  rw [← hW]
  have hck : ∀ i, W.cell? ⟨w.heap.size, i, none⟩ = (#[Value.int .i64 kind, .int .i64 mode, .int .i64 prio, .int .i64 arg, .int .i64 shift, .int .i64 minute, .int .i64 len])[i]? := by rw [hW]; exact blk_cell (heap_alloc_new w _)
  clear hW
  go_cut [3] (fun t W' => t = .bool (inB mode 0 5 && inB prio 0 99) ∧ W' = W)
  case first =>
    cases h1 : inB mode 0 5
    all_goals
      go_wp2_with (go_at_call 63; (with_reducible refine (within_any _ _ _ _).mono ?_); rintro e w' ⟨rfl, rfl⟩)
      go_meet
      exact ⟨by simp [h1], rfl⟩
  case rest =>
  obtain ⟨rfl, rfl⟩ := hcut
  obtain ⟨p, hp⟩ : ∃ p, p = (inB mode 0 5 && inB prio 0 99) := ⟨_, rfl⟩
  rw [← hp]
  go_upto_region 2 with fail
  go_cut [4] (fun t W' => t = .bool (inB minute 0 1439 && inB len 1 10080) ∧ W' = wc)
  case first =>
    clear hp
    cases h1 : inB minute 0 1439
    all_goals
      go_wp2_with (go_at_call 63; (with_reducible refine (within_any _ _ _ _).mono ?_); rintro e w' ⟨rfl, rfl⟩)
      go_meet
      exact ⟨by simp [h1], rfl⟩
  case rest =>
  obtain ⟨rfl, rfl⟩ := hcut
  obtain ⟨q, hq⟩ : ∃ q, q = (inB minute 0 1439 && inB len 1 10080) := ⟨_, rfl⟩
  rw [← hq]
  by_cases k1 : kind = 1
  · subst k1
    rw [eq_comm] at hp hq
    rcases four p q (inB arg 1 127) (shift == 0) with rfl | ⟨rfl, rfl⟩ | ⟨rfl, rfl, h5⟩ | ⟨rfl, rfl, h5, h6⟩ | ⟨rfl, rfl, h5, h6⟩
    all_goals
      go_wp2_with (go_at_call 63; (with_reducible refine (within_any _ _ _ _).mono ?_); rintro e w' ⟨rfl, rfl⟩)
      all_goals
        go_ret
        refine ⟨?_, HB⟩
        first
        | (rw [HE.out false (by unfold winOk; simp [*])]; rfl)
        | (rw [HE.out true (by unfold winOk; simp [*])]; rfl)
  by_cases k2 : kind = 2
  · subst k2
    rw [eq_comm] at hp hq
    rcases four p q (inB arg 401 3651998) (shift == 0) with rfl | ⟨rfl, rfl⟩ | ⟨rfl, rfl, h5⟩ | ⟨rfl, rfl, h5, h6⟩ | ⟨rfl, rfl, h5, h6⟩
    all_goals
      go_wp2_with (go_at_call 63; (with_reducible refine (within_any _ _ _ _).mono ?_); rintro e w' ⟨rfl, rfl⟩)
      all_goals
        go_ret
        refine ⟨?_, HB⟩
        first
        | (rw [HE.out false (by unfold winOk; simp [*])]; rfl)
        | (rw [HE.out true (by unfold winOk; simp [*])]; rfl)
  by_cases k3 : kind = 3
  · subst k3
    rw [eq_comm] at hp hq
    rcases four p q (inB arg 1 7) (inB shift (-7) 7) with rfl | ⟨rfl, rfl⟩ | ⟨rfl, rfl, h5⟩ | ⟨rfl, rfl, h5, h6⟩ | ⟨rfl, rfl, h5, h6⟩
    all_goals
      go_wp2_with (go_at_call 63; (with_reducible refine (within_any _ _ _ _).mono ?_); rintro e w' ⟨rfl, rfl⟩)
      all_goals
        go_ret
        refine ⟨?_, HB⟩
        first
        | (rw [HE.out false (by unfold winOk; simp [*])]; rfl)
        | (rw [HE.out true (by unfold winOk; simp [*])]; rfl)
  by_cases k4 : kind = 4
  · subst k4
    rw [eq_comm] at hp
    clear hq
    rcases five p (arg == 0) (shift == 0) (inB minute 0 180) (inB len 0 180) with rfl | ⟨rfl, h5⟩ | ⟨rfl, h5, h6⟩ | ⟨rfl, h5, h6, h7⟩ | ⟨rfl, h5, h6, h7, h8⟩ | ⟨rfl, h5, h6, h7, h8⟩
    all_goals
      go_wp2_with (go_at_call 63; (with_reducible refine (within_any _ _ _ _).mono ?_); rintro e w' ⟨rfl, rfl⟩)
      all_goals
        go_ret
        refine ⟨?_, HB⟩
        first
        | (rw [HE.out false (by unfold winOk; simp [*])]; rfl)
        | (rw [HE.out true (by unfold winOk; simp [*])]; rfl)
  · have q1 : (kind == 1) = false := by simpa using k1
    have q2 : (kind == 2) = false := by simpa using k2
    have q3 : (kind == 3) = false := by simpa using k3
    have q4 : (kind == 4) = false := by simpa using k4
    go_wp2
    go_ret
    exact ⟨by rw [HE.out false (by unfold winOk; simp [k1, k2, k3, k4])]; rfl, HB⟩
end Go.Proofs.Ytopmmbopankpgaa
