-- Written by hp.py (a program of this session's, over the kit's print): functions of the seat, each with a plain Lean function and its contract.
import Derived.Test.YtopmmbopankpgaaH0
namespace Go.Proofs.Ytopmmbopankpgaa.H
open Go.RowKit Go.Proofs.YtopmmbopankpgaaW.PrintWords Go.Proofs.YtopmmbopankpgaaW.PrintLast Go.Proofs.YtopmmbopankpgaaW.PrintMore
attribute [local go_sem] max2_int min2_int max_two min_two max_three min_three max_four min_four   -- for this text's walks alone
set_option linter.unusedVariables false
set_option linter.unusedSimpArgs false

/-! ### newelref13_At: function 29 -/
def newelref13_At.l0 : Nat → List (S63) → Int → Int → Option (Int × Int × Int × Int × Bool)
  | 0, _, _, _ => none
  | k + 1, x0, x1, x6 => if x6 < (x0.length : Int) then (if 0 ≤ x6 then (if x1 ≥ ((rd_T63 x0 x6).f0) then (if x1 < ((rd_T63 x0 x6).f1) then (some ((rd_T63 x0 x6).f0, (rd_T63 x0 x6).f1, (rd_T63 x0 x6).f2, (rd_T63 x0 x6).f3, true)) else (newelref13_At.l0 k x0 x1 (wrap64 (x6 + 1)))) else (newelref13_At.l0 k x0 x1 (wrap64 (x6 + 1)))) else (none)) else (some (0, 0, 0, 0, false))
def newelref13_At.f (k : Nat) (l0 : List (S63)) (a1 : Int) : Option (Int × Int × Int × Int × Bool) := newelref13_At.l0 k l0 a1 0
theorem newelref13_At.mono_l : ∀ k, (∀ y0 y1 y2, LeO (newelref13_At.l0 k y0 y1 y2) (newelref13_At.l0 (k + 1) y0 y1 y2))
  | 0 => fun _ _ _ r h => by simp [newelref13_At.l0] at h
  | k + 1 => by
    have ih0 := newelref13_At.mono_l k
    · intro y0 y1 y2
      unfold newelref13_At.l0
      repeat' first
      | (with_reducible exact ih0 _ _ _)
      | (with_reducible exact LeO.refl _)
      | (with_reducible exact LeO.none _)
      | (with_reducible refine LeO.ite ?_ ?_)
      | (with_reducible refine LeO.bind ?_ (fun _ => ?_))
      | exact ih0 _ _ _
      | exact LeO.none _
      | refine LeO.ite ?_ ?_
      | refine LeO.bind ?_ (fun _ => ?_)
theorem newelref13_At.mono : ∀ a0 a1 k, LeO (newelref13_At.f k a0 a1) (newelref13_At.f (k + 1) a0 a1) := by
  intro a0 a1 k
  have ih0 := newelref13_At.mono_l k
  unfold newelref13_At.f
  repeat' first
      | (with_reducible exact ih0 _ _ _)
      | (with_reducible exact LeO.refl _)
      | (with_reducible exact LeO.none _)
      | (with_reducible refine LeO.ite ?_ ?_)
      | (with_reducible refine LeO.bind ?_ (fun _ => ?_))
      | exact ih0 _ _ _
      | exact LeO.none _
      | refine LeO.ite ?_ ?_
      | refine LeO.bind ?_ (fun _ => ?_)
set_option maxHeartbeats 8000000 in
set_option maxRecDepth 100000 in
theorem newelref13_At.calls (k : Nat) (A0 : Option Addr) (c0 : Nat) (l0 : List (S63)) (a1 : Int) (r1 : Int) (r2 : Int) (r3 : Int) (r4 : Int) (r5 : Bool) (w : World) (hr0 : Kd.C k63 w A0 l0.length l0) (hc0 : l0.length ≤ c0) (h : newelref13_At.f k l0 a1 = some (r1, r2, r3, r4, r5)) :
    Calls Try.prog 29 #[.slice A0 l0.length c0, .int .i64 a1] w fun e w' => e = .returned (.tuple #[.agg #[.int .i64 r1, .int .i64 r2, .int .i64 r3, .int .i64 r4], .bool r5]) ∧ Below w.heap.size w w' := by
  have hu63 := Try.underlying63
  have HR0 := Aside0.mk hr0
  have HC0 := Aside0.mk hc0
  clear hr0 hc0
  have HB := Aside0.mk (Below.refl w.heap.size w)
  have H : (newelref13_At.l0 k l0 a1 0) = some (r1, r2, r3, r4, r5) := h
  clear h
  have H' := Aside0.mk H
  clear H
  go_enter Try.func29, Try.ntmps29
  go_wp2_with (first | ((with_reducible refine gate_dst (N := 4) rfl ?_); refine box_event ?hg (N := 4) ?hd (cs := #[.int .i64 0, .int .i64 0, .int .i64 0, .int .i64 0]) (t := 63) ?hr ?_; (case hd => rfl); (case hg => rfl); (case hr => first | (go_simp; done) | (go_simp; rfl)); intro gb197 hg w3 hbox hb; have n0_ := Aside0.mk (below_step (by repeat (first | (with_reducible first | exact HB.out | apply below_alloc | apply pw_below_drewN | apply below_drew1) | exact HB.out)) hb); have n1_ := Aside0.mk (hbox); have n2_ := Aside0.mk ((by rw [hg]; exact (below_size (by repeat (first | (with_reducible first | exact HB.out | apply below_alloc | apply pw_below_drewN | apply below_drew1) | exact HB.out))) : w.heap.size ≤ gb197)); have n3_ := Aside0.mk ((by rw [hg]; exact (below_size (by repeat (first | (with_reducible first | exact HB.out | apply below_alloc | apply pw_below_drewN | apply below_drew1) | exact HB.out))) : w.heap.size ≤ gb197)); clear HB; have HB := n0_; have BK197 := n1_; have GW197 := n2_; have GE197 := n3_; clear n0_ n1_ n2_ n3_; clear hb hbox hg))
  go_loopg [6] k (fun kq v6 w' => ∃ (x6_1 : Int) (x198000_1 : Int) (x198001_1 : Int) (x198002_1 : Int) (x198003_1 : Int), v6 = .int .i64 x6_1 ∧ Aside0 (newelref13_At.l0 kq l0 a1 x6_1 = some (r1, r2, r3, r4, r5)) ∧ Aside0 (kq ≤ k) ∧ Aside0 (w'.heap[gb197]? = some (.cells #[.int .i64 x198000_1, .int .i64 x198001_1, .int .i64 x198002_1, .int .i64 x198003_1] 63 (0, 0))) ∧ Aside0 (Below w.heap.size w w'))
  case atStart => exact ⟨(0), (0), (0), (0), (0), (by first | rfl | (simp; done) | (simp [*]; done)), H', ⟨Nat.le_refl _⟩, ⟨by (with_reducible repeat (first | refine blk_drewN ?_ _ | refine blk_drew ?_ | refine blk_alloc ?_ _)); exact BK197.out⟩, ⟨by repeat (first | (with_reducible first | exact HB.out | apply below_alloc | apply pw_below_drewN | apply below_drew1 | refine below_set ?_ GE197.out) | exact HB.out)⟩⟩
  case round =>
    clear H'
    try clear c2
    try clear p2
    obtain ⟨x6_1, x198000_1, x198001_1, x198002_1, x198003_1, rfl, HA, HK1, BK197, HB⟩ := hrel
    cases gk with
    | zero => exact absurd HA.out (by simp [newelref13_At.l0])
    | succ k1 =>
      have H := HA.out
      clear HA
      simp only [newelref13_At.l0] at H
      by_cases c4 : x6_1 < (l0.length : Int)
      · rw [if_pos c4] at H
        have c4b0 : decide (x6_1 < (l0.length : Int)) = true := decide_eq_true c4
        clear c4
        by_cases c5 : 0 ≤ x6_1
        · rw [if_pos c5] at H
          have c5b0 : decide (0 ≤ x6_1) = true := decide_eq_true c5
          clear c5
          by_cases c6 : a1 ≥ ((rd_T63 l0 x6_1).f0)
          · rw [if_pos c6] at H
            have c6b0 : decide (((rd_T63 l0 x6_1).f0) ≤ a1) = true := decide_eq_true c6
            clear c6
            by_cases c7 : a1 < ((rd_T63 l0 x6_1).f1)
            · rw [if_pos c7] at H
              have c7b0 : decide (a1 < ((rd_T63 l0 x6_1).f1)) = true := decide_eq_true c7
              clear c7
              simp only [Option.some.injEq, Prod.mk.injEq] at H
              obtain ⟨rfl, rfl, rfl, rfl, rfl⟩ := H
              have p198 : 0 ≤ (x6_1 : Int) := of_decide_eq_true (by first | (with_reducible assumption) | assumption)
              have q198 : x6_1 < (l0.length : Int) := of_decide_eq_true (by first | (with_reducible assumption) | assumption)
              obtain ⟨ad198, e198, hx198_0, hx198_1, hx198_2, hx198_3⟩ := at_T63 HR0.out x6_1 p198 q198
              cases e198
              replace hx198_0 := (HB.out.cell (World.block_lt_of_cell? w _ hx198_0)).trans hx198_0
              replace hx198_1 := (HB.out.cell (World.block_lt_of_cell? w _ hx198_1)).trans hx198_1
              replace hx198_2 := (HB.out.cell (World.block_lt_of_cell? w _ hx198_2)).trans hx198_2
              replace hx198_3 := (HB.out.cell (World.block_lt_of_cell? w _ hx198_3)).trans hx198_3
              replace p198 := eq_true p198
              replace q198 := eq_true q198
              have p199 : 0 ≤ (x6_1 : Int) := of_decide_eq_true (by first | (with_reducible assumption) | assumption)
              have q199 : x6_1 < (l0.length : Int) := of_decide_eq_true (by first | (with_reducible assumption) | assumption)
              obtain ⟨ad199, e199, hx199_0, hx199_1, hx199_2, hx199_3⟩ := at_T63 HR0.out x6_1 p199 q199
              obtain rfl : ad198 = ad199 := (by injection e199)
              replace hx199_0 := (HB.out.cell (World.block_lt_of_cell? w _ hx199_0)).trans hx199_0
              replace hx199_1 := (HB.out.cell (World.block_lt_of_cell? w _ hx199_1)).trans hx199_1
              replace hx199_2 := (HB.out.cell (World.block_lt_of_cell? w _ hx199_2)).trans hx199_2
              replace hx199_3 := (HB.out.cell (World.block_lt_of_cell? w _ hx199_3)).trans hx199_3
              replace p199 := eq_true p199
              replace q199 := eq_true q199
              have p200 : 0 ≤ (x6_1 : Int) := of_decide_eq_true (by first | (with_reducible assumption) | assumption)
              have q200 : x6_1 < (l0.length : Int) := of_decide_eq_true (by first | (with_reducible assumption) | assumption)
              obtain ⟨ad200, e200, hx200_0, hx200_1, hx200_2, hx200_3⟩ := at_T63 HR0.out x6_1 p200 q200
              obtain rfl : ad198 = ad200 := (by injection e200)
              replace hx200_0 := (HB.out.cell (World.block_lt_of_cell? w _ hx200_0)).trans hx200_0
              replace hx200_1 := (HB.out.cell (World.block_lt_of_cell? w _ hx200_1)).trans hx200_1
              replace hx200_2 := (HB.out.cell (World.block_lt_of_cell? w _ hx200_2)).trans hx200_2
              replace hx200_3 := (HB.out.cell (World.block_lt_of_cell? w _ hx200_3)).trans hx200_3
              replace p200 := eq_true p200
              replace q200 := eq_true q200
              have hcz8_0 : wr.cell? ⟨gb197, 0, none⟩ = some (.int .i64 x198000_1) := (blk_cell BK197.out 0).trans rfl
              have hcz8_1 : wr.cell? ⟨gb197, 1, none⟩ = some (.int .i64 x198001_1) := (blk_cell BK197.out 1).trans rfl
              have hcz8_2 : wr.cell? ⟨gb197, 2, none⟩ = some (.int .i64 x198002_1) := (blk_cell BK197.out 2).trans rfl
              have hcz8_3 : wr.cell? ⟨gb197, 3, none⟩ = some (.int .i64 x198003_1) := (blk_cell BK197.out 3).trans rfl
              have hfz8_0 := blk_frozen BK197.out 0
              have hfz8_1 := blk_frozen BK197.out 1
              have hfz8_2 := blk_frozen BK197.out 2
              have hfz8_3 := blk_frozen BK197.out 3
              go_wp2
              refine bodyPost_ret (results_ct rfl _ _ gb197 63 #[.int .i64 ((rd_T63 l0 x6_1).f0), .int .i64 ((rd_T63 l0 x6_1).f1), .int .i64 ((rd_T63 l0 x6_1).f2), .int .i64 ((rd_T63 l0 x6_1).f3)] (0, 0) _ rfl (by (with_reducible repeat (first | refine blk_drewN ?_ _ | refine blk_drew ?_ | refine blk_alloc ?_ _)); refine blk_put (cs := #[.int .i64 ((rd_T63 l0 x6_1).f0), .int .i64 ((rd_T63 l0 x6_1).f1), .int .i64 ((rd_T63 l0 x6_1).f2), .int .i64 x198003_1]) ?_ 3 _ rfl; (with_reducible repeat (first | refine blk_drewN ?_ _ | refine blk_drew ?_ | refine blk_alloc ?_ _)); refine blk_put (cs := #[.int .i64 ((rd_T63 l0 x6_1).f0), .int .i64 ((rd_T63 l0 x6_1).f1), .int .i64 x198002_1, .int .i64 x198003_1]) ?_ 2 _ rfl; (with_reducible repeat (first | refine blk_drewN ?_ _ | refine blk_drew ?_ | refine blk_alloc ?_ _)); refine blk_put (cs := #[.int .i64 ((rd_T63 l0 x6_1).f0), .int .i64 x198001_1, .int .i64 x198002_1, .int .i64 x198003_1]) ?_ 1 _ rfl; (with_reducible repeat (first | refine blk_drewN ?_ _ | refine blk_drew ?_ | refine blk_alloc ?_ _)); refine blk_put (cs := #[.int .i64 x198000_1, .int .i64 x198001_1, .int .i64 x198002_1, .int .i64 x198003_1]) ?_ 0 _ rfl; (with_reducible repeat (first | refine blk_drewN ?_ _ | refine blk_drew ?_ | refine blk_alloc ?_ _)); exact BK197.out) Try.underlying63 rfl (by kernel_rfl)) rfl ?_
              exact ⟨by first | rfl | (simp [errW_none, errW_some] <;> rfl) | (simp [*, errW_none, errW_some] <;> rfl), by repeat (first | (with_reducible first | exact HB.out | apply below_alloc | apply pw_below_drewN | apply below_drew1 | refine below_set ?_ GE197.out) | exact HB.out)⟩
            · rw [if_neg c7] at H
              have c7b0 : decide (a1 < ((rd_T63 l0 x6_1).f1)) = false := decide_eq_false c7
              clear c7
              have H' := Aside0.mk H
              clear H
              have p198 : 0 ≤ (x6_1 : Int) := of_decide_eq_true (by first | (with_reducible assumption) | assumption)
              have q198 : x6_1 < (l0.length : Int) := of_decide_eq_true (by first | (with_reducible assumption) | assumption)
              obtain ⟨ad198, e198, hx198_0, hx198_1, hx198_2, hx198_3⟩ := at_T63 HR0.out x6_1 p198 q198
              cases e198
              replace hx198_0 := (HB.out.cell (World.block_lt_of_cell? w _ hx198_0)).trans hx198_0
              replace hx198_1 := (HB.out.cell (World.block_lt_of_cell? w _ hx198_1)).trans hx198_1
              replace hx198_2 := (HB.out.cell (World.block_lt_of_cell? w _ hx198_2)).trans hx198_2
              replace hx198_3 := (HB.out.cell (World.block_lt_of_cell? w _ hx198_3)).trans hx198_3
              replace p198 := eq_true p198
              replace q198 := eq_true q198
              have p199 : 0 ≤ (x6_1 : Int) := of_decide_eq_true (by first | (with_reducible assumption) | assumption)
              have q199 : x6_1 < (l0.length : Int) := of_decide_eq_true (by first | (with_reducible assumption) | assumption)
              obtain ⟨ad199, e199, hx199_0, hx199_1, hx199_2, hx199_3⟩ := at_T63 HR0.out x6_1 p199 q199
              obtain rfl : ad198 = ad199 := (by injection e199)
              replace hx199_0 := (HB.out.cell (World.block_lt_of_cell? w _ hx199_0)).trans hx199_0
              replace hx199_1 := (HB.out.cell (World.block_lt_of_cell? w _ hx199_1)).trans hx199_1
              replace hx199_2 := (HB.out.cell (World.block_lt_of_cell? w _ hx199_2)).trans hx199_2
              replace hx199_3 := (HB.out.cell (World.block_lt_of_cell? w _ hx199_3)).trans hx199_3
              replace p199 := eq_true p199
              replace q199 := eq_true q199
              go_wp2
              go_roundg k1
              case measure => have := HK1.out; omega
              case rel => exact ⟨(wrap64 (x6_1 + 1)), (x198000_1), (x198001_1), (x198002_1), (x198003_1), (by first | rfl | (simp; done) | (simp [*]; done)), H', ⟨by have := HK1.out; omega⟩, ⟨by (with_reducible repeat (first | refine blk_drewN ?_ _ | refine blk_drew ?_ | refine blk_alloc ?_ _)); exact BK197.out⟩, ⟨by repeat (first | (with_reducible first | exact HB.out | apply below_alloc | apply pw_below_drewN | apply below_drew1 | refine below_set ?_ GE197.out) | exact HB.out)⟩⟩
          · rw [if_neg c6] at H
            have c6b0 : decide (((rd_T63 l0 x6_1).f0) ≤ a1) = false := decide_eq_false c6
            clear c6
            have H' := Aside0.mk H
            clear H
            have p198 : 0 ≤ (x6_1 : Int) := of_decide_eq_true (by first | (with_reducible assumption) | assumption)
            have q198 : x6_1 < (l0.length : Int) := of_decide_eq_true (by first | (with_reducible assumption) | assumption)
            obtain ⟨ad198, e198, hx198_0, hx198_1, hx198_2, hx198_3⟩ := at_T63 HR0.out x6_1 p198 q198
            cases e198
            replace hx198_0 := (HB.out.cell (World.block_lt_of_cell? w _ hx198_0)).trans hx198_0
            replace hx198_1 := (HB.out.cell (World.block_lt_of_cell? w _ hx198_1)).trans hx198_1
            replace hx198_2 := (HB.out.cell (World.block_lt_of_cell? w _ hx198_2)).trans hx198_2
            replace hx198_3 := (HB.out.cell (World.block_lt_of_cell? w _ hx198_3)).trans hx198_3
            replace p198 := eq_true p198
            replace q198 := eq_true q198
            go_wp2
            go_roundg k1
            case measure => have := HK1.out; omega
            case rel => exact ⟨(wrap64 (x6_1 + 1)), (x198000_1), (x198001_1), (x198002_1), (x198003_1), (by first | rfl | (simp; done) | (simp [*]; done)), H', ⟨by have := HK1.out; omega⟩, ⟨by (with_reducible repeat (first | refine blk_drewN ?_ _ | refine blk_drew ?_ | refine blk_alloc ?_ _)); exact BK197.out⟩, ⟨by repeat (first | (with_reducible first | exact HB.out | apply below_alloc | apply pw_below_drewN | apply below_drew1 | refine below_set ?_ GE197.out) | exact HB.out)⟩⟩
        · rw [if_neg c5] at H
          exact absurd H (by simp)
      · rw [if_neg c4] at H
        have c4b0 : decide (x6_1 < (l0.length : Int)) = false := decide_eq_false c4
        clear c4
        simp only [Option.some.injEq, Prod.mk.injEq] at H
        obtain ⟨rfl, rfl, rfl, rfl, rfl⟩ := H
        have hcz9_0 : wr.cell? ⟨gb197, 0, none⟩ = some (.int .i64 x198000_1) := (blk_cell BK197.out 0).trans rfl
        have hcz9_1 : wr.cell? ⟨gb197, 1, none⟩ = some (.int .i64 x198001_1) := (blk_cell BK197.out 1).trans rfl
        have hcz9_2 : wr.cell? ⟨gb197, 2, none⟩ = some (.int .i64 x198002_1) := (blk_cell BK197.out 2).trans rfl
        have hcz9_3 : wr.cell? ⟨gb197, 3, none⟩ = some (.int .i64 x198003_1) := (blk_cell BK197.out 3).trans rfl
        have hfz9_0 := blk_frozen BK197.out 0
        have hfz9_1 := blk_frozen BK197.out 1
        have hfz9_2 := blk_frozen BK197.out 2
        have hfz9_3 := blk_frozen BK197.out 3
        go_wp2
        refine bodyPost_ret (results_ct rfl _ _ gb197 63 #[.int .i64 0, .int .i64 0, .int .i64 0, .int .i64 0] (0, 0) _ rfl (by (with_reducible repeat (first | refine blk_drewN ?_ _ | refine blk_drew ?_ | refine blk_alloc ?_ _)); refine blk_put (cs := #[.int .i64 0, .int .i64 0, .int .i64 0, .int .i64 x198003_1]) ?_ 3 _ rfl; (with_reducible repeat (first | refine blk_drewN ?_ _ | refine blk_drew ?_ | refine blk_alloc ?_ _)); refine blk_put (cs := #[.int .i64 0, .int .i64 0, .int .i64 x198002_1, .int .i64 x198003_1]) ?_ 2 _ rfl; (with_reducible repeat (first | refine blk_drewN ?_ _ | refine blk_drew ?_ | refine blk_alloc ?_ _)); refine blk_put (cs := #[.int .i64 0, .int .i64 x198001_1, .int .i64 x198002_1, .int .i64 x198003_1]) ?_ 1 _ rfl; (with_reducible repeat (first | refine blk_drewN ?_ _ | refine blk_drew ?_ | refine blk_alloc ?_ _)); refine blk_put (cs := #[.int .i64 x198000_1, .int .i64 x198001_1, .int .i64 x198002_1, .int .i64 x198003_1]) ?_ 0 _ rfl; (with_reducible repeat (first | refine blk_drewN ?_ _ | refine blk_drew ?_ | refine blk_alloc ?_ _)); exact BK197.out) Try.underlying63 rfl (by kernel_rfl)) rfl ?_
        exact ⟨by first | rfl | (simp [errW_none, errW_some] <;> rfl) | (simp [*, errW_none, errW_some] <;> rfl), by repeat (first | (with_reducible first | exact HB.out | apply below_alloc | apply pw_below_drewN | apply below_drew1 | refine below_set ?_ GE197.out) | exact HB.out)⟩

end Go.Proofs.Ytopmmbopankpgaa.H
