-- Written by hp.py (a program of this session's, over the kit's print): functions of the seat, each with a plain Lean function and its contract.
import Derived.Test.YtopmmbopankpgaaH0
namespace Go.Proofs.Ytopmmbopankpgaa.H
open Go.RowKit Go.Proofs.YtopmmbopankpgaaW.PrintWords Go.Proofs.YtopmmbopankpgaaW.PrintLast Go.Proofs.YtopmmbopankpgaaW.PrintMore
attribute [local go_sem] max2_int min2_int max_two min_two max_three min_three max_four min_four   -- for this text's walks alone
set_option linter.unusedVariables false
set_option linter.unusedSimpArgs false

/-! ### newelref13_Cut: function 31 -/
mutual
def newelref13_Cut.l0 : Nat → List (S63) → Int → Int → List (S63) → Int → Option ((List (S63)))
  | 0, _, _, _, _, _ => none
  | k + 1, x0, x1, x2, x7, x8 => if x8 < (x0.length : Int) then (if 0 ≤ x8 then (if ((rd_T63 x0 x8).f0) < x1 then (newelref13_Cut.j1 k x0 x1 x2 x7 x8 x1 ((rd_T63 x0 x8).f1) ((rd_T63 x0 x8).f2) ((rd_T63 x0 x8).f3)) else (newelref13_Cut.j1 k x0 x1 x2 x7 x8 ((rd_T63 x0 x8).f0) ((rd_T63 x0 x8).f1) ((rd_T63 x0 x8).f2) ((rd_T63 x0 x8).f3))) else (none)) else (some x7)
def newelref13_Cut.j1 : Nat → List (S63) → Int → Int → List (S63) → Int → Int → Int → Int → Int → Option ((List (S63)))
  | 0, _, _, _, _, _, _, _, _, _ => none
  | k + 1, x0, x1, x2, x7, x8, x203000, x203001, x203002, x203003 => if x203001 > x2 then (if x203000 < x2 then (if x7.length < 4398046511104 then (newelref13_Cut.l0 k x0 x1 x2 (x7 ++ [(⟨x203000, x2, x203002, x203003⟩ : S63)]) (wrap64 (x8 + 1))) else (none)) else (newelref13_Cut.l0 k x0 x1 x2 x7 (wrap64 (x8 + 1)))) else (if x203000 < x203001 then (if x7.length < 4398046511104 then (newelref13_Cut.l0 k x0 x1 x2 (x7 ++ [(⟨x203000, x203001, x203002, x203003⟩ : S63)]) (wrap64 (x8 + 1))) else (none)) else (newelref13_Cut.l0 k x0 x1 x2 x7 (wrap64 (x8 + 1))))
end
def newelref13_Cut.f (k : Nat) (l0 : List (S63)) (a1 : Int) (a2 : Int) : Option ((List (S63))) := newelref13_Cut.l0 k l0 a1 a2 ([] : List (S63)) 0
theorem newelref13_Cut.mono_l : ∀ k, (∀ y0 y1 y2 y3 y4, LeO (newelref13_Cut.l0 k y0 y1 y2 y3 y4) (newelref13_Cut.l0 (k + 1) y0 y1 y2 y3 y4)) ∧ (∀ y0 y1 y2 y3 y4 y5 y6 y7 y8, LeO (newelref13_Cut.j1 k y0 y1 y2 y3 y4 y5 y6 y7 y8) (newelref13_Cut.j1 (k + 1) y0 y1 y2 y3 y4 y5 y6 y7 y8))
  | 0 => ⟨fun _ _ _ _ _ r h => by simp [newelref13_Cut.l0] at h, fun _ _ _ _ _ _ _ _ _ r h => by simp [newelref13_Cut.j1] at h⟩
  | k + 1 => by
    obtain ⟨ih0, ih1⟩ := newelref13_Cut.mono_l k
    refine ⟨?_, ?_⟩
    · intro y0 y1 y2 y3 y4
      unfold newelref13_Cut.l0
      repeat' first
      | (with_reducible exact ih0 _ _ _ _ _)
      | (with_reducible exact ih1 _ _ _ _ _ _ _ _ _)
      | (with_reducible exact LeO.refl _)
      | (with_reducible exact LeO.none _)
      | (with_reducible refine LeO.ite ?_ ?_)
      | (with_reducible refine LeO.bind ?_ (fun _ => ?_))
      | exact ih0 _ _ _ _ _
      | exact ih1 _ _ _ _ _ _ _ _ _
      | exact LeO.none _
      | refine LeO.ite ?_ ?_
      | refine LeO.bind ?_ (fun _ => ?_)
    · intro y0 y1 y2 y3 y4 y5 y6 y7 y8
      unfold newelref13_Cut.j1
      repeat' first
      | (with_reducible exact ih0 _ _ _ _ _)
      | (with_reducible exact ih1 _ _ _ _ _ _ _ _ _)
      | (with_reducible exact LeO.refl _)
      | (with_reducible exact LeO.none _)
      | (with_reducible refine LeO.ite ?_ ?_)
      | (with_reducible refine LeO.bind ?_ (fun _ => ?_))
      | exact ih0 _ _ _ _ _
      | exact ih1 _ _ _ _ _ _ _ _ _
      | exact LeO.none _
      | refine LeO.ite ?_ ?_
      | refine LeO.bind ?_ (fun _ => ?_)
theorem newelref13_Cut.mono : ∀ a0 a1 a2 k, LeO (newelref13_Cut.f k a0 a1 a2) (newelref13_Cut.f (k + 1) a0 a1 a2) := by
  intro a0 a1 a2 k
  obtain ⟨ih0, ih1⟩ := newelref13_Cut.mono_l k
  unfold newelref13_Cut.f
  repeat' first
      | (with_reducible exact ih0 _ _ _ _ _)
      | (with_reducible exact ih1 _ _ _ _ _ _ _ _ _)
      | (with_reducible exact LeO.refl _)
      | (with_reducible exact LeO.none _)
      | (with_reducible refine LeO.ite ?_ ?_)
      | (with_reducible refine LeO.bind ?_ (fun _ => ?_))
      | exact ih0 _ _ _ _ _
      | exact ih1 _ _ _ _ _ _ _ _ _
      | exact LeO.none _
      | refine LeO.ite ?_ ?_
      | refine LeO.bind ?_ (fun _ => ?_)
set_option maxHeartbeats 8000000 in
set_option maxRecDepth 100000 in
theorem newelref13_Cut.calls (k : Nat) (A0 : Option Addr) (c0 : Nat) (l0 : List (S63)) (a1 : Int) (a2 : Int) (r : List (S63)) (w : World) (hr0 : Kd.C k63 w A0 l0.length l0) (hc0 : l0.length ≤ c0) (h : newelref13_Cut.f k l0 a1 a2 = some r) :
    Calls Try.prog 31 #[.slice A0 l0.length c0, .int .i64 a1, .int .i64 a2] w fun e w' => ∃ v0_ : Value, e = .returned (v0_) ∧ Kd.R k63 63 w' w.heap.size (fun _ => True) v0_ r ∧ Below w.heap.size w w' := by
  have hu63 := Try.underlying63
  have HR0 := Aside0.mk hr0
  have HC0 := Aside0.mk hc0
  clear hr0 hc0
  have HB := Aside0.mk (Below.refl w.heap.size w)
  have H : (newelref13_Cut.l0 k l0 a1 a2 ([] : List (S63)) 0) = some r := h
  clear h
  have H' := Aside0.mk H
  clear H
  go_enter Try.func31, Try.ntmps31
  go_wp2
  go_loopg [7, 8] k (fun kq v7 v8 w' => ∃ (x7_1 : List (S63)) (x8_1 : Int), v8 = .int .i64 x8_1 ∧ Aside0 (newelref13_Cut.l0 kq l0 a1 a2 x7_1 x8_1 = some r) ∧ Aside0 (kq ≤ k) ∧ Aside0 (Kd.R k63 63 w' w.heap.size (fun _ => True) v7 x7_1) ∧ Aside0 (Below w.heap.size w w'))
  case atStart => exact ⟨(([] : List (S63))), (0), (by first | rfl | (simp; done) | (simp [*]; done)), H', ⟨Nat.le_refl _⟩, ⟨by first | exact Kd.R_nil _ _ _ _ _ | exact Kd.N_nil _ _ _ _ _ | exact Kd.V_nil _ _ _ _ _ | exact Kd.Q_nil _ _ _ _ _ | exact Kd.S_nil _ _ _ _ _⟩, ⟨by repeat (first | (with_reducible first | exact HB.out | apply below_alloc | apply pw_below_drewN | apply below_drew1) | exact HB.out)⟩⟩
  case round =>
    clear H'
    try clear p2
    try clear c3
    obtain ⟨x7_1, x8_1, rfl, HA, HK1, HO_7, HB⟩ := hrel
    cases gk with
    | zero => exact absurd HA.out (by simp [newelref13_Cut.l0])
    | succ k1 =>
      have H := HA.out
      clear HA
      simp only [newelref13_Cut.l0] at H
      by_cases c4 : x8_1 < (l0.length : Int)
      · rw [if_pos c4] at H
        have c4b0 : decide (x8_1 < (l0.length : Int)) = true := decide_eq_true c4
        clear c4
        by_cases c5 : 0 ≤ x8_1
        · rw [if_pos c5] at H
          have c5b0 : decide (0 ≤ x8_1) = true := decide_eq_true c5
          clear c5
          have HC6 := Aside0.mk H
          clear H
          have p201 : 0 ≤ (x8_1 : Int) := of_decide_eq_true (by first | (with_reducible assumption) | assumption)
          have q201 : x8_1 < (l0.length : Int) := of_decide_eq_true (by first | (with_reducible assumption) | assumption)
          obtain ⟨ad201, e201, hx201_0, hx201_1, hx201_2, hx201_3⟩ := at_T63 HR0.out x8_1 p201 q201
          cases e201
          replace hx201_0 := (HB.out.cell (World.block_lt_of_cell? w _ hx201_0)).trans hx201_0
          replace hx201_1 := (HB.out.cell (World.block_lt_of_cell? w _ hx201_1)).trans hx201_1
          replace hx201_2 := (HB.out.cell (World.block_lt_of_cell? w _ hx201_2)).trans hx201_2
          replace hx201_3 := (HB.out.cell (World.block_lt_of_cell? w _ hx201_3)).trans hx201_3
          replace p201 := eq_true p201
          replace q201 := eq_true q201
          go_upto_if 23 with (first | ((with_reducible refine gate_dst (N := 9) rfl ?_); refine box_event ?hg (N := 9) ?hd (cs := #[.int .i64 0, .int .i64 0, .int .i64 0, .int .i64 0]) (t := 63) ?hr ?_; (case hd => rfl); (case hg => rfl); (case hr => first | (go_simp; done) | (go_simp; rfl)); intro gb202 hg w7 hbox hb; have n0_ := Aside0.mk (Kd.R_below (Kd.R_elderB (by (with_reducible repeat (first | apply Kd.R_alloc | apply Kd.R_drewN | apply Kd.R_drew)); exact HO_7.out) gb202 (Nat.le_of_eq hg.symm)) hb); have n1_ := Aside0.mk (below_step (by repeat (first | (with_reducible first | exact HB.out | apply below_alloc | apply pw_below_drewN | apply below_drew1) | exact HB.out)) hb); have n2_ := Aside0.mk (hbox); have n3_ := Aside0.mk ((by rw [hg]; exact (below_size (by repeat (first | (with_reducible first | exact HB.out | apply below_alloc | apply pw_below_drewN | apply below_drew1) | exact HB.out))) : w.heap.size ≤ gb202)); have n4_ := Aside0.mk ((by rw [hg]; exact (below_size (by repeat (first | (with_reducible first | exact HB.out | apply below_alloc | apply pw_below_drewN | apply below_drew1) | exact HB.out))) : w.heap.size ≤ gb202)); clear HO_7; clear HB; have HO_7 := n0_; have HB := n1_; have BK202 := n2_; have GW202 := n3_; have GE202 := n4_; clear n0_ n1_ n2_ n3_ n4_; clear hb hbox hg; have hcz8_0 : w7.cell? ⟨gb202, 0, none⟩ = some (.int .i64 0) := (blk_cell BK202.out 0).trans rfl; have hcz8_1 : w7.cell? ⟨gb202, 1, none⟩ = some (.int .i64 0) := (blk_cell BK202.out 1).trans rfl; have hcz8_2 : w7.cell? ⟨gb202, 2, none⟩ = some (.int .i64 0) := (blk_cell BK202.out 2).trans rfl; have hcz8_3 : w7.cell? ⟨gb202, 3, none⟩ = some (.int .i64 0) := (blk_cell BK202.out 3).trans rfl; have hfz8_0 := blk_frozen BK202.out 0; have hfz8_1 := blk_frozen BK202.out 1; have hfz8_2 := blk_frozen BK202.out 2; have hfz8_3 := blk_frozen BK202.out 3))
          (try simp only [Act.put, List.setIfInBounds_toArray, List.set_cons_zero, List.set_cons_succ])
          go_cut [] (fun wc => ∃ (kq : Nat) (x203000_5 : Int), Aside0 (newelref13_Cut.j1 kq l0 a1 a2 x7_1 x8_1 x203000_5 ((rd_T63 l0 x8_1).f1) ((rd_T63 l0 x8_1).f2) ((rd_T63 l0 x8_1).f3) = some r) ∧ Aside0 (kq ≤ k1) ∧ Aside0 (Kd.R k63 63 wc w.heap.size (fun k_ => k_ ≠ gb202) u7 x7_1) ∧ Aside0 (wc.heap[gb202]? = some (.cells #[.int .i64 x203000_5, .int .i64 ((rd_T63 l0 x8_1).f1), .int .i64 ((rd_T63 l0 x8_1).f2), .int .i64 ((rd_T63 l0 x8_1).f3)] 63 (0, 0))) ∧ Aside0 (Below w.heap.size w wc))
          case first =>
            have H := HC6.out
            clear HC6
            by_cases c9 : ((rd_T63 l0 x8_1).f0) < a1
            · rw [if_pos c9] at H
              have c9b0 : decide (((rd_T63 l0 x8_1).f0) < a1) = true := decide_eq_true c9
              clear c9
              (first | rw [c9b0] | (simp only [i64_w, i32_w]; rw [c9b0]) | skip)
              have H' := Aside0.mk H
              clear H
              have hcz10_0 : w7.cell? ⟨gb202, 0, none⟩ = some (.int .i64 0) := (blk_cell BK202.out 0).trans rfl
              have hcz10_1 : w7.cell? ⟨gb202, 1, none⟩ = some (.int .i64 0) := (blk_cell BK202.out 1).trans rfl
              have hcz10_2 : w7.cell? ⟨gb202, 2, none⟩ = some (.int .i64 0) := (blk_cell BK202.out 2).trans rfl
              have hcz10_3 : w7.cell? ⟨gb202, 3, none⟩ = some (.int .i64 0) := (blk_cell BK202.out 3).trans rfl
              have hfz10_0 := blk_frozen BK202.out 0
              have hfz10_1 := blk_frozen BK202.out 1
              have hfz10_2 := blk_frozen BK202.out 2
              have hfz10_3 := blk_frozen BK202.out 3
              go_wp2
              go_meet
              case rel => exact ⟨_, (a1), H', ⟨by have := HK1.out; first | omega | exact Nat.le_refl _⟩, ⟨by (with_reducible repeat (first | apply Kd.R_alloc | apply Kd.R_drewN | apply Kd.R_drew)); exact Kd.R_mono (Kd.R_far (p := ⟨gb202, 0, none⟩) (Kd.R_far (p := ⟨gb202, 3, none⟩) (Kd.R_far (p := ⟨gb202, 2, none⟩) (Kd.R_far (p := ⟨gb202, 1, none⟩) (Kd.R_far (p := ⟨gb202, 0, none⟩) (Kd.R_mono HO_7.out (fun k_ hk => (⟨hk, hk.2⟩ : _ ∧ k_ ≠ gb202))) (fun _ hk => hk.2) (.int .i64 ((rd_T63 l0 x8_1).f0))) (fun _ hk => hk.2) (.int .i64 ((rd_T63 l0 x8_1).f1))) (fun _ hk => hk.2) (.int .i64 ((rd_T63 l0 x8_1).f2))) (fun _ hk => hk.2) (.int .i64 ((rd_T63 l0 x8_1).f3))) (fun _ hk => hk.2) (.int .i64 a1)) (fun _ hk => hk.1.2)⟩, ⟨by (with_reducible repeat (first | refine blk_drewN ?_ _ | refine blk_drew ?_ | refine blk_alloc ?_ _)); refine blk_put (cs := #[.int .i64 ((rd_T63 l0 x8_1).f0), .int .i64 ((rd_T63 l0 x8_1).f1), .int .i64 ((rd_T63 l0 x8_1).f2), .int .i64 ((rd_T63 l0 x8_1).f3)]) ?_ 0 _ rfl; (with_reducible repeat (first | refine blk_drewN ?_ _ | refine blk_drew ?_ | refine blk_alloc ?_ _)); refine blk_put (cs := #[.int .i64 ((rd_T63 l0 x8_1).f0), .int .i64 ((rd_T63 l0 x8_1).f1), .int .i64 ((rd_T63 l0 x8_1).f2), .int .i64 0]) ?_ 3 _ rfl; (with_reducible repeat (first | refine blk_drewN ?_ _ | refine blk_drew ?_ | refine blk_alloc ?_ _)); refine blk_put (cs := #[.int .i64 ((rd_T63 l0 x8_1).f0), .int .i64 ((rd_T63 l0 x8_1).f1), .int .i64 0, .int .i64 0]) ?_ 2 _ rfl; (with_reducible repeat (first | refine blk_drewN ?_ _ | refine blk_drew ?_ | refine blk_alloc ?_ _)); refine blk_put (cs := #[.int .i64 ((rd_T63 l0 x8_1).f0), .int .i64 0, .int .i64 0, .int .i64 0]) ?_ 1 _ rfl; (with_reducible repeat (first | refine blk_drewN ?_ _ | refine blk_drew ?_ | refine blk_alloc ?_ _)); refine blk_put (cs := #[.int .i64 0, .int .i64 0, .int .i64 0, .int .i64 0]) ?_ 0 _ rfl; (with_reducible repeat (first | refine blk_drewN ?_ _ | refine blk_drew ?_ | refine blk_alloc ?_ _)); exact BK202.out⟩, ⟨by repeat (first | (with_reducible first | exact HB.out | apply below_alloc | apply pw_below_drewN | apply below_drew1 | refine below_set ?_ GE202.out) | exact HB.out)⟩⟩
            · rw [if_neg c9] at H
              have c9b0 : decide (((rd_T63 l0 x8_1).f0) < a1) = false := decide_eq_false c9
              clear c9
              (first | rw [c9b0] | (simp only [i64_w, i32_w]; rw [c9b0]) | skip)
              have H' := Aside0.mk H
              clear H
              go_wp2
              go_meet
              case rel => exact ⟨_, ((rd_T63 l0 x8_1).f0), H', ⟨by have := HK1.out; first | omega | exact Nat.le_refl _⟩, ⟨by (with_reducible repeat (first | apply Kd.R_alloc | apply Kd.R_drewN | apply Kd.R_drew)); exact Kd.R_mono (Kd.R_far (p := ⟨gb202, 3, none⟩) (Kd.R_far (p := ⟨gb202, 2, none⟩) (Kd.R_far (p := ⟨gb202, 1, none⟩) (Kd.R_far (p := ⟨gb202, 0, none⟩) (Kd.R_mono HO_7.out (fun k_ hk => (⟨hk, hk.2⟩ : _ ∧ k_ ≠ gb202))) (fun _ hk => hk.2) (.int .i64 ((rd_T63 l0 x8_1).f0))) (fun _ hk => hk.2) (.int .i64 ((rd_T63 l0 x8_1).f1))) (fun _ hk => hk.2) (.int .i64 ((rd_T63 l0 x8_1).f2))) (fun _ hk => hk.2) (.int .i64 ((rd_T63 l0 x8_1).f3))) (fun _ hk => hk.1.2)⟩, ⟨by (with_reducible repeat (first | refine blk_drewN ?_ _ | refine blk_drew ?_ | refine blk_alloc ?_ _)); refine blk_put (cs := #[.int .i64 ((rd_T63 l0 x8_1).f0), .int .i64 ((rd_T63 l0 x8_1).f1), .int .i64 ((rd_T63 l0 x8_1).f2), .int .i64 0]) ?_ 3 _ rfl; (with_reducible repeat (first | refine blk_drewN ?_ _ | refine blk_drew ?_ | refine blk_alloc ?_ _)); refine blk_put (cs := #[.int .i64 ((rd_T63 l0 x8_1).f0), .int .i64 ((rd_T63 l0 x8_1).f1), .int .i64 0, .int .i64 0]) ?_ 2 _ rfl; (with_reducible repeat (first | refine blk_drewN ?_ _ | refine blk_drew ?_ | refine blk_alloc ?_ _)); refine blk_put (cs := #[.int .i64 ((rd_T63 l0 x8_1).f0), .int .i64 0, .int .i64 0, .int .i64 0]) ?_ 1 _ rfl; (with_reducible repeat (first | refine blk_drewN ?_ _ | refine blk_drew ?_ | refine blk_alloc ?_ _)); refine blk_put (cs := #[.int .i64 0, .int .i64 0, .int .i64 0, .int .i64 0]) ?_ 0 _ rfl; (with_reducible repeat (first | refine blk_drewN ?_ _ | refine blk_drew ?_ | refine blk_alloc ?_ _)); exact BK202.out⟩, ⟨by repeat (first | (with_reducible first | exact HB.out | apply below_alloc | apply pw_below_drewN | apply below_drew1 | refine below_set ?_ GE202.out) | exact HB.out)⟩⟩
          case rest =>
            clear HC6
            try clear p2
            try clear q2
            try clear hx2
            try clear c3
            try clear c4
            try clear c4b0
            try clear c5
            try clear c5b0
            try clear c9
            try clear c9b0
            try clear hcz10_0
            try clear hcz10_1
            try clear hcz10_2
            try clear hcz10_3
            try clear hcz8_0
            try clear hcz8_1
            try clear hcz8_2
            try clear hcz8_3
            try clear hfz10_0
            try clear hfz10_1
            try clear hfz10_2
            try clear hfz10_3
            try clear hfz8_0
            try clear hfz8_1
            try clear hfz8_2
            try clear hfz8_3
            try clear hx201_0
            try clear hx201_1
            try clear hx201_2
            try clear hx201_3
            try clear p2
            try clear p201
            try clear q201
            obtain ⟨kq, x203000_5, HA, HJ5, HO_7, BK202, HB⟩ := hcut
            cases kq with
            | zero => exact absurd HA.out (by simp [newelref13_Cut.j1])
            | succ kj5 =>
              have H := HA.out
              clear HA
              simp only [newelref13_Cut.j1] at H
              by_cases c11 : ((rd_T63 l0 x8_1).f1) > a2
              · rw [if_pos c11] at H
                have c11b0 : decide (a2 < ((rd_T63 l0 x8_1).f1)) = true := decide_eq_true c11
                clear c11
                by_cases c12 : x203000_5 < a2
                · rw [if_pos c12] at H
                  have c12b0 : decide (x203000_5 < a2) = true := decide_eq_true c12
                  clear c12
                  by_cases c13 : x7_1.length < 4398046511104
                  · rw [if_pos c13] at H
                    have LMc13 := Aside0.mk c13
                    clear c13
                    obtain ⟨y203, hy203⟩ : ∃ y_ : List (S63), y_ = (x7_1 ++ [(⟨x203000_5, a2, ((rd_T63 l0 x8_1).f2), ((rd_T63 l0 x8_1).f3)⟩ : S63)]) := ⟨_, rfl⟩
                    replace H : (newelref13_Cut.l0 kj5 l0 a1 a2 y203 (wrap64 (x8_1 + 1))) = some r := by first | (rw [hy203]; with_reducible exact H) | (have H2_ := (Option.bind_some _ _).symm.trans H; rw [hy203]; with_reducible exact H2_) | (have H2_ := (Option.bind_some _ _).symm.trans H; with_reducible exact H2_) | with_reducible exact H | (rw [hy203]; exact H) | exact H
                    have Ny203 := Aside0.mk hy203
                    clear hy203
                    have H' := Aside0.mk H
                    clear H
                    have hcz14_0 : wc.cell? ⟨gb202, 0, none⟩ = some (.int .i64 x203000_5) := (blk_cell BK202.out 0).trans rfl
                    have hcz14_1 : wc.cell? ⟨gb202, 1, none⟩ = some (.int .i64 ((rd_T63 l0 x8_1).f1)) := (blk_cell BK202.out 1).trans rfl
                    have hcz14_2 : wc.cell? ⟨gb202, 2, none⟩ = some (.int .i64 ((rd_T63 l0 x8_1).f2)) := (blk_cell BK202.out 2).trans rfl
                    have hcz14_3 : wc.cell? ⟨gb202, 3, none⟩ = some (.int .i64 ((rd_T63 l0 x8_1).f3)) := (blk_cell BK202.out 3).trans rfl
                    have hfz14_0 := blk_frozen BK202.out 0
                    have hfz14_1 := blk_frozen BK202.out 1
                    have hfz14_2 := blk_frozen BK202.out 2
                    have hfz14_3 := blk_frozen BK202.out 3
                    go_wp2_with (first | ((with_reducible refine gate_builtin (b := .append) (xs := #[.tmp 37, .tmp 39]) rfl ?_); at_builtin; refine Kd.R_append k63 (w0 := w) w.heap.size rfl (.tmp 37) (.tmp 39) 56 63 (.agg #[(.int .i64 0), (.int .i64 0), (.int .i64 0), (.int .i64 0)]) 32 rfl Try.underlying56 info63 rfl (by decide) (by omega) u7 x7_1 (⟨x203000_5, a2, ((rd_T63 l0 x8_1).f2), ((rd_T63 l0 x8_1).f3)⟩ : S63) [.int .i64 x203000_5, .int .i64 a2, .int .i64 ((rd_T63 l0 x8_1).f2), .int .i64 ((rd_T63 l0 x8_1).f3)] (fun k_ => k_ ≠ gb202) (fun _ => False) rfl (by first | (go_simp; done) | (go_simp; rfl)) ?aP (fun _ hk => hk.elim) ?aF ?aO ?aB ?aS ?aL ?_; (case aP => exact k63_mkM _ _ _ (⟨x203000_5, a2, ((rd_T63 l0 x8_1).f2), ((rd_T63 l0 x8_1).f3)⟩ : S63)); (case aB => exact (by repeat (first | (with_reducible first | exact HB.out | apply below_alloc | apply pw_below_drewN | apply below_drew1 | refine below_set ?_ GE202.out) | exact HB.out))); (case aF => exact (fun k_ hk => Kd.freshB (g := gb202) (o := .cells #[.int .i64 x203000_5, .int .i64 a2, .int .i64 ((rd_T63 l0 x8_1).f2), .int .i64 ((rd_T63 l0 x8_1).f3)] 63 (0, 0)) (by (with_reducible repeat (first | refine blk_drewN ?_ _ | refine blk_drew ?_ | refine blk_alloc ?_ _)); refine blk_put (cs := #[.int .i64 x203000_5, .int .i64 ((rd_T63 l0 x8_1).f1), .int .i64 ((rd_T63 l0 x8_1).f2), .int .i64 ((rd_T63 l0 x8_1).f3)]) ?_ 1 _ rfl; (with_reducible repeat (first | refine blk_drewN ?_ _ | refine blk_drew ?_ | refine blk_alloc ?_ _)); exact BK202.out) k_ hk)); (case aO => exact (by (with_reducible repeat (first | apply Kd.R_alloc | apply Kd.R_drewN | apply Kd.R_drew)); exact Kd.R_mono (Kd.R_far (p := ⟨gb202, 1, none⟩) (Kd.R_mono HO_7.out (fun k_ hk => (⟨hk, hk⟩ : _ ∧ k_ ≠ gb202))) (fun _ hk => hk.2) (.int .i64 a2)) (fun _ hk => hk.1))); (case aS => exact (below_size (by repeat (first | (with_reducible first | exact HB.out | apply below_alloc | apply pw_below_drewN | apply below_drew1 | refine below_set ?_ GE202.out) | exact HB.out)))); (case aL => have := LMc13.out; omega); intro v204 w15 ho hb hg hat; rw [← Ny203.out] at ho; have n0_ := Aside0.mk (blk_grown (g := gb202) (o := .cells #[.int .i64 x203000_5, .int .i64 a2, .int .i64 ((rd_T63 l0 x8_1).f2), .int .i64 ((rd_T63 l0 x8_1).f3)] 63 (0, 0)) (by (with_reducible repeat (first | refine blk_drewN ?_ _ | refine blk_drew ?_ | refine blk_alloc ?_ _)); refine blk_put (cs := #[.int .i64 x203000_5, .int .i64 ((rd_T63 l0 x8_1).f1), .int .i64 ((rd_T63 l0 x8_1).f2), .int .i64 ((rd_T63 l0 x8_1).f3)]) ?_ 1 _ rfl; (with_reducible repeat (first | refine blk_drewN ?_ _ | refine blk_drew ?_ | refine blk_alloc ?_ _)); exact BK202.out) hg (Kd.R_away HO_7.out (fun _ hk => hk))); have n1_ := Aside0.mk (hb); have n2_ := Aside0.mk (ho); clear BK202; clear HB; clear HO_7; have BK202 := n0_; have HB := n1_; have HO205 := n2_; clear n0_ n1_ n2_; clear ho hb hg hat))
                    go_roundg kj5
                    case measure => have := HK1.out; have := HJ5.out; omega
                    case rel => exact ⟨(y203), (wrap64 (x8_1 + 1)), (by first | rfl | (simp; done) | (simp [*]; done)), H', ⟨by have := HK1.out; have := HJ5.out; omega⟩, ⟨by (with_reducible repeat (first | apply Kd.R_alloc | apply Kd.R_drewN | apply Kd.R_drew)); exact Kd.R_mono HO205.out (fun _ hk => trivial)⟩, ⟨by repeat (first | (with_reducible first | exact HB.out | apply below_alloc | apply pw_below_drewN | apply below_drew1 | refine below_set ?_ GE202.out) | exact HB.out)⟩⟩
                  · rw [if_neg c13] at H
                    exact absurd H (by simp)
                · rw [if_neg c12] at H
                  have c12b0 : decide (x203000_5 < a2) = false := decide_eq_false c12
                  clear c12
                  have H' := Aside0.mk H
                  clear H
                  have hcz16_0 : wc.cell? ⟨gb202, 0, none⟩ = some (.int .i64 x203000_5) := (blk_cell BK202.out 0).trans rfl
                  have hcz16_1 : wc.cell? ⟨gb202, 1, none⟩ = some (.int .i64 ((rd_T63 l0 x8_1).f1)) := (blk_cell BK202.out 1).trans rfl
                  have hcz16_2 : wc.cell? ⟨gb202, 2, none⟩ = some (.int .i64 ((rd_T63 l0 x8_1).f2)) := (blk_cell BK202.out 2).trans rfl
                  have hcz16_3 : wc.cell? ⟨gb202, 3, none⟩ = some (.int .i64 ((rd_T63 l0 x8_1).f3)) := (blk_cell BK202.out 3).trans rfl
                  have hfz16_0 := blk_frozen BK202.out 0
                  have hfz16_1 := blk_frozen BK202.out 1
                  have hfz16_2 := blk_frozen BK202.out 2
                  have hfz16_3 := blk_frozen BK202.out 3
                  go_wp2
                  go_roundg kj5
                  case measure => have := HK1.out; have := HJ5.out; omega
                  case rel => exact ⟨(x7_1), (wrap64 (x8_1 + 1)), (by first | rfl | (simp; done) | (simp [*]; done)), H', ⟨by have := HK1.out; have := HJ5.out; omega⟩, ⟨by (with_reducible repeat (first | apply Kd.R_alloc | apply Kd.R_drewN | apply Kd.R_drew)); exact Kd.R_mono (Kd.R_far (p := ⟨gb202, 1, none⟩) (Kd.R_mono HO_7.out (fun k_ hk => (⟨hk, hk⟩ : _ ∧ k_ ≠ gb202))) (fun _ hk => hk.2) (.int .i64 a2)) (fun _ hk => trivial)⟩, ⟨by repeat (first | (with_reducible first | exact HB.out | apply below_alloc | apply pw_below_drewN | apply below_drew1 | refine below_set ?_ GE202.out) | exact HB.out)⟩⟩
              · rw [if_neg c11] at H
                have c11b0 : decide (a2 < ((rd_T63 l0 x8_1).f1)) = false := decide_eq_false c11
                clear c11
                by_cases c17 : x203000_5 < ((rd_T63 l0 x8_1).f1)
                · rw [if_pos c17] at H
                  have c17b0 : decide (x203000_5 < ((rd_T63 l0 x8_1).f1)) = true := decide_eq_true c17
                  clear c17
                  by_cases c18 : x7_1.length < 4398046511104
                  · rw [if_pos c18] at H
                    have LMc18 := Aside0.mk c18
                    clear c18
                    obtain ⟨y206, hy206⟩ : ∃ y_ : List (S63), y_ = (x7_1 ++ [(⟨x203000_5, ((rd_T63 l0 x8_1).f1), ((rd_T63 l0 x8_1).f2), ((rd_T63 l0 x8_1).f3)⟩ : S63)]) := ⟨_, rfl⟩
                    replace H : (newelref13_Cut.l0 kj5 l0 a1 a2 y206 (wrap64 (x8_1 + 1))) = some r := by first | (rw [hy206]; with_reducible exact H) | (have H2_ := (Option.bind_some _ _).symm.trans H; rw [hy206]; with_reducible exact H2_) | (have H2_ := (Option.bind_some _ _).symm.trans H; with_reducible exact H2_) | with_reducible exact H | (rw [hy206]; exact H) | exact H
                    have Ny206 := Aside0.mk hy206
                    clear hy206
                    have H' := Aside0.mk H
                    clear H
                    have hcz19_0 : wc.cell? ⟨gb202, 0, none⟩ = some (.int .i64 x203000_5) := (blk_cell BK202.out 0).trans rfl
                    have hcz19_1 : wc.cell? ⟨gb202, 1, none⟩ = some (.int .i64 ((rd_T63 l0 x8_1).f1)) := (blk_cell BK202.out 1).trans rfl
                    have hcz19_2 : wc.cell? ⟨gb202, 2, none⟩ = some (.int .i64 ((rd_T63 l0 x8_1).f2)) := (blk_cell BK202.out 2).trans rfl
                    have hcz19_3 : wc.cell? ⟨gb202, 3, none⟩ = some (.int .i64 ((rd_T63 l0 x8_1).f3)) := (blk_cell BK202.out 3).trans rfl
                    have hfz19_0 := blk_frozen BK202.out 0
                    have hfz19_1 := blk_frozen BK202.out 1
                    have hfz19_2 := blk_frozen BK202.out 2
                    have hfz19_3 := blk_frozen BK202.out 3
                    go_wp2_with (first | ((with_reducible refine gate_builtin (b := .append) (xs := #[.tmp 37, .tmp 39]) rfl ?_); at_builtin; refine Kd.R_append k63 (w0 := w) w.heap.size rfl (.tmp 37) (.tmp 39) 56 63 (.agg #[(.int .i64 0), (.int .i64 0), (.int .i64 0), (.int .i64 0)]) 32 rfl Try.underlying56 info63 rfl (by decide) (by omega) u7 x7_1 (⟨x203000_5, ((rd_T63 l0 x8_1).f1), ((rd_T63 l0 x8_1).f2), ((rd_T63 l0 x8_1).f3)⟩ : S63) [.int .i64 x203000_5, .int .i64 ((rd_T63 l0 x8_1).f1), .int .i64 ((rd_T63 l0 x8_1).f2), .int .i64 ((rd_T63 l0 x8_1).f3)] (fun k_ => k_ ≠ gb202) (fun _ => False) rfl rfl ?aP (fun _ hk => hk.elim) ?aF ?aO ?aB ?aS ?aL ?_; (case aP => exact k63_mkM _ _ _ (⟨x203000_5, ((rd_T63 l0 x8_1).f1), ((rd_T63 l0 x8_1).f2), ((rd_T63 l0 x8_1).f3)⟩ : S63)); (case aB => exact (by repeat (first | (with_reducible first | exact HB.out | apply below_alloc | apply pw_below_drewN | apply below_drew1 | refine below_set ?_ GE202.out) | exact HB.out))); (case aF => exact (fun k_ hk => Kd.freshB (g := gb202) (o := .cells #[.int .i64 x203000_5, .int .i64 ((rd_T63 l0 x8_1).f1), .int .i64 ((rd_T63 l0 x8_1).f2), .int .i64 ((rd_T63 l0 x8_1).f3)] 63 (0, 0)) (by (with_reducible repeat (first | refine blk_drewN ?_ _ | refine blk_drew ?_ | refine blk_alloc ?_ _)); exact BK202.out) k_ hk)); (case aO => exact (by (with_reducible repeat (first | apply Kd.R_alloc | apply Kd.R_drewN | apply Kd.R_drew)); exact HO_7.out)); (case aS => exact (below_size (by repeat (first | (with_reducible first | exact HB.out | apply below_alloc | apply pw_below_drewN | apply below_drew1 | refine below_set ?_ GE202.out) | exact HB.out)))); (case aL => have := LMc18.out; omega); intro v207 w20 ho hb hg hat; rw [← Ny206.out] at ho; have n0_ := Aside0.mk (blk_grown (g := gb202) (o := .cells #[.int .i64 x203000_5, .int .i64 ((rd_T63 l0 x8_1).f1), .int .i64 ((rd_T63 l0 x8_1).f2), .int .i64 ((rd_T63 l0 x8_1).f3)] 63 (0, 0)) (by (with_reducible repeat (first | refine blk_drewN ?_ _ | refine blk_drew ?_ | refine blk_alloc ?_ _)); exact BK202.out) hg (Kd.R_away HO_7.out (fun _ hk => hk))); have n1_ := Aside0.mk (hb); have n2_ := Aside0.mk (ho); clear BK202; clear HB; clear HO_7; have BK202 := n0_; have HB := n1_; have HO208 := n2_; clear n0_ n1_ n2_; clear ho hb hg hat))
                    go_roundg kj5
                    case measure => have := HK1.out; have := HJ5.out; omega
                    case rel => exact ⟨(y206), (wrap64 (x8_1 + 1)), (by first | rfl | (simp; done) | (simp [*]; done)), H', ⟨by have := HK1.out; have := HJ5.out; omega⟩, ⟨by (with_reducible repeat (first | apply Kd.R_alloc | apply Kd.R_drewN | apply Kd.R_drew)); exact Kd.R_mono HO208.out (fun _ hk => trivial)⟩, ⟨by repeat (first | (with_reducible first | exact HB.out | apply below_alloc | apply pw_below_drewN | apply below_drew1 | refine below_set ?_ GE202.out) | exact HB.out)⟩⟩
                  · rw [if_neg c18] at H
                    exact absurd H (by simp)
                · rw [if_neg c17] at H
                  have c17b0 : decide (x203000_5 < ((rd_T63 l0 x8_1).f1)) = false := decide_eq_false c17
                  clear c17
                  have H' := Aside0.mk H
                  clear H
                  have hcz21_0 : wc.cell? ⟨gb202, 0, none⟩ = some (.int .i64 x203000_5) := (blk_cell BK202.out 0).trans rfl
                  have hcz21_1 : wc.cell? ⟨gb202, 1, none⟩ = some (.int .i64 ((rd_T63 l0 x8_1).f1)) := (blk_cell BK202.out 1).trans rfl
                  have hcz21_2 : wc.cell? ⟨gb202, 2, none⟩ = some (.int .i64 ((rd_T63 l0 x8_1).f2)) := (blk_cell BK202.out 2).trans rfl
                  have hcz21_3 : wc.cell? ⟨gb202, 3, none⟩ = some (.int .i64 ((rd_T63 l0 x8_1).f3)) := (blk_cell BK202.out 3).trans rfl
                  have hfz21_0 := blk_frozen BK202.out 0
                  have hfz21_1 := blk_frozen BK202.out 1
                  have hfz21_2 := blk_frozen BK202.out 2
                  have hfz21_3 := blk_frozen BK202.out 3
                  go_wp2
                  go_roundg kj5
                  case measure => have := HK1.out; have := HJ5.out; omega
                  case rel => exact ⟨(x7_1), (wrap64 (x8_1 + 1)), (by first | rfl | (simp; done) | (simp [*]; done)), H', ⟨by have := HK1.out; have := HJ5.out; omega⟩, ⟨by (with_reducible repeat (first | apply Kd.R_alloc | apply Kd.R_drewN | apply Kd.R_drew)); exact Kd.R_mono HO_7.out (fun _ hk => trivial)⟩, ⟨by repeat (first | (with_reducible first | exact HB.out | apply below_alloc | apply pw_below_drewN | apply below_drew1 | refine below_set ?_ GE202.out) | exact HB.out)⟩⟩
        · rw [if_neg c5] at H
          exact absurd H (by simp)
      · rw [if_neg c4] at H
        have c4b0 : decide (x8_1 < (l0.length : Int)) = false := decide_eq_false c4
        clear c4
        obtain rfl := Option.some.inj H
        go_wp2
        go_ret
        exact ⟨_, by first | rfl | (simp [errW_none, errW_some] <;> rfl) | (simp [*, errW_none, errW_some] <;> rfl), by (with_reducible repeat (first | apply Kd.R_alloc | apply Kd.R_drewN | apply Kd.R_drew)); exact HO_7.out, by repeat (first | (with_reducible first | exact HB.out | apply below_alloc | apply pw_below_drewN | apply below_drew1) | exact HB.out)⟩

end Go.Proofs.Ytopmmbopankpgaa.H
