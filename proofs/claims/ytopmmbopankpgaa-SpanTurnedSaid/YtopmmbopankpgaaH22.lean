-- Written by hp.py (a program of this session's, over the kit's print): functions of the seat, each with a plain Lean function and its contract.
import Derived.Test.YtopmmbopankpgaaH0
import Derived.Test.YtopmmbopankpgaaH5
import Derived.Test.YtopmmbopankpgaaH6
import Derived.Test.YtopmmbopankpgaaH7
import Derived.Test.YtopmmbopankpgaaH21
import Derived.Test.YtopmmbopankpgaaHsc
import Derived.Test.YtopmmbopankpgaaHsr
namespace Go.Proofs.Ytopmmbopankpgaa.H
open Go.RowKit Go.Proofs.YtopmmbopankpgaaW.PrintWords Go.Proofs.YtopmmbopankpgaaW.PrintLast Go.Proofs.YtopmmbopankpgaaW.PrintMore
attribute [local go_sem] max2_int min2_int max_two min_two max_three min_three max_four min_four   -- for this text's walks alone
set_option linter.unusedVariables false
set_option linter.unusedSimpArgs false

/-! ### newellaw13_SpanTurned: function 10 -/
mutual
def newellaw13_SpanTurned.l0 : Nat → List (S63) → Int → Int → Int → Int → Int → Int → Option (Bool)
 | 0, _, _, _, _, _, _, _ => none
 | k + 1, x0, x5, x6, x328000, x328001, x328002, x328003 => if x6 < (x0.length : Int) then (if 0 ≤ x6 then (newellaw13_SpanTurned.l0 k x0 (mx x5 ((rd_T63 x0 x6).f3)) (wrap64 (x6 + 1)) x328000 x328001 x328002 x328003) else (none)) else ((newellaw13_own.f x0).bind fun t330 => ((span_Resolve.f t330).bind fun bt333 => (if bt333.2 = 0 then (if x5 = 9223372036854775807 then (newellaw13_SpanTurned.j1 k x0 x5 bt333.1 true x328000 x328001 x328002 x328003) else (newellaw13_SpanTurned.j1 k x0 x5 bt333.1 (decide (x328000 ≥ x328001)) x328000 x328001 x328002 x328003)) else (newellaw13_SpanTurned.j1 k x0 x5 bt333.1 true x328000 x328001 x328002 x328003))))
def newellaw13_SpanTurned.j1 : Nat → List (S63) → Int → List (S63) → Bool → Int → Int → Int → Int → Option (Bool)
 | 0, _, _, _, _, _, _, _, _ => none
 | k + 1, x0, x5, x7, x49, x328000, x328001, x328002, x328003 => if x49 = true then ((newellaw13_awake.f k).bind fun t337 => (some t337)) else ((newellaw13_own.f x0).bind fun t338 => ((some (([(⟨x328000, x328001, x328002, wrap64 (x5 + 1)⟩ : S63)] : List (S63)) : List (S63))).bind fun y341 => (if t338.length + y341.length < 4398046511104 then ((span_Resolve.f (t338 ++ y341)).bind fun bt347 => ((some (([(⟨x328000, x328001, x328002, wrap64 (x5 + 1)⟩ : S63)] : List (S63)) : List (S63))).bind fun y351 => (if y351.length + x0.length < 4398046511104 then ((span_Resolve.f (y351 ++ x0)).bind fun bt357 => ((newellaw13_own.f bt347.1).bind fun t361 => ((span_Cut.f t361 x328000 x328001).bind fun t364 => ((newellaw13_awake.f k).bind fun t367 => (if t367 = true then (if bt347.2 = 0 then (if bt357.2 = 0 then ((newelref13_Same.f k bt347.1 bt357.1).bind fun t368 => (if t368 = true then (if (t364.length : Int) = 1 then (if 0 < (t364.length : Int) then (if ((rd_T63 t364 0).f2) = x328002 then (if ((rd_T63 t364 0).f0) = x328000 then (if ((rd_T63 t364 0).f1) = x328001 then ((newellaw13_own.f bt347.1).bind fun t372 => ((span_Cut.f t372 (-9223372036854775808) x328000).bind fun t375 => ((newellaw13_modes.f k t375).bind fun t378 => ((newellaw13_own.f x7).bind fun t381 => ((span_Cut.f t381 (-9223372036854775808) x328000).bind fun t384 => ((newellaw13_modes.f k t384).bind fun t387 => ((newelref13_Same.f k t378 t387).bind fun t390 => (some t390)))))))) else (none)) else (none)) else (none)) else (none)) else (none)) else (none))) else (none)) else (none)) else (none)))))) else (none)))) else (none))))
end
def newellaw13_SpanTurned.f (k : Nat) (l0 : List (S63)) (a1_0 : Int) (a1_1 : Int) (a1_2 : Int) (a1_3 : Int) : Option (Bool) := if (l0.length : Int) > 60 then ((newellaw13_awake.f k).bind fun t328 => (some t328)) else (newellaw13_SpanTurned.l0 k l0 0 0 a1_0 a1_1 a1_2 a1_3)
theorem newellaw13_SpanTurned.mono_l : ∀ k, (∀ y0 y1 y2 y3 y4 y5 y6, LeO (newellaw13_SpanTurned.l0 k y0 y1 y2 y3 y4 y5 y6) (newellaw13_SpanTurned.l0 (k + 1) y0 y1 y2 y3 y4 y5 y6)) ∧ (∀ y0 y1 y2 y3 y4 y5 y6 y7, LeO (newellaw13_SpanTurned.j1 k y0 y1 y2 y3 y4 y5 y6 y7) (newellaw13_SpanTurned.j1 (k + 1) y0 y1 y2 y3 y4 y5 y6 y7))
 | 0 => ⟨fun _ _ _ _ _ _ _ r h => by simp [newellaw13_SpanTurned.l0] at h, fun _ _ _ _ _ _ _ _ r h => by simp [newellaw13_SpanTurned.j1] at h⟩
 | k + 1 => by
  obtain ⟨ih0, ih1⟩ := newellaw13_SpanTurned.mono_l k
  refine ⟨?_, ?_⟩
  ·intro y0 y1 y2 y3 y4 y5 y6
   unfold newellaw13_SpanTurned.l0
   repeat' first
   | (with_reducible exact ih0 _ _ _ _ _ _ _)
   | (with_reducible exact ih1 _ _ _ _ _ _ _ _)
   | (with_reducible exact newellaw13_awake.mono _)
   | (with_reducible exact newellaw13_modes.mono _ _)
   | (with_reducible exact newelref13_Same.mono _ _ _)
   | (with_reducible exact LeO.refl _)
   | (with_reducible exact LeO.none _)
   | (with_reducible refine LeO.ite ?_ ?_)
   | (with_reducible refine LeO.bind ?_ (fun _ => ?_))
   | exact ih0 _ _ _ _ _ _ _
   | exact ih1 _ _ _ _ _ _ _ _
   | exact newellaw13_awake.mono _
   | exact newellaw13_modes.mono _ _
   | exact newelref13_Same.mono _ _ _
   | exact LeO.none _
   | refine LeO.ite ?_ ?_
   | refine LeO.bind ?_ (fun _ => ?_)
  ·intro y0 y1 y2 y3 y4 y5 y6 y7
   unfold newellaw13_SpanTurned.j1
   repeat' first
   | (with_reducible exact ih0 _ _ _ _ _ _ _)
   | (with_reducible exact ih1 _ _ _ _ _ _ _ _)
   | (with_reducible exact newellaw13_awake.mono _)
   | (with_reducible exact newellaw13_modes.mono _ _)
   | (with_reducible exact newelref13_Same.mono _ _ _)
   | (with_reducible exact LeO.refl _)
   | (with_reducible exact LeO.none _)
   | (with_reducible refine LeO.ite ?_ ?_)
   | (with_reducible refine LeO.bind ?_ (fun _ => ?_))
   | exact ih0 _ _ _ _ _ _ _
   | exact ih1 _ _ _ _ _ _ _ _
   | exact newellaw13_awake.mono _
   | exact newellaw13_modes.mono _ _
   | exact newelref13_Same.mono _ _ _
   | exact LeO.none _
   | refine LeO.ite ?_ ?_
   | refine LeO.bind ?_ (fun _ => ?_)
theorem newellaw13_SpanTurned.mono : ∀ a0 a1 a2 a3 a4 k, LeO (newellaw13_SpanTurned.f k a0 a1 a2 a3 a4) (newellaw13_SpanTurned.f (k + 1) a0 a1 a2 a3 a4) := by
 intro a0 a1 a2 a3 a4 k
 obtain ⟨ih0, ih1⟩ := newellaw13_SpanTurned.mono_l k
 unfold newellaw13_SpanTurned.f
 repeat' first
   | (with_reducible exact ih0 _ _ _ _ _ _ _)
   | (with_reducible exact ih1 _ _ _ _ _ _ _ _)
   | (with_reducible exact newellaw13_awake.mono _)
   | (with_reducible exact newellaw13_modes.mono _ _)
   | (with_reducible exact newelref13_Same.mono _ _ _)
   | (with_reducible exact LeO.refl _)
   | (with_reducible exact LeO.none _)
   | (with_reducible refine LeO.ite ?_ ?_)
   | (with_reducible refine LeO.bind ?_ (fun _ => ?_))
   | exact ih0 _ _ _ _ _ _ _
   | exact ih1 _ _ _ _ _ _ _ _
   | exact newellaw13_awake.mono _
   | exact newellaw13_modes.mono _ _
   | exact newelref13_Same.mono _ _ _
   | exact LeO.none _
   | refine LeO.ite ?_ ?_
   | refine LeO.bind ?_ (fun _ => ?_)
def newellaw13_SpanTurned.T12 : Bool × List (List Nat × List Nat) := (true, [([], []), ([0], [0]), ([], []), ([2], [2]), ([1, 3, 1], [1, 3]), ([4, 4], [4]), ([5], [5]), ([6], [6]), ([6], [6]), ([7, 5, 0, 1, 2, 3, 4, 5, 6, 7], [7]), ([8, 9, 0, 1, 2, 3, 4, 5, 6, 7, 8, 9], [8])])
def newellaw13_SpanTurned.B12 : List Nat := [0, 1, 0, 4, 15, 31, 63, 127, 127, 255, 1023]
theorem newellaw13_SpanTurned.tab12 : rtab .any (opsOf Try.f10 12) = newellaw13_SpanTurned.T12 := by kernel_rfl
theorem newellaw13_SpanTurned.bits12 : waitsOk newellaw13_SpanTurned.T12.2 newellaw13_SpanTurned.B12 = true := by kernel_rfl
def newellaw13_SpanTurned.T14 : Bool × List (List Nat × List Nat) := (true, [([], []), ([0], [0]), ([], []), ([2], [2]), ([], []), ([4], [4]), ([1, 3, 5, 1], [1, 3, 5]), ([6, 6, 0, 1, 2, 3, 4, 5, 6], [6])])
def newellaw13_SpanTurned.B14 : List Nat := [0, 1, 0, 4, 0, 16, 63, 127]
theorem newellaw13_SpanTurned.tab14 : rtab .any (opsOf Try.f10 14) = newellaw13_SpanTurned.T14 := by kernel_rfl
theorem newellaw13_SpanTurned.bits14 : waitsOk newellaw13_SpanTurned.T14.2 newellaw13_SpanTurned.B14 = true := by kernel_rfl
def newellaw13_SpanTurned.T15 : Bool × List (List Nat × List Nat) := (true, [([], []), ([0, 0], [0]), ([1], [1]), ([2, 1], [1, 2]), ([1, 3], [1, 3]), ([4, 1], [4]), ([5], [5]), ([6, 5], [5, 6]), ([5, 7], [5, 7]), ([8, 5], [8]), ([9], [9]), ([9], [9]), ([10, 11, 9, 9], [9, 10, 11]), ([9, 12], [9, 12]), ([13, 12], [13]), ([14], [14]), ([15, 14], [14, 15]), ([16, 14], [14, 16]), ([14, 17], [14, 17]), ([18, 14], [18]), ([19], [19]), ([20, 19], [19, 20]), ([21, 19], [19, 21]), ([22, 19], [19, 22]), ([19], [19]), ([24, 19], [19, 24]), ([23, 25, 19], [19, 23, 25]), ([19, 26], [19, 26]), ([27, 19], [27]), ([28], [28]), ([29, 28], [28, 29]), ([30, 28], [28, 30]), ([31, 28], [28, 31]), ([28], [28]), ([33, 28], [28, 33]), ([32, 34, 28], [28, 32, 34]), ([28, 35], [28, 35]), ([36, 28], [36]), ([37], [37]), ([38, 37], [37, 38]), ([39, 37], [37, 39]), ([40, 37], [37, 40]), ([37], [37]), ([42, 37], [37, 42]), ([41, 43, 37], [37, 41, 43]), ([37, 44], [37, 44]), ([45, 37], [45]), ([46], [46]), ([47, 46, 46], [46, 47]), ([46], [46]), ([49, 46], [46, 49]), ([48, 50, 48, 46], [46, 48, 50]), ([51, 51, 46], [46, 51]), ([46], [46]), ([53, 52, 46], [46, 53]), ([46], [46]), ([55, 46], [46, 55]), ([54, 56, 54, 46], [46, 54, 56]), ([57, 57, 46], [46, 57]), ([52, 58, 58, 46], [46, 52, 58]), ([46, 59], [46, 59]), ([60, 59, 0, 1, 2, 3, 4, 5, 6, 7, 8, 9, 10, 11, 12, 13, 14, 15, 16, 17, 18, 19, 20, 21, 22, 23, 24, 25, 26, 27, 28, 29, 30, 31, 32, 33, 34, 35, 36, 37, 38, 39, 40, 41, 42, 43, 44, 45, 46, 47, 48, 49, 50, 51, 52, 53, 54, 55, 56, 57, 58, 59, 60], [60])])
def newellaw13_SpanTurned.B15 : List Nat := [0, 1, 3, 7, 15, 31, 63, 127, 255, 511, 1023, 1023, 4095, 8191, 16383, 32767, 65535, 131071, 262143, 524287, 1048575, 2097151, 4194303, 8388607, 1048575, 17825791, 67108863, 134217727, 268435455, 536870911, 1073741823, 2147483647, 4294967295, 536870911, 9126805503, 34359738367, 68719476735, 137438953471, 274877906943, 549755813887, 1099511627775, 2199023255551, 274877906943, 4672924418047, 17592186044415, 35184372088831, 70368744177663, 140737488355327, 281474976710655, 140737488355327, 703687441776639, 2251799813685247, 4503599627370495, 140737488355327, 18014398509481983, 140737488355327, 36169534507319295, 144115188075855871, 288230376151711743, 576460752303423487, 1152921504606846975, 2305843009213693951]
theorem newellaw13_SpanTurned.tab15 : rtab .any (opsOf Try.f10 15) = newellaw13_SpanTurned.T15 := by kernel_rfl
theorem newellaw13_SpanTurned.bits15 : waitsOk newellaw13_SpanTurned.T15.2 newellaw13_SpanTurned.B15 = true := by kernel_rfl
set_option maxHeartbeats 8000000 in
set_option maxRecDepth 100000 in
theorem newellaw13_SpanTurned.calls (k : Nat) (A0 : Option Addr) (c0 : Nat) (l0 : List (S63)) (a1_0 : Int) (a1_1 : Int) (a1_2 : Int) (a1_3 : Int) (r : Bool) (w : World) (hr0 : Kd.C k63 w A0 l0.length l0) (hc0 : l0.length ≤ c0) (h : newellaw13_SpanTurned.f k l0 a1_0 a1_1 a1_2 a1_3 = some r) :
  Calls Try.prog 10 #[.slice A0 l0.length c0, .agg #[.int .i64 a1_0, .int .i64 a1_1, .int .i64 a1_2, .int .i64 a1_3]] w fun e w' => e = .returned (.bool r) ∧ Below w.heap.size w w' := by
 have hu63 := Try.underlying63
 have HR0 := Aside0.mk hr0
 have HC0 := Aside0.mk hc0
 clear hr0 hc0
 have HB := Aside0.mk (Below.refl w.heap.size w)
 have H : (if (l0.length : Int) > 60 then ((newellaw13_awake.f k).bind fun t328 => (some t328)) else (newellaw13_SpanTurned.l0 k l0 0 0 a1_0 a1_1 a1_2 a1_3)) = some r := h
 clear h
 by_cases c3 : (l0.length : Int) > 60
 ·rw [if_pos c3] at H
  have c3b0 : decide (60 < (l0.length : Int)) = true := decide_eq_true c3
  have c3b1 : decide (60 < l0.length) = true := decide_eq_true (by omega)
  clear c3
  replace H := Option.bind_eq_some_iff.mp H
  obtain ⟨t328, A40, H⟩ := H
  replace H : (some t328) = some r := H
  have A4 := Aside0.mk A40
  clear A40
  obtain rfl := Option.some.inj H
  go_enter Try.func10, Try.ntmps10
  go_wp2_with (first | ((with_reducible refine gate_dst (N := 3) rfl ?_); (try (refine gate_guard (by rfl) ?_; dsimp only)); refine box_event ?hg (N := 3) ?hd (cs := #[.int .i64 a1_0, .int .i64 a1_1, .int .i64 a1_2, .int .i64 a1_3]) (t := 63) ?hr ?_; (case hd => rfl); (case hg => rfl); (case hr => first | (go_simp; done) | (go_simp; rfl)); intro gb327 hg w5 hbox hb; have n0_ := Aside0.mk (below_step (by repeat (first | (with_reducible first | exact HB.out | apply below_alloc | apply pw_below_drewN | apply below_drew1) | exact HB.out)) hb); have n1_ := Aside0.mk (hbox); have n2_ := Aside0.mk ((by rw [hg]; exact (below_size (by repeat (first | (with_reducible first | exact HB.out | apply below_alloc | apply pw_below_drewN | apply below_drew1) | exact HB.out))) : w.heap.size ≤ gb327)); have n3_ := Aside0.mk ((by rw [hg]; exact (below_size (by repeat (first | (with_reducible first | exact HB.out | apply below_alloc | apply pw_below_drewN | apply below_drew1) | exact HB.out))) : w.heap.size ≤ gb327)); clear HB; have HB := n0_; have BK327 := n1_; have GW327 := n2_; have GE327 := n3_; clear n0_ n1_ n2_ n3_; clear hb hbox hg) | ((with_reducible refine gate_callee (f := 22) rfl ?_); refine goesL_ (some 17) rfl rfl Try.func22 (by kernel_rfl) rfl #[] rfl (by (try simp only [List.map_toArray, List.map_cons, List.map_nil]); first | done | rfl | (simp only [List.length_drop, List.length_take]; rfl)) ?_; (with_reducible refine (newellaw13_awake.calls k  t328 _ A4.out).mono ?_); rintro e w6 ⟨rfl, hb⟩; refine ⟨_, rfl, ?_⟩; have n0_ := Aside0.mk (blk_below (g := gb327) (o := .cells #[.int .i64 a1_0, .int .i64 a1_1, .int .i64 a1_2, .int .i64 a1_3] 63 (0, 0)) (by (with_reducible repeat (first | refine blk_drewN ?_ _ | refine blk_drew ?_ | refine blk_alloc ?_ _)); exact BK327.out) hb); have n1_ := Aside0.mk (below_step (by repeat (first | (with_reducible first | exact HB.out | apply below_alloc | apply pw_below_drewN | apply below_drew1 | refine below_set ?_ GE327.out) | exact HB.out)) hb); clear BK327; clear HB; have BK327 := n0_; have HB := n1_; clear n0_ n1_; (try clear hb); (try clear hb2); (try clear hk); (try clear hi)))
  go_ret
  exact ⟨by first | rfl | (simp [errW_none, errW_some] <;> rfl) | (simp [*, errW_none, errW_some] <;> rfl), by repeat (first | (with_reducible first | exact HB.out | apply below_alloc | apply pw_below_drewN | apply below_drew1 | refine below_set ?_ GE327.out) | exact HB.out)⟩
 ·rw [if_neg c3] at H
  have c3b0 : decide (60 < (l0.length : Int)) = false := decide_eq_false c3
  have c3b1 : decide (60 < l0.length) = false := decide_eq_false (by omega)
  clear c3
  have H' := Aside0.mk H
  clear H
  go_enter Try.func10, Try.ntmps10
  go_wp2_with (first | ((with_reducible refine gate_dst (N := 3) rfl ?_); (try (refine gate_guard (by rfl) ?_; dsimp only)); refine box_event ?hg (N := 3) ?hd (cs := #[.int .i64 a1_0, .int .i64 a1_1, .int .i64 a1_2, .int .i64 a1_3]) (t := 63) ?hr ?_; (case hd => rfl); (case hg => rfl); (case hr => first | (go_simp; done) | (go_simp; rfl)); intro gb327 hg w7 hbox hb; have n0_ := Aside0.mk (below_step (by repeat (first | (with_reducible first | exact HB.out | apply below_alloc | apply pw_below_drewN | apply below_drew1) | exact HB.out)) hb); have n1_ := Aside0.mk (hbox); have n2_ := Aside0.mk ((by rw [hg]; exact (below_size (by repeat (first | (with_reducible first | exact HB.out | apply below_alloc | apply pw_below_drewN | apply below_drew1) | exact HB.out))) : w.heap.size ≤ gb327)); have n3_ := Aside0.mk ((by rw [hg]; exact (below_size (by repeat (first | (with_reducible first | exact HB.out | apply below_alloc | apply pw_below_drewN | apply below_drew1) | exact HB.out))) : w.heap.size ≤ gb327)); clear HB; have HB := n0_; have BK327 := n1_; have GW327 := n2_; have GE327 := n3_; clear n0_ n1_ n2_ n3_; clear hb hbox hg))
  go_loopg [5, 6] k (fun kq v5 v6 w' => ∃ (x5_1 : Int) (x6_1 : Int), v5 = .int .i64 x5_1 ∧ v6 = .int .i64 x6_1 ∧ Aside0 (newellaw13_SpanTurned.l0 kq l0 x5_1 x6_1 a1_0 a1_1 a1_2 a1_3 = some r) ∧ Aside0 (kq ≤ k) ∧ Aside0 (w'.heap[gb327]? = some (.cells #[.int .i64 a1_0, .int .i64 a1_1, .int .i64 a1_2, .int .i64 a1_3] 63 (0, 0))) ∧ Aside0 (Below w.heap.size w w'))
  case atStart => exact ⟨(0), (0), (by first | rfl | (simp; done) | (simp [*]; done)), (by first | rfl | (simp; done) | (simp [*]; done)), H', ⟨Nat.le_refl _⟩, ⟨by (with_reducible repeat (first | refine blk_drewN ?_ _ | refine blk_drew ?_ | refine blk_alloc ?_ _)); exact BK327.out⟩, ⟨by repeat (first | (with_reducible first | exact HB.out | apply below_alloc | apply pw_below_drewN | apply below_drew1 | refine below_set ?_ GE327.out) | exact HB.out)⟩⟩
  case round =>
   clear H'
   try clear c1
   try clear c2
   try clear p2
   try clear c3
   try clear c3b0
   try clear c3b1
   obtain ⟨x5_1, x6_1, rfl, rfl, HA, HK1, BK327, HB⟩ := hrel
   cases gk with
   | zero => exact absurd HA.out (by simp [newellaw13_SpanTurned.l0])
   | succ k1 =>
    have H := HA.out
    clear HA
    simp only [newellaw13_SpanTurned.l0] at H
    by_cases c8 : x6_1 < (l0.length : Int)
    ·rw [if_pos c8] at H
     have c8b0 : decide (x6_1 < (l0.length : Int)) = true := decide_eq_true c8
     clear c8
     by_cases c9 : 0 ≤ x6_1
     ·rw [if_pos c9] at H
      have c9b0 : decide (0 ≤ x6_1) = true := decide_eq_true c9
      clear c9
      obtain ⟨ji10, hji10⟩ : ∃ j_ : Int, (mx x5_1 ((rd_T63 l0 x6_1).f3)) = j_ := ⟨_, rfl⟩
      replace H : (newellaw13_SpanTurned.l0 k1 l0 ji10 (wrap64 (x6_1 + 1)) a1_0 a1_1 a1_2 a1_3) = some r := by first | (rw [hji10] at H; exact H) | (simp only [hji10] at H ⊢; exact H)
      have hji10_ : (if x5_1 < ((rd_T63 l0 x6_1).f3) then ((rd_T63 l0 x6_1).f3) else x5_1) = ji10 := hji10
      have H' := Aside0.mk H
      clear H
      have p329 : 0 ≤ (x6_1 : Int) := of_decide_eq_true (by first | (with_reducible assumption) | assumption)
      have q329 : x6_1 < (l0.length : Int) := of_decide_eq_true (by first | (with_reducible assumption) | assumption)
      obtain ⟨ad329, e329, hx329_0, hx329_1, hx329_2, hx329_3⟩ := at_T63 HR0.out x6_1 p329 q329
      cases e329
      replace hx329_0 := (HB.out.cell (World.block_lt_of_cell? w _ hx329_0)).trans hx329_0
      replace hx329_1 := (HB.out.cell (World.block_lt_of_cell? w _ hx329_1)).trans hx329_1
      replace hx329_2 := (HB.out.cell (World.block_lt_of_cell? w _ hx329_2)).trans hx329_2
      replace hx329_3 := (HB.out.cell (World.block_lt_of_cell? w _ hx329_3)).trans hx329_3
      replace p329 := eq_true p329
      replace q329 := eq_true q329
      go_wp2
      go_roundg k1
      case measure => have := HK1.out; omega
      case rel => exact ⟨(ji10), (wrap64 (x6_1 + 1)), (by first | rfl | (simp; done) | (simp only [← hji10] <;> (first | rfl | simp)) | (simp [*]; done)), (by first | rfl | (simp; done) | (simp [*]; done)), H', ⟨by have := HK1.out; omega⟩, ⟨by (with_reducible repeat (first | refine blk_drewN ?_ _ | refine blk_drew ?_ | refine blk_alloc ?_ _)); exact BK327.out⟩, ⟨by repeat (first | (with_reducible first | exact HB.out | apply below_alloc | apply pw_below_drewN | apply below_drew1 | refine below_set ?_ GE327.out) | exact HB.out)⟩⟩
     ·rw [if_neg c9] at H
      exact absurd H (by simp)
    ·rw [if_neg c8] at H
     have c8b0 : decide (x6_1 < (l0.length : Int)) = false := decide_eq_false c8
     clear c8
     replace H := Option.bind_eq_some_iff.mp H
     obtain ⟨t330, A110, H⟩ := H
     replace H : ((span_Resolve.f t330).bind fun bt333 => (if bt333.2 = 0 then (if x5_1 = 9223372036854775807 then (newellaw13_SpanTurned.j1 k1 l0 x5_1 bt333.1 true a1_0 a1_1 a1_2 a1_3) else (newellaw13_SpanTurned.j1 k1 l0 x5_1 bt333.1 (decide (a1_0 ≥ a1_1)) a1_0 a1_1 a1_2 a1_3)) else (newellaw13_SpanTurned.j1 k1 l0 x5_1 bt333.1 true a1_0 a1_1 a1_2 a1_3))) = some r := H
     have A11 := Aside0.mk A110
     clear A110
     replace H := Option.bind_eq_some_iff.mp H
     obtain ⟨⟨t333, t334⟩, A120, H⟩ := H
     replace H : (if t334 = 0 then (if x5_1 = 9223372036854775807 then (newellaw13_SpanTurned.j1 k1 l0 x5_1 t333 true a1_0 a1_1 a1_2 a1_3) else (newellaw13_SpanTurned.j1 k1 l0 x5_1 t333 (decide (a1_0 ≥ a1_1)) a1_0 a1_1 a1_2 a1_3)) else (newellaw13_SpanTurned.j1 k1 l0 x5_1 t333 true a1_0 a1_1 a1_2 a1_3)) = some r := H
     have A12 := Aside0.mk A120
     clear A120
     have HC13 := Aside0.mk H
     clear H
     go_upto_region 9 with (first | ((with_reducible refine gate_callee (f := 24) rfl ?_); refine goesL_ (some 33) rfl rfl Try.func24 (by kernel_rfl) rfl #[.slice A0 l0.length c0] rfl (by (try simp only [List.map_toArray, List.map_cons, List.map_nil]); first | done | rfl | (simp only [List.length_drop, List.length_take]; rfl)) ?_; (with_reducible refine (newellaw13_own.calls _ _ l0 t330 _ ?side1 ?side2 A11.out).mono ?_); (case side1 => repeat (first | exact (Kd.C_below HR0.out HB.out) | (with_reducible refine Kd.C_alloc ?_ _) | (with_reducible refine Kd.C_drewN ?_ _) | (with_reducible refine Kd.C_drew ?_))); (case side2 => exact HC0.out); rintro e w14 ⟨v331, rfl, ho0, hb⟩; refine ⟨_, rfl, ?_⟩; have n0_ := Aside0.mk (Kd.R_lower (Kd.R_newB ho0 (g := gb327) (o := .cells #[.int .i64 a1_0, .int .i64 a1_1, .int .i64 a1_2, .int .i64 a1_3] 63 (0, 0)) (by (with_reducible repeat (first | refine blk_drewN ?_ _ | refine blk_drew ?_ | refine blk_alloc ?_ _)); exact BK327.out)) (below_size (by repeat (first | (with_reducible first | exact HB.out | apply below_alloc | apply pw_below_drewN | apply below_drew1 | refine below_set ?_ GE327.out) | exact HB.out)))); have n1_ := Aside0.mk (blk_below (g := gb327) (o := .cells #[.int .i64 a1_0, .int .i64 a1_1, .int .i64 a1_2, .int .i64 a1_3] 63 (0, 0)) (by (with_reducible repeat (first | refine blk_drewN ?_ _ | refine blk_drew ?_ | refine blk_alloc ?_ _)); exact BK327.out) hb); have n2_ := Aside0.mk (below_step (by repeat (first | (with_reducible first | exact HB.out | apply below_alloc | apply pw_below_drewN | apply below_drew1 | refine below_set ?_ GE327.out) | exact HB.out)) hb); clear BK327; clear HB; have HO332 := n0_; have BK327 := n1_; have HB := n2_; clear n0_ n1_ n2_; (try clear hb); (try clear hb2); (try clear hk); (try clear hi); (try clear ho0); obtain ⟨Ao15, co15, eo15⟩ := Kd.R_slice HO332.out; subst eo15) | ((with_reducible refine gate_callee (f := 23) rfl ?_); refine goesL_ (some 34) rfl rfl Try.func23 (by kernel_rfl) rfl #[.slice Ao15 t330.length co15] rfl (by (try simp only [List.map_toArray, List.map_cons, List.map_nil]); first | done | rfl | (simp only [List.length_drop, List.length_take]; rfl)) ?_; (with_reducible refine (span_Resolve.calls _ _ t330 t333 t334 _ ?side1 ?side2 A12.out).mono ?_); (case side1 => repeat (first | exact (Kd.R_reads' HO332.out).2.2 | (with_reducible refine Kd.C_alloc ?_ _) | (with_reducible refine Kd.C_drewN ?_ _) | (with_reducible refine Kd.C_drew ?_))); (case side2 => exact (Kd.R_reads' HO332.out).2.1); rintro e w16 ⟨v335, rfl, ho0, hb⟩; refine ⟨_, rfl, ?_⟩; have n0_ := Aside0.mk (Kd.R_elder' (by (with_reducible repeat (first | apply Kd.R_alloc | apply Kd.R_drewN | apply Kd.R_drew)); exact HO332.out) (Kd.R_base ho0) hb); have n1_ := Aside0.mk (Kd.R_lower (Kd.R_newB (Kd.R_new' ho0 (Kd.R_lt (by (with_reducible repeat (first | apply Kd.R_alloc | apply Kd.R_drewN | apply Kd.R_drew)); exact HO332.out))) (g := gb327) (o := .cells #[.int .i64 a1_0, .int .i64 a1_1, .int .i64 a1_2, .int .i64 a1_3] 63 (0, 0)) (by (with_reducible repeat (first | refine blk_drewN ?_ _ | refine blk_drew ?_ | refine blk_alloc ?_ _)); exact BK327.out)) (below_size (by repeat (first | (with_reducible first | exact HB.out | apply below_alloc | apply pw_below_drewN | apply below_drew1 | refine below_set ?_ GE327.out) | exact HB.out)))); have n2_ := Aside0.mk (blk_below (g := gb327) (o := .cells #[.int .i64 a1_0, .int .i64 a1_1, .int .i64 a1_2, .int .i64 a1_3] 63 (0, 0)) (by (with_reducible repeat (first | refine blk_drewN ?_ _ | refine blk_drew ?_ | refine blk_alloc ?_ _)); exact BK327.out) hb); have n3_ := Aside0.mk (below_step (by repeat (first | (with_reducible first | exact HB.out | apply below_alloc | apply pw_below_drewN | apply below_drew1 | refine below_set ?_ GE327.out) | exact HB.out)) hb); clear HO332; clear BK327; clear HB; have HO332 := n0_; have HO336 := n1_; have BK327 := n2_; have HB := n3_; clear n0_ n1_ n2_ n3_; (try clear hb); (try clear hb2); (try clear hk); (try clear hi); (try clear ho0)))
     (try simp only [Act.put, List.setIfInBounds_toArray, List.set_cons_zero, List.set_cons_succ])
     go_cut [49] (fun v49 wc => ∃ (kq : Nat) (x49_12 : Bool), v49 = .bool x49_12 ∧ Aside0 (newellaw13_SpanTurned.j1 kq l0 x5_1 t333 x49_12 a1_0 a1_1 a1_2 a1_3 = some r) ∧ Aside0 (kq ≤ k1) ∧ Aside0 (Kd.R k63 63 wc w.heap.size (fun k_ => k_ ≠ gb327) v335 t333) ∧ Aside0 (wc.heap[gb327]? = some (.cells #[.int .i64 a1_0, .int .i64 a1_1, .int .i64 a1_2, .int .i64 a1_3] 63 (0, 0))) ∧ Aside0 (Below w.heap.size w wc))
     case first =>
      have H := HC13.out
      clear HC13
      by_cases c17 : t334 = 0
      ·rw [if_pos c17] at H
       have c17b0 : (t334 == 0) = true := beq_iff_eq.mpr c17
       have c17b1 : (t334 != 0) = false := bne_eq_false_iff_eq.mpr c17
       clear c17
       (first | rw [c17b0] | (simp only [i64_w, i32_w]; rw [c17b0]) | skip)
       by_cases c18 : x5_1 = 9223372036854775807
       ·rw [if_pos c18] at H
        have c18b0 : (x5_1 == 9223372036854775807) = true := beq_iff_eq.mpr c18
        have c18b1 : (x5_1 != 9223372036854775807) = false := bne_eq_false_iff_eq.mpr c18
        clear c18
        have H' := Aside0.mk H
        clear H
        go_wp2
        go_meet
        case rel => exact ⟨_, (true), (by first | rfl | (simp; done) | (simp [*]; done)), H', ⟨by have := HK1.out; first | omega | exact Nat.le_refl _⟩, ⟨by (with_reducible repeat (first | apply Kd.R_alloc | apply Kd.R_drewN | apply Kd.R_drew)); exact Kd.R_mono HO336.out (fun _ hk => hk.2)⟩, ⟨by (with_reducible repeat (first | refine blk_drewN ?_ _ | refine blk_drew ?_ | refine blk_alloc ?_ _)); exact BK327.out⟩, ⟨by repeat (first | (with_reducible first | exact HB.out | apply below_alloc | apply pw_below_drewN | apply below_drew1 | refine below_set ?_ GE327.out) | exact HB.out)⟩⟩
       ·rw [if_neg c18] at H
        have c18b0 : (x5_1 == 9223372036854775807) = false := beq_eq_false_iff_ne.mpr c18
        have c18b1 : (x5_1 != 9223372036854775807) = true := bne_iff_ne.mpr c18
        have H' := Aside0.mk H
        clear H
        have hcz19_0 : w16.cell? ⟨gb327, 0, none⟩ = some (.int .i64 a1_0) := (blk_cell BK327.out 0).trans rfl
        have hcz19_1 : w16.cell? ⟨gb327, 1, none⟩ = some (.int .i64 a1_1) := (blk_cell BK327.out 1).trans rfl
        have hcz19_2 : w16.cell? ⟨gb327, 2, none⟩ = some (.int .i64 a1_2) := (blk_cell BK327.out 2).trans rfl
        have hcz19_3 : w16.cell? ⟨gb327, 3, none⟩ = some (.int .i64 a1_3) := (blk_cell BK327.out 3).trans rfl
        have hfz19_0 := blk_frozen BK327.out 0
        have hfz19_1 := blk_frozen BK327.out 1
        have hfz19_2 := blk_frozen BK327.out 2
        have hfz19_3 := blk_frozen BK327.out 3
        go_wp2
        go_meet
        case rel => exact ⟨_, (decide (a1_0 ≥ a1_1)), (by first | rfl | (simp; done) | (simp [*]; done)), H', ⟨by have := HK1.out; first | omega | exact Nat.le_refl _⟩, ⟨by (with_reducible repeat (first | apply Kd.R_alloc | apply Kd.R_drewN | apply Kd.R_drew)); exact Kd.R_mono HO336.out (fun _ hk => hk.2)⟩, ⟨by (with_reducible repeat (first | refine blk_drewN ?_ _ | refine blk_drew ?_ | refine blk_alloc ?_ _)); exact BK327.out⟩, ⟨by repeat (first | (with_reducible first | exact HB.out | apply below_alloc | apply pw_below_drewN | apply below_drew1 | refine below_set ?_ GE327.out) | exact HB.out)⟩⟩
      ·rw [if_neg c17] at H
       have c17b0 : (t334 == 0) = false := beq_eq_false_iff_ne.mpr c17
       have c17b1 : (t334 != 0) = true := bne_iff_ne.mpr c17
       (first | rw [c17b0] | (simp only [i64_w, i32_w]; rw [c17b0]) | skip)
       have H' := Aside0.mk H
       clear H
       go_wp2
       go_meet
       case rel => exact ⟨_, (true), (by first | rfl | (simp; done) | (simp [*]; done)), H', ⟨by have := HK1.out; first | omega | exact Nat.le_refl _⟩, ⟨by (with_reducible repeat (first | apply Kd.R_alloc | apply Kd.R_drewN | apply Kd.R_drew)); exact Kd.R_mono HO336.out (fun _ hk => hk.2)⟩, ⟨by (with_reducible repeat (first | refine blk_drewN ?_ _ | refine blk_drew ?_ | refine blk_alloc ?_ _)); exact BK327.out⟩, ⟨by repeat (first | (with_reducible first | exact HB.out | apply below_alloc | apply pw_below_drewN | apply below_drew1 | refine below_set ?_ GE327.out) | exact HB.out)⟩⟩
     case rest =>
      clear HC13
      try clear c1
      try clear c2
      try clear p2
      try clear c3
      try clear c3b0
      try clear c3b1
      try clear p3
      try clear q3
      try clear hx3
      try clear p6
      try clear c8
      try clear c8b0
      try clear c9
      try clear c9b0
      try clear c10
      try clear c17
      try clear c17b0
      try clear c17b1
      try clear c18
      try clear c18b0
      try clear c18b1
      try clear hcz19_0
      try clear hcz19_1
      try clear hcz19_2
      try clear hcz19_3
      try clear hfz19_0
      try clear hfz19_1
      try clear hfz19_2
      try clear hfz19_3
      try clear hx329_0
      try clear hx329_1
      try clear hx329_2
      try clear hx329_3
      try clear p2
      try clear p329
      try clear q329
      obtain ⟨kq, x49_12, rfl, HA, HJ12, HO_7, BK327, HB⟩ := hcut
      cases kq with
      | zero => exact absurd HA.out (by simp [newellaw13_SpanTurned.j1])
      | succ kj12 =>
       have H := HA.out
       clear HA
       simp only [newellaw13_SpanTurned.j1] at H
       by_cases c20 : x49_12 = true
       ·subst c20
        have H1 : ((newellaw13_awake.f kj12).bind fun t337 => (some t337)) = some r := by rw [if_pos rfl] at H; exact H
        clear H
        have H := H1
        clear H1
        replace H := Option.bind_eq_some_iff.mp H
        obtain ⟨t337, A210, H⟩ := H
        replace H : (some t337) = some r := H
        have A21 := Aside0.mk A210
        clear A210
        obtain rfl := Option.some.inj H
        go_wp2_with (first | ((with_reducible refine gate_callee (f := 22) rfl ?_); refine goesL_ (some 50) rfl rfl Try.func22 (by kernel_rfl) rfl #[] rfl (by (try simp only [List.map_toArray, List.map_cons, List.map_nil]); first | done | rfl | (simp only [List.length_drop, List.length_take]; rfl)) ?_; (with_reducible refine (newellaw13_awake.calls kj12  t337 _ A21.out).mono ?_); rintro e w22 ⟨rfl, hb⟩; refine ⟨_, rfl, ?_⟩; have n0_ := Aside0.mk (Kd.R_below (by (with_reducible repeat (first | apply Kd.R_alloc | apply Kd.R_drewN | apply Kd.R_drew)); exact HO_7.out) hb); have n1_ := Aside0.mk (blk_below (g := gb327) (o := .cells #[.int .i64 a1_0, .int .i64 a1_1, .int .i64 a1_2, .int .i64 a1_3] 63 (0, 0)) (by (with_reducible repeat (first | refine blk_drewN ?_ _ | refine blk_drew ?_ | refine blk_alloc ?_ _)); exact BK327.out) hb); have n2_ := Aside0.mk (below_step (by repeat (first | (with_reducible first | exact HB.out | apply below_alloc | apply pw_below_drewN | apply below_drew1 | refine below_set ?_ GE327.out) | exact HB.out)) hb); clear HO_7; clear BK327; clear HB; have HO_7 := n0_; have BK327 := n1_; have HB := n2_; clear n0_ n1_ n2_; (try clear hb); (try clear hb2); (try clear hk); (try clear hi)))
        go_ret
        exact ⟨by first | rfl | (simp [errW_none, errW_some] <;> rfl) | (simp [*, errW_none, errW_some] <;> rfl), by repeat (first | (with_reducible first | exact HB.out | apply below_alloc | apply pw_below_drewN | apply below_drew1 | refine below_set ?_ GE327.out) | exact HB.out)⟩
       ·replace c20 := Bool.eq_false_iff.mpr c20
        subst c20
        have H1 : ((newellaw13_own.f l0).bind fun t338 => ((some (([(⟨a1_0, a1_1, a1_2, wrap64 (x5_1 + 1)⟩ : S63)] : List (S63)) : List (S63))).bind fun y341 => (if t338.length + y341.length < 4398046511104 then ((span_Resolve.f (t338 ++ y341)).bind fun bt347 => ((some (([(⟨a1_0, a1_1, a1_2, wrap64 (x5_1 + 1)⟩ : S63)] : List (S63)) : List (S63))).bind fun y351 => (if y351.length + l0.length < 4398046511104 then ((span_Resolve.f (y351 ++ l0)).bind fun bt357 => ((newellaw13_own.f bt347.1).bind fun t361 => ((span_Cut.f t361 a1_0 a1_1).bind fun t364 => ((newellaw13_awake.f kj12).bind fun t367 => (if t367 = true then (if bt347.2 = 0 then (if bt357.2 = 0 then ((newelref13_Same.f kj12 bt347.1 bt357.1).bind fun t368 => (if t368 = true then (if (t364.length : Int) = 1 then (if 0 < (t364.length : Int) then (if ((rd_T63 t364 0).f2) = a1_2 then (if ((rd_T63 t364 0).f0) = a1_0 then (if ((rd_T63 t364 0).f1) = a1_1 then ((newellaw13_own.f bt347.1).bind fun t372 => ((span_Cut.f t372 (-9223372036854775808) a1_0).bind fun t375 => ((newellaw13_modes.f kj12 t375).bind fun t378 => ((newellaw13_own.f t333).bind fun t381 => ((span_Cut.f t381 (-9223372036854775808) a1_0).bind fun t384 => ((newellaw13_modes.f kj12 t384).bind fun t387 => ((newelref13_Same.f kj12 t378 t387).bind fun t390 => (some t390)))))))) else (none)) else (none)) else (none)) else (none)) else (none)) else (none))) else (none)) else (none)) else (none)))))) else (none)))) else (none)))) = some r := by rw [if_neg (show ¬ (false = true) by decide)] at H; exact H
        clear H
        have H := H1
        clear H1
        replace H := Option.bind_eq_some_iff.mp H
        obtain ⟨t338, A230, H⟩ := H
        replace H : ((some (([(⟨a1_0, a1_1, a1_2, wrap64 (x5_1 + 1)⟩ : S63)] : List (S63)) : List (S63))).bind fun y341 => (if t338.length + y341.length < 4398046511104 then ((span_Resolve.f (t338 ++ y341)).bind fun bt347 => ((some (([(⟨a1_0, a1_1, a1_2, wrap64 (x5_1 + 1)⟩ : S63)] : List (S63)) : List (S63))).bind fun y351 => (if y351.length + l0.length < 4398046511104 then ((span_Resolve.f (y351 ++ l0)).bind fun bt357 => ((newellaw13_own.f bt347.1).bind fun t361 => ((span_Cut.f t361 a1_0 a1_1).bind fun t364 => ((newellaw13_awake.f kj12).bind fun t367 => (if t367 = true then (if bt347.2 = 0 then (if bt357.2 = 0 then ((newelref13_Same.f kj12 bt347.1 bt357.1).bind fun t368 => (if t368 = true then (if (t364.length : Int) = 1 then (if 0 < (t364.length : Int) then (if ((rd_T63 t364 0).f2) = a1_2 then (if ((rd_T63 t364 0).f0) = a1_0 then (if ((rd_T63 t364 0).f1) = a1_1 then ((newellaw13_own.f bt347.1).bind fun t372 => ((span_Cut.f t372 (-9223372036854775808) a1_0).bind fun t375 => ((newellaw13_modes.f kj12 t375).bind fun t378 => ((newellaw13_own.f t333).bind fun t381 => ((span_Cut.f t381 (-9223372036854775808) a1_0).bind fun t384 => ((newellaw13_modes.f kj12 t384).bind fun t387 => ((newelref13_Same.f kj12 t378 t387).bind fun t390 => (some t390)))))))) else (none)) else (none)) else (none)) else (none)) else (none)) else (none))) else (none)) else (none)) else (none)))))) else (none)))) else (none))) = some r := H
        have A23 := Aside0.mk A230
        clear A230
        obtain ⟨y341, hy341⟩ : ∃ y_ : List (S63), y_ = (([(⟨a1_0, a1_1, a1_2, wrap64 (x5_1 + 1)⟩ : S63)] : List (S63))) := ⟨_, rfl⟩
        replace H : (if t338.length + y341.length < 4398046511104 then ((span_Resolve.f (t338 ++ y341)).bind fun bt347 => ((some (([(⟨a1_0, a1_1, a1_2, wrap64 (x5_1 + 1)⟩ : S63)] : List (S63)) : List (S63))).bind fun y351 => (if y351.length + l0.length < 4398046511104 then ((span_Resolve.f (y351 ++ l0)).bind fun bt357 => ((newellaw13_own.f bt347.1).bind fun t361 => ((span_Cut.f t361 a1_0 a1_1).bind fun t364 => ((newellaw13_awake.f kj12).bind fun t367 => (if t367 = true then (if bt347.2 = 0 then (if bt357.2 = 0 then ((newelref13_Same.f kj12 bt347.1 bt357.1).bind fun t368 => (if t368 = true then (if (t364.length : Int) = 1 then (if 0 < (t364.length : Int) then (if ((rd_T63 t364 0).f2) = a1_2 then (if ((rd_T63 t364 0).f0) = a1_0 then (if ((rd_T63 t364 0).f1) = a1_1 then ((newellaw13_own.f bt347.1).bind fun t372 => ((span_Cut.f t372 (-9223372036854775808) a1_0).bind fun t375 => ((newellaw13_modes.f kj12 t375).bind fun t378 => ((newellaw13_own.f t333).bind fun t381 => ((span_Cut.f t381 (-9223372036854775808) a1_0).bind fun t384 => ((newellaw13_modes.f kj12 t384).bind fun t387 => ((newelref13_Same.f kj12 t378 t387).bind fun t390 => (some t390)))))))) else (none)) else (none)) else (none)) else (none)) else (none)) else (none))) else (none)) else (none)) else (none)))))) else (none)))) else (none)) = some r := by first | (rw [hy341]; with_reducible exact H) | (have H2_ := (Option.bind_some _ _).symm.trans H; rw [hy341]; with_reducible exact H2_) | (have H2_ := (Option.bind_some _ _).symm.trans H; with_reducible exact H2_) | with_reducible exact H | (rw [hy341]; exact H) | exact H
        have Ny341 := Aside0.mk hy341
        clear hy341
        by_cases c24 : t338.length + y341.length < 4398046511104
        ·rw [if_pos c24] at H
         have LMc24 := Aside0.mk c24
         clear c24
         obtain ⟨y344, hy344⟩ : ∃ y_ : List (S63), y_ = (t338 ++ y341) := ⟨_, rfl⟩
         replace H : ((span_Resolve.f y344).bind fun bt347 => ((some (([(⟨a1_0, a1_1, a1_2, wrap64 (x5_1 + 1)⟩ : S63)] : List (S63)) : List (S63))).bind fun y351 => (if y351.length + l0.length < 4398046511104 then ((span_Resolve.f (y351 ++ l0)).bind fun bt357 => ((newellaw13_own.f bt347.1).bind fun t361 => ((span_Cut.f t361 a1_0 a1_1).bind fun t364 => ((newellaw13_awake.f kj12).bind fun t367 => (if t367 = true then (if bt347.2 = 0 then (if bt357.2 = 0 then ((newelref13_Same.f kj12 bt347.1 bt357.1).bind fun t368 => (if t368 = true then (if (t364.length : Int) = 1 then (if 0 < (t364.length : Int) then (if ((rd_T63 t364 0).f2) = a1_2 then (if ((rd_T63 t364 0).f0) = a1_0 then (if ((rd_T63 t364 0).f1) = a1_1 then ((newellaw13_own.f bt347.1).bind fun t372 => ((span_Cut.f t372 (-9223372036854775808) a1_0).bind fun t375 => ((newellaw13_modes.f kj12 t375).bind fun t378 => ((newellaw13_own.f t333).bind fun t381 => ((span_Cut.f t381 (-9223372036854775808) a1_0).bind fun t384 => ((newellaw13_modes.f kj12 t384).bind fun t387 => ((newelref13_Same.f kj12 t378 t387).bind fun t390 => (some t390)))))))) else (none)) else (none)) else (none)) else (none)) else (none)) else (none))) else (none)) else (none)) else (none)))))) else (none)))) = some r := by first | (rw [hy344]; with_reducible exact H) | (have H2_ := (Option.bind_some _ _).symm.trans H; rw [hy344]; with_reducible exact H2_) | (have H2_ := (Option.bind_some _ _).symm.trans H; with_reducible exact H2_) | with_reducible exact H | (rw [hy344]; exact H) | exact H
         have Ny344 := Aside0.mk hy344
         clear hy344
         replace H := Option.bind_eq_some_iff.mp H
         obtain ⟨⟨t347, t348⟩, A250, H⟩ := H
         replace H : ((some (([(⟨a1_0, a1_1, a1_2, wrap64 (x5_1 + 1)⟩ : S63)] : List (S63)) : List (S63))).bind fun y351 => (if y351.length + l0.length < 4398046511104 then ((span_Resolve.f (y351 ++ l0)).bind fun bt357 => ((newellaw13_own.f t347).bind fun t361 => ((span_Cut.f t361 a1_0 a1_1).bind fun t364 => ((newellaw13_awake.f kj12).bind fun t367 => (if t367 = true then (if t348 = 0 then (if bt357.2 = 0 then ((newelref13_Same.f kj12 t347 bt357.1).bind fun t368 => (if t368 = true then (if (t364.length : Int) = 1 then (if 0 < (t364.length : Int) then (if ((rd_T63 t364 0).f2) = a1_2 then (if ((rd_T63 t364 0).f0) = a1_0 then (if ((rd_T63 t364 0).f1) = a1_1 then ((newellaw13_own.f t347).bind fun t372 => ((span_Cut.f t372 (-9223372036854775808) a1_0).bind fun t375 => ((newellaw13_modes.f kj12 t375).bind fun t378 => ((newellaw13_own.f t333).bind fun t381 => ((span_Cut.f t381 (-9223372036854775808) a1_0).bind fun t384 => ((newellaw13_modes.f kj12 t384).bind fun t387 => ((newelref13_Same.f kj12 t378 t387).bind fun t390 => (some t390)))))))) else (none)) else (none)) else (none)) else (none)) else (none)) else (none))) else (none)) else (none)) else (none)))))) else (none))) = some r := H
         have A25 := Aside0.mk A250
         clear A250
         obtain ⟨y351, hy351⟩ : ∃ y_ : List (S63), y_ = (([(⟨a1_0, a1_1, a1_2, wrap64 (x5_1 + 1)⟩ : S63)] : List (S63))) := ⟨_, rfl⟩
         replace H : (if y351.length + l0.length < 4398046511104 then ((span_Resolve.f (y351 ++ l0)).bind fun bt357 => ((newellaw13_own.f t347).bind fun t361 => ((span_Cut.f t361 a1_0 a1_1).bind fun t364 => ((newellaw13_awake.f kj12).bind fun t367 => (if t367 = true then (if t348 = 0 then (if bt357.2 = 0 then ((newelref13_Same.f kj12 t347 bt357.1).bind fun t368 => (if t368 = true then (if (t364.length : Int) = 1 then (if 0 < (t364.length : Int) then (if ((rd_T63 t364 0).f2) = a1_2 then (if ((rd_T63 t364 0).f0) = a1_0 then (if ((rd_T63 t364 0).f1) = a1_1 then ((newellaw13_own.f t347).bind fun t372 => ((span_Cut.f t372 (-9223372036854775808) a1_0).bind fun t375 => ((newellaw13_modes.f kj12 t375).bind fun t378 => ((newellaw13_own.f t333).bind fun t381 => ((span_Cut.f t381 (-9223372036854775808) a1_0).bind fun t384 => ((newellaw13_modes.f kj12 t384).bind fun t387 => ((newelref13_Same.f kj12 t378 t387).bind fun t390 => (some t390)))))))) else (none)) else (none)) else (none)) else (none)) else (none)) else (none))) else (none)) else (none)) else (none)))))) else (none)) = some r := by first | (rw [hy351]; with_reducible exact H) | (have H2_ := (Option.bind_some _ _).symm.trans H; rw [hy351]; with_reducible exact H2_) | (have H2_ := (Option.bind_some _ _).symm.trans H; with_reducible exact H2_) | with_reducible exact H | (rw [hy351]; exact H) | exact H
         have Ny351 := Aside0.mk hy351
         clear hy351
         by_cases c26 : y351.length + l0.length < 4398046511104
         ·rw [if_pos c26] at H
          have LMc26 := Aside0.mk c26
          clear c26
          obtain ⟨y354, hy354⟩ : ∃ y_ : List (S63), y_ = (y351 ++ l0) := ⟨_, rfl⟩
          replace H : ((span_Resolve.f y354).bind fun bt357 => ((newellaw13_own.f t347).bind fun t361 => ((span_Cut.f t361 a1_0 a1_1).bind fun t364 => ((newellaw13_awake.f kj12).bind fun t367 => (if t367 = true then (if t348 = 0 then (if bt357.2 = 0 then ((newelref13_Same.f kj12 t347 bt357.1).bind fun t368 => (if t368 = true then (if (t364.length : Int) = 1 then (if 0 < (t364.length : Int) then (if ((rd_T63 t364 0).f2) = a1_2 then (if ((rd_T63 t364 0).f0) = a1_0 then (if ((rd_T63 t364 0).f1) = a1_1 then ((newellaw13_own.f t347).bind fun t372 => ((span_Cut.f t372 (-9223372036854775808) a1_0).bind fun t375 => ((newellaw13_modes.f kj12 t375).bind fun t378 => ((newellaw13_own.f t333).bind fun t381 => ((span_Cut.f t381 (-9223372036854775808) a1_0).bind fun t384 => ((newellaw13_modes.f kj12 t384).bind fun t387 => ((newelref13_Same.f kj12 t378 t387).bind fun t390 => (some t390)))))))) else (none)) else (none)) else (none)) else (none)) else (none)) else (none))) else (none)) else (none)) else (none)))))) = some r := by first | (rw [hy354]; with_reducible exact H) | (have H2_ := (Option.bind_some _ _).symm.trans H; rw [hy354]; with_reducible exact H2_) | (have H2_ := (Option.bind_some _ _).symm.trans H; with_reducible exact H2_) | with_reducible exact H | (rw [hy354]; exact H) | exact H
          have Ny354 := Aside0.mk hy354
          clear hy354
          replace H := Option.bind_eq_some_iff.mp H
          obtain ⟨⟨t357, t358⟩, A270, H⟩ := H
          replace H : ((newellaw13_own.f t347).bind fun t361 => ((span_Cut.f t361 a1_0 a1_1).bind fun t364 => ((newellaw13_awake.f kj12).bind fun t367 => (if t367 = true then (if t348 = 0 then (if t358 = 0 then ((newelref13_Same.f kj12 t347 t357).bind fun t368 => (if t368 = true then (if (t364.length : Int) = 1 then (if 0 < (t364.length : Int) then (if ((rd_T63 t364 0).f2) = a1_2 then (if ((rd_T63 t364 0).f0) = a1_0 then (if ((rd_T63 t364 0).f1) = a1_1 then ((newellaw13_own.f t347).bind fun t372 => ((span_Cut.f t372 (-9223372036854775808) a1_0).bind fun t375 => ((newellaw13_modes.f kj12 t375).bind fun t378 => ((newellaw13_own.f t333).bind fun t381 => ((span_Cut.f t381 (-9223372036854775808) a1_0).bind fun t384 => ((newellaw13_modes.f kj12 t384).bind fun t387 => ((newelref13_Same.f kj12 t378 t387).bind fun t390 => (some t390)))))))) else (none)) else (none)) else (none)) else (none)) else (none)) else (none))) else (none)) else (none)) else (none))))) = some r := H
          have A27 := Aside0.mk A270
          clear A270
          replace H := Option.bind_eq_some_iff.mp H
          obtain ⟨t361, A280, H⟩ := H
          replace H : ((span_Cut.f t361 a1_0 a1_1).bind fun t364 => ((newellaw13_awake.f kj12).bind fun t367 => (if t367 = true then (if t348 = 0 then (if t358 = 0 then ((newelref13_Same.f kj12 t347 t357).bind fun t368 => (if t368 = true then (if (t364.length : Int) = 1 then (if 0 < (t364.length : Int) then (if ((rd_T63 t364 0).f2) = a1_2 then (if ((rd_T63 t364 0).f0) = a1_0 then (if ((rd_T63 t364 0).f1) = a1_1 then ((newellaw13_own.f t347).bind fun t372 => ((span_Cut.f t372 (-9223372036854775808) a1_0).bind fun t375 => ((newellaw13_modes.f kj12 t375).bind fun t378 => ((newellaw13_own.f t333).bind fun t381 => ((span_Cut.f t381 (-9223372036854775808) a1_0).bind fun t384 => ((newellaw13_modes.f kj12 t384).bind fun t387 => ((newelref13_Same.f kj12 t378 t387).bind fun t390 => (some t390)))))))) else (none)) else (none)) else (none)) else (none)) else (none)) else (none))) else (none)) else (none)) else (none)))) = some r := H
          have A28 := Aside0.mk A280
          clear A280
          replace H := Option.bind_eq_some_iff.mp H
          obtain ⟨t364, A290, H⟩ := H
          replace H : ((newellaw13_awake.f kj12).bind fun t367 => (if t367 = true then (if t348 = 0 then (if t358 = 0 then ((newelref13_Same.f kj12 t347 t357).bind fun t368 => (if t368 = true then (if (t364.length : Int) = 1 then (if 0 < (t364.length : Int) then (if ((rd_T63 t364 0).f2) = a1_2 then (if ((rd_T63 t364 0).f0) = a1_0 then (if ((rd_T63 t364 0).f1) = a1_1 then ((newellaw13_own.f t347).bind fun t372 => ((span_Cut.f t372 (-9223372036854775808) a1_0).bind fun t375 => ((newellaw13_modes.f kj12 t375).bind fun t378 => ((newellaw13_own.f t333).bind fun t381 => ((span_Cut.f t381 (-9223372036854775808) a1_0).bind fun t384 => ((newellaw13_modes.f kj12 t384).bind fun t387 => ((newelref13_Same.f kj12 t378 t387).bind fun t390 => (some t390)))))))) else (none)) else (none)) else (none)) else (none)) else (none)) else (none))) else (none)) else (none)) else (none))) = some r := H
          have A29 := Aside0.mk A290
          clear A290
          replace H := Option.bind_eq_some_iff.mp H
          obtain ⟨t367, A300, H⟩ := H
          replace H : (if t367 = true then (if t348 = 0 then (if t358 = 0 then ((newelref13_Same.f kj12 t347 t357).bind fun t368 => (if t368 = true then (if (t364.length : Int) = 1 then (if 0 < (t364.length : Int) then (if ((rd_T63 t364 0).f2) = a1_2 then (if ((rd_T63 t364 0).f0) = a1_0 then (if ((rd_T63 t364 0).f1) = a1_1 then ((newellaw13_own.f t347).bind fun t372 => ((span_Cut.f t372 (-9223372036854775808) a1_0).bind fun t375 => ((newellaw13_modes.f kj12 t375).bind fun t378 => ((newellaw13_own.f t333).bind fun t381 => ((span_Cut.f t381 (-9223372036854775808) a1_0).bind fun t384 => ((newellaw13_modes.f kj12 t384).bind fun t387 => ((newelref13_Same.f kj12 t378 t387).bind fun t390 => (some t390)))))))) else (none)) else (none)) else (none)) else (none)) else (none)) else (none))) else (none)) else (none)) else (none)) = some r := H
          have A30 := Aside0.mk A300
          clear A300
          by_cases c31 : t367 = true
          ·subst c31
           have H1 : (if t348 = 0 then (if t358 = 0 then ((newelref13_Same.f kj12 t347 t357).bind fun t368 => (if t368 = true then (if (t364.length : Int) = 1 then (if 0 < (t364.length : Int) then (if ((rd_T63 t364 0).f2) = a1_2 then (if ((rd_T63 t364 0).f0) = a1_0 then (if ((rd_T63 t364 0).f1) = a1_1 then ((newellaw13_own.f t347).bind fun t372 => ((span_Cut.f t372 (-9223372036854775808) a1_0).bind fun t375 => ((newellaw13_modes.f kj12 t375).bind fun t378 => ((newellaw13_own.f t333).bind fun t381 => ((span_Cut.f t381 (-9223372036854775808) a1_0).bind fun t384 => ((newellaw13_modes.f kj12 t384).bind fun t387 => ((newelref13_Same.f kj12 t378 t387).bind fun t390 => (some t390)))))))) else (none)) else (none)) else (none)) else (none)) else (none)) else (none))) else (none)) else (none)) = some r := by rw [if_pos rfl] at H; exact H
           clear H
           have H := H1
           clear H1
           by_cases c32 : t348 = 0
           ·rw [if_pos c32] at H
            have c32b0 : (t348 == 0) = true := beq_iff_eq.mpr c32
            have c32b1 : (t348 != 0) = false := bne_eq_false_iff_eq.mpr c32
            clear c32
            by_cases c33 : t358 = 0
            ·rw [if_pos c33] at H
             have c33b0 : (t358 == 0) = true := beq_iff_eq.mpr c33
             have c33b1 : (t358 != 0) = false := bne_eq_false_iff_eq.mpr c33
             clear c33
             replace H := Option.bind_eq_some_iff.mp H
             obtain ⟨t368, A340, H⟩ := H
             replace H : (if t368 = true then (if (t364.length : Int) = 1 then (if 0 < (t364.length : Int) then (if ((rd_T63 t364 0).f2) = a1_2 then (if ((rd_T63 t364 0).f0) = a1_0 then (if ((rd_T63 t364 0).f1) = a1_1 then ((newellaw13_own.f t347).bind fun t372 => ((span_Cut.f t372 (-9223372036854775808) a1_0).bind fun t375 => ((newellaw13_modes.f kj12 t375).bind fun t378 => ((newellaw13_own.f t333).bind fun t381 => ((span_Cut.f t381 (-9223372036854775808) a1_0).bind fun t384 => ((newellaw13_modes.f kj12 t384).bind fun t387 => ((newelref13_Same.f kj12 t378 t387).bind fun t390 => (some t390)))))))) else (none)) else (none)) else (none)) else (none)) else (none)) else (none)) = some r := H
             have A34 := Aside0.mk A340
             clear A340
             by_cases c35 : t368 = true
             ·subst c35
              have H1 : (if (t364.length : Int) = 1 then (if 0 < (t364.length : Int) then (if ((rd_T63 t364 0).f2) = a1_2 then (if ((rd_T63 t364 0).f0) = a1_0 then (if ((rd_T63 t364 0).f1) = a1_1 then ((newellaw13_own.f t347).bind fun t372 => ((span_Cut.f t372 (-9223372036854775808) a1_0).bind fun t375 => ((newellaw13_modes.f kj12 t375).bind fun t378 => ((newellaw13_own.f t333).bind fun t381 => ((span_Cut.f t381 (-9223372036854775808) a1_0).bind fun t384 => ((newellaw13_modes.f kj12 t384).bind fun t387 => ((newelref13_Same.f kj12 t378 t387).bind fun t390 => (some t390)))))))) else (none)) else (none)) else (none)) else (none)) else (none)) = some r := by rw [if_pos rfl] at H; exact H
              clear H
              have H := H1
              clear H1
              by_cases c36 : (t364.length : Int) = 1
              ·rw [if_pos c36] at H
               have c36b0 : ((t364.length : Int) == 1) = true := beq_iff_eq.mpr c36
               have c36b1 : ((t364.length : Int) != 1) = false := bne_eq_false_iff_eq.mpr c36
               clear c36
               by_cases c37 : 0 < (t364.length : Int)
               ·rw [if_pos c37] at H
                have c37b0 : decide (0 < (t364.length : Int)) = true := decide_eq_true c37
                have c37b1 : decide (0 < t364.length) = true := decide_eq_true (by omega)
                clear c37
                by_cases c38 : ((rd_T63 t364 0).f2) = a1_2
                ·rw [if_pos c38] at H
                 have c38b0 : (((rd_T63 t364 0).f2) == a1_2) = true := beq_iff_eq.mpr c38
                 have c38b1 : (((rd_T63 t364 0).f2) != a1_2) = false := bne_eq_false_iff_eq.mpr c38
                 clear c38
                 by_cases c39 : ((rd_T63 t364 0).f0) = a1_0
                 ·rw [if_pos c39] at H
                  have c39b0 : (((rd_T63 t364 0).f0) == a1_0) = true := beq_iff_eq.mpr c39
                  have c39b1 : (((rd_T63 t364 0).f0) != a1_0) = false := bne_eq_false_iff_eq.mpr c39
                  clear c39
                  by_cases c40 : ((rd_T63 t364 0).f1) = a1_1
                  ·rw [if_pos c40] at H
                   have c40b0 : (((rd_T63 t364 0).f1) == a1_1) = true := beq_iff_eq.mpr c40
                   have c40b1 : (((rd_T63 t364 0).f1) != a1_1) = false := bne_eq_false_iff_eq.mpr c40
                   clear c40
                   replace H := Option.bind_eq_some_iff.mp H
                   obtain ⟨t372, A410, H⟩ := H
                   replace H : ((span_Cut.f t372 (-9223372036854775808) a1_0).bind fun t375 => ((newellaw13_modes.f kj12 t375).bind fun t378 => ((newellaw13_own.f t333).bind fun t381 => ((span_Cut.f t381 (-9223372036854775808) a1_0).bind fun t384 => ((newellaw13_modes.f kj12 t384).bind fun t387 => ((newelref13_Same.f kj12 t378 t387).bind fun t390 => (some t390))))))) = some r := H
                   have A41 := Aside0.mk A410
                   clear A410
                   replace H := Option.bind_eq_some_iff.mp H
                   obtain ⟨t375, A420, H⟩ := H
                   replace H : ((newellaw13_modes.f kj12 t375).bind fun t378 => ((newellaw13_own.f t333).bind fun t381 => ((span_Cut.f t381 (-9223372036854775808) a1_0).bind fun t384 => ((newellaw13_modes.f kj12 t384).bind fun t387 => ((newelref13_Same.f kj12 t378 t387).bind fun t390 => (some t390)))))) = some r := H
                   have A42 := Aside0.mk A420
                   clear A420
                   replace H := Option.bind_eq_some_iff.mp H
                   obtain ⟨t378, A430, H⟩ := H
                   replace H : ((newellaw13_own.f t333).bind fun t381 => ((span_Cut.f t381 (-9223372036854775808) a1_0).bind fun t384 => ((newellaw13_modes.f kj12 t384).bind fun t387 => ((newelref13_Same.f kj12 t378 t387).bind fun t390 => (some t390))))) = some r := H
                   have A43 := Aside0.mk A430
                   clear A430
                   replace H := Option.bind_eq_some_iff.mp H
                   obtain ⟨t381, A440, H⟩ := H
                   replace H : ((span_Cut.f t381 (-9223372036854775808) a1_0).bind fun t384 => ((newellaw13_modes.f kj12 t384).bind fun t387 => ((newelref13_Same.f kj12 t378 t387).bind fun t390 => (some t390)))) = some r := H
                   have A44 := Aside0.mk A440
                   clear A440
                   replace H := Option.bind_eq_some_iff.mp H
                   obtain ⟨t384, A450, H⟩ := H
                   replace H : ((newellaw13_modes.f kj12 t384).bind fun t387 => ((newelref13_Same.f kj12 t378 t387).bind fun t390 => (some t390))) = some r := H
                   have A45 := Aside0.mk A450
                   clear A450
                   replace H := Option.bind_eq_some_iff.mp H
                   obtain ⟨t387, A460, H⟩ := H
                   replace H : ((newelref13_Same.f kj12 t378 t387).bind fun t390 => (some t390)) = some r := H
                   have A46 := Aside0.mk A460
                   clear A460
                   replace H := Option.bind_eq_some_iff.mp H
                   obtain ⟨t390, A470, H⟩ := H
                   replace H : (some t390) = some r := H
                   have A47 := Aside0.mk A470
                   clear A470
                   obtain rfl := Option.some.inj H
                   have hcz48_0 : wc.cell? ⟨gb327, 0, none⟩ = some (.int .i64 a1_0) := (blk_cell BK327.out 0).trans rfl
                   have hcz48_1 : wc.cell? ⟨gb327, 1, none⟩ = some (.int .i64 a1_1) := (blk_cell BK327.out 1).trans rfl
                   have hcz48_2 : wc.cell? ⟨gb327, 2, none⟩ = some (.int .i64 a1_2) := (blk_cell BK327.out 2).trans rfl
                   have hcz48_3 : wc.cell? ⟨gb327, 3, none⟩ = some (.int .i64 a1_3) := (blk_cell BK327.out 3).trans rfl
                   have hfz48_0 := blk_frozen BK327.out 0
                   have hfz48_1 := blk_frozen BK327.out 1
                   have hfz48_2 := blk_frozen BK327.out 2
                   have hfz48_3 := blk_frozen BK327.out 3
                   try go_wp2
                   have n0_ : Aside0 (Kd.R k63 63 (wc.setCell ⟨gb327, 3, none⟩ (.int .i64 (wrap64 (x5_1 + 1)))) w.heap.size (fun k_ => k_ ≠ gb327) v335 t333) := ⟨by (with_reducible repeat (first | apply Kd.R_alloc | apply Kd.R_drewN | apply Kd.R_drew)); exact Kd.R_mono (Kd.R_far (p := ⟨gb327, 3, none⟩) (Kd.R_mono HO_7.out (fun k_ hk => (⟨hk, hk⟩ : _ ∧ k_ ≠ gb327))) (fun _ hk => hk.2) (.int .i64 (wrap64 (x5_1 + 1)))) (fun _ hk => hk.1)⟩
                   have n1_ : Aside0 ((wc.setCell ⟨gb327, 3, none⟩ (.int .i64 (wrap64 (x5_1 + 1)))).heap[gb327]? = some (.cells #[.int .i64 a1_0, .int .i64 a1_1, .int .i64 a1_2, .int .i64 (wrap64 (x5_1 + 1))] 63 (0, 0))) := ⟨by (with_reducible repeat (first | refine blk_drewN ?_ _ | refine blk_drew ?_ | refine blk_alloc ?_ _)); refine blk_put (cs := #[.int .i64 a1_0, .int .i64 a1_1, .int .i64 a1_2, .int .i64 a1_3]) ?_ 3 _ rfl; (with_reducible repeat (first | refine blk_drewN ?_ _ | refine blk_drew ?_ | refine blk_alloc ?_ _)); exact BK327.out⟩
                   have n2_ : Aside0 (Below w.heap.size w (wc.setCell ⟨gb327, 3, none⟩ (.int .i64 (wrap64 (x5_1 + 1))))) := ⟨by repeat (first | (with_reducible first | exact HB.out | apply below_alloc | apply pw_below_drewN | apply below_drew1 | refine below_set ?_ GE327.out) | exact HB.out)⟩
                   (try clear HO_7)
                   (try clear BK327)
                   (try clear HB)
                   generalize (wc.setCell ⟨gb327, 3, none⟩ (.int .i64 (wrap64 (x5_1 + 1)))) = w49 at n0_ n1_ n2_ ⊢
                   have HO_7 := n0_
                   have BK327 := n1_
                   have HB := n2_
                   clear n0_ n1_ n2_
                   have n0_ := Aside0.mk (Kd.R_drew HO_7.out)
                   have n1_ := Aside0.mk (blk_drew BK327.out)
                   have n2_ := Aside0.mk (below_drew1 HB.out)
                   clear HO_7
                   clear BK327
                   clear HB
                   have HO_7 := n0_
                   have BK327 := n1_
                   have HB := n2_
                   clear n0_ n1_ n2_
                   refine start_ (n := 11) (S := fun w' => w'.cell? ⟨gb327, 0, none⟩ = some (.int .i64 a1_0) ∧ w'.cell? ⟨gb327, 1, none⟩ = some (.int .i64 a1_1) ∧ w'.cell? ⟨gb327, 2, none⟩ = some (.int .i64 a1_2) ∧ w'.cell? ⟨gb327, 3, none⟩ = some (.int .i64 (wrap64 (x5_1 + 1)))) (ds := []) #[false, false, false, false, false, false, false, false, false, false, false] (by kernel_rfl) rfl rfl ⟨(blk_cell BK327.out 0).trans rfl, (blk_cell BK327.out 1).trans rfl, (blk_cell BK327.out 2).trans rfl, (blk_cell BK327.out 3).trans rfl⟩ (fun hHeld => ?_); refine with_tabW newellaw13_SpanTurned.tab12 newellaw13_SpanTurned.bits12 (fun HT_ HW_ => ?_)
                   generalize w49.drew = w50 at HO_7 BK327 HB hHeld ⊢
                   refine pure_ (i := 0) (N := some 55) (v := ?_) (a' := ?_) #[true, false, false, false, false, false, false, false, false, false, false] rfl rfl (any_of HT_.out (by kernel_rfl)) (fun _ _ _ h => h) (Or.inl ⟨by rfl, ?_⟩) ?_ ?_
                   rotate_left
                   ·intro w'
                    go_simp
                    with_reducible rfl
                   rotate_left
                   ·simp only [Act.put, List.setIfInBounds_toArray, List.set_cons_zero, List.set_cons_succ, i64_w, i32_w]
                    rfl
                   refine take_ (i := 2) (N := some 57) (v := ?_) (a' := ?_) #[true, false, true, false, false, false, false, false, false, false, false] rfl rfl (take_ofW HT_.out HW_.out (by kernel_rfl)) (fun _ _ _ h => h) (Or.inl ⟨by rfl, ?_⟩) hHeld ?_ ?_
                   rotate_left
                   ·rintro w' ⟨s0, s1, s2, s3⟩
                    go_simp
                    with_reducible rfl
                   rotate_left
                   ·simp only [Act.put, List.setIfInBounds_toArray, List.set_cons_zero, List.set_cons_succ, i64_w, i32_w]
                    rfl
                   refine join_ (σ := Value × Value) 7 #[true, true, true, true, false, false, false, false, false, false, false] (fun s_ => [(56, s_.1), (58, s_.2)]) (fun s_ w' => (w'.cell? ⟨gb327, 0, none⟩ = some (.int .i64 a1_0) ∧ w'.cell? ⟨gb327, 1, none⟩ = some (.int .i64 a1_1) ∧ w'.cell? ⟨gb327, 2, none⟩ = some (.int .i64 a1_2) ∧ w'.cell? ⟨gb327, 3, none⟩ = some (.int .i64 (wrap64 (x5_1 + 1)))) ∧ (Kd.R k63 63 w' w.heap.size (fun k_ => some k_ ≠ (s_.2 : Value).ownBlock ∧ some k_ ≠ (v335 : Value).ownBlock ∧ k_ ≠ gb327) s_.1 t338) ∧ (Kd.R k63 63 w' w.heap.size (fun k_ => some k_ ≠ (s_.1 : Value).ownBlock ∧ some k_ ≠ (v335 : Value).ownBlock ∧ k_ ≠ gb327) s_.2 y341) ∧ (Kd.R k63 63 w' w.heap.size (fun k_ => some k_ ≠ (s_.1 : Value).ownBlock ∧ some k_ ≠ (s_.2 : Value).ownBlock ∧ k_ ≠ gb327) v335 t333) ∧ (w'.heap[gb327]? = some (.cells #[.int .i64 a1_0, .int .i64 a1_1, .int .i64 a1_2, .int .i64 (wrap64 (x5_1 + 1))] 63 (0, 0))) ∧ (Below w.heap.size w w')) ?_ ?_
                   rotate_left
                   ·intro hCont
                    refine two_ (i := 1) (j := 3) (Ni := some 56) (Nj := some 58) #[true, true, true, false, false, false, false, false, false, false, false] #[true, false, true, true, false, false, false, false, false, false, false] rfl rfl rfl rfl (two_of HT_.out (by kernel_rfl)) (by decide) (by decide) (fun K hK => ?_) (fun K hK => ?_)
                    ·skip
                     refine goes_ Try.func24 (by kernel_rfl) rfl #[.slice A0 l0.length c0] (by rfl) rfl rfl (by (try simp only [List.map_toArray, List.map_cons, List.map_nil]); first | done | rfl | (simp only [List.length_drop, List.length_take]; rfl)) ?_
                     with_reducible refine (newellaw13_own.calls _ _ l0 t338 _ ?side1 ?side2 A23.out).mono ?_
                     (case side1 => repeat (first | exact (Kd.C_below HR0.out HB.out) | (with_reducible refine Kd.C_alloc ?_ _) | (with_reducible refine Kd.C_drewN ?_ _) | (with_reducible refine Kd.C_drew ?_)))
                     (case side2 => exact HC0.out)
                     rintro e w51 ⟨v339, rfl, ho0, hb⟩
                     refine ⟨_, rfl, ?_⟩
                     have n0_ := Aside0.mk (Kd.R_elder' (by (with_reducible repeat (first | apply Kd.R_alloc | apply Kd.R_drewN | apply Kd.R_drew)); exact HO_7.out) (Kd.R_base ho0) hb)
                     have n1_ := Aside0.mk (Kd.R_lower (Kd.R_newB (Kd.R_new' ho0 (Kd.R_lt (by (with_reducible repeat (first | apply Kd.R_alloc | apply Kd.R_drewN | apply Kd.R_drew)); exact HO_7.out))) (g := gb327) (o := .cells #[.int .i64 a1_0, .int .i64 a1_1, .int .i64 a1_2, .int .i64 (wrap64 (x5_1 + 1))] 63 (0, 0)) (by (with_reducible repeat (first | refine blk_drewN ?_ _ | refine blk_drew ?_ | refine blk_alloc ?_ _)); exact BK327.out)) (below_size (by repeat (first | (with_reducible first | exact HB.out | apply below_alloc | apply pw_below_drewN | apply below_drew1 | refine below_set ?_ GE327.out) | exact HB.out))))
                     have n2_ := Aside0.mk (blk_below (g := gb327) (o := .cells #[.int .i64 a1_0, .int .i64 a1_1, .int .i64 a1_2, .int .i64 (wrap64 (x5_1 + 1))] 63 (0, 0)) (by (with_reducible repeat (first | refine blk_drewN ?_ _ | refine blk_drew ?_ | refine blk_alloc ?_ _)); exact BK327.out) hb)
                     have n3_ := Aside0.mk (below_step (by repeat (first | (with_reducible first | exact HB.out | apply below_alloc | apply pw_below_drewN | apply below_drew1 | refine below_set ?_ GE327.out) | exact HB.out)) hb)
                     clear HO_7
                     clear BK327
                     clear HB
                     have HO_7 := n0_
                     have HO340 := n1_
                     have BK327 := n2_
                     have HB := n3_
                     clear n0_ n1_ n2_ n3_
                     (try clear hb)
                     (try clear hb2)
                     (try clear hk)
                     (try clear hi)
                     (try clear ho0)
                     refine hK.out _ _ ⟨(blk_cell BK327.out 0).trans rfl, (blk_cell BK327.out 1).trans rfl, (blk_cell BK327.out 2).trans rfl, (blk_cell BK327.out 3).trans rfl⟩ (fun hHeld => ?_)
                     clear hK K
                     refine norm_ (a' := ?_) ?_ ?_
                     rotate_left
                     ·show Act.put _ (some 56) _ = _
                      simp only [Act.put, List.setIfInBounds_toArray, List.set_cons_zero, List.set_cons_succ, i64_w, i32_w]
                      rfl
                     refine one_ (i := 3) (N := some 58) #[true, true, true, true, false, false, false, false, false, false, false] rfl rfl (one_of HT_.out (by kernel_rfl)) (by decide) (fun K hK => ?_)
                     refine Kd.R_lit_step k63 _ 63 ?hg (N := 58) ?hd (xs := ([(⟨a1_0, a1_1, a1_2, wrap64 (x5_1 + 1)⟩ : S63)] : List (S63))) (inner := [.int .i64 a1_0, .int .i64 a1_1, .int .i64 a1_2, .int .i64 (wrap64 (x5_1 + 1))]) (ok := fun _ => True) (okp := fun _ => True) ?hr ?hp (fun _ hk => hk) trivial (Below.refl _ _) (Nat.le_refl _) (by simp) ?_; (case hd => rfl); (case hg => rfl); (case hr => first | (go_simp; done) | (go_simp; rfl)); (case hp => exact (Reps.c4 (show Kd.M k63 _ _ _ (⟨a1_0, a1_1, a1_2, wrap64 (x5_1 + 1)⟩ : S63) [.int .i64 a1_0, .int .i64 a1_1, .int .i64 a1_2, .int .i64 (wrap64 (x5_1 + 1))] from (k63_mkM _ _ _ (⟨a1_0, a1_1, a1_2, wrap64 (x5_1 + 1)⟩ : S63) )) (Reps.none _ _)))
                     intro v342 w52 ho53 hb hg_ hnew_
                     clear hg_ hnew_
                     (first | rw [← Ny341.out] at ho53 | (simp only [Int.reduceToNat] at ho53; rw [← Ny341.out] at ho53))
                     have n0_ := Aside0.mk (Kd.R_elder' (by (with_reducible repeat (first | apply Kd.R_alloc | apply Kd.R_drewN | apply Kd.R_drew)); exact HO_7.out) (Kd.R_base ho53) hb)
                     have n1_ := Aside0.mk (Kd.R_elder' (by (with_reducible repeat (first | apply Kd.R_alloc | apply Kd.R_drewN | apply Kd.R_drew)); exact HO340.out) (Kd.R_base ho53) hb)
                     have n2_ := Aside0.mk (Kd.R_lower (Kd.R_newB (Kd.R_new' (Kd.R_new' ho53 (Kd.R_lt (by (with_reducible repeat (first | apply Kd.R_alloc | apply Kd.R_drewN | apply Kd.R_drew)); exact HO_7.out))) (Kd.R_lt (by (with_reducible repeat (first | apply Kd.R_alloc | apply Kd.R_drewN | apply Kd.R_drew)); exact HO340.out))) (g := gb327) (o := .cells #[.int .i64 a1_0, .int .i64 a1_1, .int .i64 a1_2, .int .i64 (wrap64 (x5_1 + 1))] 63 (0, 0)) (by (with_reducible repeat (first | refine blk_drewN ?_ _ | refine blk_drew ?_ | refine blk_alloc ?_ _)); exact BK327.out)) (below_size (by repeat (first | (with_reducible first | exact HB.out | apply below_alloc | apply pw_below_drewN | apply below_drew1 | refine below_set ?_ GE327.out) | exact HB.out))))
                     have n3_ := Aside0.mk (blk_below (g := gb327) (o := .cells #[.int .i64 a1_0, .int .i64 a1_1, .int .i64 a1_2, .int .i64 (wrap64 (x5_1 + 1))] 63 (0, 0)) (by (with_reducible repeat (first | refine blk_drewN ?_ _ | refine blk_drew ?_ | refine blk_alloc ?_ _)); exact BK327.out) hb)
                     have n4_ := Aside0.mk (below_step (by repeat (first | (with_reducible first | exact HB.out | apply below_alloc | apply pw_below_drewN | apply below_drew1 | refine below_set ?_ GE327.out) | exact HB.out)) hb)
                     clear HO_7
                     clear HO340
                     clear BK327
                     clear HB
                     have HO_7 := n0_
                     have HO340 := n1_
                     have HO343 := n2_
                     have BK327 := n3_
                     have HB := n4_
                     clear n0_ n1_ n2_ n3_ n4_
                     clear hb ho53
                     refine hK.out _ _ ⟨(blk_cell BK327.out 0).trans rfl, (blk_cell BK327.out 1).trans rfl, (blk_cell BK327.out 2).trans rfl, (blk_cell BK327.out 3).trans rfl⟩ (fun hHeld => ?_)
                     clear hK K
                     refine norm_ (a' := ?_) ?_ ?_
                     rotate_left
                     ·show Act.put _ (some 58) _ = _
                      simp only [Act.put, List.setIfInBounds_toArray, List.set_cons_zero, List.set_cons_succ, i64_w, i32_w]
                      rfl
                     exact norm_ (by simp only [putAll, Act.put, List.setIfInBounds_toArray, List.set_cons_zero, List.set_cons_succ]) (hCont (v339, v342) _ ⟨hHeld, (by (with_reducible repeat (first | apply Kd.R_alloc | apply Kd.R_drewN | apply Kd.R_drew)); exact Kd.R_mono HO340.out (fun _ hk => ⟨hk.2, ⟨hk.1.1.2, hk.1.2⟩⟩)), (by (with_reducible repeat (first | apply Kd.R_alloc | apply Kd.R_drewN | apply Kd.R_drew)); exact Kd.R_mono HO343.out (fun _ hk => ⟨hk.1.2, ⟨hk.1.1.2, hk.2⟩⟩)), (by (with_reducible repeat (first | apply Kd.R_alloc | apply Kd.R_drewN | apply Kd.R_drew)); exact Kd.R_mono HO_7.out (fun _ hk => ⟨hk.1.2, ⟨hk.2, hk.1.1⟩⟩)), (by (with_reducible repeat (first | refine blk_drewN ?_ _ | refine blk_drew ?_ | refine blk_alloc ?_ _)); exact BK327.out), (by repeat (first | (with_reducible first | exact HB.out | apply below_alloc | apply pw_below_drewN | apply below_drew1 | refine below_set ?_ GE327.out) | exact HB.out))⟩)
                    ·skip
                     refine Kd.R_lit_step k63 _ 63 ?hg (N := 58) ?hd (xs := ([(⟨a1_0, a1_1, a1_2, wrap64 (x5_1 + 1)⟩ : S63)] : List (S63))) (inner := [.int .i64 a1_0, .int .i64 a1_1, .int .i64 a1_2, .int .i64 (wrap64 (x5_1 + 1))]) (ok := fun _ => True) (okp := fun _ => True) ?hr ?hp (fun _ hk => hk) trivial (Below.refl _ _) (Nat.le_refl _) (by simp) ?_; (case hd => rfl); (case hg => rfl); (case hr => first | (go_simp; done) | (go_simp; rfl)); (case hp => exact (Reps.c4 (show Kd.M k63 _ _ _ (⟨a1_0, a1_1, a1_2, wrap64 (x5_1 + 1)⟩ : S63) [.int .i64 a1_0, .int .i64 a1_1, .int .i64 a1_2, .int .i64 (wrap64 (x5_1 + 1))] from (k63_mkM _ _ _ (⟨a1_0, a1_1, a1_2, wrap64 (x5_1 + 1)⟩ : S63) )) (Reps.none _ _)))
                     intro v342 w51 ho52 hb hg_ hnew_
                     clear hg_ hnew_
                     (first | rw [← Ny341.out] at ho52 | (simp only [Int.reduceToNat] at ho52; rw [← Ny341.out] at ho52))
                     have n0_ := Aside0.mk (Kd.R_elder' (by (with_reducible repeat (first | apply Kd.R_alloc | apply Kd.R_drewN | apply Kd.R_drew)); exact HO_7.out) (Kd.R_base ho52) hb)
                     have n1_ := Aside0.mk (Kd.R_lower (Kd.R_newB (Kd.R_new' ho52 (Kd.R_lt (by (with_reducible repeat (first | apply Kd.R_alloc | apply Kd.R_drewN | apply Kd.R_drew)); exact HO_7.out))) (g := gb327) (o := .cells #[.int .i64 a1_0, .int .i64 a1_1, .int .i64 a1_2, .int .i64 (wrap64 (x5_1 + 1))] 63 (0, 0)) (by (with_reducible repeat (first | refine blk_drewN ?_ _ | refine blk_drew ?_ | refine blk_alloc ?_ _)); exact BK327.out)) (below_size (by repeat (first | (with_reducible first | exact HB.out | apply below_alloc | apply pw_below_drewN | apply below_drew1 | refine below_set ?_ GE327.out) | exact HB.out))))
                     have n2_ := Aside0.mk (blk_below (g := gb327) (o := .cells #[.int .i64 a1_0, .int .i64 a1_1, .int .i64 a1_2, .int .i64 (wrap64 (x5_1 + 1))] 63 (0, 0)) (by (with_reducible repeat (first | refine blk_drewN ?_ _ | refine blk_drew ?_ | refine blk_alloc ?_ _)); exact BK327.out) hb)
                     have n3_ := Aside0.mk (below_step (by repeat (first | (with_reducible first | exact HB.out | apply below_alloc | apply pw_below_drewN | apply below_drew1 | refine below_set ?_ GE327.out) | exact HB.out)) hb)
                     clear HO_7
                     clear BK327
                     clear HB
                     have HO_7 := n0_
                     have HO343 := n1_
                     have BK327 := n2_
                     have HB := n3_
                     clear n0_ n1_ n2_ n3_
                     clear hb ho52
                     refine hK.out _ _ ⟨(blk_cell BK327.out 0).trans rfl, (blk_cell BK327.out 1).trans rfl, (blk_cell BK327.out 2).trans rfl, (blk_cell BK327.out 3).trans rfl⟩ (fun hHeld => ?_)
                     clear hK K
                     refine norm_ (a' := ?_) ?_ ?_
                     rotate_left
                     ·show Act.put _ (some 58) _ = _
                      simp only [Act.put, List.setIfInBounds_toArray, List.set_cons_zero, List.set_cons_succ, i64_w, i32_w]
                      rfl
                     refine one_ (i := 1) (N := some 56) #[true, true, true, true, false, false, false, false, false, false, false] rfl rfl (one_of HT_.out (by kernel_rfl)) (by decide) (fun K hK => ?_)
                     refine goes_ Try.func24 (by kernel_rfl) rfl #[.slice A0 l0.length c0] (by rfl) rfl rfl (by (try simp only [List.map_toArray, List.map_cons, List.map_nil]); first | done | rfl | (simp only [List.length_drop, List.length_take]; rfl)) ?_
                     with_reducible refine (newellaw13_own.calls _ _ l0 t338 _ ?side1 ?side2 A23.out).mono ?_
                     (case side1 => repeat (first | exact (Kd.C_below HR0.out HB.out) | (with_reducible refine Kd.C_alloc ?_ _) | (with_reducible refine Kd.C_drewN ?_ _) | (with_reducible refine Kd.C_drew ?_)))
                     (case side2 => exact HC0.out)
                     rintro e w53 ⟨v339, rfl, ho0, hb⟩
                     refine ⟨_, rfl, ?_⟩
                     have n0_ := Aside0.mk (Kd.R_elder' (by (with_reducible repeat (first | apply Kd.R_alloc | apply Kd.R_drewN | apply Kd.R_drew)); exact HO_7.out) (Kd.R_base ho0) hb)
                     have n1_ := Aside0.mk (Kd.R_elder' (by (with_reducible repeat (first | apply Kd.R_alloc | apply Kd.R_drewN | apply Kd.R_drew)); exact HO343.out) (Kd.R_base ho0) hb)
                     have n2_ := Aside0.mk (Kd.R_lower (Kd.R_newB (Kd.R_new' (Kd.R_new' ho0 (Kd.R_lt (by (with_reducible repeat (first | apply Kd.R_alloc | apply Kd.R_drewN | apply Kd.R_drew)); exact HO_7.out))) (Kd.R_lt (by (with_reducible repeat (first | apply Kd.R_alloc | apply Kd.R_drewN | apply Kd.R_drew)); exact HO343.out))) (g := gb327) (o := .cells #[.int .i64 a1_0, .int .i64 a1_1, .int .i64 a1_2, .int .i64 (wrap64 (x5_1 + 1))] 63 (0, 0)) (by (with_reducible repeat (first | refine blk_drewN ?_ _ | refine blk_drew ?_ | refine blk_alloc ?_ _)); exact BK327.out)) (below_size (by repeat (first | (with_reducible first | exact HB.out | apply below_alloc | apply pw_below_drewN | apply below_drew1 | refine below_set ?_ GE327.out) | exact HB.out))))
                     have n3_ := Aside0.mk (blk_below (g := gb327) (o := .cells #[.int .i64 a1_0, .int .i64 a1_1, .int .i64 a1_2, .int .i64 (wrap64 (x5_1 + 1))] 63 (0, 0)) (by (with_reducible repeat (first | refine blk_drewN ?_ _ | refine blk_drew ?_ | refine blk_alloc ?_ _)); exact BK327.out) hb)
                     have n4_ := Aside0.mk (below_step (by repeat (first | (with_reducible first | exact HB.out | apply below_alloc | apply pw_below_drewN | apply below_drew1 | refine below_set ?_ GE327.out) | exact HB.out)) hb)
                     clear HO_7
                     clear HO343
                     clear BK327
                     clear HB
                     have HO_7 := n0_
                     have HO343 := n1_
                     have HO340 := n2_
                     have BK327 := n3_
                     have HB := n4_
                     clear n0_ n1_ n2_ n3_ n4_
                     (try clear hb)
                     (try clear hb2)
                     (try clear hk)
                     (try clear hi)
                     (try clear ho0)
                     refine hK.out _ _ ⟨(blk_cell BK327.out 0).trans rfl, (blk_cell BK327.out 1).trans rfl, (blk_cell BK327.out 2).trans rfl, (blk_cell BK327.out 3).trans rfl⟩ (fun hHeld => ?_)
                     clear hK K
                     refine norm_ (a' := ?_) ?_ ?_
                     rotate_left
                     ·show Act.put _ (some 56) _ = _
                      simp only [Act.put, List.setIfInBounds_toArray, List.set_cons_zero, List.set_cons_succ, i64_w, i32_w]
                      rfl
                     exact norm_ (by simp only [putAll, Act.put, List.setIfInBounds_toArray, List.set_cons_zero, List.set_cons_succ]) (hCont (v339, v342) _ ⟨hHeld, (by (with_reducible repeat (first | apply Kd.R_alloc | apply Kd.R_drewN | apply Kd.R_drew)); exact Kd.R_mono HO340.out (fun _ hk => ⟨hk.1.2, ⟨hk.1.1.2, hk.2⟩⟩)), (by (with_reducible repeat (first | apply Kd.R_alloc | apply Kd.R_drewN | apply Kd.R_drew)); exact Kd.R_mono HO343.out (fun _ hk => ⟨hk.2, ⟨hk.1.1.2, hk.1.2⟩⟩)), (by (with_reducible repeat (first | apply Kd.R_alloc | apply Kd.R_drewN | apply Kd.R_drew)); exact Kd.R_mono HO_7.out (fun _ hk => ⟨hk.2, ⟨hk.1.2, hk.1.1⟩⟩)), (by (with_reducible repeat (first | refine blk_drewN ?_ _ | refine blk_drew ?_ | refine blk_alloc ?_ _)); exact BK327.out), (by repeat (first | (with_reducible first | exact HB.out | apply below_alloc | apply pw_below_drewN | apply below_drew1 | refine below_set ?_ GE327.out) | exact HB.out))⟩)
                   rintro ⟨v339, v342⟩ w54 ⟨hS_, h0_, h1_, h2_, h3_, h4_⟩
                   have n0_ : Aside0 (Kd.R k63 63 w54 w.heap.size (fun k_ => some k_ ≠ (v342 : Value).ownBlock ∧ some k_ ≠ (v335 : Value).ownBlock ∧ k_ ≠ gb327) v339 t338) := ⟨h0_⟩
                   have n1_ : Aside0 (Kd.R k63 63 w54 w.heap.size (fun k_ => some k_ ≠ (v339 : Value).ownBlock ∧ some k_ ≠ (v335 : Value).ownBlock ∧ k_ ≠ gb327) v342 y341) := ⟨h1_⟩
                   have n2_ : Aside0 (Kd.R k63 63 w54 w.heap.size (fun k_ => some k_ ≠ (v339 : Value).ownBlock ∧ some k_ ≠ (v342 : Value).ownBlock ∧ k_ ≠ gb327) v335 t333) := ⟨h2_⟩
                   have n3_ : Aside0 (w54.heap[gb327]? = some (.cells #[.int .i64 a1_0, .int .i64 a1_1, .int .i64 a1_2, .int .i64 (wrap64 (x5_1 + 1))] 63 (0, 0))) := ⟨h3_⟩
                   have n4_ : Aside0 (Below w.heap.size w w54) := ⟨h4_⟩
                   clear HO_7
                   clear BK327
                   clear HB
                   clear h0_ h1_ h2_ h3_ h4_
                   have HO340 := n0_
                   have HO343 := n1_
                   have HO_7 := n2_
                   have BK327 := n3_
                   have HB := n4_
                   clear n0_ n1_ n2_ n3_ n4_
                   have hHeld : w54.cell? ⟨gb327, 0, none⟩ = some (.int .i64 a1_0) ∧ w54.cell? ⟨gb327, 1, none⟩ = some (.int .i64 a1_1) ∧ w54.cell? ⟨gb327, 2, none⟩ = some (.int .i64 a1_2) ∧ w54.cell? ⟨gb327, 3, none⟩ = some (.int .i64 (wrap64 (x5_1 + 1))) := hS_
                   obtain ⟨Ao56, co56, eo56⟩ := Kd.R_slice HO343.out
                   (first | subst eo56 | (injection eo56 with f1_ f2_ f3_; have f4_ := f1_.symm; have f5_ := f3_.symm; clear f1_ f2_ f3_; subst f4_; subst f5_))
                   refine norm_ (a' := ?_) ?_ ?_
                   rotate_left
                   ·simp only [putAll, Act.put, List.setIfInBounds_toArray, List.set_cons_zero, List.set_cons_succ]
                    rfl
                   refine one_ (i := 4) (N := some 59) #[true, true, true, true, true, false, false, false, false, false, false] rfl rfl (one_of HT_.out (by kernel_rfl)) (by decide) (fun K hK => ?_)
                   refine Kd.R_append_rows_step k63 (w0 := w) w.heap.size (by rfl) (.tmp 56) (.tmp 58) 56 63 (.agg #[(.int .i64 0), (.int .i64 0), (.int .i64 0), (.int .i64 0)]) 32 rfl Try.underlying56 info63 rfl (by decide) (by omega) v339 t338 y341 _ _ _ (fun k_ => some k_ ≠ (v335 : Value).ownBlock ∧ some k_ ≠ (.slice Ao56 y341.length co56 : Value).ownBlock ∧ k_ ≠ gb327) (fun _ => False) rfl rfl ?aO ?aR (fun _ _ h => h) (fun _ h => h.elim) ?aF ?aB ?aS ?aL ?_
                   (case aR => repeat (first | exact (Kd.R_reads' HO343.out).2.2 | (with_reducible refine Kd.C_alloc ?_ _) | (with_reducible refine Kd.C_drewN ?_ _) | (with_reducible refine Kd.C_drew ?_)))
                   (case aB => exact (by repeat (first | (with_reducible first | exact HB.out | apply below_alloc | apply pw_below_drewN | apply below_drew1 | refine below_set ?_ GE327.out) | exact HB.out)))
                   (case aF => exact (fun k_ hk => ⟨Kd.fresh' (Kd.R_lt (by (with_reducible repeat (first | apply Kd.R_alloc | apply Kd.R_drewN | apply Kd.R_drew)); exact HO_7.out)) k_ hk, Kd.fresh' (Kd.R_lt (by (with_reducible repeat (first | apply Kd.R_alloc | apply Kd.R_drewN | apply Kd.R_drew)); exact HO343.out)) k_ hk, Kd.freshB (g := gb327) (o := .cells #[.int .i64 a1_0, .int .i64 a1_1, .int .i64 a1_2, .int .i64 (wrap64 (x5_1 + 1))] 63 (0, 0)) (by (with_reducible repeat (first | refine blk_drewN ?_ _ | refine blk_drew ?_ | refine blk_alloc ?_ _)); exact BK327.out) k_ hk⟩))
                   (case aO => exact (by (with_reducible repeat (first | apply Kd.R_alloc | apply Kd.R_drewN | apply Kd.R_drew)); exact Kd.R_mono HO340.out (fun _ hk => ⟨hk.2.1, ⟨hk.1, hk.2.2⟩⟩)))
                   (case aS => exact (below_size (by repeat (first | (with_reducible first | exact HB.out | apply below_alloc | apply pw_below_drewN | apply below_drew1 | refine below_set ?_ GE327.out) | exact HB.out))))
                   (case aL => have := LMc24.out; omega)
                   intro v345 w55 ho hb hg hat
                   rw [← Ny344.out] at ho
                   have n0_ := Aside0.mk (Kd.R_after (ok := (fun k_ => some k_ ≠ (.slice Ao56 y341.length co56 : Value).ownBlock ∧ k_ ≠ gb327)) (by (with_reducible repeat (first | apply Kd.R_alloc | apply Kd.R_drewN | apply Kd.R_drew)); exact Kd.R_mono HO_7.out (fun _ hk => ⟨⟨hk.2.1, hk.2.2⟩, hk.1⟩)) hg hat)
                   have n1_ := Aside0.mk (blk_grown (g := gb327) (o := .cells #[.int .i64 a1_0, .int .i64 a1_1, .int .i64 a1_2, .int .i64 (wrap64 (x5_1 + 1))] 63 (0, 0)) (by (with_reducible repeat (first | refine blk_drewN ?_ _ | refine blk_drew ?_ | refine blk_alloc ?_ _)); exact BK327.out) hg (Kd.R_away HO340.out (fun _ hk => hk.2.2)))
                   have n2_ := Aside0.mk (Kd.R_after (ok := (fun k_ => some k_ ≠ (v335 : Value).ownBlock ∧ k_ ≠ gb327)) (by (with_reducible repeat (first | apply Kd.R_alloc | apply Kd.R_drewN | apply Kd.R_drew)); exact Kd.R_mono HO343.out (fun _ hk => ⟨⟨hk.2.1, hk.2.2⟩, hk.1⟩)) hg hat)
                   have n3_ := Aside0.mk (hb)
                   have n4_ := Aside0.mk (ho)
                   clear HO_7
                   clear BK327
                   clear HO343
                   clear HB
                   clear HO340
                   have HO_7 := n0_
                   have BK327 := n1_
                   have HO343 := n2_
                   have HB := n3_
                   have HO346 := n4_
                   clear n0_ n1_ n2_ n3_ n4_
                   clear ho hb hg hat
                   obtain ⟨Ao57, co57, eo57⟩ := Kd.R_slice HO346.out
                   (first | subst eo57 | (injection eo57 with f1_ f2_ f3_; have f4_ := f1_.symm; have f5_ := f3_.symm; clear f1_ f2_ f3_; subst f4_; subst f5_))
                   refine hK.out _ _ ⟨(blk_cell BK327.out 0).trans rfl, (blk_cell BK327.out 1).trans rfl, (blk_cell BK327.out 2).trans rfl, (blk_cell BK327.out 3).trans rfl⟩ (fun hHeld => ?_)
                   clear hK K
                   refine norm_ (a' := ?_) ?_ ?_
                   rotate_left
                   ·show Act.put _ (some 59) _ = _
                    simp only [Act.put, List.setIfInBounds_toArray, List.set_cons_zero, List.set_cons_succ, i64_w, i32_w]
                    rfl
                   refine one_ (i := 5) (N := some 60) #[true, true, true, true, true, true, false, false, false, false, false] rfl rfl (one_of HT_.out (by kernel_rfl)) (by decide) (fun K hK => ?_)
                   refine goes_ Try.func23 (by kernel_rfl) rfl #[.slice Ao57 y344.length co57] (by rfl) rfl rfl (by (try simp only [List.map_toArray, List.map_cons, List.map_nil]); first | done | rfl | (simp only [List.length_drop, List.length_take]; rfl)) ?_
                   with_reducible refine (span_Resolve.calls _ _ y344 t347 t348 _ ?side1 ?side2 A25.out).mono ?_
                   (case side1 => repeat (first | exact (Kd.R_reads' HO346.out).2.2 | (with_reducible refine Kd.C_alloc ?_ _) | (with_reducible refine Kd.C_drewN ?_ _) | (with_reducible refine Kd.C_drew ?_)))
                   (case side2 => exact (Kd.R_reads' HO346.out).2.1)
                   rintro e w58 ⟨v349, rfl, ho0, hb⟩
                   refine ⟨_, rfl, ?_⟩
                   have n0_ := Aside0.mk (Kd.R_elder' (by (with_reducible repeat (first | apply Kd.R_alloc | apply Kd.R_drewN | apply Kd.R_drew)); exact HO_7.out) (Kd.R_base ho0) hb)
                   have n1_ := Aside0.mk (Kd.R_elder' (by (with_reducible repeat (first | apply Kd.R_alloc | apply Kd.R_drewN | apply Kd.R_drew)); exact HO343.out) (Kd.R_base ho0) hb)
                   have n2_ := Aside0.mk (Kd.R_elder' (by (with_reducible repeat (first | apply Kd.R_alloc | apply Kd.R_drewN | apply Kd.R_drew)); exact HO346.out) (Kd.R_base ho0) hb)
                   have n3_ := Aside0.mk (Kd.R_lower (Kd.R_newB (Kd.R_new' (Kd.R_new' (Kd.R_new' ho0 (Kd.R_lt (by (with_reducible repeat (first | apply Kd.R_alloc | apply Kd.R_drewN | apply Kd.R_drew)); exact HO_7.out))) (Kd.R_lt (by (with_reducible repeat (first | apply Kd.R_alloc | apply Kd.R_drewN | apply Kd.R_drew)); exact HO343.out))) (Kd.R_lt (by (with_reducible repeat (first | apply Kd.R_alloc | apply Kd.R_drewN | apply Kd.R_drew)); exact HO346.out))) (g := gb327) (o := .cells #[.int .i64 a1_0, .int .i64 a1_1, .int .i64 a1_2, .int .i64 (wrap64 (x5_1 + 1))] 63 (0, 0)) (by (with_reducible repeat (first | refine blk_drewN ?_ _ | refine blk_drew ?_ | refine blk_alloc ?_ _)); exact BK327.out)) (below_size (by repeat (first | (with_reducible first | exact HB.out | apply below_alloc | apply pw_below_drewN | apply below_drew1 | refine below_set ?_ GE327.out) | exact HB.out))))
                   have n4_ := Aside0.mk (blk_below (g := gb327) (o := .cells #[.int .i64 a1_0, .int .i64 a1_1, .int .i64 a1_2, .int .i64 (wrap64 (x5_1 + 1))] 63 (0, 0)) (by (with_reducible repeat (first | refine blk_drewN ?_ _ | refine blk_drew ?_ | refine blk_alloc ?_ _)); exact BK327.out) hb)
                   have n5_ := Aside0.mk (below_step (by repeat (first | (with_reducible first | exact HB.out | apply below_alloc | apply pw_below_drewN | apply below_drew1 | refine below_set ?_ GE327.out) | exact HB.out)) hb)
                   clear HO_7
                   clear HO343
                   clear HO346
                   clear BK327
                   clear HB
                   have HO_7 := n0_
                   have HO343 := n1_
                   have HO346 := n2_
                   have HO350 := n3_
                   have BK327 := n4_
                   have HB := n5_
                   clear n0_ n1_ n2_ n3_ n4_ n5_
                   (try clear hb)
                   (try clear hb2)
                   (try clear hk)
                   (try clear hi)
                   (try clear ho0)
                   refine hK.out _ _ ⟨(blk_cell BK327.out 0).trans rfl, (blk_cell BK327.out 1).trans rfl, (blk_cell BK327.out 2).trans rfl, (blk_cell BK327.out 3).trans rfl⟩ (fun hHeld => ?_)
                   clear hK K
                   refine norm_ (a' := ?_) ?_ ?_
                   rotate_left
                   ·show Act.put _ (some 60) _ = _
                    simp only [Act.put, List.setIfInBounds_toArray, List.set_cons_zero, List.set_cons_succ, i64_w, i32_w]
                    rfl
                   refine pure_ (i := 6) (N := some 54) (v := ?_) (a' := ?_) #[true, true, true, true, true, true, true, false, false, false, false] rfl rfl (any_of HT_.out (by kernel_rfl)) (fun _ _ _ h => h) (Or.inl ⟨by rfl, ?_⟩) ?_ ?_
                   rotate_left
                   ·intro w'
                    go_simp
                    with_reducible rfl
                   rotate_left
                   ·simp only [Act.put, List.setIfInBounds_toArray, List.set_cons_zero, List.set_cons_succ, i64_w, i32_w]
                    rfl
                   refine pure_ (i := 7) (N := some 61) (v := ?_) (a' := ?_) #[true, true, true, true, true, true, true, true, false, false, false] rfl rfl (any_of HT_.out (by kernel_rfl)) (fun _ _ _ h => h) (Or.inl ⟨by rfl, ?_⟩) ?_ ?_
                   rotate_left
                   ·intro w'
                    go_simp
                    with_reducible rfl
                   rotate_left
                   ·simp only [Act.put, List.setIfInBounds_toArray, List.set_cons_zero, List.set_cons_succ, i64_w, i32_w]
                    rfl
                   refine pure_ (i := 8) (N := some 62) (v := ?_) (a' := ?_) #[true, true, true, true, true, true, true, true, true, false, false] rfl rfl (any_of HT_.out (by kernel_rfl)) (fun _ _ _ h => h) (Or.inl ⟨by rfl, ?_⟩) ?_ ?_
                   rotate_left
                   ·intro w'
                    go_simp
                    with_reducible rfl
                   rotate_left
                   ·simp only [Act.put, List.setIfInBounds_toArray, List.set_cons_zero, List.set_cons_succ, i64_w, i32_w]
                    rfl
                   refine pure_ (i := 9) (N := some 9) (v := ?_) (a' := ?_) #[true, true, true, true, true, true, true, true, true, true, false] rfl rfl (any_of HT_.out (by kernel_rfl)) (fun _ _ _ h => h) (Or.inl ⟨by rfl, ?_⟩) ?_ ?_
                   rotate_left
                   ·intro w'
                    go_simp
                    with_reducible rfl
                   rotate_left
                   ·simp only [Act.put, List.setIfInBounds_toArray, List.set_cons_zero, List.set_cons_succ, i64_w, i32_w]
                    rfl
                   refine pure_ (i := 10) (N := some 10) (v := ?_) (a' := ?_) #[true, true, true, true, true, true, true, true, true, true, true] rfl rfl (any_of HT_.out (by kernel_rfl)) (fun _ _ _ h => h) (Or.inl ⟨by rfl, ?_⟩) ?_ ?_
                   rotate_left
                   ·intro w'
                    go_simp
                    with_reducible rfl
                   rotate_left
                   ·simp only [Act.put, List.setIfInBounds_toArray, List.set_cons_zero, List.set_cons_succ, i64_w, i32_w]
                    rfl
                   refine done_ (done_of HT_.out (by kernel_rfl)) ?_
                   have hcz59_0 : w58.cell? ⟨gb327, 0, none⟩ = some (.int .i64 a1_0) := (blk_cell BK327.out 0).trans rfl
                   have hcz59_1 : w58.cell? ⟨gb327, 1, none⟩ = some (.int .i64 a1_1) := (blk_cell BK327.out 1).trans rfl
                   have hcz59_2 : w58.cell? ⟨gb327, 2, none⟩ = some (.int .i64 a1_2) := (blk_cell BK327.out 2).trans rfl
                   have hcz59_3 : w58.cell? ⟨gb327, 3, none⟩ = some (.int .i64 (wrap64 (x5_1 + 1))) := (blk_cell BK327.out 3).trans rfl
                   have hfz59_0 := blk_frozen BK327.out 0
                   have hfz59_1 := blk_frozen BK327.out 1
                   have hfz59_2 := blk_frozen BK327.out 2
                   have hfz59_3 := blk_frozen BK327.out 3
                   try go_wp2_with (first | ((with_reducible refine gate_dst (N := 65) rfl ?_); (try (refine gate_guard (by rfl) ?_; dsimp only)); refine Kd.R_lit k63 _ 63 ?hg (N := 65) ?hd (xs := ([(⟨a1_0, a1_1, a1_2, wrap64 (x5_1 + 1)⟩ : S63)] : List (S63))) (inner := [.int .i64 a1_0, .int .i64 a1_1, .int .i64 a1_2, .int .i64 (wrap64 (x5_1 + 1))]) (ok := fun _ => True) (okp := fun _ => True) ?hr ?hp (fun _ hk => hk) trivial (Below.refl _ _) (Nat.le_refl _) (by simp) ?_; (case hd => rfl); (case hg => rfl); (case hr => first | (go_simp; done) | (go_simp; rfl)); (case hp => exact (Reps.c4 (show Kd.M k63 _ _ _ (⟨a1_0, a1_1, a1_2, wrap64 (x5_1 + 1)⟩ : S63) [.int .i64 a1_0, .int .i64 a1_1, .int .i64 a1_2, .int .i64 (wrap64 (x5_1 + 1))] from (k63_mkM _ _ _ (⟨a1_0, a1_1, a1_2, wrap64 (x5_1 + 1)⟩ : S63) )) (Reps.none _ _))); intro v352 w60 ho61 hb hg_ hnew_; clear hg_ hnew_; (first | rw [← Ny351.out] at ho61 | (simp only [Int.reduceToNat] at ho61; rw [← Ny351.out] at ho61)); have n0_ := Aside0.mk (Kd.R_elder' (by (with_reducible repeat (first | apply Kd.R_alloc | apply Kd.R_drewN | apply Kd.R_drew)); exact HO_7.out) (Kd.R_base ho61) hb); have n1_ := Aside0.mk (Kd.R_elder' (by (with_reducible repeat (first | apply Kd.R_alloc | apply Kd.R_drewN | apply Kd.R_drew)); exact HO343.out) (Kd.R_base ho61) hb); have n2_ := Aside0.mk (Kd.R_elder' (by (with_reducible repeat (first | apply Kd.R_alloc | apply Kd.R_drewN | apply Kd.R_drew)); exact HO346.out) (Kd.R_base ho61) hb); have n3_ := Aside0.mk (Kd.R_elder' (by (with_reducible repeat (first | apply Kd.R_alloc | apply Kd.R_drewN | apply Kd.R_drew)); exact HO350.out) (Kd.R_base ho61) hb); have n4_ := Aside0.mk (Kd.R_lower (Kd.R_newB (Kd.R_new' (Kd.R_new' (Kd.R_new' (Kd.R_new' ho61 (Kd.R_lt (by (with_reducible repeat (first | apply Kd.R_alloc | apply Kd.R_drewN | apply Kd.R_drew)); exact HO_7.out))) (Kd.R_lt (by (with_reducible repeat (first | apply Kd.R_alloc | apply Kd.R_drewN | apply Kd.R_drew)); exact HO343.out))) (Kd.R_lt (by (with_reducible repeat (first | apply Kd.R_alloc | apply Kd.R_drewN | apply Kd.R_drew)); exact HO346.out))) (Kd.R_lt (by (with_reducible repeat (first | apply Kd.R_alloc | apply Kd.R_drewN | apply Kd.R_drew)); exact HO350.out))) (g := gb327) (o := .cells #[.int .i64 a1_0, .int .i64 a1_1, .int .i64 a1_2, .int .i64 (wrap64 (x5_1 + 1))] 63 (0, 0)) (by (with_reducible repeat (first | refine blk_drewN ?_ _ | refine blk_drew ?_ | refine blk_alloc ?_ _)); exact BK327.out)) (below_size (by repeat (first | (with_reducible first | exact HB.out | apply below_alloc | apply pw_below_drewN | apply below_drew1 | refine below_set ?_ GE327.out) | exact HB.out)))); have n5_ := Aside0.mk (blk_below (g := gb327) (o := .cells #[.int .i64 a1_0, .int .i64 a1_1, .int .i64 a1_2, .int .i64 (wrap64 (x5_1 + 1))] 63 (0, 0)) (by (with_reducible repeat (first | refine blk_drewN ?_ _ | refine blk_drew ?_ | refine blk_alloc ?_ _)); exact BK327.out) hb); have n6_ := Aside0.mk (below_step (by repeat (first | (with_reducible first | exact HB.out | apply below_alloc | apply pw_below_drewN | apply below_drew1 | refine below_set ?_ GE327.out) | exact HB.out)) hb); clear HO_7; clear HO343; clear HO346; clear HO350; clear BK327; clear HB; have HO_7 := n0_; have HO343 := n1_; have HO346 := n2_; have HO350 := n3_; have HO353 := n4_; have BK327 := n5_; have HB := n6_; clear n0_ n1_ n2_ n3_ n4_ n5_ n6_; clear hb ho61) | ((with_reducible refine gate_builtin (b := .append) (xs := #[.tmp 65, .tmp 66]) rfl ?_); (try (refine gate_guard (by rfl) ?_; dsimp only)); at_builtin; refine Kd.R_append_rows k63 (w0 := w) w.heap.size rfl (.tmp 65) (.tmp 66) 56 63 (.agg #[(.int .i64 0), (.int .i64 0), (.int .i64 0), (.int .i64 0)]) 32 rfl Try.underlying56 info63 rfl (by decide) (by omega) v352 y351 l0 _ _ _ (fun k_ => some k_ ≠ (v335 : Value).ownBlock ∧ some k_ ≠ (.slice Ao56 y341.length co56 : Value).ownBlock ∧ some k_ ≠ (.slice Ao57 y344.length co57 : Value).ownBlock ∧ some k_ ≠ (v349 : Value).ownBlock ∧ k_ ≠ gb327) (fun _ => False) rfl rfl ?aO ?aR (fun _ _ h => h) (fun _ h => h.elim) ?aF ?aB ?aS ?aL ?_; (case aR => repeat (first | exact (Kd.C_below HR0.out HB.out) | (with_reducible refine Kd.C_alloc ?_ _) | (with_reducible refine Kd.C_drewN ?_ _) | (with_reducible refine Kd.C_drew ?_))); (case aB => exact (by repeat (first | (with_reducible first | exact HB.out | apply below_alloc | apply pw_below_drewN | apply below_drew1 | refine below_set ?_ GE327.out) | exact HB.out))); (case aF => exact (fun k_ hk => ⟨Kd.fresh' (Kd.R_lt (by (with_reducible repeat (first | apply Kd.R_alloc | apply Kd.R_drewN | apply Kd.R_drew)); exact HO_7.out)) k_ hk, Kd.fresh' (Kd.R_lt (by (with_reducible repeat (first | apply Kd.R_alloc | apply Kd.R_drewN | apply Kd.R_drew)); exact HO343.out)) k_ hk, Kd.fresh' (Kd.R_lt (by (with_reducible repeat (first | apply Kd.R_alloc | apply Kd.R_drewN | apply Kd.R_drew)); exact HO346.out)) k_ hk, Kd.fresh' (Kd.R_lt (by (with_reducible repeat (first | apply Kd.R_alloc | apply Kd.R_drewN | apply Kd.R_drew)); exact HO350.out)) k_ hk, Kd.freshB (g := gb327) (o := .cells #[.int .i64 a1_0, .int .i64 a1_1, .int .i64 a1_2, .int .i64 (wrap64 (x5_1 + 1))] 63 (0, 0)) (by (with_reducible repeat (first | refine blk_drewN ?_ _ | refine blk_drew ?_ | refine blk_alloc ?_ _)); exact BK327.out) k_ hk⟩)); (case aO => exact (by (with_reducible repeat (first | apply Kd.R_alloc | apply Kd.R_drewN | apply Kd.R_drew)); exact Kd.R_mono HO353.out (fun _ hk => ⟨hk.1.1.1.1.2, ⟨hk.1.1.1.2, ⟨hk.1.1.2, ⟨hk.1.2, hk.2⟩⟩⟩⟩))); (case aS => exact (below_size (by repeat (first | (with_reducible first | exact HB.out | apply below_alloc | apply pw_below_drewN | apply below_drew1 | refine below_set ?_ GE327.out) | exact HB.out)))); (case aL => have := LMc26.out; omega); intro v355 w62 ho hb hg hat; rw [← Ny354.out] at ho; have n0_ := Aside0.mk (Kd.R_after (ok := (fun k_ => some k_ ≠ (.slice Ao56 y341.length co56 : Value).ownBlock ∧ some k_ ≠ (.slice Ao57 y344.length co57 : Value).ownBlock ∧ some k_ ≠ (v349 : Value).ownBlock ∧ k_ ≠ gb327)) (by (with_reducible repeat (first | apply Kd.R_alloc | apply Kd.R_drewN | apply Kd.R_drew)); exact Kd.R_mono HO_7.out (fun _ hk => ⟨⟨hk.1.1.1.1, ⟨hk.1.1.2, ⟨hk.1.2, hk.1.1.1.2⟩⟩⟩, hk.2⟩)) hg hat); have n1_ := Aside0.mk (blk_grown (g := gb327) (o := .cells #[.int .i64 a1_0, .int .i64 a1_1, .int .i64 a1_2, .int .i64 (wrap64 (x5_1 + 1))] 63 (0, 0)) (by (with_reducible repeat (first | refine blk_drewN ?_ _ | refine blk_drew ?_ | refine blk_alloc ?_ _)); exact BK327.out) hg (Kd.R_away HO353.out (fun _ hk => hk.2))); have n2_ := Aside0.mk (Kd.R_after (ok := (fun k_ => some k_ ≠ (v335 : Value).ownBlock ∧ some k_ ≠ (.slice Ao57 y344.length co57 : Value).ownBlock ∧ some k_ ≠ (v349 : Value).ownBlock ∧ k_ ≠ gb327)) (by (with_reducible repeat (first | apply Kd.R_alloc | apply Kd.R_drewN | apply Kd.R_drew)); exact Kd.R_mono HO343.out (fun _ hk => ⟨⟨hk.1.1.1.1, ⟨hk.1.1.2, ⟨hk.1.2, hk.1.1.1.2⟩⟩⟩, hk.2⟩)) hg hat); have n3_ := Aside0.mk (Kd.R_after (ok := (fun k_ => some k_ ≠ (v335 : Value).ownBlock ∧ some k_ ≠ (.slice Ao56 y341.length co56 : Value).ownBlock ∧ some k_ ≠ (v349 : Value).ownBlock ∧ k_ ≠ gb327)) (by (with_reducible repeat (first | apply Kd.R_alloc | apply Kd.R_drewN | apply Kd.R_drew)); exact Kd.R_mono HO346.out (fun _ hk => ⟨⟨hk.1.1.1, ⟨hk.1.1.2.1, ⟨hk.1.2, hk.1.1.2.2⟩⟩⟩, hk.2⟩)) hg hat); have n4_ := Aside0.mk (Kd.R_after (ok := (fun k_ => some k_ ≠ (v335 : Value).ownBlock ∧ some k_ ≠ (.slice Ao56 y341.length co56 : Value).ownBlock ∧ some k_ ≠ (.slice Ao57 y344.length co57 : Value).ownBlock ∧ k_ ≠ gb327)) (by (with_reducible repeat (first | apply Kd.R_alloc | apply Kd.R_drewN | apply Kd.R_drew)); exact Kd.R_mono HO350.out (fun _ hk => ⟨⟨hk.1.1.1.1.2, ⟨hk.1.1.1.2, ⟨hk.1.1.2, hk.1.2⟩⟩⟩, hk.2⟩)) hg hat); have n5_ := Aside0.mk (hb); have n6_ := Aside0.mk (ho); clear HO_7; clear BK327; clear HO343; clear HO346; clear HO350; clear HB; clear HO353; have HO_7 := n0_; have BK327 := n1_; have HO343 := n2_; have HO346 := n3_; have HO350 := n4_; have HB := n5_; have HO356 := n6_; clear n0_ n1_ n2_ n3_ n4_ n5_ n6_; clear ho hb hg hat; obtain ⟨Ao63, co63, eo63⟩ := Kd.R_slice HO356.out; subst eo63) | ((with_reducible refine gate_callee (f := 23) rfl ?_); refine goesL_ (some 68) rfl rfl Try.func23 (by kernel_rfl) rfl #[.slice Ao63 y354.length co63] rfl (by (try simp only [List.map_toArray, List.map_cons, List.map_nil]); first | done | rfl | (simp only [List.length_drop, List.length_take]; rfl)) ?_; (with_reducible refine (span_Resolve.calls _ _ y354 t357 t358 _ ?side1 ?side2 A27.out).mono ?_); (case side1 => repeat (first | exact (Kd.R_reads' HO356.out).2.2 | (with_reducible refine Kd.C_alloc ?_ _) | (with_reducible refine Kd.C_drewN ?_ _) | (with_reducible refine Kd.C_drew ?_))); (case side2 => exact (Kd.R_reads' HO356.out).2.1); rintro e w64 ⟨v359, rfl, ho0, hb⟩; refine ⟨_, rfl, ?_⟩; have n0_ := Aside0.mk (Kd.R_elder' (by (with_reducible repeat (first | apply Kd.R_alloc | apply Kd.R_drewN | apply Kd.R_drew)); exact HO_7.out) (Kd.R_base ho0) hb); have n1_ := Aside0.mk (Kd.R_elder' (by (with_reducible repeat (first | apply Kd.R_alloc | apply Kd.R_drewN | apply Kd.R_drew)); exact HO343.out) (Kd.R_base ho0) hb); have n2_ := Aside0.mk (Kd.R_elder' (by (with_reducible repeat (first | apply Kd.R_alloc | apply Kd.R_drewN | apply Kd.R_drew)); exact HO346.out) (Kd.R_base ho0) hb); have n3_ := Aside0.mk (Kd.R_elder' (by (with_reducible repeat (first | apply Kd.R_alloc | apply Kd.R_drewN | apply Kd.R_drew)); exact HO350.out) (Kd.R_base ho0) hb); have n4_ := Aside0.mk (Kd.R_elder' (by (with_reducible repeat (first | apply Kd.R_alloc | apply Kd.R_drewN | apply Kd.R_drew)); exact HO356.out) (Kd.R_base ho0) hb); have n5_ := Aside0.mk (Kd.R_lower (Kd.R_newB (Kd.R_new' (Kd.R_new' (Kd.R_new' (Kd.R_new' (Kd.R_new' ho0 (Kd.R_lt (by (with_reducible repeat (first | apply Kd.R_alloc | apply Kd.R_drewN | apply Kd.R_drew)); exact HO_7.out))) (Kd.R_lt (by (with_reducible repeat (first | apply Kd.R_alloc | apply Kd.R_drewN | apply Kd.R_drew)); exact HO343.out))) (Kd.R_lt (by (with_reducible repeat (first | apply Kd.R_alloc | apply Kd.R_drewN | apply Kd.R_drew)); exact HO346.out))) (Kd.R_lt (by (with_reducible repeat (first | apply Kd.R_alloc | apply Kd.R_drewN | apply Kd.R_drew)); exact HO350.out))) (Kd.R_lt (by (with_reducible repeat (first | apply Kd.R_alloc | apply Kd.R_drewN | apply Kd.R_drew)); exact HO356.out))) (g := gb327) (o := .cells #[.int .i64 a1_0, .int .i64 a1_1, .int .i64 a1_2, .int .i64 (wrap64 (x5_1 + 1))] 63 (0, 0)) (by (with_reducible repeat (first | refine blk_drewN ?_ _ | refine blk_drew ?_ | refine blk_alloc ?_ _)); exact BK327.out)) (below_size (by repeat (first | (with_reducible first | exact HB.out | apply below_alloc | apply pw_below_drewN | apply below_drew1 | refine below_set ?_ GE327.out) | exact HB.out)))); have n6_ := Aside0.mk (blk_below (g := gb327) (o := .cells #[.int .i64 a1_0, .int .i64 a1_1, .int .i64 a1_2, .int .i64 (wrap64 (x5_1 + 1))] 63 (0, 0)) (by (with_reducible repeat (first | refine blk_drewN ?_ _ | refine blk_drew ?_ | refine blk_alloc ?_ _)); exact BK327.out) hb); have n7_ := Aside0.mk (below_step (by repeat (first | (with_reducible first | exact HB.out | apply below_alloc | apply pw_below_drewN | apply below_drew1 | refine below_set ?_ GE327.out) | exact HB.out)) hb); clear HO_7; clear HO343; clear HO346; clear HO350; clear HO356; clear BK327; clear HB; have HO_7 := n0_; have HO343 := n1_; have HO346 := n2_; have HO350 := n3_; have HO356 := n4_; have HO360 := n5_; have BK327 := n6_; have HB := n7_; clear n0_ n1_ n2_ n3_ n4_ n5_ n6_ n7_; (try clear hb); (try clear hb2); (try clear hk); (try clear hi); (try clear ho0)))
                   have n0_ := Aside0.mk (Kd.R_drew HO_7.out)
                   have n1_ := Aside0.mk (Kd.R_drew HO343.out)
                   have n2_ := Aside0.mk (Kd.R_drew HO346.out)
                   have n3_ := Aside0.mk (Kd.R_drew HO350.out)
                   have n4_ := Aside0.mk (Kd.R_drew HO356.out)
                   have n5_ := Aside0.mk (Kd.R_drew HO360.out)
                   have n6_ := Aside0.mk (blk_drew BK327.out)
                   have n7_ := Aside0.mk (below_drew1 HB.out)
                   clear HO_7
                   clear HO343
                   clear HO346
                   clear HO350
                   clear HO356
                   clear HO360
                   clear BK327
                   clear HB
                   have HO_7 := n0_
                   have HO343 := n1_
                   have HO346 := n2_
                   have HO350 := n3_
                   have HO356 := n4_
                   have HO360 := n5_
                   have BK327 := n6_
                   have HB := n7_
                   clear n0_ n1_ n2_ n3_ n4_ n5_ n6_ n7_
                   obtain ⟨Ao66, co66, eo66⟩ := Kd.R_slice HO350.out
                   (first | subst eo66 | (injection eo66 with f1_ f2_ f3_; have f4_ := f1_.symm; have f5_ := f3_.symm; clear f1_ f2_ f3_; subst f4_; subst f5_))
                   refine start_ (n := 8) (S := fun w' => w'.cell? ⟨gb327, 0, none⟩ = some (.int .i64 a1_0) ∧ w'.cell? ⟨gb327, 1, none⟩ = some (.int .i64 a1_1) ∧ w'.cell? ⟨gb327, 2, none⟩ = some (.int .i64 a1_2) ∧ w'.cell? ⟨gb327, 3, none⟩ = some (.int .i64 (wrap64 (x5_1 + 1)))) (ds := []) #[false, false, false, false, false, false, false, false] (by kernel_rfl) rfl rfl ⟨(blk_cell BK327.out 0).trans rfl, (blk_cell BK327.out 1).trans rfl, (blk_cell BK327.out 2).trans rfl, (blk_cell BK327.out 3).trans rfl⟩ (fun hHeld => ?_); refine with_tabW newellaw13_SpanTurned.tab14 newellaw13_SpanTurned.bits14 (fun HT_ HW_ => ?_)
                   generalize w64.drew = w65 at HO_7 HO343 HO346 HO350 HO356 HO360 BK327 HB hHeld ⊢
                   refine pure_ (i := 0) (N := some 71) (v := ?_) (a' := ?_) #[true, false, false, false, false, false, false, false] rfl rfl (any_of HT_.out (by kernel_rfl)) (fun _ _ _ h => h) (Or.inl ⟨by rfl, ?_⟩) ?_ ?_
                   rotate_left
                   ·intro w'
                    go_simp
                    with_reducible rfl
                   rotate_left
                   ·simp only [Act.put, List.setIfInBounds_toArray, List.set_cons_zero, List.set_cons_succ, i64_w, i32_w]
                    rfl
                   refine pure_ (i := 2) (N := some 73) (v := ?_) (a' := ?_) #[true, false, true, false, false, false, false, false] rfl rfl (any_of HT_.out (by kernel_rfl)) (fun _ _ _ h => h) (Or.inl ⟨by rfl, ?_⟩) ?_ ?_
                   rotate_left
                   ·intro w'
                    go_simp
                    with_reducible rfl
                   rotate_left
                   ·simp only [Act.put, List.setIfInBounds_toArray, List.set_cons_zero, List.set_cons_succ, i64_w, i32_w]
                    rfl
                   refine pure_ (i := 4) (N := some 75) (v := ?_) (a' := ?_) #[true, false, true, false, true, false, false, false] rfl rfl (any_of HT_.out (by kernel_rfl)) (fun _ _ _ h => h) (Or.inl ⟨by rfl, ?_⟩) ?_ ?_
                   rotate_left
                   ·intro w'
                    go_simp
                    with_reducible rfl
                   rotate_left
                   ·simp only [Act.put, List.setIfInBounds_toArray, List.set_cons_zero, List.set_cons_succ, i64_w, i32_w]
                    rfl
                   refine take_ (i := 3) (N := some 74) (v := ?_) (a' := ?_) #[true, false, true, true, true, false, false, false] rfl rfl (take_ofW HT_.out HW_.out (by kernel_rfl)) (fun _ _ _ h => h) (Or.inl ⟨by rfl, ?_⟩) hHeld ?_ ?_
                   rotate_left
                   ·rintro w' ⟨s0, s1, s2, s3⟩
                    go_simp
                    with_reducible rfl
                   rotate_left
                   ·simp only [Act.put, List.setIfInBounds_toArray, List.set_cons_zero, List.set_cons_succ, i64_w, i32_w]
                    rfl
                   refine take_ (i := 5) (N := some 76) (v := ?_) (a' := ?_) #[true, false, true, true, true, true, false, false] rfl rfl (take_ofW HT_.out HW_.out (by kernel_rfl)) (fun _ _ _ h => h) (Or.inl ⟨by rfl, ?_⟩) hHeld ?_ ?_
                   rotate_left
                   ·rintro w' ⟨s0, s1, s2, s3⟩
                    go_simp
                    with_reducible rfl
                   rotate_left
                   ·simp only [Act.put, List.setIfInBounds_toArray, List.set_cons_zero, List.set_cons_succ, i64_w, i32_w]
                    rfl
                   refine one_ (i := 1) (N := some 72) #[true, true, true, true, true, true, false, false] rfl rfl (one_of HT_.out (by kernel_rfl)) (by decide) (fun K hK => ?_)
                   refine goes_ Try.func24 (by kernel_rfl) rfl #[.slice Ao66 t347.length co66] (by rfl) rfl rfl (by (try simp only [List.map_toArray, List.map_cons, List.map_nil]); first | done | rfl | (simp only [List.length_drop, List.length_take]; rfl)) ?_
                   with_reducible refine (newellaw13_own.calls _ _ t347 t361 _ ?side1 ?side2 A28.out).mono ?_
                   (case side1 => repeat (first | exact (Kd.R_reads' HO350.out).2.2 | (with_reducible refine Kd.C_alloc ?_ _) | (with_reducible refine Kd.C_drewN ?_ _) | (with_reducible refine Kd.C_drew ?_)))
                   (case side2 => exact (Kd.R_reads' HO350.out).2.1)
                   rintro e w67 ⟨v362, rfl, ho0, hb⟩
                   refine ⟨_, rfl, ?_⟩
                   have n0_ := Aside0.mk (Kd.R_elder' (by (with_reducible repeat (first | apply Kd.R_alloc | apply Kd.R_drewN | apply Kd.R_drew)); exact HO_7.out) (Kd.R_base ho0) hb)
                   have n1_ := Aside0.mk (Kd.R_elder' (by (with_reducible repeat (first | apply Kd.R_alloc | apply Kd.R_drewN | apply Kd.R_drew)); exact HO343.out) (Kd.R_base ho0) hb)
                   have n2_ := Aside0.mk (Kd.R_elder' (by (with_reducible repeat (first | apply Kd.R_alloc | apply Kd.R_drewN | apply Kd.R_drew)); exact HO346.out) (Kd.R_base ho0) hb)
                   have n3_ := Aside0.mk (Kd.R_elder' (by (with_reducible repeat (first | apply Kd.R_alloc | apply Kd.R_drewN | apply Kd.R_drew)); exact HO350.out) (Kd.R_base ho0) hb)
                   have n4_ := Aside0.mk (Kd.R_elder' (by (with_reducible repeat (first | apply Kd.R_alloc | apply Kd.R_drewN | apply Kd.R_drew)); exact HO356.out) (Kd.R_base ho0) hb)
                   have n5_ := Aside0.mk (Kd.R_elder' (by (with_reducible repeat (first | apply Kd.R_alloc | apply Kd.R_drewN | apply Kd.R_drew)); exact HO360.out) (Kd.R_base ho0) hb)
                   have n6_ := Aside0.mk (Kd.R_lower (Kd.R_newB (Kd.R_new' (Kd.R_new' (Kd.R_new' (Kd.R_new' (Kd.R_new' (Kd.R_new' ho0 (Kd.R_lt (by (with_reducible repeat (first | apply Kd.R_alloc | apply Kd.R_drewN | apply Kd.R_drew)); exact HO_7.out))) (Kd.R_lt (by (with_reducible repeat (first | apply Kd.R_alloc | apply Kd.R_drewN | apply Kd.R_drew)); exact HO343.out))) (Kd.R_lt (by (with_reducible repeat (first | apply Kd.R_alloc | apply Kd.R_drewN | apply Kd.R_drew)); exact HO346.out))) (Kd.R_lt (by (with_reducible repeat (first | apply Kd.R_alloc | apply Kd.R_drewN | apply Kd.R_drew)); exact HO350.out))) (Kd.R_lt (by (with_reducible repeat (first | apply Kd.R_alloc | apply Kd.R_drewN | apply Kd.R_drew)); exact HO356.out))) (Kd.R_lt (by (with_reducible repeat (first | apply Kd.R_alloc | apply Kd.R_drewN | apply Kd.R_drew)); exact HO360.out))) (g := gb327) (o := .cells #[.int .i64 a1_0, .int .i64 a1_1, .int .i64 a1_2, .int .i64 (wrap64 (x5_1 + 1))] 63 (0, 0)) (by (with_reducible repeat (first | refine blk_drewN ?_ _ | refine blk_drew ?_ | refine blk_alloc ?_ _)); exact BK327.out)) (below_size (by repeat (first | (with_reducible first | exact HB.out | apply below_alloc | apply pw_below_drewN | apply below_drew1 | refine below_set ?_ GE327.out) | exact HB.out))))
                   have n7_ := Aside0.mk (blk_below (g := gb327) (o := .cells #[.int .i64 a1_0, .int .i64 a1_1, .int .i64 a1_2, .int .i64 (wrap64 (x5_1 + 1))] 63 (0, 0)) (by (with_reducible repeat (first | refine blk_drewN ?_ _ | refine blk_drew ?_ | refine blk_alloc ?_ _)); exact BK327.out) hb)
                   have n8_ := Aside0.mk (below_step (by repeat (first | (with_reducible first | exact HB.out | apply below_alloc | apply pw_below_drewN | apply below_drew1 | refine below_set ?_ GE327.out) | exact HB.out)) hb)
                   clear HO_7
                   clear HO343
                   clear HO346
                   clear HO350
                   clear HO356
                   clear HO360
                   clear BK327
                   clear HB
                   have HO_7 := n0_
                   have HO343 := n1_
                   have HO346 := n2_
                   have HO350 := n3_
                   have HO356 := n4_
                   have HO360 := n5_
                   have HO363 := n6_
                   have BK327 := n7_
                   have HB := n8_
                   clear n0_ n1_ n2_ n3_ n4_ n5_ n6_ n7_ n8_
                   (try clear hb)
                   (try clear hb2)
                   (try clear hk)
                   (try clear hi)
                   (try clear ho0)
                   obtain ⟨Ao68, co68, eo68⟩ := Kd.R_slice HO363.out
                   (first | subst eo68 | (injection eo68 with f1_ f2_ f3_; have f4_ := f1_.symm; have f5_ := f3_.symm; clear f1_ f2_ f3_; subst f4_; subst f5_))
                   refine hK.out _ _ ⟨(blk_cell BK327.out 0).trans rfl, (blk_cell BK327.out 1).trans rfl, (blk_cell BK327.out 2).trans rfl, (blk_cell BK327.out 3).trans rfl⟩ (fun hHeld => ?_)
                   clear hK K
                   refine norm_ (a' := ?_) ?_ ?_
                   rotate_left
                   ·show Act.put _ (some 72) _ = _
                    simp only [Act.put, List.setIfInBounds_toArray, List.set_cons_zero, List.set_cons_succ, i64_w, i32_w]
                    rfl
                   refine one_ (i := 6) (N := some 77) #[true, true, true, true, true, true, true, false] rfl rfl (one_of HT_.out (by kernel_rfl)) (by decide) (fun K hK => ?_)
                   refine goes_ Try.func30 (by kernel_rfl) rfl #[.slice Ao68 t361.length co68, .int .i64 a1_0, .int .i64 a1_1] (by rfl) rfl rfl (by (try simp only [List.map_toArray, List.map_cons, List.map_nil]); first | done | rfl | (simp only [List.length_drop, List.length_take]; rfl)) ?_
                   with_reducible refine (span_Cut.calls _ _ t361 a1_0 a1_1 t364 _ ?side1 ?side2 A29.out).mono ?_
                   (case side1 => repeat (first | exact (Kd.R_reads' HO363.out).2.2 | (with_reducible refine Kd.C_alloc ?_ _) | (with_reducible refine Kd.C_drewN ?_ _) | (with_reducible refine Kd.C_drew ?_)))
                   (case side2 => exact (Kd.R_reads' HO363.out).2.1)
                   rintro e w69 ⟨v365, rfl, ho0, hb⟩
                   refine ⟨_, rfl, ?_⟩
                   have n0_ := Aside0.mk (Kd.R_elder' (by (with_reducible repeat (first | apply Kd.R_alloc | apply Kd.R_drewN | apply Kd.R_drew)); exact HO_7.out) (Kd.R_base ho0) hb)
                   have n1_ := Aside0.mk (Kd.R_elder' (by (with_reducible repeat (first | apply Kd.R_alloc | apply Kd.R_drewN | apply Kd.R_drew)); exact HO343.out) (Kd.R_base ho0) hb)
                   have n2_ := Aside0.mk (Kd.R_elder' (by (with_reducible repeat (first | apply Kd.R_alloc | apply Kd.R_drewN | apply Kd.R_drew)); exact HO346.out) (Kd.R_base ho0) hb)
                   have n3_ := Aside0.mk (Kd.R_elder' (by (with_reducible repeat (first | apply Kd.R_alloc | apply Kd.R_drewN | apply Kd.R_drew)); exact HO350.out) (Kd.R_base ho0) hb)
                   have n4_ := Aside0.mk (Kd.R_elder' (by (with_reducible repeat (first | apply Kd.R_alloc | apply Kd.R_drewN | apply Kd.R_drew)); exact HO356.out) (Kd.R_base ho0) hb)
                   have n5_ := Aside0.mk (Kd.R_elder' (by (with_reducible repeat (first | apply Kd.R_alloc | apply Kd.R_drewN | apply Kd.R_drew)); exact HO360.out) (Kd.R_base ho0) hb)
                   have n6_ := Aside0.mk (Kd.R_elder' (by (with_reducible repeat (first | apply Kd.R_alloc | apply Kd.R_drewN | apply Kd.R_drew)); exact HO363.out) (Kd.R_base ho0) hb)
                   have n7_ := Aside0.mk (Kd.R_lower (Kd.R_newB (Kd.R_new' (Kd.R_new' (Kd.R_new' (Kd.R_new' (Kd.R_new' (Kd.R_new' (Kd.R_new' ho0 (Kd.R_lt (by (with_reducible repeat (first | apply Kd.R_alloc | apply Kd.R_drewN | apply Kd.R_drew)); exact HO_7.out))) (Kd.R_lt (by (with_reducible repeat (first | apply Kd.R_alloc | apply Kd.R_drewN | apply Kd.R_drew)); exact HO343.out))) (Kd.R_lt (by (with_reducible repeat (first | apply Kd.R_alloc | apply Kd.R_drewN | apply Kd.R_drew)); exact HO346.out))) (Kd.R_lt (by (with_reducible repeat (first | apply Kd.R_alloc | apply Kd.R_drewN | apply Kd.R_drew)); exact HO350.out))) (Kd.R_lt (by (with_reducible repeat (first | apply Kd.R_alloc | apply Kd.R_drewN | apply Kd.R_drew)); exact HO356.out))) (Kd.R_lt (by (with_reducible repeat (first | apply Kd.R_alloc | apply Kd.R_drewN | apply Kd.R_drew)); exact HO360.out))) (Kd.R_lt (by (with_reducible repeat (first | apply Kd.R_alloc | apply Kd.R_drewN | apply Kd.R_drew)); exact HO363.out))) (g := gb327) (o := .cells #[.int .i64 a1_0, .int .i64 a1_1, .int .i64 a1_2, .int .i64 (wrap64 (x5_1 + 1))] 63 (0, 0)) (by (with_reducible repeat (first | refine blk_drewN ?_ _ | refine blk_drew ?_ | refine blk_alloc ?_ _)); exact BK327.out)) (below_size (by repeat (first | (with_reducible first | exact HB.out | apply below_alloc | apply pw_below_drewN | apply below_drew1 | refine below_set ?_ GE327.out) | exact HB.out))))
                   have n8_ := Aside0.mk (blk_below (g := gb327) (o := .cells #[.int .i64 a1_0, .int .i64 a1_1, .int .i64 a1_2, .int .i64 (wrap64 (x5_1 + 1))] 63 (0, 0)) (by (with_reducible repeat (first | refine blk_drewN ?_ _ | refine blk_drew ?_ | refine blk_alloc ?_ _)); exact BK327.out) hb)
                   have n9_ := Aside0.mk (below_step (by repeat (first | (with_reducible first | exact HB.out | apply below_alloc | apply pw_below_drewN | apply below_drew1 | refine below_set ?_ GE327.out) | exact HB.out)) hb)
                   clear HO_7
                   clear HO343
                   clear HO346
                   clear HO350
                   clear HO356
                   clear HO360
                   clear HO363
                   clear BK327
                   clear HB
                   have HO_7 := n0_
                   have HO343 := n1_
                   have HO346 := n2_
                   have HO350 := n3_
                   have HO356 := n4_
                   have HO360 := n5_
                   have HO363 := n6_
                   have HO366 := n7_
                   have BK327 := n8_
                   have HB := n9_
                   clear n0_ n1_ n2_ n3_ n4_ n5_ n6_ n7_ n8_ n9_
                   (try clear hb)
                   (try clear hb2)
                   (try clear hk)
                   (try clear hi)
                   (try clear ho0)
                   refine hK.out _ _ ⟨(blk_cell BK327.out 0).trans rfl, (blk_cell BK327.out 1).trans rfl, (blk_cell BK327.out 2).trans rfl, (blk_cell BK327.out 3).trans rfl⟩ (fun hHeld => ?_)
                   clear hK K
                   refine norm_ (a' := ?_) ?_ ?_
                   rotate_left
                   ·show Act.put _ (some 77) _ = _
                    simp only [Act.put, List.setIfInBounds_toArray, List.set_cons_zero, List.set_cons_succ, i64_w, i32_w]
                    rfl
                   refine pure_ (i := 7) (N := some 13) (v := ?_) (a' := ?_) #[true, true, true, true, true, true, true, true] rfl rfl (any_of HT_.out (by kernel_rfl)) (fun _ _ _ h => h) (Or.inl ⟨by rfl, ?_⟩) ?_ ?_
                   rotate_left
                   ·intro w'
                    go_simp
                    with_reducible rfl
                   rotate_left
                   ·simp only [Act.put, List.setIfInBounds_toArray, List.set_cons_zero, List.set_cons_succ, i64_w, i32_w]
                    rfl
                   refine done_ (done_of HT_.out (by kernel_rfl)) ?_
                   try go_wp2
                   have n0_ := Aside0.mk (Kd.R_drew HO_7.out)
                   have n1_ := Aside0.mk (Kd.R_drew HO343.out)
                   have n2_ := Aside0.mk (Kd.R_drew HO346.out)
                   have n3_ := Aside0.mk (Kd.R_drew HO350.out)
                   have n4_ := Aside0.mk (Kd.R_drew HO356.out)
                   have n5_ := Aside0.mk (Kd.R_drew HO360.out)
                   have n6_ := Aside0.mk (Kd.R_drew HO363.out)
                   have n7_ := Aside0.mk (Kd.R_drew HO366.out)
                   have n8_ := Aside0.mk (blk_drew BK327.out)
                   have n9_ := Aside0.mk (below_drew1 HB.out)
                   clear HO_7
                   clear HO343
                   clear HO346
                   clear HO350
                   clear HO356
                   clear HO360
                   clear HO363
                   clear HO366
                   clear BK327
                   clear HB
                   have HO_7 := n0_
                   have HO343 := n1_
                   have HO346 := n2_
                   have HO350 := n3_
                   have HO356 := n4_
                   have HO360 := n5_
                   have HO363 := n6_
                   have HO366 := n7_
                   have BK327 := n8_
                   have HB := n9_
                   clear n0_ n1_ n2_ n3_ n4_ n5_ n6_ n7_ n8_ n9_
                   obtain ⟨Aq366, cq366, eq366⟩ := Kd.R_slice HO366.out
                   (first | subst eq366 | (injection eq366 with f1_ f2_ f3_; have f4_ := f1_.symm; have f5_ := f3_.symm; clear f1_ f2_ f3_; subst f4_; subst f5_))
                   have p369 : 0 ≤ (0 : Int) := (by omega)
                   have q369 : 0 < (t364.length : Int) := of_decide_eq_true (by first | (with_reducible assumption) | assumption)
                   obtain ⟨ad369, e369, hx369_0, hx369_1, hx369_2, hx369_3⟩ := at_T63 (Kd.R_reads' HO366.out).2.2 0 p369 q369
                   cases e369
                   have qi369 : (0 < t364.length) = True := eq_true (by omega)
                   (try rw [show ((0 : Int)).toNat = 0 from rfl] at hx369_0)
                   (try rw [show 0 * 4 = 0 from rfl] at hx369_0)
                   (try rw [Addr.add_zero'] at hx369_0)
                   (try rw [show ((0 : Int)).toNat = 0 from rfl] at hx369_1)
                   (try rw [show 0 * 4 = 0 from rfl] at hx369_1)
                   (try rw [Addr.add_zero'] at hx369_1)
                   (try rw [show ((0 : Int)).toNat = 0 from rfl] at hx369_2)
                   (try rw [show 0 * 4 = 0 from rfl] at hx369_2)
                   (try rw [Addr.add_zero'] at hx369_2)
                   (try rw [show ((0 : Int)).toNat = 0 from rfl] at hx369_3)
                   (try rw [show 0 * 4 = 0 from rfl] at hx369_3)
                   (try rw [Addr.add_zero'] at hx369_3)
                   replace p369 := eq_true p369
                   replace q369 := eq_true q369
                   have p370 : 0 ≤ (0 : Int) := (by omega)
                   have q370 : 0 < (t364.length : Int) := of_decide_eq_true (by first | (with_reducible assumption) | assumption)
                   obtain ⟨ad370, e370, hx370_0, hx370_1, hx370_2, hx370_3⟩ := at_T63 (Kd.R_reads' HO366.out).2.2 0 p370 q370
                   obtain rfl : ad369 = ad370 := (by injection e370)
                   have qi370 : (0 < t364.length) = True := eq_true (by omega)
                   (try rw [show ((0 : Int)).toNat = 0 from rfl] at hx370_0)
                   (try rw [show 0 * 4 = 0 from rfl] at hx370_0)
                   (try rw [Addr.add_zero'] at hx370_0)
                   (try rw [show ((0 : Int)).toNat = 0 from rfl] at hx370_1)
                   (try rw [show 0 * 4 = 0 from rfl] at hx370_1)
                   (try rw [Addr.add_zero'] at hx370_1)
                   (try rw [show ((0 : Int)).toNat = 0 from rfl] at hx370_2)
                   (try rw [show 0 * 4 = 0 from rfl] at hx370_2)
                   (try rw [Addr.add_zero'] at hx370_2)
                   (try rw [show ((0 : Int)).toNat = 0 from rfl] at hx370_3)
                   (try rw [show 0 * 4 = 0 from rfl] at hx370_3)
                   (try rw [Addr.add_zero'] at hx370_3)
                   replace p370 := eq_true p370
                   replace q370 := eq_true q370
                   have p371 : 0 ≤ (0 : Int) := (by omega)
                   have q371 : 0 < (t364.length : Int) := of_decide_eq_true (by first | (with_reducible assumption) | assumption)
                   obtain ⟨ad371, e371, hx371_0, hx371_1, hx371_2, hx371_3⟩ := at_T63 (Kd.R_reads' HO366.out).2.2 0 p371 q371
                   obtain rfl : ad369 = ad371 := (by injection e371)
                   have qi371 : (0 < t364.length) = True := eq_true (by omega)
                   (try rw [show ((0 : Int)).toNat = 0 from rfl] at hx371_0)
                   (try rw [show 0 * 4 = 0 from rfl] at hx371_0)
                   (try rw [Addr.add_zero'] at hx371_0)
                   (try rw [show ((0 : Int)).toNat = 0 from rfl] at hx371_1)
                   (try rw [show 0 * 4 = 0 from rfl] at hx371_1)
                   (try rw [Addr.add_zero'] at hx371_1)
                   (try rw [show ((0 : Int)).toNat = 0 from rfl] at hx371_2)
                   (try rw [show 0 * 4 = 0 from rfl] at hx371_2)
                   (try rw [Addr.add_zero'] at hx371_2)
                   (try rw [show ((0 : Int)).toNat = 0 from rfl] at hx371_3)
                   (try rw [show 0 * 4 = 0 from rfl] at hx371_3)
                   (try rw [Addr.add_zero'] at hx371_3)
                   replace p371 := eq_true p371
                   replace q371 := eq_true q371
                   refine start_ (n := 62) (S := fun w' => w'.cell? ⟨gb327, 0, none⟩ = some (.int .i64 a1_0) ∧ w'.cell? ⟨gb327, 1, none⟩ = some (.int .i64 a1_1) ∧ w'.cell? ⟨gb327, 2, none⟩ = some (.int .i64 a1_2) ∧ w'.cell? ⟨gb327, 3, none⟩ = some (.int .i64 (wrap64 (x5_1 + 1))) ∧ w'.cell? ad369 = some (.int .i64 ((rd_T63 t364 0).f0)) ∧ w'.cell? ⟨ad369.block, ad369.off + 1, none⟩ = some (.int .i64 ((rd_T63 t364 0).f1)) ∧ w'.cell? ⟨ad369.block, ad369.off + 2, none⟩ = some (.int .i64 ((rd_T63 t364 0).f2)) ∧ w'.cell? ⟨ad369.block, ad369.off + 3, none⟩ = some (.int .i64 ((rd_T63 t364 0).f3)) ∧ w'.cell? ad369 = some (.int .i64 ((rd_T63 t364 0).f0)) ∧ w'.cell? ⟨ad369.block, ad369.off + 1, none⟩ = some (.int .i64 ((rd_T63 t364 0).f1)) ∧ w'.cell? ⟨ad369.block, ad369.off + 2, none⟩ = some (.int .i64 ((rd_T63 t364 0).f2)) ∧ w'.cell? ⟨ad369.block, ad369.off + 3, none⟩ = some (.int .i64 ((rd_T63 t364 0).f3)) ∧ w'.cell? ad369 = some (.int .i64 ((rd_T63 t364 0).f0)) ∧ w'.cell? ⟨ad369.block, ad369.off + 1, none⟩ = some (.int .i64 ((rd_T63 t364 0).f1)) ∧ w'.cell? ⟨ad369.block, ad369.off + 2, none⟩ = some (.int .i64 ((rd_T63 t364 0).f2)) ∧ w'.cell? ⟨ad369.block, ad369.off + 3, none⟩ = some (.int .i64 ((rd_T63 t364 0).f3))) (ds := []) #[false, false, false, false, false, false, false, false, false, false, false, false, false, false, false, false, false, false, false, false, false, false, false, false, false, false, false, false, false, false, false, false, false, false, false, false, false, false, false, false, false, false, false, false, false, false, false, false, false, false, false, false, false, false, false, false, false, false, false, false, false, false] (by kernel_rfl) rfl rfl ⟨(blk_cell BK327.out 0).trans rfl, (blk_cell BK327.out 1).trans rfl, (blk_cell BK327.out 2).trans rfl, (blk_cell BK327.out 3).trans rfl, hx369_0, hx369_1, hx369_2, hx369_3, hx370_0, hx370_1, hx370_2, hx370_3, hx371_0, hx371_1, hx371_2, hx371_3⟩ (fun hHeld => ?_); refine with_tabW newellaw13_SpanTurned.tab15 newellaw13_SpanTurned.bits15 (fun HT_ HW_ => ?_)
                   generalize w69.drew = w70 at HO_7 HO343 HO346 HO350 HO356 HO360 HO363 HO366 BK327 HB hx369_0 hx369_1 hx369_2 hx369_3 hx370_0 hx370_1 hx370_2 hx370_3 hx371_0 hx371_1 hx371_2 hx371_3 hHeld ⊢
                   refine one_ (i := 0) (N := some 78) #[true, false, false, false, false, false, false, false, false, false, false, false, false, false, false, false, false, false, false, false, false, false, false, false, false, false, false, false, false, false, false, false, false, false, false, false, false, false, false, false, false, false, false, false, false, false, false, false, false, false, false, false, false, false, false, false, false, false, false, false, false, false] rfl rfl (one_of HT_.out (by kernel_rfl)) (by decide) (fun K hK => ?_)
                   refine goes_ Try.func22 (by kernel_rfl) rfl #[] (by rfl) rfl rfl (by (try simp only [List.map_toArray, List.map_cons, List.map_nil]); first | done | rfl | (simp only [List.length_drop, List.length_take]; rfl)) ?_
                   with_reducible refine (newellaw13_awake.calls kj12  true _ A30.out).mono ?_
                   rintro e w71 ⟨rfl, hb⟩
                   have HS4_ := (hb.cell (World.block_lt_of_cell? _ _ (hHeld.2.2.2.2.1))).trans (hHeld.2.2.2.2.1)
                   have HS5_ := (hb.cell (World.block_lt_of_cell? _ _ (hHeld.2.2.2.2.2.1))).trans (hHeld.2.2.2.2.2.1)
                   have HS6_ := (hb.cell (World.block_lt_of_cell? _ _ (hHeld.2.2.2.2.2.2.1))).trans (hHeld.2.2.2.2.2.2.1)
                   have HS7_ := (hb.cell (World.block_lt_of_cell? _ _ (hHeld.2.2.2.2.2.2.2.1))).trans (hHeld.2.2.2.2.2.2.2.1)
                   have HS8_ := (hb.cell (World.block_lt_of_cell? _ _ (hHeld.2.2.2.2.2.2.2.2.1))).trans (hHeld.2.2.2.2.2.2.2.2.1)
                   have HS9_ := (hb.cell (World.block_lt_of_cell? _ _ (hHeld.2.2.2.2.2.2.2.2.2.1))).trans (hHeld.2.2.2.2.2.2.2.2.2.1)
                   have HS10_ := (hb.cell (World.block_lt_of_cell? _ _ (hHeld.2.2.2.2.2.2.2.2.2.2.1))).trans (hHeld.2.2.2.2.2.2.2.2.2.2.1)
                   have HS11_ := (hb.cell (World.block_lt_of_cell? _ _ (hHeld.2.2.2.2.2.2.2.2.2.2.2.1))).trans (hHeld.2.2.2.2.2.2.2.2.2.2.2.1)
                   have HS12_ := (hb.cell (World.block_lt_of_cell? _ _ (hHeld.2.2.2.2.2.2.2.2.2.2.2.2.1))).trans (hHeld.2.2.2.2.2.2.2.2.2.2.2.2.1)
                   have HS13_ := (hb.cell (World.block_lt_of_cell? _ _ (hHeld.2.2.2.2.2.2.2.2.2.2.2.2.2.1))).trans (hHeld.2.2.2.2.2.2.2.2.2.2.2.2.2.1)
                   have HS14_ := (hb.cell (World.block_lt_of_cell? _ _ (hHeld.2.2.2.2.2.2.2.2.2.2.2.2.2.2.1))).trans (hHeld.2.2.2.2.2.2.2.2.2.2.2.2.2.2.1)
                   have HS15_ := (hb.cell (World.block_lt_of_cell? _ _ (hHeld.2.2.2.2.2.2.2.2.2.2.2.2.2.2.2))).trans (hHeld.2.2.2.2.2.2.2.2.2.2.2.2.2.2.2)
                   refine ⟨_, rfl, ?_⟩
                   have n0_ := Aside0.mk (Kd.R_below (by (with_reducible repeat (first | apply Kd.R_alloc | apply Kd.R_drewN | apply Kd.R_drew)); exact HO_7.out) hb)
                   have n1_ := Aside0.mk (Kd.R_below (by (with_reducible repeat (first | apply Kd.R_alloc | apply Kd.R_drewN | apply Kd.R_drew)); exact HO343.out) hb)
                   have n2_ := Aside0.mk (Kd.R_below (by (with_reducible repeat (first | apply Kd.R_alloc | apply Kd.R_drewN | apply Kd.R_drew)); exact HO346.out) hb)
                   have n3_ := Aside0.mk (Kd.R_below (by (with_reducible repeat (first | apply Kd.R_alloc | apply Kd.R_drewN | apply Kd.R_drew)); exact HO350.out) hb)
                   have n4_ := Aside0.mk (Kd.R_below (by (with_reducible repeat (first | apply Kd.R_alloc | apply Kd.R_drewN | apply Kd.R_drew)); exact HO356.out) hb)
                   have n5_ := Aside0.mk (Kd.R_below (by (with_reducible repeat (first | apply Kd.R_alloc | apply Kd.R_drewN | apply Kd.R_drew)); exact HO360.out) hb)
                   have n6_ := Aside0.mk (Kd.R_below (by (with_reducible repeat (first | apply Kd.R_alloc | apply Kd.R_drewN | apply Kd.R_drew)); exact HO363.out) hb)
                   have n7_ := Aside0.mk (Kd.R_below (by (with_reducible repeat (first | apply Kd.R_alloc | apply Kd.R_drewN | apply Kd.R_drew)); exact HO366.out) hb)
                   have n8_ := Aside0.mk (blk_below (g := gb327) (o := .cells #[.int .i64 a1_0, .int .i64 a1_1, .int .i64 a1_2, .int .i64 (wrap64 (x5_1 + 1))] 63 (0, 0)) (by (with_reducible repeat (first | refine blk_drewN ?_ _ | refine blk_drew ?_ | refine blk_alloc ?_ _)); exact BK327.out) hb)
                   have n9_ := Aside0.mk (below_step (by repeat (first | (with_reducible first | exact HB.out | apply below_alloc | apply pw_below_drewN | apply below_drew1 | refine below_set ?_ GE327.out) | exact HB.out)) hb)
                   clear HO_7
                   clear HO343
                   clear HO346
                   clear HO350
                   clear HO356
                   clear HO360
                   clear HO363
                   clear HO366
                   clear BK327
                   clear HB
                   have HO_7 := n0_
                   have HO343 := n1_
                   have HO346 := n2_
                   have HO350 := n3_
                   have HO356 := n4_
                   have HO360 := n5_
                   have HO363 := n6_
                   have HO366 := n7_
                   have BK327 := n8_
                   have HB := n9_
                   clear n0_ n1_ n2_ n3_ n4_ n5_ n6_ n7_ n8_ n9_
                   (try clear hb)
                   (try clear hb2)
                   (try clear hk)
                   (try clear hi)
                   obtain ⟨Ao72, co72, eo72⟩ := Kd.R_slice HO360.out
                   (first | subst eo72 | (injection eo72 with f1_ f2_ f3_; have f4_ := f1_.symm; have f5_ := f3_.symm; clear f1_ f2_ f3_; subst f4_; subst f5_))
                   refine hK.out _ _ ⟨(blk_cell BK327.out 0).trans rfl, (blk_cell BK327.out 1).trans rfl, (blk_cell BK327.out 2).trans rfl, (blk_cell BK327.out 3).trans rfl, HS4_, HS5_, HS6_, HS7_, HS8_, HS9_, HS10_, HS11_, HS12_, HS13_, HS14_, HS15_⟩ (fun hHeld => ?_)
                   clear hK K
                   refine norm_ (a' := ?_) ?_ ?_
                   rotate_left
                   ·show Act.put _ (some 78) _ = _
                    simp only [Act.put, List.setIfInBounds_toArray, List.set_cons_zero, List.set_cons_succ, i64_w, i32_w]
                    rfl
                   refine pure_ (i := 1) (N := some 79) (v := ?_) (a' := ?_) #[true, true, false, false, false, false, false, false, false, false, false, false, false, false, false, false, false, false, false, false, false, false, false, false, false, false, false, false, false, false, false, false, false, false, false, false, false, false, false, false, false, false, false, false, false, false, false, false, false, false, false, false, false, false, false, false, false, false, false, false, false, false] rfl rfl (any_of HT_.out (by kernel_rfl)) (fun _ _ _ h => h) (Or.inl ⟨by rfl, ?_⟩) ?_ ?_
                   rotate_left
                   ·intro w'
                    go_simp
                    with_reducible rfl
                   rotate_left
                   ·simp only [Act.put, List.setIfInBounds_toArray, List.set_cons_zero, List.set_cons_succ, i64_w, i32_w]
                    rfl
                   refine pure_ (i := 2) (N := some 80) (v := ?_) (a' := ?_) #[true, true, true, false, false, false, false, false, false, false, false, false, false, false, false, false, false, false, false, false, false, false, false, false, false, false, false, false, false, false, false, false, false, false, false, false, false, false, false, false, false, false, false, false, false, false, false, false, false, false, false, false, false, false, false, false, false, false, false, false, false, false] rfl rfl (any_of HT_.out (by kernel_rfl)) (fun _ _ _ h => h) (Or.inl ⟨by rfl, ?_⟩) ?_ ?_
                   rotate_left
                   ·intro w'
                    go_simp
                    with_reducible rfl
                   rotate_left
                   ·simp only [Act.put, List.setIfInBounds_toArray, List.set_cons_zero, List.set_cons_succ, i64_w, i32_w]
                    rfl
                   refine pure_ (i := 3) (N := some 81) (v := ?_) (a' := ?_) #[true, true, true, true, false, false, false, false, false, false, false, false, false, false, false, false, false, false, false, false, false, false, false, false, false, false, false, false, false, false, false, false, false, false, false, false, false, false, false, false, false, false, false, false, false, false, false, false, false, false, false, false, false, false, false, false, false, false, false, false, false, false] rfl rfl (any_of HT_.out (by kernel_rfl)) (fun _ _ _ h => h) (Or.inl ⟨by rfl, ?_⟩) ?_ ?_
                   rotate_left
                   ·intro w'
                    go_simp
                    with_reducible rfl
                   rotate_left
                   ·simp only [Act.put, List.setIfInBounds_toArray, List.set_cons_zero, List.set_cons_succ, i64_w, i32_w]
                    rfl
                   refine pure_ (i := 4) (N := some 82) (v := ?_) (a' := ?_) #[true, true, true, true, true, false, false, false, false, false, false, false, false, false, false, false, false, false, false, false, false, false, false, false, false, false, false, false, false, false, false, false, false, false, false, false, false, false, false, false, false, false, false, false, false, false, false, false, false, false, false, false, false, false, false, false, false, false, false, false, false, false] rfl rfl (any_of HT_.out (by kernel_rfl)) (fun _ _ _ h => h) (Or.inl ⟨by rfl, ?_⟩) ?_ ?_
                   rotate_left
                   ·intro w'
                    go_simp
                    with_reducible rfl
                   rotate_left
                   ·simp only [Act.put, List.setIfInBounds_toArray, List.set_cons_zero, List.set_cons_succ, i64_w, i32_w]
                    rfl
                   refine pure_ (i := 5) (N := some 83) (v := ?_) (a' := ?_) #[true, true, true, true, true, true, false, false, false, false, false, false, false, false, false, false, false, false, false, false, false, false, false, false, false, false, false, false, false, false, false, false, false, false, false, false, false, false, false, false, false, false, false, false, false, false, false, false, false, false, false, false, false, false, false, false, false, false, false, false, false, false] rfl rfl (any_of HT_.out (by kernel_rfl)) (fun _ _ _ h => h) (Or.inl ⟨by rfl, ?_⟩) ?_ ?_
                   rotate_left
                   ·intro w'
                    go_simp
                    with_reducible rfl
                   rotate_left
                   ·simp only [Act.put, List.setIfInBounds_toArray, List.set_cons_zero, List.set_cons_succ, i64_w, i32_w]
                    rfl
                   refine pure_ (i := 6) (N := some 84) (v := ?_) (a' := ?_) #[true, true, true, true, true, true, true, false, false, false, false, false, false, false, false, false, false, false, false, false, false, false, false, false, false, false, false, false, false, false, false, false, false, false, false, false, false, false, false, false, false, false, false, false, false, false, false, false, false, false, false, false, false, false, false, false, false, false, false, false, false, false] rfl rfl (any_of HT_.out (by kernel_rfl)) (fun _ _ _ h => h) (Or.inl ⟨by rfl, ?_⟩) ?_ ?_
                   rotate_left
                   ·intro w'
                    go_simp
                    with_reducible rfl
                   rotate_left
                   ·simp only [Act.put, List.setIfInBounds_toArray, List.set_cons_zero, List.set_cons_succ, i64_w, i32_w]
                    rfl
                   refine pure_ (i := 7) (N := some 85) (v := ?_) (a' := ?_) #[true, true, true, true, true, true, true, true, false, false, false, false, false, false, false, false, false, false, false, false, false, false, false, false, false, false, false, false, false, false, false, false, false, false, false, false, false, false, false, false, false, false, false, false, false, false, false, false, false, false, false, false, false, false, false, false, false, false, false, false, false, false] rfl rfl (any_of HT_.out (by kernel_rfl)) (fun _ _ _ h => h) (Or.inl ⟨by rfl, ?_⟩) ?_ ?_
                   rotate_left
                   ·intro w'
                    go_simp
                    with_reducible rfl
                   rotate_left
                   ·simp only [Act.put, List.setIfInBounds_toArray, List.set_cons_zero, List.set_cons_succ, i64_w, i32_w]
                    rfl
                   refine pure_ (i := 8) (N := some 86) (v := ?_) (a' := ?_) #[true, true, true, true, true, true, true, true, true, false, false, false, false, false, false, false, false, false, false, false, false, false, false, false, false, false, false, false, false, false, false, false, false, false, false, false, false, false, false, false, false, false, false, false, false, false, false, false, false, false, false, false, false, false, false, false, false, false, false, false, false, false] rfl rfl (any_of HT_.out (by kernel_rfl)) (fun _ _ _ h => h) (Or.inl ⟨by rfl, ?_⟩) ?_ ?_
                   rotate_left
                   ·intro w'
                    go_simp
                    with_reducible rfl
                   rotate_left
                   ·simp only [Act.put, List.setIfInBounds_toArray, List.set_cons_zero, List.set_cons_succ, i64_w, i32_w]
                    rfl
                   refine pure_ (i := 9) (N := some 87) (v := ?_) (a' := ?_) #[true, true, true, true, true, true, true, true, true, true, false, false, false, false, false, false, false, false, false, false, false, false, false, false, false, false, false, false, false, false, false, false, false, false, false, false, false, false, false, false, false, false, false, false, false, false, false, false, false, false, false, false, false, false, false, false, false, false, false, false, false, false] rfl rfl (any_of HT_.out (by kernel_rfl)) (fun _ _ _ h => h) (Or.inl ⟨by rfl, ?_⟩) ?_ ?_
                   rotate_left
                   ·intro w'
                    go_simp
                    with_reducible rfl
                   rotate_left
                   ·simp only [Act.put, List.setIfInBounds_toArray, List.set_cons_zero, List.set_cons_succ, i64_w, i32_w]
                    rfl
                   refine pure_ (i := 10) (N := some 88) (v := ?_) (a' := ?_) #[true, true, true, true, true, true, true, true, true, true, true, false, false, false, false, false, false, false, false, false, false, false, false, false, false, false, false, false, false, false, false, false, false, false, false, false, false, false, false, false, false, false, false, false, false, false, false, false, false, false, false, false, false, false, false, false, false, false, false, false, false, false] rfl rfl (any_of HT_.out (by kernel_rfl)) (fun _ _ _ h => h) (Or.inl ⟨by rfl, ?_⟩) ?_ ?_
                   rotate_left
                   ·intro w'
                    go_simp
                    with_reducible rfl
                   rotate_left
                   ·simp only [Act.put, List.setIfInBounds_toArray, List.set_cons_zero, List.set_cons_succ, i64_w, i32_w]
                    rfl
                   refine pure_ (i := 11) (N := some 89) (v := ?_) (a' := ?_) #[true, true, true, true, true, true, true, true, true, true, true, true, false, false, false, false, false, false, false, false, false, false, false, false, false, false, false, false, false, false, false, false, false, false, false, false, false, false, false, false, false, false, false, false, false, false, false, false, false, false, false, false, false, false, false, false, false, false, false, false, false, false] rfl rfl (any_of HT_.out (by kernel_rfl)) (fun _ _ _ h => h) (Or.inl ⟨by rfl, ?_⟩) ?_ ?_
                   rotate_left
                   ·intro w'
                    go_simp
                    with_reducible rfl
                   rotate_left
                   ·simp only [Act.put, List.setIfInBounds_toArray, List.set_cons_zero, List.set_cons_succ, i64_w, i32_w]
                    rfl
                   refine one_ (i := 12) (N := some 90) #[true, true, true, true, true, true, true, true, true, true, true, true, true, false, false, false, false, false, false, false, false, false, false, false, false, false, false, false, false, false, false, false, false, false, false, false, false, false, false, false, false, false, false, false, false, false, false, false, false, false, false, false, false, false, false, false, false, false, false, false, false, false] rfl rfl (one_of HT_.out (by kernel_rfl)) (by decide) (fun K hK => ?_)
                   refine goes_ Try.func26 (by kernel_rfl) rfl #[.slice Ao66 t347.length co66, .slice Ao72 t357.length co72] (by rfl) rfl rfl (by (try simp only [List.map_toArray, List.map_cons, List.map_nil]); first | done | rfl | (simp only [List.length_drop, List.length_take]; rfl)) ?_
                   with_reducible refine (newelref13_Same.calls kj12 _ _ t347 _ _ t357 true _ ?side1 ?side2 ?side3 ?side4 A34.out).mono ?_
                   (case side1 => repeat (first | exact (Kd.R_reads' HO350.out).2.2 | (with_reducible refine Kd.C_alloc ?_ _) | (with_reducible refine Kd.C_drewN ?_ _) | (with_reducible refine Kd.C_drew ?_)))
                   (case side2 => exact (Kd.R_reads' HO350.out).2.1)
                   (case side3 => repeat (first | exact (Kd.R_reads' HO360.out).2.2 | (with_reducible refine Kd.C_alloc ?_ _) | (with_reducible refine Kd.C_drewN ?_ _) | (with_reducible refine Kd.C_drew ?_)))
                   (case side4 => exact (Kd.R_reads' HO360.out).2.1)
                   rintro e w' ⟨rfl, ⟨nd, rfl⟩⟩
                   refine ⟨_, rfl, ?_⟩
                   obtain ⟨Ao73, co73, eo73⟩ := Kd.R_slice HO366.out
                   (first | subst eo73 | (injection eo73 with f1_ f2_ f3_; have f4_ := f1_.symm; have f5_ := f3_.symm; clear f1_ f2_ f3_; subst f4_; subst f5_))
                   refine hK.out _ _ ⟨(blk_cell BK327.out 0).trans rfl, (blk_cell BK327.out 1).trans rfl, (blk_cell BK327.out 2).trans rfl, (blk_cell BK327.out 3).trans rfl, hHeld.2.2.2.2.1, hHeld.2.2.2.2.2.1, hHeld.2.2.2.2.2.2.1, hHeld.2.2.2.2.2.2.2.1, hHeld.2.2.2.2.2.2.2.2.1, hHeld.2.2.2.2.2.2.2.2.2.1, hHeld.2.2.2.2.2.2.2.2.2.2.1, hHeld.2.2.2.2.2.2.2.2.2.2.2.1, hHeld.2.2.2.2.2.2.2.2.2.2.2.2.1, hHeld.2.2.2.2.2.2.2.2.2.2.2.2.2.1, hHeld.2.2.2.2.2.2.2.2.2.2.2.2.2.2.1, hHeld.2.2.2.2.2.2.2.2.2.2.2.2.2.2.2⟩ (fun hHeld => ?_)
                   clear hK K
                   refine norm_ (a' := ?_) ?_ ?_
                   rotate_left
                   ·show Act.put _ (some 90) _ = _
                    simp only [Act.put, List.setIfInBounds_toArray, List.set_cons_zero, List.set_cons_succ, i64_w, i32_w]
                    rfl
                   refine pure_ (i := 13) (N := some 91) (v := ?_) (a' := ?_) #[true, true, true, true, true, true, true, true, true, true, true, true, true, true, false, false, false, false, false, false, false, false, false, false, false, false, false, false, false, false, false, false, false, false, false, false, false, false, false, false, false, false, false, false, false, false, false, false, false, false, false, false, false, false, false, false, false, false, false, false, false, false] rfl rfl (any_of HT_.out (by kernel_rfl)) (fun _ _ _ h => h) (Or.inl ⟨by rfl, ?_⟩) ?_ ?_
                   rotate_left
                   ·intro w'
                    go_simp
                    with_reducible rfl
                   rotate_left
                   ·simp only [Act.put, List.setIfInBounds_toArray, List.set_cons_zero, List.set_cons_succ, i64_w, i32_w]
                    rfl
                   refine pure_ (i := 14) (N := some 92) (v := ?_) (a' := ?_) #[true, true, true, true, true, true, true, true, true, true, true, true, true, true, true, false, false, false, false, false, false, false, false, false, false, false, false, false, false, false, false, false, false, false, false, false, false, false, false, false, false, false, false, false, false, false, false, false, false, false, false, false, false, false, false, false, false, false, false, false, false, false] rfl rfl (any_of HT_.out (by kernel_rfl)) (fun _ _ _ h => h) (Or.inl ⟨by rfl, ?_⟩) ?_ ?_
                   rotate_left
                   ·intro w'
                    go_simp
                    with_reducible rfl
                   rotate_left
                   ·simp only [Act.put, List.setIfInBounds_toArray, List.set_cons_zero, List.set_cons_succ, i64_w, i32_w]
                    rfl
                   refine pure_ (i := 15) (N := some 93) (v := ?_) (a' := ?_) #[true, true, true, true, true, true, true, true, true, true, true, true, true, true, true, true, false, false, false, false, false, false, false, false, false, false, false, false, false, false, false, false, false, false, false, false, false, false, false, false, false, false, false, false, false, false, false, false, false, false, false, false, false, false, false, false, false, false, false, false, false, false] rfl rfl (any_of HT_.out (by kernel_rfl)) (fun _ _ _ h => h) (Or.inl ⟨by rfl, ?_⟩) ?_ ?_
                   rotate_left
                   ·intro w'
                    go_simp
                    with_reducible rfl
                   rotate_left
                   ·simp only [Act.put, List.setIfInBounds_toArray, List.set_cons_zero, List.set_cons_succ, i64_w, i32_w]
                    rfl
                   refine pure_ (i := 16) (N := some 94) (v := ?_) (a' := ?_) #[true, true, true, true, true, true, true, true, true, true, true, true, true, true, true, true, true, false, false, false, false, false, false, false, false, false, false, false, false, false, false, false, false, false, false, false, false, false, false, false, false, false, false, false, false, false, false, false, false, false, false, false, false, false, false, false, false, false, false, false, false, false] rfl rfl (any_of HT_.out (by kernel_rfl)) (fun _ _ _ h => h) (Or.inl ⟨by rfl, ?_⟩) ?_ ?_
                   rotate_left
                   ·intro w'
                    go_simp
                    with_reducible rfl
                   rotate_left
                   ·simp only [Act.put, List.setIfInBounds_toArray, List.set_cons_zero, List.set_cons_succ, i64_w, i32_w]
                    rfl
                   refine pure_ (i := 17) (N := some 95) (v := ?_) (a' := ?_) #[true, true, true, true, true, true, true, true, true, true, true, true, true, true, true, true, true, true, false, false, false, false, false, false, false, false, false, false, false, false, false, false, false, false, false, false, false, false, false, false, false, false, false, false, false, false, false, false, false, false, false, false, false, false, false, false, false, false, false, false, false, false] rfl rfl (any_of HT_.out (by kernel_rfl)) (fun _ _ _ h => h) (Or.inl ⟨by rfl, ?_⟩) ?_ ?_
                   rotate_left
                   ·intro w'
                    go_simp
                    with_reducible rfl
                   rotate_left
                   ·simp only [Act.put, List.setIfInBounds_toArray, List.set_cons_zero, List.set_cons_succ, i64_w, i32_w]
                    rfl
                   refine pure_ (i := 18) (N := some 96) (v := ?_) (a' := ?_) #[true, true, true, true, true, true, true, true, true, true, true, true, true, true, true, true, true, true, true, false, false, false, false, false, false, false, false, false, false, false, false, false, false, false, false, false, false, false, false, false, false, false, false, false, false, false, false, false, false, false, false, false, false, false, false, false, false, false, false, false, false, false] rfl rfl (any_of HT_.out (by kernel_rfl)) (fun _ _ _ h => h) (Or.inl ⟨by rfl, ?_⟩) ?_ ?_
                   rotate_left
                   ·intro w'
                    go_simp
                    with_reducible rfl
                   rotate_left
                   ·simp only [Act.put, List.setIfInBounds_toArray, List.set_cons_zero, List.set_cons_succ, i64_w, i32_w]
                    rfl
                   refine pure_ (i := 19) (N := some 97) (v := ?_) (a' := ?_) #[true, true, true, true, true, true, true, true, true, true, true, true, true, true, true, true, true, true, true, true, false, false, false, false, false, false, false, false, false, false, false, false, false, false, false, false, false, false, false, false, false, false, false, false, false, false, false, false, false, false, false, false, false, false, false, false, false, false, false, false, false, false] rfl rfl (any_of HT_.out (by kernel_rfl)) (fun _ _ _ h => h) (Or.inl ⟨by rfl, ?_⟩) ?_ ?_
                   rotate_left
                   ·intro w'
                    go_simp
                    with_reducible rfl
                   rotate_left
                   ·simp only [Act.put, List.setIfInBounds_toArray, List.set_cons_zero, List.set_cons_succ, i64_w, i32_w]
                    rfl
                   refine pure_ (i := 20) (N := some 98) (v := ?_) (a' := ?_) #[true, true, true, true, true, true, true, true, true, true, true, true, true, true, true, true, true, true, true, true, true, false, false, false, false, false, false, false, false, false, false, false, false, false, false, false, false, false, false, false, false, false, false, false, false, false, false, false, false, false, false, false, false, false, false, false, false, false, false, false, false, false] rfl rfl (any_of HT_.out (by kernel_rfl)) (fun _ _ _ h => h) (Or.inl ⟨by rfl, ?_⟩) ?_ ?_
                   rotate_left
                   ·intro w'
                    go_simp
                    with_reducible rfl
                   rotate_left
                   ·simp only [Act.put, List.setIfInBounds_toArray, List.set_cons_zero, List.set_cons_succ, i64_w, i32_w]
                    rfl
                   refine pure_ (i := 21) (N := some 99) (v := ?_) (a' := ?_) #[true, true, true, true, true, true, true, true, true, true, true, true, true, true, true, true, true, true, true, true, true, true, false, false, false, false, false, false, false, false, false, false, false, false, false, false, false, false, false, false, false, false, false, false, false, false, false, false, false, false, false, false, false, false, false, false, false, false, false, false, false, false] rfl rfl (any_of HT_.out (by kernel_rfl)) (fun _ _ _ h => h) (Or.inl ⟨by rfl, ?_⟩) ?_ ?_
                   rotate_left
                   ·intro w'
                    go_simp
                    with_reducible rfl
                   rotate_left
                   ·simp only [Act.put, List.setIfInBounds_toArray, List.set_cons_zero, List.set_cons_succ, i64_w, i32_w]
                    rfl
                   refine pure_ (i := 22) (N := some 100) (v := ?_) (a' := ?_) #[true, true, true, true, true, true, true, true, true, true, true, true, true, true, true, true, true, true, true, true, true, true, true, false, false, false, false, false, false, false, false, false, false, false, false, false, false, false, false, false, false, false, false, false, false, false, false, false, false, false, false, false, false, false, false, false, false, false, false, false, false, false] rfl rfl (any_of HT_.out (by kernel_rfl)) (fun _ _ _ h => h) (Or.inl ⟨by rfl, ?_⟩) ?_ ?_
                   rotate_left
                   ·intro w'
                    go_simp
                    with_reducible rfl
                   rotate_left
                   ·simp only [Act.put, List.setIfInBounds_toArray, List.set_cons_zero, List.set_cons_succ, i64_w, i32_w]
                    rfl
                   refine pure_ (i := 24) (N := some 102) (v := ?_) (a' := ?_) #[true, true, true, true, true, true, true, true, true, true, true, true, true, true, true, true, true, true, true, true, true, true, true, false, true, false, false, false, false, false, false, false, false, false, false, false, false, false, false, false, false, false, false, false, false, false, false, false, false, false, false, false, false, false, false, false, false, false, false, false, false, false] rfl rfl (any_of HT_.out (by kernel_rfl)) (fun _ _ _ h => h) (Or.inl ⟨by rfl, ?_⟩) ?_ ?_
                   rotate_left
                   ·intro w'
                    go_simp
                    with_reducible rfl
                   rotate_left
                   ·simp only [Act.put, List.setIfInBounds_toArray, List.set_cons_zero, List.set_cons_succ, i64_w, i32_w]
                    rfl
                   refine take_ (i := 23) (N := some 101) (v := ?_) (a' := ?_) #[true, true, true, true, true, true, true, true, true, true, true, true, true, true, true, true, true, true, true, true, true, true, true, true, true, false, false, false, false, false, false, false, false, false, false, false, false, false, false, false, false, false, false, false, false, false, false, false, false, false, false, false, false, false, false, false, false, false, false, false, false, false] rfl rfl (take_ofW HT_.out HW_.out (by kernel_rfl)) (fun _ _ _ h => h) (Or.inl ⟨by rfl, ?_⟩) hHeld ?_ ?_
                   rotate_left
                   ·rintro w' ⟨s0, s1, s2, s3, s4, s5, s6, s7, s8, s9, s10, s11, s12, s13, s14, s15⟩
                    go_simp
                    with_reducible rfl
                   rotate_left
                   ·simp only [Act.put, List.setIfInBounds_toArray, List.set_cons_zero, List.set_cons_succ, i64_w, i32_w]
                    rfl
                   refine take_ (i := 25) (N := some 103) (v := ?_) (a' := ?_) #[true, true, true, true, true, true, true, true, true, true, true, true, true, true, true, true, true, true, true, true, true, true, true, true, true, true, false, false, false, false, false, false, false, false, false, false, false, false, false, false, false, false, false, false, false, false, false, false, false, false, false, false, false, false, false, false, false, false, false, false, false, false] rfl rfl (take_ofW HT_.out HW_.out (by kernel_rfl)) (fun _ _ _ h => h) (Or.inl ⟨by rfl, ?_⟩) hHeld ?_ ?_
                   rotate_left
                   ·rintro w' ⟨s0, s1, s2, s3, s4, s5, s6, s7, s8, s9, s10, s11, s12, s13, s14, s15⟩
                    go_simp
                    with_reducible rfl
                   rotate_left
                   ·simp only [Act.put, List.setIfInBounds_toArray, List.set_cons_zero, List.set_cons_succ, i64_w, i32_w]
                    rfl
                   refine pure_ (i := 26) (N := some 104) (v := ?_) (a' := ?_) #[true, true, true, true, true, true, true, true, true, true, true, true, true, true, true, true, true, true, true, true, true, true, true, true, true, true, true, false, false, false, false, false, false, false, false, false, false, false, false, false, false, false, false, false, false, false, false, false, false, false, false, false, false, false, false, false, false, false, false, false, false, false] rfl rfl (any_of HT_.out (by kernel_rfl)) (fun _ _ _ h => h) (Or.inl ⟨by rfl, ?_⟩) ?_ ?_
                   rotate_left
                   ·intro w'
                    go_simp
                    with_reducible rfl
                   rotate_left
                   ·simp only [Act.put, List.setIfInBounds_toArray, List.set_cons_zero, List.set_cons_succ, i64_w, i32_w]
                    rfl
                   refine pure_ (i := 27) (N := some 105) (v := ?_) (a' := ?_) #[true, true, true, true, true, true, true, true, true, true, true, true, true, true, true, true, true, true, true, true, true, true, true, true, true, true, true, true, false, false, false, false, false, false, false, false, false, false, false, false, false, false, false, false, false, false, false, false, false, false, false, false, false, false, false, false, false, false, false, false, false, false] rfl rfl (any_of HT_.out (by kernel_rfl)) (fun _ _ _ h => h) (Or.inl ⟨by rfl, ?_⟩) ?_ ?_
                   rotate_left
                   ·intro w'
                    go_simp
                    with_reducible rfl
                   rotate_left
                   ·simp only [Act.put, List.setIfInBounds_toArray, List.set_cons_zero, List.set_cons_succ, i64_w, i32_w]
                    rfl
                   refine pure_ (i := 28) (N := some 106) (v := ?_) (a' := ?_) #[true, true, true, true, true, true, true, true, true, true, true, true, true, true, true, true, true, true, true, true, true, true, true, true, true, true, true, true, true, false, false, false, false, false, false, false, false, false, false, false, false, false, false, false, false, false, false, false, false, false, false, false, false, false, false, false, false, false, false, false, false, false] rfl rfl (any_of HT_.out (by kernel_rfl)) (fun _ _ _ h => h) (Or.inl ⟨by rfl, ?_⟩) ?_ ?_
                   rotate_left
                   ·intro w'
                    go_simp
                    with_reducible rfl
                   rotate_left
                   ·simp only [Act.put, List.setIfInBounds_toArray, List.set_cons_zero, List.set_cons_succ, i64_w, i32_w]
                    rfl
                   refine pure_ (i := 29) (N := some 107) (v := ?_) (a' := ?_) #[true, true, true, true, true, true, true, true, true, true, true, true, true, true, true, true, true, true, true, true, true, true, true, true, true, true, true, true, true, true, false, false, false, false, false, false, false, false, false, false, false, false, false, false, false, false, false, false, false, false, false, false, false, false, false, false, false, false, false, false, false, false] rfl rfl (any_of HT_.out (by kernel_rfl)) (fun _ _ _ h => h) (Or.inl ⟨by rfl, ?_⟩) ?_ ?_
                   rotate_left
                   ·intro w'
                    go_simp
                    with_reducible rfl
                   rotate_left
                   ·simp only [Act.put, List.setIfInBounds_toArray, List.set_cons_zero, List.set_cons_succ, i64_w, i32_w]
                    rfl
                   refine pure_ (i := 30) (N := some 108) (v := ?_) (a' := ?_) #[true, true, true, true, true, true, true, true, true, true, true, true, true, true, true, true, true, true, true, true, true, true, true, true, true, true, true, true, true, true, true, false, false, false, false, false, false, false, false, false, false, false, false, false, false, false, false, false, false, false, false, false, false, false, false, false, false, false, false, false, false, false] rfl rfl (any_of HT_.out (by kernel_rfl)) (fun _ _ _ h => h) (Or.inl ⟨by rfl, ?_⟩) ?_ ?_
                   rotate_left
                   ·intro w'
                    go_simp
                    with_reducible rfl
                   rotate_left
                   ·simp only [Act.put, List.setIfInBounds_toArray, List.set_cons_zero, List.set_cons_succ, i64_w, i32_w]
                    rfl
                   refine pure_ (i := 31) (N := some 109) (v := ?_) (a' := ?_) #[true, true, true, true, true, true, true, true, true, true, true, true, true, true, true, true, true, true, true, true, true, true, true, true, true, true, true, true, true, true, true, true, false, false, false, false, false, false, false, false, false, false, false, false, false, false, false, false, false, false, false, false, false, false, false, false, false, false, false, false, false, false] rfl rfl (any_of HT_.out (by kernel_rfl)) (fun _ _ _ h => h) (Or.inl ⟨by rfl, ?_⟩) ?_ ?_
                   rotate_left
                   ·intro w'
                    go_simp
                    with_reducible rfl
                   rotate_left
                   ·simp only [Act.put, List.setIfInBounds_toArray, List.set_cons_zero, List.set_cons_succ, i64_w, i32_w]
                    rfl
                   refine pure_ (i := 33) (N := some 111) (v := ?_) (a' := ?_) #[true, true, true, true, true, true, true, true, true, true, true, true, true, true, true, true, true, true, true, true, true, true, true, true, true, true, true, true, true, true, true, true, false, true, false, false, false, false, false, false, false, false, false, false, false, false, false, false, false, false, false, false, false, false, false, false, false, false, false, false, false, false] rfl rfl (any_of HT_.out (by kernel_rfl)) (fun _ _ _ h => h) (Or.inl ⟨by rfl, ?_⟩) ?_ ?_
                   rotate_left
                   ·intro w'
                    go_simp
                    with_reducible rfl
                   rotate_left
                   ·simp only [Act.put, List.setIfInBounds_toArray, List.set_cons_zero, List.set_cons_succ, i64_w, i32_w]
                    rfl
                   refine take_ (i := 32) (N := some 110) (v := ?_) (a' := ?_) #[true, true, true, true, true, true, true, true, true, true, true, true, true, true, true, true, true, true, true, true, true, true, true, true, true, true, true, true, true, true, true, true, true, true, false, false, false, false, false, false, false, false, false, false, false, false, false, false, false, false, false, false, false, false, false, false, false, false, false, false, false, false] rfl rfl (take_ofW HT_.out HW_.out (by kernel_rfl)) (fun _ _ _ h => h) (Or.inl ⟨by rfl, ?_⟩) hHeld ?_ ?_
                   rotate_left
                   ·rintro w' ⟨s0, s1, s2, s3, s4, s5, s6, s7, s8, s9, s10, s11, s12, s13, s14, s15⟩
                    go_simp
                    with_reducible rfl
                   rotate_left
                   ·simp only [Act.put, List.setIfInBounds_toArray, List.set_cons_zero, List.set_cons_succ, i64_w, i32_w]
                    rfl
                   refine take_ (i := 34) (N := some 112) (v := ?_) (a' := ?_) #[true, true, true, true, true, true, true, true, true, true, true, true, true, true, true, true, true, true, true, true, true, true, true, true, true, true, true, true, true, true, true, true, true, true, true, false, false, false, false, false, false, false, false, false, false, false, false, false, false, false, false, false, false, false, false, false, false, false, false, false, false, false] rfl rfl (take_ofW HT_.out HW_.out (by kernel_rfl)) (fun _ _ _ h => h) (Or.inl ⟨by rfl, ?_⟩) hHeld ?_ ?_
                   rotate_left
                   ·rintro w' ⟨s0, s1, s2, s3, s4, s5, s6, s7, s8, s9, s10, s11, s12, s13, s14, s15⟩
                    go_simp
                    with_reducible rfl
                   rotate_left
                   ·simp only [Act.put, List.setIfInBounds_toArray, List.set_cons_zero, List.set_cons_succ, i64_w, i32_w]
                    rfl
                   refine pure_ (i := 35) (N := some 113) (v := ?_) (a' := ?_) #[true, true, true, true, true, true, true, true, true, true, true, true, true, true, true, true, true, true, true, true, true, true, true, true, true, true, true, true, true, true, true, true, true, true, true, true, false, false, false, false, false, false, false, false, false, false, false, false, false, false, false, false, false, false, false, false, false, false, false, false, false, false] rfl rfl (any_of HT_.out (by kernel_rfl)) (fun _ _ _ h => h) (Or.inl ⟨by rfl, ?_⟩) ?_ ?_
                   rotate_left
                   ·intro w'
                    go_simp
                    with_reducible rfl
                   rotate_left
                   ·simp only [Act.put, List.setIfInBounds_toArray, List.set_cons_zero, List.set_cons_succ, i64_w, i32_w]
                    rfl
                   refine pure_ (i := 36) (N := some 114) (v := ?_) (a' := ?_) #[true, true, true, true, true, true, true, true, true, true, true, true, true, true, true, true, true, true, true, true, true, true, true, true, true, true, true, true, true, true, true, true, true, true, true, true, true, false, false, false, false, false, false, false, false, false, false, false, false, false, false, false, false, false, false, false, false, false, false, false, false, false] rfl rfl (any_of HT_.out (by kernel_rfl)) (fun _ _ _ h => h) (Or.inl ⟨by rfl, ?_⟩) ?_ ?_
                   rotate_left
                   ·intro w'
                    go_simp
                    with_reducible rfl
                   rotate_left
                   ·simp only [Act.put, List.setIfInBounds_toArray, List.set_cons_zero, List.set_cons_succ, i64_w, i32_w]
                    rfl
                   refine pure_ (i := 37) (N := some 115) (v := ?_) (a' := ?_) #[true, true, true, true, true, true, true, true, true, true, true, true, true, true, true, true, true, true, true, true, true, true, true, true, true, true, true, true, true, true, true, true, true, true, true, true, true, true, false, false, false, false, false, false, false, false, false, false, false, false, false, false, false, false, false, false, false, false, false, false, false, false] rfl rfl (any_of HT_.out (by kernel_rfl)) (fun _ _ _ h => h) (Or.inl ⟨by rfl, ?_⟩) ?_ ?_
                   rotate_left
                   ·intro w'
                    go_simp
                    with_reducible rfl
                   rotate_left
                   ·simp only [Act.put, List.setIfInBounds_toArray, List.set_cons_zero, List.set_cons_succ, i64_w, i32_w]
                    rfl
                   refine pure_ (i := 38) (N := some 116) (v := ?_) (a' := ?_) #[true, true, true, true, true, true, true, true, true, true, true, true, true, true, true, true, true, true, true, true, true, true, true, true, true, true, true, true, true, true, true, true, true, true, true, true, true, true, true, false, false, false, false, false, false, false, false, false, false, false, false, false, false, false, false, false, false, false, false, false, false, false] rfl rfl (any_of HT_.out (by kernel_rfl)) (fun _ _ _ h => h) (Or.inl ⟨by rfl, ?_⟩) ?_ ?_
                   rotate_left
                   ·intro w'
                    go_simp
                    with_reducible rfl
                   rotate_left
                   ·simp only [Act.put, List.setIfInBounds_toArray, List.set_cons_zero, List.set_cons_succ, i64_w, i32_w]
                    rfl
                   refine pure_ (i := 39) (N := some 117) (v := ?_) (a' := ?_) #[true, true, true, true, true, true, true, true, true, true, true, true, true, true, true, true, true, true, true, true, true, true, true, true, true, true, true, true, true, true, true, true, true, true, true, true, true, true, true, true, false, false, false, false, false, false, false, false, false, false, false, false, false, false, false, false, false, false, false, false, false, false] rfl rfl (any_of HT_.out (by kernel_rfl)) (fun _ _ _ h => h) (Or.inl ⟨by rfl, ?_⟩) ?_ ?_
                   rotate_left
                   ·intro w'
                    go_simp
                    with_reducible rfl
                   rotate_left
                   ·simp only [Act.put, List.setIfInBounds_toArray, List.set_cons_zero, List.set_cons_succ, i64_w, i32_w]
                    rfl
                   refine pure_ (i := 40) (N := some 118) (v := ?_) (a' := ?_) #[true, true, true, true, true, true, true, true, true, true, true, true, true, true, true, true, true, true, true, true, true, true, true, true, true, true, true, true, true, true, true, true, true, true, true, true, true, true, true, true, true, false, false, false, false, false, false, false, false, false, false, false, false, false, false, false, false, false, false, false, false, false] rfl rfl (any_of HT_.out (by kernel_rfl)) (fun _ _ _ h => h) (Or.inl ⟨by rfl, ?_⟩) ?_ ?_
                   rotate_left
                   ·intro w'
                    go_simp
                    with_reducible rfl
                   rotate_left
                   ·simp only [Act.put, List.setIfInBounds_toArray, List.set_cons_zero, List.set_cons_succ, i64_w, i32_w]
                    rfl
                   refine pure_ (i := 42) (N := some 120) (v := ?_) (a' := ?_) #[true, true, true, true, true, true, true, true, true, true, true, true, true, true, true, true, true, true, true, true, true, true, true, true, true, true, true, true, true, true, true, true, true, true, true, true, true, true, true, true, true, false, true, false, false, false, false, false, false, false, false, false, false, false, false, false, false, false, false, false, false, false] rfl rfl (any_of HT_.out (by kernel_rfl)) (fun _ _ _ h => h) (Or.inl ⟨by rfl, ?_⟩) ?_ ?_
                   rotate_left
                   ·intro w'
                    go_simp
                    with_reducible rfl
                   rotate_left
                   ·simp only [Act.put, List.setIfInBounds_toArray, List.set_cons_zero, List.set_cons_succ, i64_w, i32_w]
                    rfl
                   refine take_ (i := 41) (N := some 119) (v := ?_) (a' := ?_) #[true, true, true, true, true, true, true, true, true, true, true, true, true, true, true, true, true, true, true, true, true, true, true, true, true, true, true, true, true, true, true, true, true, true, true, true, true, true, true, true, true, true, true, false, false, false, false, false, false, false, false, false, false, false, false, false, false, false, false, false, false, false] rfl rfl (take_ofW HT_.out HW_.out (by kernel_rfl)) (fun _ _ _ h => h) (Or.inl ⟨by rfl, ?_⟩) hHeld ?_ ?_
                   rotate_left
                   ·rintro w' ⟨s0, s1, s2, s3, s4, s5, s6, s7, s8, s9, s10, s11, s12, s13, s14, s15⟩
                    go_simp
                    with_reducible rfl
                   rotate_left
                   ·simp only [Act.put, List.setIfInBounds_toArray, List.set_cons_zero, List.set_cons_succ, i64_w, i32_w]
                    rfl
                   refine take_ (i := 43) (N := some 121) (v := ?_) (a' := ?_) #[true, true, true, true, true, true, true, true, true, true, true, true, true, true, true, true, true, true, true, true, true, true, true, true, true, true, true, true, true, true, true, true, true, true, true, true, true, true, true, true, true, true, true, true, false, false, false, false, false, false, false, false, false, false, false, false, false, false, false, false, false, false] rfl rfl (take_ofW HT_.out HW_.out (by kernel_rfl)) (fun _ _ _ h => h) (Or.inl ⟨by rfl, ?_⟩) hHeld ?_ ?_
                   rotate_left
                   ·rintro w' ⟨s0, s1, s2, s3, s4, s5, s6, s7, s8, s9, s10, s11, s12, s13, s14, s15⟩
                    go_simp
                    with_reducible rfl
                   rotate_left
                   ·simp only [Act.put, List.setIfInBounds_toArray, List.set_cons_zero, List.set_cons_succ, i64_w, i32_w]
                    rfl
                   refine pure_ (i := 44) (N := some 122) (v := ?_) (a' := ?_) #[true, true, true, true, true, true, true, true, true, true, true, true, true, true, true, true, true, true, true, true, true, true, true, true, true, true, true, true, true, true, true, true, true, true, true, true, true, true, true, true, true, true, true, true, true, false, false, false, false, false, false, false, false, false, false, false, false, false, false, false, false, false] rfl rfl (any_of HT_.out (by kernel_rfl)) (fun _ _ _ h => h) (Or.inl ⟨by rfl, ?_⟩) ?_ ?_
                   rotate_left
                   ·intro w'
                    go_simp
                    with_reducible rfl
                   rotate_left
                   ·simp only [Act.put, List.setIfInBounds_toArray, List.set_cons_zero, List.set_cons_succ, i64_w, i32_w]
                    rfl
                   refine pure_ (i := 45) (N := some 123) (v := ?_) (a' := ?_) #[true, true, true, true, true, true, true, true, true, true, true, true, true, true, true, true, true, true, true, true, true, true, true, true, true, true, true, true, true, true, true, true, true, true, true, true, true, true, true, true, true, true, true, true, true, true, false, false, false, false, false, false, false, false, false, false, false, false, false, false, false, false] rfl rfl (any_of HT_.out (by kernel_rfl)) (fun _ _ _ h => h) (Or.inl ⟨by rfl, ?_⟩) ?_ ?_
                   rotate_left
                   ·intro w'
                    go_simp
                    with_reducible rfl
                   rotate_left
                   ·simp only [Act.put, List.setIfInBounds_toArray, List.set_cons_zero, List.set_cons_succ, i64_w, i32_w]
                    rfl
                   refine pure_ (i := 46) (N := some 124) (v := ?_) (a' := ?_) #[true, true, true, true, true, true, true, true, true, true, true, true, true, true, true, true, true, true, true, true, true, true, true, true, true, true, true, true, true, true, true, true, true, true, true, true, true, true, true, true, true, true, true, true, true, true, true, false, false, false, false, false, false, false, false, false, false, false, false, false, false, false] rfl rfl (any_of HT_.out (by kernel_rfl)) (fun _ _ _ h => h) (Or.inl ⟨by rfl, ?_⟩) ?_ ?_
                   rotate_left
                   ·intro w'
                    go_simp
                    with_reducible rfl
                   rotate_left
                   ·simp only [Act.put, List.setIfInBounds_toArray, List.set_cons_zero, List.set_cons_succ, i64_w, i32_w]
                    rfl
                   refine pure_ (i := 47) (N := some 125) (v := ?_) (a' := ?_) #[true, true, true, true, true, true, true, true, true, true, true, true, true, true, true, true, true, true, true, true, true, true, true, true, true, true, true, true, true, true, true, true, true, true, true, true, true, true, true, true, true, true, true, true, true, true, true, true, false, false, false, false, false, false, false, false, false, false, false, false, false, false] rfl rfl (any_of HT_.out (by kernel_rfl)) (fun _ _ _ h => h) (Or.inl ⟨by rfl, ?_⟩) ?_ ?_
                   rotate_left
                   ·intro w'
                    go_simp
                    with_reducible rfl
                   rotate_left
                   ·simp only [Act.put, List.setIfInBounds_toArray, List.set_cons_zero, List.set_cons_succ, i64_w, i32_w]
                    rfl
                   refine pure_ (i := 49) (N := some 127) (v := ?_) (a' := ?_) #[true, true, true, true, true, true, true, true, true, true, true, true, true, true, true, true, true, true, true, true, true, true, true, true, true, true, true, true, true, true, true, true, true, true, true, true, true, true, true, true, true, true, true, true, true, true, true, true, false, true, false, false, false, false, false, false, false, false, false, false, false, false] rfl rfl (any_of HT_.out (by kernel_rfl)) (fun _ _ _ h => h) (Or.inl ⟨by rfl, ?_⟩) ?_ ?_
                   rotate_left
                   ·intro w'
                    go_simp
                    with_reducible rfl
                   rotate_left
                   ·simp only [Act.put, List.setIfInBounds_toArray, List.set_cons_zero, List.set_cons_succ, i64_w, i32_w]
                    rfl
                   refine pure_ (i := 53) (N := some 131) (v := ?_) (a' := ?_) #[true, true, true, true, true, true, true, true, true, true, true, true, true, true, true, true, true, true, true, true, true, true, true, true, true, true, true, true, true, true, true, true, true, true, true, true, true, true, true, true, true, true, true, true, true, true, true, true, false, true, false, false, false, true, false, false, false, false, false, false, false, false] rfl rfl (any_of HT_.out (by kernel_rfl)) (fun _ _ _ h => h) (Or.inl ⟨by rfl, ?_⟩) ?_ ?_
                   rotate_left
                   ·intro w'
                    go_simp
                    with_reducible rfl
                   rotate_left
                   ·simp only [Act.put, List.setIfInBounds_toArray, List.set_cons_zero, List.set_cons_succ, i64_w, i32_w]
                    rfl
                   refine pure_ (i := 55) (N := some 133) (v := ?_) (a' := ?_) #[true, true, true, true, true, true, true, true, true, true, true, true, true, true, true, true, true, true, true, true, true, true, true, true, true, true, true, true, true, true, true, true, true, true, true, true, true, true, true, true, true, true, true, true, true, true, true, true, false, true, false, false, false, true, false, true, false, false, false, false, false, false] rfl rfl (any_of HT_.out (by kernel_rfl)) (fun _ _ _ h => h) (Or.inl ⟨by rfl, ?_⟩) ?_ ?_
                   rotate_left
                   ·intro w'
                    go_simp
                    with_reducible rfl
                   rotate_left
                   ·simp only [Act.put, List.setIfInBounds_toArray, List.set_cons_zero, List.set_cons_succ, i64_w, i32_w]
                    rfl
                   refine take_ (i := 50) (N := some 128) (v := ?_) (a' := ?_) #[true, true, true, true, true, true, true, true, true, true, true, true, true, true, true, true, true, true, true, true, true, true, true, true, true, true, true, true, true, true, true, true, true, true, true, true, true, true, true, true, true, true, true, true, true, true, true, true, false, true, true, false, false, true, false, true, false, false, false, false, false, false] rfl rfl (take_ofW HT_.out HW_.out (by kernel_rfl)) (fun _ _ _ h => h) (Or.inl ⟨by rfl, ?_⟩) hHeld ?_ ?_
                   rotate_left
                   ·rintro w' ⟨s0, s1, s2, s3, s4, s5, s6, s7, s8, s9, s10, s11, s12, s13, s14, s15⟩
                    go_simp
                    with_reducible rfl
                   rotate_left
                   ·simp only [Act.put, List.setIfInBounds_toArray, List.set_cons_zero, List.set_cons_succ, i64_w, i32_w]
                    rfl
                   refine take_ (i := 56) (N := some 134) (v := ?_) (a' := ?_) #[true, true, true, true, true, true, true, true, true, true, true, true, true, true, true, true, true, true, true, true, true, true, true, true, true, true, true, true, true, true, true, true, true, true, true, true, true, true, true, true, true, true, true, true, true, true, true, true, false, true, true, false, false, true, false, true, true, false, false, false, false, false] rfl rfl (take_ofW HT_.out HW_.out (by kernel_rfl)) (fun _ _ _ h => h) (Or.inl ⟨by rfl, ?_⟩) hHeld ?_ ?_
                   rotate_left
                   ·rintro w' ⟨s0, s1, s2, s3, s4, s5, s6, s7, s8, s9, s10, s11, s12, s13, s14, s15⟩
                    go_simp
                    with_reducible rfl
                   rotate_left
                   ·simp only [Act.put, List.setIfInBounds_toArray, List.set_cons_zero, List.set_cons_succ, i64_w, i32_w]
                    rfl
                   refine one_ (i := 48) (N := some 126) #[true, true, true, true, true, true, true, true, true, true, true, true, true, true, true, true, true, true, true, true, true, true, true, true, true, true, true, true, true, true, true, true, true, true, true, true, true, true, true, true, true, true, true, true, true, true, true, true, true, true, true, false, false, true, false, true, true, false, false, false, false, false] rfl rfl (one_of HT_.out (by kernel_rfl)) (by decide) (fun K hK => ?_)
                   refine goes_ Try.func24 (by kernel_rfl) rfl #[.slice Ao66 t347.length co66] (by rfl) rfl rfl (by (try simp only [List.map_toArray, List.map_cons, List.map_nil]); first | done | rfl | (simp only [List.length_drop, List.length_take]; rfl)) ?_
                   with_reducible refine (newellaw13_own.calls _ _ t347 t372 _ ?side1 ?side2 A41.out).mono ?_
                   (case side1 => repeat (first | exact (Kd.R_reads' HO350.out).2.2 | (with_reducible refine Kd.C_alloc ?_ _) | (with_reducible refine Kd.C_drewN ?_ _) | (with_reducible refine Kd.C_drew ?_)))
                   (case side2 => exact (Kd.R_reads' HO350.out).2.1)
                   rintro e w74 ⟨v373, rfl, ho0, hb⟩
                   have HS4_ := (hb.cell (World.block_lt_of_cell? _ _ (hHeld.2.2.2.2.1))).trans (hHeld.2.2.2.2.1)
                   have HS5_ := (hb.cell (World.block_lt_of_cell? _ _ (hHeld.2.2.2.2.2.1))).trans (hHeld.2.2.2.2.2.1)
                   have HS6_ := (hb.cell (World.block_lt_of_cell? _ _ (hHeld.2.2.2.2.2.2.1))).trans (hHeld.2.2.2.2.2.2.1)
                   have HS7_ := (hb.cell (World.block_lt_of_cell? _ _ (hHeld.2.2.2.2.2.2.2.1))).trans (hHeld.2.2.2.2.2.2.2.1)
                   have HS8_ := (hb.cell (World.block_lt_of_cell? _ _ (hHeld.2.2.2.2.2.2.2.2.1))).trans (hHeld.2.2.2.2.2.2.2.2.1)
                   have HS9_ := (hb.cell (World.block_lt_of_cell? _ _ (hHeld.2.2.2.2.2.2.2.2.2.1))).trans (hHeld.2.2.2.2.2.2.2.2.2.1)
                   have HS10_ := (hb.cell (World.block_lt_of_cell? _ _ (hHeld.2.2.2.2.2.2.2.2.2.2.1))).trans (hHeld.2.2.2.2.2.2.2.2.2.2.1)
                   have HS11_ := (hb.cell (World.block_lt_of_cell? _ _ (hHeld.2.2.2.2.2.2.2.2.2.2.2.1))).trans (hHeld.2.2.2.2.2.2.2.2.2.2.2.1)
                   have HS12_ := (hb.cell (World.block_lt_of_cell? _ _ (hHeld.2.2.2.2.2.2.2.2.2.2.2.2.1))).trans (hHeld.2.2.2.2.2.2.2.2.2.2.2.2.1)
                   have HS13_ := (hb.cell (World.block_lt_of_cell? _ _ (hHeld.2.2.2.2.2.2.2.2.2.2.2.2.2.1))).trans (hHeld.2.2.2.2.2.2.2.2.2.2.2.2.2.1)
                   have HS14_ := (hb.cell (World.block_lt_of_cell? _ _ (hHeld.2.2.2.2.2.2.2.2.2.2.2.2.2.2.1))).trans (hHeld.2.2.2.2.2.2.2.2.2.2.2.2.2.2.1)
                   have HS15_ := (hb.cell (World.block_lt_of_cell? _ _ (hHeld.2.2.2.2.2.2.2.2.2.2.2.2.2.2.2))).trans (hHeld.2.2.2.2.2.2.2.2.2.2.2.2.2.2.2)
                   refine ⟨_, rfl, ?_⟩
                   have n0_ := Aside0.mk (Kd.R_elder' (by (with_reducible repeat (first | apply Kd.R_alloc | apply Kd.R_drewN | apply Kd.R_drew)); exact HO_7.out) (Kd.R_base ho0) hb)
                   have n1_ := Aside0.mk (Kd.R_elder' (by (with_reducible repeat (first | apply Kd.R_alloc | apply Kd.R_drewN | apply Kd.R_drew)); exact HO343.out) (Kd.R_base ho0) hb)
                   have n2_ := Aside0.mk (Kd.R_elder' (by (with_reducible repeat (first | apply Kd.R_alloc | apply Kd.R_drewN | apply Kd.R_drew)); exact HO346.out) (Kd.R_base ho0) hb)
                   have n3_ := Aside0.mk (Kd.R_elder' (by (with_reducible repeat (first | apply Kd.R_alloc | apply Kd.R_drewN | apply Kd.R_drew)); exact HO350.out) (Kd.R_base ho0) hb)
                   have n4_ := Aside0.mk (Kd.R_elder' (by (with_reducible repeat (first | apply Kd.R_alloc | apply Kd.R_drewN | apply Kd.R_drew)); exact HO356.out) (Kd.R_base ho0) hb)
                   have n5_ := Aside0.mk (Kd.R_elder' (by (with_reducible repeat (first | apply Kd.R_alloc | apply Kd.R_drewN | apply Kd.R_drew)); exact HO360.out) (Kd.R_base ho0) hb)
                   have n6_ := Aside0.mk (Kd.R_elder' (by (with_reducible repeat (first | apply Kd.R_alloc | apply Kd.R_drewN | apply Kd.R_drew)); exact HO363.out) (Kd.R_base ho0) hb)
                   have n7_ := Aside0.mk (Kd.R_elder' (by (with_reducible repeat (first | apply Kd.R_alloc | apply Kd.R_drewN | apply Kd.R_drew)); exact HO366.out) (Kd.R_base ho0) hb)
                   have n8_ := Aside0.mk (Kd.R_lower (Kd.R_newB (Kd.R_new' (Kd.R_new' (Kd.R_new' (Kd.R_new' (Kd.R_new' (Kd.R_new' (Kd.R_new' (Kd.R_new' ho0 (Kd.R_lt (by (with_reducible repeat (first | apply Kd.R_alloc | apply Kd.R_drewN | apply Kd.R_drew)); exact HO_7.out))) (Kd.R_lt (by (with_reducible repeat (first | apply Kd.R_alloc | apply Kd.R_drewN | apply Kd.R_drew)); exact HO343.out))) (Kd.R_lt (by (with_reducible repeat (first | apply Kd.R_alloc | apply Kd.R_drewN | apply Kd.R_drew)); exact HO346.out))) (Kd.R_lt (by (with_reducible repeat (first | apply Kd.R_alloc | apply Kd.R_drewN | apply Kd.R_drew)); exact HO350.out))) (Kd.R_lt (by (with_reducible repeat (first | apply Kd.R_alloc | apply Kd.R_drewN | apply Kd.R_drew)); exact HO356.out))) (Kd.R_lt (by (with_reducible repeat (first | apply Kd.R_alloc | apply Kd.R_drewN | apply Kd.R_drew)); exact HO360.out))) (Kd.R_lt (by (with_reducible repeat (first | apply Kd.R_alloc | apply Kd.R_drewN | apply Kd.R_drew)); exact HO363.out))) (Kd.R_lt (by (with_reducible repeat (first | apply Kd.R_alloc | apply Kd.R_drewN | apply Kd.R_drew)); exact HO366.out))) (g := gb327) (o := .cells #[.int .i64 a1_0, .int .i64 a1_1, .int .i64 a1_2, .int .i64 (wrap64 (x5_1 + 1))] 63 (0, 0)) (by (with_reducible repeat (first | refine blk_drewN ?_ _ | refine blk_drew ?_ | refine blk_alloc ?_ _)); exact BK327.out)) (below_size (by repeat (first | (with_reducible first | exact HB.out | apply below_alloc | apply pw_below_drewN | apply below_drew1 | refine below_set ?_ GE327.out) | exact HB.out))))
                   have n9_ := Aside0.mk (blk_below (g := gb327) (o := .cells #[.int .i64 a1_0, .int .i64 a1_1, .int .i64 a1_2, .int .i64 (wrap64 (x5_1 + 1))] 63 (0, 0)) (by (with_reducible repeat (first | refine blk_drewN ?_ _ | refine blk_drew ?_ | refine blk_alloc ?_ _)); exact BK327.out) hb)
                   have n10_ := Aside0.mk (below_step (by repeat (first | (with_reducible first | exact HB.out | apply below_alloc | apply pw_below_drewN | apply below_drew1 | refine below_set ?_ GE327.out) | exact HB.out)) hb)
                   clear HO_7
                   clear HO343
                   clear HO346
                   clear HO350
                   clear HO356
                   clear HO360
                   clear HO363
                   clear HO366
                   clear BK327
                   clear HB
                   have HO_7 := n0_
                   have HO343 := n1_
                   have HO346 := n2_
                   have HO350 := n3_
                   have HO356 := n4_
                   have HO360 := n5_
                   have HO363 := n6_
                   have HO366 := n7_
                   have HO374 := n8_
                   have BK327 := n9_
                   have HB := n10_
                   clear n0_ n1_ n2_ n3_ n4_ n5_ n6_ n7_ n8_ n9_ n10_
                   (try clear hb)
                   (try clear hb2)
                   (try clear hk)
                   (try clear hi)
                   (try clear ho0)
                   obtain ⟨Ao75, co75, eo75⟩ := Kd.R_slice HO374.out
                   (first | subst eo75 | (injection eo75 with f1_ f2_ f3_; have f4_ := f1_.symm; have f5_ := f3_.symm; clear f1_ f2_ f3_; subst f4_; subst f5_))
                   refine hK.out _ _ ⟨(blk_cell BK327.out 0).trans rfl, (blk_cell BK327.out 1).trans rfl, (blk_cell BK327.out 2).trans rfl, (blk_cell BK327.out 3).trans rfl, HS4_, HS5_, HS6_, HS7_, HS8_, HS9_, HS10_, HS11_, HS12_, HS13_, HS14_, HS15_⟩ (fun hHeld => ?_)
                   clear hK K
                   refine norm_ (a' := ?_) ?_ ?_
                   rotate_left
                   ·show Act.put _ (some 126) _ = _
                    simp only [Act.put, List.setIfInBounds_toArray, List.set_cons_zero, List.set_cons_succ, i64_w, i32_w]
                    rfl
                   refine one_ (i := 51) (N := some 129) #[true, true, true, true, true, true, true, true, true, true, true, true, true, true, true, true, true, true, true, true, true, true, true, true, true, true, true, true, true, true, true, true, true, true, true, true, true, true, true, true, true, true, true, true, true, true, true, true, true, true, true, true, false, true, false, true, true, false, false, false, false, false] rfl rfl (one_of HT_.out (by kernel_rfl)) (by decide) (fun K hK => ?_)
                   refine goes_ Try.func30 (by kernel_rfl) rfl #[.slice Ao75 t372.length co75, .int .i64 (-9223372036854775808), .int .i64 a1_0] (by rfl) rfl rfl (by (try simp only [List.map_toArray, List.map_cons, List.map_nil]); first | done | rfl | (simp only [List.length_drop, List.length_take]; rfl)) ?_
                   with_reducible refine (span_Cut.calls _ _ t372 (-9223372036854775808) a1_0 t375 _ ?side1 ?side2 A42.out).mono ?_
                   (case side1 => repeat (first | exact (Kd.R_reads' HO374.out).2.2 | (with_reducible refine Kd.C_alloc ?_ _) | (with_reducible refine Kd.C_drewN ?_ _) | (with_reducible refine Kd.C_drew ?_)))
                   (case side2 => exact (Kd.R_reads' HO374.out).2.1)
                   rintro e w76 ⟨v376, rfl, ho0, hb⟩
                   have HS4_ := (hb.cell (World.block_lt_of_cell? _ _ (hHeld.2.2.2.2.1))).trans (hHeld.2.2.2.2.1)
                   have HS5_ := (hb.cell (World.block_lt_of_cell? _ _ (hHeld.2.2.2.2.2.1))).trans (hHeld.2.2.2.2.2.1)
                   have HS6_ := (hb.cell (World.block_lt_of_cell? _ _ (hHeld.2.2.2.2.2.2.1))).trans (hHeld.2.2.2.2.2.2.1)
                   have HS7_ := (hb.cell (World.block_lt_of_cell? _ _ (hHeld.2.2.2.2.2.2.2.1))).trans (hHeld.2.2.2.2.2.2.2.1)
                   have HS8_ := (hb.cell (World.block_lt_of_cell? _ _ (hHeld.2.2.2.2.2.2.2.2.1))).trans (hHeld.2.2.2.2.2.2.2.2.1)
                   have HS9_ := (hb.cell (World.block_lt_of_cell? _ _ (hHeld.2.2.2.2.2.2.2.2.2.1))).trans (hHeld.2.2.2.2.2.2.2.2.2.1)
                   have HS10_ := (hb.cell (World.block_lt_of_cell? _ _ (hHeld.2.2.2.2.2.2.2.2.2.2.1))).trans (hHeld.2.2.2.2.2.2.2.2.2.2.1)
                   have HS11_ := (hb.cell (World.block_lt_of_cell? _ _ (hHeld.2.2.2.2.2.2.2.2.2.2.2.1))).trans (hHeld.2.2.2.2.2.2.2.2.2.2.2.1)
                   have HS12_ := (hb.cell (World.block_lt_of_cell? _ _ (hHeld.2.2.2.2.2.2.2.2.2.2.2.2.1))).trans (hHeld.2.2.2.2.2.2.2.2.2.2.2.2.1)
                   have HS13_ := (hb.cell (World.block_lt_of_cell? _ _ (hHeld.2.2.2.2.2.2.2.2.2.2.2.2.2.1))).trans (hHeld.2.2.2.2.2.2.2.2.2.2.2.2.2.1)
                   have HS14_ := (hb.cell (World.block_lt_of_cell? _ _ (hHeld.2.2.2.2.2.2.2.2.2.2.2.2.2.2.1))).trans (hHeld.2.2.2.2.2.2.2.2.2.2.2.2.2.2.1)
                   have HS15_ := (hb.cell (World.block_lt_of_cell? _ _ (hHeld.2.2.2.2.2.2.2.2.2.2.2.2.2.2.2))).trans (hHeld.2.2.2.2.2.2.2.2.2.2.2.2.2.2.2)
                   refine ⟨_, rfl, ?_⟩
                   have n0_ := Aside0.mk (Kd.R_elder' (by (with_reducible repeat (first | apply Kd.R_alloc | apply Kd.R_drewN | apply Kd.R_drew)); exact HO_7.out) (Kd.R_base ho0) hb)
                   have n1_ := Aside0.mk (Kd.R_elder' (by (with_reducible repeat (first | apply Kd.R_alloc | apply Kd.R_drewN | apply Kd.R_drew)); exact HO343.out) (Kd.R_base ho0) hb)
                   have n2_ := Aside0.mk (Kd.R_elder' (by (with_reducible repeat (first | apply Kd.R_alloc | apply Kd.R_drewN | apply Kd.R_drew)); exact HO346.out) (Kd.R_base ho0) hb)
                   have n3_ := Aside0.mk (Kd.R_elder' (by (with_reducible repeat (first | apply Kd.R_alloc | apply Kd.R_drewN | apply Kd.R_drew)); exact HO350.out) (Kd.R_base ho0) hb)
                   have n4_ := Aside0.mk (Kd.R_elder' (by (with_reducible repeat (first | apply Kd.R_alloc | apply Kd.R_drewN | apply Kd.R_drew)); exact HO356.out) (Kd.R_base ho0) hb)
                   have n5_ := Aside0.mk (Kd.R_elder' (by (with_reducible repeat (first | apply Kd.R_alloc | apply Kd.R_drewN | apply Kd.R_drew)); exact HO360.out) (Kd.R_base ho0) hb)
                   have n6_ := Aside0.mk (Kd.R_elder' (by (with_reducible repeat (first | apply Kd.R_alloc | apply Kd.R_drewN | apply Kd.R_drew)); exact HO363.out) (Kd.R_base ho0) hb)
                   have n7_ := Aside0.mk (Kd.R_elder' (by (with_reducible repeat (first | apply Kd.R_alloc | apply Kd.R_drewN | apply Kd.R_drew)); exact HO366.out) (Kd.R_base ho0) hb)
                   have n8_ := Aside0.mk (Kd.R_elder' (by (with_reducible repeat (first | apply Kd.R_alloc | apply Kd.R_drewN | apply Kd.R_drew)); exact HO374.out) (Kd.R_base ho0) hb)
                   have n9_ := Aside0.mk (Kd.R_lower (Kd.R_newB (Kd.R_new' (Kd.R_new' (Kd.R_new' (Kd.R_new' (Kd.R_new' (Kd.R_new' (Kd.R_new' (Kd.R_new' (Kd.R_new' ho0 (Kd.R_lt (by (with_reducible repeat (first | apply Kd.R_alloc | apply Kd.R_drewN | apply Kd.R_drew)); exact HO_7.out))) (Kd.R_lt (by (with_reducible repeat (first | apply Kd.R_alloc | apply Kd.R_drewN | apply Kd.R_drew)); exact HO343.out))) (Kd.R_lt (by (with_reducible repeat (first | apply Kd.R_alloc | apply Kd.R_drewN | apply Kd.R_drew)); exact HO346.out))) (Kd.R_lt (by (with_reducible repeat (first | apply Kd.R_alloc | apply Kd.R_drewN | apply Kd.R_drew)); exact HO350.out))) (Kd.R_lt (by (with_reducible repeat (first | apply Kd.R_alloc | apply Kd.R_drewN | apply Kd.R_drew)); exact HO356.out))) (Kd.R_lt (by (with_reducible repeat (first | apply Kd.R_alloc | apply Kd.R_drewN | apply Kd.R_drew)); exact HO360.out))) (Kd.R_lt (by (with_reducible repeat (first | apply Kd.R_alloc | apply Kd.R_drewN | apply Kd.R_drew)); exact HO363.out))) (Kd.R_lt (by (with_reducible repeat (first | apply Kd.R_alloc | apply Kd.R_drewN | apply Kd.R_drew)); exact HO366.out))) (Kd.R_lt (by (with_reducible repeat (first | apply Kd.R_alloc | apply Kd.R_drewN | apply Kd.R_drew)); exact HO374.out))) (g := gb327) (o := .cells #[.int .i64 a1_0, .int .i64 a1_1, .int .i64 a1_2, .int .i64 (wrap64 (x5_1 + 1))] 63 (0, 0)) (by (with_reducible repeat (first | refine blk_drewN ?_ _ | refine blk_drew ?_ | refine blk_alloc ?_ _)); exact BK327.out)) (below_size (by repeat (first | (with_reducible first | exact HB.out | apply below_alloc | apply pw_below_drewN | apply below_drew1 | refine below_set ?_ GE327.out) | exact HB.out))))
                   have n10_ := Aside0.mk (blk_below (g := gb327) (o := .cells #[.int .i64 a1_0, .int .i64 a1_1, .int .i64 a1_2, .int .i64 (wrap64 (x5_1 + 1))] 63 (0, 0)) (by (with_reducible repeat (first | refine blk_drewN ?_ _ | refine blk_drew ?_ | refine blk_alloc ?_ _)); exact BK327.out) hb)
                   have n11_ := Aside0.mk (below_step (by repeat (first | (with_reducible first | exact HB.out | apply below_alloc | apply pw_below_drewN | apply below_drew1 | refine below_set ?_ GE327.out) | exact HB.out)) hb)
                   clear HO_7
                   clear HO343
                   clear HO346
                   clear HO350
                   clear HO356
                   clear HO360
                   clear HO363
                   clear HO366
                   clear HO374
                   clear BK327
                   clear HB
                   have HO_7 := n0_
                   have HO343 := n1_
                   have HO346 := n2_
                   have HO350 := n3_
                   have HO356 := n4_
                   have HO360 := n5_
                   have HO363 := n6_
                   have HO366 := n7_
                   have HO374 := n8_
                   have HO377 := n9_
                   have BK327 := n10_
                   have HB := n11_
                   clear n0_ n1_ n2_ n3_ n4_ n5_ n6_ n7_ n8_ n9_ n10_ n11_
                   (try clear hb)
                   (try clear hb2)
                   (try clear hk)
                   (try clear hi)
                   (try clear ho0)
                   obtain ⟨Ao77, co77, eo77⟩ := Kd.R_slice HO377.out
                   (first | subst eo77 | (injection eo77 with f1_ f2_ f3_; have f4_ := f1_.symm; have f5_ := f3_.symm; clear f1_ f2_ f3_; subst f4_; subst f5_))
                   refine hK.out _ _ ⟨(blk_cell BK327.out 0).trans rfl, (blk_cell BK327.out 1).trans rfl, (blk_cell BK327.out 2).trans rfl, (blk_cell BK327.out 3).trans rfl, HS4_, HS5_, HS6_, HS7_, HS8_, HS9_, HS10_, HS11_, HS12_, HS13_, HS14_, HS15_⟩ (fun hHeld => ?_)
                   clear hK K
                   refine norm_ (a' := ?_) ?_ ?_
                   rotate_left
                   ·show Act.put _ (some 129) _ = _
                    simp only [Act.put, List.setIfInBounds_toArray, List.set_cons_zero, List.set_cons_succ, i64_w, i32_w]
                    rfl
                   refine one_ (i := 52) (N := some 130) #[true, true, true, true, true, true, true, true, true, true, true, true, true, true, true, true, true, true, true, true, true, true, true, true, true, true, true, true, true, true, true, true, true, true, true, true, true, true, true, true, true, true, true, true, true, true, true, true, true, true, true, true, true, true, false, true, true, false, false, false, false, false] rfl rfl (one_of HT_.out (by kernel_rfl)) (by decide) (fun K hK => ?_)
                   refine goes_ Try.func32 (by kernel_rfl) rfl #[.slice Ao77 t375.length co77] (by rfl) rfl rfl (by (try simp only [List.map_toArray, List.map_cons, List.map_nil]); first | done | rfl | (simp only [List.length_drop, List.length_take]; rfl)) ?_
                   with_reducible refine (newellaw13_modes.calls kj12 (fun k_ => some k_ = (.slice Ao77 t375.length co77 : Value).ownBlock) (.slice Ao77 t375.length co77) t375 t378 w _ ?side1 ?side2 A43.out).mono ?_
                   (case side1 => repeat (first | (with_reducible first | exact HB.out | apply below_alloc | apply pw_below_drewN | apply below_drew1 | refine below_set ?_ GE327.out) | exact HB.out))
                   (case side2 => exact Kd.R_tight rfl HO377.out)
                   rintro e w78 ⟨v379, rfl, ho0, hb, hkp⟩
                   have HS4_ := Go.Proofs.YtopmmbopankpgaaW.PrintWords.cell_kept (hHeld.2.2.2.2.1) hkp (by first | (rw [add_block]; exact (fun hs_ => (((HO366.out).1 _ rfl).2) hs_)) | (show ¬ _; simp only [add_block]; exact (fun hs_ => (((HO366.out).1 _ rfl).2) hs_)) | exact (fun hs_ => (((HO366.out).1 _ rfl).2) hs_))
                   have HS5_ := Go.Proofs.YtopmmbopankpgaaW.PrintWords.cell_kept (hHeld.2.2.2.2.2.1) hkp (by first | (rw [add_block]; exact (fun hs_ => (((HO366.out).1 _ rfl).2) hs_)) | (show ¬ _; simp only [add_block]; exact (fun hs_ => (((HO366.out).1 _ rfl).2) hs_)) | exact (fun hs_ => (((HO366.out).1 _ rfl).2) hs_))
                   have HS6_ := Go.Proofs.YtopmmbopankpgaaW.PrintWords.cell_kept (hHeld.2.2.2.2.2.2.1) hkp (by first | (rw [add_block]; exact (fun hs_ => (((HO366.out).1 _ rfl).2) hs_)) | (show ¬ _; simp only [add_block]; exact (fun hs_ => (((HO366.out).1 _ rfl).2) hs_)) | exact (fun hs_ => (((HO366.out).1 _ rfl).2) hs_))
                   have HS7_ := Go.Proofs.YtopmmbopankpgaaW.PrintWords.cell_kept (hHeld.2.2.2.2.2.2.2.1) hkp (by first | (rw [add_block]; exact (fun hs_ => (((HO366.out).1 _ rfl).2) hs_)) | (show ¬ _; simp only [add_block]; exact (fun hs_ => (((HO366.out).1 _ rfl).2) hs_)) | exact (fun hs_ => (((HO366.out).1 _ rfl).2) hs_))
                   have HS8_ := Go.Proofs.YtopmmbopankpgaaW.PrintWords.cell_kept (hHeld.2.2.2.2.2.2.2.2.1) hkp (by first | (rw [add_block]; exact (fun hs_ => (((HO366.out).1 _ rfl).2) hs_)) | (show ¬ _; simp only [add_block]; exact (fun hs_ => (((HO366.out).1 _ rfl).2) hs_)) | exact (fun hs_ => (((HO366.out).1 _ rfl).2) hs_))
                   have HS9_ := Go.Proofs.YtopmmbopankpgaaW.PrintWords.cell_kept (hHeld.2.2.2.2.2.2.2.2.2.1) hkp (by first | (rw [add_block]; exact (fun hs_ => (((HO366.out).1 _ rfl).2) hs_)) | (show ¬ _; simp only [add_block]; exact (fun hs_ => (((HO366.out).1 _ rfl).2) hs_)) | exact (fun hs_ => (((HO366.out).1 _ rfl).2) hs_))
                   have HS10_ := Go.Proofs.YtopmmbopankpgaaW.PrintWords.cell_kept (hHeld.2.2.2.2.2.2.2.2.2.2.1) hkp (by first | (rw [add_block]; exact (fun hs_ => (((HO366.out).1 _ rfl).2) hs_)) | (show ¬ _; simp only [add_block]; exact (fun hs_ => (((HO366.out).1 _ rfl).2) hs_)) | exact (fun hs_ => (((HO366.out).1 _ rfl).2) hs_))
                   have HS11_ := Go.Proofs.YtopmmbopankpgaaW.PrintWords.cell_kept (hHeld.2.2.2.2.2.2.2.2.2.2.2.1) hkp (by first | (rw [add_block]; exact (fun hs_ => (((HO366.out).1 _ rfl).2) hs_)) | (show ¬ _; simp only [add_block]; exact (fun hs_ => (((HO366.out).1 _ rfl).2) hs_)) | exact (fun hs_ => (((HO366.out).1 _ rfl).2) hs_))
                   have HS12_ := Go.Proofs.YtopmmbopankpgaaW.PrintWords.cell_kept (hHeld.2.2.2.2.2.2.2.2.2.2.2.2.1) hkp (by first | (rw [add_block]; exact (fun hs_ => (((HO366.out).1 _ rfl).2) hs_)) | (show ¬ _; simp only [add_block]; exact (fun hs_ => (((HO366.out).1 _ rfl).2) hs_)) | exact (fun hs_ => (((HO366.out).1 _ rfl).2) hs_))
                   have HS13_ := Go.Proofs.YtopmmbopankpgaaW.PrintWords.cell_kept (hHeld.2.2.2.2.2.2.2.2.2.2.2.2.2.1) hkp (by first | (rw [add_block]; exact (fun hs_ => (((HO366.out).1 _ rfl).2) hs_)) | (show ¬ _; simp only [add_block]; exact (fun hs_ => (((HO366.out).1 _ rfl).2) hs_)) | exact (fun hs_ => (((HO366.out).1 _ rfl).2) hs_))
                   have HS14_ := Go.Proofs.YtopmmbopankpgaaW.PrintWords.cell_kept (hHeld.2.2.2.2.2.2.2.2.2.2.2.2.2.2.1) hkp (by first | (rw [add_block]; exact (fun hs_ => (((HO366.out).1 _ rfl).2) hs_)) | (show ¬ _; simp only [add_block]; exact (fun hs_ => (((HO366.out).1 _ rfl).2) hs_)) | exact (fun hs_ => (((HO366.out).1 _ rfl).2) hs_))
                   have HS15_ := Go.Proofs.YtopmmbopankpgaaW.PrintWords.cell_kept (hHeld.2.2.2.2.2.2.2.2.2.2.2.2.2.2.2) hkp (by first | (rw [add_block]; exact (fun hs_ => (((HO366.out).1 _ rfl).2) hs_)) | (show ¬ _; simp only [add_block]; exact (fun hs_ => (((HO366.out).1 _ rfl).2) hs_)) | exact (fun hs_ => (((HO366.out).1 _ rfl).2) hs_))
                   refine ⟨_, rfl, ?_⟩
                   have n0_ := Aside0.mk (Kd.R_mono (ok' := fun k_ => some k_ ≠ (.slice Ao56 y341.length co56 : Value).ownBlock ∧ some k_ ≠ (.slice Ao57 y344.length co57 : Value).ownBlock ∧ some k_ ≠ (.slice Ao66 t347.length co66 : Value).ownBlock ∧ some k_ ≠ (.slice Ao63 y354.length co63 : Value).ownBlock ∧ some k_ ≠ (.slice Ao72 t357.length co72 : Value).ownBlock ∧ some k_ ≠ (.slice Ao68 t361.length co68 : Value).ownBlock ∧ some k_ ≠ (.slice (some ad369) t364.length co73 : Value).ownBlock ∧ some k_ ≠ (.slice Ao75 t372.length co75 : Value).ownBlock ∧ k_ ≠ gb327 ∧ some k_ ≠ (v379 : Value).ownBlock) (Kd.R_keptB (HO_7.out) hkp (fun k_ hk_ hs_ => (hk_.2) hs_)) (fun k_ hk_ => ⟨hk_.1.1.1.1.1.1.1.1, hk_.1.1.1.1.1.1.1.2.1, hk_.1.1.1.1.1.1.1.2.2.1, hk_.1.1.1.1.1.1.2, hk_.1.1.1.1.1.2, hk_.1.1.1.1.2, hk_.1.1.1.2, hk_.1.1.2, hk_.1.1.1.1.1.1.1.2.2.2, fun e_ => Or.elim (ho0.1 k_ e_.symm) (fun hs_ => hk_.2.1 hs_) (fun hn_ => Nat.not_le.2 hk_.2.2 hn_)⟩))
                   have n1_ := Aside0.mk (blk_kept (by (with_reducible repeat (first | refine blk_drewN ?_ _ | refine blk_drew ?_ | refine blk_alloc ?_ _)); exact BK327.out) hkp (fun hs_ => (fun e_ => (Kd.R_away HO377.out (fun _ hk => hk.2)) e_) hs_))
                   have n2_ := Aside0.mk (Kd.R_mono (ok' := fun k_ => some k_ ≠ (v335 : Value).ownBlock ∧ some k_ ≠ (.slice Ao57 y344.length co57 : Value).ownBlock ∧ some k_ ≠ (.slice Ao66 t347.length co66 : Value).ownBlock ∧ some k_ ≠ (.slice Ao63 y354.length co63 : Value).ownBlock ∧ some k_ ≠ (.slice Ao72 t357.length co72 : Value).ownBlock ∧ some k_ ≠ (.slice Ao68 t361.length co68 : Value).ownBlock ∧ some k_ ≠ (.slice (some ad369) t364.length co73 : Value).ownBlock ∧ some k_ ≠ (.slice Ao75 t372.length co75 : Value).ownBlock ∧ k_ ≠ gb327 ∧ some k_ ≠ (v379 : Value).ownBlock) (Kd.R_keptB (HO343.out) hkp (fun k_ hk_ hs_ => (hk_.2) hs_)) (fun k_ hk_ => ⟨hk_.1.1.1.1.1.1.1.1, hk_.1.1.1.1.1.1.1.2.1, hk_.1.1.1.1.1.1.1.2.2.1, hk_.1.1.1.1.1.1.2, hk_.1.1.1.1.1.2, hk_.1.1.1.1.2, hk_.1.1.1.2, hk_.1.1.2, hk_.1.1.1.1.1.1.1.2.2.2, fun e_ => Or.elim (ho0.1 k_ e_.symm) (fun hs_ => hk_.2.1 hs_) (fun hn_ => Nat.not_le.2 hk_.2.2 hn_)⟩))
                   have n3_ := Aside0.mk (Kd.R_mono (ok' := fun k_ => some k_ ≠ (v335 : Value).ownBlock ∧ some k_ ≠ (.slice Ao56 y341.length co56 : Value).ownBlock ∧ some k_ ≠ (.slice Ao66 t347.length co66 : Value).ownBlock ∧ some k_ ≠ (.slice Ao63 y354.length co63 : Value).ownBlock ∧ some k_ ≠ (.slice Ao72 t357.length co72 : Value).ownBlock ∧ some k_ ≠ (.slice Ao68 t361.length co68 : Value).ownBlock ∧ some k_ ≠ (.slice (some ad369) t364.length co73 : Value).ownBlock ∧ some k_ ≠ (.slice Ao75 t372.length co75 : Value).ownBlock ∧ k_ ≠ gb327 ∧ some k_ ≠ (v379 : Value).ownBlock) (Kd.R_keptB (HO346.out) hkp (fun k_ hk_ hs_ => (hk_.2) hs_)) (fun k_ hk_ => ⟨hk_.1.1.1.1.1.1.1.1, hk_.1.1.1.1.1.1.1.2.1, hk_.1.1.1.1.1.1.1.2.2.1, hk_.1.1.1.1.1.1.2, hk_.1.1.1.1.1.2, hk_.1.1.1.1.2, hk_.1.1.1.2, hk_.1.1.2, hk_.1.1.1.1.1.1.1.2.2.2, fun e_ => Or.elim (ho0.1 k_ e_.symm) (fun hs_ => hk_.2.1 hs_) (fun hn_ => Nat.not_le.2 hk_.2.2 hn_)⟩))
                   have n4_ := Aside0.mk (Kd.R_mono (ok' := fun k_ => some k_ ≠ (v335 : Value).ownBlock ∧ some k_ ≠ (.slice Ao56 y341.length co56 : Value).ownBlock ∧ some k_ ≠ (.slice Ao57 y344.length co57 : Value).ownBlock ∧ some k_ ≠ (.slice Ao63 y354.length co63 : Value).ownBlock ∧ some k_ ≠ (.slice Ao72 t357.length co72 : Value).ownBlock ∧ some k_ ≠ (.slice Ao68 t361.length co68 : Value).ownBlock ∧ some k_ ≠ (.slice (some ad369) t364.length co73 : Value).ownBlock ∧ some k_ ≠ (.slice Ao75 t372.length co75 : Value).ownBlock ∧ k_ ≠ gb327 ∧ some k_ ≠ (v379 : Value).ownBlock) (Kd.R_keptB (HO350.out) hkp (fun k_ hk_ hs_ => (hk_.2) hs_)) (fun k_ hk_ => ⟨hk_.1.1.1.1.1.1.1.1, hk_.1.1.1.1.1.1.1.2.1, hk_.1.1.1.1.1.1.1.2.2.1, hk_.1.1.1.1.1.1.2, hk_.1.1.1.1.1.2, hk_.1.1.1.1.2, hk_.1.1.1.2, hk_.1.1.2, hk_.1.1.1.1.1.1.1.2.2.2, fun e_ => Or.elim (ho0.1 k_ e_.symm) (fun hs_ => hk_.2.1 hs_) (fun hn_ => Nat.not_le.2 hk_.2.2 hn_)⟩))
                   have n5_ := Aside0.mk (Kd.R_mono (ok' := fun k_ => some k_ ≠ (v335 : Value).ownBlock ∧ some k_ ≠ (.slice Ao56 y341.length co56 : Value).ownBlock ∧ some k_ ≠ (.slice Ao57 y344.length co57 : Value).ownBlock ∧ some k_ ≠ (.slice Ao66 t347.length co66 : Value).ownBlock ∧ some k_ ≠ (.slice Ao72 t357.length co72 : Value).ownBlock ∧ some k_ ≠ (.slice Ao68 t361.length co68 : Value).ownBlock ∧ some k_ ≠ (.slice (some ad369) t364.length co73 : Value).ownBlock ∧ some k_ ≠ (.slice Ao75 t372.length co75 : Value).ownBlock ∧ k_ ≠ gb327 ∧ some k_ ≠ (v379 : Value).ownBlock) (Kd.R_keptB (HO356.out) hkp (fun k_ hk_ hs_ => (hk_.2) hs_)) (fun k_ hk_ => ⟨hk_.1.1.1.1.1.1.1, hk_.1.1.1.1.1.1.2.1, hk_.1.1.1.1.1.1.2.2.1, hk_.1.1.1.1.1.1.2.2.2.1, hk_.1.1.1.1.1.2, hk_.1.1.1.1.2, hk_.1.1.1.2, hk_.1.1.2, hk_.1.1.1.1.1.1.2.2.2.2, fun e_ => Or.elim (ho0.1 k_ e_.symm) (fun hs_ => hk_.2.1 hs_) (fun hn_ => Nat.not_le.2 hk_.2.2 hn_)⟩))
                   have n6_ := Aside0.mk (Kd.R_mono (ok' := fun k_ => some k_ ≠ (v335 : Value).ownBlock ∧ some k_ ≠ (.slice Ao56 y341.length co56 : Value).ownBlock ∧ some k_ ≠ (.slice Ao57 y344.length co57 : Value).ownBlock ∧ some k_ ≠ (.slice Ao66 t347.length co66 : Value).ownBlock ∧ some k_ ≠ (.slice Ao63 y354.length co63 : Value).ownBlock ∧ some k_ ≠ (.slice Ao68 t361.length co68 : Value).ownBlock ∧ some k_ ≠ (.slice (some ad369) t364.length co73 : Value).ownBlock ∧ some k_ ≠ (.slice Ao75 t372.length co75 : Value).ownBlock ∧ k_ ≠ gb327 ∧ some k_ ≠ (v379 : Value).ownBlock) (Kd.R_keptB (HO360.out) hkp (fun k_ hk_ hs_ => (hk_.2) hs_)) (fun k_ hk_ => ⟨hk_.1.1.1.1.1.1.1.1.1.1.2, hk_.1.1.1.1.1.1.1.1.1.2, hk_.1.1.1.1.1.1.1.1.2, hk_.1.1.1.1.1.1.1.2, hk_.1.1.1.1.1.1.2, hk_.1.1.1.1.2, hk_.1.1.1.2, hk_.1.1.2, hk_.1.1.1.1.1.2, fun e_ => Or.elim (ho0.1 k_ e_.symm) (fun hs_ => hk_.2.1 hs_) (fun hn_ => Nat.not_le.2 hk_.2.2 hn_)⟩))
                   have n7_ := Aside0.mk (Kd.R_mono (ok' := fun k_ => some k_ ≠ (v335 : Value).ownBlock ∧ some k_ ≠ (.slice Ao56 y341.length co56 : Value).ownBlock ∧ some k_ ≠ (.slice Ao57 y344.length co57 : Value).ownBlock ∧ some k_ ≠ (.slice Ao66 t347.length co66 : Value).ownBlock ∧ some k_ ≠ (.slice Ao63 y354.length co63 : Value).ownBlock ∧ some k_ ≠ (.slice Ao72 t357.length co72 : Value).ownBlock ∧ some k_ ≠ (.slice (some ad369) t364.length co73 : Value).ownBlock ∧ some k_ ≠ (.slice Ao75 t372.length co75 : Value).ownBlock ∧ k_ ≠ gb327 ∧ some k_ ≠ (v379 : Value).ownBlock) (Kd.R_keptB (HO363.out) hkp (fun k_ hk_ hs_ => (hk_.2) hs_)) (fun k_ hk_ => ⟨hk_.1.1.1.1.1.1.1.1.1.1.2, hk_.1.1.1.1.1.1.1.1.1.2, hk_.1.1.1.1.1.1.1.1.2, hk_.1.1.1.1.1.1.1.2, hk_.1.1.1.1.1.1.2, hk_.1.1.1.1.1.2, hk_.1.1.1.2, hk_.1.1.2, hk_.1.1.1.1.2, fun e_ => Or.elim (ho0.1 k_ e_.symm) (fun hs_ => hk_.2.1 hs_) (fun hn_ => Nat.not_le.2 hk_.2.2 hn_)⟩))
                   have n8_ := Aside0.mk (Kd.R_mono (ok' := fun k_ => some k_ ≠ (v335 : Value).ownBlock ∧ some k_ ≠ (.slice Ao56 y341.length co56 : Value).ownBlock ∧ some k_ ≠ (.slice Ao57 y344.length co57 : Value).ownBlock ∧ some k_ ≠ (.slice Ao66 t347.length co66 : Value).ownBlock ∧ some k_ ≠ (.slice Ao63 y354.length co63 : Value).ownBlock ∧ some k_ ≠ (.slice Ao72 t357.length co72 : Value).ownBlock ∧ some k_ ≠ (.slice Ao68 t361.length co68 : Value).ownBlock ∧ some k_ ≠ (.slice Ao75 t372.length co75 : Value).ownBlock ∧ k_ ≠ gb327 ∧ some k_ ≠ (v379 : Value).ownBlock) (Kd.R_keptB (HO366.out) hkp (fun k_ hk_ hs_ => (hk_.2) hs_)) (fun k_ hk_ => ⟨hk_.1.1.1.1.1.1.1.1.1.1.2, hk_.1.1.1.1.1.1.1.1.1.2, hk_.1.1.1.1.1.1.1.1.2, hk_.1.1.1.1.1.1.1.2, hk_.1.1.1.1.1.1.2, hk_.1.1.1.1.1.2, hk_.1.1.1.1.2, hk_.1.1.2, hk_.1.1.1.2, fun e_ => Or.elim (ho0.1 k_ e_.symm) (fun hs_ => hk_.2.1 hs_) (fun hn_ => Nat.not_le.2 hk_.2.2 hn_)⟩))
                   have n9_ := Aside0.mk (Kd.R_mono (ok' := fun k_ => some k_ ≠ (v335 : Value).ownBlock ∧ some k_ ≠ (.slice Ao56 y341.length co56 : Value).ownBlock ∧ some k_ ≠ (.slice Ao57 y344.length co57 : Value).ownBlock ∧ some k_ ≠ (.slice Ao66 t347.length co66 : Value).ownBlock ∧ some k_ ≠ (.slice Ao63 y354.length co63 : Value).ownBlock ∧ some k_ ≠ (.slice Ao72 t357.length co72 : Value).ownBlock ∧ some k_ ≠ (.slice Ao68 t361.length co68 : Value).ownBlock ∧ some k_ ≠ (.slice (some ad369) t364.length co73 : Value).ownBlock ∧ k_ ≠ gb327 ∧ some k_ ≠ (v379 : Value).ownBlock) (Kd.R_keptB (HO374.out) hkp (fun k_ hk_ hs_ => (hk_.2) hs_)) (fun k_ hk_ => ⟨hk_.1.1.1.1.1.1.1.1.1.1.2, hk_.1.1.1.1.1.1.1.1.1.2, hk_.1.1.1.1.1.1.1.1.2, hk_.1.1.1.1.1.1.1.2, hk_.1.1.1.1.1.1.2, hk_.1.1.1.1.1.2, hk_.1.1.1.1.2, hk_.1.1.1.2, hk_.1.1.2, fun e_ => Or.elim (ho0.1 k_ e_.symm) (fun hs_ => hk_.2.1 hs_) (fun hn_ => Nat.not_le.2 hk_.2.2 hn_)⟩))
                   have n10_ := Aside0.mk (Kd.R_mono (ok' := fun k_ => some k_ ≠ (v335 : Value).ownBlock ∧ some k_ ≠ (.slice Ao56 y341.length co56 : Value).ownBlock ∧ some k_ ≠ (.slice Ao57 y344.length co57 : Value).ownBlock ∧ some k_ ≠ (.slice Ao66 t347.length co66 : Value).ownBlock ∧ some k_ ≠ (.slice Ao63 y354.length co63 : Value).ownBlock ∧ some k_ ≠ (.slice Ao72 t357.length co72 : Value).ownBlock ∧ some k_ ≠ (.slice Ao68 t361.length co68 : Value).ownBlock ∧ some k_ ≠ (.slice (some ad369) t364.length co73 : Value).ownBlock ∧ some k_ ≠ (.slice Ao75 t372.length co75 : Value).ownBlock ∧ k_ ≠ gb327) ho0 (fun k_ hk_ => ⟨Or.elim hk_ (fun hs_ => fun e_ => (((HO_7.out).1 k_ e_.symm).2) hs_) (fun hn_ => (Kd.fresh' (Kd.R_lt (by (with_reducible repeat (first | apply Kd.R_alloc | apply Kd.R_drewN | apply Kd.R_drew)); exact HO_7.out)) k_ hn_)), Or.elim hk_ (fun hs_ => fun e_ => (((HO343.out).1 k_ e_.symm).2) hs_) (fun hn_ => (Kd.fresh' (Kd.R_lt (by (with_reducible repeat (first | apply Kd.R_alloc | apply Kd.R_drewN | apply Kd.R_drew)); exact HO343.out)) k_ hn_)), Or.elim hk_ (fun hs_ => fun e_ => (((HO346.out).1 k_ e_.symm).2) hs_) (fun hn_ => (Kd.fresh' (Kd.R_lt (by (with_reducible repeat (first | apply Kd.R_alloc | apply Kd.R_drewN | apply Kd.R_drew)); exact HO346.out)) k_ hn_)), Or.elim hk_ (fun hs_ => fun e_ => (((HO350.out).1 k_ e_.symm).2) hs_) (fun hn_ => (Kd.fresh' (Kd.R_lt (by (with_reducible repeat (first | apply Kd.R_alloc | apply Kd.R_drewN | apply Kd.R_drew)); exact HO350.out)) k_ hn_)), Or.elim hk_ (fun hs_ => fun e_ => (((HO356.out).1 k_ e_.symm).2) hs_) (fun hn_ => (Kd.fresh' (Kd.R_lt (by (with_reducible repeat (first | apply Kd.R_alloc | apply Kd.R_drewN | apply Kd.R_drew)); exact HO356.out)) k_ hn_)), Or.elim hk_ (fun hs_ => fun e_ => (((HO360.out).1 k_ e_.symm).2) hs_) (fun hn_ => (Kd.fresh' (Kd.R_lt (by (with_reducible repeat (first | apply Kd.R_alloc | apply Kd.R_drewN | apply Kd.R_drew)); exact HO360.out)) k_ hn_)), Or.elim hk_ (fun hs_ => fun e_ => (((HO363.out).1 k_ e_.symm).2) hs_) (fun hn_ => (Kd.fresh' (Kd.R_lt (by (with_reducible repeat (first | apply Kd.R_alloc | apply Kd.R_drewN | apply Kd.R_drew)); exact HO363.out)) k_ hn_)), Or.elim hk_ (fun hs_ => fun e_ => (((HO366.out).1 k_ e_.symm).2) hs_) (fun hn_ => (Kd.fresh' (Kd.R_lt (by (with_reducible repeat (first | apply Kd.R_alloc | apply Kd.R_drewN | apply Kd.R_drew)); exact HO366.out)) k_ hn_)), Or.elim hk_ (fun hs_ => fun e_ => (((HO374.out).1 k_ e_.symm).2) hs_) (fun hn_ => (Kd.fresh' (Kd.R_lt (by (with_reducible repeat (first | apply Kd.R_alloc | apply Kd.R_drewN | apply Kd.R_drew)); exact HO374.out)) k_ hn_)), Or.elim hk_ (fun hs_ => fun e_ => (Kd.R_away HO377.out (fun _ hk => hk.2)) (by rw [← e_]; exact hs_)) (fun hn_ => (Kd.freshB (g := gb327) (o := .cells #[.int .i64 a1_0, .int .i64 a1_1, .int .i64 a1_2, .int .i64 (wrap64 (x5_1 + 1))] 63 (0, 0)) (by (with_reducible repeat (first | refine blk_drewN ?_ _ | refine blk_drew ?_ | refine blk_alloc ?_ _)); exact BK327.out) k_ hn_))⟩))
                   have n11_ := Aside0.mk (hb)
                   clear HO_7
                   clear BK327
                   clear HO343
                   clear HO346
                   clear HO350
                   clear HO356
                   clear HO360
                   clear HO363
                   clear HO366
                   clear HO374
                   clear HB
                   clear HO377
                   have HO_7 := n0_
                   have BK327 := n1_
                   have HO343 := n2_
                   have HO346 := n3_
                   have HO350 := n4_
                   have HO356 := n5_
                   have HO360 := n6_
                   have HO363 := n7_
                   have HO366 := n8_
                   have HO374 := n9_
                   have HO380 := n10_
                   have HB := n11_
                   clear n0_ n1_ n2_ n3_ n4_ n5_ n6_ n7_ n8_ n9_ n10_ n11_
                   (try clear hb)
                   (try clear hkp)
                   (try clear ho0)
                   obtain ⟨Ao79, co79, eo79⟩ := Kd.R_slice HO_7.out
                   (first | subst eo79 | (injection eo79 with f1_ f2_ f3_; have f4_ := f1_.symm; have f5_ := f3_.symm; clear f1_ f2_ f3_; subst f4_; subst f5_))
                   refine hK.out _ _ ⟨(blk_cell BK327.out 0).trans rfl, (blk_cell BK327.out 1).trans rfl, (blk_cell BK327.out 2).trans rfl, (blk_cell BK327.out 3).trans rfl, HS4_, HS5_, HS6_, HS7_, HS8_, HS9_, HS10_, HS11_, HS12_, HS13_, HS14_, HS15_⟩ (fun hHeld => ?_)
                   clear hK K
                   refine norm_ (a' := ?_) ?_ ?_
                   rotate_left
                   ·show Act.put _ (some 130) _ = _
                    simp only [Act.put, List.setIfInBounds_toArray, List.set_cons_zero, List.set_cons_succ, i64_w, i32_w]
                    rfl
                   refine one_ (i := 54) (N := some 132) #[true, true, true, true, true, true, true, true, true, true, true, true, true, true, true, true, true, true, true, true, true, true, true, true, true, true, true, true, true, true, true, true, true, true, true, true, true, true, true, true, true, true, true, true, true, true, true, true, true, true, true, true, true, true, true, true, true, false, false, false, false, false] rfl rfl (one_of HT_.out (by kernel_rfl)) (by decide) (fun K hK => ?_)
                   refine goes_ Try.func24 (by kernel_rfl) rfl #[.slice Ao79 t333.length co79] (by rfl) rfl rfl (by (try simp only [List.map_toArray, List.map_cons, List.map_nil]); first | done | rfl | (simp only [List.length_drop, List.length_take]; rfl)) ?_
                   with_reducible refine (newellaw13_own.calls _ _ t333 t381 _ ?side1 ?side2 A44.out).mono ?_
                   (case side1 => repeat (first | exact (Kd.R_reads' HO_7.out).2.2 | (with_reducible refine Kd.C_alloc ?_ _) | (with_reducible refine Kd.C_drewN ?_ _) | (with_reducible refine Kd.C_drew ?_)))
                   (case side2 => exact (Kd.R_reads' HO_7.out).2.1)
                   rintro e w80 ⟨v382, rfl, ho0, hb⟩
                   have HS4_ := (hb.cell (World.block_lt_of_cell? _ _ (hHeld.2.2.2.2.1))).trans (hHeld.2.2.2.2.1)
                   have HS5_ := (hb.cell (World.block_lt_of_cell? _ _ (hHeld.2.2.2.2.2.1))).trans (hHeld.2.2.2.2.2.1)
                   have HS6_ := (hb.cell (World.block_lt_of_cell? _ _ (hHeld.2.2.2.2.2.2.1))).trans (hHeld.2.2.2.2.2.2.1)
                   have HS7_ := (hb.cell (World.block_lt_of_cell? _ _ (hHeld.2.2.2.2.2.2.2.1))).trans (hHeld.2.2.2.2.2.2.2.1)
                   have HS8_ := (hb.cell (World.block_lt_of_cell? _ _ (hHeld.2.2.2.2.2.2.2.2.1))).trans (hHeld.2.2.2.2.2.2.2.2.1)
                   have HS9_ := (hb.cell (World.block_lt_of_cell? _ _ (hHeld.2.2.2.2.2.2.2.2.2.1))).trans (hHeld.2.2.2.2.2.2.2.2.2.1)
                   have HS10_ := (hb.cell (World.block_lt_of_cell? _ _ (hHeld.2.2.2.2.2.2.2.2.2.2.1))).trans (hHeld.2.2.2.2.2.2.2.2.2.2.1)
                   have HS11_ := (hb.cell (World.block_lt_of_cell? _ _ (hHeld.2.2.2.2.2.2.2.2.2.2.2.1))).trans (hHeld.2.2.2.2.2.2.2.2.2.2.2.1)
                   have HS12_ := (hb.cell (World.block_lt_of_cell? _ _ (hHeld.2.2.2.2.2.2.2.2.2.2.2.2.1))).trans (hHeld.2.2.2.2.2.2.2.2.2.2.2.2.1)
                   have HS13_ := (hb.cell (World.block_lt_of_cell? _ _ (hHeld.2.2.2.2.2.2.2.2.2.2.2.2.2.1))).trans (hHeld.2.2.2.2.2.2.2.2.2.2.2.2.2.1)
                   have HS14_ := (hb.cell (World.block_lt_of_cell? _ _ (hHeld.2.2.2.2.2.2.2.2.2.2.2.2.2.2.1))).trans (hHeld.2.2.2.2.2.2.2.2.2.2.2.2.2.2.1)
                   have HS15_ := (hb.cell (World.block_lt_of_cell? _ _ (hHeld.2.2.2.2.2.2.2.2.2.2.2.2.2.2.2))).trans (hHeld.2.2.2.2.2.2.2.2.2.2.2.2.2.2.2)
                   refine ⟨_, rfl, ?_⟩
                   have n0_ := Aside0.mk (Kd.R_elder' (by (with_reducible repeat (first | apply Kd.R_alloc | apply Kd.R_drewN | apply Kd.R_drew)); exact HO_7.out) (Kd.R_base ho0) hb)
                   have n1_ := Aside0.mk (Kd.R_elder' (by (with_reducible repeat (first | apply Kd.R_alloc | apply Kd.R_drewN | apply Kd.R_drew)); exact HO343.out) (Kd.R_base ho0) hb)
                   have n2_ := Aside0.mk (Kd.R_elder' (by (with_reducible repeat (first | apply Kd.R_alloc | apply Kd.R_drewN | apply Kd.R_drew)); exact HO346.out) (Kd.R_base ho0) hb)
                   have n3_ := Aside0.mk (Kd.R_elder' (by (with_reducible repeat (first | apply Kd.R_alloc | apply Kd.R_drewN | apply Kd.R_drew)); exact HO350.out) (Kd.R_base ho0) hb)
                   have n4_ := Aside0.mk (Kd.R_elder' (by (with_reducible repeat (first | apply Kd.R_alloc | apply Kd.R_drewN | apply Kd.R_drew)); exact HO356.out) (Kd.R_base ho0) hb)
                   have n5_ := Aside0.mk (Kd.R_elder' (by (with_reducible repeat (first | apply Kd.R_alloc | apply Kd.R_drewN | apply Kd.R_drew)); exact HO360.out) (Kd.R_base ho0) hb)
                   have n6_ := Aside0.mk (Kd.R_elder' (by (with_reducible repeat (first | apply Kd.R_alloc | apply Kd.R_drewN | apply Kd.R_drew)); exact HO363.out) (Kd.R_base ho0) hb)
                   have n7_ := Aside0.mk (Kd.R_elder' (by (with_reducible repeat (first | apply Kd.R_alloc | apply Kd.R_drewN | apply Kd.R_drew)); exact HO366.out) (Kd.R_base ho0) hb)
                   have n8_ := Aside0.mk (Kd.R_elder' (by (with_reducible repeat (first | apply Kd.R_alloc | apply Kd.R_drewN | apply Kd.R_drew)); exact HO374.out) (Kd.R_base ho0) hb)
                   have n9_ := Aside0.mk (Kd.R_elder' (by (with_reducible repeat (first | apply Kd.R_alloc | apply Kd.R_drewN | apply Kd.R_drew)); exact HO380.out) (Kd.R_base ho0) hb)
                   have n10_ := Aside0.mk (Kd.R_lower (Kd.R_newB (Kd.R_new' (Kd.R_new' (Kd.R_new' (Kd.R_new' (Kd.R_new' (Kd.R_new' (Kd.R_new' (Kd.R_new' (Kd.R_new' (Kd.R_new' ho0 (Kd.R_lt (by (with_reducible repeat (first | apply Kd.R_alloc | apply Kd.R_drewN | apply Kd.R_drew)); exact HO_7.out))) (Kd.R_lt (by (with_reducible repeat (first | apply Kd.R_alloc | apply Kd.R_drewN | apply Kd.R_drew)); exact HO343.out))) (Kd.R_lt (by (with_reducible repeat (first | apply Kd.R_alloc | apply Kd.R_drewN | apply Kd.R_drew)); exact HO346.out))) (Kd.R_lt (by (with_reducible repeat (first | apply Kd.R_alloc | apply Kd.R_drewN | apply Kd.R_drew)); exact HO350.out))) (Kd.R_lt (by (with_reducible repeat (first | apply Kd.R_alloc | apply Kd.R_drewN | apply Kd.R_drew)); exact HO356.out))) (Kd.R_lt (by (with_reducible repeat (first | apply Kd.R_alloc | apply Kd.R_drewN | apply Kd.R_drew)); exact HO360.out))) (Kd.R_lt (by (with_reducible repeat (first | apply Kd.R_alloc | apply Kd.R_drewN | apply Kd.R_drew)); exact HO363.out))) (Kd.R_lt (by (with_reducible repeat (first | apply Kd.R_alloc | apply Kd.R_drewN | apply Kd.R_drew)); exact HO366.out))) (Kd.R_lt (by (with_reducible repeat (first | apply Kd.R_alloc | apply Kd.R_drewN | apply Kd.R_drew)); exact HO374.out))) (Kd.R_lt (by (with_reducible repeat (first | apply Kd.R_alloc | apply Kd.R_drewN | apply Kd.R_drew)); exact HO380.out))) (g := gb327) (o := .cells #[.int .i64 a1_0, .int .i64 a1_1, .int .i64 a1_2, .int .i64 (wrap64 (x5_1 + 1))] 63 (0, 0)) (by (with_reducible repeat (first | refine blk_drewN ?_ _ | refine blk_drew ?_ | refine blk_alloc ?_ _)); exact BK327.out)) (below_size (by repeat (first | (with_reducible first | exact HB.out | apply below_alloc | apply pw_below_drewN | apply below_drew1 | refine below_set ?_ GE327.out) | exact HB.out))))
                   have n11_ := Aside0.mk (blk_below (g := gb327) (o := .cells #[.int .i64 a1_0, .int .i64 a1_1, .int .i64 a1_2, .int .i64 (wrap64 (x5_1 + 1))] 63 (0, 0)) (by (with_reducible repeat (first | refine blk_drewN ?_ _ | refine blk_drew ?_ | refine blk_alloc ?_ _)); exact BK327.out) hb)
                   have n12_ := Aside0.mk (below_step (by repeat (first | (with_reducible first | exact HB.out | apply below_alloc | apply pw_below_drewN | apply below_drew1 | refine below_set ?_ GE327.out) | exact HB.out)) hb)
                   clear HO_7
                   clear HO343
                   clear HO346
                   clear HO350
                   clear HO356
                   clear HO360
                   clear HO363
                   clear HO366
                   clear HO374
                   clear HO380
                   clear BK327
                   clear HB
                   have HO_7 := n0_
                   have HO343 := n1_
                   have HO346 := n2_
                   have HO350 := n3_
                   have HO356 := n4_
                   have HO360 := n5_
                   have HO363 := n6_
                   have HO366 := n7_
                   have HO374 := n8_
                   have HO380 := n9_
                   have HO383 := n10_
                   have BK327 := n11_
                   have HB := n12_
                   clear n0_ n1_ n2_ n3_ n4_ n5_ n6_ n7_ n8_ n9_ n10_ n11_ n12_
                   (try clear hb)
                   (try clear hb2)
                   (try clear hk)
                   (try clear hi)
                   (try clear ho0)
                   obtain ⟨Ao81, co81, eo81⟩ := Kd.R_slice HO383.out
                   (first | subst eo81 | (injection eo81 with f1_ f2_ f3_; have f4_ := f1_.symm; have f5_ := f3_.symm; clear f1_ f2_ f3_; subst f4_; subst f5_))
                   refine hK.out _ _ ⟨(blk_cell BK327.out 0).trans rfl, (blk_cell BK327.out 1).trans rfl, (blk_cell BK327.out 2).trans rfl, (blk_cell BK327.out 3).trans rfl, HS4_, HS5_, HS6_, HS7_, HS8_, HS9_, HS10_, HS11_, HS12_, HS13_, HS14_, HS15_⟩ (fun hHeld => ?_)
                   clear hK K
                   refine norm_ (a' := ?_) ?_ ?_
                   rotate_left
                   ·show Act.put _ (some 132) _ = _
                    simp only [Act.put, List.setIfInBounds_toArray, List.set_cons_zero, List.set_cons_succ, i64_w, i32_w]
                    rfl
                   refine one_ (i := 57) (N := some 135) #[true, true, true, true, true, true, true, true, true, true, true, true, true, true, true, true, true, true, true, true, true, true, true, true, true, true, true, true, true, true, true, true, true, true, true, true, true, true, true, true, true, true, true, true, true, true, true, true, true, true, true, true, true, true, true, true, true, true, false, false, false, false] rfl rfl (one_of HT_.out (by kernel_rfl)) (by decide) (fun K hK => ?_)
                   refine goes_ Try.func30 (by kernel_rfl) rfl #[.slice Ao81 t381.length co81, .int .i64 (-9223372036854775808), .int .i64 a1_0] (by rfl) rfl rfl (by (try simp only [List.map_toArray, List.map_cons, List.map_nil]); first | done | rfl | (simp only [List.length_drop, List.length_take]; rfl)) ?_
                   with_reducible refine (span_Cut.calls _ _ t381 (-9223372036854775808) a1_0 t384 _ ?side1 ?side2 A45.out).mono ?_
                   (case side1 => repeat (first | exact (Kd.R_reads' HO383.out).2.2 | (with_reducible refine Kd.C_alloc ?_ _) | (with_reducible refine Kd.C_drewN ?_ _) | (with_reducible refine Kd.C_drew ?_)))
                   (case side2 => exact (Kd.R_reads' HO383.out).2.1)
                   rintro e w82 ⟨v385, rfl, ho0, hb⟩
                   have HS4_ := (hb.cell (World.block_lt_of_cell? _ _ (hHeld.2.2.2.2.1))).trans (hHeld.2.2.2.2.1)
                   have HS5_ := (hb.cell (World.block_lt_of_cell? _ _ (hHeld.2.2.2.2.2.1))).trans (hHeld.2.2.2.2.2.1)
                   have HS6_ := (hb.cell (World.block_lt_of_cell? _ _ (hHeld.2.2.2.2.2.2.1))).trans (hHeld.2.2.2.2.2.2.1)
                   have HS7_ := (hb.cell (World.block_lt_of_cell? _ _ (hHeld.2.2.2.2.2.2.2.1))).trans (hHeld.2.2.2.2.2.2.2.1)
                   have HS8_ := (hb.cell (World.block_lt_of_cell? _ _ (hHeld.2.2.2.2.2.2.2.2.1))).trans (hHeld.2.2.2.2.2.2.2.2.1)
                   have HS9_ := (hb.cell (World.block_lt_of_cell? _ _ (hHeld.2.2.2.2.2.2.2.2.2.1))).trans (hHeld.2.2.2.2.2.2.2.2.2.1)
                   have HS10_ := (hb.cell (World.block_lt_of_cell? _ _ (hHeld.2.2.2.2.2.2.2.2.2.2.1))).trans (hHeld.2.2.2.2.2.2.2.2.2.2.1)
                   have HS11_ := (hb.cell (World.block_lt_of_cell? _ _ (hHeld.2.2.2.2.2.2.2.2.2.2.2.1))).trans (hHeld.2.2.2.2.2.2.2.2.2.2.2.1)
                   have HS12_ := (hb.cell (World.block_lt_of_cell? _ _ (hHeld.2.2.2.2.2.2.2.2.2.2.2.2.1))).trans (hHeld.2.2.2.2.2.2.2.2.2.2.2.2.1)
                   have HS13_ := (hb.cell (World.block_lt_of_cell? _ _ (hHeld.2.2.2.2.2.2.2.2.2.2.2.2.2.1))).trans (hHeld.2.2.2.2.2.2.2.2.2.2.2.2.2.1)
                   have HS14_ := (hb.cell (World.block_lt_of_cell? _ _ (hHeld.2.2.2.2.2.2.2.2.2.2.2.2.2.2.1))).trans (hHeld.2.2.2.2.2.2.2.2.2.2.2.2.2.2.1)
                   have HS15_ := (hb.cell (World.block_lt_of_cell? _ _ (hHeld.2.2.2.2.2.2.2.2.2.2.2.2.2.2.2))).trans (hHeld.2.2.2.2.2.2.2.2.2.2.2.2.2.2.2)
                   refine ⟨_, rfl, ?_⟩
                   have n0_ := Aside0.mk (Kd.R_elder' (by (with_reducible repeat (first | apply Kd.R_alloc | apply Kd.R_drewN | apply Kd.R_drew)); exact HO_7.out) (Kd.R_base ho0) hb)
                   have n1_ := Aside0.mk (Kd.R_elder' (by (with_reducible repeat (first | apply Kd.R_alloc | apply Kd.R_drewN | apply Kd.R_drew)); exact HO343.out) (Kd.R_base ho0) hb)
                   have n2_ := Aside0.mk (Kd.R_elder' (by (with_reducible repeat (first | apply Kd.R_alloc | apply Kd.R_drewN | apply Kd.R_drew)); exact HO346.out) (Kd.R_base ho0) hb)
                   have n3_ := Aside0.mk (Kd.R_elder' (by (with_reducible repeat (first | apply Kd.R_alloc | apply Kd.R_drewN | apply Kd.R_drew)); exact HO350.out) (Kd.R_base ho0) hb)
                   have n4_ := Aside0.mk (Kd.R_elder' (by (with_reducible repeat (first | apply Kd.R_alloc | apply Kd.R_drewN | apply Kd.R_drew)); exact HO356.out) (Kd.R_base ho0) hb)
                   have n5_ := Aside0.mk (Kd.R_elder' (by (with_reducible repeat (first | apply Kd.R_alloc | apply Kd.R_drewN | apply Kd.R_drew)); exact HO360.out) (Kd.R_base ho0) hb)
                   have n6_ := Aside0.mk (Kd.R_elder' (by (with_reducible repeat (first | apply Kd.R_alloc | apply Kd.R_drewN | apply Kd.R_drew)); exact HO363.out) (Kd.R_base ho0) hb)
                   have n7_ := Aside0.mk (Kd.R_elder' (by (with_reducible repeat (first | apply Kd.R_alloc | apply Kd.R_drewN | apply Kd.R_drew)); exact HO366.out) (Kd.R_base ho0) hb)
                   have n8_ := Aside0.mk (Kd.R_elder' (by (with_reducible repeat (first | apply Kd.R_alloc | apply Kd.R_drewN | apply Kd.R_drew)); exact HO374.out) (Kd.R_base ho0) hb)
                   have n9_ := Aside0.mk (Kd.R_elder' (by (with_reducible repeat (first | apply Kd.R_alloc | apply Kd.R_drewN | apply Kd.R_drew)); exact HO380.out) (Kd.R_base ho0) hb)
                   have n10_ := Aside0.mk (Kd.R_elder' (by (with_reducible repeat (first | apply Kd.R_alloc | apply Kd.R_drewN | apply Kd.R_drew)); exact HO383.out) (Kd.R_base ho0) hb)
                   have n11_ := Aside0.mk (Kd.R_lower (Kd.R_newB (Kd.R_new' (Kd.R_new' (Kd.R_new' (Kd.R_new' (Kd.R_new' (Kd.R_new' (Kd.R_new' (Kd.R_new' (Kd.R_new' (Kd.R_new' (Kd.R_new' ho0 (Kd.R_lt (by (with_reducible repeat (first | apply Kd.R_alloc | apply Kd.R_drewN | apply Kd.R_drew)); exact HO_7.out))) (Kd.R_lt (by (with_reducible repeat (first | apply Kd.R_alloc | apply Kd.R_drewN | apply Kd.R_drew)); exact HO343.out))) (Kd.R_lt (by (with_reducible repeat (first | apply Kd.R_alloc | apply Kd.R_drewN | apply Kd.R_drew)); exact HO346.out))) (Kd.R_lt (by (with_reducible repeat (first | apply Kd.R_alloc | apply Kd.R_drewN | apply Kd.R_drew)); exact HO350.out))) (Kd.R_lt (by (with_reducible repeat (first | apply Kd.R_alloc | apply Kd.R_drewN | apply Kd.R_drew)); exact HO356.out))) (Kd.R_lt (by (with_reducible repeat (first | apply Kd.R_alloc | apply Kd.R_drewN | apply Kd.R_drew)); exact HO360.out))) (Kd.R_lt (by (with_reducible repeat (first | apply Kd.R_alloc | apply Kd.R_drewN | apply Kd.R_drew)); exact HO363.out))) (Kd.R_lt (by (with_reducible repeat (first | apply Kd.R_alloc | apply Kd.R_drewN | apply Kd.R_drew)); exact HO366.out))) (Kd.R_lt (by (with_reducible repeat (first | apply Kd.R_alloc | apply Kd.R_drewN | apply Kd.R_drew)); exact HO374.out))) (Kd.R_lt (by (with_reducible repeat (first | apply Kd.R_alloc | apply Kd.R_drewN | apply Kd.R_drew)); exact HO380.out))) (Kd.R_lt (by (with_reducible repeat (first | apply Kd.R_alloc | apply Kd.R_drewN | apply Kd.R_drew)); exact HO383.out))) (g := gb327) (o := .cells #[.int .i64 a1_0, .int .i64 a1_1, .int .i64 a1_2, .int .i64 (wrap64 (x5_1 + 1))] 63 (0, 0)) (by (with_reducible repeat (first | refine blk_drewN ?_ _ | refine blk_drew ?_ | refine blk_alloc ?_ _)); exact BK327.out)) (below_size (by repeat (first | (with_reducible first | exact HB.out | apply below_alloc | apply pw_below_drewN | apply below_drew1 | refine below_set ?_ GE327.out) | exact HB.out))))
                   have n12_ := Aside0.mk (blk_below (g := gb327) (o := .cells #[.int .i64 a1_0, .int .i64 a1_1, .int .i64 a1_2, .int .i64 (wrap64 (x5_1 + 1))] 63 (0, 0)) (by (with_reducible repeat (first | refine blk_drewN ?_ _ | refine blk_drew ?_ | refine blk_alloc ?_ _)); exact BK327.out) hb)
                   have n13_ := Aside0.mk (below_step (by repeat (first | (with_reducible first | exact HB.out | apply below_alloc | apply pw_below_drewN | apply below_drew1 | refine below_set ?_ GE327.out) | exact HB.out)) hb)
                   clear HO_7
                   clear HO343
                   clear HO346
                   clear HO350
                   clear HO356
                   clear HO360
                   clear HO363
                   clear HO366
                   clear HO374
                   clear HO380
                   clear HO383
                   clear BK327
                   clear HB
                   have HO_7 := n0_
                   have HO343 := n1_
                   have HO346 := n2_
                   have HO350 := n3_
                   have HO356 := n4_
                   have HO360 := n5_
                   have HO363 := n6_
                   have HO366 := n7_
                   have HO374 := n8_
                   have HO380 := n9_
                   have HO383 := n10_
                   have HO386 := n11_
                   have BK327 := n12_
                   have HB := n13_
                   clear n0_ n1_ n2_ n3_ n4_ n5_ n6_ n7_ n8_ n9_ n10_ n11_ n12_ n13_
                   (try clear hb)
                   (try clear hb2)
                   (try clear hk)
                   (try clear hi)
                   (try clear ho0)
                   obtain ⟨Ao83, co83, eo83⟩ := Kd.R_slice HO386.out
                   (first | subst eo83 | (injection eo83 with f1_ f2_ f3_; have f4_ := f1_.symm; have f5_ := f3_.symm; clear f1_ f2_ f3_; subst f4_; subst f5_))
                   refine hK.out _ _ ⟨(blk_cell BK327.out 0).trans rfl, (blk_cell BK327.out 1).trans rfl, (blk_cell BK327.out 2).trans rfl, (blk_cell BK327.out 3).trans rfl, HS4_, HS5_, HS6_, HS7_, HS8_, HS9_, HS10_, HS11_, HS12_, HS13_, HS14_, HS15_⟩ (fun hHeld => ?_)
                   clear hK K
                   refine norm_ (a' := ?_) ?_ ?_
                   rotate_left
                   ·show Act.put _ (some 135) _ = _
                    simp only [Act.put, List.setIfInBounds_toArray, List.set_cons_zero, List.set_cons_succ, i64_w, i32_w]
                    rfl
                   refine one_ (i := 58) (N := some 136) #[true, true, true, true, true, true, true, true, true, true, true, true, true, true, true, true, true, true, true, true, true, true, true, true, true, true, true, true, true, true, true, true, true, true, true, true, true, true, true, true, true, true, true, true, true, true, true, true, true, true, true, true, true, true, true, true, true, true, true, false, false, false] rfl rfl (one_of HT_.out (by kernel_rfl)) (by decide) (fun K hK => ?_)
                   refine goes_ Try.func32 (by kernel_rfl) rfl #[.slice Ao83 t384.length co83] (by rfl) rfl rfl (by (try simp only [List.map_toArray, List.map_cons, List.map_nil]); first | done | rfl | (simp only [List.length_drop, List.length_take]; rfl)) ?_
                   with_reducible refine (newellaw13_modes.calls kj12 (fun k_ => some k_ = (.slice Ao83 t384.length co83 : Value).ownBlock) (.slice Ao83 t384.length co83) t384 t387 w _ ?side1 ?side2 A46.out).mono ?_
                   (case side1 => repeat (first | (with_reducible first | exact HB.out | apply below_alloc | apply pw_below_drewN | apply below_drew1 | refine below_set ?_ GE327.out) | exact HB.out))
                   (case side2 => exact Kd.R_tight rfl HO386.out)
                   rintro e w84 ⟨v388, rfl, ho0, hb, hkp⟩
                   have HS4_ := Go.Proofs.YtopmmbopankpgaaW.PrintWords.cell_kept (hHeld.2.2.2.2.1) hkp (by first | (rw [add_block]; exact (fun hs_ => (((HO366.out).1 _ rfl).2) hs_)) | (show ¬ _; simp only [add_block]; exact (fun hs_ => (((HO366.out).1 _ rfl).2) hs_)) | exact (fun hs_ => (((HO366.out).1 _ rfl).2) hs_))
                   have HS5_ := Go.Proofs.YtopmmbopankpgaaW.PrintWords.cell_kept (hHeld.2.2.2.2.2.1) hkp (by first | (rw [add_block]; exact (fun hs_ => (((HO366.out).1 _ rfl).2) hs_)) | (show ¬ _; simp only [add_block]; exact (fun hs_ => (((HO366.out).1 _ rfl).2) hs_)) | exact (fun hs_ => (((HO366.out).1 _ rfl).2) hs_))
                   have HS6_ := Go.Proofs.YtopmmbopankpgaaW.PrintWords.cell_kept (hHeld.2.2.2.2.2.2.1) hkp (by first | (rw [add_block]; exact (fun hs_ => (((HO366.out).1 _ rfl).2) hs_)) | (show ¬ _; simp only [add_block]; exact (fun hs_ => (((HO366.out).1 _ rfl).2) hs_)) | exact (fun hs_ => (((HO366.out).1 _ rfl).2) hs_))
                   have HS7_ := Go.Proofs.YtopmmbopankpgaaW.PrintWords.cell_kept (hHeld.2.2.2.2.2.2.2.1) hkp (by first | (rw [add_block]; exact (fun hs_ => (((HO366.out).1 _ rfl).2) hs_)) | (show ¬ _; simp only [add_block]; exact (fun hs_ => (((HO366.out).1 _ rfl).2) hs_)) | exact (fun hs_ => (((HO366.out).1 _ rfl).2) hs_))
                   have HS8_ := Go.Proofs.YtopmmbopankpgaaW.PrintWords.cell_kept (hHeld.2.2.2.2.2.2.2.2.1) hkp (by first | (rw [add_block]; exact (fun hs_ => (((HO366.out).1 _ rfl).2) hs_)) | (show ¬ _; simp only [add_block]; exact (fun hs_ => (((HO366.out).1 _ rfl).2) hs_)) | exact (fun hs_ => (((HO366.out).1 _ rfl).2) hs_))
                   have HS9_ := Go.Proofs.YtopmmbopankpgaaW.PrintWords.cell_kept (hHeld.2.2.2.2.2.2.2.2.2.1) hkp (by first | (rw [add_block]; exact (fun hs_ => (((HO366.out).1 _ rfl).2) hs_)) | (show ¬ _; simp only [add_block]; exact (fun hs_ => (((HO366.out).1 _ rfl).2) hs_)) | exact (fun hs_ => (((HO366.out).1 _ rfl).2) hs_))
                   have HS10_ := Go.Proofs.YtopmmbopankpgaaW.PrintWords.cell_kept (hHeld.2.2.2.2.2.2.2.2.2.2.1) hkp (by first | (rw [add_block]; exact (fun hs_ => (((HO366.out).1 _ rfl).2) hs_)) | (show ¬ _; simp only [add_block]; exact (fun hs_ => (((HO366.out).1 _ rfl).2) hs_)) | exact (fun hs_ => (((HO366.out).1 _ rfl).2) hs_))
                   have HS11_ := Go.Proofs.YtopmmbopankpgaaW.PrintWords.cell_kept (hHeld.2.2.2.2.2.2.2.2.2.2.2.1) hkp (by first | (rw [add_block]; exact (fun hs_ => (((HO366.out).1 _ rfl).2) hs_)) | (show ¬ _; simp only [add_block]; exact (fun hs_ => (((HO366.out).1 _ rfl).2) hs_)) | exact (fun hs_ => (((HO366.out).1 _ rfl).2) hs_))
                   have HS12_ := Go.Proofs.YtopmmbopankpgaaW.PrintWords.cell_kept (hHeld.2.2.2.2.2.2.2.2.2.2.2.2.1) hkp (by first | (rw [add_block]; exact (fun hs_ => (((HO366.out).1 _ rfl).2) hs_)) | (show ¬ _; simp only [add_block]; exact (fun hs_ => (((HO366.out).1 _ rfl).2) hs_)) | exact (fun hs_ => (((HO366.out).1 _ rfl).2) hs_))
                   have HS13_ := Go.Proofs.YtopmmbopankpgaaW.PrintWords.cell_kept (hHeld.2.2.2.2.2.2.2.2.2.2.2.2.2.1) hkp (by first | (rw [add_block]; exact (fun hs_ => (((HO366.out).1 _ rfl).2) hs_)) | (show ¬ _; simp only [add_block]; exact (fun hs_ => (((HO366.out).1 _ rfl).2) hs_)) | exact (fun hs_ => (((HO366.out).1 _ rfl).2) hs_))
                   have HS14_ := Go.Proofs.YtopmmbopankpgaaW.PrintWords.cell_kept (hHeld.2.2.2.2.2.2.2.2.2.2.2.2.2.2.1) hkp (by first | (rw [add_block]; exact (fun hs_ => (((HO366.out).1 _ rfl).2) hs_)) | (show ¬ _; simp only [add_block]; exact (fun hs_ => (((HO366.out).1 _ rfl).2) hs_)) | exact (fun hs_ => (((HO366.out).1 _ rfl).2) hs_))
                   have HS15_ := Go.Proofs.YtopmmbopankpgaaW.PrintWords.cell_kept (hHeld.2.2.2.2.2.2.2.2.2.2.2.2.2.2.2) hkp (by first | (rw [add_block]; exact (fun hs_ => (((HO366.out).1 _ rfl).2) hs_)) | (show ¬ _; simp only [add_block]; exact (fun hs_ => (((HO366.out).1 _ rfl).2) hs_)) | exact (fun hs_ => (((HO366.out).1 _ rfl).2) hs_))
                   refine ⟨_, rfl, ?_⟩
                   have n0_ := Aside0.mk (Kd.R_mono (ok' := fun k_ => some k_ ≠ (.slice Ao56 y341.length co56 : Value).ownBlock ∧ some k_ ≠ (.slice Ao57 y344.length co57 : Value).ownBlock ∧ some k_ ≠ (.slice Ao66 t347.length co66 : Value).ownBlock ∧ some k_ ≠ (.slice Ao63 y354.length co63 : Value).ownBlock ∧ some k_ ≠ (.slice Ao72 t357.length co72 : Value).ownBlock ∧ some k_ ≠ (.slice Ao68 t361.length co68 : Value).ownBlock ∧ some k_ ≠ (.slice (some ad369) t364.length co73 : Value).ownBlock ∧ some k_ ≠ (.slice Ao75 t372.length co75 : Value).ownBlock ∧ some k_ ≠ (v379 : Value).ownBlock ∧ some k_ ≠ (.slice Ao81 t381.length co81 : Value).ownBlock ∧ k_ ≠ gb327 ∧ some k_ ≠ (v388 : Value).ownBlock) (Kd.R_keptB (HO_7.out) hkp (fun k_ hk_ hs_ => (hk_.2) hs_)) (fun k_ hk_ => ⟨hk_.1.1.1.1, hk_.1.1.1.2.1, hk_.1.1.1.2.2.1, hk_.1.1.1.2.2.2.1, hk_.1.1.1.2.2.2.2.1, hk_.1.1.1.2.2.2.2.2.1, hk_.1.1.1.2.2.2.2.2.2.1, hk_.1.1.1.2.2.2.2.2.2.2.1, hk_.1.1.1.2.2.2.2.2.2.2.2.2, hk_.1.1.2, hk_.1.1.1.2.2.2.2.2.2.2.2.1, fun e_ => Or.elim (ho0.1 k_ e_.symm) (fun hs_ => hk_.2.1 hs_) (fun hn_ => Nat.not_le.2 hk_.2.2 hn_)⟩))
                   have n1_ := Aside0.mk (blk_kept (by (with_reducible repeat (first | refine blk_drewN ?_ _ | refine blk_drew ?_ | refine blk_alloc ?_ _)); exact BK327.out) hkp (fun hs_ => (fun e_ => (Kd.R_away HO386.out (fun _ hk => hk.2)) e_) hs_))
                   have n2_ := Aside0.mk (Kd.R_mono (ok' := fun k_ => some k_ ≠ (.slice Ao79 t333.length co79 : Value).ownBlock ∧ some k_ ≠ (.slice Ao57 y344.length co57 : Value).ownBlock ∧ some k_ ≠ (.slice Ao66 t347.length co66 : Value).ownBlock ∧ some k_ ≠ (.slice Ao63 y354.length co63 : Value).ownBlock ∧ some k_ ≠ (.slice Ao72 t357.length co72 : Value).ownBlock ∧ some k_ ≠ (.slice Ao68 t361.length co68 : Value).ownBlock ∧ some k_ ≠ (.slice (some ad369) t364.length co73 : Value).ownBlock ∧ some k_ ≠ (.slice Ao75 t372.length co75 : Value).ownBlock ∧ some k_ ≠ (v379 : Value).ownBlock ∧ some k_ ≠ (.slice Ao81 t381.length co81 : Value).ownBlock ∧ k_ ≠ gb327 ∧ some k_ ≠ (v388 : Value).ownBlock) (Kd.R_keptB (HO343.out) hkp (fun k_ hk_ hs_ => (hk_.2) hs_)) (fun k_ hk_ => ⟨hk_.1.1.1.1, hk_.1.1.1.2.1, hk_.1.1.1.2.2.1, hk_.1.1.1.2.2.2.1, hk_.1.1.1.2.2.2.2.1, hk_.1.1.1.2.2.2.2.2.1, hk_.1.1.1.2.2.2.2.2.2.1, hk_.1.1.1.2.2.2.2.2.2.2.1, hk_.1.1.1.2.2.2.2.2.2.2.2.2, hk_.1.1.2, hk_.1.1.1.2.2.2.2.2.2.2.2.1, fun e_ => Or.elim (ho0.1 k_ e_.symm) (fun hs_ => hk_.2.1 hs_) (fun hn_ => Nat.not_le.2 hk_.2.2 hn_)⟩))
                   have n3_ := Aside0.mk (Kd.R_mono (ok' := fun k_ => some k_ ≠ (.slice Ao79 t333.length co79 : Value).ownBlock ∧ some k_ ≠ (.slice Ao56 y341.length co56 : Value).ownBlock ∧ some k_ ≠ (.slice Ao66 t347.length co66 : Value).ownBlock ∧ some k_ ≠ (.slice Ao63 y354.length co63 : Value).ownBlock ∧ some k_ ≠ (.slice Ao72 t357.length co72 : Value).ownBlock ∧ some k_ ≠ (.slice Ao68 t361.length co68 : Value).ownBlock ∧ some k_ ≠ (.slice (some ad369) t364.length co73 : Value).ownBlock ∧ some k_ ≠ (.slice Ao75 t372.length co75 : Value).ownBlock ∧ some k_ ≠ (v379 : Value).ownBlock ∧ some k_ ≠ (.slice Ao81 t381.length co81 : Value).ownBlock ∧ k_ ≠ gb327 ∧ some k_ ≠ (v388 : Value).ownBlock) (Kd.R_keptB (HO346.out) hkp (fun k_ hk_ hs_ => (hk_.2) hs_)) (fun k_ hk_ => ⟨hk_.1.1.1.1, hk_.1.1.1.2.1, hk_.1.1.1.2.2.1, hk_.1.1.1.2.2.2.1, hk_.1.1.1.2.2.2.2.1, hk_.1.1.1.2.2.2.2.2.1, hk_.1.1.1.2.2.2.2.2.2.1, hk_.1.1.1.2.2.2.2.2.2.2.1, hk_.1.1.1.2.2.2.2.2.2.2.2.2, hk_.1.1.2, hk_.1.1.1.2.2.2.2.2.2.2.2.1, fun e_ => Or.elim (ho0.1 k_ e_.symm) (fun hs_ => hk_.2.1 hs_) (fun hn_ => Nat.not_le.2 hk_.2.2 hn_)⟩))
                   have n4_ := Aside0.mk (Kd.R_mono (ok' := fun k_ => some k_ ≠ (.slice Ao79 t333.length co79 : Value).ownBlock ∧ some k_ ≠ (.slice Ao56 y341.length co56 : Value).ownBlock ∧ some k_ ≠ (.slice Ao57 y344.length co57 : Value).ownBlock ∧ some k_ ≠ (.slice Ao63 y354.length co63 : Value).ownBlock ∧ some k_ ≠ (.slice Ao72 t357.length co72 : Value).ownBlock ∧ some k_ ≠ (.slice Ao68 t361.length co68 : Value).ownBlock ∧ some k_ ≠ (.slice (some ad369) t364.length co73 : Value).ownBlock ∧ some k_ ≠ (.slice Ao75 t372.length co75 : Value).ownBlock ∧ some k_ ≠ (v379 : Value).ownBlock ∧ some k_ ≠ (.slice Ao81 t381.length co81 : Value).ownBlock ∧ k_ ≠ gb327 ∧ some k_ ≠ (v388 : Value).ownBlock) (Kd.R_keptB (HO350.out) hkp (fun k_ hk_ hs_ => (hk_.2) hs_)) (fun k_ hk_ => ⟨hk_.1.1.1.1, hk_.1.1.1.2.1, hk_.1.1.1.2.2.1, hk_.1.1.1.2.2.2.1, hk_.1.1.1.2.2.2.2.1, hk_.1.1.1.2.2.2.2.2.1, hk_.1.1.1.2.2.2.2.2.2.1, hk_.1.1.1.2.2.2.2.2.2.2.1, hk_.1.1.1.2.2.2.2.2.2.2.2.2, hk_.1.1.2, hk_.1.1.1.2.2.2.2.2.2.2.2.1, fun e_ => Or.elim (ho0.1 k_ e_.symm) (fun hs_ => hk_.2.1 hs_) (fun hn_ => Nat.not_le.2 hk_.2.2 hn_)⟩))
                   have n5_ := Aside0.mk (Kd.R_mono (ok' := fun k_ => some k_ ≠ (.slice Ao79 t333.length co79 : Value).ownBlock ∧ some k_ ≠ (.slice Ao56 y341.length co56 : Value).ownBlock ∧ some k_ ≠ (.slice Ao57 y344.length co57 : Value).ownBlock ∧ some k_ ≠ (.slice Ao66 t347.length co66 : Value).ownBlock ∧ some k_ ≠ (.slice Ao72 t357.length co72 : Value).ownBlock ∧ some k_ ≠ (.slice Ao68 t361.length co68 : Value).ownBlock ∧ some k_ ≠ (.slice (some ad369) t364.length co73 : Value).ownBlock ∧ some k_ ≠ (.slice Ao75 t372.length co75 : Value).ownBlock ∧ some k_ ≠ (v379 : Value).ownBlock ∧ some k_ ≠ (.slice Ao81 t381.length co81 : Value).ownBlock ∧ k_ ≠ gb327 ∧ some k_ ≠ (v388 : Value).ownBlock) (Kd.R_keptB (HO356.out) hkp (fun k_ hk_ hs_ => (hk_.2) hs_)) (fun k_ hk_ => ⟨hk_.1.1.1.1, hk_.1.1.1.2.1, hk_.1.1.1.2.2.1, hk_.1.1.1.2.2.2.1, hk_.1.1.1.2.2.2.2.1, hk_.1.1.1.2.2.2.2.2.1, hk_.1.1.1.2.2.2.2.2.2.1, hk_.1.1.1.2.2.2.2.2.2.2.1, hk_.1.1.1.2.2.2.2.2.2.2.2.2, hk_.1.1.2, hk_.1.1.1.2.2.2.2.2.2.2.2.1, fun e_ => Or.elim (ho0.1 k_ e_.symm) (fun hs_ => hk_.2.1 hs_) (fun hn_ => Nat.not_le.2 hk_.2.2 hn_)⟩))
                   have n6_ := Aside0.mk (Kd.R_mono (ok' := fun k_ => some k_ ≠ (.slice Ao79 t333.length co79 : Value).ownBlock ∧ some k_ ≠ (.slice Ao56 y341.length co56 : Value).ownBlock ∧ some k_ ≠ (.slice Ao57 y344.length co57 : Value).ownBlock ∧ some k_ ≠ (.slice Ao66 t347.length co66 : Value).ownBlock ∧ some k_ ≠ (.slice Ao63 y354.length co63 : Value).ownBlock ∧ some k_ ≠ (.slice Ao68 t361.length co68 : Value).ownBlock ∧ some k_ ≠ (.slice (some ad369) t364.length co73 : Value).ownBlock ∧ some k_ ≠ (.slice Ao75 t372.length co75 : Value).ownBlock ∧ some k_ ≠ (v379 : Value).ownBlock ∧ some k_ ≠ (.slice Ao81 t381.length co81 : Value).ownBlock ∧ k_ ≠ gb327 ∧ some k_ ≠ (v388 : Value).ownBlock) (Kd.R_keptB (HO360.out) hkp (fun k_ hk_ hs_ => (hk_.2) hs_)) (fun k_ hk_ => ⟨hk_.1.1.1.1, hk_.1.1.1.2.1, hk_.1.1.1.2.2.1, hk_.1.1.1.2.2.2.1, hk_.1.1.1.2.2.2.2.1, hk_.1.1.1.2.2.2.2.2.1, hk_.1.1.1.2.2.2.2.2.2.1, hk_.1.1.1.2.2.2.2.2.2.2.1, hk_.1.1.1.2.2.2.2.2.2.2.2.2, hk_.1.1.2, hk_.1.1.1.2.2.2.2.2.2.2.2.1, fun e_ => Or.elim (ho0.1 k_ e_.symm) (fun hs_ => hk_.2.1 hs_) (fun hn_ => Nat.not_le.2 hk_.2.2 hn_)⟩))
                   have n7_ := Aside0.mk (Kd.R_mono (ok' := fun k_ => some k_ ≠ (.slice Ao79 t333.length co79 : Value).ownBlock ∧ some k_ ≠ (.slice Ao56 y341.length co56 : Value).ownBlock ∧ some k_ ≠ (.slice Ao57 y344.length co57 : Value).ownBlock ∧ some k_ ≠ (.slice Ao66 t347.length co66 : Value).ownBlock ∧ some k_ ≠ (.slice Ao63 y354.length co63 : Value).ownBlock ∧ some k_ ≠ (.slice Ao72 t357.length co72 : Value).ownBlock ∧ some k_ ≠ (.slice (some ad369) t364.length co73 : Value).ownBlock ∧ some k_ ≠ (.slice Ao75 t372.length co75 : Value).ownBlock ∧ some k_ ≠ (v379 : Value).ownBlock ∧ some k_ ≠ (.slice Ao81 t381.length co81 : Value).ownBlock ∧ k_ ≠ gb327 ∧ some k_ ≠ (v388 : Value).ownBlock) (Kd.R_keptB (HO363.out) hkp (fun k_ hk_ hs_ => (hk_.2) hs_)) (fun k_ hk_ => ⟨hk_.1.1.1.1, hk_.1.1.1.2.1, hk_.1.1.1.2.2.1, hk_.1.1.1.2.2.2.1, hk_.1.1.1.2.2.2.2.1, hk_.1.1.1.2.2.2.2.2.1, hk_.1.1.1.2.2.2.2.2.2.1, hk_.1.1.1.2.2.2.2.2.2.2.1, hk_.1.1.1.2.2.2.2.2.2.2.2.2, hk_.1.1.2, hk_.1.1.1.2.2.2.2.2.2.2.2.1, fun e_ => Or.elim (ho0.1 k_ e_.symm) (fun hs_ => hk_.2.1 hs_) (fun hn_ => Nat.not_le.2 hk_.2.2 hn_)⟩))
                   have n8_ := Aside0.mk (Kd.R_mono (ok' := fun k_ => some k_ ≠ (.slice Ao79 t333.length co79 : Value).ownBlock ∧ some k_ ≠ (.slice Ao56 y341.length co56 : Value).ownBlock ∧ some k_ ≠ (.slice Ao57 y344.length co57 : Value).ownBlock ∧ some k_ ≠ (.slice Ao66 t347.length co66 : Value).ownBlock ∧ some k_ ≠ (.slice Ao63 y354.length co63 : Value).ownBlock ∧ some k_ ≠ (.slice Ao72 t357.length co72 : Value).ownBlock ∧ some k_ ≠ (.slice Ao68 t361.length co68 : Value).ownBlock ∧ some k_ ≠ (.slice Ao75 t372.length co75 : Value).ownBlock ∧ some k_ ≠ (v379 : Value).ownBlock ∧ some k_ ≠ (.slice Ao81 t381.length co81 : Value).ownBlock ∧ k_ ≠ gb327 ∧ some k_ ≠ (v388 : Value).ownBlock) (Kd.R_keptB (HO366.out) hkp (fun k_ hk_ hs_ => (hk_.2) hs_)) (fun k_ hk_ => ⟨hk_.1.1.1.1, hk_.1.1.1.2.1, hk_.1.1.1.2.2.1, hk_.1.1.1.2.2.2.1, hk_.1.1.1.2.2.2.2.1, hk_.1.1.1.2.2.2.2.2.1, hk_.1.1.1.2.2.2.2.2.2.1, hk_.1.1.1.2.2.2.2.2.2.2.1, hk_.1.1.1.2.2.2.2.2.2.2.2.2, hk_.1.1.2, hk_.1.1.1.2.2.2.2.2.2.2.2.1, fun e_ => Or.elim (ho0.1 k_ e_.symm) (fun hs_ => hk_.2.1 hs_) (fun hn_ => Nat.not_le.2 hk_.2.2 hn_)⟩))
                   have n9_ := Aside0.mk (Kd.R_mono (ok' := fun k_ => some k_ ≠ (.slice Ao79 t333.length co79 : Value).ownBlock ∧ some k_ ≠ (.slice Ao56 y341.length co56 : Value).ownBlock ∧ some k_ ≠ (.slice Ao57 y344.length co57 : Value).ownBlock ∧ some k_ ≠ (.slice Ao66 t347.length co66 : Value).ownBlock ∧ some k_ ≠ (.slice Ao63 y354.length co63 : Value).ownBlock ∧ some k_ ≠ (.slice Ao72 t357.length co72 : Value).ownBlock ∧ some k_ ≠ (.slice Ao68 t361.length co68 : Value).ownBlock ∧ some k_ ≠ (.slice (some ad369) t364.length co73 : Value).ownBlock ∧ some k_ ≠ (v379 : Value).ownBlock ∧ some k_ ≠ (.slice Ao81 t381.length co81 : Value).ownBlock ∧ k_ ≠ gb327 ∧ some k_ ≠ (v388 : Value).ownBlock) (Kd.R_keptB (HO374.out) hkp (fun k_ hk_ hs_ => (hk_.2) hs_)) (fun k_ hk_ => ⟨hk_.1.1.1.1, hk_.1.1.1.2.1, hk_.1.1.1.2.2.1, hk_.1.1.1.2.2.2.1, hk_.1.1.1.2.2.2.2.1, hk_.1.1.1.2.2.2.2.2.1, hk_.1.1.1.2.2.2.2.2.2.1, hk_.1.1.1.2.2.2.2.2.2.2.1, hk_.1.1.1.2.2.2.2.2.2.2.2.2, hk_.1.1.2, hk_.1.1.1.2.2.2.2.2.2.2.2.1, fun e_ => Or.elim (ho0.1 k_ e_.symm) (fun hs_ => hk_.2.1 hs_) (fun hn_ => Nat.not_le.2 hk_.2.2 hn_)⟩))
                   have n10_ := Aside0.mk (Kd.R_mono (ok' := fun k_ => some k_ ≠ (.slice Ao79 t333.length co79 : Value).ownBlock ∧ some k_ ≠ (.slice Ao56 y341.length co56 : Value).ownBlock ∧ some k_ ≠ (.slice Ao57 y344.length co57 : Value).ownBlock ∧ some k_ ≠ (.slice Ao66 t347.length co66 : Value).ownBlock ∧ some k_ ≠ (.slice Ao63 y354.length co63 : Value).ownBlock ∧ some k_ ≠ (.slice Ao72 t357.length co72 : Value).ownBlock ∧ some k_ ≠ (.slice Ao68 t361.length co68 : Value).ownBlock ∧ some k_ ≠ (.slice (some ad369) t364.length co73 : Value).ownBlock ∧ some k_ ≠ (.slice Ao75 t372.length co75 : Value).ownBlock ∧ some k_ ≠ (.slice Ao81 t381.length co81 : Value).ownBlock ∧ k_ ≠ gb327 ∧ some k_ ≠ (v388 : Value).ownBlock) (Kd.R_keptB (HO380.out) hkp (fun k_ hk_ hs_ => (hk_.2) hs_)) (fun k_ hk_ => ⟨hk_.1.1.1.1, hk_.1.1.1.2.1, hk_.1.1.1.2.2.1, hk_.1.1.1.2.2.2.1, hk_.1.1.1.2.2.2.2.1, hk_.1.1.1.2.2.2.2.2.1, hk_.1.1.1.2.2.2.2.2.2.1, hk_.1.1.1.2.2.2.2.2.2.2.1, hk_.1.1.1.2.2.2.2.2.2.2.2.1, hk_.1.1.2, hk_.1.1.1.2.2.2.2.2.2.2.2.2, fun e_ => Or.elim (ho0.1 k_ e_.symm) (fun hs_ => hk_.2.1 hs_) (fun hn_ => Nat.not_le.2 hk_.2.2 hn_)⟩))
                   have n11_ := Aside0.mk (Kd.R_mono (ok' := fun k_ => some k_ ≠ (.slice Ao79 t333.length co79 : Value).ownBlock ∧ some k_ ≠ (.slice Ao56 y341.length co56 : Value).ownBlock ∧ some k_ ≠ (.slice Ao57 y344.length co57 : Value).ownBlock ∧ some k_ ≠ (.slice Ao66 t347.length co66 : Value).ownBlock ∧ some k_ ≠ (.slice Ao63 y354.length co63 : Value).ownBlock ∧ some k_ ≠ (.slice Ao72 t357.length co72 : Value).ownBlock ∧ some k_ ≠ (.slice Ao68 t361.length co68 : Value).ownBlock ∧ some k_ ≠ (.slice (some ad369) t364.length co73 : Value).ownBlock ∧ some k_ ≠ (.slice Ao75 t372.length co75 : Value).ownBlock ∧ some k_ ≠ (v379 : Value).ownBlock ∧ k_ ≠ gb327 ∧ some k_ ≠ (v388 : Value).ownBlock) (Kd.R_keptB (HO383.out) hkp (fun k_ hk_ hs_ => (hk_.2) hs_)) (fun k_ hk_ => ⟨hk_.1.1.1.1.1.1.1.1.1.1.1.1.2, hk_.1.1.1.1.1.1.1.1.1.1.1.2, hk_.1.1.1.1.1.1.1.1.1.1.2, hk_.1.1.1.1.1.1.1.1.1.2, hk_.1.1.1.1.1.1.1.1.2, hk_.1.1.1.1.1.1.1.2, hk_.1.1.1.1.1.1.2, hk_.1.1.1.1.1.2, hk_.1.1.1.1.2, hk_.1.1.1.2, hk_.1.1.2, fun e_ => Or.elim (ho0.1 k_ e_.symm) (fun hs_ => hk_.2.1 hs_) (fun hn_ => Nat.not_le.2 hk_.2.2 hn_)⟩))
                   have n12_ := Aside0.mk (Kd.R_mono (ok' := fun k_ => some k_ ≠ (.slice Ao79 t333.length co79 : Value).ownBlock ∧ some k_ ≠ (.slice Ao56 y341.length co56 : Value).ownBlock ∧ some k_ ≠ (.slice Ao57 y344.length co57 : Value).ownBlock ∧ some k_ ≠ (.slice Ao66 t347.length co66 : Value).ownBlock ∧ some k_ ≠ (.slice Ao63 y354.length co63 : Value).ownBlock ∧ some k_ ≠ (.slice Ao72 t357.length co72 : Value).ownBlock ∧ some k_ ≠ (.slice Ao68 t361.length co68 : Value).ownBlock ∧ some k_ ≠ (.slice (some ad369) t364.length co73 : Value).ownBlock ∧ some k_ ≠ (.slice Ao75 t372.length co75 : Value).ownBlock ∧ some k_ ≠ (v379 : Value).ownBlock ∧ some k_ ≠ (.slice Ao81 t381.length co81 : Value).ownBlock ∧ k_ ≠ gb327) ho0 (fun k_ hk_ => ⟨Or.elim hk_ (fun hs_ => fun e_ => (((HO_7.out).1 k_ e_.symm).2) hs_) (fun hn_ => (Kd.fresh' (Kd.R_lt (by (with_reducible repeat (first | apply Kd.R_alloc | apply Kd.R_drewN | apply Kd.R_drew)); exact HO_7.out)) k_ hn_)), Or.elim hk_ (fun hs_ => fun e_ => (((HO343.out).1 k_ e_.symm).2) hs_) (fun hn_ => (Kd.fresh' (Kd.R_lt (by (with_reducible repeat (first | apply Kd.R_alloc | apply Kd.R_drewN | apply Kd.R_drew)); exact HO343.out)) k_ hn_)), Or.elim hk_ (fun hs_ => fun e_ => (((HO346.out).1 k_ e_.symm).2) hs_) (fun hn_ => (Kd.fresh' (Kd.R_lt (by (with_reducible repeat (first | apply Kd.R_alloc | apply Kd.R_drewN | apply Kd.R_drew)); exact HO346.out)) k_ hn_)), Or.elim hk_ (fun hs_ => fun e_ => (((HO350.out).1 k_ e_.symm).2) hs_) (fun hn_ => (Kd.fresh' (Kd.R_lt (by (with_reducible repeat (first | apply Kd.R_alloc | apply Kd.R_drewN | apply Kd.R_drew)); exact HO350.out)) k_ hn_)), Or.elim hk_ (fun hs_ => fun e_ => (((HO356.out).1 k_ e_.symm).2) hs_) (fun hn_ => (Kd.fresh' (Kd.R_lt (by (with_reducible repeat (first | apply Kd.R_alloc | apply Kd.R_drewN | apply Kd.R_drew)); exact HO356.out)) k_ hn_)), Or.elim hk_ (fun hs_ => fun e_ => (((HO360.out).1 k_ e_.symm).2) hs_) (fun hn_ => (Kd.fresh' (Kd.R_lt (by (with_reducible repeat (first | apply Kd.R_alloc | apply Kd.R_drewN | apply Kd.R_drew)); exact HO360.out)) k_ hn_)), Or.elim hk_ (fun hs_ => fun e_ => (((HO363.out).1 k_ e_.symm).2) hs_) (fun hn_ => (Kd.fresh' (Kd.R_lt (by (with_reducible repeat (first | apply Kd.R_alloc | apply Kd.R_drewN | apply Kd.R_drew)); exact HO363.out)) k_ hn_)), Or.elim hk_ (fun hs_ => fun e_ => (((HO366.out).1 k_ e_.symm).2) hs_) (fun hn_ => (Kd.fresh' (Kd.R_lt (by (with_reducible repeat (first | apply Kd.R_alloc | apply Kd.R_drewN | apply Kd.R_drew)); exact HO366.out)) k_ hn_)), Or.elim hk_ (fun hs_ => fun e_ => (((HO374.out).1 k_ e_.symm).2) hs_) (fun hn_ => (Kd.fresh' (Kd.R_lt (by (with_reducible repeat (first | apply Kd.R_alloc | apply Kd.R_drewN | apply Kd.R_drew)); exact HO374.out)) k_ hn_)), Or.elim hk_ (fun hs_ => fun e_ => (((HO380.out).1 k_ e_.symm).2) hs_) (fun hn_ => (Kd.fresh' (Kd.R_lt (by (with_reducible repeat (first | apply Kd.R_alloc | apply Kd.R_drewN | apply Kd.R_drew)); exact HO380.out)) k_ hn_)), Or.elim hk_ (fun hs_ => fun e_ => (((HO383.out).1 k_ e_.symm).2) hs_) (fun hn_ => (Kd.fresh' (Kd.R_lt (by (with_reducible repeat (first | apply Kd.R_alloc | apply Kd.R_drewN | apply Kd.R_drew)); exact HO383.out)) k_ hn_)), Or.elim hk_ (fun hs_ => fun e_ => (Kd.R_away HO386.out (fun _ hk => hk.2)) (by rw [← e_]; exact hs_)) (fun hn_ => (Kd.freshB (g := gb327) (o := .cells #[.int .i64 a1_0, .int .i64 a1_1, .int .i64 a1_2, .int .i64 (wrap64 (x5_1 + 1))] 63 (0, 0)) (by (with_reducible repeat (first | refine blk_drewN ?_ _ | refine blk_drew ?_ | refine blk_alloc ?_ _)); exact BK327.out) k_ hn_))⟩))
                   have n13_ := Aside0.mk (hb)
                   clear HO_7
                   clear BK327
                   clear HO343
                   clear HO346
                   clear HO350
                   clear HO356
                   clear HO360
                   clear HO363
                   clear HO366
                   clear HO374
                   clear HO380
                   clear HO383
                   clear HB
                   clear HO386
                   have HO_7 := n0_
                   have BK327 := n1_
                   have HO343 := n2_
                   have HO346 := n3_
                   have HO350 := n4_
                   have HO356 := n5_
                   have HO360 := n6_
                   have HO363 := n7_
                   have HO366 := n8_
                   have HO374 := n9_
                   have HO380 := n10_
                   have HO383 := n11_
                   have HO389 := n12_
                   have HB := n13_
                   clear n0_ n1_ n2_ n3_ n4_ n5_ n6_ n7_ n8_ n9_ n10_ n11_ n12_ n13_
                   (try clear hb)
                   (try clear hkp)
                   (try clear ho0)
                   obtain ⟨Ao85, co85, eo85⟩ := Kd.R_slice HO380.out
                   (first | subst eo85 | (injection eo85 with f1_ f2_ f3_; have f4_ := f1_.symm; have f5_ := f3_.symm; clear f1_ f2_ f3_; subst f4_; subst f5_))
                   obtain ⟨Ao86, co86, eo86⟩ := Kd.R_slice HO389.out
                   (first | subst eo86 | (injection eo86 with f1_ f2_ f3_; have f4_ := f1_.symm; have f5_ := f3_.symm; clear f1_ f2_ f3_; subst f4_; subst f5_))
                   refine hK.out _ _ ⟨(blk_cell BK327.out 0).trans rfl, (blk_cell BK327.out 1).trans rfl, (blk_cell BK327.out 2).trans rfl, (blk_cell BK327.out 3).trans rfl, HS4_, HS5_, HS6_, HS7_, HS8_, HS9_, HS10_, HS11_, HS12_, HS13_, HS14_, HS15_⟩ (fun hHeld => ?_)
                   clear hK K
                   refine norm_ (a' := ?_) ?_ ?_
                   rotate_left
                   ·show Act.put _ (some 136) _ = _
                    simp only [Act.put, List.setIfInBounds_toArray, List.set_cons_zero, List.set_cons_succ, i64_w, i32_w]
                    rfl
                   refine one_ (i := 59) (N := some 137) #[true, true, true, true, true, true, true, true, true, true, true, true, true, true, true, true, true, true, true, true, true, true, true, true, true, true, true, true, true, true, true, true, true, true, true, true, true, true, true, true, true, true, true, true, true, true, true, true, true, true, true, true, true, true, true, true, true, true, true, true, false, false] rfl rfl (one_of HT_.out (by kernel_rfl)) (by decide) (fun K hK => ?_)
                   refine goes_ Try.func26 (by kernel_rfl) rfl #[.slice Ao85 t378.length co85, .slice Ao86 t387.length co86] (by rfl) rfl rfl (by (try simp only [List.map_toArray, List.map_cons, List.map_nil]); first | done | rfl | (simp only [List.length_drop, List.length_take]; rfl)) ?_
                   with_reducible refine (newelref13_Same.calls kj12 _ _ t378 _ _ t387 t390 _ ?side1 ?side2 ?side3 ?side4 A47.out).mono ?_
                   (case side1 => repeat (first | exact (Kd.R_reads' HO380.out).2.2 | (with_reducible refine Kd.C_alloc ?_ _) | (with_reducible refine Kd.C_drewN ?_ _) | (with_reducible refine Kd.C_drew ?_)))
                   (case side2 => exact (Kd.R_reads' HO380.out).2.1)
                   (case side3 => repeat (first | exact (Kd.R_reads' HO389.out).2.2 | (with_reducible refine Kd.C_alloc ?_ _) | (with_reducible refine Kd.C_drewN ?_ _) | (with_reducible refine Kd.C_drew ?_)))
                   (case side4 => exact (Kd.R_reads' HO389.out).2.1)
                   rintro e w' ⟨rfl, ⟨nd, rfl⟩⟩
                   refine ⟨_, rfl, ?_⟩
                   refine hK.out _ _ ⟨(blk_cell BK327.out 0).trans rfl, (blk_cell BK327.out 1).trans rfl, (blk_cell BK327.out 2).trans rfl, (blk_cell BK327.out 3).trans rfl, hHeld.2.2.2.2.1, hHeld.2.2.2.2.2.1, hHeld.2.2.2.2.2.2.1, hHeld.2.2.2.2.2.2.2.1, hHeld.2.2.2.2.2.2.2.2.1, hHeld.2.2.2.2.2.2.2.2.2.1, hHeld.2.2.2.2.2.2.2.2.2.2.1, hHeld.2.2.2.2.2.2.2.2.2.2.2.1, hHeld.2.2.2.2.2.2.2.2.2.2.2.2.1, hHeld.2.2.2.2.2.2.2.2.2.2.2.2.2.1, hHeld.2.2.2.2.2.2.2.2.2.2.2.2.2.2.1, hHeld.2.2.2.2.2.2.2.2.2.2.2.2.2.2.2⟩ (fun hHeld => ?_)
                   clear hK K
                   refine norm_ (a' := ?_) ?_ ?_
                   rotate_left
                   ·show Act.put _ (some 137) _ = _
                    simp only [Act.put, List.setIfInBounds_toArray, List.set_cons_zero, List.set_cons_succ, i64_w, i32_w]
                    rfl
                   refine pure_ (i := 60) (N := some 138) (v := ?_) (a' := ?_) #[true, true, true, true, true, true, true, true, true, true, true, true, true, true, true, true, true, true, true, true, true, true, true, true, true, true, true, true, true, true, true, true, true, true, true, true, true, true, true, true, true, true, true, true, true, true, true, true, true, true, true, true, true, true, true, true, true, true, true, true, true, false] rfl rfl (any_of HT_.out (by kernel_rfl)) (fun _ _ _ h => h) (Or.inl ⟨by rfl, ?_⟩) ?_ ?_
                   rotate_left
                   ·intro w'
                    go_simp
                    with_reducible rfl
                   rotate_left
                   ·simp only [Act.put, List.setIfInBounds_toArray, List.set_cons_zero, List.set_cons_succ, i64_w, i32_w]
                    rfl
                   refine pure_ (i := 61) (N := some 4) (v := ?_) (a' := ?_) #[true, true, true, true, true, true, true, true, true, true, true, true, true, true, true, true, true, true, true, true, true, true, true, true, true, true, true, true, true, true, true, true, true, true, true, true, true, true, true, true, true, true, true, true, true, true, true, true, true, true, true, true, true, true, true, true, true, true, true, true, true, true] rfl rfl (any_of HT_.out (by kernel_rfl)) (fun _ _ _ h => h) (Or.inl ⟨by rfl, ?_⟩) ?_ ?_
                   rotate_left
                   ·intro w'
                    go_simp
                    with_reducible rfl
                   rotate_left
                   ·simp only [Act.put, List.setIfInBounds_toArray, List.set_cons_zero, List.set_cons_succ, i64_w, i32_w]
                    rfl
                   refine done_ (done_of HT_.out (by kernel_rfl)) ?_
                   try go_wp2
                   go_ret
                   exact ⟨by first | rfl | (simp [errW_none, errW_some] <;> rfl) | (simp [*, errW_none, errW_some] <;> rfl), by repeat (first | (with_reducible first | exact HB.out | apply below_alloc | apply pw_below_drewN | apply below_drew1 | refine below_set ?_ GE327.out) | exact HB.out)⟩
                  ·rw [if_neg c40] at H
                   exact absurd H (by simp)
                 ·rw [if_neg c39] at H
                  exact absurd H (by simp)
                ·rw [if_neg c38] at H
                 exact absurd H (by simp)
               ·rw [if_neg c37] at H
                exact absurd H (by simp)
              ·rw [if_neg c36] at H
               exact absurd H (by simp)
             ·replace c35 := Bool.eq_false_iff.mpr c35
              subst c35
              have H1 : (none) = some r := by rw [if_neg (show ¬ (false = true) by decide)] at H; exact H
              clear H
              have H := H1
              clear H1
              exact absurd H (by simp)
            ·rw [if_neg c33] at H
             exact absurd H (by simp)
           ·rw [if_neg c32] at H
            exact absurd H (by simp)
          ·replace c31 := Bool.eq_false_iff.mpr c31
           subst c31
           have H1 : (none) = some r := by rw [if_neg (show ¬ (false = true) by decide)] at H; exact H
           clear H
           have H := H1
           clear H1
           exact absurd H (by simp)
         ·rw [if_neg c26] at H
          exact absurd H (by simp)
        ·rw [if_neg c24] at H
         exact absurd H (by simp)

end Go.Proofs.Ytopmmbopankpgaa.H
