/- Spans: span.At. -/
import Derived.Test.YtopmmbopankpgaaHsb
import Derived.Deep.WholeRow
import Derived.Deep.DeepCutAuto
import Derived.Laws.Rows
import Derived.Laws.CopyOwn
import Derived.Laws.Tables
namespace Go.Proofs.Ytopmmbopankpgaa.H
open Go.RowKit Go.Proofs.Ytopmmbopankpgaa Go.Proofs.YtopmmbopankpgaaW.PrintWords Go.Proofs.YtopmmbopankpgaaW.PrintLast Go.Proofs.YtopmmbopankpgaaW.PrintMore SpTh
set_option linter.unusedVariables false
set_option linter.unusedSimpArgs false

theorem inC_any (s : Spn) (t : Int) (g : Nat) (w : World) (hg : w.heap[g]? = some (.cells #[.int .i64 t] 3 (0, 0))) :
    Calls Try.prog 60 #[.agg (spnA s), .pointer (some ⟨g, 0, none⟩)] w fun e w' => e = .returned (.bool (inS s t)) ∧ Below w.heap.size w w' := by
  have hc : (w.alloc (.cells (spnA s) 63)).cell? ⟨g, 0, none⟩ = some (.int .i64 t) := by rw [blk_cell (blk_alloc hg _)]; rfl
  clear hg
  go_enter Try.func60, Try.ntmps60
  go_wp2_with (go_at_call 61; (with_reducible refine (inS_any s t _).mono ?_); rintro e w' ⟨rfl, hb⟩)
  go_ret
  exact ⟨rfl, below_step ((Below.refl _ _).alloc (Nat.le_refl _) _) hb⟩
set_option maxHeartbeats 1000000 in
theorem idxIn_any (A : Option Addr) (cap : Nat) (xs : List Spn) (t : Int) (g : Nat) (w : World) (hr : Kd.C kSpn w A xs.length xs) (hg : w.heap[g]? = some (.cells #[.int .i64 t] 3 (0, 0))) :
    Calls Try.prog 59 #[.slice A xs.length cap, .func (.func 60) #[] #[.pointer (some ⟨g, 0, none⟩)]] w fun e w' => e = .returned (.int .i64 (idxP (inS · t) xs xs.length)) ∧ Below w.heap.size w w' := by
  obtain ⟨n, hn⟩ : ∃ n, n = xs.length := ⟨_, rfl⟩
  have hm : n ≤ 9223372036854775807 := by have := hr.2.1; omega
  have HR := Aside0.mk hr
  have HG := Aside0.mk hg
  clear hr hg
  rw [← hn] at HR ⊢
  have HN := Aside0.mk hn
  clear hn
  go_enter Try.func59, Try.ntmps59
  go_wp2_with fail
  go_loopw [8] (fun i wr => ∃ k : Nat, k ≤ n ∧ i = .int .i64 k ∧ Aside0 (idxP (inS · t) xs k = -1) ∧ Aside0 (Below w.heap.size w wr)) (fun i _ => n - (intOf i).toNat)
  case atStart => exact ⟨0, Nat.zero_le _, rfl, ⟨rfl⟩, ⟨Below.refl _ _⟩⟩
  case round =>
    obtain ⟨k, hk, rfl, HI, HB⟩ := hrel
    by_cases hlt : k < n
    · obtain ⟨ad, e, hc0, hc1, hc2, hc3⟩ := at_Spn (Kd.C_below HR.out HB.out) k hlt
      subst e
      cases ho : inS (rdS xs k) t
      all_goals
        go_wp2_with (go_at_call 60; (with_reducible refine (inC_any (rdS xs k) t g _ ((HB.out.block g (blk_lt HG.out)).trans HG.out)).mono ?_); rintro e w' ⟨rfl, hb⟩)
        first
        | (go_ret; exact ⟨by rw [idxP_found (f := (inS · t)) HI.out ho hlt]; rfl, below_step HB.out hb⟩)
        | (go_roundw
           case rel => exact ⟨k + 1, by omega, by go_num, ⟨by simp only [idxP]; rw [if_pos HI.out]; simp [ho]⟩, ⟨below_step HB.out hb⟩⟩
           case measure => simp [intOf]; omega)
    · obtain rfl : k = n := by omega
      go_wp2
      go_ret
      exact ⟨by rw [HI.out]; rfl, HB.out⟩
theorem results_row_tmp {P : Program} {fn : Func} {p u : Tmp} {ty : TypeId} (h : fn.results = #[.cell p ty, .tmp u]) (tmps : Array Value) (w : World) (g : Nat) (t : TypeId) (cs : Array Value) (fr : Nat × Nat) (d : TypeDesc)
    (hp : tmps.getD p undef = .pointer (some ⟨g, 0, none⟩)) (hg : w.heap[g]? = some (.cells cs t fr))
    (hu : P.underlying ty = some d) (hd : (match d with | .struct _ | .array _ _ => true | _ => false) = true) (hi : (P.info? ty).map (·.size) = some cs.size) (v : Value) (hv : tmps.getD u undef = v) :
    (results fn tmps).run P w = .ok (.tuple #[.agg cs, v]) w := by
  have hp' : tmps[p]?.getD undef = .pointer (some ⟨g, 0, none⟩) := by simpa using hp
  subst hv
  simp [results, h, hp', asAddr, run_loadVar_row w g t ty cs fr d hg hu hd hi]
/-- The span of a row that an instant is in. -/
def atP (xs : List Spn) (t : Int) : Spn × Bool := if idxP (inS · t) xs xs.length < 0 then (zSpn, false) else (rdS xs (idxP (inS · t) xs xs.length).toNat, true)
set_option maxHeartbeats 1000000 in
theorem at_any (A : Option Addr) (cap : Nat) (xs : List Spn) (t : Int) (w : World) (hr : Kd.C kSpn w A xs.length xs) :
    Calls Try.prog 28 #[.slice A xs.length cap, .int .i64 t] w fun e w' => e = .returned (.tuple #[.agg (spnA (atP xs t).1), .bool (atP xs t).2]) ∧ Below w.heap.size w w' := by
  have HR := Aside0.mk hr
  clear hr
  obtain ⟨i, hi⟩ : ∃ i, i = idxP (inS · t) xs xs.length := ⟨_, rfl⟩
  have HI := Aside0.mk hi
  have HL : Aside0 (i < xs.length) := ⟨by rw [hi]; exact idxP_lt _ _ _⟩
  clear hi
  have HE : Aside0 (atP xs t = if i < 0 then (zSpn, false) else (rdS xs i.toNat, true)) := ⟨by rw [HI.out]; rfl⟩
  obtain ⟨W, hW⟩ : ∃ W, W = (w.alloc (.cells #[.int .i64 t] 3)).alloc (.cells #[.int .i64 0, .int .i64 0, .int .i64 0, .int .i64 0] 63) := ⟨_, rfl⟩
  have HB : Aside0 (Below w.heap.size w W) := ⟨by rw [hW]; exact below_alloc (below_alloc (Below.refl _ _) _) _⟩
  have BKg : Aside0 (W.heap[w.heap.size]? = some (.cells #[.int .i64 t] 3 (0, 0))) := ⟨by rw [hW]; exact blk_alloc (heap_alloc_new w _) _⟩
  have BKh : Aside0 (W.heap[w.heap.size + 1]? = some (.cells #[.int .i64 0, .int .i64 0, .int .i64 0, .int .i64 0] 63 (0, 0))) := ⟨by
    rw [hW]
    have := heap_alloc_new (w.alloc (.cells #[.int .i64 t] 3)) (.cells #[.int .i64 0, .int .i64 0, .int .i64 0, .int .i64 0] 63)
    rwa [show (w.alloc (.cells #[.int .i64 t] 3)).heap.size = w.heap.size + 1 by simp] at this⟩
  by_cases h : i < 0
  · have h' : decide (i < 0) = true := by simpa using h
    rw [if_pos h] at HE
    go_enter Try.func28, Try.ntmps28
    go_upto_region 1 with fail
    rw [← hW]
    clear hW
    go_wp2_with (first
      | (go_at_call 59; refine (idxIn_any A cap xs t w.heap.size _ (Kd.C_below HR.out HB.out) BKg.out).mono ?_; rw [← HI.out]; rintro e w' ⟨rfl, hb⟩; have n0_ := Aside0.mk (below_step HB.out hb); have n1_ := Aside0.mk (blk_step BKg.out hb); have n2_ := Aside0.mk (blk_step BKh.out hb); clear HB BKg BKh hb; have HB := n0_; have BKg := n1_; have BKh := n2_; clear n0_ n1_ n2_)
      | (refine wpList_store_row rfl 63 (.tmp 4) (.tmp 12) rfl (w.heap.size + 1) #[.int .i64 0, .int .i64 0, .int .i64 0, .int .i64 0] rfl rfl 63 _ BKh.out ?hi rfl ?h1 ?_; (case hi => kernel_rfl); (case h1 => kernel_rfl)))
    exact bodyPost_ret (v := .tuple #[.agg (spnA zSpn), .bool false]) (results_row_tmp rfl _ _ (w.heap.size + 1) 63 (spnA zSpn) (0, 0) _ rfl (setRow_heap _ _ _ _ _ _ BKh.out) Try.underlying63 rfl (by kernel_rfl) _ rfl) rfl ⟨by rw [HE.out], below_setRow HB.out (by omega) _⟩
  · have h' : decide (i < 0) = false := by simpa using h
    obtain ⟨k, hk⟩ : ∃ k : Nat, i = k := ⟨i.toNat, by omega⟩
    subst hk
    rw [if_neg h] at HE
    have hk : k < xs.length := by have := HL.out; omega
    obtain ⟨ad, e, hc0, hc1, hc2, hc3⟩ := at_Spn HR.out k hk
    have HC := Aside0.mk (at_Spn HR.out k hk)
    subst e
    clear hc0 hc1 hc2 hc3
    have hk2 : (k : Int) < (xs.length : Int) := by omega
    go_enter Try.func28, Try.ntmps28
    go_upto_region 1 with fail
    rw [← hW]
    clear hW
    go_wp2_with (first
      | (go_at_call 59; refine (idxIn_any _ cap xs t w.heap.size _ (Kd.C_below HR.out HB.out) BKg.out).mono ?_; rw [← HI.out]; rintro e w' ⟨rfl, hb⟩; have n0_ := Aside0.mk (below_step HB.out hb); have n1_ := Aside0.mk (blk_step BKg.out hb); have n2_ := Aside0.mk (blk_step BKh.out hb); clear HB BKg BKh hb; have HB := n0_; have BKg := n1_; have BKh := n2_; clear n0_ n1_ n2_; obtain ⟨ad', e', hc0, hc1, hc2, hc3⟩ := at_Spn (Kd.C_below HR.out HB.out) k hk; injection e' with e'; subst e')
      | (refine wpList_store_row rfl 63 (.tmp 4) (.tmp 16) rfl (w.heap.size + 1) (spnA (rdS xs k)) rfl rfl 63 _ BKh.out ?hi rfl ?h1 ?_; (case hi => kernel_rfl); (case h1 => kernel_rfl)))
    exact bodyPost_ret (v := .tuple #[.agg (spnA (rdS xs k)), .bool true]) (results_row_tmp rfl _ _ (w.heap.size + 1) 63 (spnA (rdS xs k)) (0, 0) _ rfl (setRow_heap _ _ _ _ _ _ BKh.out) Try.underlying63 rfl (by kernel_rfl) _ rfl) rfl ⟨by rw [HE.out]; rfl, below_setRow HB.out (by omega) _⟩
/-- The plain function, as the printed ones want it. -/
def span_At.f (l : List Spn) (t : Int) : Option (Int × Int × Int × Int × Bool) := some ((atP l t).1.f0, (atP l t).1.f1, (atP l t).1.f2, (atP l t).1.f3, (atP l t).2)
theorem span_At.calls (A0 : Option Addr) (c0 : Nat) (l0 : List Spn) (a1 : Int) (r1 r2 r3 r4 : Int) (r5 : Bool) (w : World) (hr0 : Kd.C kSpn w A0 l0.length l0) (hc0 : l0.length ≤ c0) (h : span_At.f l0 a1 = some (r1, r2, r3, r4, r5)) :
    Calls Try.prog 28 #[.slice A0 l0.length c0, .int .i64 a1] w fun e w' => e = .returned (.tuple #[.agg #[.int .i64 r1, .int .i64 r2, .int .i64 r3, .int .i64 r4], .bool r5]) ∧ Below w.heap.size w w' := by
  unfold span_At.f at h
  injection h with h
  injection h with h1 h
  injection h with h2 h
  injection h with h3 h
  injection h with h4 h5
  subst h1 h2 h3 h4 h5
  exact at_any A0 c0 l0 a1 w hr0
end Go.Proofs.Ytopmmbopankpgaa.H
