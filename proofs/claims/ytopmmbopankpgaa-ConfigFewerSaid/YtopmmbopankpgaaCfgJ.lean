/- What config.Fits answers; newellaw10's Own, newelref10's Few. -/
import Derived.Test.YtopmmbopankpgaaCfgI
import Derived.Deep.DeepCutAuto
import Derived.Test.YtopmmbopankpgaaWGuard
namespace Go.Proofs.Ytopmmbopankpgaa
open Go.RowKit Go.Proofs.YtopmmbopankpgaaW.PrintWords Go.Proofs.YtopmmbopankpgaaW.PrintLast Go.Proofs.YtopmmbopankpgaaW.PrintMore
set_option linter.unusedVariables false
set_option linter.unusedSimpArgs false

def fewC (c : Cfg) : Bool := decide (c.stops.length ≤ 80) && decide (c.wins.length ≤ 20)
theorem few_any (c : Cfg) (A B : Option Addr) (ca cb : Nat) (w : World) :
    Calls Try.prog 11 #[.agg (cfgA c (.slice A c.stops.length ca) (.slice B c.wins.length cb))] w fun e w' => e = .returned (.bool (fewC c)) ∧ Below w.heap.size w w' := by
  unfold fewC
  by_cases h : c.stops.length ≤ 80
  · have h' : decide ((c.stops.length : Int) ≤ 80) = true := by simp; omega
    go_enter Try.func11, Try.ntmps11
    go_wp2
    go_ret
    exact ⟨by simp [h]; omega, by repeat (first | exact Below.refl _ _ | apply below_alloc)⟩
  · have h' : decide ((c.stops.length : Int) ≤ 80) = false := by simp; omega
    go_enter Try.func11, Try.ntmps11
    go_wp2
    go_ret
    exact ⟨by simp [h], by repeat (first | exact Below.refl _ _ | apply below_alloc)⟩
theorem two2 (p q : Bool) : p = false ∨ (p = true ∧ q = false) ∨ (p = true ∧ q = true) := by
  cases p <;> cases q <;> simp
def fitsC (a b : Cfg) : Bool := decide (chkE a = 0) && (decide (chkE b = 0) && (a.floors == b.floors && a.cars == b.cars))
set_option maxRecDepth 100000 in
set_option maxHeartbeats 4000000 in
theorem fits_any (a b : Cfg) (A B A' B' : Option Addr) (ca cb ca' cb' : Nat) (w : World) (ha : Kd.C (Kd.int .i64) w A a.stops.length a.stops) (ha' : Kd.C kWin w A' a.wins.length a.wins) (hb : Kd.C (Kd.int .i64) w B b.stops.length b.stops) (hb' : Kd.C kWin w B' b.wins.length b.wins) :
    Calls Try.prog 15 #[.agg (cfgA a (.slice A a.stops.length ca) (.slice A' a.wins.length ca')), .agg (cfgA b (.slice B b.stops.length cb) (.slice B' b.wins.length cb'))] w fun e w' => e = .returned (.bool (fitsC a b)) ∧ Below w.heap.size w w' := by
  have HA := Aside0.mk ha
  have HA' := Aside0.mk ha'
  have HC := Aside0.mk hb
  have HC' := Aside0.mk hb'
  clear ha ha' hb hb'
  have HX : Aside0 (∃ x, x = chkE a) := ⟨_, rfl⟩
  obtain ⟨x, hx⟩ := HX.out
  obtain ⟨y, hy⟩ : ∃ y, y = chkE b := ⟨_, rfl⟩
  have HE : Aside0 (fitsC a b = (decide (x = 0) && (decide (y = 0) && (a.floors == b.floors && a.cars == b.cars)))) := ⟨by rw [hx, hy]; rfl⟩
  clear HX
  have HX := Aside0.mk hx
  have HY := Aside0.mk hy
  clear hx hy
  obtain ⟨W, hW⟩ : ∃ W, W = (w.alloc (.cells (cfgA a (.slice A a.stops.length ca) (.slice A' a.wins.length ca')) 33)).alloc (.cells (cfgA b (.slice B b.stops.length cb) (.slice B' b.wins.length cb')) 33) := ⟨_, rfl⟩
  have HB : Aside0 (Below w.heap.size w W) := ⟨by rw [hW]; exact below_alloc (below_alloc (Below.refl _ _) _) _⟩
  have BKg : Aside0 (W.heap[w.heap.size]? = some (.cells (cfgA a (.slice A a.stops.length ca) (.slice A' a.wins.length ca')) 33 (0, 0))) := ⟨by rw [hW]; exact blk_alloc (heap_alloc_new w _) _⟩
  have BKh : Aside0 (W.heap[w.heap.size + 1]? = some (.cells (cfgA b (.slice B b.stops.length cb) (.slice B' b.wins.length cb')) 33 (0, 0))) := ⟨by
    rw [hW]
    have := heap_alloc_new (w.alloc (.cells (cfgA a (.slice A a.stops.length ca) (.slice A' a.wins.length ca')) 33)) (.cells (cfgA b (.slice B b.stops.length cb) (.slice B' b.wins.length cb')) 33)
    rwa [show (w.alloc (.cells (cfgA a (.slice A a.stops.length ca) (.slice A' a.wins.length ca')) 33)).heap.size = w.heap.size + 1 by simp] at this⟩
  go_enter Try.func15, Try.ntmps15
  go_upto_region 1 with fail
  rw [← hW]
  clear hW
  rcases two2 (decide (x = 0)) (decide (y = 0)) with h0 | ⟨h0, h1⟩ | ⟨h0, h1⟩
  · rw [h0] at HE
    have h0' : (x == 0) = false := by simpa using h0
    clear h0
    go_wp2_with (first | ((with_reducible refine gate_dst (N := 5) rfl ?_); refine wpList_load_row rfl 33 _ rfl w.heap.size rfl 33 _ (0, 0) _ (BKg.out) Try.underlying33 rfl (by kernel_rfl) ?_) | (go_at_call 12; refine (chk_any a A A' ca ca' _ (Kd.C_below HA.out HB.out) (Kd.C_below HA'.out HB.out)).mono ?_; rw [← HX.out]; rintro e w' ⟨rfl, hb⟩; have n0_ := Aside0.mk (below_step HB.out hb); have n1_ := Aside0.mk (blk_step BKg.out hb); have n2_ := Aside0.mk (blk_step BKh.out hb); clear hb HB BKg BKh; have HB := n0_; have BKg := n1_; have BKh := n2_; clear n0_ n1_ n2_; have TOK : True := trivial))
    go_ret
    exact ⟨by rw [HE.out]; rfl, HB.out⟩
  · rw [h0, h1] at HE
    have h0' : (x == 0) = true := by simpa using h0
    have h1' : (y == 0) = false := by simpa using h1
    clear h0 h1
    go_wp2_with (first | ((with_reducible refine gate_dst (N := 5) rfl ?_); refine wpList_load_row rfl 33 _ rfl w.heap.size rfl 33 _ (0, 0) _ (BKg.out) Try.underlying33 rfl (by kernel_rfl) ?_) | ((with_reducible refine gate_dst (N := 9) rfl ?_); refine gate_guard (by rfl) ?_; refine wpList_load_row rfl 33 _ rfl (w.heap.size + 1) rfl 33 _ (0, 0) _ (BKh.out) Try.underlying33 rfl (by kernel_rfl) ?_) | (go_at_call 12; have _t := TOK; refine (chk_any b B B' cb cb' _ (Kd.C_below HC.out HB.out) (Kd.C_below HC'.out HB.out)).mono ?_; rw [← HY.out]; rintro e w' ⟨rfl, hb⟩; have n0_ := Aside0.mk (below_step HB.out hb); have n1_ := Aside0.mk (blk_step BKg.out hb); have n2_ := Aside0.mk (blk_step BKh.out hb); clear hb HB BKg BKh; have HB := n0_; have BKg := n1_; have BKh := n2_; clear n0_ n1_ n2_; have hck := blk_cell BKg.out; have hck2 := blk_cell BKh.out) | (go_at_call 12; refine (chk_any a A A' ca ca' _ (Kd.C_below HA.out HB.out) (Kd.C_below HA'.out HB.out)).mono ?_; rw [← HX.out]; rintro e w' ⟨rfl, hb⟩; have n0_ := Aside0.mk (below_step HB.out hb); have n1_ := Aside0.mk (blk_step BKg.out hb); have n2_ := Aside0.mk (blk_step BKh.out hb); clear hb HB BKg BKh; have HB := n0_; have BKg := n1_; have BKh := n2_; clear n0_ n1_ n2_; have TOK : True := trivial))
    go_ret
    exact ⟨by rw [HE.out]; rfl, HB.out⟩
  · rw [h0, h1] at HE
    have h0' : (x == 0) = true := by simpa using h0
    have h1' : (y == 0) = true := by simpa using h1
    clear h0 h1
    cases h2 : (a.floors == b.floors)
    all_goals
      go_wp2_with (first | ((with_reducible refine gate_dst (N := 5) rfl ?_); refine wpList_load_row rfl 33 _ rfl w.heap.size rfl 33 _ (0, 0) _ (BKg.out) Try.underlying33 rfl (by kernel_rfl) ?_) | ((with_reducible refine gate_dst (N := 9) rfl ?_); refine gate_guard (by rfl) ?_; refine wpList_load_row rfl 33 _ rfl (w.heap.size + 1) rfl 33 _ (0, 0) _ (BKh.out) Try.underlying33 rfl (by kernel_rfl) ?_) | (go_at_call 12; have _t := TOK; refine (chk_any b B B' cb cb' _ (Kd.C_below HC.out HB.out) (Kd.C_below HC'.out HB.out)).mono ?_; rw [← HY.out]; rintro e w' ⟨rfl, hb⟩; have n0_ := Aside0.mk (below_step HB.out hb); have n1_ := Aside0.mk (blk_step BKg.out hb); have n2_ := Aside0.mk (blk_step BKh.out hb); clear hb HB BKg BKh; have HB := n0_; have BKg := n1_; have BKh := n2_; clear n0_ n1_ n2_; have hck := blk_cell BKg.out; have hck2 := blk_cell BKh.out) | (go_at_call 12; refine (chk_any a A A' ca ca' _ (Kd.C_below HA.out HB.out) (Kd.C_below HA'.out HB.out)).mono ?_; rw [← HX.out]; rintro e w' ⟨rfl, hb⟩; have n0_ := Aside0.mk (below_step HB.out hb); have n1_ := Aside0.mk (blk_step BKg.out hb); have n2_ := Aside0.mk (blk_step BKh.out hb); clear hb HB BKg BKh; have HB := n0_; have BKg := n1_; have BKh := n2_; clear n0_ n1_ n2_; have TOK : True := trivial))
      go_ret
      exact ⟨by rw [HE.out]; simp [h2], HB.out⟩
end Go.Proofs.Ytopmmbopankpgaa
