/- What config.Same and config.Fits answer; newellaw10's Own, newelref10's Few. -/
import Derived.Test.YtopmmbopankpgaaCfgH
import Derived.Deep.DeepCutAuto
namespace Go.Proofs.Ytopmmbopankpgaa
open Go.RowKit Go.Proofs.YtopmmbopankpgaaW.PrintWords Go.Proofs.YtopmmbopankpgaaW.PrintLast Go.Proofs.YtopmmbopankpgaaW.PrintMore
set_option linter.unusedVariables false
set_option linter.unusedSimpArgs false
attribute [local go_sem high] eqWinA eqTms eqZon eqSn

theorem three (p q r : Bool) : p = false ∨ (p = true ∧ q = false) ∨ (p = true ∧ q = true ∧ r = false) ∨ (p = true ∧ q = true ∧ r = true) := by
  cases p <;> cases q <;> cases r <;> simp
theorem eqI_any' (xs ys : List Int) (xv yv : Value) (A B : Option Addr) (ca cb : Nat) (w : World) (h1 : xv = .slice A xs.length ca) (h2 : yv = .slice B ys.length cb) (hx : Kd.C (Kd.int .i64) w A xs.length xs) (hy : Kd.C (Kd.int .i64) w B ys.length ys) :
    Calls Try.prog 43 #[xv, yv] w fun e w' => e = .returned (.bool (xs == ys)) ∧ ∃ n, w' = w.drewN n := by
  subst h1; subst h2; exact eqI_any A B ca cb xs ys w hx hy
theorem eqW_any' (xs ys : List Win) (xv yv : Value) (A B : Option Addr) (ca cb : Nat) (w : World) (h1 : xv = .slice A xs.length ca) (h2 : yv = .slice B ys.length cb) (hx : Kd.C kWin w A xs.length xs) (hy : Kd.C kWin w B ys.length ys) :
    Calls Try.prog 44 #[xv, yv] w fun e w' => e = .returned (.bool (eqWL xs ys)) ∧ ∃ n, w' = w.drewN n := by
  subst h1; subst h2; exact eqW_any A B ca cb xs ys w hx hy
set_option maxRecDepth 100000 in
set_option maxHeartbeats 4000000 in
theorem same_any (a b : Cfg) (A B A' B' : Option Addr) (ca cb ca' cb' : Nat) (w : World) (ha : Kd.C (Kd.int .i64) w A a.stops.length a.stops) (ha' : Kd.C kWin w A' a.wins.length a.wins) (hb : Kd.C (Kd.int .i64) w B b.stops.length b.stops) (hb' : Kd.C kWin w B' b.wins.length b.wins) :
    Calls Try.prog 16 #[.agg (cfgA a (.slice A a.stops.length ca) (.slice A' a.wins.length ca')), .agg (cfgA b (.slice B b.stops.length cb) (.slice B' b.wins.length cb'))] w fun e w' => e = .returned (.bool (sameC a b)) ∧ Below w.heap.size w w' := by
  obtain ⟨av, hav⟩ : ∃ v, v = Value.slice A a.stops.length ca := ⟨_, rfl⟩
  obtain ⟨av', hav'⟩ : ∃ v, v = Value.slice A' a.wins.length ca' := ⟨_, rfl⟩
  obtain ⟨bv, hbv⟩ : ∃ v, v = Value.slice B b.stops.length cb := ⟨_, rfl⟩
  obtain ⟨bv', hbv'⟩ : ∃ v, v = Value.slice B' b.wins.length cb' := ⟨_, rfl⟩
  have HA := Aside0.mk ha
  have HA' := Aside0.mk ha'
  have HC := Aside0.mk hb
  have HC' := Aside0.mk hb'
  clear ha ha' hb hb'
  rw [← hav, ← hav', ← hbv, ← hbv']
  have HAV := Aside0.mk hav
  have HAV' := Aside0.mk hav'
  have HBV := Aside0.mk hbv
  have HBV' := Aside0.mk hbv'
  clear hav hav' hbv hbv'
  obtain ⟨W, hW⟩ : ∃ W, W = (w.alloc (.cells (cfgA a av av') 33)).alloc (.cells (cfgA b bv bv') 33) := ⟨_, rfl⟩
  have HB : Below w.heap.size w W := by rw [hW]; exact below_alloc (below_alloc (Below.refl _ _) _) _
  have hck : ∀ i, W.cell? ⟨w.heap.size, i, none⟩ = (cfgA a av av')[i]? := by rw [hW]; exact blk_cell (blk_alloc (heap_alloc_new w _) _)
  have hck2 : ∀ i, W.cell? ⟨w.heap.size + 1, i, none⟩ = (cfgA b bv bv')[i]? := by
    rw [hW]
    have := heap_alloc_new (w.alloc (.cells (cfgA a av av') 33)) (.cells (cfgA b bv bv') 33)
    rw [show (w.alloc (.cells (cfgA a av av') 33)).heap.size = w.heap.size + 1 by simp] at this
    exact blk_cell this
  go_enter Try.func16, Try.ntmps16
  go_upto_region 1 with fail
  rw [← hW]
  clear hW
  go_cut [5] (fun t W' => t = .bool (one a b) ∧ W' = W)
  case first =>
    go_wp2
    all_goals
      go_meet
      exact ⟨by unfold one tmsEq; simp [*], rfl⟩
  case rest =>
  obtain ⟨rfl, rfl⟩ := hcut
  go_upto_region 2 with fail
  go_cut [6] (fun t W' => t = .bool (two a b) ∧ W' = wc)
  case first =>
    go_wp2
    all_goals
      go_meet
      exact ⟨by unfold two zonEq snEq; simp [*], rfl⟩
  case rest =>
  obtain ⟨rfl, rfl⟩ := hcut
  have HE : Aside0 (sameC a b = (one a b && (two a b && (a.stops == b.stops && eqWL a.wins b.wins)))) := ⟨rfl⟩
  obtain ⟨p, hp⟩ : ∃ p, p = one a b := ⟨_, rfl⟩
  obtain ⟨q, hq⟩ : ∃ q, q = two a b := ⟨_, rfl⟩
  obtain ⟨r, hr⟩ : ∃ r, r = (a.stops == b.stops) := ⟨_, rfl⟩
  obtain ⟨s, hs⟩ : ∃ s, s = eqWL a.wins b.wins := ⟨_, rfl⟩
  rw [← hp, ← hq, ← hr, ← hs] at HE
  rw [← hp, ← hq]
  clear hp hq
  have HR := Aside0.mk hr
  have HS := Aside0.mk hs
  clear hr hs
  have HB' := Aside0.mk HB
  clear HB
  rcases three p q r with rfl | ⟨rfl, rfl⟩ | ⟨rfl, rfl, rfl⟩ | ⟨rfl, rfl, rfl⟩
  all_goals
    go_wp2_with (first | (go_at_call 43; (refine (eqI_any' a.stops b.stops av bv A B ca cb _ HAV.out HBV.out (Kd.C_below HA.out HB'.out) (Kd.C_below HC.out HB'.out)).mono ?_); rw [← HR.out]; rintro e w' ⟨rfl, nq, rfl⟩) | (go_at_call 44; (refine (eqW_any' a.wins b.wins av' bv' A' B' ca' cb' _ HAV'.out HBV'.out (Kd.C_below HA'.out (pw_below_drewN HB'.out _)) (Kd.C_below HC'.out (pw_below_drewN HB'.out _))).mono ?_); rw [← HS.out]; rintro e w' ⟨rfl, nq2, rfl⟩))
    go_ret
    exact ⟨by rw [HE.out]; simp, by repeat (first | exact HB'.out | apply pw_below_drewN)⟩
end Go.Proofs.Ytopmmbopankpgaa
