/- newellaw10's Plain and awake. -/
import Derived.Test.YtopmmbopankpgaaCfgK
import Derived.Deep.DeepCutAuto
namespace Go.Proofs.Ytopmmbopankpgaa
open Go.RowKit Go.Proofs.YtopmmbopankpgaaW.PrintWords Go.Proofs.YtopmmbopankpgaaW.PrintLast Go.Proofs.YtopmmbopankpgaaW.PrintMore
set_option linter.unusedVariables false
set_option linter.unusedSimpArgs false

def plainW : Win := ⟨1, 2, 0, 65, 0, 1200, 600⟩
def plainC : Cfg := ⟨4, 1, 0, [0, 1, 3], ⟨2, 1, 2, 4, 1, 2, 3⟩, 5, 3, ⟨0, 0, ⟨0, 0, 0, 0⟩, ⟨0, 0, 0, 0⟩⟩, ⟨1000, 1050, 1100, 1150, 1180, 1200, 1170, 1130, 1080, 1030, 1000, 990⟩, false, [plainW]⟩
theorem plain_chk : chkE plainC = 0 := by decide +kernel
theorem C_none {α : Type} (d : Kd α) (w : World) : Kd.C d w none 0 ([] : List α) := ⟨rfl, by omega, fun h => absurd h (by omega)⟩
theorem C_setRow {α : Type} {d : Kd α} {w : World} {A : Option Addr} {n : Nat} {xs : List α} {g : Nat} {cs : Array Value} (h : d.C w A n xs) (hne : ∀ ad, A = some ad → ad.block ≠ g) (hK : ∀ x c, d.K w x c → d.K (w.setRow g cs) x c) : d.C (w.setRow g cs) A n xs :=
  ⟨h.1, h.2.1, fun hn => by
    obtain ⟨ad, e, hc⟩ := h.2.2 hn
    refine ⟨ad, e, fun j p hj => ?_⟩
    obtain ⟨c, hl, hr, hcell⟩ := hc j p hj
    refine ⟨c, hl, hK _ _ hr, fun i u hu => ?_⟩
    rw [cell_setRow_other]
    · exact hcell i u hu
    · have : ∀ k, (ad.add k).block = ad.block := by intro k; unfold Addr.add; split <;> rfl
      rw [this]; exact hne ad e⟩
set_option maxRecDepth 100000 in
set_option maxHeartbeats 4000000 in
theorem plain_any (w : World) :
    Calls Try.prog 41 #[] w fun e w' => ∃ A B, e = .returned (.agg (cfgA plainC (.slice A 3 3) (.slice B 1 1))) ∧ Kd.C (Kd.int .i64) w' A 3 plainC.stops ∧ Kd.C kWin w' B 1 plainC.wins ∧ Below w.heap.size w w' := by
  go_enter Try.func41, Try.ntmps41
  go_wp2_with (refine wpList_store_row rfl 33 (.tmp 0) (.tmp 6) rfl w.heap.size _ rfl rfl 33 zCfgA (blk_alloc (blk_alloc (heap_alloc_new w _) _) _) ?hi rfl ?h1 ?_; (case hi => kernel_rfl); (case h1 => kernel_rfl))
  have hX : ∀ (X : World) (cs : Array Value), X = ((w.alloc (.cells zCfgA 33)).alloc (.cells #[.int .i64 0, .int .i64 1, .int .i64 3] 3)).alloc (.cells #[.int .i64 1, .int .i64 2, .int .i64 0, .int .i64 65, .int .i64 0, .int .i64 1200, .int .i64 600] 81) →
      (X.setRow w.heap.size cs).heap[w.heap.size]? = some (.cells cs 33 (0, 0)) ∧ Kd.C (Kd.int .i64) (X.setRow w.heap.size cs) (some ⟨w.heap.size + 1, 0, none⟩) 3 plainC.stops ∧ Kd.C kWin (X.setRow w.heap.size cs) (some ⟨w.heap.size + 1 + 1, 0, none⟩) 1 plainC.wins ∧ Below w.heap.size w (X.setRow w.heap.size cs) := by
    intro X cs hX
    subst hX
    refine ⟨setRow_heap _ _ _ _ _ _ (blk_alloc (blk_alloc (heap_alloc_new w _) _) _), C_setRow (Kd.C_alloc (C_new (Kd.int .i64) (w.alloc (.cells zCfgA 33)) 3 plainC.stops [.int .i64 0, .int .i64 1, .int .i64 3] _ (by simp) (Reps_ints .i64 _ [0, 1, 3]) (by decide)) _) (by intro ad had; injection had with had; subst had; simp) (fun _ _ h => h), C_setRow (C_new kWin ((w.alloc (.cells zCfgA 33)).alloc (.cells #[.int .i64 0, .int .i64 1, .int .i64 3] 3)) 81 [plainW] [.int .i64 1, .int .i64 2, .int .i64 0, .int .i64 65, .int .i64 0, .int .i64 1200, .int .i64 600] _ (by simp) (Reps_one (kWin_mk _ plainW) rfl) (by decide)) (by intro ad had; injection had with had; subst had; simp; omega) (fun _ _ h => h), below_setRow (by repeat (first | exact Below.refl _ _ | apply below_alloc)) (Nat.le_refl _) _⟩
  obtain ⟨h1, h2, h3, h4⟩ := hX _ (cfgA plainC (.slice (some ⟨w.heap.size + 1, 0, none⟩) 3 3) (.slice (some ⟨w.heap.size + 1 + 1, 0, none⟩) 1 1)) rfl
  exact bodyPost_ret (v := .agg (cfgA plainC (.slice (some ⟨w.heap.size + 1, 0, none⟩) 3 3) (.slice (some ⟨w.heap.size + 1 + 1, 0, none⟩) 1 1))) (results_cell_row rfl _ _ w.heap.size 33 _ (0, 0) _ rfl h1 Try.underlying33 rfl (by kernel_rfl)) rfl ⟨_, _, rfl, h2, h3, h4⟩
theorem plain_same : sameC plainC plainC = true := by kernel_rfl
theorem plain_fits : fitsC plainC plainC = true := by kernel_rfl
theorem plain_zero : sameC plainC zeroC = false := by kernel_rfl
theorem plain_win : winE plainW = 0 := by kernel_rfl
theorem zero_win : winE zWin = 104 := by kernel_rfl
end Go.Proofs.Ytopmmbopankpgaa
