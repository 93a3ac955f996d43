/- newellaw10's awake. -/
import Derived.Test.YtopmmbopankpgaaCfgL
import Derived.Deep.DeepCutAuto
import Derived.Deep.WholeRow
namespace Go.Proofs.Ytopmmbopankpgaa
open Go.RowKit Go.Proofs.YtopmmbopankpgaaW.PrintWords Go.Proofs.YtopmmbopankpgaaW.PrintLast Go.Proofs.YtopmmbopankpgaaW.PrintMore
set_option linter.unusedVariables false
set_option linter.unusedSimpArgs false

set_option maxRecDepth 100000 in
set_option maxHeartbeats 4000000 in
theorem awake_any (w : World) :
    Calls Try.prog 14 #[] w fun e w' => e = .returned (.bool true) ∧ Below w.heap.size w w' := by
  go_enter Try.func14, Try.ntmps14
  go_upto_region 2 with (first
    | (go_at_call 41; refine (plain_any w).mono ?_; rintro e w1 ⟨A, B, rfl, hs, hw, hb⟩; have HS := Aside0.mk hs; have HW := Aside0.mk hw; have HB := Aside0.mk hb; clear hs hw hb)
    | (refine wpList_store_row rfl 33 (.tmp 1) (.tmp 2) rfl w1.heap.size (cfgA plainC (.slice A 3 3) (.slice B 1 1)) rfl rfl 33 zCfgA (heap_alloc_new w1 _) ?hi rfl (cfgA_one _ _ _ _ _ _ _) ?_; (case hi => kernel_rfl); rw [World.setRow_alloc_new]))
  have BKg := Aside0.mk (heap_alloc_new w1 (.cells (cfgA plainC (.slice A 3 3) (.slice B 1 1)) 33))
  have n0_ := Aside0.mk (below_alloc HB.out (.cells (cfgA plainC (.slice A 3 3) (.slice B 1 1)) 33))
  have n1_ := Aside0.mk (Kd.C_alloc HS.out (.cells (cfgA plainC (.slice A 3 3) (.slice B 1 1)) 33))
  have n2_ := Aside0.mk (Kd.C_alloc HW.out (.cells (cfgA plainC (.slice A 3 3) (.slice B 1 1)) 33))
  clear HB HS HW
  have HB := n0_
  have HS := n1_
  have HW := n2_
  clear n0_ n1_ n2_
  generalize hg : w1.heap.size = g at BKg ⊢
  clear hg
  generalize w1.alloc (.cells (cfgA plainC (.slice A 3 3) (.slice B 1 1)) 33) = W at BKg HB HS HW ⊢
  go_wp2_with (first
    | ((with_reducible refine gate_dst (N := 3) rfl ?_); refine wpList_load_row rfl 33 _ rfl g rfl 33 _ (0, 0) _ (BKg.out) Try.underlying33 rfl (by kernel_rfl) ?_) | ((with_reducible refine gate_dst (N := 7) rfl ?_); refine gate_guard (by rfl) ?_; refine wpList_load_row rfl 33 _ rfl g rfl 33 _ (0, 0) _ (BKg.out) Try.underlying33 rfl (by kernel_rfl) ?_) | ((with_reducible refine gate_dst (N := 8) rfl ?_); refine gate_guard (by rfl) ?_; refine wpList_load_row rfl 33 _ rfl g rfl 33 _ (0, 0) _ (BKg.out) Try.underlying33 rfl (by kernel_rfl) ?_) | ((with_reducible refine gate_dst (N := 12) rfl ?_); refine gate_guard (by rfl) ?_; refine wpList_load_row rfl 33 _ rfl g rfl 33 _ (0, 0) _ (BKg.out) Try.underlying33 rfl (by kernel_rfl) ?_) | ((with_reducible refine gate_dst (N := 13) rfl ?_); refine gate_guard (by rfl) ?_; refine wpList_load_row rfl 33 _ rfl g rfl 33 _ (0, 0) _ (BKg.out) Try.underlying33 rfl (by kernel_rfl) ?_) | ((with_reducible refine gate_dst (N := 17) rfl ?_); refine gate_guard (by rfl) ?_; refine wpList_load_row rfl 33 _ rfl g rfl 33 _ (0, 0) _ (BKg.out) Try.underlying33 rfl (by kernel_rfl) ?_)
    | (go_at_call 12; refine (chk_any plainC A B 3 1 _ HS.out HW.out).mono ?_; rw [plain_chk]; rintro e w' ⟨rfl, hb⟩; have n0_ := Aside0.mk (below_step HB.out hb); have n1_ := Aside0.mk (blk_step BKg.out hb); have n2_ := Aside0.mk (Kd.C_below HS.out hb); have n3_ := Aside0.mk (Kd.C_below HW.out hb); clear HB BKg HS HW hb; have HB := n0_; have BKg := n1_; have HS := n2_; have HW := n3_; clear n0_ n1_ n2_ n3_)
    | (go_at_call 15; refine (fits_any plainC plainC A A B B 3 3 1 1 _ HS.out HW.out HS.out HW.out).mono ?_; rw [plain_fits]; rintro e w' ⟨rfl, hb⟩; have n0_ := Aside0.mk (below_step HB.out hb); have n1_ := Aside0.mk (blk_step BKg.out hb); have n2_ := Aside0.mk (Kd.C_below HS.out hb); have n3_ := Aside0.mk (Kd.C_below HW.out hb); clear HB BKg HS HW hb; have HB := n0_; have BKg := n1_; have HS := n2_; have HW := n3_; clear n0_ n1_ n2_ n3_; have TOK : True := trivial)
    | (go_at_call 16; have _t := TOK; refine (same_any plainC zeroC A none B none 3 0 1 0 _ HS.out HW.out (C_none _ _) (C_none _ _)).mono ?_; rw [plain_zero]; rintro e w' ⟨rfl, hb⟩; have n0_ := Aside0.mk (below_step HB.out hb); have n1_ := Aside0.mk (blk_step BKg.out hb); have n2_ := Aside0.mk (Kd.C_below HS.out hb); have n3_ := Aside0.mk (Kd.C_below HW.out hb); clear HB BKg HS HW hb; have HB := n0_; have BKg := n1_; have HS := n2_; have HW := n3_; clear n0_ n1_ n2_ n3_; have hck := blk_cell BKg.out; obtain ⟨ad, e_, k0, k1, k2, k3, k4, k5, k6⟩ := at_Win HW.out 0 (by decide); subst e_; replace k0 : w'.cell? ad = some (.int .i64 1) := k0; replace k1 : w'.cell? ⟨ad.block, ad.off + 1, none⟩ = some (.int .i64 2) := k1; replace k2 : w'.cell? ⟨ad.block, ad.off + 2, none⟩ = some (.int .i64 0) := k2; replace k3 : w'.cell? ⟨ad.block, ad.off + 3, none⟩ = some (.int .i64 65) := k3; replace k4 : w'.cell? ⟨ad.block, ad.off + 4, none⟩ = some (.int .i64 0) := k4; replace k5 : w'.cell? ⟨ad.block, ad.off + 5, none⟩ = some (.int .i64 1200) := k5; replace k6 : w'.cell? ⟨ad.block, ad.off + 6, none⟩ = some (.int .i64 600) := k6)
    | (go_at_call 16; refine (same_any plainC plainC A A B B 3 3 1 1 _ HS.out HW.out HS.out HW.out).mono ?_; rw [plain_same]; rintro e w' ⟨rfl, hb⟩; have n0_ := Aside0.mk (below_step HB.out hb); have n1_ := Aside0.mk (blk_step BKg.out hb); have n2_ := Aside0.mk (Kd.C_below HS.out hb); have n3_ := Aside0.mk (Kd.C_below HW.out hb); clear HB BKg HS HW hb; have HB := n0_; have BKg := n1_; have HS := n2_; have HW := n3_; clear n0_ n1_ n2_ n3_)
    | (go_at_call 42; have _t := TOK2; refine (win_any zWin _).mono ?_; rw [zero_win]; rintro e w' ⟨rfl, hb⟩; have n0_ := Aside0.mk (below_step HB.out hb); clear HB hb; have HB := n0_; clear n0_)
    | (go_at_call 42; refine (win_any plainW _).mono ?_; rw [plain_win]; rintro e w' ⟨rfl, hb⟩; have n0_ := Aside0.mk (below_step HB.out hb); clear HB hb; have HB := n0_; clear n0_; clear hck k0 k1 k2 k3 k4 k5 k6; have TOK2 : True := trivial))
  go_ret
  exact ⟨rfl, HB.out⟩
end Go.Proofs.Ytopmmbopankpgaa
