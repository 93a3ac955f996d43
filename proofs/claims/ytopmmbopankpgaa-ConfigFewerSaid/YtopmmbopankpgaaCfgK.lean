/- newellaw10's Own: a configuration in memory of its own. -/
import Derived.Test.YtopmmbopankpgaaCfgJ
import Derived.Deep.DeepCutAuto
import Derived.Laws.CopyOwn
import Derived.Laws.Tables
namespace Go.Proofs.Ytopmmbopankpgaa
open Go.RowKit Go.Proofs.YtopmmbopankpgaaW.PrintWords Go.Proofs.YtopmmbopankpgaaW.PrintLast Go.Proofs.YtopmmbopankpgaaW.PrintMore
set_option linter.unusedVariables false
set_option linter.unusedSimpArgs false

def zeroC : Cfg := ⟨0, 0, 0, [], ⟨0, 0, 0, 0, 0, 0, 0⟩, 0, 0, ⟨0, 0, ⟨0, 0, 0, 0⟩, ⟨0, 0, 0, 0⟩⟩, ⟨0, 0, 0, 0, 0, 0, 0, 0, 0, 0, 0, 0⟩, false, []⟩
abbrev zCfgA : Array Value := #[.int .i64 0, .int .i64 0, .int .i64 0, .slice none 0 0, .int .i64 0, .int .i64 0, .int .i64 0, .int .i64 0, .int .i64 0, .int .i64 0, .int .i64 0, .int .i64 0, .int .i64 0, .int .i64 0, .int .i64 0, .int .i64 0, .int .i64 0, .int .i64 0, .int .i64 0, .int .i64 0, .int .i64 0, .int .i64 0, .int .i64 0, .int .i64 0, .int .i64 0, .int .i64 0, .int .i64 0, .int .i64 0, .int .i64 0, .int .i64 0, .int .i64 0, .int .i64 0, .int .i64 0, .int .i64 0, .int .i64 0, .bool false, .slice none 0 0]
theorem cfgA_one (c : Cfg) (A B : Option Addr) (n m ca cb : Nat) : (cfgA c (.slice A n ca) (.slice B m cb)).all (·.oneCell') = true := by kernel_rfl
theorem R_setRow {α : Type} {d : Kd α} {e : Nat} {w : World} {base : Nat} {ok : Nat → Prop} {v : Value} {xs : List α} (h : d.R e w base ok v xs) {g t : Nat} {cells : Array Value} (hb : w.heap[g]? = some (.cells cells t (0, 0))) (ht : ∀ q, q ∈ e :: d.E → q ≠ t) (cs : Array Value) : d.R e (w.setRow g cs) base ok v xs :=
  Kd.R_mono (Kd.R_step (Kd.R_types h hb ht) (fun k hk _ => setRow_other w g k cs hk.2)) (fun _ hk => hk.1)
theorem infoWin : (Try.prog.info? 81).map (fun i => (i.zero, i.size, i.bytes)) = some (some (.agg #[.int .i64 0, .int .i64 0, .int .i64 0, .int .i64 0, .int .i64 0, .int .i64 0, .int .i64 0]), 7, 56) := by kernel_rfl
set_option maxRecDepth 100000 in
set_option maxHeartbeats 4000000 in
theorem own_any (c : Cfg) (A B : Option Addr) (ca cb : Nat) (w : World) (hs : Kd.C (Kd.int .i64) w A c.stops.length c.stops) (hw : Kd.C kWin w B c.wins.length c.wins) (h1 : c.stops.length ≤ 1000) (h2 : c.wins.length ≤ 1000) :
    Calls Try.prog 13 #[.agg (cfgA c (.slice A c.stops.length ca) (.slice B c.wins.length cb))] w fun e w' => ∃ sv wv, e = .returned (.agg (cfgA c sv wv)) ∧ Kd.R (Kd.int .i64) 3 w' w.heap.size (fun _ => True) sv c.stops ∧ Kd.R kWin 81 w' w.heap.size (fun _ => True) wv c.wins ∧ Below w.heap.size w w' := by
  obtain ⟨n, hn⟩ : ∃ n, n = c.stops.length := ⟨_, rfl⟩
  obtain ⟨m, hm⟩ : ∃ m, m = c.wins.length := ⟨_, rfl⟩
  rw [← hn] at hs h1 ⊢
  rw [← hm] at hw h2 ⊢
  have HS := Aside0.mk hs
  have HW := Aside0.mk hw
  clear hs hw
  have HN := Aside0.mk hn
  have HM := Aside0.mk hm
  clear hn hm
  obtain ⟨W, hW⟩ : ∃ W, W = (w.alloc (.cells (cfgA c (.slice A n ca) (.slice B m cb)) 33)).alloc (.cells zCfgA 33) := ⟨_, rfl⟩
  have HB : Aside0 (Below w.heap.size w W) := ⟨by rw [hW]; exact below_alloc (below_alloc (Below.refl _ _) _) _⟩
  have BKg : Aside0 (W.heap[w.heap.size]? = some (.cells (cfgA c (.slice A n ca) (.slice B m cb)) 33 (0, 0))) := ⟨by rw [hW]; exact blk_alloc (heap_alloc_new w _) _⟩
  have BKh : Aside0 (W.heap[w.heap.size + 1]? = some (.cells zCfgA 33 (0, 0))) := ⟨by
    rw [hW]
    have := heap_alloc_new (w.alloc (.cells (cfgA c (.slice A n ca) (.slice B m cb)) 33)) (.cells zCfgA 33)
    rwa [show (w.alloc (.cells (cfgA c (.slice A n ca) (.slice B m cb)) 33)).heap.size = w.heap.size + 1 by simp] at this⟩
  go_enter Try.func13, Try.ntmps13
  go_upto_region 1 with fail
  rw [← hW]
  clear hW
  go_upto_region 2 with (first
    | ((with_reducible refine gate_dst (N := 3) rfl ?_); refine Kd.R_lit (Kd.int .i64) (w0 := w) w.heap.size 3 ?hg (N := 3) ?hd (xs := ([] : List Int)) (inner := []) (ok := fun _ => True) (okp := fun _ => True) ?hr ?hp (fun _ hk => hk) trivial HB.out (below_size HB.out) (by simp) ?_; (case hd => rfl); (case hg => rfl); (case hr => first | (go_simp; done) | (go_simp; rfl)); (case hp => exact (Reps.none _ _)); intro v3 w3 ho hb hg hn_; have n0_ := Aside0.mk ho; have n1_ := Aside0.mk hb; have n2_ := Aside0.mk (blk_grown BKg.out hg (by simp)); have n3_ := Aside0.mk (blk_grown BKh.out hg (by simp)); clear ho hb hg hn_ HB BKg BKh; have HO := n0_; have HB := n1_; have BKg := n2_; have BKh := n3_; clear n0_ n1_ n2_ n3_; have hck := blk_cell BKg.out)
    | (at_builtin; refine Kd.R_append_row (Value.int .i64) (0 : Int) (h1 := fun _ => rfl) (w0 := w) w.heap.size rfl (.tmp 3) (.tmp 5) 22 3 (.int .i64 0) 8 rfl Try.underlying22 infoInt rfl (by decide) v3 ([] : List Int) c.stops A n ca (fun _ => True) rfl rfl (fun _ _ => trivial) HO.out ?aR HB.out (below_size HB.out) ?aL ?_; (case aR => exact Kd.C_below HS.out HB.out); (case aL => simp only [List.length_nil]; omega); intro v6 w6 ho hb hg hat; simp only [List.nil_append] at ho; obtain ⟨A6, c6, rfl⟩ := Kd.R_slice ho; have n0_ := Aside0.mk ho; have n1_ := Aside0.mk hb; have n2_ := Aside0.mk (blk_grown BKg.out hg (Kd.R_ne HO.out BKg.out (by decide))); have n3_ := Aside0.mk (blk_grown BKh.out hg (Kd.R_ne HO.out BKh.out (by decide))); clear ho hb hg hat HO HB BKg BKh hck; have HO := n0_; have HB := n1_; have BKg := n2_; have BKh := n3_; clear n0_ n1_ n2_ n3_; have hck := blk_cell BKg.out; have hfz := blk_frozen BKg.out))
  have n0_ := Aside0.mk (Kd.R_set HO.out BKg.out (by decide) 3 (.slice A6 c.stops.length c6))
  have n1_ := Aside0.mk (below_set HB.out (Nat.le_refl _) (j := 3) (v := .slice A6 c.stops.length c6))
  have n2_ := Aside0.mk (blk_set BKg.out 3 (.slice A6 c.stops.length c6))
  have n3_ := Aside0.mk (blk_far BKh.out (p := ⟨w.heap.size, 3, none⟩) (by simp) (.slice A6 c.stops.length c6))
  clear HO HB BKg BKh hck hfz
  have HO := n0_
  have HB := n1_
  have BKg : Aside0 ((w6.setCell ⟨w.heap.size, 3, none⟩ (.slice A6 c.stops.length c6)).heap[w.heap.size]? = some (.cells (cfgA c (.slice A6 c.stops.length c6) (.slice B m cb)) 33 (0, 0))) := n2_
  have BKh := n3_
  clear n0_ n1_ n2_ n3_
  generalize w6.setCell ⟨w.heap.size, 3, none⟩ (.slice A6 c.stops.length c6) = W at HO HB BKg BKh ⊢
  have n0_ := Aside0.mk (Kd.R_mono (ok' := fun k => k < W.heap.size) (Kd.R_bound HO.out) (fun k hk => hk.2.2.1))
  clear HO
  have HO := n0_
  clear n0_
  go_upto_region 3 with (first
    | ((with_reducible refine gate_dst (N := 8) rfl ?_); refine Kd.R_lit kWin (w0 := w) w.heap.size 81 ?hg (N := 8) ?hd (xs := ([] : List Win)) (inner := []) (ok := fun _ => True) (okp := fun _ => True) ?hr ?hp (fun _ hk => hk) trivial HB.out (below_size HB.out) (by simp) ?_; (case hd => rfl); (case hg => rfl); (case hr => first | (go_simp; done) | (go_simp; rfl)); (case hp => exact (Reps.none _ _)); intro v8 w8 ho hb hg hn_; have n0_ := Aside0.mk ho; have n1_ := Aside0.mk hb; have n2_ := Aside0.mk (blk_grown BKg.out hg (by simp)); have n3_ := Aside0.mk (blk_grown BKh.out hg (by simp)); have n4_ := Aside0.mk (Kd.R_grown HO.out hg (by simp)); have HNW := Aside0.mk hn_; clear ho hb hg hn_ HB BKg BKh HO; have HO2 := n0_; have HB := n1_; have BKg := n2_; have BKh := n3_; have HO := n4_; clear n0_ n1_ n2_ n3_ n4_; have hck := blk_cell BKg.out)
    | (at_builtin; refine Kd.R_append_rows kWin (w0 := w) w.heap.size rfl (.tmp 8) (.tmp 10) 31 81 (.agg #[.int .i64 0, .int .i64 0, .int .i64 0, .int .i64 0, .int .i64 0, .int .i64 0, .int .i64 0]) 56 rfl Try.underlying31 infoWin rfl (by decide) (by omega) v8 ([] : List Win) c.wins B m cb (fun _ => True) (fun _ => False) rfl rfl HO2.out ?aR (fun _ _ h => h) (fun _ h => h.elim) (fun _ _ => trivial) HB.out (below_size HB.out) ?aL ?_; (case aR => exact Kd.C_below HW.out HB.out); (case aL => simp only [List.length_nil]; omega); intro v11 w11 ho hb hg hat; simp only [List.nil_append] at ho; obtain ⟨A11, c11, rfl⟩ := Kd.R_slice ho; have n0_ := Aside0.mk ho; have n1_ := Aside0.mk hb; have n2_ := Aside0.mk (blk_grown BKg.out hg (Kd.R_ne HO2.out BKg.out (by decide))); have n3_ := Aside0.mk (blk_grown BKh.out hg (Kd.R_ne HO2.out BKh.out (by decide))); have n4_ := Aside0.mk (Kd.R_grown HO.out hg (fun k hk => by have hk' : k < W.heap.size := hk; obtain ⟨b, hb1, hb2⟩ := HNW.out; rw [hb1]; intro he; injection he with he; omega)); clear ho hb hg hat HO HO2 HB BKg BKh hck; have HO2 := n0_; have HB := n1_; have BKg := n2_; have BKh := n3_; have HO := n4_; clear n0_ n1_ n2_ n3_ n4_; have hck := blk_cell BKg.out; have hfz := blk_frozen BKg.out))
  have n0_ := Aside0.mk (Kd.R_set HO.out BKg.out (by decide) 36 (.slice A11 c.wins.length c11))
  have n4_ := Aside0.mk (Kd.R_set HO2.out BKg.out (by decide) 36 (.slice A11 c.wins.length c11))
  have n1_ := Aside0.mk (below_set HB.out (Nat.le_refl _) (j := 36) (v := .slice A11 c.wins.length c11))
  have n2_ := Aside0.mk (blk_set BKg.out 36 (.slice A11 c.wins.length c11))
  have n3_ := Aside0.mk (blk_far BKh.out (p := ⟨w.heap.size, 36, none⟩) (by simp) (.slice A11 c.wins.length c11))
  clear HO HO2 HB BKg BKh hck hfz HNW
  have HO := n0_
  have HO2 := n4_
  have HB := n1_
  have BKg : Aside0 ((w11.setCell ⟨w.heap.size, 36, none⟩ (.slice A11 c.wins.length c11)).heap[w.heap.size]? = some (.cells (cfgA c (.slice A6 c.stops.length c6) (.slice A11 c.wins.length c11)) 33 (0, 0))) := n2_
  have BKh := n3_
  clear n0_ n1_ n2_ n3_ n4_
  generalize w11.setCell ⟨w.heap.size, 36, none⟩ (.slice A11 c.wins.length c11) = W2 at HO HO2 HB BKg BKh ⊢
  go_wp2_with (first | ((with_reducible refine gate_dst (N := 13) rfl ?_); refine wpList_load_row rfl 33 _ rfl w.heap.size rfl 33 _ (0, 0) _ (BKg.out) Try.underlying33 rfl (by kernel_rfl) ?_) | (refine wpList_store_row rfl 33 (.tmp 2) (.tmp 13) rfl (w.heap.size + 1) (cfgA c (.slice A6 c.stops.length c6) (.slice A11 c.wins.length c11)) rfl rfl 33 zCfgA BKh.out ?hi rfl (cfgA_one _ _ _ _ _ _ _) ?_; (case hi => kernel_rfl)))
  have n0_ := Aside0.mk (setRow_heap W2 _ _ (cfgA c (.slice A6 c.stops.length c6) (.slice A11 c.wins.length c11)) _ _ BKh.out)
  have n1_ := Aside0.mk (below_setRow HB.out (show w.heap.size ≤ w.heap.size + 1 by omega) (cfgA c (.slice A6 c.stops.length c6) (.slice A11 c.wins.length c11)))
  exact bodyPost_ret (v := .agg (cfgA c (.slice A6 c.stops.length c6) (.slice A11 c.wins.length c11))) (results_cell_row rfl _ _ (w.heap.size + 1) 33 _ (0, 0) _ rfl n0_.out Try.underlying33 rfl (by kernel_rfl)) rfl ⟨_, _, rfl, R_setRow (Kd.R_mono HO.out (fun _ _ => trivial)) BKh.out (by decide) _, R_setRow HO2.out BKh.out (by decide) _, n1_.out⟩
end Go.Proofs.Ytopmmbopankpgaa
