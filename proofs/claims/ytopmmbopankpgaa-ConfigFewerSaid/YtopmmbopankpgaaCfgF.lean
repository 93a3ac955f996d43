/- What config.Check answers, for every configuration. -/
import Derived.Test.YtopmmbopankpgaaCfgE
import Derived.Laws.EntriesVeiled
namespace Go.Proofs.Ytopmmbopankpgaa
open Go.RowKit Go.Proofs.YtopmmbopankpgaaW.PrintWords Go.Proofs.YtopmmbopankpgaaW.PrintLast Go.Proofs.YtopmmbopankpgaaW.PrintMore
set_option linter.unusedVariables false
set_option linter.unusedSimpArgs false

def ruleL (c : Cfg) : List Int := [sizeE c, stopsE c, timesE c, zonE c.zn, sunE c.sn, winsE c]
def firstE : List Int → Int
  | [] => 0
  | x :: r => if x = 0 then firstE r else x
def chkE (c : Cfg) : Int := firstE (ruleL c)
theorem firstE_go {l : List Int} {k : Nat} {x : Int} (h : firstE (l.take k) = 0) (hx : l[k]? = some x) (h0 : x = 0) : firstE (l.take (k + 1)) = 0 := by
  subst h0
  induction l generalizing k with
  | nil => simp at hx
  | cons y t ih =>
    cases k with
    | zero => simp at hx; subst hx; simp [firstE]
    | succ m =>
      simp only [List.take_succ_cons, firstE] at h ⊢
      split at h
      · rename_i hy
        rw [if_pos hy]
        exact ih h (by simpa using hx)
      · exact absurd h (by assumption)
theorem firstE_stop {l : List Int} {k : Nat} {x : Int} (h : firstE (l.take k) = 0) (hx : l[k]? = some x) (h0 : ¬ x = 0) : firstE l = x := by
  induction l generalizing k with
  | nil => simp at hx
  | cons y t ih =>
    cases k with
    | zero => simp at hx; subst hx; simp [firstE, h0]
    | succ m =>
      simp only [List.take_succ_cons, firstE] at h ⊢
      split at h
      · rename_i hy
        rw [if_pos hy]
        exact ih h (by simpa using hx)
      · exact absurd h (by assumption)
theorem blk_step {W w' : World} {g : Nat} {o : Obj} (h : W.heap[g]? = some o) (hb : Below W.heap.size W w') : w'.heap[g]? = some o := (hb.block g (blk_lt h)).trans h
theorem stops_any' (c : Cfg) (sv wv : Value) (A : Option Addr) (cap : Nat) (w : World) (h : sv = .slice A c.stops.length cap) (hr : Kd.C (Kd.int .i64) w A c.stops.length c.stops) :
    Calls Try.prog 34 #[.agg (cfgA c sv wv)] w fun e w' => e = .returned (.int .i64 (stopsE c)) ∧ Below w.heap.size w w' := by
  subst h; exact stops_any c A cap wv w hr
theorem wins_any' (c : Cfg) (sv wv : Value) (B : Option Addr) (cap : Nat) (w : World) (h : wv = .slice B c.wins.length cap) (hr : Kd.C kWin w B c.wins.length c.wins) :
    Calls Try.prog 40 #[.agg (cfgA c sv wv)] w fun e w' => e = .returned (.int .i64 (winsE c)) ∧ Below w.heap.size w w' := by
  subst h; exact wins_any c sv B cap w hr
def fnsA : Array Value := #[.func (.func 33) #[] #[], .func (.func 34) #[] #[], .func (.func 35) #[] #[], .func (.func 36) #[] #[], .func (.func 38) #[] #[], .func (.func 40) #[] #[]]
set_option maxHeartbeats 4000000 in
theorem chk_any (c : Cfg) (A B : Option Addr) (cap cap' : Nat) (w : World) (hs : Kd.C (Kd.int .i64) w A c.stops.length c.stops) (hw : Kd.C kWin w B c.wins.length c.wins) :
    Calls Try.prog 12 #[.agg (cfgA c (.slice A c.stops.length cap) (.slice B c.wins.length cap'))] w fun e w' => e = .returned (.int .i64 (chkE c)) ∧ Below w.heap.size w w' := by
  obtain ⟨sv, hsv⟩ : ∃ sv, sv = Value.slice A c.stops.length cap := ⟨_, rfl⟩
  obtain ⟨wv, hwv⟩ : ∃ wv, wv = Value.slice B c.wins.length cap' := ⟨_, rfl⟩
  have HS := Aside0.mk hs
  have HW := Aside0.mk hw
  clear hs hw
  rw [← hsv, ← hwv]
  have HSV := Aside0.mk hsv
  have HWV := Aside0.mk hwv
  clear hsv hwv
  have HB := Aside0.mk (Below.refl w.heap.size w)
  go_enter Try.func12, Try.ntmps12
  go_wp2_with ((with_reducible refine gate_dst (N := 1) rfl ?_); refine box_event ?hg (N := 1) ?hd (cs := cfgA c sv wv) (t := 33) ?hr ?_; (case hd => rfl); (case hg => rfl); (case hr => first | (go_simp; done) | (go_simp; rfl)); intro g hg_ w3_ hbox_ hb_; have n0_ := Aside0.mk (below_step HB.out hb_); have n1_ := Aside0.mk hbox_; have n2_ := Aside0.mk (show w.heap.size ≤ g by rw [hg_]; exact below_size HB.out); clear HB; have HB := n0_; have BKg := n1_; have GEg := n2_; clear n0_ n1_ n2_; clear hb_ hbox_ hg_)
  go_step3
  go_wp2_with fail
  go_step3
  go_wp2_with fail
  obtain ⟨r, hr⟩ : ∃ r, r = w3_.heap.size := ⟨_, rfl⟩
  rw [← hr]
  have hf : (#[Value.func (Fn.func 33) #[] #[], Value.func (Fn.func 34) #[] #[], Value.func (Fn.func 35) #[] #[], Value.func (Fn.func 36) #[] #[], Value.func (Fn.func 38) #[] #[], Value.func (Fn.func 40) #[] #[]]) = fnsA := rfl
  have n0_ := Aside0.mk (blk_alloc BKg.out (.cells fnsA 74))
  have n1_ := Aside0.mk (show (w3_.alloc (.cells fnsA 74)).heap[r]? = some (.cells fnsA 74 (0, 0)) by rw [hr]; exact heap_alloc_new w3_ _)
  have n2_ := Aside0.mk (below_alloc HB.out (.cells fnsA 74))
  rw [hf]
  clear hr hf BKg HB
  have BKg := n0_
  have BKr := n1_
  have HB := n2_
  clear n0_ n1_ n2_
  go_loopw [4, 16] (fun e i wr => ∃ k : Nat, k ≤ 6 ∧ i = .int .i64 k ∧ e = .int .i64 0 ∧ Aside0 (firstE ((ruleL c).take k) = 0) ∧ Aside0 (wr.heap[g]? = some (.cells (cfgA c sv wv) 33 (0, 0))) ∧ Aside0 (wr.heap[r]? = some (.cells fnsA 74 (0, 0))) ∧ Aside0 (Below w.heap.size w wr)) (fun _ i _ => 6 - (intOf i).toNat)
  case atStart => exact ⟨0, Nat.zero_le _, rfl, rfl, ⟨rfl⟩, BKg, BKr, HB⟩
  case round =>
    clear BKg BKr HB
    obtain ⟨k, hk, rfl, rfl, HF, BKg, BKr, HB⟩ := hrel
    by_cases hlt : k < 6
    · have hckr := blk_cell BKr.out
      unfold fnsA at hckr
      obtain rfl | rfl | rfl | rfl | rfl | rfl : k = 0 ∨ k = 1 ∨ k = 2 ∨ k = 3 ∨ k = 4 ∨ k = 5 := by omega
      · rw [show ((0 : Nat) : Int) = 0 from rfl]
        obtain ⟨x, hx⟩ : ∃ x, x = sizeE c := ⟨_, rfl⟩
        have HX := Aside0.mk hx
        clear hx
        by_cases h0 : x = 0
        · have h0' : (x == 0) = true := by simpa using h0
          go_wp2_with (first | ((with_reducible refine gate_dst (N := 22) rfl ?_); refine wpList_load_row rfl 33 _ rfl g rfl 33 _ (0, 0) _ (blk_alloc BKg.out _) Try.underlying33 rfl (by kernel_rfl) ?_) | (go_at_call 33; (with_reducible refine (size_any c sv wv _).mono ?_); rw [← HX.out]; rintro e w' ⟨rfl, hb⟩; have n0_ := Aside0.mk (blk_step (blk_alloc BKg.out _) hb); have n1_ := Aside0.mk (blk_step (blk_alloc BKr.out _) hb); have n2_ := Aside0.mk (below_step (below_alloc HB.out _) hb); clear BKg BKr HB hb hckr; have BKg := n0_; have BKr := n1_; have HB := n2_; clear n0_ n1_ n2_))
          go_roundw
          case rel => exact ⟨1, by omega, rfl, by first | rfl | rw [h0], ⟨firstE_go HF.out rfl (by rw [← HX.out]; exact h0)⟩, BKg, BKr, HB⟩
          case measure => simp [intOf]
        · have h0' : (x == 0) = false := by simpa using h0
          go_wp2_with (first | ((with_reducible refine gate_dst (N := 22) rfl ?_); refine wpList_load_row rfl 33 _ rfl g rfl 33 _ (0, 0) _ (blk_alloc BKg.out _) Try.underlying33 rfl (by kernel_rfl) ?_) | (go_at_call 33; (with_reducible refine (size_any c sv wv _).mono ?_); rw [← HX.out]; rintro e w' ⟨rfl, hb⟩; have n2_ := Aside0.mk (below_step (below_alloc HB.out _) hb); clear BKg BKr HB hb hckr; have HB := n2_; clear n2_))
          first | (rw [Exit.noGoto_ret]; go_ret) | go_ret
          exact ⟨by rw [show chkE c = x from firstE_stop HF.out (x := x) (by rw [HX.out]; rfl) h0]; rfl, HB.out⟩
      · rw [show ((1 : Nat) : Int) = 1 from rfl]
        obtain ⟨x, hx⟩ : ∃ x, x = stopsE c := ⟨_, rfl⟩
        have HX := Aside0.mk hx
        clear hx
        by_cases h0 : x = 0
        · have h0' : (x == 0) = true := by simpa using h0
          go_wp2_with (first | ((with_reducible refine gate_dst (N := 22) rfl ?_); refine wpList_load_row rfl 33 _ rfl g rfl 33 _ (0, 0) _ (blk_alloc BKg.out _) Try.underlying33 rfl (by kernel_rfl) ?_) | (go_at_call 34; (with_reducible refine (stops_any' c sv wv A cap _ HSV.out (Kd.C_below HS.out (below_alloc HB.out _))).mono ?_); rw [← HX.out]; rintro e w' ⟨rfl, hb⟩; have n0_ := Aside0.mk (blk_step (blk_alloc BKg.out _) hb); have n1_ := Aside0.mk (blk_step (blk_alloc BKr.out _) hb); have n2_ := Aside0.mk (below_step (below_alloc HB.out _) hb); clear BKg BKr HB hb hckr; have BKg := n0_; have BKr := n1_; have HB := n2_; clear n0_ n1_ n2_))
          go_roundw
          case rel => exact ⟨2, by omega, rfl, by first | rfl | rw [h0], ⟨firstE_go HF.out rfl (by rw [← HX.out]; exact h0)⟩, BKg, BKr, HB⟩
          case measure => simp [intOf]
        · have h0' : (x == 0) = false := by simpa using h0
          go_wp2_with (first | ((with_reducible refine gate_dst (N := 22) rfl ?_); refine wpList_load_row rfl 33 _ rfl g rfl 33 _ (0, 0) _ (blk_alloc BKg.out _) Try.underlying33 rfl (by kernel_rfl) ?_) | (go_at_call 34; (with_reducible refine (stops_any' c sv wv A cap _ HSV.out (Kd.C_below HS.out (below_alloc HB.out _))).mono ?_); rw [← HX.out]; rintro e w' ⟨rfl, hb⟩; have n2_ := Aside0.mk (below_step (below_alloc HB.out _) hb); clear BKg BKr HB hb hckr; have HB := n2_; clear n2_))
          first | (rw [Exit.noGoto_ret]; go_ret) | go_ret
          exact ⟨by rw [show chkE c = x from firstE_stop HF.out (x := x) (by rw [HX.out]; rfl) h0]; rfl, HB.out⟩
      · rw [show ((2 : Nat) : Int) = 2 from rfl]
        obtain ⟨x, hx⟩ : ∃ x, x = timesE c := ⟨_, rfl⟩
        have HX := Aside0.mk hx
        clear hx
        by_cases h0 : x = 0
        · have h0' : (x == 0) = true := by simpa using h0
          go_wp2_with (first | ((with_reducible refine gate_dst (N := 22) rfl ?_); refine wpList_load_row rfl 33 _ rfl g rfl 33 _ (0, 0) _ (blk_alloc BKg.out _) Try.underlying33 rfl (by kernel_rfl) ?_) | (go_at_call 35; (with_reducible refine (times_any c sv wv _).mono ?_); rw [← HX.out]; rintro e w' ⟨rfl, hb⟩; have n0_ := Aside0.mk (blk_step (blk_alloc BKg.out _) hb); have n1_ := Aside0.mk (blk_step (blk_alloc BKr.out _) hb); have n2_ := Aside0.mk (below_step (below_alloc HB.out _) hb); clear BKg BKr HB hb hckr; have BKg := n0_; have BKr := n1_; have HB := n2_; clear n0_ n1_ n2_))
          go_roundw
          case rel => exact ⟨3, by omega, rfl, by first | rfl | rw [h0], ⟨firstE_go HF.out rfl (by rw [← HX.out]; exact h0)⟩, BKg, BKr, HB⟩
          case measure => simp [intOf]
        · have h0' : (x == 0) = false := by simpa using h0
          go_wp2_with (first | ((with_reducible refine gate_dst (N := 22) rfl ?_); refine wpList_load_row rfl 33 _ rfl g rfl 33 _ (0, 0) _ (blk_alloc BKg.out _) Try.underlying33 rfl (by kernel_rfl) ?_) | (go_at_call 35; (with_reducible refine (times_any c sv wv _).mono ?_); rw [← HX.out]; rintro e w' ⟨rfl, hb⟩; have n2_ := Aside0.mk (below_step (below_alloc HB.out _) hb); clear BKg BKr HB hb hckr; have HB := n2_; clear n2_))
          first | (rw [Exit.noGoto_ret]; go_ret) | go_ret
          exact ⟨by rw [show chkE c = x from firstE_stop HF.out (x := x) (by rw [HX.out]; rfl) h0]; rfl, HB.out⟩
      · rw [show ((3 : Nat) : Int) = 3 from rfl]
        obtain ⟨x, hx⟩ : ∃ x, x = zonE c.zn := ⟨_, rfl⟩
        have HX := Aside0.mk hx
        clear hx
        by_cases h0 : x = 0
        · have h0' : (x == 0) = true := by simpa using h0
          go_wp2_with (first | ((with_reducible refine gate_dst (N := 22) rfl ?_); refine wpList_load_row rfl 33 _ rfl g rfl 33 _ (0, 0) _ (blk_alloc BKg.out _) Try.underlying33 rfl (by kernel_rfl) ?_) | (go_at_call 36; (with_reducible refine (chk1_any c sv wv _).mono ?_); rw [← HX.out]; rintro e w' ⟨rfl, hb⟩; have n0_ := Aside0.mk (blk_step (blk_alloc BKg.out _) hb); have n1_ := Aside0.mk (blk_step (blk_alloc BKr.out _) hb); have n2_ := Aside0.mk (below_step (below_alloc HB.out _) hb); clear BKg BKr HB hb hckr; have BKg := n0_; have BKr := n1_; have HB := n2_; clear n0_ n1_ n2_))
          go_roundw
          case rel => exact ⟨4, by omega, rfl, by first | rfl | rw [h0], ⟨firstE_go HF.out rfl (by rw [← HX.out]; exact h0)⟩, BKg, BKr, HB⟩
          case measure => simp [intOf]
        · have h0' : (x == 0) = false := by simpa using h0
          go_wp2_with (first | ((with_reducible refine gate_dst (N := 22) rfl ?_); refine wpList_load_row rfl 33 _ rfl g rfl 33 _ (0, 0) _ (blk_alloc BKg.out _) Try.underlying33 rfl (by kernel_rfl) ?_) | (go_at_call 36; (with_reducible refine (chk1_any c sv wv _).mono ?_); rw [← HX.out]; rintro e w' ⟨rfl, hb⟩; have n2_ := Aside0.mk (below_step (below_alloc HB.out _) hb); clear BKg BKr HB hb hckr; have HB := n2_; clear n2_))
          first | (rw [Exit.noGoto_ret]; go_ret) | go_ret
          exact ⟨by rw [show chkE c = x from firstE_stop HF.out (x := x) (by rw [HX.out]; rfl) h0]; rfl, HB.out⟩
      · rw [show ((4 : Nat) : Int) = 4 from rfl]
        obtain ⟨x, hx⟩ : ∃ x, x = sunE c.sn := ⟨_, rfl⟩
        have HX := Aside0.mk hx
        clear hx
        by_cases h0 : x = 0
        · have h0' : (x == 0) = true := by simpa using h0
          go_wp2_with (first | ((with_reducible refine gate_dst (N := 22) rfl ?_); refine wpList_load_row rfl 33 _ rfl g rfl 33 _ (0, 0) _ (blk_alloc BKg.out _) Try.underlying33 rfl (by kernel_rfl) ?_) | (go_at_call 38; (with_reducible refine (chk2_any c sv wv _).mono ?_); rw [← HX.out]; rintro e w' ⟨rfl, hb⟩; have n0_ := Aside0.mk (blk_step (blk_alloc BKg.out _) hb); have n1_ := Aside0.mk (blk_step (blk_alloc BKr.out _) hb); have n2_ := Aside0.mk (below_step (below_alloc HB.out _) hb); clear BKg BKr HB hb hckr; have BKg := n0_; have BKr := n1_; have HB := n2_; clear n0_ n1_ n2_))
          go_roundw
          case rel => exact ⟨5, by omega, rfl, by first | rfl | rw [h0], ⟨firstE_go HF.out rfl (by rw [← HX.out]; exact h0)⟩, BKg, BKr, HB⟩
          case measure => simp [intOf]
        · have h0' : (x == 0) = false := by simpa using h0
          go_wp2_with (first | ((with_reducible refine gate_dst (N := 22) rfl ?_); refine wpList_load_row rfl 33 _ rfl g rfl 33 _ (0, 0) _ (blk_alloc BKg.out _) Try.underlying33 rfl (by kernel_rfl) ?_) | (go_at_call 38; (with_reducible refine (chk2_any c sv wv _).mono ?_); rw [← HX.out]; rintro e w' ⟨rfl, hb⟩; have n2_ := Aside0.mk (below_step (below_alloc HB.out _) hb); clear BKg BKr HB hb hckr; have HB := n2_; clear n2_))
          first | (rw [Exit.noGoto_ret]; go_ret) | go_ret
          exact ⟨by rw [show chkE c = x from firstE_stop HF.out (x := x) (by rw [HX.out]; rfl) h0]; rfl, HB.out⟩
      · rw [show ((5 : Nat) : Int) = 5 from rfl]
        obtain ⟨x, hx⟩ : ∃ x, x = winsE c := ⟨_, rfl⟩
        have HX := Aside0.mk hx
        clear hx
        by_cases h0 : x = 0
        · have h0' : (x == 0) = true := by simpa using h0
          go_wp2_with (first | ((with_reducible refine gate_dst (N := 22) rfl ?_); refine wpList_load_row rfl 33 _ rfl g rfl 33 _ (0, 0) _ (blk_alloc BKg.out _) Try.underlying33 rfl (by kernel_rfl) ?_) | (go_at_call 40; (with_reducible refine (wins_any' c sv wv B cap' _ HWV.out (Kd.C_below HW.out (below_alloc HB.out _))).mono ?_); rw [← HX.out]; rintro e w' ⟨rfl, hb⟩; have n0_ := Aside0.mk (blk_step (blk_alloc BKg.out _) hb); have n1_ := Aside0.mk (blk_step (blk_alloc BKr.out _) hb); have n2_ := Aside0.mk (below_step (below_alloc HB.out _) hb); clear BKg BKr HB hb hckr; have BKg := n0_; have BKr := n1_; have HB := n2_; clear n0_ n1_ n2_))
          go_roundw
          case rel => exact ⟨6, by omega, rfl, by first | rfl | rw [h0], ⟨firstE_go HF.out rfl (by rw [← HX.out]; exact h0)⟩, BKg, BKr, HB⟩
          case measure => simp [intOf]
        · have h0' : (x == 0) = false := by simpa using h0
          go_wp2_with (first | ((with_reducible refine gate_dst (N := 22) rfl ?_); refine wpList_load_row rfl 33 _ rfl g rfl 33 _ (0, 0) _ (blk_alloc BKg.out _) Try.underlying33 rfl (by kernel_rfl) ?_) | (go_at_call 40; (with_reducible refine (wins_any' c sv wv B cap' _ HWV.out (Kd.C_below HW.out (below_alloc HB.out _))).mono ?_); rw [← HX.out]; rintro e w' ⟨rfl, hb⟩; have n2_ := Aside0.mk (below_step (below_alloc HB.out _) hb); clear BKg BKr HB hb hckr; have HB := n2_; clear n2_))
          first | (rw [Exit.noGoto_ret]; go_ret) | go_ret
          exact ⟨by rw [show chkE c = x from firstE_stop HF.out (x := x) (by rw [HX.out]; rfl) h0]; rfl, HB.out⟩
    · obtain rfl : k = 6 := by omega
      go_wp2
      first | (rw [Exit.noGoto_ret]; go_ret) | go_ret
      exact ⟨by rw [show chkE c = 0 from HF.out]; rfl, HB.out⟩
end Go.Proofs.Ytopmmbopankpgaa
