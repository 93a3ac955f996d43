/- newellaw10's ConfigFewer: the walk. -/
import Derived.Test.YtopmmbopankpgaaCfgN
namespace Go.Proofs.Ytopmmbopankpgaa
open Go.RowKit Go.Proofs.YtopmmbopankpgaaW.PrintWords Go.Proofs.YtopmmbopankpgaaW.PrintLast Go.Proofs.YtopmmbopankpgaaW.PrintMore
set_option linter.unusedVariables false
set_option linter.unusedSimpArgs false

set_option maxRecDepth 100000 in
set_option maxHeartbeats 4000000 in
theorem fewer_any (c : Cfg) (sv wv : Value) (n : Int) (w : World) (h : RdC w c sv wv) :
    Calls Try.prog 3 #[.agg (cfgA c sv wv), .int .i64 n] w fun e w' => e = .returned (.bool true) ∧ Below w.heap.size w w' := by
  have hin : n ≤ 9223372036854775807 ∨ True := .inr trivial
  have HR := Aside0.mk h
  clear h hin
  have HBX := below_alloc (Below.refl w.heap.size w) (.cells (cfgA c sv wv) 33)
  have n0_ := Aside0.mk (heap_alloc_new w (.cells (cfgA c sv wv) 33))
  have n1_ := Aside0.mk HBX
  clear HBX
  have BKg := n0_
  have HB := n1_
  clear n0_ n1_
  go_enter Try.func3, Try.ntmps3
  go_upto_region 1 with fail
  generalize w.alloc (.cells (cfgA c sv wv) 33) = W at BKg HB ⊢
  obtain ⟨p, hp⟩ : ∃ p, p = fewC c := ⟨_, rfl⟩
  obtain ⟨x, hx⟩ : ∃ x, x = chkE c := ⟨_, rfl⟩
  have HP := Aside0.mk hp
  have HX := Aside0.mk hx
  clear hp hx
  have HL : Aside0 (fewC c = true → c.stops.length ≤ 1000 ∧ c.wins.length ≤ 1000) := ⟨by unfold fewC; simp; omega⟩
  by_cases hgo : p = true ∧ x = 0 ∧ 0 ≤ n
  case neg =>
    have hne : p = false ∨ (p = true ∧ (x != 0) = true) ∨ (p = true ∧ (x != 0) = false ∧ decide (n < 0) = true) := by
      cases p
      · exact .inl rfl
      · by_cases h0 : x = 0
        · refine .inr (.inr ⟨rfl, by simp [h0], ?_⟩)
          simp
          exact Int.not_le.1 (fun h => hgo ⟨rfl, h0, h⟩)
        · exact .inr (.inl ⟨rfl, by simp [h0]⟩)
    clear hgo
    rcases hne with rfl | ⟨rfl, h0⟩ | ⟨rfl, h0, h1⟩
    · go_wp2_with (first | ((with_reducible refine gate_dst (N := 6) rfl ?_); refine wpList_load_row rfl 33 _ rfl w.heap.size rfl 33 _ (0, 0) _ (BKg.out) Try.underlying33 rfl (by kernel_rfl) ?_) | ((with_reducible refine gate_dst (N := 10) rfl ?_); refine gate_guard (by rfl) ?_; refine wpList_load_row rfl 33 _ rfl w.heap.size rfl 33 _ (0, 0) _ (BKg.out) Try.underlying33 rfl (by kernel_rfl) ?_) | (go_at_call 11; refine (few_v c sv wv _ (RdC_below HR.out HB.out)).mono ?_; rw [← HP.out]; rintro e w' ⟨rfl, hb⟩; have n0_ := Aside0.mk (below_step HB.out hb); have n1_ := Aside0.mk (blk_step BKg.out hb); clear HB BKg hb; have HB := n0_; have BKg := n1_; clear n0_ n1_) | (go_at_call 13; refine (own_v c sv wv _ (RdC_below HR.out HB.out) HL.out.1 HL.out.2).mono ?_; rintro e w' ⟨su, wu, rfl, ho1, ho2, hb⟩; have RO := Aside0.mk (RdC_own ho1 ho2); have n0_ := Aside0.mk (below_step HB.out hb); have n1_ := Aside0.mk (blk_step BKg.out hb); clear HB BKg hb; have HB := n0_; have BKg := n1_; clear n0_ n1_; clear ho1 ho2) | (go_at_call 12; refine (chk_v c su wu _ RO.out).mono ?_; rw [← HX.out]; rintro e w' ⟨rfl, hb⟩; have n0_ := Aside0.mk (below_step HB.out hb); have n1_ := Aside0.mk (blk_step BKg.out hb); clear HB BKg hb; have HB := n0_; have BKg := n1_; clear n0_ n1_; clear RO) | (go_at_call 14; refine (awake_any _).mono ?_; rintro e w' ⟨rfl, hb⟩; have n0_ := Aside0.mk (below_step HB.out hb); have n1_ := Aside0.mk (blk_step BKg.out hb); clear HB BKg hb; have HB := n0_; have BKg := n1_; clear n0_ n1_))
      go_ret
      exact ⟨rfl, HB.out⟩
    all_goals
      have HL := Aside0.mk (HL.out HP.out.symm)
      go_wp2_with (first | ((with_reducible refine gate_dst (N := 6) rfl ?_); refine wpList_load_row rfl 33 _ rfl w.heap.size rfl 33 _ (0, 0) _ (BKg.out) Try.underlying33 rfl (by kernel_rfl) ?_) | ((with_reducible refine gate_dst (N := 10) rfl ?_); refine gate_guard (by rfl) ?_; refine wpList_load_row rfl 33 _ rfl w.heap.size rfl 33 _ (0, 0) _ (BKg.out) Try.underlying33 rfl (by kernel_rfl) ?_) | (go_at_call 11; refine (few_v c sv wv _ (RdC_below HR.out HB.out)).mono ?_; rw [← HP.out]; rintro e w' ⟨rfl, hb⟩; have n0_ := Aside0.mk (below_step HB.out hb); have n1_ := Aside0.mk (blk_step BKg.out hb); clear HB BKg hb; have HB := n0_; have BKg := n1_; clear n0_ n1_) | (go_at_call 13; refine (own_v c sv wv _ (RdC_below HR.out HB.out) HL.out.1 HL.out.2).mono ?_; rintro e w' ⟨su, wu, rfl, ho1, ho2, hb⟩; have RO := Aside0.mk (RdC_own ho1 ho2); have n0_ := Aside0.mk (below_step HB.out hb); have n1_ := Aside0.mk (blk_step BKg.out hb); clear HB BKg hb; have HB := n0_; have BKg := n1_; clear n0_ n1_; clear ho1 ho2) | (go_at_call 12; refine (chk_v c su wu _ RO.out).mono ?_; rw [← HX.out]; rintro e w' ⟨rfl, hb⟩; have n0_ := Aside0.mk (below_step HB.out hb); have n1_ := Aside0.mk (blk_step BKg.out hb); clear HB BKg hb; have HB := n0_; have BKg := n1_; clear n0_ n1_; clear RO) | (go_at_call 14; refine (awake_any _).mono ?_; rintro e w' ⟨rfl, hb⟩; have n0_ := Aside0.mk (below_step HB.out hb); have n1_ := Aside0.mk (blk_step BKg.out hb); clear HB BKg hb; have HB := n0_; have BKg := n1_; clear n0_ n1_))
      go_ret
      exact ⟨rfl, HB.out⟩
  case pos =>
    obtain ⟨rfl, rfl, hn⟩ := hgo
    have n0_ := Aside0.mk (HL.out HP.out.symm)
    clear HL
    have HL := n0_
    clear n0_
    have h0 : ((0 : Int) != 0) = false := rfl
    have h1 : decide (n < 0) = false := by simp; omega
    have HN := Aside0.mk hn
    clear hn
    go_upto_region 3 with (first | ((with_reducible refine gate_dst (N := 6) rfl ?_); refine wpList_load_row rfl 33 _ rfl w.heap.size rfl 33 _ (0, 0) _ (BKg.out) Try.underlying33 rfl (by kernel_rfl) ?_) | ((with_reducible refine gate_dst (N := 10) rfl ?_); refine gate_guard (by rfl) ?_; refine wpList_load_row rfl 33 _ rfl w.heap.size rfl 33 _ (0, 0) _ (BKg.out) Try.underlying33 rfl (by kernel_rfl) ?_) | (go_at_call 11; refine (few_v c sv wv _ (RdC_below HR.out HB.out)).mono ?_; rw [← HP.out]; rintro e w' ⟨rfl, hb⟩; have n0_ := Aside0.mk (below_step HB.out hb); have n1_ := Aside0.mk (blk_step BKg.out hb); clear HB BKg hb; have HB := n0_; have BKg := n1_; clear n0_ n1_) | (go_at_call 13; refine (own_v c sv wv _ (RdC_below HR.out HB.out) HL.out.1 HL.out.2).mono ?_; rintro e w' ⟨su, wu, rfl, ho1, ho2, hb⟩; have RO := Aside0.mk (RdC_own ho1 ho2); have n0_ := Aside0.mk (below_step HB.out hb); have n1_ := Aside0.mk (blk_step BKg.out hb); clear HB BKg hb; have HB := n0_; have BKg := n1_; clear n0_ n1_; clear ho1 ho2) | (go_at_call 12; refine (chk_v c su wu _ RO.out).mono ?_; rw [← HX.out]; rintro e w' ⟨rfl, hb⟩; have n0_ := Aside0.mk (below_step HB.out hb); have n1_ := Aside0.mk (blk_step BKg.out hb); clear HB BKg hb; have HB := n0_; have BKg := n1_; clear n0_ n1_; clear RO) | (go_at_call 14; refine (awake_any _).mono ?_; rintro e w' ⟨rfl, hb⟩; have n0_ := Aside0.mk (below_step HB.out hb); have n1_ := Aside0.mk (blk_step BKg.out hb); clear HB BKg hb; have HB := n0_; have BKg := n1_; clear n0_ n1_))
    clear h0 h1
    go_upto_region 4 with (first
      | ((with_reducible refine gate_dst (N := 20) rfl ?_); refine wpList_load_row rfl 33 _ rfl w.heap.size rfl 33 _ (0, 0) _ (BKg.out) Try.underlying33 rfl (by kernel_rfl) ?_)
      | (go_at_call 13; refine (own_v c sv wv _ (RdC_below HR.out HB.out) HL.out.1 HL.out.2).mono ?_; rintro e w' ⟨su, wu, rfl, ho1, ho2, hb⟩; have HO1 := Aside0.mk (Kd.R_lower ho1 (below_size HB.out)); have HO2 := Aside0.mk (Kd.R_lower ho2 (below_size HB.out)); have n0_ := Aside0.mk (below_step HB.out hb); have n1_ := Aside0.mk (blk_step BKg.out hb); clear HB BKg hb; have HB := n0_; have BKg := n1_; clear n0_ n1_; clear ho1 ho2)
      | (refine wpList_store_row rfl 33 (.tmp 5) (.tmp 21) rfl w'.heap.size (cfgA c su wu) rfl rfl 33 zCfgA (heap_alloc_new w' _) ?hi rfl (cfgA_one_v (RdC_own HO1.out HO2.out)) ?_; (case hi => kernel_rfl); rw [World.setRow_alloc_new]))
    rw [put_none]
    have n0_ := Aside0.mk (heap_alloc_new w' (.cells (cfgA c su wu) 33))
    have n1_ := Aside0.mk (blk_alloc BKg.out (.cells (cfgA c su wu) 33))
    have n2_ := Aside0.mk (below_alloc HB.out (.cells (cfgA c su wu) 33))
    have n3_ := Aside0.mk (Kd.R_below HO1.out (below_alloc (Below.refl _ _) (.cells (cfgA c su wu) 33)))
    have n4_ := Aside0.mk (Kd.R_below HO2.out (below_alloc (Below.refl _ _) (.cells (cfgA c su wu) 33)))
    have HNE := Aside0.mk (blk_lt BKg.out)
    clear BKg HB HO1 HO2
    have BKh := n0_
    have BKg := n1_
    have HB := n2_
    have HO1 := n3_
    have HO2 := n4_
    clear n0_ n1_ n2_ n3_ n4_
    generalize w'.alloc (.cells (cfgA c su wu) 33) = W at BKh BKg HB HO1 HO2 ⊢
    generalize w'.heap.size = hh at BKh HNE ⊢
    obtain ⟨k, hk⟩ : ∃ k : Nat, n = k := ⟨n.toNat, by have := HN.out; omega⟩
    subst hk
    clear HN
    obtain ⟨A, B, ca, cb, hsv, hwv, h3, h4⟩ := HR.out
    have HWV := Aside0.mk hwv
    have hc36 : W.cell? ⟨w.heap.size, 36, none⟩ = some (.slice B c.wins.length cb) := by rw [blk_cell BKg.out, ← hwv]; rfl
    have HM := Aside0.mk h4.2.1
    clear hsv hwv h3 h4
    go_cut [26] (fun t W' => t = .bool (decide (k < c.wins.length)) ∧ W' = W)
    case first =>
      go_wp2_with fail
      go_meet
      exact ⟨rfl, rfl⟩
    case rest =>
    obtain ⟨rfl, rfl⟩ := hcut
    go_step
    go_cut [5] (fun t W' => t = .pointer (some ⟨hh, 0, none⟩) ∧ ∃ vs vw, Aside0 (W'.heap[w.heap.size]? = some (.cells (cfgA c sv wv) 33 (0, 0))) ∧ Aside0 (W'.heap[hh]? = some (.cells (cfgA (fewerC c k) vs vw) 33 (0, 0))) ∧ Aside0 (Below w.heap.size w W') ∧ Aside0 (Kd.R (Kd.int .i64) 3 W' w.heap.size (fun _ => True) vs c.stops) ∧ Aside0 (Kd.R kWin 81 W' w.heap.size (fun _ => True) vw (fewerC c k).wins))
    case first =>
      by_cases hlt : k < c.wins.length
      · have h5 : decide (k < c.wins.length) = true := by simp; omega
        obtain ⟨g, cc, rfl, hcc, hbg, hcm⟩ := R_at HO2.out (by omega)
        have hwr : IntKind.i64.wrap ((k : Int) + 1) = (k : Int) + 1 := by rw [IntKind.wrap_i64]; omega
        have hp0 : (0 : Int) ≤ (k : Int) + 1 := by omega
        have hp1 : (k : Int) + 1 ≤ (c.wins.length : Int) := by omega
        have hp2 : ((k : Int) + 1).toNat = k + 1 := by omega
        have hkc : k ≤ cc := by omega
        have hck := blk_cell BKh.out
        obtain ⟨_, ho2⟩ := Kd.R_own HO2.out
        have HG := Aside0.mk (own_typed ho2 g (by simp [Value.ownBlock]))
        clear ho2
        have hfz := blk_frozen BKh.out
        go_wp2_with fail
        have HG1 := Aside0.mk (show some w.heap.size ≠ some g by have := Kd.R_ne HO2.out BKg.out (by decide); simpa [Value.ownBlock] using this)
        have HG2 := Aside0.mk (show some hh ≠ some g by have := Kd.R_ne HO2.out BKh.out (by decide); simpa [Value.ownBlock] using this)
        obtain ⟨gc, hgc⟩ := HG.out
        have HO1' := Aside0.mk (Kd.R_types HO1.out hgc (by decide))
        clear HG hgc
        have BKg' : Aside0 (wc.drew.heap[w.heap.size]? = some (.cells (cfgA c sv wv) 33 (0, 0))) := ⟨BKg.out⟩
        have BKh' : Aside0 (wc.drew.heap[hh]? = some (.cells (cfgA c su (.slice (some ⟨g, 0, none⟩) c.wins.length cc)) 33 (0, 0))) := ⟨BKh.out⟩
        have n5_ := Aside0.mk (Kd.R_below (w1 := wc.drew) HO1'.out (pw_below_drewN (Below.refl _ _) 1))
        go_region_law (refine Kd.R_delete_step kWin (w0 := w) w.heap.size rfl (.tmp 30) (.tmp 35) 31 81 rfl Try.underlying31 (by kernel_rfl) (g := g) (n := c.wins.length) (c := cc) (k := k) (m := c.wins.length - (k + 1)) (c2 := cc - (k + 1)) (A := if cc = k + 1 then some ⟨g, 0, none⟩ else some ⟨g, (k + 1) * 7, none⟩) (by simp [Act.eval, Act.put]) (by simp [Act.eval, Act.put]) (by simp [Addr.add]; rfl) rfl (Kd.R_below HO2.out (pw_below_drewN (Below.refl _ _) _)) hlt (pw_below_drewN HB.out _) (below_size (pw_below_drewN HB.out 1)) ?_; intro w1 ho hb hg_; have n0_ := Aside0.mk ho; have n1_ := Aside0.mk hb; have n2_ := Aside0.mk (blk_grown BKg'.out hg_ HG1.out); have n3_ := Aside0.mk (blk_grown BKh'.out hg_ HG2.out); have n4_ := Aside0.mk (Kd.R_grown n5_.out hg_ (fun j hj e => hj.2 (by injection e))); clear ho hb hg_ hck hfz; have hck := blk_cell n3_.out; have hfz := blk_frozen n3_.out)
        all_goals
          generalize (if cc = k + 1 then (some ⟨g, 0, none⟩ : Option Addr) else some ⟨g, (k + 1) * 7, none⟩) = AA
          go_wp2_with fail
          go_meet
          refine ⟨rfl, su, .slice (some ⟨g, 0, none⟩) (c.wins.length - 1) cc, ⟨blk_far n2_.out (p := ⟨hh, 36, none⟩) (by have := HNE.out; simp; omega) _⟩, ⟨blk_set n3_.out 36 _⟩, ⟨below_set n1_.out (Nat.le_of_lt HNE.out)⟩, ⟨Kd.R_set (Kd.R_mono n4_.out (fun _ _ => trivial)) n3_.out (by decide) 36 _⟩, ⟨?_⟩⟩
          rw [show (fewerC c k).wins = c.wins.eraseIdx k by unfold fewerC; rw [if_pos (by omega)]; simp]
          exact Kd.R_set n0_.out n3_.out (by decide) 36 _
      · have h5 : decide (k < c.wins.length) = false := by simp; omega
        go_wp2_with fail
        go_meet
        refine ⟨rfl, su, wu, BKg, ?_, HB, HO1, ?_⟩
        · rw [show fewerC c k = c by unfold fewerC; rw [if_neg (by omega)]]; exact BKh
        · rw [show fewerC c k = c by unfold fewerC; rw [if_neg (by omega)]]; exact HO2
    case rest =>
    obtain ⟨rfl, vs, vw, BKg', BKh', HB', HO1', HO2'⟩ := hcut
    clear BKg BKh HB HO1 HO2 hc36
    have BKg := BKg'
    have BKh := BKh'
    have HB := HB'
    clear BKg' BKh' HB'
    obtain ⟨d, hd⟩ : ∃ d, d = fewerC c k := ⟨_, rfl⟩
    have HD0 : Aside0 (chkE d = 0) := ⟨by rw [hd]; exact fewer_chk HX.out.symm k⟩
    have HD1 : Aside0 (fitsC c d = true) := ⟨by rw [hd]; exact fewer_fits HX.out.symm k⟩
    have HD2 : Aside0 (sameC c d = decide ((k : Int) ≥ c.wins.length)) := ⟨by rw [hd]; exact fewer_same c (by omega)⟩
    have HD3 : Aside0 (fitsC c (cutC d) = false) := ⟨cut_fits HD0.out⟩
    have HO1 : Aside0 (Kd.R (Kd.int .i64) 3 wc w.heap.size (fun _ => True) vs d.stops) := ⟨by rw [hd]; exact HO1'.out⟩
    have HO2 : Aside0 (Kd.R kWin 81 wc w.heap.size (fun _ => True) vw d.wins) := ⟨by rw [hd]; exact HO2'.out⟩
    rw [← hd] at BKh
    clear hd HO1' HO2'
    have RD := Aside0.mk (RdC_own HO1.out HO2.out)
    have HC : Aside0 (∀ w', Below wc.heap.size wc w' → w'.cell? ⟨w.heap.size, 36, none⟩ = some (.slice B c.wins.length cb)) := ⟨fun w' hw' => by rw [blk_cell (blk_step BKg.out hw')]; exact congrArg some HWV.out⟩
    go_upto_region 6 with fail
    refine wp_region_cls (fun W' => Below wc.heap.size wc W') (by kernel_rfl) (by kernel_rfl) (pw_below_drewN (Below.refl _ _) 1) ?_
    iterate 20
      refine wpQuiet_step (fun K hK => ?_)
      (first
        | (refine qs_row (by rfl) 33 _ rfl w.heap.size rfl 33 (cfgA c sv wv) (0, 0) _ (fun w' hw' => blk_step BKg.out hw') Try.underlying33 rfl (by kernel_rfl) ?_)
        | (refine qs_row (by rfl) 33 _ rfl hh rfl 33 (cfgA d vs vw) (0, 0) _ (fun w' hw' => blk_step BKh.out hw') Try.underlying33 rfl (by kernel_rfl) ?_)
        | refine qs_val (by first | rfl | (go_simp; done)) (fun w => by first | (go_simp; done) | (go_simp; rfl)) ?_
        | (refine qs_read (by first | rfl | (go_simp; done)) (fun w' hw' => by have hc := HC.out w' hw'; first | (go_simp; done) | (go_simp; rfl)) ?_)
        | (refine qs_call (f := 12) (by first | rfl | (go_simp; done)) (fun w => by first | (go_simp; done) | (go_simp; rfl)) (fun w' hw' => by refine (chk_v d vs vw _ (RdC_below RD.out hw')).mono ?_; rintro e w'' ⟨rfl, hb⟩; rw [HD0.out]; exact ⟨rfl, below_step hw' hb⟩) ?_)
        | (refine qs_call (f := 15) (by first | rfl | (go_simp; done)) (fun w => by first | (go_simp; done) | (go_simp; rfl)) (fun w' hw' => by refine (fits_v c d sv wv vs vw _ (RdC_below HR.out (below_step HB.out hw')) (RdC_below RD.out hw')).mono ?_; rintro e w'' ⟨rfl, hb⟩; rw [HD1.out]; exact ⟨rfl, below_step hw' hb⟩) ?_)
        | (refine qs_call (f := 16) (by first | rfl | (go_simp; done)) (fun w => by first | (go_simp; done) | (go_simp; rfl)) (fun w' hw' => by refine (same_v c d sv wv vs vw _ (RdC_below HR.out (below_step HB.out hw')) (RdC_below RD.out hw')).mono ?_; rintro e w'' ⟨rfl, hb⟩; rw [HD2.out]; exact ⟨rfl, below_step hw' hb⟩) ?_))
      try go_simp
      refine hK _ ?_
      clear hK K
    refine wpQuiet_nil ?_
    intro w6 hw6
    have h2s := chk_two HD0.out
    obtain ⟨g1, c1, rfl, hc1, hbg1, hcm1⟩ := R_at HO1.out (by omega)
    have h1c : 1 ≤ c1 := by omega
    have H2S := Aside0.mk h2s
    clear h2s hc1 hbg1 hcm1 HC
    have n0_ := Aside0.mk (blk_step BKg.out hw6)
    have n1_ := Aside0.mk (blk_step BKh.out hw6)
    have n2_ := Aside0.mk (below_step HB.out hw6)
    have n3_ := Aside0.mk (Kd.R_below HO1.out hw6)
    have n4_ := Aside0.mk (Kd.R_below HO2.out hw6)
    clear BKg BKh HB HO1 HO2 RD hw6
    have BKg := n0_
    have BKh := n1_
    have HB := n2_
    have HO1 := n3_
    have HO2 := n4_
    clear n0_ n1_ n2_ n3_ n4_
    have hck := blk_cell BKh.out
    have hfz := blk_frozen BKh.out
    go_upto_region 9 with fail
    clear hck hfz
    have n0_ := Aside0.mk (blk_far BKg.out (p := ⟨hh, 3, none⟩) (by have := HNE.out; simp; omega) (.slice (some ⟨g1, 0, none⟩) 1 c1))
    have n1_ : Aside0 ((w6.setCell ⟨hh, 3, none⟩ (.slice (some ⟨g1, 0, none⟩) 1 c1)).heap[hh]? = some (.cells (cfgA (cutC d) (.slice (some ⟨g1, 0, none⟩) 1 c1) vw) 33 (0, 0))) := ⟨blk_set BKh.out 3 _⟩
    have n2_ := Aside0.mk (below_set HB.out (Nat.le_of_lt HNE.out) (j := 3) (v := .slice (some ⟨g1, 0, none⟩) 1 c1))
    have n3_ : Aside0 (RdC (w6.setCell ⟨hh, 3, none⟩ (.slice (some ⟨g1, 0, none⟩) 1 c1)) (cutC d) (.slice (some ⟨g1, 0, none⟩) 1 c1) vw) := ⟨by
      have e1 := Kd.R_set HO1.out BKh.out (by decide) 3 (.slice (some ⟨g1, 0, none⟩) 1 c1)
      have e2 := Kd.R_set HO2.out BKh.out (by decide) 3 (.slice (some ⟨g1, 0, none⟩) 1 c1)
      obtain ⟨A', ca', h1, _, h2⟩ := Kd.R_reads e1
      obtain ⟨B', cb', g1', _, g2⟩ := Kd.R_reads e2
      injection h1 with h1 _ _
      subst h1
      exact ⟨_, B', c1, cb', by rw [show (cutC d).stops.length = 1 by have := H2S.out; simp [cutC]; omega], g1', Kd.C_take h2 (by have := H2S.out; omega), g2⟩⟩
    clear BKg BKh HB HO1 HO2 H2S HD1 HD2
    have BKg := n0_
    have BKh := n1_
    have HB := n2_
    have RD := n3_
    clear n0_ n1_ n2_ n3_
    have HD4 : Aside0 (chkE (cutC d) = 101) := ⟨cut_chk HD0.out⟩
    generalize w6.setCell ⟨hh, 3, none⟩ (.slice (some ⟨g1, 0, none⟩) 1 c1) = X at BKg BKh HB RD ⊢
    go_wp2_with (first
      | (go_at_call 14; refine (awake_any _).mono ?_; rintro e w' ⟨rfl, hb⟩; have nr_ := Aside0.mk (RdC_below RD.out hb); have n0_ := Aside0.mk (below_step HB.out hb); have n1_ := Aside0.mk (blk_step BKg.out hb); have n2_ := Aside0.mk (blk_step BKh.out hb); clear HB BKg BKh hb; have HB := n0_; have BKg := n1_; have BKh := n2_; clear n0_ n1_ n2_; clear RD; have RD := nr_; clear nr_)
      | ((with_reducible refine gate_dst (N := 64) rfl ?_); refine gate_guard (by rfl) ?_; refine wpList_load_row rfl 33 _ rfl hh rfl 33 _ (0, 0) _ (BKh.out) Try.underlying33 rfl (by kernel_rfl) ?_)
      | (go_at_call 12; refine (chk_v (cutC d) _ vw _ RD.out).mono ?_; rw [HD4.out]; rintro e w' ⟨rfl, hb⟩; have nr_ := Aside0.mk (RdC_below RD.out hb); have n0_ := Aside0.mk (below_step HB.out hb); have n1_ := Aside0.mk (blk_step BKg.out hb); have n2_ := Aside0.mk (blk_step BKh.out hb); clear HB BKg BKh hb; have HB := n0_; have BKg := n1_; have BKh := n2_; clear n0_ n1_ n2_; clear RD; have RD := nr_; clear nr_)
      | ((with_reducible refine gate_dst (N := 69) rfl ?_); refine gate_guard (by rfl) ?_; refine wpList_load_row rfl 33 _ rfl w.heap.size rfl 33 _ (0, 0) _ (BKg.out) Try.underlying33 rfl (by kernel_rfl) ?_)
      | ((with_reducible refine gate_dst (N := 70) rfl ?_); refine gate_guard (by rfl) ?_; refine wpList_load_row rfl 33 _ rfl hh rfl 33 _ (0, 0) _ (BKh.out) Try.underlying33 rfl (by kernel_rfl) ?_)
      | (go_at_call 15; refine (fits_v c (cutC d) sv wv _ vw _ (RdC_below HR.out HB.out) RD.out).mono ?_; rw [HD3.out]; rintro e w' ⟨rfl, hb⟩; have nr_ := Aside0.mk (RdC_below RD.out hb); have n0_ := Aside0.mk (below_step HB.out hb); have n1_ := Aside0.mk (blk_step BKg.out hb); have n2_ := Aside0.mk (blk_step BKh.out hb); clear HB BKg BKh hb; have HB := n0_; have BKg := n1_; have BKh := n2_; clear n0_ n1_ n2_; clear RD; have RD := nr_; clear nr_))
    go_ret
    exact ⟨rfl, HB.out⟩
end Go.Proofs.Ytopmmbopankpgaa
