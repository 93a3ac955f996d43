/- What sunset.Check answers, for every table. -/
import Derived.Test.YtopmmbopankpgaaCfgA
namespace Go.Proofs.Ytopmmbopankpgaa
open Go.RowKit Go.Proofs.YtopmmbopankpgaaW.PrintWords Go.Proofs.YtopmmbopankpgaaW.PrintLast Go.Proofs.YtopmmbopankpgaaW.PrintMore
set_option linter.unusedVariables false
set_option linter.unusedSimpArgs false

def snL (s : Sn) : List Int := [s.u0, s.u1, s.u2, s.u3, s.u4, s.u5, s.u6, s.u7, s.u8, s.u9, s.u10, s.u11]
def snAt (s : Sn) (i : Int) : Int := rd (snL s) i
theorem sn_cell {w : World} {b : Nat} {s : Sn} (h : w.heap[b]? = some (.cells (snA s) 30 (0, 0))) (i : Nat) (hi : i < 12) : w.cell? ⟨b, i, none⟩ = some (.int .i64 (snAt s i)) := by
  rw [blk_cell h]
  unfold snAt rd
  obtain rfl | rfl | rfl | rfl | rfl | rfl | rfl | rfl | rfl | rfl | rfl | rfl : i = 0 ∨ i = 1 ∨ i = 2 ∨ i = 3 ∨ i = 4 ∨ i = 5 ∨ i = 6 ∨ i = 7 ∨ i = 8 ∨ i = 9 ∨ i = 10 ∨ i = 11 := by omega
  all_goals rfl
def monthsL (s : Sn) (l : List Int) : List Int := l.map fun m => snAt s (m % 12)
theorem months_snoc (s : Sn) (l : List Int) (k : Nat) (hk : k < l.length) : monthsL s (l.take (k + 1)) = monthsL s (l.take k) ++ [snAt s (rd l k % 12)] := by
  unfold monthsL rd
  rw [List.take_succ_eq_append_getElem hk, List.map_append]
  simp [hk]
set_option maxHeartbeats 2000000 in
theorem months_any (s : Sn) (A : Option Addr) (cap : Nat) (l : List Int) (w : World) (hr : Kd.C (Kd.int .i64) w A l.length l) (hp : ∀ i : Nat, i < l.length → 0 ≤ rd l i) (hl : l.length ≤ 100) :
    Calls Try.prog 67 #[.agg (snA s), .slice A l.length cap] w fun e w' => ∃ v, e = .returned v ∧ Kd.R (Kd.int .i64) 3 w' w.heap.size (fun _ => True) v (monthsL s l) ∧ Below w.heap.size w w' := by
  obtain ⟨n, hn⟩ : ∃ n, n = l.length := ⟨_, rfl⟩
  have HR := Aside0.mk hr
  have HP := Aside0.mk hp
  clear hr hp
  rw [← hn] at HR HP hl ⊢
  have HN := Aside0.mk hn
  clear hn
  have HB := Aside0.mk (Below.refl w.heap.size w)
  go_enter Try.func67, Try.ntmps67
  go_wp2_with ((with_reducible refine gate_dst (N := 2) rfl ?_); refine box_event ?hg (N := 2) ?hd (cs := snA s) (t := 30) ?hr ?_; (case hd => rfl); (case hg => rfl); (case hr => first | (go_simp; done) | (go_simp; rfl)); intro g hg_ w3_ hbox_ hb_; have n0_ := Aside0.mk (below_step HB.out hb_); have n1_ := Aside0.mk hbox_; have n2_ := Aside0.mk (show w.heap.size ≤ g by rw [hg_]; exact below_size HB.out); clear HB; have HB := n0_; have BKg := n1_; have GEg := n2_; clear n0_ n1_ n2_; clear hb_ hbox_ hg_)
  go_loopw [5, 10] (fun v i wr => ∃ k : Nat, k ≤ n ∧ i = .int .i64 k ∧ Aside0 (Kd.R (Kd.int .i64) 3 wr w.heap.size (fun _ => True) v (monthsL s (l.take k))) ∧ Aside0 (wr.heap[g]? = some (.cells (snA s) 30 (0, 0))) ∧ Aside0 (Below w.heap.size w wr)) (fun _ i _ => n - (intOf i).toNat)
  case atStart => exact ⟨0, Nat.zero_le _, rfl, ⟨Kd.R_nil _ _ _ _ _⟩, BKg, HB⟩
  case round =>
    clear HB BKg
    obtain ⟨k, hk, rfl, HO, BKg, HB⟩ := hrel
    by_cases hlt : k < n
    · obtain ⟨ad, e, hc0⟩ := at_intN (Kd.C_below HR.out HB.out) k hlt
      subst e
      have h0 := HP.out k hlt
      obtain ⟨m, hm⟩ : ∃ m : Nat, rd l k = m := ⟨(rd l k).toNat, by omega⟩
      have HS : Aside0 (monthsL s (l.take (k + 1)) = monthsL s (l.take k) ++ [snAt s ((m % 12 : Nat) : Int)]) := ⟨by rw [months_snoc s l k (by have := HN.out; omega), hm]; rfl⟩
      rw [hm] at hc0
      clear hm h0
      have hc1 := sn_cell BKg.out (m % 12) (by omega)
      have hm12 : m % 12 < 12 := by omega
      generalize snAt s ((m % 12 : Nat) : Int) = x at HS hc1
      go_wp2_with (at_builtin; refine Kd.R_append (Kd.int .i64) (w0 := w) w.heap.size rfl (.tmp 14) (.tmp 19) 22 3 (.int .i64 0) 8 rfl Try.underlying22 infoInt rfl (by decide) (by omega) _ (monthsL s (l.take k)) x [.int .i64 x] (fun _ => True) (fun _ => False) rfl rfl ?aP (fun _ hk => hk.elim) ?aF ?aO ?aB ?aS ?aL ?_; (case aP => exact rfl); (case aF => exact fun _ _ => trivial); (case aO => exact HO.out); (case aB => exact HB.out); (case aS => exact below_size HB.out); (case aL => have := (List.length_take_le k l); simp only [monthsL, List.length_map]; omega); intro v1 w14 ho hb hg hat; have n0_ := Aside0.mk (blk_grown BKg.out hg (Kd.R_ne HO.out BKg.out (by decide))); have n1_ := Aside0.mk hb; rw [← HS.out] at ho; have n2_ := Aside0.mk ho; clear ho hb hg hat BKg HB HO; have BKg := n0_; have HB := n1_; have HO := n2_; clear n0_ n1_ n2_)
      go_roundw
      case rel => exact ⟨k + 1, by omega, by go_num, HO, BKg, HB⟩
      case measure => simp [intOf]; omega
    · obtain rfl : k = n := by omega
      go_wp2
      go_ret
      exact ⟨_, rfl, by have := HO.out; rw [List.take_of_length_le (by have := HN.out; omega)] at this; exact this, HB.out⟩
def sunBad1 (s : Sn) (k : Nat) : Bool := decide (snAt s k < 900) || decide (1320 < snAt s k)
def sunD (s : Sn) (k : Nat) : Int := wrap64 (snAt s (((k : Int) + 1) % 12) - snAt s ((k : Int) % 12))
def sunBad2 (s : Sn) (k : Nat) : Bool := decide (120 < sunD s k) || decide (sunD s k < -120)
def sunE (s : Sn) : Int := if (List.range 12).any (sunBad1 s) then 70 else if (List.range 12).any (sunBad2 s) then 71 else 0
theorem sn_index (s : Sn) (k : Nat) (hk : k < 12) (w : World) : (Instr.index 30 (.agg (snA s)) (.int .i64 (k : Int))).run Try.prog w = .ok (.int .i64 (snAt s k)) w := by
  obtain rfl | rfl | rfl | rfl | rfl | rfl | rfl | rfl | rfl | rfl | rfl | rfl : k = 0 ∨ k = 1 ∨ k = 2 ∨ k = 3 ∨ k = 4 ∨ k = 5 ∨ k = 6 ∨ k = 7 ∨ k = 8 ∨ k = 9 ∨ k = 10 ∨ k = 11 := by omega
  all_goals kernel_rfl
theorem any_false_snoc (p : Nat → Bool) (k : Nat) (h : (List.range k).any p = false) (hk : p k = false) : (List.range (k + 1)).any p = false := by
  rw [List.range_succ, List.any_append, h]; simp [hk]
theorem any_true_at (p : Nat → Bool) (k n : Nat) (hk : p k = true) (hn : k < n) : (List.range n).any p = true := by
  rw [List.any_eq_true]; exact ⟨k, List.mem_range.2 hn, hk⟩
set_option maxHeartbeats 2000000 in
theorem sun_any (s : Sn) (w : World) :
    Calls Try.prog 39 #[.agg (snA s)] w fun e w' => e = .returned (.int .i64 (sunE s)) ∧ Below w.heap.size w w' := by
  have HB := Aside0.mk (Below.refl w.heap.size w)
  go_enter Try.func39, Try.ntmps39
  go_wp2_with (((with_reducible refine gate_dst (N := 1) rfl ?_); refine box_event ?hg (N := 1) ?hd (cs := snA s) (t := 30) ?hr ?_; (case hd => rfl); (case hg => rfl); (case hr => first | (go_simp; done) | (go_simp; rfl)); intro g hg_ w3_ hbox_ hb_; have n0_ := Aside0.mk (below_step HB.out hb_); have n1_ := Aside0.mk hbox_; have n2_ := Aside0.mk (show w.heap.size ≤ g by rw [hg_]; exact below_size HB.out); clear HB; have HB := n0_; have BKg := n1_; have GEg := n2_; clear n0_ n1_ n2_; clear hb_ hbox_ hg_); have hck := blk_cell BKg.out)
  obtain ⟨w0, hw0⟩ : ∃ w0, w0 = w3_ := ⟨_, rfl⟩
  go_loop [9] (fun i => ∃ k : Nat, k ≤ 12 ∧ i = .int .i64 k ∧ Aside0 ((List.range k).any (sunBad1 s) = false)) (fun i => 12 - (intOf i).toNat)
  case atStart => exact ⟨0, Nat.zero_le _, rfl, ⟨rfl⟩⟩
  case round =>
    obtain ⟨k, hk, rfl, HN⟩ := hrel
    by_cases hlt : k < 12
    · have hix := sn_index s k hlt
      obtain ⟨x, hx⟩ : ∃ x, x = snAt s k := ⟨_, rfl⟩
      have HS : Aside0 (sunBad1 s k = (decide (x < 900) || decide (1320 < x))) := ⟨by rw [hx]; rfl⟩
      rw [← hx] at hix
      clear hx
      by_cases h1 : x < 900
      · go_wp2
        go_ret
        exact ⟨by unfold sunE; rw [if_pos (any_true_at _ k 12 (by rw [HS.out]; simp [h1]) hlt)]; rfl, HB.out⟩
      · by_cases h2 : 1320 < x
        · go_wp2
          go_ret
          exact ⟨by unfold sunE; rw [if_pos (any_true_at _ k 12 (by rw [HS.out]; simp [h2]) hlt)]; rfl, HB.out⟩
        · go_wp2
          go_round
          case rel => exact ⟨k + 1, by omega, by go_num, ⟨any_false_snoc _ k HN.out (by rw [HS.out]; simp; omega)⟩⟩
          case measure => simp [intOf]; omega
    · obtain rfl : k = 12 := by omega
      clear hk hlt
      have HN1 := HN
      clear HN
      go_wp2_with fail
      have HB0 := HB
      have BK0 := BKg
      clear HB BKg hck
      subst hw0
      go_loopw [19] (fun i wr => ∃ k : Nat, k ≤ 12 ∧ i = .int .i64 k ∧ Aside0 ((List.range k).any (sunBad2 s) = false) ∧ Aside0 (wr.heap[g]? = some (.cells (snA s) 30 (0, 0))) ∧ Aside0 (Below w.heap.size w wr)) (fun i _ => 12 - (intOf i).toNat)
      case atStart => exact ⟨0, Nat.zero_le _, rfl, ⟨rfl⟩, BK0, HB0⟩
      case round =>
        clear HB0 BK0
        obtain ⟨k, hk, rfl, HN, BKg, HB⟩ := hrel
        by_cases hlt : k < 12
        · have hck := blk_cell BKg.out
          have HC : Kd.C (Kd.int .i64) (wr.alloc (.cells #[.int .i64 (k : Int), .int .i64 ((k : Int) + 1)] 3)) (some ⟨wr.heap.size, 0, none⟩) 2 [(k : Int), (k : Int) + 1] :=
            C_new (Kd.int .i64) wr 3 [(k : Int), (k : Int) + 1] [.int .i64 (k : Int), .int .i64 ((k : Int) + 1)] _ rfl (Reps_ints .i64 _ [(k : Int), (k : Int) + 1]) (by simp)
          have HC' := Aside0.mk HC
          clear HC
          obtain ⟨x, hx⟩ : ∃ x, x = snAt s ((k : Int) % 12) := ⟨_, rfl⟩
          obtain ⟨y, hy⟩ : ∃ y, y = snAt s (((k : Int) + 1) % 12) := ⟨_, rfl⟩
          have HS : Aside0 (sunBad2 s k = (decide (120 < wrap64 (y - x)) || decide (wrap64 (y - x) < -120))) := ⟨by rw [hx, hy]; rfl⟩
          have HM : Aside0 (monthsL s [(k : Int), (k : Int) + 1] = [x, y]) := ⟨by rw [hx, hy]; rfl⟩
          clear hx hy
          go_wp2_with (go_at_call 67; refine (months_any s _ 2 [(k : Int), (k : Int) + 1] _ HC'.out (by intro i hi; rcases (show i = 0 ∨ i = 1 by simp at hi; omega) with rfl | rfl <;> simp [rd] <;> omega) (by simp)).mono ?_; rintro e w' ⟨v, rfl, ho, hb⟩; rw [HM.out] at ho; obtain ⟨A1, c1, rfl, _, hc⟩ := Kd.R_reads ho; obtain ⟨ad, rfl, hd0⟩ := at_intN hc 0 (by simp); obtain ⟨ad', e', hd1⟩ := at_intN hc 1 (by simp); obtain rfl : ad = ad' := (by simpa using e'); clear e' hc ho; replace hd0 : w'.cell? ad = some (.int .i64 x) := (by simpa [rd, Addr.add] using hd0); replace hd1 : w'.cell? (ad.add 1) = some (.int .i64 y) := (by simpa [rd] using hd1); have hd1b : w'.cell? ⟨ad.block, ad.off + 1, none⟩ = some (.int .i64 y) := hd1; have n0_ := Aside0.mk (below_step (below_alloc HB.out _) hb); have n1_ := Aside0.mk ((hb.block g (by simp; have := blk_lt BKg.out; omega)).trans (blk_alloc BKg.out _)); clear HB BKg hb hck; have HB := n0_; have BKg := n1_; clear n0_ n1_)
          go_quiet (fail)
          by_cases h1 : 120 < wrap64 (y - x)
          · have h1' : decide (120 < wrap64 (y - x)) = true := by simpa using h1
            go_wp2
            go_ret
            exact ⟨by unfold sunE; rw [if_neg (by rw [HN1.out]; simp), if_pos (any_true_at _ k 12 (by rw [HS.out]; simp [h1]) hlt)]; rfl, by apply pw_below_drewN; exact HB.out⟩
          · have h1' : decide (120 < wrap64 (y - x)) = false := by simpa using h1
            by_cases h2 : wrap64 (y - x) < -120
            · have h2' : decide (wrap64 (y - x) < -120) = true := by simpa using h2
              go_wp2
              go_ret
              exact ⟨by unfold sunE; rw [if_neg (by rw [HN1.out]; simp), if_pos (any_true_at _ k 12 (by rw [HS.out]; simp [h2]) hlt)]; rfl, by apply pw_below_drewN; exact HB.out⟩
            · have h2' : decide (wrap64 (y - x) < -120) = false := by simpa using h2
              go_wp2
              go_roundw
              case rel => exact ⟨k + 1, by omega, by go_num, ⟨any_false_snoc _ k HN.out (by rw [HS.out]; simp; omega)⟩, ⟨blk_drewN BKg.out _⟩, ⟨by apply pw_below_drewN; exact HB.out⟩⟩
              case measure => simp [intOf]; omega
        · obtain rfl : k = 12 := by omega
          go_wp2
          go_ret
          exact ⟨by unfold sunE; rw [if_neg (by rw [HN1.out]; simp), if_neg (by rw [HN.out]; simp)]; rfl, HB.out⟩
end Go.Proofs.Ytopmmbopankpgaa
