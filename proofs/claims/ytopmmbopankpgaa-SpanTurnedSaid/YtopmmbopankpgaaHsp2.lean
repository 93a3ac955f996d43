/- Spans: which one is the weightiest at an instant (span.weightiest). -/
import Derived.Test.YtopmmbopankpgaaHsb
import Derived.Test.YtopmmbopankpgaaQr
import Derived.Deep.DeepCutAuto
namespace Go.Proofs.Ytopmmbopankpgaa.H
open Go.RowKit Go.Proofs.Ytopmmbopankpgaa Go.Proofs.YtopmmbopankpgaaW.PrintWords Go.Proofs.YtopmmbopankpgaaW.PrintLast Go.Proofs.YtopmmbopankpgaaW.PrintMore SpTh
set_option linter.unusedVariables false
set_option linter.unusedSimpArgs false

/-- The place of the weightiest of the first k. -/
def wtI (xs : List Spn) (t : Int) : Nat → Int
  | 0 => -1
  | k + 1 => if inS (rdS xs k) t && (decide (wtI xs t k < 0) || !lessS (rdS xs k) (rdS xs (wtI xs t k).toNat)) then k else wtI xs t k
theorem wtI_bd (xs : List Spn) (t : Int) (k : Nat) : -1 ≤ wtI xs t k ∧ wtI xs t k < k := by
  induction k with
  | zero => simp [wtI]
  | succ m ih =>
    simp only [wtI]
    split <;> omega
theorem wt_of_wtI (xs : List Spn) (t : Int) (k : Nat) (hk : k ≤ xs.length) : wt (xs.take k) t = if wtI xs t k < 0 then none else some (rdS xs (wtI xs t k).toNat) := by
  induction k with
  | zero => simp [wtI, wt]
  | succ m ih =>
    have ih := ih (by omega)
    rw [List.take_succ_eq_append_getElem (by omega)]
    unfold wt at ih ⊢
    rw [List.foldl_append, ih]
    have e : wtI xs t (m + 1) = if inS (rdS xs m) t && (decide (wtI xs t m < 0) || !lessS (rdS xs m) (rdS xs (wtI xs t m).toNat)) then (m : Int) else wtI xs t m := rfl
    rw [e]
    simp only [List.foldl_cons, List.foldl_nil, ← rdS_getElem xs m (by omega)]
    have hb := wtI_bd xs t m
    obtain ⟨b, hbb⟩ : ∃ b, b = wtI xs t m := ⟨_, rfl⟩
    rw [← hbb] at hb ⊢
    clear hbb ih
    unfold wtStep
    by_cases hi : inS (rdS xs m) t = true
    · by_cases h0 : b < 0
      · simp [hi, h0]
      · cases hl : lessS (rdS xs m) (rdS xs b.toNat)
        · simp [hi, h0, hl]
        · simp [hi, h0, hl]
    · simp [hi]
theorem inW_no (x : Spn) (t : Int) (W : World) {w' : World} (h : inS x t = false) (hw' : Below W.heap.size W w') : Calls Try.prog 61 #[.agg (spnA x), .int .i64 t] w' fun e w'' => e = .returned (.bool false) ∧ Below W.heap.size W w'' :=
  (inS_any x t w').mono fun e w'' ⟨he, hb⟩ => ⟨by rw [he, h], below_step hw' hb⟩
theorem inW_yes (x : Spn) (t : Int) (W : World) {w' : World} (h : inS x t = true) (hw' : Below W.heap.size W w') : Calls Try.prog 61 #[.agg (spnA x), .int .i64 t] w' fun e w'' => e = .returned (.bool true) ∧ Below W.heap.size W w'' :=
  (inS_any x t w').mono fun e w'' ⟨he, hb⟩ => ⟨by rw [he, h], below_step hw' hb⟩
theorem lessW (x y : Spn) (b : Bool) (W : World) {w' : World} (h : lessS x y = b) (hw' : Below W.heap.size W w') : Calls Try.prog 78 #[.agg (spnA x), .agg (spnA y)] w' fun e w'' => e = .returned (.bool b) ∧ Below W.heap.size W w'' :=
  (lessS_any x y w').mono fun e w'' ⟨he, hb⟩ => ⟨by rw [he, h], below_step hw' hb⟩
set_option maxHeartbeats 8000000 in
set_option maxRecDepth 100000 in
theorem wt_any (A : Option Addr) (cap : Nat) (xs : List Spn) (t : Int) (w : World) (hr : Kd.C kSpn w A xs.length xs) :
    Calls Try.prog 55 #[.slice A xs.length cap, .int .i64 t] w fun e w' => e = .returned (.int .i64 (wtI xs t xs.length)) ∧ Below w.heap.size w w' := by
  obtain ⟨n, hn⟩ : ∃ n, n = xs.length := ⟨_, rfl⟩
  have hm : n ≤ 9223372036854775807 := by have := hr.2.1; omega
  have HR := Aside0.mk hr
  clear hr
  rw [← hn] at HR ⊢
  have HN := Aside0.mk hn
  clear hn
  go_enter Try.func55, Try.ntmps55
  go_wp2_with fail
  go_loopw [5, 11] (fun b i wr => ∃ k : Nat, k ≤ n ∧ i = .int .i64 k ∧ b = .int .i64 (wtI xs t k) ∧ Aside0 (Below w.heap.size w wr)) (fun _ i _ => n - (intOf i).toNat)
  case atStart => exact ⟨0, Nat.zero_le _, rfl, rfl, ⟨Below.refl _ _⟩⟩
  case round =>
    obtain ⟨k, hk, rfl, rfl, HB⟩ := hrel
    by_cases hlt : k < n
    · obtain ⟨ad, e, hc0, hc1, hc2, hc3⟩ := at_Spn (Kd.C_below HR.out HB.out) k hlt
      subst e
      have HS : Aside0 (wtI xs t (k + 1) = if inS (rdS xs k) t && (decide (wtI xs t k < 0) || !lessS (rdS xs k) (rdS xs (wtI xs t k).toNat)) then (k : Int) else wtI xs t k) := ⟨rfl⟩
      have HL := Aside0.mk (wtI_bd xs t k)
      generalize wtI xs t k = b at HS HL ⊢
      generalize rdS xs k = x at hc0 hc1 hc2 hc3 HS
      go_upto_region 6 with fail
      have BX : Aside0 ((wr.alloc (.cells (spnA x) 63)).heap[wr.heap.size]? = some (.cells (spnA x) 63 (0, 0))) := ⟨heap_alloc_new wr _⟩
      have HB2 : Aside0 (Below w.heap.size w (wr.alloc (.cells (spnA x) 63))) := ⟨below_alloc HB.out _⟩
      clear hc0 hc1 hc2 hc3 HB
      generalize wr.alloc (.cells (spnA x) 63) = W at BX HB2 ⊢
      generalize wr.heap.size = g at BX ⊢
      cases h1 : inS x t
      · rw [h1] at HS
        have H1 := Aside0.mk h1
        clear h1
        refine wp_region_wq (fun W' => Below W.heap.size W W') (by kernel_rfl) (by kernel_rfl) (pw_below_drewN (Below.refl _ _) 1) ?_
        refine WQ.row (by rfl) 63 _ rfl g rfl 63 (spnA x) (0, 0) _ (fun w' hw' => blk_step BX.out hw') Try.underlying63 rfl (by kernel_rfl) ?_; (try simp only [Act.put, List.setIfInBounds_toArray, List.set_cons_zero, List.set_cons_succ])
        refine WQ.val (by rfl) (fun w => by go_simp; rfl) ?_; (try simp only [Act.put, List.setIfInBounds_toArray, List.set_cons_zero, List.set_cons_succ])
        refine WQ.call (f := 61) (v := .bool false) (by rfl) (fun w => by first | (go_simp; done) | (go_simp; rfl)) (fun w' hw' => inW_no x t W H1.out hw') ?_; (try simp only [Act.put, List.setIfInBounds_toArray, List.set_cons_zero, List.set_cons_succ])
        refine WQ.val (by rfl) (fun w => by go_simp; rfl) ?_; (try simp only [Act.put, List.setIfInBounds_toArray, List.set_cons_zero, List.set_cons_succ])
        refine WQ.off (by rfl) ?_; (try simp only [Act.put, List.setIfInBounds_toArray, List.set_cons_zero, List.set_cons_succ])
        refine WQ.off (by rfl) ?_; (try simp only [Act.put, List.setIfInBounds_toArray, List.set_cons_zero, List.set_cons_succ])
        refine WQ.off (by rfl) ?_; (try simp only [Act.put, List.setIfInBounds_toArray, List.set_cons_zero, List.set_cons_succ])
        refine WQ.off (by rfl) ?_; (try simp only [Act.put, List.setIfInBounds_toArray, List.set_cons_zero, List.set_cons_succ])
        refine WQ.off (by rfl) ?_; (try simp only [Act.put, List.setIfInBounds_toArray, List.set_cons_zero, List.set_cons_succ])
        refine WQ.off (by rfl) ?_; (try simp only [Act.put, List.setIfInBounds_toArray, List.set_cons_zero, List.set_cons_succ])
        refine WQ.off (by rfl) ?_; (try simp only [Act.put, List.setIfInBounds_toArray, List.set_cons_zero, List.set_cons_succ])
        refine WQ.off (by rfl) ?_; (try simp only [Act.put, List.setIfInBounds_toArray, List.set_cons_zero, List.set_cons_succ])
        refine WQ.off (by rfl) ?_; (try simp only [Act.put, List.setIfInBounds_toArray, List.set_cons_zero, List.set_cons_succ])
        refine WQ.off (by rfl) ?_; (try simp only [Act.put, List.setIfInBounds_toArray, List.set_cons_zero, List.set_cons_succ])
        refine WQ.off (by rfl) ?_; (try simp only [Act.put, List.setIfInBounds_toArray, List.set_cons_zero, List.set_cons_succ])
        refine WQ.off (by rfl) ?_; (try simp only [Act.put, List.setIfInBounds_toArray, List.set_cons_zero, List.set_cons_succ])
        refine WQ.val (by rfl) (fun w => by go_simp; rfl) ?_; (try simp only [Act.put, List.setIfInBounds_toArray, List.set_cons_zero, List.set_cons_succ])
        refine WQ.nil ?_
        intro w6 hw6
        go_wp2
        go_roundw
        case rel => exact ⟨k + 1, by omega, by go_num, by rw [HS.out]; rfl, ⟨below_step HB2.out hw6⟩⟩
        case measure => simp [intOf]; omega
      · rw [h1] at HS
        have H1 := Aside0.mk h1
        clear h1
        by_cases h2 : b < 0
        · have h2' : decide (b < 0) = true := by simpa using h2
          rw [h2'] at HS
          refine wp_region_wq (fun W' => Below W.heap.size W W') (by kernel_rfl) (by kernel_rfl) (pw_below_drewN (Below.refl _ _) 1) ?_
          refine WQ.row (by rfl) 63 _ rfl g rfl 63 (spnA x) (0, 0) _ (fun w' hw' => blk_step BX.out hw') Try.underlying63 rfl (by kernel_rfl) ?_; (try simp only [Act.put, List.setIfInBounds_toArray, List.set_cons_zero, List.set_cons_succ])
          refine WQ.val (by rfl) (fun w => by go_simp; rfl) ?_; (try simp only [Act.put, List.setIfInBounds_toArray, List.set_cons_zero, List.set_cons_succ])
          refine WQ.call (f := 61) (v := .bool true) (by rfl) (fun w => by first | (go_simp; done) | (go_simp; rfl)) (fun w' hw' => inW_yes x t W H1.out hw') ?_; (try simp only [Act.put, List.setIfInBounds_toArray, List.set_cons_zero, List.set_cons_succ])
          refine WQ.val (by rfl) (fun w => by go_simp; rfl) ?_; (try simp only [Act.put, List.setIfInBounds_toArray, List.set_cons_zero, List.set_cons_succ])
          refine WQ.val (by rfl) (fun w => by go_simp; rfl) ?_; (try simp only [Act.put, List.setIfInBounds_toArray, List.set_cons_zero, List.set_cons_succ])
          refine WQ.val (by rfl) (fun w => by go_simp; rfl) ?_; (try simp only [Act.put, List.setIfInBounds_toArray, List.set_cons_zero, List.set_cons_succ])
          refine WQ.val (by rfl) (fun w => by go_simp; rfl) ?_; (try simp only [Act.put, List.setIfInBounds_toArray, List.set_cons_zero, List.set_cons_succ])
          refine WQ.off (by rfl) ?_; (try simp only [Act.put, List.setIfInBounds_toArray, List.set_cons_zero, List.set_cons_succ])
          refine WQ.off (by rfl) ?_; (try simp only [Act.put, List.setIfInBounds_toArray, List.set_cons_zero, List.set_cons_succ])
          refine WQ.off (by rfl) ?_; (try simp only [Act.put, List.setIfInBounds_toArray, List.set_cons_zero, List.set_cons_succ])
          refine WQ.off (by rfl) ?_; (try simp only [Act.put, List.setIfInBounds_toArray, List.set_cons_zero, List.set_cons_succ])
          refine WQ.off (by rfl) ?_; (try simp only [Act.put, List.setIfInBounds_toArray, List.set_cons_zero, List.set_cons_succ])
          refine WQ.off (by rfl) ?_; (try simp only [Act.put, List.setIfInBounds_toArray, List.set_cons_zero, List.set_cons_succ])
          refine WQ.off (by rfl) ?_; (try simp only [Act.put, List.setIfInBounds_toArray, List.set_cons_zero, List.set_cons_succ])
          refine WQ.off (by rfl) ?_; (try simp only [Act.put, List.setIfInBounds_toArray, List.set_cons_zero, List.set_cons_succ])
          refine WQ.val (by rfl) (fun w => by go_simp; rfl) ?_; (try simp only [Act.put, List.setIfInBounds_toArray, List.set_cons_zero, List.set_cons_succ])
          refine WQ.val (by rfl) (fun w => by go_simp; rfl) ?_; (try simp only [Act.put, List.setIfInBounds_toArray, List.set_cons_zero, List.set_cons_succ])
          refine WQ.nil ?_
          intro w6 hw6
          go_wp2
          go_roundw
          case rel => exact ⟨k + 1, by omega, by go_num, by rw [HS.out]; rfl, ⟨below_step HB2.out hw6⟩⟩
          case measure => simp [intOf]; omega
        · have h2' : decide (b < 0) = false := by simpa using h2
          rw [h2'] at HS
          obtain ⟨j, hj⟩ : ∃ j : Nat, b = j := ⟨b.toNat, by omega⟩
          subst hj
          have hjn : j < n := by have := HL.out; omega
          have HC : Aside0 (∀ w', Below W.heap.size W w' → ∃ ad', some ad = some ad' ∧ w'.cell? (ad'.add (j * 4)) = some (.int .i64 (rdS xs j).f0) ∧ w'.cell? ⟨(ad'.add (j * 4)).block, (ad'.add (j * 4)).off + 1, none⟩ = some (.int .i64 (rdS xs j).f1) ∧ w'.cell? ⟨(ad'.add (j * 4)).block, (ad'.add (j * 4)).off + 2, none⟩ = some (.int .i64 (rdS xs j).f2) ∧ w'.cell? ⟨(ad'.add (j * 4)).block, (ad'.add (j * 4)).off + 3, none⟩ = some (.int .i64 (rdS xs j).f3)) :=
            ⟨fun w' hw' => at_Spn (Kd.C_below HR.out (below_step HB2.out hw')) j hjn⟩
          have hp0 : (0 : Int) ≤ (j : Int) := by omega
          have hp1 : (j : Int) < (n : Int) := by omega
          rw [show ((j : Int)).toNat = j from by omega] at HS
          generalize rdS xs j = y at HC HS
          clear hjn h2
          cases h3 : lessS x y
          all_goals
            rw [h3] at HS
            have H3 := Aside0.mk h3
            clear h3
            refine wp_region_wq (fun W' => Below W.heap.size W W') (by kernel_rfl) (by kernel_rfl) (pw_below_drewN (Below.refl _ _) 1) ?_
            refine WQ.row (by rfl) 63 _ rfl g rfl 63 (spnA x) (0, 0) _ (fun w' hw' => blk_step BX.out hw') Try.underlying63 rfl (by kernel_rfl) ?_; (try simp only [Act.put, List.setIfInBounds_toArray, List.set_cons_zero, List.set_cons_succ])
            refine WQ.val (by rfl) (fun w => by go_simp; rfl) ?_; (try simp only [Act.put, List.setIfInBounds_toArray, List.set_cons_zero, List.set_cons_succ])
            refine WQ.call (f := 61) (v := .bool true) (by rfl) (fun w => by first | (go_simp; done) | (go_simp; rfl)) (fun w' hw' => inW_yes x t W H1.out hw') ?_; (try simp only [Act.put, List.setIfInBounds_toArray, List.set_cons_zero, List.set_cons_succ])
            refine WQ.val (by rfl) (fun w => by go_simp; rfl) ?_; (try simp only [Act.put, List.setIfInBounds_toArray, List.set_cons_zero, List.set_cons_succ])
            refine WQ.val (by rfl) (fun w => by go_simp; rfl) ?_; (try simp only [Act.put, List.setIfInBounds_toArray, List.set_cons_zero, List.set_cons_succ])
            refine WQ.val (by rfl) (fun w => by go_simp; rfl) ?_; (try simp only [Act.put, List.setIfInBounds_toArray, List.set_cons_zero, List.set_cons_succ])
            refine WQ.val (by rfl) (fun w => by go_simp; rfl) ?_; (try simp only [Act.put, List.setIfInBounds_toArray, List.set_cons_zero, List.set_cons_succ])
            refine WQ.val (by rfl) (fun w => by go_simp; rfl) ?_; (try simp only [Act.put, List.setIfInBounds_toArray, List.set_cons_zero, List.set_cons_succ])
            refine WQ.row (by rfl) 63 _ rfl g rfl 63 (spnA x) (0, 0) _ (fun w' hw' => blk_step BX.out hw') Try.underlying63 rfl (by kernel_rfl) ?_; (try simp only [Act.put, List.setIfInBounds_toArray, List.set_cons_zero, List.set_cons_succ])
            refine WQ.val (by rfl) (fun w => by go_simp; rfl) ?_; (try simp only [Act.put, List.setIfInBounds_toArray, List.set_cons_zero, List.set_cons_succ])
            refine WQ.val (by rfl) (fun w => by go_simp; rfl) ?_; (try simp only [Act.put, List.setIfInBounds_toArray, List.set_cons_zero, List.set_cons_succ])
            refine WQ.val (by rfl) (fun w => by go_simp; rfl) ?_; (try simp only [Act.put, List.setIfInBounds_toArray, List.set_cons_zero, List.set_cons_succ])
            refine WQ.read (v := .agg (spnA y)) (by rfl) (fun w' hw' => by obtain ⟨ad', e', hd0, hd1, hd2, hd3⟩ := HC.out w' hw'; injection e' with e'; subst e'; first | (go_simp; done) | (go_simp; rfl)) ?_; (try simp only [Act.put, List.setIfInBounds_toArray, List.set_cons_zero, List.set_cons_succ])
            refine WQ.call (f := 78) (by rfl) (fun w => by first | (go_simp; done) | (go_simp; rfl)) (fun w' hw' => lessW x y _ W H3.out hw') ?_; (try simp only [Act.put, List.setIfInBounds_toArray, List.set_cons_zero, List.set_cons_succ])
            refine WQ.val (by rfl) (fun w => by go_simp; rfl) ?_; (try simp only [Act.put, List.setIfInBounds_toArray, List.set_cons_zero, List.set_cons_succ])
            refine WQ.val (by rfl) (fun w => by go_simp; rfl) ?_; (try simp only [Act.put, List.setIfInBounds_toArray, List.set_cons_zero, List.set_cons_succ])
            refine WQ.val (by rfl) (fun w => by go_simp; rfl) ?_; (try simp only [Act.put, List.setIfInBounds_toArray, List.set_cons_zero, List.set_cons_succ])
            refine WQ.nil ?_
            intro w6 hw6
            go_wp2
            go_roundw
            case rel => exact ⟨k + 1, by omega, by go_num, by rw [HS.out]; rfl, ⟨below_step HB2.out hw6⟩⟩
            case measure => simp [intOf]; omega
    · obtain rfl : k = n := by omega
      go_wp2
      go_ret
      exact ⟨rfl, HB.out⟩
end Go.Proofs.Ytopmmbopankpgaa.H
