-- Written by hp.py (a program of this session's, over the kit's print): functions of the seat, each with a plain Lean function and its contract.
import Derived.Test.YtopmmbopankpgaaH0
namespace Go.Proofs.Ytopmmbopankpgaa.H
open Go.RowKit Go.Proofs.YtopmmbopankpgaaW.PrintWords Go.Proofs.YtopmmbopankpgaaW.PrintLast Go.Proofs.YtopmmbopankpgaaW.PrintMore
attribute [local go_sem] max2_int min2_int max_two min_two max_three min_three max_four min_four   -- for this text's walks alone
set_option linter.unusedVariables false
set_option linter.unusedSimpArgs false

/-! ### newellaw13_modes: function 32 -/
def newellaw13_modes.l0 : Nat → List (S63) → Int → Option ((List (S63)))
  | 0, _, _ => none
  | k + 1, x0, x3 => if x3 < (x0.length : Int) then (if 0 ≤ x3 then (newellaw13_modes.l0 k (x0.set (x3 : Int).toNat (⟨(rd_T63 x0 x3).f0, (rd_T63 x0 x3).f1, (rd_T63 x0 x3).f2, 0⟩ : S63)) (wrap64 (x3 + 1))) else (none)) else (some x0)
def newellaw13_modes.f (k : Nat) (l0 : List (S63)) : Option ((List (S63))) := newellaw13_modes.l0 k l0 0
theorem newellaw13_modes.mono_l : ∀ k, (∀ y0 y1, LeO (newellaw13_modes.l0 k y0 y1) (newellaw13_modes.l0 (k + 1) y0 y1))
  | 0 => fun _ _ r h => by simp [newellaw13_modes.l0] at h
  | k + 1 => by
    have ih0 := newellaw13_modes.mono_l k
    · intro y0 y1
      unfold newellaw13_modes.l0
      repeat' first
      | (with_reducible exact ih0 _ _)
      | (with_reducible exact LeO.refl _)
      | (with_reducible exact LeO.none _)
      | (with_reducible refine LeO.ite ?_ ?_)
      | (with_reducible refine LeO.bind ?_ (fun _ => ?_))
      | exact ih0 _ _
      | exact LeO.none _
      | refine LeO.ite ?_ ?_
      | refine LeO.bind ?_ (fun _ => ?_)
theorem newellaw13_modes.mono : ∀ a0 k, LeO (newellaw13_modes.f k a0) (newellaw13_modes.f (k + 1) a0) := by
  intro a0 k
  have ih0 := newellaw13_modes.mono_l k
  unfold newellaw13_modes.f
  repeat' first
      | (with_reducible exact ih0 _ _)
      | (with_reducible exact LeO.refl _)
      | (with_reducible exact LeO.none _)
      | (with_reducible refine LeO.ite ?_ ?_)
      | (with_reducible refine LeO.bind ?_ (fun _ => ?_))
      | exact ih0 _ _
      | exact LeO.none _
      | refine LeO.ite ?_ ?_
      | refine LeO.bind ?_ (fun _ => ?_)
set_option maxHeartbeats 8000000 in
set_option maxRecDepth 100000 in
theorem newellaw13_modes.calls (k : Nat) (P0_ : Nat → Prop) (u9000_ : Value) (l0 : List (S63)) (r : List (S63)) (w0 w : World) (hB : Below w0.heap.size w0 w) (ho0 : Kd.R k63 63 w w0.heap.size P0_ u9000_ l0) (h : newellaw13_modes.f k l0 = some r) :
    Calls Try.prog 32 #[u9000_] w fun e w' => ∃ v0_ : Value, e = .returned (v0_) ∧ Kd.R k63 63 w' w0.heap.size (fun k_ => (P0_ k_ ∨ w.heap.size ≤ k_)) v0_ r ∧ Below w0.heap.size w0 w' ∧ Kept w w' (fun k_ => P0_ k_) := by
  have HO0 := Aside0.mk (show Kd.R k63 63 w w0.heap.size (fun k_ => (P0_ k_ ∨ w.heap.size ≤ k_)) u9000_ l0 from Kd.R_mono ho0 (fun k_ hk => (.inl hk)))
  have HK := Aside0.mk (Kept.refl w (fun k_ => P0_ k_))
  have HW0 := Aside0.mk hB.size
  have HB := Aside0.mk hB
  clear hB
  have H : (newellaw13_modes.l0 k l0 0) = some r := h
  clear h
  have H' := Aside0.mk H
  clear H
  go_enter Try.func32, Try.ntmps32
  go_wp2
  go_loopg [3] k (fun kq v3 w' => ∃ (x0_1 : List (S63)) (x3_1 : Int), v3 = .int .i64 x3_1 ∧ Aside0 (newellaw13_modes.l0 kq x0_1 x3_1 = some r) ∧ Aside0 (kq ≤ k) ∧ Aside0 (Kd.R k63 63 w' w0.heap.size (fun k_ => (P0_ k_ ∨ w.heap.size ≤ k_)) u9000_ x0_1) ∧ Aside0 (Kept w w' (fun k_ => P0_ k_)) ∧ Aside0 (Below w0.heap.size w0 w'))
  case atStart => exact ⟨(l0), (0), (by first | rfl | (simp; done) | (simp [*]; done)), H', ⟨Nat.le_refl _⟩, ⟨by (with_reducible repeat (first | apply Kd.R_alloc | apply Kd.R_drewN | apply Kd.R_drew)); exact HO0.out⟩, ⟨by repeat (first | (with_reducible first | exact HK.out | apply Kept.alloc | apply Kept.drewN | apply Kept.drew) | exact HK.out)⟩, ⟨by repeat (first | (with_reducible first | exact HB.out | apply below_alloc | apply pw_below_drewN | apply below_drew1) | exact HB.out)⟩⟩
  case round =>
    clear H'
    obtain ⟨x0_1, x3_1, rfl, HA, HK1, HO_0, HK, HB⟩ := hrel
    cases gk with
    | zero => exact absurd HA.out (by simp [newellaw13_modes.l0])
    | succ k1 =>
      have H := HA.out
      clear HA
      simp only [newellaw13_modes.l0] at H
      by_cases c2 : x3_1 < (x0_1.length : Int)
      · rw [if_pos c2] at H
        have c2b0 : decide (x3_1 < (x0_1.length : Int)) = true := decide_eq_true c2
        clear c2
        by_cases c3 : 0 ≤ x3_1
        · rw [if_pos c3] at H
          have c3b0 : decide (0 ≤ x3_1) = true := decide_eq_true c3
          clear c3
          obtain ⟨y326, hy326⟩ : ∃ y_ : List (S63), y_ = (x0_1.set (x3_1 : Int).toNat (⟨(rd_T63 x0_1 x3_1).f0, (rd_T63 x0_1 x3_1).f1, (rd_T63 x0_1 x3_1).f2, 0⟩ : S63)) := ⟨_, rfl⟩
          replace H : (newellaw13_modes.l0 k1 y326 (wrap64 (x3_1 + 1))) = some r := by first | (rw [hy326]; with_reducible exact H) | (have H2_ := (Option.bind_some _ _).symm.trans H; rw [hy326]; with_reducible exact H2_) | (have H2_ := (Option.bind_some _ _).symm.trans H; with_reducible exact H2_) | with_reducible exact H | (rw [hy326]; exact H) | exact H
          have Ny326 := Aside0.mk hy326
          clear hy326
          have H' := Aside0.mk H
          clear H
          obtain ⟨Ao5, co5, eo5⟩ := Kd.R_slice HO_0.out
          subst eo5
          have p4 : 0 ≤ (x3_1 : Int) := of_decide_eq_true (by first | (with_reducible assumption) | assumption)
          have q4 : (x3_1 : Int) < ((x0_1.length : Int) : Int) := of_decide_eq_true (by first | (with_reducible assumption) | assumption)
          obtain ⟨go4, co4, eo4, gb4, gl4, cl4, HG4⟩ := Kd.R_form HO_0.out (by omega)
          (first | cases eo4 | (injection eo4 with ea_ en_ ec_; (first | subst ea_ | (injection ea_ with ea_; subst ea_)); subst ec_; clear en_))
          have GB4 := Aside0.mk gb4
          have GG4 := Aside0.mk HG4
          clear gb4 gl4 HG4
          have HMgo4 := Aside0.mk (show (P0_ go4 ∨ w.heap.size ≤ go4) from (HO_0.out.1 _ rfl))
          obtain ⟨ce4, hcl4, hM4, hcc4, hfr4⟩ := Kd.R_elem HO_0.out z63 (x3_1 : Int) p4 q4
          obtain rfl := k63_openM hM4
          have hx4_0 : wr.cell? ⟨go4, (x3_1 : Int).toNat * 4, none⟩ = some (.int .i64 ((rd_T63 x0_1 x3_1).f0)) := hcc4 0 _ rfl
          have hx4_1 : wr.cell? ⟨go4, (x3_1 : Int).toNat * 4 + 1, none⟩ = some (.int .i64 ((rd_T63 x0_1 x3_1).f1)) := hcc4 1 _ rfl
          have hx4_2 : wr.cell? ⟨go4, (x3_1 : Int).toNat * 4 + 2, none⟩ = some (.int .i64 ((rd_T63 x0_1 x3_1).f2)) := hcc4 2 _ rfl
          have hx4_3 : wr.cell? ⟨go4, (x3_1 : Int).toNat * 4 + 3, none⟩ = some (.int .i64 ((rd_T63 x0_1 x3_1).f3)) := hcc4 3 _ rfl
          have hf4_0 : wr.frozen? ⟨go4, (x3_1 : Int).toNat * 4, none⟩ = false := hfr4 0
          have hf4_1 : wr.frozen? ⟨go4, (x3_1 : Int).toNat * 4 + 1, none⟩ = false := hfr4 1
          have hf4_2 : wr.frozen? ⟨go4, (x3_1 : Int).toNat * 4 + 2, none⟩ = false := hfr4 2
          have hf4_3 : wr.frozen? ⟨go4, (x3_1 : Int).toNat * 4 + 3, none⟩ = false := hfr4 3
          clear hcl4 hcc4 hfr4 hM4
          replace p4 := eq_true p4
          replace q4 := eq_true q4
          have HX6 := Aside0.mk (show Kd.R k63 63 wr w0.heap.size (fun k_ => (P0_ k_ ∨ w.heap.size ≤ k_)) (.slice (some ⟨go4, 0, none⟩) x0_1.length co5) x0_1 from (by (with_reducible repeat (first | apply Kd.R_alloc | apply Kd.R_drewN | apply Kd.R_drew)); exact HO_0.out))
          obtain ⟨ce6, hcl6, hM6, hcc6, hfr6⟩ := Kd.R_elem HX6.out z63 (x3_1 : Int) (of_decide_eq_true (by first | (with_reducible assumption) | assumption)) (by have h_ : (x3_1 : Int) < ((x0_1.length : Int) : Int) := of_decide_eq_true (by first | (with_reducible assumption) | assumption); first | exact h_ | (have e_ := (Kd.R_reads' HO_0.out).1; omega) | simpa using h_)
          obtain rfl := k63_openM hM6
          have HP6 := Kd.R_seg HX6.out (x3_1 : Int) (of_decide_eq_true (by first | (with_reducible assumption) | assumption)) (by have h_ : (x3_1 : Int) < ((x0_1.length : Int) : Int) := of_decide_eq_true (by first | (with_reducible assumption) | assumption); first | exact h_ | (have e_ := (Kd.R_reads' HO_0.out).1; omega) | simpa using h_) (seg := [.int .i64 0]) (j := 3) hcl6 hcc6 (show 4 ≤ 4 from by decide) (x' := (⟨(rd_T63 x0_1 x3_1).f0, (rd_T63 x0_1 x3_1).f1, (rd_T63 x0_1 x3_1).f2, 0⟩ : S63)) (k63_mkM _ _ _ (⟨(rd_T63 x0_1 x3_1).f0, (rd_T63 x0_1 x3_1).f1, (rd_T63 x0_1 x3_1).f2, 0⟩ : S63) ) (fun _ hk => hk)
          have hx6_3 := hcc6 3 _ rfl
          (try simp only [show (k63).sz = 4 from rfl, Nat.mul_one, Nat.add_zero] at hx6_3)
          have hf6_3 := hfr6 3
          (try simp only [show (k63).sz = 4 from rfl, Nat.mul_one, Nat.add_zero] at hf6_3)
          clear hcl6 hcc6 hfr6 hM6
          go_wp2_with (first | ((with_reducible refine gate_store (t := 3) (p := 13) rfl ?_); refine store_event (t := 3) (p := 13) (v := ?vo_w7) (w1 := (wr.setCell ⟨go4, (x3_1 : Int).toNat * 4 + 3, none⟩ (.int .i64 0))) ?hg ?ho ?hn ?hr ?_; (case ho => rfl); (case hg => rfl); (case hn => rfl); (case hr => first | (go_simp; done) | (go_simp; rfl)); intro w7 hw; have hg : wr.grownBy w7 (some go4) := (by rw [hw]; exact HP6.2); have hp_ : Kd.R k63 63 w7 w0.heap.size (fun k_ => (P0_ k_ ∨ w.heap.size ≤ k_)) (.slice (some ⟨go4, 0, none⟩) x0_1.length co5) y326 := (by rw [hw, Ny326.out]; exact HP6.1); clear HP6; have n0_ := Aside0.mk (hp_); have n1_ := Aside0.mk ((by rw [hw]; exact below_set (HB.out) GB4.out : Below w0.heap.size w0 w7)); have n2_ := Aside0.mk (Kept.of_grown (S := (fun k_ => P0_ k_)) hg (by repeat (first | (with_reducible first | exact HK.out | apply Kept.alloc | apply Kept.drewN | apply Kept.drew) | exact HK.out)) (fun k_ e_ => (HO_0.out.1 k_ e_))); clear HO_0; clear HB; clear HK; have HO_0 := n0_; have HB := n1_; have HK := n2_; clear n0_ n1_ n2_; clear hg hw hp_))
          go_roundg k1
          case measure => have := HK1.out; omega
          case rel => exact ⟨(y326), (wrap64 (x3_1 + 1)), (by first | rfl | (simp; done) | (simp [*]; done)), H', ⟨by have := HK1.out; omega⟩, ⟨by (with_reducible repeat (first | apply Kd.R_alloc | apply Kd.R_drewN | apply Kd.R_drew)); exact HO_0.out⟩, ⟨by repeat (first | (with_reducible first | exact HK.out | apply Kept.alloc | apply Kept.drewN | apply Kept.drew) | exact HK.out)⟩, ⟨by repeat (first | (with_reducible first | exact HB.out | apply below_alloc | apply pw_below_drewN | apply below_drew1) | exact HB.out)⟩⟩
        · rw [if_neg c3] at H
          exact absurd H (by simp)
      · rw [if_neg c2] at H
        have c2b0 : decide (x3_1 < (x0_1.length : Int)) = false := decide_eq_false c2
        clear c2
        obtain rfl := Option.some.inj H
        obtain ⟨Ao8, co8, eo8⟩ := Kd.R_slice HO_0.out
        subst eo8
        go_wp2
        go_ret
        exact ⟨_, by first | rfl | (simp [errW_none, errW_some] <;> rfl) | (simp [*, errW_none, errW_some] <;> rfl), by (with_reducible repeat (first | apply Kd.R_alloc | apply Kd.R_drewN | apply Kd.R_drew)); exact HO_0.out, by repeat (first | (with_reducible first | exact HB.out | apply below_alloc | apply pw_below_drewN | apply below_drew1) | exact HB.out), by repeat (first | (with_reducible first | exact HK.out | apply Kept.alloc | apply Kept.drewN | apply Kept.drew) | exact HK.out)⟩

end Go.Proofs.Ytopmmbopankpgaa.H
