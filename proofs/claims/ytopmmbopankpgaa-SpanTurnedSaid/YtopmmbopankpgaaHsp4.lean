/- Spans: what span.pieces' closure tells: each two ends that stand beside each other, in order. -/
import Derived.Test.YtopmmbopankpgaaHsp3
import Derived.Test.YtopmmbopankpgaaRnd
namespace Go.Proofs.Ytopmmbopankpgaa.H
open Go.RowKit Go.Shelf Go.Proofs.Ytopmmbopankpgaa Go.Proofs.YtopmmbopankpgaaW.PrintWords Go.Proofs.YtopmmbopankpgaaW.PrintLast Go.Proofs.YtopmmbopankpgaaW.PrintMore SpTh
attribute [local go_sem] Oper.semAt_some
set_option linter.unusedVariables false
set_option linter.unusedSimpArgs false

/-- The first k pieces. -/
def pcs (E : List Int) : Nat → List (Int × Int)
  | 0 => []
  | k + 1 => pcs E k ++ [(E.getD k 0, E.getD (k + 1) 0)]
theorem pcs_length (E : List Int) : ∀ k, (pcs E k).length = k
  | 0 => rfl
  | k + 1 => by simp [pcs, pcs_length E k]
/-- What lies from b on up to n stays. -/
def Mid (b n : Nat) (W W' : World) : Prop := W.heap.size ≤ W'.heap.size ∧ ∀ k, b ≤ k → k < n → W'.heap[k]? = W.heap[k]?
theorem Mid.refl (b n : Nat) (W : World) : Mid b n W W := ⟨Nat.le_refl _, fun _ _ _ => rfl⟩
theorem Mid.trans {b n : Nat} {A B C : World} (h : Mid b n A B) (k : Mid b n B C) : Mid b n A C := ⟨Nat.le_trans h.1 k.1, fun i h1 h2 => (k.2 i h1 h2).trans (h.2 i h1 h2)⟩
theorem Mid.below {b n : Nat} {W W' : World} (h : Below n W W') : Mid b n W W' := ⟨h.size, fun k _ hk => h.block k hk⟩
/-- Where the ends lie, between b and n. -/
structure Ends (g b n : Nat) (v : Value) (E : List Int) (W : World) : Prop where
  box : W.heap[g]? = some (.cells #[v] 22 (0, 0))
  lo : b ≤ g
  hi : g < n
  row : Kd.R (Kd.int .i64) 3 W b (fun k => b ≤ k ∧ k < n) v E
theorem Ends.mid {g b n : Nat} {v : Value} {E : List Int} {W W' : World} (h : Ends g b n v E W) (k : Mid b n W W') : Ends g b n v E W' :=
  ⟨(k.2 g h.lo h.hi).trans h.box, h.lo, h.hi, Kd.R_step h.row (fun i hi _ => k.2 i hi.1 hi.2)⟩
theorem Ends.of {g b : Nat} {v : Value} {E : List Int} {W : World} (hb : W.heap[g]? = some (.cells #[v] 22 (0, 0))) (hlo : b ≤ g) (hr : Kd.R (Kd.int .i64) 3 W b (fun _ => True) v E) : Ends g b W.heap.size v E W :=
  ⟨hb, hlo, blk_lt hb, Kd.R_mono (Kd.R_bound hr) (fun k hk => ⟨hk.2.1, hk.2.2.1⟩)⟩
set_option maxRecDepth 100000 in
set_option maxHeartbeats 4000000 in
theorem pieces1_in (l g b n : Nat) (A : Option Addr) (cap : Nat) (E : List Int) (J Jx : List (Int × Int) → World → Prop) (W : World)
    (hE : Ends g b n (.slice A E.length cap) E W) (hJ : AbidesFrom W.heap.size J)
    (hY : ∀ pre (x : Int × Int) W1, J pre W1 → pre.length < E.length - 1 → YieldAt Fence.wide 2 Try.prog l #[.int .i64 x.1, .int .i64 x.2] W1 fun e W' =>
      (e = .returned (.bool true) ∧ J (pre ++ [x]) W' ∧ Mid b n W1 W') ∨ (e = .returned (.bool false) ∧ Jx (pre ++ [x]) W')) (h0 : J [] W) :
    CallsIn Fence.wide 3 Try.prog 77 #[.func (.yield l) #[] #[], .pointer (some ⟨g, 0, none⟩)] W fun e W' => (∃ v, e = .returned v) ∧
      ((∃ ys, ys = pcs E (E.length - 1) ∧ J ys W') ∨ (∃ pre, (∃ k, pre = pcs E k) ∧ Jx pre W')) := by
  obtain ⟨m, hm⟩ : ∃ m, m = E.length := ⟨_, rfl⟩
  have hmx : m ≤ 9223372036854775807 := by obtain ⟨_, _, _, _, hc⟩ := Kd.R_reads hE.row; have := hc.2.1; omega
  have HE := Aside0.mk hE
  have HY := Aside0.mk hY
  have HJ := Aside0.mk hJ
  have H0 := Aside0.mk h0
  rw [← hm] at HE HY ⊢
  have HM := Aside0.mk hm
  clear hE hY h0 hJ hm
  refine callsIn_of_wp Try.func77 rfl trivial ?_ rfl
  simp only [Try.ntmps77, List.size_toArray, List.length_cons, List.length_nil, Nat.reduceAdd, Nat.reduceSub, Array.replicate_succ, Array.replicate_zero, List.push_toArray, List.append_toArray, List.nil_append, List.cons_append]
  gi_wp2
  gi_loopw [3, 4] (fun i j wr => ∃ k : Nat, (k + 1 ≤ m ∨ k = 0) ∧ i = .int .i64 (k + 1 : Nat) ∧ Aside0 (J (pcs E k) wr) ∧ Aside0 (Ends g b n (.slice A m cap) E wr)) (fun i _ _ => m - (intOf i).toNat)
  case atStart => exact ⟨0, .inr rfl, rfl, H0, HE⟩
  case round =>
    obtain ⟨k, hk, rfl, HJs, HN⟩ := hrel
    have hck := blk_cell HN.out.box
    by_cases hlt : k + 1 < m
    · obtain ⟨_, _, he, hcc, hC⟩ := Kd.R_reads HN.out.row
      injection he with he1 he2 he3
      subst he1 he3
      rw [← HM.out] at hC hcc
      obtain ⟨ad, e, hd0⟩ := at_intN hC k (by omega)
      obtain ⟨ad2, e2, hd1⟩ := at_intN hC (k + 1) hlt
      rw [e] at e2
      injection e2 with e2
      subst e2
      subst e
      have HR := Aside0.mk (show rd E (k : Int) = E.getD k 0 from by unfold rd; rw [Int.toNat_natCast])
      have HR2 := Aside0.mk (show rd E ((k + 1 : Nat) : Int) = E.getD (k + 1) 0 from by unfold rd; rw [Int.toNat_natCast])
      rw [HR.out] at hd0
      rw [HR2.out] at hd1
      have HP : Aside0 (pcs E (k + 1) = pcs E k ++ [(E.getD k 0, E.getD (k + 1) 0)]) := ⟨rfl⟩
      have hY := HY.out (pcs E k) (E.getD k 0, E.getD (k + 1) 0) (wr.drewN 1) (HJ.out _ _ _ none HJs.out ⟨rfl, rfl, rfl, Nat.le_refl _, fun _ _ _ => rfl⟩ (fun r h => by cases h)) (by rw [pcs_length]; omega)
      obtain ⟨fn, tmps, assign, body, hy, hR⟩ := hY
      dsimp only at hy
      generalize E.getD k 0 = x0 at hd0 hy HP hR
      generalize E.getD (k + 1) 0 = x1 at hd1 hy HP hR
      clear hC hcc he2 HR HR2
      obtain ⟨i, hi⟩ : ∃ i, i = k + 1 := ⟨_, rfl⟩
      have HI := Aside0.mk hi
      rw [← hi] at hd1 hlt ⊢
      have hw1 : IntKind.i64.wrap ((i : Int) - 1) = (k : Int) := by rw [IntKind.wrap_i64]; omega
      have hp0 : (0 : Int) ≤ (k : Int) := by omega
      have hp1 : (k : Int) < (m : Int) := by omega
      have hp2 : (0 : Int) ≤ (i : Int) := by omega
      have hp3 : (i : Int) < (m : Int) := by omega
      clear hi hk
      gi_wp2
      refine wpIn_region_tailIn (ro := none) 10 (by kernel_rfl) (by kernel_rfl) (by kernel_rfl) ?_
      simp only [List.take_succ_cons, List.take_zero, List.drop_succ_cons, List.drop_zero]
      refine WS.val (by rfl) (by first | (go_simp; done) | (go_simp; rfl)) ?_; (try simp only [Act.put, List.setIfInBounds_toArray, List.set_cons_zero, List.set_cons_succ])
      refine WS.val (by rfl) (by first | (go_simp; done) | (go_simp; rfl)) ?_; (try simp only [Act.put, List.setIfInBounds_toArray, List.set_cons_zero, List.set_cons_succ])
      refine WS.val (by rfl) (by first | (go_simp; done) | (go_simp; rfl)) ?_; (try simp only [Act.put, List.setIfInBounds_toArray, List.set_cons_zero, List.set_cons_succ])
      refine WS.val (by rfl) (by first | (go_simp; done) | (go_simp; rfl)) ?_; (try simp only [Act.put, List.setIfInBounds_toArray, List.set_cons_zero, List.set_cons_succ])
      refine WS.val (by rfl) (by first | (go_simp; done) | (go_simp; rfl)) ?_; (try simp only [Act.put, List.setIfInBounds_toArray, List.set_cons_zero, List.set_cons_succ])
      refine WS.val (by rfl) (by first | (go_simp; done) | (go_simp; rfl)) ?_; (try simp only [Act.put, List.setIfInBounds_toArray, List.set_cons_zero, List.set_cons_succ])
      refine WS.val (by rfl) (by first | (go_simp; done) | (go_simp; rfl)) ?_; (try simp only [Act.put, List.setIfInBounds_toArray, List.set_cons_zero, List.set_cons_succ])
      refine WS.val (by rfl) (by first | (go_simp; done) | (go_simp; rfl)) ?_; (try simp only [Act.put, List.setIfInBounds_toArray, List.set_cons_zero, List.set_cons_succ])
      refine WS.val (by rfl) (by first | (go_simp; done) | (go_simp; rfl)) ?_; (try simp only [Act.put, List.setIfInBounds_toArray, List.set_cons_zero, List.set_cons_succ])
      refine WS.val (by rfl) (by first | (go_simp; done) | (go_simp; rfl)) ?_; (try simp only [Act.put, List.setIfInBounds_toArray, List.set_cons_zero, List.set_cons_succ])
      refine WS.nil ?_
      clear hd0 hd1 hck hw1 hp0 hp1 hp2 hp3
      show wpListIn Fence.wide _ _ _ _ _ _ _
      gi_wp2
      refine hR.mono ?_
      rintro e W3 (⟨rfl, hJ3, hk3⟩ | ⟨rfl, hJx3⟩)
      · gi_wp2
        go_roundw
        case rel => exact ⟨i, .inl (by omega), rfl, ⟨by rw [HI.out, HP.out]; exact hJ3⟩, ⟨HN.out.mid (Mid.trans (Mid.below (pw_below_drewN (Below.refl _ _) 1)) hk3)⟩⟩
        case measure => simp [intOf]; omega
      · gi_wp2
        refine bodyPost_ret (results_none rfl _ _ _) rfl ?_
        exact ⟨⟨_, rfl⟩, .inr ⟨_, ⟨k + 1, HP.out.symm⟩, hJx3⟩⟩
    · gi_wp2
      go_end0
      have hm1 : m - 1 = k := by omega
      exact ⟨⟨_, rfl⟩, .inl ⟨_, by rw [hm1], HJs.out⟩⟩
end Go.Proofs.Ytopmmbopankpgaa.H
