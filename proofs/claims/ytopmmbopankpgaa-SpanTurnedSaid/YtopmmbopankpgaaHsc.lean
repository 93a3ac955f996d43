/- Spans: span.Cut. -/
import Derived.Test.YtopmmbopankpgaaHsb
import Derived.Deep.DeepCutAuto
namespace Go.Proofs.Ytopmmbopankpgaa.H
open Go.RowKit Go.Proofs.Ytopmmbopankpgaa Go.Proofs.YtopmmbopankpgaaW.PrintWords Go.Proofs.YtopmmbopankpgaaW.PrintLast Go.Proofs.YtopmmbopankpgaaW.PrintMore SpTh
attribute [local go_sem] max2_int min2_int max_two min_two
set_option linter.unusedVariables false
set_option linter.unusedSimpArgs false

theorem infoSpnC : (Try.prog.info? 63).map (fun i => (i.zero, i.size, i.bytes)) = some (some (.agg #[.int .i64 0, .int .i64 0, .int .i64 0, .int .i64 0]), 4, 32) := by kernel_rfl
theorem cutS_append (fr upto : Int) (a b : List Spn) : cutS fr upto (a ++ b) = cutS fr upto a ++ cutS fr upto b := by
  induction a with
  | nil => rfl
  | cons s r ih => simp [cutS, ih]
theorem cutS_length (fr upto : Int) (a : List Spn) : (cutS fr upto a).length ≤ a.length := by
  induction a with
  | nil => simp [cutS]
  | cons s r ih =>
    simp only [cutS, List.length_append, List.length_cons]
    split <;> simp <;> omega
theorem cutS_step (fr upto : Int) (xs : List Spn) (k : Nat) (h : k < xs.length) : cutS fr upto (xs.take (k + 1)) = cutS fr upto (xs.take k) ++ (if (cut1 fr upto (rdS xs k)).f0 < (cut1 fr upto (rdS xs k)).f1 then [cut1 fr upto (rdS xs k)] else []) := by
  rw [List.take_succ_eq_append_getElem h, cutS_append, rdS_getElem xs k h]
  simp [cutS]
set_option maxRecDepth 100000 in
set_option maxHeartbeats 4000000 in
theorem cut_any (A : Option Addr) (cap : Nat) (xs : List Spn) (fr upto : Int) (w : World) (hr : Kd.C kSpn w A xs.length xs) (hlen : xs.length ≤ 100000) :
    Calls Try.prog 30 #[.slice A xs.length cap, .int .i64 fr, .int .i64 upto] w fun e w' => ∃ v, e = .returned v ∧ Kd.R kSpn 63 w' w.heap.size (fun _ => True) v (cutS fr upto xs) ∧ Below w.heap.size w w' := by
  obtain ⟨n, hn⟩ : ∃ n, n = xs.length := ⟨_, rfl⟩
  have hm : n ≤ 100000 := by omega
  have HR := Aside0.mk hr
  clear hr hlen
  rw [← hn] at HR ⊢
  have HN := Aside0.mk hn
  clear hn
  go_enter Try.func30, Try.ntmps30
  go_wp2_with fail
  go_loopw [7, 12] (fun v i wr => ∃ k : Nat, k ≤ n ∧ i = .int .i64 k ∧ Aside0 (Kd.R kSpn 63 wr w.heap.size (fun _ => True) v (cutS fr upto (xs.take k))) ∧ Aside0 (Below w.heap.size w wr)) (fun _ i _ => n - (intOf i).toNat)
  case atStart => exact ⟨0, Nat.zero_le _, rfl, ⟨by simpa [cutS] using Kd.R_nil _ _ _ _ _⟩, ⟨Below.refl _ _⟩⟩
  case round =>
    obtain ⟨k, hk, rfl, HO, HB⟩ := hrel
    by_cases hlt : k < n
    · obtain ⟨ad, e, hc0, hc1, hc2, hc3⟩ := at_Spn (Kd.C_below HR.out HB.out) k hlt
      subst e
      have HS := Aside0.mk (cutS_step fr upto xs k (by rw [← HN.out]; exact hlt))
      generalize rdS xs k = x at hc0 hc1 hc2 hc3 HS
      obtain ⟨a, ha⟩ : ∃ a, (if x.f0 < fr then fr else x.f0) = a := ⟨_, rfl⟩
      obtain ⟨b, hb⟩ : ∃ b, (if upto < x.f1 then upto else x.f1) = b := ⟨_, rfl⟩
      rw [show (cut1 fr upto x) = ⟨a, b, x.f2, x.f3⟩ from by unfold cut1; rw [ha, hb]] at HS
      dsimp only at HS
      by_cases hq : a < b
      · have hq' : decide (a < b) = true := by simpa using hq
        rw [if_pos hq] at HS
        go_wp2_with (at_builtin; refine Kd.R_append kSpn (w0 := w) (W := wr.alloc (.cells #[.int .i64 a, .int .i64 b, .int .i64 x.f2, .int .i64 x.f3] 63)) w.heap.size rfl (.tmp 31) (.tmp 33) 56 63 (.agg #[.int .i64 0, .int .i64 0, .int .i64 0, .int .i64 0]) 32 rfl Try.underlying56 infoSpnC rfl (by decide) (by omega) u7 (cutS fr upto (xs.take k)) ⟨a, b, x.f2, x.f3⟩ [.int .i64 a, .int .i64 b, .int .i64 x.f2, .int .i64 x.f3] (fun _ => True) (fun _ => False) rfl (by simp [Act.eval]) (k63_mkM _ _ _ _) (fun _ hk => hk.elim) (fun _ _ => trivial) (Kd.R_below HO.out (below_alloc (Below.refl _ _) _)) (below_alloc HB.out _) (below_size (below_alloc HB.out _)) ?aL ?_; (case aL => have := cutS_length fr upto (xs.take k); rw [List.length_take] at this; omega); intro v1 w1 ho hb1 hg hat; have HO1 := Aside0.mk ho; have HB1 := Aside0.mk hb1; clear ho hb1 hg hat)
        go_roundw
        case rel => exact ⟨k + 1, by omega, by go_num, ⟨by rw [HS.out]; exact HO1.out⟩, HB1⟩
        case measure => simp [intOf]; omega
      · have hq' : decide (a < b) = false := by simpa using hq
        rw [if_neg hq, List.append_nil] at HS
        go_wp2_with fail
        go_roundw
        case rel => exact ⟨k + 1, by omega, by go_num, ⟨by rw [HS.out]; exact Kd.R_below HO.out (below_alloc (Below.refl _ _) _)⟩, ⟨below_alloc HB.out _⟩⟩
        case measure => simp [intOf]; omega
    · obtain rfl : k = n := by omega
      go_wp2
      go_ret
      exact ⟨_, rfl, by have := HO.out; rwa [HN.out, List.take_length] at this, HB.out⟩
/-- The plain function, as the printed ones want it. -/
def span_Cut.f (l : List Spn) (fr upto : Int) : Option (List Spn) := if l.length ≤ 100000 then some (cutS fr upto l) else none
theorem span_Cut.calls (A0 : Option Addr) (c0 : Nat) (l0 : List Spn) (a1 a2 : Int) (r : List Spn) (w : World) (hr0 : Kd.C kSpn w A0 l0.length l0) (hc0 : l0.length ≤ c0) (h : span_Cut.f l0 a1 a2 = some r) :
    Calls Try.prog 30 #[.slice A0 l0.length c0, .int .i64 a1, .int .i64 a2] w fun e w' => ∃ v0_ : Value, e = .returned (v0_) ∧ Kd.R kSpn 63 w' w.heap.size (fun _ => True) v0_ r ∧ Below w.heap.size w w' := by
  unfold span_Cut.f at h
  split at h
  · injection h with h
    subst h
    exact cut_any A0 c0 l0 a1 a2 w hr0 (by assumption)
  · cases h
end Go.Proofs.Ytopmmbopankpgaa.H
