/- What slices.Equal answers of two rows of windows, and config.Same of two configurations. -/
import Derived.Test.YtopmmbopankpgaaCfgF
import Derived.Test.YtopmmbopankpgaaCfgG
namespace Go.Proofs.Ytopmmbopankpgaa
open Go.RowKit Go.Proofs.YtopmmbopankpgaaW.PrintWords Go.Proofs.YtopmmbopankpgaaW.PrintLast Go.Proofs.YtopmmbopankpgaaW.PrintMore
set_option linter.unusedVariables false
set_option linter.unusedSimpArgs false

theorem forIn_all {P : Program} {w : World} (body : Nat → Sem Bool) (f : Nat → Bool) : ∀ l : List Nat, (∀ i ∈ l, (body i).run P w = .ok (f i) w) →
    (Sem.run P (forIn l ((none : Option Bool), ()) fun i _ => do
      let r ← body i
      if (!r) = true then pure (ForInStep.done (some false, ())) else pure (ForInStep.yield (none, ()))) w) = .ok (if l.all f then (none, ()) else (some false, ())) w
  | [], _ => by simp
  | i :: l, h => by
    rw [List.forIn_cons]
    simp only [Sem.run_bind, h i (List.mem_cons_self), Result.andThen_ok]
    cases hf : f i
    · simp [hf]
    · simp only [Bool.not_true, Bool.false_eq_true, if_false, Sem.run_pure, Result.andThen_ok]
      rw [forIn_all body f l (fun j hj => h j (List.mem_cons_of_mem _ hj))]
      simp [hf]
theorem eqArr (n d : Nat) (t e : TypeId) (xs ys : Array Value) (w : World) (P : Program) (f : Nat → Bool) (hu : P.underlying t = some (.array n e)) (hs : (sizeOf e).run P w = .ok 1 w)
    (hf : ∀ i, i < n → (do let a ← part e xs (i * 1); let b ← part e ys (i * 1); Op.equalIn d e a b : Sem Bool).run P w = .ok (f i) w) :
    (Op.equalIn (d + 1) t (.agg xs) (.agg ys)).run P w = .ok ((List.range' 0 n).all f) w := by
  simp only [Op.equalIn, Sem.run_bind, run_underlying hu, Result.andThen_ok, hs]
  simp only [Std.Legacy.Range.forIn_eq_forIn_range', Std.Legacy.Range.size]
  rw [show (n - 0 + 1 - 1) / 1 = n by omega]
  have h := forIn_all (P := P) (w := w) (fun i => do let a ← part e xs (i * 1); let b ← part e ys (i * 1); Op.equalIn d e a b) f (List.range' 0 n) (fun i hi => hf i (by simp at hi; omega))
  simp only [bind_assoc] at h
  rw [h]
  cases (List.range' 0 n).all f <;> simp
set_option maxRecDepth 100000 in
theorem eqSn (d : Nat) (w : World) (x0 y0 x1 y1 x2 y2 x3 y3 x4 y4 x5 y5 x6 y6 x7 y7 x8 y8 x9 y9 x10 y10 x11 y11 : Int) :
    (Op.equalIn (d + 2) 30 (.agg #[.int .i64 x0, .int .i64 x1, .int .i64 x2, .int .i64 x3, .int .i64 x4, .int .i64 x5, .int .i64 x6, .int .i64 x7, .int .i64 x8, .int .i64 x9, .int .i64 x10, .int .i64 x11]) (.agg #[.int .i64 y0, .int .i64 y1, .int .i64 y2, .int .i64 y3, .int .i64 y4, .int .i64 y5, .int .i64 y6, .int .i64 y7, .int .i64 y8, .int .i64 y9, .int .i64 y10, .int .i64 y11])).run Try.prog w = .ok (x0 == y0 && (x1 == y1 && (x2 == y2 && (x3 == y3 && (x4 == y4 && (x5 == y5 && (x6 == y6 && (x7 == y7 && (x8 == y8 && (x9 == y9 && (x10 == y10 && x11 == y11))))))))))) w := by
  rw [eqArr 12 (d + 1) 30 3 _ _ w Try.prog (fun i => rd [x0, x1, x2, x3, x4, x5, x6, x7, x8, x9, x10, x11] i == rd [y0, y1, y2, y3, y4, y5, y6, y7, y8, y9, y10, y11] i) Try.underlying30 (by go_simp) ?_]
  · simp [List.range', rd]
  · intro i hi
    obtain rfl | rfl | rfl | rfl | rfl | rfl | rfl | rfl | rfl | rfl | rfl | rfl : i = 0 ∨ i = 1 ∨ i = 2 ∨ i = 3 ∨ i = 4 ∨ i = 5 ∨ i = 6 ∨ i = 7 ∨ i = 8 ∨ i = 9 ∨ i = 10 ∨ i = 11 := by omega
    all_goals (go_simp; rfl)
theorem eqWinA (d : Nat) (w : World) (x0 y0 : Int) (x1 y1 : Int) (x2 y2 : Int) (x3 y3 : Int) (x4 y4 : Int) (x5 y5 : Int) (x6 y6 : Int) :
    (Op.equalIn (d + 2) 81 (.agg #[.int .i64 x0, .int .i64 x1, .int .i64 x2, .int .i64 x3, .int .i64 x4, .int .i64 x5, .int .i64 x6]) (.agg #[.int .i64 y0, .int .i64 y1, .int .i64 y2, .int .i64 y3, .int .i64 y4, .int .i64 y5, .int .i64 y6])).run Try.prog w = .ok (x0 == y0 && (x1 == y1 && (x2 == y2 && (x3 == y3 && (x4 == y4 && (x5 == y5 && (x6 == y6))))))) w := by
  refine eqA_of Try.underlying81 (by kernel_rfl) ?_
  refine eqf_cons (by rfl) (by go_simp; rfl) (by go_simp; rfl) (by go_simp) ?_
  refine eqf_cons (by rfl) (by go_simp; rfl) (by go_simp; rfl) (by go_simp) ?_
  refine eqf_cons (by rfl) (by go_simp; rfl) (by go_simp; rfl) (by go_simp) ?_
  refine eqf_cons (by rfl) (by go_simp; rfl) (by go_simp; rfl) (by go_simp) ?_
  refine eqf_cons (by rfl) (by go_simp; rfl) (by go_simp; rfl) (by go_simp) ?_
  refine eqf_cons (by rfl) (by go_simp; rfl) (by go_simp; rfl) (by go_simp) ?_
  exact eqf_last (by rfl) (by go_simp; rfl) (by go_simp; rfl) (by go_simp)
theorem eqTms (d : Nat) (w : World) (x0 y0 : Int) (x1 y1 : Int) (x2 y2 : Int) (x3 y3 : Int) (x4 y4 : Int) (x5 y5 : Int) (x6 y6 : Int) :
    (Op.equalIn (d + 2) 24 (.agg #[.int .i64 x0, .int .i64 x1, .int .i64 x2, .int .i64 x3, .int .i64 x4, .int .i64 x5, .int .i64 x6]) (.agg #[.int .i64 y0, .int .i64 y1, .int .i64 y2, .int .i64 y3, .int .i64 y4, .int .i64 y5, .int .i64 y6])).run Try.prog w = .ok (x0 == y0 && (x1 == y1 && (x2 == y2 && (x3 == y3 && (x4 == y4 && (x5 == y5 && (x6 == y6))))))) w := by
  refine eqA_of Try.underlying24 (by kernel_rfl) ?_
  refine eqf_cons (by rfl) (by go_simp; rfl) (by go_simp; rfl) (by go_simp) ?_
  refine eqf_cons (by rfl) (by go_simp; rfl) (by go_simp; rfl) (by go_simp) ?_
  refine eqf_cons (by rfl) (by go_simp; rfl) (by go_simp; rfl) (by go_simp) ?_
  refine eqf_cons (by rfl) (by go_simp; rfl) (by go_simp; rfl) (by go_simp) ?_
  refine eqf_cons (by rfl) (by go_simp; rfl) (by go_simp; rfl) (by go_simp) ?_
  refine eqf_cons (by rfl) (by go_simp; rfl) (by go_simp; rfl) (by go_simp) ?_
  exact eqf_last (by rfl) (by go_simp; rfl) (by go_simp; rfl) (by go_simp)
theorem eqZon (d : Nat) (w : World) (x0 y0 : Int) (x1 y1 : Int) (x2 y2 : Int) (x3 y3 : Int) (x4 y4 : Int) (x5 y5 : Int) (x6 y6 : Int) (x7 y7 : Int) (x8 y8 : Int) (x9 y9 : Int) :
    (Op.equalIn (d + 3) 28 (.agg #[.int .i64 x0, .int .i64 x1, .int .i64 x2, .int .i64 x3, .int .i64 x4, .int .i64 x5, .int .i64 x6, .int .i64 x7, .int .i64 x8, .int .i64 x9]) (.agg #[.int .i64 y0, .int .i64 y1, .int .i64 y2, .int .i64 y3, .int .i64 y4, .int .i64 y5, .int .i64 y6, .int .i64 y7, .int .i64 y8, .int .i64 y9])).run Try.prog w = .ok (x0 == y0 && (x1 == y1 && ((x2 == y2 && (x3 == y3 && (x4 == y4 && (x5 == y5)))) && ((x6 == y6 && (x7 == y7 && (x8 == y8 && (x9 == y9)))))))) w := by
  refine eqA_of Try.underlying28 (by kernel_rfl) ?_
  refine eqf_cons (by rfl) (by go_simp; rfl) (by go_simp; rfl) (by go_simp) ?_
  refine eqf_cons (by rfl) (by go_simp; rfl) (by go_simp; rfl) (by go_simp) ?_
  refine eqf_cons (by rfl) (by go_simp) (by go_simp) (eqTrn (d + 0) w _ _ _ _ _ _ _ _) ?_
  exact eqf_last (by rfl) (by go_simp) (by go_simp) (eqTrn (d + 0) w _ _ _ _ _ _ _ _)
attribute [local go_sem high] eqWinA eqTms eqZon eqSn
def winEq (x y : Win) : Bool := x.kind == y.kind && (x.mode == y.mode && (x.prio == y.prio && (x.arg == y.arg && (x.shift == y.shift && (x.minute == y.minute && x.len == y.len)))))
theorem winEq_iff (x y : Win) : winEq x y = true ↔ x = y := by
  obtain ⟨a, b, c, d, e, f, g⟩ := x
  obtain ⟨a', b', c', d', e', f', g'⟩ := y
  simp [winEq]
def eqWL (xs ys : List Win) : Bool := decide (xs.length = ys.length) && (List.range xs.length).all fun i => winEq (rdW xs i) (rdW ys i)
theorem rdW_getElem (xs : List Win) (i : Nat) (h : i < xs.length) : rdW xs i = xs[i] := by
  unfold rdW; rw [List.getD_eq_getElem?_getD, List.getElem?_eq_getElem h]; rfl
theorem eqWL_iff (xs ys : List Win) : eqWL xs ys = true ↔ xs = ys := by
  unfold eqWL
  rw [Bool.and_eq_true, decide_eq_true_eq, List.all_eq_true]
  constructor
  · rintro ⟨hl, h⟩
    refine List.ext_getElem hl fun i h1 h2 => ?_
    have := (winEq_iff _ _).1 (h i (List.mem_range.2 h1))
    rwa [rdW_getElem xs i h1, rdW_getElem ys i h2] at this
  · rintro rfl
    exact ⟨rfl, fun i _ => (winEq_iff _ _).2 rfl⟩
set_option maxHeartbeats 1000000 in
theorem eqW_any (A B : Option Addr) (ca cb : Nat) (xs ys : List Win) (w : World) (hx : Kd.C kWin w A xs.length xs) (hy : Kd.C kWin w B ys.length ys) :
    Calls Try.prog 44 #[.slice A xs.length ca, .slice B ys.length cb] w fun e w' => e = .returned (.bool (eqWL xs ys)) ∧ ∃ n, w' = w.drewN n := by
  obtain ⟨n, hn⟩ : ∃ n, n = xs.length := ⟨_, rfl⟩
  obtain ⟨m, hm⟩ : ∃ m, m = ys.length := ⟨_, rfl⟩
  have hn1 : n ≤ 9223372036854775807 := by have := hx.2.1; omega
  have hm1 : m ≤ 9223372036854775807 := by have := hy.2.1; omega
  have HX := Aside0.mk hx
  have HY := Aside0.mk hy
  clear hx hy
  rw [← hn] at HX ⊢
  rw [← hm] at HY ⊢
  have HN := Aside0.mk hn
  have HM := Aside0.mk hm
  clear hn hm
  by_cases hl : n = m
  · subst hl
    go_enter Try.func44, Try.ntmps44
    go_wp2_with fail
    go_loopw [13] (fun i wr => ∃ k : Nat, k ≤ n ∧ i = .int .i64 k ∧ Aside0 ((List.range k).all (fun i => winEq (rdW xs i) (rdW ys i)) = true) ∧ Aside0 (∃ q, wr = w.drewN q)) (fun i _ => n - (intOf i).toNat)
    case atStart => exact ⟨0, Nat.zero_le _, rfl, ⟨rfl⟩, ⟨0, rfl⟩⟩
    case round =>
      obtain ⟨k, hk, rfl, HI, HQ⟩ := hrel
      obtain ⟨q, rfl⟩ := HQ.out
      by_cases hlt : k < n
      · obtain ⟨ad, e, hc0, hc1, hc2, hc3, hc4, hc5, hc6⟩ := at_Win HX.out k hlt
        subst e
        obtain ⟨bd, e, hd0, hd1, hd2, hd3, hd4, hd5, hd6⟩ := at_Win HY.out k hlt
        subst e
        obtain ⟨x, ex⟩ : ∃ x, x = rdW xs k := ⟨_, rfl⟩
        obtain ⟨y, ey⟩ : ∃ y, y = rdW ys k := ⟨_, rfl⟩
        rw [← ex] at hc0 hc1 hc2 hc3 hc4 hc5 hc6
        rw [← ey] at hd0 hd1 hd2 hd3 hd4 hd5 hd6
        have EE : Aside0 (winEq (rdW xs k) (rdW ys k) = winEq x y) := ⟨by rw [ex, ey]⟩
        clear ex ey
        cases h : winEq x y
        · rw [h] at EE
          unfold winEq at h
          go_wp2_with fail
          go_quiet (fail)
          go_wp2
          go_ret
          refine ⟨?_, _, World.drewN_drewN _ _ _⟩
          rw [show eqWL xs ys = false by
            unfold eqWL
            rw [Bool.and_eq_false_iff]
            right
            rw [List.all_eq_false]
            exact ⟨k, List.mem_range.2 (by rw [← HN.out]; exact hlt), by rw [EE.out]; simp⟩]
          rfl
        · rw [h] at EE
          unfold winEq at h
          go_wp2_with fail
          go_quiet (fail)
          go_wp2
          go_roundw
          case rel => exact ⟨k + 1, by omega, by go_num, ⟨by rw [List.range_succ, List.all_append, HI.out]; simp [EE.out]⟩, ⟨_, rfl⟩⟩
          case measure => simp [intOf]; omega
      · obtain rfl : k = n := by omega
        go_wp2
        go_ret
        refine ⟨?_, _, rfl⟩
        rw [show eqWL xs ys = true by
          unfold eqWL
          rw [← HN.out, ← HM.out, HI.out]; simp]
        rfl
  · have hl' : ((n : Int) != m) = true := by simp; omega
    go_enter Try.func44, Try.ntmps44
    go_wp2
    go_ret
    refine ⟨?_, 0, rfl⟩
    rw [show eqWL xs ys = false by
      unfold eqWL
      rw [← HN.out, ← HM.out]; simp [hl]]
    rfl
def tmsEq (x y : Tms) : Bool := x.travel == y.travel && (x.level == y.level && (x.opn == y.opn && (x.dwell == y.dwell && (x.lead == y.lead && (x.close == y.close && x.hold == y.hold)))))
def trnEq (x y : Trn) : Bool := x.m == y.m && (x.k == y.k && (x.d == y.d && x.t == y.t))
def zonEq (x y : Zon) : Bool := x.base == y.base && (x.shift == y.shift && ((x.on.m == y.on.m && (x.on.k == y.on.k && (x.on.d == y.on.d && x.on.t == y.on.t))) && (x.off.m == y.off.m && (x.off.k == y.off.k && (x.off.d == y.off.d && x.off.t == y.off.t)))))
def snEq (x y : Sn) : Bool := x.u0 == y.u0 && (x.u1 == y.u1 && (x.u2 == y.u2 && (x.u3 == y.u3 && (x.u4 == y.u4 && (x.u5 == y.u5 && (x.u6 == y.u6 && (x.u7 == y.u7 && (x.u8 == y.u8 && (x.u9 == y.u9 && (x.u10 == y.u10 && x.u11 == y.u11))))))))))
def one (a b : Cfg) : Bool := a.floors == b.floors && (a.cars == b.cars && (a.park == b.park && (tmsEq a.tm b.tm && (a.rest == b.rest && a.pater == b.pater))))
def two (a b : Cfg) : Bool := zonEq a.zn b.zn && (snEq a.sn b.sn && (a.ab == b.ab))
def sameC (a b : Cfg) : Bool := one a b && (two a b && (a.stops == b.stops && eqWL a.wins b.wins))
end Go.Proofs.Ytopmmbopankpgaa
