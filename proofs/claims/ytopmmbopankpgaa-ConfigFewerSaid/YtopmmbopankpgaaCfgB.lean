/- What zone.Check answers, for every zone. -/
import Derived.Test.YtopmmbopankpgaaCfgA
namespace Go.Proofs.Ytopmmbopankpgaa
open Go.RowKit Go.Proofs.YtopmmbopankpgaaW.PrintWords Go.Proofs.YtopmmbopankpgaaW.PrintLast Go.Proofs.YtopmmbopankpgaaW.PrintMore
attribute [local go_sem] max2_int min2_int max_two min_two max_three min_three max_four min_four
set_option linter.unusedVariables false
set_option linter.unusedSimpArgs false

def oddT (x : Trn) : Bool := !(inB x.m 1 12) || (!(inB x.k 1 5) || (!(inB x.d 0 6) || !(inB x.t 0 1439)))
theorem zwithin_any (n a b : Int) (w : World) :
    Calls Try.prog 65 #[.int .i64 n, .int .i64 a, .int .i64 b] w fun e w' => e = .returned (.bool (inB n a b)) ∧ w = w' := by
  unfold inB
  by_cases h : a ≤ n
  · have h' : decide (a ≤ n) = true := by simpa using h
    go_enter Try.func65, Try.ntmps65
    go_wp2
    go_ret
    exact ⟨by simp [h], rfl⟩
  · have h' : decide (a ≤ n) = false := by simpa using h
    go_enter Try.func65, Try.ntmps65
    go_wp2
    go_ret
    exact ⟨by simp [h], rfl⟩
set_option maxHeartbeats 1000000 in
theorem oddT_any (x : Trn) (w : World) :
    Calls Try.prog 64 #[.agg (trnA x)] w fun e w' => e = .returned (.bool (oddT x)) ∧ Below w.heap.size w w' := by
  unfold oddT
  cases h1 : inB x.m 1 12 <;> cases h2 : inB x.k 1 5 <;> cases h3 : inB x.d 0 6
  all_goals
    go_enter Try.func64, Try.ntmps64
    go_wp2_with (go_at_call 65; (with_reducible refine (zwithin_any _ _ _ _).mono ?_); rintro e w' ⟨rfl, rfl⟩)
    go_ret
    exact ⟨by simp [*], by repeat (first | exact Below.refl _ _ | apply below_alloc)⟩
/-- A row of structs of four whole numbers. -/
def kTrn : Kd Trn := Kd.iso (Kd.pair (Kd.int .i64) (Kd.pair (Kd.int .i64) (Kd.pair (Kd.int .i64) (Kd.int .i64)))) (fun x : Trn => (x.m, x.k, x.d, x.t))
def zTrn : Trn := ⟨0, 0, 0, 0⟩
theorem kTrn_open {w : World} {x : Trn} {cs : List Value} (h : kTrn.K w x cs) : cs = [.int .i64 x.m, .int .i64 x.k, .int .i64 x.d, .int .i64 x.t] := by
  obtain ⟨_, _, rfl, rfl, ⟨_, _, rfl, rfl, ⟨_, _, rfl, rfl, rfl⟩⟩⟩ := h
  exact rfl
theorem kTrn_mk (w : World) (x : Trn) : kTrn.K w x [.int .i64 x.m, .int .i64 x.k, .int .i64 x.d, .int .i64 x.t] := ⟨[.int .i64 x.m], [.int .i64 x.k, .int .i64 x.d, .int .i64 x.t], rfl, rfl, ⟨[.int .i64 x.k], [.int .i64 x.d, .int .i64 x.t], rfl, rfl, ⟨[.int .i64 x.d], [.int .i64 x.t], rfl, rfl, rfl⟩⟩⟩
def rdT (xs : List Trn) (i : Nat) : Trn := xs.getD i zTrn
theorem at_Trn {w : World} {A : Option Addr} {n : Nat} {xs : List Trn} (h : Kd.C kTrn w A n xs) (i : Nat) (h1 : i < n) : ∃ ad, A = some ad ∧ w.cell? (ad.add (i * 4)) = some (.int .i64 (rdT xs i).m) ∧ w.cell? ⟨(ad.add (i * 4)).block, (ad.add (i * 4)).off + 1, none⟩ = some (.int .i64 (rdT xs i).k) ∧ w.cell? ⟨(ad.add (i * 4)).block, (ad.add (i * 4)).off + 2, none⟩ = some (.int .i64 (rdT xs i).d) ∧ w.cell? ⟨(ad.add (i * 4)).block, (ad.add (i * 4)).off + 3, none⟩ = some (.int .i64 (rdT xs i).t) := by
  obtain ⟨ad, c, e, _, hK, hc0⟩ := Kd.C_get h zTrn (i : Int) (by omega) (by omega)
  have hc : ∀ j u, c[j]? = some u → w.cell? (ad.add (i * 4 + j)) = some u := hc0
  obtain rfl := kTrn_open hK
  exact ⟨ad, e, hc 0 _ rfl, by rw [← add_field _ _ 1 (by omega)]; exact hc 1 _ rfl, by rw [← add_field _ _ 2 (by omega)]; exact hc 2 _ rfl, by rw [← add_field _ _ 3 (by omega)]; exact hc 3 _ rfl⟩
def idxT (xs : List Trn) : Nat → Int
  | 0 => -1
  | k + 1 => if idxT xs k = -1 then (if oddT (rdT xs k) then k else -1) else idxT xs k
theorem idxT_keep {xs : List Trn} {k : Nat} {r : Int} (h : idxT xs k = r) (hr : r ≠ -1) : ∀ n, k ≤ n → idxT xs n = r := by
  intro n hn
  induction n with
  | zero => obtain rfl : k = 0 := by omega
            exact h
  | succ m ih =>
    rcases Nat.lt_or_ge m k with hm | hm
    · obtain rfl : k = m + 1 := by omega
      exact h
    · simp only [idxT]
      rw [if_neg (by rw [ih hm]; exact hr)]
      exact ih hm
theorem idxT_found {xs : List Trn} {k n : Nat} (h : idxT xs k = -1) (ho : oddT (rdT xs k) = true) (hk : k < n) : idxT xs n = k :=
  idxT_keep (k := k + 1) (by simp only [idxT]; rw [if_pos h, ho]; rfl) (by omega) n hk
set_option maxHeartbeats 1000000 in
theorem idxT_any (A : Option Addr) (cap : Nat) (xs : List Trn) (w : World) (hr : Kd.C kTrn w A xs.length xs) :
    Calls Try.prog 80 #[.slice A xs.length cap, .func (.func 64) #[] #[]] w fun e w' => e = .returned (.int .i64 (idxT xs xs.length)) ∧ Below w.heap.size w w' := by
  obtain ⟨n, hn⟩ : ∃ n, n = xs.length := ⟨_, rfl⟩
  have hm : n ≤ 9223372036854775807 := by have := hr.2.1; omega
  have HR := Aside0.mk hr
  clear hr
  rw [← hn] at HR ⊢
  have HN := Aside0.mk hn
  clear hn
  go_enter Try.func80, Try.ntmps80
  go_wp2_with fail
  go_loopw [8] (fun i wr => ∃ k : Nat, k ≤ n ∧ i = .int .i64 k ∧ Aside0 (idxT xs k = -1) ∧ Aside0 (Below w.heap.size w wr)) (fun i _ => n - (intOf i).toNat)
  case atStart => exact ⟨0, Nat.zero_le _, rfl, ⟨rfl⟩, ⟨Below.refl _ _⟩⟩
  case round =>
    obtain ⟨k, hk, rfl, HI, HB⟩ := hrel
    by_cases hlt : k < n
    · obtain ⟨ad, e, hc0, hc1, hc2, hc3⟩ := at_Trn (Kd.C_below HR.out HB.out) k hlt
      subst e
      cases ho : oddT (rdT xs k)
      all_goals
        go_wp2_with (go_at_call 64; (with_reducible refine (oddT_any (rdT xs k) _).mono ?_); rintro e w' ⟨rfl, hb⟩)
        first
        | (go_ret; exact ⟨by rw [idxT_found HI.out ho hlt]; rfl, below_step HB.out hb⟩)
        | (go_roundw
           case rel => exact ⟨k + 1, by omega, by go_num, ⟨by simp only [idxT]; rw [if_pos HI.out, ho]; rfl⟩, ⟨below_step HB.out hb⟩⟩
           case measure => simp [intOf]; omega)
    · obtain rfl : k = n := by omega
      go_wp2
      go_ret
      exact ⟨by rw [HI.out]; rfl, HB.out⟩
def hasT (xs : List Trn) : Bool := decide (0 ≤ idxT xs xs.length)
theorem hasT_any (A : Option Addr) (cap : Nat) (xs : List Trn) (w : World) (hr : Kd.C kTrn w A xs.length xs) :
    Calls Try.prog 66 #[.slice A xs.length cap, .func (.func 64) #[] #[]] w fun e w' => e = .returned (.bool (hasT xs)) ∧ Below w.heap.size w w' := by
  unfold hasT
  go_enter Try.func66, Try.ntmps66
  go_wp2_with (go_at_call 80; (with_reducible refine (idxT_any _ _ _ _ hr).mono ?_); rintro e w' ⟨rfl, hb⟩)
  go_ret
  exact ⟨rfl, hb⟩

theorem eqTrn (d : Nat) (w : World) (x0 y0 : Int) (x1 y1 : Int) (x2 y2 : Int) (x3 y3 : Int) :
    (Op.equalIn (d + 2) 26 (.agg #[.int .i64 x0, .int .i64 x1, .int .i64 x2, .int .i64 x3]) (.agg #[.int .i64 y0, .int .i64 y1, .int .i64 y2, .int .i64 y3])).run Try.prog w = .ok (x0 == y0 && (x1 == y1 && (x2 == y2 && (x3 == y3)))) w := by
  refine eqA_of Try.underlying26 (by kernel_rfl) ?_
  refine eqf_cons (by rfl) (by go_simp; rfl) (by go_simp; rfl) (by go_simp) ?_
  refine eqf_cons (by rfl) (by go_simp; rfl) (by go_simp; rfl) (by go_simp) ?_
  refine eqf_cons (by rfl) (by go_simp; rfl) (by go_simp; rfl) (by go_simp) ?_
  exact eqf_last (by rfl) (by go_simp; rfl) (by go_simp; rfl) (by go_simp)
attribute [local go_sem high] eqTrn
def tz (x : Trn) : Bool := x.m == 0 && (x.k == 0 && (x.d == 0 && x.t == 0))
def zonE (z : Zon) : Int :=
  if inB z.base (-720) 840 = false then 60 else if inB z.shift 0 120 = false then 61 else
  if z.shift = 0 then (if tz z.on && tz z.off then 0 else 62) else
  if hasT [z.on, z.off] || !(inB (wrap64 (mx z.on.m z.off.m - mn z.on.m z.off.m)) 2 10) then 62 else 0
set_option maxHeartbeats 2000000 in
theorem zon_any (z : Zon) (w : World) :
    Calls Try.prog 37 #[.agg (zonA z)] w fun e w' => e = .returned (.int .i64 (zonE z)) ∧ Below w.heap.size w w' := by
  have HE : Aside0 (zonE z = if inB z.base (-720) 840 = false then 60 else if inB z.shift 0 120 = false then 61 else
    if z.shift = 0 then (if tz z.on && tz z.off then 0 else 62) else
    if hasT [z.on, z.off] || !(inB (wrap64 (mx z.on.m z.off.m - mn z.on.m z.off.m)) 2 10) then 62 else 0) := ⟨rfl⟩
  cases h1 : inB z.base (-720) 840
  · go_enter Try.func37, Try.ntmps37
    go_wp2_with (go_at_call 65; (with_reducible refine (zwithin_any _ _ _ _).mono ?_); rintro e w' ⟨rfl, rfl⟩)
    go_ret
    exact ⟨by rw [HE.out, if_pos h1]; rfl, by repeat (first | exact Below.refl _ _ | apply below_alloc)⟩
  · cases h2 : inB z.shift 0 120
    · go_enter Try.func37, Try.ntmps37
      go_wp2_with (go_at_call 65; (with_reducible refine (zwithin_any _ _ _ _).mono ?_); rintro e w' ⟨rfl, rfl⟩)
      go_ret
      exact ⟨by rw [HE.out, if_neg (by simp [h1]), if_pos h2]; rfl, by repeat (first | exact Below.refl _ _ | apply below_alloc)⟩
    · have hs : 0 ≤ z.shift ∧ z.shift ≤ 120 := by simpa [inB] using h2
      obtain ⟨hs1, hs2⟩ := hs
      by_cases h3 : z.shift = 0
      · replace HE : Aside0 (zonE z = if tz z.on && tz z.off then 0 else 62) := ⟨by rw [HE.out, if_neg (by simp [h1]), if_neg (by simp [h2]), if_pos h3]⟩
        have h3' : (z.shift == 0) = true := by simpa using h3
        have h3'' : decide (0 < z.shift) = false := by simp; omega
        clear h3
        unfold tz at HE
        cases h4 : (z.on.m == 0 && (z.on.k == 0 && (z.on.d == 0 && z.on.t == 0))) <;> cases h5 : (z.off.m == 0 && (z.off.k == 0 && (z.off.d == 0 && z.off.t == 0)))
        all_goals
          rw [h4, h5] at HE
          go_enter Try.func37, Try.ntmps37
          go_wp2_with (go_at_call 65; (with_reducible refine (zwithin_any _ _ _ _).mono ?_); rintro e w' ⟨rfl, rfl⟩)
          go_ret
          exact ⟨by rw [HE.out]; rfl, by repeat (first | exact Below.refl _ _ | apply below_alloc)⟩
      · replace HE : Aside0 (zonE z = if hasT [z.on, z.off] || !(inB (wrap64 (mx z.on.m z.off.m - mn z.on.m z.off.m)) 2 10) then 62 else 0) := ⟨by rw [HE.out, if_neg (by simp [h1]), if_neg (by simp [h2]), if_neg h3]⟩
        have h3' : (z.shift == 0) = false := by simpa using h3
        have h3'' : decide (0 < z.shift) = true := by simp; omega
        clear h3
        have HC : ∀ (W : World) (b : Nat), b = W.heap.size → Kd.C kTrn (W.alloc (.cells #[.int .i64 z.on.m, .int .i64 z.on.k, .int .i64 z.on.d, .int .i64 z.on.t, .int .i64 z.off.m, .int .i64 z.off.k, .int .i64 z.off.d, .int .i64 z.off.t] 26)) (some ⟨b, 0, none⟩) 2 [z.on, z.off] := by
          intro W b hb
          exact C_new kTrn W 26 [z.on, z.off] [.int .i64 z.on.m, .int .i64 z.on.k, .int .i64 z.on.d, .int .i64 z.on.t, .int .i64 z.off.m, .int .i64 z.off.k, .int .i64 z.off.d, .int .i64 z.off.t] b hb (Reps.snoc (Reps_one (kTrn_mk _ z.on) rfl) (kTrn_mk _ z.off) rfl) (by simp)
        have HC' := Aside0.mk HC
        clear HC
        cases h4 : hasT [z.on, z.off]
        · obtain ⟨m, hm⟩ : ∃ m, m = wrap64 (mx z.on.m z.off.m - mn z.on.m z.off.m) := ⟨_, rfl⟩
          rw [← hm, h4] at HE
          unfold mx mn at hm
          rcases Int.lt_trichotomy z.on.m z.off.m with h5 | h5 | h5
          · rw [if_pos h5, if_neg (by omega)] at hm
            have h5' : ¬ z.off.m < z.on.m := by omega
            subst hm
            cases h6 : inB (wrap64 (z.off.m - z.on.m)) 2 10
            all_goals
              rw [h6] at HE
              go_enter Try.func37, Try.ntmps37
              go_wp2_with (first | (go_at_call 65; (with_reducible refine (zwithin_any _ _ _ _).mono ?_); rintro e w' ⟨rfl, rfl⟩) | (go_at_call 66; refine (hasT_any _ _ [z.on, z.off] _ (HC'.out _ _ (by simp))).mono ?_; rintro e w' ⟨rfl, hb⟩; have HB := Aside0.mk hb; obtain ⟨hcc, hff⟩ := bcell hb; clear hb))
              go_ret
              exact ⟨by rw [HE.out]; rfl, by refine below_step ?_ HB.out; repeat (first | exact Below.refl _ _ | apply below_alloc)⟩
          · rw [if_neg (by omega), if_neg (by omega)] at hm
            have h5' : ¬ z.off.m < z.on.m := by omega
            have h5'' : ¬ z.on.m < z.off.m := by omega
            clear h5
            have h6 : inB 0 2 10 = false := by decide
            have hm0 : m = 0 := by rw [hm, Int.sub_self]; simp [wrap64]
            rw [hm0, h6] at HE
            clear hm0
            clear hm
            all_goals
              go_enter Try.func37, Try.ntmps37
              go_wp2_with (first | (go_at_call 65; (with_reducible refine (zwithin_any _ _ _ _).mono ?_); rintro e w' ⟨rfl, rfl⟩) | (go_at_call 66; refine (hasT_any _ _ [z.on, z.off] _ (HC'.out _ _ (by simp))).mono ?_; rintro e w' ⟨rfl, hb⟩; have HB := Aside0.mk hb; obtain ⟨hcc, hff⟩ := bcell hb; clear hb))
              go_ret
              exact ⟨by rw [HE.out]; rfl, by refine below_step ?_ HB.out; repeat (first | exact Below.refl _ _ | apply below_alloc)⟩
          · rw [if_neg (by omega), if_pos h5] at hm
            have h5' : ¬ z.on.m < z.off.m := by omega
            subst hm
            cases h6 : inB (wrap64 (z.on.m - z.off.m)) 2 10
            all_goals
              rw [h6] at HE
              go_enter Try.func37, Try.ntmps37
              go_wp2_with (first | (go_at_call 65; (with_reducible refine (zwithin_any _ _ _ _).mono ?_); rintro e w' ⟨rfl, rfl⟩) | (go_at_call 66; refine (hasT_any _ _ [z.on, z.off] _ (HC'.out _ _ (by simp))).mono ?_; rintro e w' ⟨rfl, hb⟩; have HB := Aside0.mk hb; obtain ⟨hcc, hff⟩ := bcell hb; clear hb))
              go_ret
              exact ⟨by rw [HE.out]; rfl, by refine below_step ?_ HB.out; repeat (first | exact Below.refl _ _ | apply below_alloc)⟩
        · rw [h4] at HE
          go_enter Try.func37, Try.ntmps37
          go_wp2_with (first | (go_at_call 65; (with_reducible refine (zwithin_any _ _ _ _).mono ?_); rintro e w' ⟨rfl, rfl⟩) | (go_at_call 66; refine (hasT_any _ _ [z.on, z.off] _ (HC'.out _ _ (by simp))).mono ?_; rintro e w' ⟨rfl, hb⟩; have HB := Aside0.mk hb; obtain ⟨hcc, hff⟩ := bcell hb; clear hb))
          go_ret
          exact ⟨by rw [HE.out]; rfl, by refine below_step ?_ HB.out; repeat (first | exact Below.refl _ _ | apply below_alloc)⟩
end Go.Proofs.Ytopmmbopankpgaa
