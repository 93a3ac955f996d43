/- What config.windows and config.Check answer, for every configuration. -/
import Derived.Test.YtopmmbopankpgaaCfgB
import Derived.Test.YtopmmbopankpgaaCfgC
import Derived.Test.YtopmmbopankpgaaCfgD
namespace Go.Proofs.Ytopmmbopankpgaa
open Go.RowKit Go.Proofs.YtopmmbopankpgaaW.PrintWords Go.Proofs.YtopmmbopankpgaaW.PrintLast Go.Proofs.YtopmmbopankpgaaW.PrintMore
set_option linter.unusedVariables false
set_option linter.unusedSimpArgs false

theorem winOdd_any (x : Win) (w : World) :
    Calls Try.prog 68 #[.agg (winA x)] w fun e w' => e = .returned (.bool (!winOk x)) ∧ Below w.heap.size w w' := by
  cases h : winOk x
  all_goals
    have hE : winE x = must (winOk x) 104 := rfl
    rw [h] at hE
    go_enter Try.func68, Try.ntmps68
    go_wp2_with (go_at_call 42; (with_reducible refine (win_any x _).mono ?_); rintro e w' ⟨rfl, hb⟩; rw [hE]; unfold must; have HB := Aside0.mk hb; clear hb hE)
    go_ret
    exact ⟨by simp, below_step (by repeat (first | exact Below.refl _ _ | apply below_alloc)) HB.out⟩
/-- A row of windows. -/
def kWin : Kd Win := Kd.iso (Kd.pair (Kd.int .i64) (Kd.pair (Kd.int .i64) (Kd.pair (Kd.int .i64) (Kd.pair (Kd.int .i64) (Kd.pair (Kd.int .i64) (Kd.pair (Kd.int .i64) (Kd.int .i64))))))) (fun x : Win => (x.kind, x.mode, x.prio, x.arg, x.shift, x.minute, x.len))
def zWin : Win := ⟨0, 0, 0, 0, 0, 0, 0⟩
theorem kWin_open {w : World} {x : Win} {cs : List Value} (h : kWin.K w x cs) : cs = [.int .i64 x.kind, .int .i64 x.mode, .int .i64 x.prio, .int .i64 x.arg, .int .i64 x.shift, .int .i64 x.minute, .int .i64 x.len] := by
  obtain ⟨_, _, rfl, rfl, ⟨_, _, rfl, rfl, ⟨_, _, rfl, rfl, ⟨_, _, rfl, rfl, ⟨_, _, rfl, rfl, ⟨_, _, rfl, rfl, rfl⟩⟩⟩⟩⟩⟩ := h
  exact rfl
theorem kWin_openM {w : World} {base : Nat} {ok : Nat → Prop} {x : Win} {cs : List Value} (h : kWin.M w base ok x cs) : cs = [.int .i64 x.kind, .int .i64 x.mode, .int .i64 x.prio, .int .i64 x.arg, .int .i64 x.shift, .int .i64 x.minute, .int .i64 x.len] := by
  obtain ⟨_, _, rfl, rfl, ⟨_, _, rfl, rfl, ⟨_, _, rfl, rfl, ⟨_, _, rfl, rfl, ⟨_, _, rfl, rfl, ⟨_, _, rfl, rfl, rfl⟩⟩⟩⟩⟩⟩ := h
  exact rfl
theorem kWin_mk (w : World) (x : Win) : kWin.K w x [.int .i64 x.kind, .int .i64 x.mode, .int .i64 x.prio, .int .i64 x.arg, .int .i64 x.shift, .int .i64 x.minute, .int .i64 x.len] := ⟨[.int .i64 x.kind], [.int .i64 x.mode, .int .i64 x.prio, .int .i64 x.arg, .int .i64 x.shift, .int .i64 x.minute, .int .i64 x.len], rfl, rfl, ⟨[.int .i64 x.mode], [.int .i64 x.prio, .int .i64 x.arg, .int .i64 x.shift, .int .i64 x.minute, .int .i64 x.len], rfl, rfl, ⟨[.int .i64 x.prio], [.int .i64 x.arg, .int .i64 x.shift, .int .i64 x.minute, .int .i64 x.len], rfl, rfl, ⟨[.int .i64 x.arg], [.int .i64 x.shift, .int .i64 x.minute, .int .i64 x.len], rfl, rfl, ⟨[.int .i64 x.shift], [.int .i64 x.minute, .int .i64 x.len], rfl, rfl, ⟨[.int .i64 x.minute], [.int .i64 x.len], rfl, rfl, rfl⟩⟩⟩⟩⟩⟩
theorem kWin_mkM (w : World) (base : Nat) (ok : Nat → Prop) (x : Win) : kWin.M w base ok x [.int .i64 x.kind, .int .i64 x.mode, .int .i64 x.prio, .int .i64 x.arg, .int .i64 x.shift, .int .i64 x.minute, .int .i64 x.len] := ⟨[.int .i64 x.kind], [.int .i64 x.mode, .int .i64 x.prio, .int .i64 x.arg, .int .i64 x.shift, .int .i64 x.minute, .int .i64 x.len], rfl, rfl, ⟨[.int .i64 x.mode], [.int .i64 x.prio, .int .i64 x.arg, .int .i64 x.shift, .int .i64 x.minute, .int .i64 x.len], rfl, rfl, ⟨[.int .i64 x.prio], [.int .i64 x.arg, .int .i64 x.shift, .int .i64 x.minute, .int .i64 x.len], rfl, rfl, ⟨[.int .i64 x.arg], [.int .i64 x.shift, .int .i64 x.minute, .int .i64 x.len], rfl, rfl, ⟨[.int .i64 x.shift], [.int .i64 x.minute, .int .i64 x.len], rfl, rfl, ⟨[.int .i64 x.minute], [.int .i64 x.len], rfl, rfl, rfl⟩⟩⟩⟩⟩⟩
def rdW (xs : List Win) (i : Nat) : Win := xs.getD i zWin
theorem at_Win {w : World} {A : Option Addr} {n : Nat} {xs : List Win} (h : Kd.C kWin w A n xs) (i : Nat) (h1 : i < n) : ∃ ad, A = some ad ∧ w.cell? (ad.add (i * 7)) = some (.int .i64 (rdW xs i).kind) ∧ w.cell? ⟨(ad.add (i * 7)).block, (ad.add (i * 7)).off + 1, none⟩ = some (.int .i64 (rdW xs i).mode) ∧ w.cell? ⟨(ad.add (i * 7)).block, (ad.add (i * 7)).off + 2, none⟩ = some (.int .i64 (rdW xs i).prio) ∧ w.cell? ⟨(ad.add (i * 7)).block, (ad.add (i * 7)).off + 3, none⟩ = some (.int .i64 (rdW xs i).arg) ∧ w.cell? ⟨(ad.add (i * 7)).block, (ad.add (i * 7)).off + 4, none⟩ = some (.int .i64 (rdW xs i).shift) ∧ w.cell? ⟨(ad.add (i * 7)).block, (ad.add (i * 7)).off + 5, none⟩ = some (.int .i64 (rdW xs i).minute) ∧ w.cell? ⟨(ad.add (i * 7)).block, (ad.add (i * 7)).off + 6, none⟩ = some (.int .i64 (rdW xs i).len) := by
  obtain ⟨ad, c, e, _, hK, hc0⟩ := Kd.C_get h zWin (i : Int) (by omega) (by omega)
  have hc : ∀ j u, c[j]? = some u → w.cell? (ad.add (i * 7 + j)) = some u := hc0
  obtain rfl := kWin_open hK
  exact ⟨ad, e, hc 0 _ rfl, by rw [← add_field _ _ 1 (by omega)]; exact hc 1 _ rfl, by rw [← add_field _ _ 2 (by omega)]; exact hc 2 _ rfl, by rw [← add_field _ _ 3 (by omega)]; exact hc 3 _ rfl, by rw [← add_field _ _ 4 (by omega)]; exact hc 4 _ rfl, by rw [← add_field _ _ 5 (by omega)]; exact hc 5 _ rfl, by rw [← add_field _ _ 6 (by omega)]; exact hc 6 _ rfl⟩
def idxW (xs : List Win) : Nat → Int
  | 0 => -1
  | k + 1 => if idxW xs k = -1 then (if winOk (rdW xs k) then -1 else k) else idxW xs k
theorem idxW_keep {xs : List Win} {k : Nat} {r : Int} (h : idxW xs k = r) (hr : r ≠ -1) : ∀ n, k ≤ n → idxW xs n = r := by
  intro n hn
  induction n with
  | zero => obtain rfl : k = 0 := by omega
            exact h
  | succ m ih =>
    rcases Nat.lt_or_ge m k with hm | hm
    · obtain rfl : k = m + 1 := by omega
      exact h
    · simp only [idxW]
      rw [if_neg (by rw [ih hm]; exact hr)]
      exact ih hm
theorem idxW_found {xs : List Win} {k n : Nat} (h : idxW xs k = -1) (ho : winOk (rdW xs k) = false) (hk : k < n) : idxW xs n = k :=
  idxW_keep (k := k + 1) (by simp only [idxW]; rw [if_pos h, ho]; rfl) (by omega) n hk
theorem idxW_all (xs : List Win) : (idxW xs xs.length = -1) ↔ xs.all winOk = true := by
  have key : ∀ n, n ≤ xs.length → ((idxW xs n = -1) ↔ (xs.take n).all winOk = true) := by
    intro n
    induction n with
    | zero => intro _; simp [idxW]
    | succ m ih =>
      intro hn
      have hm := ih (by omega)
      rw [List.take_succ_eq_append_getElem (by omega), List.all_append]
      have hr : rdW xs m = xs[m] := by unfold rdW; rw [List.getD_eq_getElem?_getD, List.getElem?_eq_getElem (by omega)]; rfl
      simp only [idxW, hr]
      by_cases h1 : idxW xs m = -1
      · rw [if_pos h1, (hm.1 h1)]
        cases h2 : winOk xs[m] <;> simp [h2]
      · rw [if_neg h1]
        have : (List.take m xs).all winOk = false := by
          cases h3 : (List.take m xs).all winOk
          · rfl
          · exact absurd (hm.2 h3) h1
        rw [this]
        simp [h1]
  have := key xs.length (Nat.le_refl _)
  rwa [List.take_length] at this
set_option maxHeartbeats 1000000 in
theorem idxW_any (A : Option Addr) (cap : Nat) (xs : List Win) (w : World) (hr : Kd.C kWin w A xs.length xs) :
    Calls Try.prog 81 #[.slice A xs.length cap, .func (.func 68) #[] #[]] w fun e w' => e = .returned (.int .i64 (idxW xs xs.length)) ∧ Below w.heap.size w w' := by
  obtain ⟨n, hn⟩ : ∃ n, n = xs.length := ⟨_, rfl⟩
  have hm : n ≤ 9223372036854775807 := by have := hr.2.1; omega
  have HR := Aside0.mk hr
  clear hr
  rw [← hn] at HR ⊢
  have HN := Aside0.mk hn
  clear hn
  go_enter Try.func81, Try.ntmps81
  go_wp2_with fail
  go_loopw [8] (fun i wr => ∃ k : Nat, k ≤ n ∧ i = .int .i64 k ∧ Aside0 (idxW xs k = -1) ∧ Aside0 (Below w.heap.size w wr)) (fun i _ => n - (intOf i).toNat)
  case atStart => exact ⟨0, Nat.zero_le _, rfl, ⟨rfl⟩, ⟨Below.refl _ _⟩⟩
  case round =>
    obtain ⟨k, hk, rfl, HI, HB⟩ := hrel
    by_cases hlt : k < n
    · obtain ⟨ad, e, hc0, hc1, hc2, hc3, hc4, hc5, hc6⟩ := at_Win (Kd.C_below HR.out HB.out) k hlt
      subst e
      cases ho : winOk (rdW xs k)
      all_goals
        go_wp2_with (go_at_call 68; (with_reducible refine (winOdd_any (rdW xs k) _).mono ?_); rintro e w' ⟨rfl, hb⟩)
        first
        | (go_ret; exact ⟨by rw [idxW_found HI.out ho hlt]; rfl, below_step HB.out hb⟩)
        | (go_roundw
           case rel => exact ⟨k + 1, by omega, by go_num, ⟨by simp only [idxW]; rw [if_pos HI.out, ho]; rfl⟩, ⟨below_step HB.out hb⟩⟩
           case measure => simp [intOf]; omega)
    · obtain rfl : k = n := by omega
      go_wp2
      go_ret
      exact ⟨by rw [HI.out]; rfl, HB.out⟩
theorem idxW_ge (xs : List Win) (n : Nat) : -1 ≤ idxW xs n := by
  induction n with
  | zero => simp [idxW]
  | succ m ih =>
    simp only [idxW]
    split
    · split <;> omega
    · exact ih
theorem hasW_any (A : Option Addr) (cap : Nat) (xs : List Win) (w : World) (hr : Kd.C kWin w A xs.length xs) :
    Calls Try.prog 69 #[.slice A xs.length cap, .func (.func 68) #[] #[]] w fun e w' => e = .returned (.bool (!xs.all winOk)) ∧ Below w.heap.size w w' := by
  have HE : Aside0 (decide (0 ≤ idxW xs xs.length) = !xs.all winOk) := ⟨by
    have h1 := idxW_all xs
    have h2 := idxW_ge xs xs.length
    cases h : xs.all winOk
    · rw [h] at h1
      simp only [Bool.not_false, decide_eq_true_eq]
      have : ¬ idxW xs xs.length = -1 := fun h3 => by simpa using h1.1 h3
      omega
    · rw [h1.2 h]; rfl⟩
  rw [← HE.out]
  clear HE
  go_enter Try.func69, Try.ntmps69
  go_wp2_with (go_at_call 81; (with_reducible refine (idxW_any _ _ _ _ hr).mono ?_); rintro e w' ⟨rfl, hb⟩)
  go_ret
  exact ⟨rfl, hb⟩
def winsE (c : Cfg) : Int := if 16 < c.wins.length then 103 else must (c.wins.all winOk) 104
set_option maxHeartbeats 1000000 in
theorem wins_any (c : Cfg) (sv : Value) (A : Option Addr) (cap : Nat) (w : World) (hr : Kd.C kWin w A c.wins.length c.wins) :
    Calls Try.prog 40 #[.agg (cfgA c sv (.slice A c.wins.length cap))] w fun e w' => e = .returned (.int .i64 (winsE c)) ∧ Below w.heap.size w w' := by
  have hr' := Kd.C_below hr (below_alloc (Below.refl w.heap.size w) (.cells (cfgA c sv (.slice A c.wins.length cap)) 33))
  have HR := Aside0.mk hr'
  clear hr hr'
  unfold winsE
  by_cases h : 16 < c.wins.length
  · rw [if_pos h]
    go_enter Try.func40, Try.ntmps40
    go_wp2
    go_ret
    exact ⟨rfl, by repeat (first | exact Below.refl _ _ | apply below_alloc)⟩
  · rw [if_neg h]
    go_enter Try.func40, Try.ntmps40
    go_wp2_with (first | (go_at_call 69; (with_reducible refine (hasW_any _ _ c.wins _ HR.out).mono ?_); rintro e w' ⟨rfl, hb⟩; have HB := Aside0.mk hb; clear hb) | (go_at_call 62; (with_reducible refine (must_any _ _ _).mono ?_); rintro e w' ⟨rfl, rfl⟩))
    go_ret
    exact ⟨by simp, below_step (by repeat (first | exact Below.refl _ _ | apply below_alloc)) HB.out⟩
theorem chk1_any (c : Cfg) (sv wv : Value) (w : World) :
    Calls Try.prog 36 #[.agg (cfgA c sv wv)] w fun e w' => e = .returned (.int .i64 (zonE c.zn)) ∧ Below w.heap.size w w' := by
  go_enter Try.func36, Try.ntmps36
  go_wp2_with (go_at_call 37; (with_reducible refine (zon_any c.zn _).mono ?_); rintro e w' ⟨rfl, hb⟩; have HB := Aside0.mk hb; clear hb)
  go_ret
  exact ⟨rfl, below_step (by repeat (first | exact Below.refl _ _ | apply below_alloc)) HB.out⟩
theorem chk2_any (c : Cfg) (sv wv : Value) (w : World) :
    Calls Try.prog 38 #[.agg (cfgA c sv wv)] w fun e w' => e = .returned (.int .i64 (sunE c.sn)) ∧ Below w.heap.size w w' := by
  go_enter Try.func38, Try.ntmps38
  go_wp2_with (go_at_call 39; (with_reducible refine (sun_any c.sn _).mono ?_); rintro e w' ⟨rfl, hb⟩; have HB := Aside0.mk hb; clear hb)
  go_ret
  exact ⟨rfl, below_step (by repeat (first | exact Below.refl _ _ | apply below_alloc)) HB.out⟩
end Go.Proofs.Ytopmmbopankpgaa
