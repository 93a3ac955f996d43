/- What the small functions of package config answer (size, stops, times), for every configuration. -/
import Derived.Test.YtopmmbopankpgaaWd
namespace Go.Proofs.Ytopmmbopankpgaa
open Go.RowKit Go.Proofs.YtopmmbopankpgaaW.PrintWords Go.Proofs.YtopmmbopankpgaaW.PrintLast Go.Proofs.YtopmmbopankpgaaW.PrintMore
attribute [local go_sem] max2_int min2_int max_two min_two max_three min_three max_four min_four
set_option linter.unusedVariables false
set_option linter.unusedSimpArgs false

structure Trn where
  m : Int
  k : Int
  d : Int
  t : Int
structure Zon where
  base : Int
  shift : Int
  on : Trn
  off : Trn
structure Tms where
  travel : Int
  level : Int
  opn : Int
  dwell : Int
  lead : Int
  close : Int
  hold : Int
structure Sn where
  u0 : Int
  u1 : Int
  u2 : Int
  u3 : Int
  u4 : Int
  u5 : Int
  u6 : Int
  u7 : Int
  u8 : Int
  u9 : Int
  u10 : Int
  u11 : Int
structure Win where
  kind : Int
  mode : Int
  prio : Int
  arg : Int
  shift : Int
  minute : Int
  len : Int
structure Cfg where
  floors : Int
  cars : Int
  park : Int
  stops : List Int
  tm : Tms
  rest : Int
  pater : Int
  zn : Zon
  sn : Sn
  ab : Bool
  wins : List Win
def inB (n a b : Int) : Bool := decide (a ≤ n) && decide (n ≤ b)
abbrev trnA (x : Trn) : Array Value := #[.int .i64 x.m, .int .i64 x.k, .int .i64 x.d, .int .i64 x.t]
abbrev zonA (z : Zon) : Array Value := #[.int .i64 z.base, .int .i64 z.shift, .int .i64 z.on.m, .int .i64 z.on.k, .int .i64 z.on.d, .int .i64 z.on.t, .int .i64 z.off.m, .int .i64 z.off.k, .int .i64 z.off.d, .int .i64 z.off.t]
abbrev snA (s : Sn) : Array Value := #[.int .i64 s.u0, .int .i64 s.u1, .int .i64 s.u2, .int .i64 s.u3, .int .i64 s.u4, .int .i64 s.u5, .int .i64 s.u6, .int .i64 s.u7, .int .i64 s.u8, .int .i64 s.u9, .int .i64 s.u10, .int .i64 s.u11]
abbrev winA (x : Win) : Array Value := #[.int .i64 x.kind, .int .i64 x.mode, .int .i64 x.prio, .int .i64 x.arg, .int .i64 x.shift, .int .i64 x.minute, .int .i64 x.len]
abbrev cfgA (c : Cfg) (sv wv : Value) : Array Value :=
  #[.int .i64 c.floors, .int .i64 c.cars, .int .i64 c.park, sv, .int .i64 c.tm.travel, .int .i64 c.tm.level, .int .i64 c.tm.opn, .int .i64 c.tm.dwell, .int .i64 c.tm.lead, .int .i64 c.tm.close, .int .i64 c.tm.hold, .int .i64 c.rest, .int .i64 c.pater, .int .i64 c.zn.base, .int .i64 c.zn.shift, .int .i64 c.zn.on.m, .int .i64 c.zn.on.k, .int .i64 c.zn.on.d, .int .i64 c.zn.on.t, .int .i64 c.zn.off.m, .int .i64 c.zn.off.k, .int .i64 c.zn.off.d, .int .i64 c.zn.off.t, .int .i64 c.sn.u0, .int .i64 c.sn.u1, .int .i64 c.sn.u2, .int .i64 c.sn.u3, .int .i64 c.sn.u4, .int .i64 c.sn.u5, .int .i64 c.sn.u6, .int .i64 c.sn.u7, .int .i64 c.sn.u8, .int .i64 c.sn.u9, .int .i64 c.sn.u10, .int .i64 c.sn.u11, .bool c.ab, wv]
theorem within_any (n a b : Int) (w : World) :
    Calls Try.prog 63 #[.int .i64 n, .int .i64 a, .int .i64 b] w fun e w' => e = .returned (.bool (inB n a b)) ∧ w = w' := by
  unfold inB
  by_cases h : a ≤ n
  · have h' : decide (a ≤ n) = true := by simpa using h
    go_enter Try.func63, Try.ntmps63
    go_wp2
    go_ret
    exact ⟨by simp [h], rfl⟩
  · have h' : decide (a ≤ n) = false := by simpa using h
    go_enter Try.func63, Try.ntmps63
    go_wp2
    go_ret
    exact ⟨by simp [h], rfl⟩
def must (b : Bool) (x : Int) : Int := if b then 0 else x
theorem must_any (b : Bool) (x : Int) (w : World) :
    Calls Try.prog 62 #[.bool b, .int .i64 x] w fun e w' => e = .returned (.int .i64 (must b x)) ∧ w = w' := by
  unfold must
  cases b with
  | true =>
    go_enter Try.func62, Try.ntmps62
    go_wp2
    go_ret
    exact ⟨by simp, rfl⟩
  | false =>
    go_enter Try.func62, Try.ntmps62
    go_wp2
    go_ret
    exact ⟨by simp, rfl⟩

def sizeE (c : Cfg) : Int := must (inB c.floors 2 64 && (inB c.cars 1 8 && inB c.park 0 (wrap64 (c.floors - 1)))) 100
set_option maxHeartbeats 1000000 in
theorem size_any (c : Cfg) (sv wv : Value) (w : World) :
    Calls Try.prog 33 #[.agg (cfgA c sv wv)] w fun e w' => e = .returned (.int .i64 (sizeE c)) ∧ Below w.heap.size w w' := by
  unfold sizeE
  cases h1 : inB c.floors 2 64 <;> cases h2 : inB c.cars 1 8
  all_goals
    go_enter Try.func33, Try.ntmps33
    go_wp2_with (first | (go_at_call 63; (with_reducible refine (within_any _ _ _ _).mono ?_); rintro e w' ⟨rfl, rfl⟩) | (go_at_call 62; (with_reducible refine (must_any _ _ _).mono ?_); rintro e w' ⟨rfl, rfl⟩))
    go_ret
    exact ⟨by simp [*], (Below.refl _ _).alloc (Nat.le_refl _) _⟩

def stopsF (fl : Int) (xs : List Int) : Nat → Bool
  | 0 => decide (2 ≤ xs.length)
  | k + 1 => stopsF fl xs k && (inB (rd xs k) 0 (wrap64 (fl - 1)) && (decide (k = 0) || decide (rd xs ((k : Int) - 1) < rd xs k)))
def stopsE (c : Cfg) : Int := must (stopsF c.floors c.stops c.stops.length) 101
set_option maxHeartbeats 1000000 in
theorem stops_any (c : Cfg) (A : Option Addr) (cap : Nat) (wv : Value) (w : World) (hr : Kd.C (Kd.int .i64) w A c.stops.length c.stops) :
    Calls Try.prog 34 #[.agg (cfgA c (.slice A c.stops.length cap) wv)] w fun e w' => e = .returned (.int .i64 (stopsE c)) ∧ Below w.heap.size w w' := by
  unfold stopsE
  obtain ⟨n, hn⟩ : ∃ n, n = c.stops.length := ⟨_, rfl⟩
  have hr' := Kd.C_below hr (below_alloc (Below.refl w.heap.size w) (.cells (cfgA c (.slice A c.stops.length cap) wv) 33))
  have HR := Aside0.mk hr'
  have hm : n ≤ 9223372036854775807 := by have := hr.2.1; omega
  clear hr hr'
  rw [← hn] at HR ⊢
  have HN := Aside0.mk hn
  clear hn
  go_enter Try.func34, Try.ntmps34
  go_wp2_with fail
  obtain ⟨b0, hb0⟩ : ∃ b : Bool, b = decide ((2 : Int) ≤ n) := ⟨_, rfl⟩
  have HB0 := Aside0.mk hb0
  go_loop [3, 13] (fun t i => ∃ k : Nat, k ≤ n ∧ i = .int .i64 k ∧ t = .bool (stopsF c.floors c.stops k)) (fun _ i => n - (intOf i).toNat)
  case atStart => exact ⟨0, Nat.zero_le _, rfl, by simp only [stopsF]; rw [← HN.out]; congr 1; simp; omega⟩
  case round =>
    clear hb0
    obtain ⟨k, hk, rfl, rfl⟩ := hrel
    by_cases hlt : k < n
    · obtain ⟨ad, e, hc0⟩ := at_intN HR.out k hlt
      obtain ⟨q, hq⟩ : ∃ q, q = stopsF c.floors c.stops k := ⟨_, rfl⟩
      have HS : Aside0 (stopsF c.floors c.stops (k + 1) = (q && (inB (rd c.stops k) 0 (wrap64 (c.floors - 1)) && (decide (k = 0) || decide (rd c.stops ((k : Int) - 1) < rd c.stops k))))) := ⟨by rw [hq]; rfl⟩
      rw [← hq]
      clear hq
      subst e
      cases q
      · go_wp2
        go_round
        case rel => exact ⟨k + 1, by omega, by go_num, by rw [HS.out]; rfl⟩
        case measure => simp [intOf]; omega
      · cases h2 : inB (rd c.stops k) 0 (wrap64 (c.floors - 1))
        · go_wp2_with (go_at_call 63; (with_reducible refine (within_any _ _ _ _).mono ?_); rintro e w' ⟨rfl, rfl⟩)
          go_round
          case rel => exact ⟨k + 1, by omega, by go_num, by rw [HS.out]; simp [*]⟩
          case measure => simp [intOf]; omega
        · by_cases h3 : k = 0
          · subst h3
            have hc0 : (w.alloc (.cells (cfgA c (.slice (some ad) n cap) wv) 33)).cell? ad = some (.int .i64 (rd c.stops 0)) := by simpa [Addr.add] using hc0
            go_wp2_with (go_at_call 63; (with_reducible refine (within_any _ _ _ _).mono ?_); rintro e w' ⟨rfl, rfl⟩)
            go_round
            case rel => exact ⟨0 + 1, by omega, by go_num, by rw [HS.out]; simp [*]⟩
            case measure => simp [intOf]; omega
          · obtain ⟨ad', e', hc1⟩ := at_intN HR.out (k - 1) (by omega)
            obtain rfl : ad = ad' := by simpa using e'
            rw [show ((k - 1 : Nat) : Int) = (k : Int) - 1 by omega] at hc1
            clear e'
            have h3' : ((k : Int) == 0) = false := by simpa using h3
            go_wp2_with (go_at_call 63; (with_reducible refine (within_any _ _ _ _).mono ?_); rintro e w' ⟨rfl, rfl⟩)
            go_round
            case rel => exact ⟨k + 1, by omega, by go_num, by rw [HS.out]; simp [*]⟩
            case measure => simp [intOf]; omega
    · go_wp2_with (go_at_call 62; (with_reducible refine (must_any _ _ _).mono ?_); rintro e w' ⟨rfl, rfl⟩)
      go_ret
      obtain rfl : k = n := by omega
      exact ⟨rfl, (Below.refl _ _).alloc (Nat.le_refl _) _⟩

def timesL (c : Cfg) : List Int := [c.tm.travel, c.tm.level, c.tm.opn, c.tm.dwell, c.tm.close]
def timesF (c : Cfg) (k : Nat) : Bool := ((timesL c).take k).all (fun x => inB x 1 60)
def timesE (c : Cfg) : Int := must (timesF c 5 && (inB c.tm.hold 0 60 && (inB c.rest 1 300 && (inB c.pater 1 300 && inB c.tm.lead 1 (mn (mn c.tm.dwell c.rest) c.pater))))) 102
set_option maxHeartbeats 1000000 in
theorem times_any (c : Cfg) (sv wv : Value) (w : World) :
    Calls Try.prog 35 #[.agg (cfgA c sv wv)] w fun e w' => e = .returned (.int .i64 (timesE c)) ∧ Below w.heap.size w w' := by
  go_enter Try.func35, Try.ntmps35
  go_wp2_with fail
  go_loop [4, 21] (fun t i => ∃ k : Nat, k ≤ 5 ∧ i = .int .i64 k ∧ t = .bool (timesF c k)) (fun _ i => 5 - (intOf i).toNat)
  case atStart => exact ⟨0, Nat.zero_le _, rfl, rfl⟩
  case round =>
    obtain ⟨k, hk, rfl, rfl⟩ := hrel
    by_cases hlt : k < 5
    · have HS : ∀ x, (timesL c)[k]? = some x → timesF c (k + 1) = (timesF c k && inB x 1 60) := by
        intro x hx
        unfold timesF
        rw [List.take_add_one, hx]
        simp [List.all_append]
      have HS' := Aside0.mk HS
      clear HS
      obtain ⟨q, hq⟩ : ∃ q, q = timesF c k := ⟨_, rfl⟩
      rw [← hq]
      have HQ := Aside0.mk hq
      clear hq
      have HK : k = 0 ∨ k = 1 ∨ k = 2 ∨ k = 3 ∨ k = 4 := by omega
      rcases HK with HK | HK | HK | HK | HK
      · have HR : Aside0 (timesF c 1 = (q && inB c.tm.travel 1 60)) := ⟨by subst HK; rw [HQ.out]; exact HS'.out _ rfl⟩
        clear HS' HQ
        subst HK
        rw [show ((0 : Nat) : Int) = 0 from rfl]
        cases q
        all_goals
          go_wp2_with (go_at_call 63; (with_reducible refine (within_any _ _ _ _).mono ?_); rintro e w' ⟨rfl, rfl⟩)
          go_round
          case rel => exact ⟨1, by omega, rfl, by rw [HR.out]; rfl⟩
          case measure => simp [intOf]
      · have HR : Aside0 (timesF c 2 = (q && inB c.tm.level 1 60)) := ⟨by subst HK; rw [HQ.out]; exact HS'.out _ rfl⟩
        clear HS' HQ
        subst HK
        rw [show ((1 : Nat) : Int) = 1 from rfl]
        cases q
        all_goals
          go_wp2_with (go_at_call 63; (with_reducible refine (within_any _ _ _ _).mono ?_); rintro e w' ⟨rfl, rfl⟩)
          go_round
          case rel => exact ⟨2, by omega, rfl, by rw [HR.out]; rfl⟩
          case measure => simp [intOf]
      · have HR : Aside0 (timesF c 3 = (q && inB c.tm.opn 1 60)) := ⟨by subst HK; rw [HQ.out]; exact HS'.out _ rfl⟩
        clear HS' HQ
        subst HK
        rw [show ((2 : Nat) : Int) = 2 from rfl]
        cases q
        all_goals
          go_wp2_with (go_at_call 63; (with_reducible refine (within_any _ _ _ _).mono ?_); rintro e w' ⟨rfl, rfl⟩)
          go_round
          case rel => exact ⟨3, by omega, rfl, by rw [HR.out]; rfl⟩
          case measure => simp [intOf]
      · have HR : Aside0 (timesF c 4 = (q && inB c.tm.dwell 1 60)) := ⟨by subst HK; rw [HQ.out]; exact HS'.out _ rfl⟩
        clear HS' HQ
        subst HK
        rw [show ((3 : Nat) : Int) = 3 from rfl]
        cases q
        all_goals
          go_wp2_with (go_at_call 63; (with_reducible refine (within_any _ _ _ _).mono ?_); rintro e w' ⟨rfl, rfl⟩)
          go_round
          case rel => exact ⟨4, by omega, rfl, by rw [HR.out]; rfl⟩
          case measure => simp [intOf]
      · have HR : Aside0 (timesF c 5 = (q && inB c.tm.close 1 60)) := ⟨by subst HK; rw [HQ.out]; exact HS'.out _ rfl⟩
        clear HS' HQ
        subst HK
        rw [show ((4 : Nat) : Int) = 4 from rfl]
        cases q
        all_goals
          go_wp2_with (go_at_call 63; (with_reducible refine (within_any _ _ _ _).mono ?_); rintro e w' ⟨rfl, rfl⟩)
          go_round
          case rel => exact ⟨5, by omega, rfl, by rw [HR.out]; rfl⟩
          case measure => simp [intOf]
    · obtain rfl : k = 5 := by omega
      clear hk hlt
      have HE : Aside0 (timesE c = must (timesF c 5 && (inB c.tm.hold 0 60 && (inB c.rest 1 300 && (inB c.pater 1 300 && inB c.tm.lead 1 (mn (mn c.tm.dwell c.rest) c.pater))))) 102) := ⟨rfl⟩
      generalize timesF c 5 = q at HE ⊢
      cases q <;> cases h1 : inB c.tm.hold 0 60 <;> cases h2 : inB c.rest 1 300 <;> cases h3 : inB c.pater 1 300
      case true.true.true.true =>
        have HM : ∃ m, m = mn (mn c.tm.dwell c.rest) c.pater := ⟨_, rfl⟩
        obtain ⟨m, hm⟩ := HM
        rw [← hm] at HE
        unfold mn at hm
        by_cases q1 : c.rest < c.tm.dwell
        · rw [if_pos q1] at hm
          by_cases q2 : c.pater < c.rest
          all_goals
            first | rw [if_pos q2] at hm | rw [if_neg q2] at hm
            subst hm
            go_wp2_with (first | (go_at_call 63; (with_reducible refine (within_any _ _ _ _).mono ?_); rintro e w' ⟨rfl, rfl⟩) | (go_at_call 62; (with_reducible refine (must_any _ _ _).mono ?_); rintro e w' ⟨rfl, rfl⟩))
            go_ret
            exact ⟨by rw [HE.out]; simp [*], by repeat (first | exact Below.refl _ _ | apply below_alloc)⟩
        · rw [if_neg q1] at hm
          by_cases q2 : c.pater < c.tm.dwell
          all_goals
            first | rw [if_pos q2] at hm | rw [if_neg q2] at hm
            subst hm
            go_wp2_with (first | (go_at_call 63; (with_reducible refine (within_any _ _ _ _).mono ?_); rintro e w' ⟨rfl, rfl⟩) | (go_at_call 62; (with_reducible refine (must_any _ _ _).mono ?_); rintro e w' ⟨rfl, rfl⟩))
            go_ret
            exact ⟨by rw [HE.out]; simp [*], by repeat (first | exact Below.refl _ _ | apply below_alloc)⟩
      all_goals
        go_wp2_with (first | (go_at_call 63; (with_reducible refine (within_any _ _ _ _).mono ?_); rintro e w' ⟨rfl, rfl⟩) | (go_at_call 62; (with_reducible refine (must_any _ _ _).mono ?_); rintro e w' ⟨rfl, rfl⟩))
        go_ret
        exact ⟨by rw [HE.out]; simp [*], by repeat (first | exact Below.refl _ _ | apply below_alloc)⟩
end Go.Proofs.Ytopmmbopankpgaa
