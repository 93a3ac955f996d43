/- newellaw10's ConfigFewer: words, and what taking a window out leaves. -/
import Derived.Test.YtopmmbopankpgaaCfgM
import Derived.Test.YtopmmbopankpgaaQr
import Derived.Test.YtopmmbopankpgaaWInvWords
import Derived.Deep.DeepCutAuto
import Derived.Deep.WholeRow
import Derived.Deep.RegionLaw
namespace Go.Proofs.Ytopmmbopankpgaa
open Go.RowKit Go.Proofs.YtopmmbopankpgaaW.PrintWords Go.Proofs.YtopmmbopankpgaaW.PrintLast Go.Proofs.YtopmmbopankpgaaW.PrintMore
set_option linter.unusedVariables false
set_option linter.unusedSimpArgs false

/-- A configuration's two rows, read. -/
def RdC (w : World) (c : Cfg) (sv wv : Value) : Prop := ∃ A B ca cb, sv = .slice A c.stops.length ca ∧ wv = .slice B c.wins.length cb ∧ Kd.C (Kd.int .i64) w A c.stops.length c.stops ∧ Kd.C kWin w B c.wins.length c.wins
theorem RdC_below {w w' : World} {c : Cfg} {sv wv : Value} (h : RdC w c sv wv) (hb : Below w.heap.size w w') : RdC w' c sv wv := by
  obtain ⟨A, B, ca, cb, h1, h2, h3, h4⟩ := h
  exact ⟨A, B, ca, cb, h1, h2, Kd.C_below h3 hb, Kd.C_below h4 hb⟩
theorem chk_v (c : Cfg) (sv wv : Value) (w : World) (h : RdC w c sv wv) :
    Calls Try.prog 12 #[.agg (cfgA c sv wv)] w fun e w' => e = .returned (.int .i64 (chkE c)) ∧ Below w.heap.size w w' := by
  obtain ⟨A, B, ca, cb, rfl, rfl, h3, h4⟩ := h
  exact chk_any c A B ca cb w h3 h4
theorem few_v (c : Cfg) (sv wv : Value) (w : World) (h : RdC w c sv wv) :
    Calls Try.prog 11 #[.agg (cfgA c sv wv)] w fun e w' => e = .returned (.bool (fewC c)) ∧ Below w.heap.size w w' := by
  obtain ⟨A, B, ca, cb, rfl, rfl, h3, h4⟩ := h
  exact few_any c A B ca cb w
theorem fits_v (a b : Cfg) (sv wv su wu : Value) (w : World) (h : RdC w a sv wv) (g : RdC w b su wu) :
    Calls Try.prog 15 #[.agg (cfgA a sv wv), .agg (cfgA b su wu)] w fun e w' => e = .returned (.bool (fitsC a b)) ∧ Below w.heap.size w w' := by
  obtain ⟨A, B, ca, cb, rfl, rfl, h3, h4⟩ := h
  obtain ⟨A', B', ca', cb', rfl, rfl, h3', h4'⟩ := g
  exact fits_any a b A A' B B' ca ca' cb cb' w h3 h4 h3' h4'
theorem same_v (a b : Cfg) (sv wv su wu : Value) (w : World) (h : RdC w a sv wv) (g : RdC w b su wu) :
    Calls Try.prog 16 #[.agg (cfgA a sv wv), .agg (cfgA b su wu)] w fun e w' => e = .returned (.bool (sameC a b)) ∧ Below w.heap.size w w' := by
  obtain ⟨A, B, ca, cb, rfl, rfl, h3, h4⟩ := h
  obtain ⟨A', B', ca', cb', rfl, rfl, h3', h4'⟩ := g
  exact same_any a b A A' B B' ca ca' cb cb' w h3 h4 h3' h4'
theorem own_v (c : Cfg) (sv wv : Value) (w : World) (h : RdC w c sv wv) (h1 : c.stops.length ≤ 1000) (h2 : c.wins.length ≤ 1000) :
    Calls Try.prog 13 #[.agg (cfgA c sv wv)] w fun e w' => ∃ su wu, e = .returned (.agg (cfgA c su wu)) ∧ Kd.R (Kd.int .i64) 3 w' w.heap.size (fun _ => True) su c.stops ∧ Kd.R kWin 81 w' w.heap.size (fun _ => True) wu c.wins ∧ Below w.heap.size w w' := by
  obtain ⟨A, B, ca, cb, rfl, rfl, h3, h4⟩ := h
  exact own_any c A B ca cb w h3 h4 h1 h2
theorem RdC_own {w : World} {c : Cfg} {sv wv : Value} {b b' : Nat} {o o' : Nat → Prop} (h : Kd.R (Kd.int .i64) 3 w b o sv c.stops) (g : Kd.R kWin 81 w b' o' wv c.wins) : RdC w c sv wv := by
  obtain ⟨A, ca, h1, _, h2⟩ := Kd.R_reads h
  obtain ⟨B, cb, g1, _, g2⟩ := Kd.R_reads g
  exact ⟨A, B, ca, cb, h1, g1, h2, g2⟩
theorem put_none (a : Act) (v : Value) : a.put none v = a := rfl
theorem cfgA_one_v {w : World} {c : Cfg} {sv wv : Value} (h : RdC w c sv wv) : (cfgA c sv wv).all (·.oneCell') = true := by
  obtain ⟨A, B, ca, cb, rfl, rfl, _, _⟩ := h
  exact cfgA_one _ _ _ _ _ _ _
theorem R_at {α : Type} {d : Kd α} {e base : Nat} {ok : Nat → Prop} {w : World} {v : Value} {xs : List α} (h : d.R e w base ok v xs) (hn : 0 < xs.length) : ∃ (g c : Nat), v = .slice (some ⟨g, 0, none⟩) xs.length c ∧ xs.length ≤ c ∧ base ≤ g ∧ c ≤ 9223372036854775807 := by
  obtain ⟨_, inner, ho, _⟩ := h
  rcases ho.2 with ⟨rfl, h0⟩ | ⟨g, c, cur, rfl, hg, hh, hc, hcm, _⟩
  · obtain ⟨A, c, he, _⟩ := Kd.R_reads ⟨by assumption, inner, ho, by assumption⟩
    injection he with _ he _
    omega
  · exact ⟨g, c, rfl, hc, hg, hcm⟩

/-- The configuration without its n-th window. -/
def fewerC (c : Cfg) (n : Int) : Cfg := { c with wins := if n < c.wins.length then c.wins.eraseIdx n.toNat else c.wins }
theorem firstE_zero : ∀ {l : List Int}, firstE l = 0 → ∀ x ∈ l, x = 0
  | [], _, x, hx => by simp at hx
  | y :: r, h, x, hx => by
    simp only [firstE] at h
    split at h
    · rcases List.mem_cons.1 hx with rfl | hx
      · assumption
      · exact firstE_zero h x hx
    · exact absurd h (by assumption)
theorem zero_firstE : ∀ {l : List Int}, (∀ x ∈ l, x = 0) → firstE l = 0
  | [], _ => rfl
  | y :: r, h => by
    simp only [firstE]
    rw [if_pos (h y (List.mem_cons_self))]
    exact zero_firstE (fun x hx => h x (List.mem_cons_of_mem _ hx))
theorem must_zero {b : Bool} {x : Int} (hx : x ≠ 0) (h : must b x = 0) : b = true := by
  unfold must at h
  cases b
  · exact absurd h hx
  · rfl
theorem chk_all {c : Cfg} (h : chkE c = 0) : sizeE c = 0 ∧ stopsE c = 0 ∧ timesE c = 0 ∧ zonE c.zn = 0 ∧ sunE c.sn = 0 ∧ winsE c = 0 := by
  have := firstE_zero h
  unfold ruleL at this
  refine ⟨this _ ?_, this _ ?_, this _ ?_, this _ ?_, this _ ?_, this _ ?_⟩ <;> simp
theorem stopsF_two {fl : Int} {xs : List Int} : ∀ {k : Nat}, stopsF fl xs k = true → 2 ≤ xs.length
  | 0, h => by simpa [stopsF] using h
  | k + 1, h => by
    simp only [stopsF, Bool.and_eq_true] at h
    exact stopsF_two h.1
theorem chk_two {c : Cfg} (h : chkE c = 0) : 2 ≤ c.stops.length := stopsF_two (must_zero (by decide) (chk_all h).2.1)
theorem fewer_chk {c : Cfg} (h : chkE c = 0) (n : Int) : chkE (fewerC c n) = 0 := by
  obtain ⟨h1, h2, h3, h4, h5, h6⟩ := chk_all h
  refine zero_firstE ?_
  intro x hx
  unfold ruleL at hx
  have h6' : winsE (fewerC c n) = 0 := by
    unfold winsE at h6
    split at h6
    · exact absurd h6 (by decide)
    · rename_i hl
      have hall := must_zero (by decide) h6
      unfold winsE fewerC
      dsimp only
      split
      · have hle : (c.wins.eraseIdx n.toNat).length ≤ c.wins.length := List.length_eraseIdx_le _ _
        rw [if_neg (by omega)]
        rw [show (c.wins.eraseIdx n.toNat).all winOk = true by
          rw [List.all_eq_true] at hall ⊢
          exact fun y hy => hall y (List.mem_of_mem_eraseIdx hy)]
        rfl
      · first | (rw [if_neg hl, hall]; rfl) | (rw [hall]; rfl)
  simp only [List.mem_cons, List.not_mem_nil, or_false] at hx
  rcases hx with rfl | rfl | rfl | rfl | rfl | rfl
  · exact h1
  · exact h2
  · exact h3
  · exact h4
  · exact h5
  · exact h6'
theorem fewer_fits {c : Cfg} (h : chkE c = 0) (n : Int) : fitsC c (fewerC c n) = true := by
  unfold fitsC
  rw [h, fewer_chk h n]
  simp [fewerC]
theorem fewer_same (c : Cfg) {n : Int} (h0 : 0 ≤ n) : sameC c (fewerC c n) = decide (n ≥ c.wins.length) := by
  have h1 : one c (fewerC c n) = true := by simp [one, fewerC, tmsEq]
  have h2 : two c (fewerC c n) = true := by simp [two, fewerC, zonEq, snEq]
  have h3 : (c.stops == (fewerC c n).stops) = true := by simp [fewerC]
  unfold sameC
  rw [h1, h2, h3]
  simp only [Bool.true_and]
  by_cases h : n < c.wins.length
  · rw [show decide (n ≥ (c.wins.length : Int)) = false by simp; omega]
    unfold eqWL
    rw [show decide (c.wins.length = (fewerC c n).wins.length) = false by
      have : n.toNat < c.wins.length := by omega
      simp [fewerC, h, List.length_eraseIdx_of_lt this]; omega]
    rfl
  · rw [show decide (n ≥ (c.wins.length : Int)) = true by simp; omega]
    rw [eqWL_iff]
    simp [fewerC, h]
/-- The configuration with one stop alone. -/
def cutC (d : Cfg) : Cfg := { d with stops := d.stops.take 1 }
theorem cut_chk {d : Cfg} (h : chkE d = 0) : chkE (cutC d) = 101 := by
  obtain ⟨h1, _⟩ := chk_all h
  have h2 : stopsE (cutC d) = 101 := by
    unfold stopsE must
    rw [if_neg]
    intro h
    have := stopsF_two h
    simp [cutC] at this
    omega
  have h1' : sizeE (cutC d) = 0 := h1
  unfold chkE ruleL firstE
  rw [if_pos h1']
  unfold firstE
  rw [if_neg (by rw [h2]; decide), h2]
theorem cut_fits {c d : Cfg} (h : chkE d = 0) : fitsC c (cutC d) = false := by
  unfold fitsC
  rw [cut_chk h]
  simp
end Go.Proofs.Ytopmmbopankpgaa
