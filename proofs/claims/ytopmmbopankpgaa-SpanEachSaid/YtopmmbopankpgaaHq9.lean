/- Spans, plainly: the law SpanEach, as a plain statement. -/
import Derived.Test.YtopmmbopankpgaaHq4
import Derived.Test.YtopmmbopankpgaaH18
namespace Go.Proofs.Ytopmmbopankpgaa.H
open Go.RowKit Go.Proofs.Ytopmmbopankpgaa Go.Proofs.YtopmmbopankpgaaW.PrintWords Go.Proofs.YtopmmbopankpgaaW.PrintLast Go.Proofs.YtopmmbopankpgaaW.PrintMore SpTh
set_option linter.unusedVariables false
set_option linter.unusedSimpArgs false

theorem find_idx (r : List Spn) (t : Int) : r.find? (inS · t) = if idxP (inS · t) r r.length < 0 then none else some (rdS r (idxP (inS · t) r r.length).toNat) := by
  obtain ⟨h1, h2⟩ := idxP_spec (inS · t) r r.length
  have hl := idxP_lt (inS · t) r r.length
  have hg := idxP_ge (inS · t) r r.length
  by_cases h : idxP (inS · t) r r.length < 0
  · rw [if_pos h, List.find?_eq_none]
    intro x hx
    obtain ⟨j, hj, rfl⟩ := List.mem_iff_getElem.1 hx
    have := h1 j hj (.inr (by omega))
    rw [rdS_getElem r j hj] at this
    simpa using this
  · rw [if_neg h]
    generalize idxP (inS · t) r r.length = i at h1 h2 hl hg h
    obtain ⟨j, rfl⟩ : ∃ j : Nat, i = j := ⟨i.toNat, by omega⟩
    have hj : j < r.length := by omega
    rw [Int.toNat_natCast, List.find?_eq_some_iff_getElem]
    refine ⟨by simpa using h2 (by omega), j, hj, (rdS_getElem r j hj).symm, fun q hq => ?_⟩
    have := h1 q (by omega) (.inl (by omega))
    rw [rdS_getElem r q (by omega)] at this
    simpa using this
theorem at_look {r : List Spn} (hr : Nrm r) (t : Int) : SpTh.look r t = if (atP r t).2 = true then some (atP r t).1.f2 else none := by
  unfold SpTh.look atP
  rw [find_idx]
  split <;> rfl
theorem at_prio {r : List Spn} (hr : Nrm r) (t : Int) : (atP r t).1.f3 = 0 := by
  unfold atP
  have hl := idxP_lt (inS · t) r r.length
  split
  · rfl
  · rename_i h
    have hj : (idxP (inS · t) r r.length).toNat < r.length := by omega
    show (rdS r (idxP (inS · t) r r.length).toNat).f3 = 0
    rw [rdS_getElem r _ hj]
    exact (Nrm_mem hr _ (List.getElem_mem hj)).2
theorem md_idx (l : List Spn) (t : Int) : md l t = if wtI l t l.length < 0 then none else some (rdS l (wtI l t l.length).toNat).f2 := by
  have := wt_of_wtI l t l.length (Nat.le_refl _)
  rw [List.take_length] at this
  unfold md
  rw [this]
  split <;> rfl
theorem each_loop (xs : List Spn) (t : Int) (is : Bool) (s0 s1 s2 s3 : Int) (hn : xs.length ≤ 1000) (h1 : is = decide (wtI xs t xs.length ≥ 0)) (h2 : is = true → s2 = (rdS xs (wtI xs t xs.length).toNat).f2) (h3 : s3 = 0) (d : Nat) : ∀ (k i : Nat), i + d = xs.length → 3 * d + 20 < k → newellaw13_SpanEach.l0 k xs t is (wtI xs t i) (i : Int) s0 s1 s2 s3 = some true := by
  induction d with
  | zero =>
    intro k i hi hk
    obtain ⟨k, rfl⟩ : ∃ m, k = m + 1 := ⟨k - 1, by omega⟩
    obtain rfl : i = xs.length := by omega
    have hb := wtI_bd xs t xs.length
    simp only [newellaw13_SpanEach.l0]
    rw [if_neg (by omega), awake_eq _ (by omega)]
    simp only [Option.bind_some, if_true]
    rw [if_pos (by rw [h1]; simp)]
    cases is with
    | false => rfl
    | true =>
      have h0 : wtI xs t xs.length ≥ 0 := by simpa using h1.symm
      have h2 := h2 rfl
      generalize wtI xs t xs.length = b at hb h0 h2 ⊢
      obtain ⟨j, rfl⟩ : ∃ j : Nat, b = j := ⟨b.toNat, by omega⟩
      rw [Int.toNat_natCast] at h2
      rw [if_pos rfl, if_pos (by omega), if_pos (by omega), rdT_eq, if_pos h2, h3]
      rfl
  | succ d ih =>
    intro k i hi hk
    obtain ⟨k, rfl⟩ : ∃ m, k = m + 3 := ⟨k - 3, by omega⟩
    have hlt : i < xs.length := by omega
    have hb := wtI_bd xs t i
    have ih1 := fun q (hq : 3 * d + 20 < q) => ih q (i + 1) (by omega) hq
    have hw := wrap_succ (n := xs.length) hlt (by omega)
    have hst : wtI xs t (i + 1) = if inS (rdS xs i) t && (decide (wtI xs t i < 0) || !lessS (rdS xs i) (rdS xs (wtI xs t i).toNat)) then (i : Int) else wtI xs t i := rfl
    generalize wtI xs t i = b at hb hst ⊢
    have j2 : ∀ q : Bool, newellaw13_SpanEach.j2 (k + 1) xs t is b (i : Int) q s0 s1 s2 s3 = newellaw13_SpanEach.l0 k xs t is (if q then (i : Int) else b) ((i + 1 : Nat) : Int) s0 s1 s2 s3 := by
      intro q
      simp only [newellaw13_SpanEach.j2, hw]
      cases q <;> rfl
    have key : newellaw13_SpanEach.j1 (k + 2) xs t is b (i : Int) (!inS (rdS xs i) t) s0 s1 s2 s3 = some true := by
      simp only [newellaw13_SpanEach.j1]
      by_cases hin : inS (rdS xs i) t = true
      · rw [if_neg (by simp [hin])]
        have ih2 := ih1 k (by omega)
        by_cases hb0 : b < 0
        · rw [if_pos hb0, j2]
          rw [hst] at ih2
          simpa [hin, hb0] using ih2
        · obtain ⟨j, rfl⟩ : ∃ j : Nat, b = j := ⟨b.toNat, by omega⟩
          rw [if_neg hb0, if_pos (by omega), if_pos (by omega), if_pos (by omega), if_pos (by omega), rdT_eq, rdT_eq]
          rw [hst, Int.toNat_natCast] at ih2
          have hj : ¬ ((j : Int) < 0) := by omega
          have hlj : (!lessS (rdS xs i) (rdS xs j)) = if (rdS xs i).f3 > (rdS xs j).f3 then true else if (rdS xs i).f3 = (rdS xs j).f3 then decide ((rdS xs i).f0 ≥ (rdS xs j).f0) else false := by
            unfold lessS
            by_cases c1 : (rdS xs i).f3 > (rdS xs j).f3
            · rw [if_pos c1]; simp; omega
            · rw [if_neg c1]
              by_cases c2 : (rdS xs i).f3 = (rdS xs j).f3
              · rw [if_pos c2, Bool.eq_iff_iff]; simp [c2]
              · rw [if_neg c2]; simp; omega
          rw [hlj] at ih2
          by_cases c1 : (rdS xs i).f3 > (rdS xs j).f3
          · rw [if_pos c1, j2]
            rw [if_pos c1] at ih2
            simpa [hin] using ih2
          · rw [if_neg c1]
            rw [if_neg c1] at ih2
            by_cases c2 : (rdS xs i).f3 = (rdS xs j).f3
            · rw [if_pos c2, j2]
              rw [if_pos c2] at ih2
              simpa [hin, hj] using ih2
            · rw [if_neg c2, j2]
              rw [if_neg c2] at ih2
              simpa [hin, hj] using ih2
      · rw [if_pos (by simpa using hin), hw]
        have ih2 := ih1 (k + 1) (by omega)
        rw [hst] at ih2
        simpa [hin] using ih2
    simp only [newellaw13_SpanEach.l0]
    rw [if_pos (by omega), if_pos (by omega), rdT_eq]
    by_cases h1 : t < (rdS xs i).f0
    · rw [if_pos h1]
      rw [show (!inS (rdS xs i) t) = true from by simp [inS]; omega] at key
      exact key
    · rw [if_neg h1]
      rw [show (!inS (rdS xs i) t) = decide (t ≥ (rdS xs i).f1) from by rw [Bool.eq_iff_iff]; simp [inS]; omega] at key
      exact key
theorem spanEach_pure (l : List Spn) (t : Int) : ∃ k, newellaw13_SpanEach.f k l t = some true := by
  obtain ⟨k, hk⟩ : ∃ k, k = 3 * l.length + 7001 := ⟨_, rfl⟩
  refine ⟨k, ?_⟩
  unfold newellaw13_SpanEach.f
  by_cases hl : (l.length : Int) > 60
  · rw [if_pos hl, awake_eq _ (by omega)]
    rfl
  · rw [if_neg hl, own_eq l (by omega)]
    simp only [Option.bind_some]
    rw [resolve_f]
    simp only [Option.bind_some]
    cases hm : mayS l with
    | false =>
      rw [if_neg (by unfold resE; rw [hm]; decide), awake_eq _ (by omega)]
      simp only [Option.bind_some, if_true]
      unfold resR
      rw [hm]
      rfl
    | true =>
      rw [if_pos (by unfold resE; rw [hm]; rfl)]
      have hr : resR l = resS l := by unfold resR; rw [hm]; rfl
      rw [hr]
      have hc := comes_resS l
      have h1 := at_look hc.nrm t
      have h2 := at_prio hc.nrm t
      rw [hc.tells, md_idx] at h1
      have hb := wtI_bd l t l.length
      have he : span_At.f (resS l) t = some ((atP (resS l) t).1.f0, (atP (resS l) t).1.f1, (atP (resS l) t).1.f2, (atP (resS l) t).1.f3, (atP (resS l) t).2) := rfl
      rw [he]
      simp only [Option.bind_some]
      refine each_loop l t _ _ _ _ _ (by omega) ?_ ?_ h2 l.length k 0 (by omega) (by omega)
      · by_cases h0 : wtI l t l.length < 0
        · rw [if_pos h0] at h1
          cases hq : (atP (resS l) t).2
          · symm; simpa using h0
          · rw [hq] at h1; simp at h1
        · rw [if_neg h0] at h1
          cases hq : (atP (resS l) t).2
          · rw [hq] at h1; simp at h1
          · symm; simpa using h0
      · intro hq
        rw [hq] at h1
        by_cases h0 : wtI l t l.length < 0
        · rw [if_pos h0] at h1; simp at h1
        · rw [if_neg h0] at h1
          simpa using h1.symm
end Go.Proofs.Ytopmmbopankpgaa.H
