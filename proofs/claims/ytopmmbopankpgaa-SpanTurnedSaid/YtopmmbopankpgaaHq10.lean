/- Spans: the law SpanTurned, as a plain statement. -/
import Derived.Test.YtopmmbopankpgaaHq4
import Derived.Test.YtopmmbopankpgaaHrd
import Derived.Test.YtopmmbopankpgaaH22
namespace Go.Proofs.Ytopmmbopankpgaa.H
open Go.RowKit Go.Proofs.Ytopmmbopankpgaa Go.Proofs.YtopmmbopankpgaaW.PrintWords Go.Proofs.YtopmmbopankpgaaW.PrintLast Go.Proofs.YtopmmbopankpgaaW.PrintMore SpTh
set_option linter.unusedVariables false
set_option linter.unusedSimpArgs false

theorem modes_loop (d : Nat) : ∀ (k i : Nat) (xs : List Spn), xs.length ≤ 100000 → i + d = xs.length → d < k → ∃ z, newellaw13_modes.l0 k xs (i : Int) = some z ∧ z.length = xs.length := by
  induction d with
  | zero =>
    intro k i xs hn hi hk
    obtain ⟨k, rfl⟩ : ∃ m, k = m + 1 := ⟨k - 1, by omega⟩
    simp only [newellaw13_modes.l0]
    rw [if_neg (by omega)]
    exact ⟨_, rfl, rfl⟩
  | succ d ih =>
    intro k i xs hn hi hk
    obtain ⟨k, rfl⟩ : ∃ m, k = m + 1 := ⟨k - 1, by omega⟩
    simp only [newellaw13_modes.l0]
    rw [if_pos (by omega), if_pos (by omega), wrap_succ (n := xs.length) (by omega) (by omega)]
    have key : ∀ ys : List Spn, ys.length = xs.length → ∃ z, newellaw13_modes.l0 k ys ((i + 1 : Nat) : Int) = some z ∧ z.length = xs.length := fun ys h => by
      obtain ⟨z, hz, hl⟩ := ih k (i + 1) ys (by omega) (by omega) (by omega)
      exact ⟨z, hz, by omega⟩
    exact key _ List.length_set
theorem modes_some (xs : List Spn) (hn : xs.length ≤ 100000) (k : Nat) (hk : xs.length < k) : ∃ z, newellaw13_modes.f k xs = some z ∧ z.length = xs.length :=
  modes_loop xs.length k 0 xs hn (by omega) hk
theorem mx_le {a b : Int} : a ≤ mx a b ∧ b ≤ mx a b := by unfold mx; split <;> omega
theorem mx_one {a b : Int} : mx a b = a ∨ mx a b = b := by unfold mx; split <;> simp
theorem turned_end (l : List Spn) (hl : l.length ≤ 60) (top : Int) (h0 : 0 ≤ top) (ht : top ≤ 9223372036854775807) (hs : ∀ s ∈ l, s.f3 ≤ top) (b0 b1 b2 b3 : Int) (k : Nat) (hk : 7000 < k) (b : Bool) (hb : b = false → mayS l = true ∧ top < 9223372036854775807 ∧ b0 < b1) :
    newellaw13_SpanTurned.j1 k l top (resR l) b b0 b1 b2 b3 = some true := by
  obtain ⟨k, rfl⟩ : ∃ m, k = m + 1 := ⟨k - 1, by omega⟩
  simp only [newellaw13_SpanTurned.j1]
  cases b with
  | true =>
    rw [if_pos rfl, awake_eq _ (by omega)]
    rfl
  | false =>
    obtain ⟨hm, hlt, hab⟩ := hb rfl
    rw [if_neg (by simp), own_eq l (by omega)]
    have hw : wrap64 (top + 1) = top + 1 := by unfold wrap64; omega
    rw [hw]
    simp only [Option.bind_some]
    obtain ⟨m, hmd⟩ : ∃ m : Spn, m = ⟨b0, b1, b2, top + 1⟩ := ⟨_, rfl⟩
    rw [← hmd]
    have g := (may_good hm).2
    have gm : m.f0 < m.f1 := by rw [hmd]; exact hab
    have hx : mayS (l ++ [m]) = true := good_may (by simp; omega) (fun s hs => by
      rcases List.mem_append.1 hs with h | h
      · exact g s h
      · rw [List.mem_singleton.1 h]; exact gm)
    have hy : mayS (m :: l) = true := good_may (by simp; omega) (fun s hs => by
      rcases List.mem_cons.1 hs with h | h
      · rw [h]; exact gm
      · exact g s h)
    have hres : ∀ l, mayS l = true → resR l = resS l := fun l h => by unfold resR; rw [h]; rfl
    have hee : ∀ l, mayS l = true → resE l = 0 := fun l h => by unfold resE; rw [h]; rfl
    obtain ⟨t1, t2, t3⟩ := turned (l := l) (m := m) (fun s h => by have := hs s h; rw [hmd]; show s.f3 < top + 1; omega) gm (comes_resS _) (comes_resS _) (comes_resS l) (-9223372036854775808)
    have l1 := resS_length (l ++ [m])
    have l2 := resS_length l
    simp only [List.length_append, List.length_cons, List.length_nil] at l1
    rw [if_pos (by simp; omega), resolve_f]
    simp only [Option.bind_some]
    rw [if_pos (by simp; omega), show [m] ++ l = m :: l from rfl, resolve_f]
    simp only [Option.bind_some]
    rw [hres _ hx, hres _ hy, hee _ hx, hee _ hy, hres _ hm, own_eq _ (by omega)]
    simp only [Option.bind_some]
    have e0 : b0 = m.f0 := by rw [hmd]
    have e1 : b1 = m.f1 := by rw [hmd]
    have e2 : b2 = m.f2 := by rw [hmd]
    rw [e0, e1, e2, spanCut_eq _ _ _ (by omega), t2]
    simp only [Option.bind_some]
    rw [awake_eq _ (by omega)]
    simp only [Option.bind_some, if_true]
    rw [← t1, same_refl _ (by omega) _ (by omega)]
    simp only [Option.bind_some, if_true]
    rw [if_pos (by simp), if_pos (by simp), show rd_T63 [(⟨m.f0, m.f1, m.f2, 0⟩ : Spn)] 0 = ⟨m.f0, m.f1, m.f2, 0⟩ from rfl]
    dsimp only
    rw [if_pos rfl, if_pos rfl, if_pos rfl]
    rw [spanCut_eq _ _ _ (by omega), own_eq _ (by omega)]
    simp only [Option.bind_some]
    rw [spanCut_eq _ _ _ (by omega), t3]
    simp only [Option.bind_some]
    have l3 := cutS_length (-9223372036854775808) m.f0 (resS l)
    obtain ⟨z, hz, hzl⟩ := modes_some (cutS (-9223372036854775808) m.f0 (resS l)) (by omega) k (by omega)
    rw [hz]
    simp only [Option.bind_some]
    rw [same_refl _ (by omega) _ (by omega)]
    rfl
theorem turned_loop (l : List Spn) (hl : l.length ≤ 60) (hs : ∀ s ∈ l, s.f3 ≤ 9223372036854775807) (b0 b1 b2 b3 : Int) (d : Nat) : ∀ (k i : Nat) (top : Int), i + d = l.length → d + 7001 < k → 0 ≤ top → top ≤ 9223372036854775807 → (∀ j, j < i → (rdS l j).f3 ≤ top) →
    newellaw13_SpanTurned.l0 k l top (i : Int) b0 b1 b2 b3 = some true := by
  induction d with
  | zero =>
    intro k i top hi hk h0 ht hj
    obtain ⟨k, rfl⟩ : ∃ m, k = m + 1 := ⟨k - 1, by omega⟩
    simp only [newellaw13_SpanTurned.l0]
    rw [if_neg (by omega), own_eq l (by omega)]
    simp only [Option.bind_some]
    rw [resolve_f]
    simp only [Option.bind_some]
    have hs2 : ∀ s ∈ l, s.f3 ≤ top := fun s h => by
      obtain ⟨j, hjl, rfl⟩ := List.mem_iff_getElem.1 h
      have := hj j (by omega)
      rw [rdS_getElem l j hjl] at this
      exact this
    have main := turned_end l hl top h0 ht hs2 b0 b1 b2 b3 k (by omega)
    by_cases he : resE l = 0
    · have hm : mayS l = true := by
        unfold resE at he
        cases h : mayS l with
        | true => rfl
        | false => rw [h] at he; exact absurd he (by decide)
      rw [if_pos he]
      by_cases h5 : top = 9223372036854775807
      · rw [if_pos h5]; exact main true (fun h => by cases h)
      · rw [if_neg h5]; exact main _ (fun h => ⟨hm, by omega, by have := of_decide_eq_false h; omega⟩)
    · rw [if_neg he]; exact main true (fun h => by cases h)
  | succ d ih =>
    intro k i top hi hk h0 ht hj
    obtain ⟨k, rfl⟩ : ∃ m, k = m + 1 := ⟨k - 1, by omega⟩
    have hlt : i < l.length := by omega
    simp only [newellaw13_SpanTurned.l0]
    rw [if_pos (by omega), if_pos (by omega), wrap_succ (n := l.length) hlt (by omega), rdT_eq]
    have q := hs _ (List.getElem_mem hlt)
    have m1 := mx_le (a := top) (b := (rdS l i).f3)
    have m2 := mx_one (a := top) (b := (rdS l i).f3)
    have e := rdS_getElem l i hlt
    refine ih k (i + 1) _ (by omega) (by omega) (by omega) (by rw [← e] at q; omega) (fun j hj2 => ?_)
    rcases Nat.lt_succ_iff_lt_or_eq.1 hj2 with h | h
    · have := hj j h; omega
    · rw [h]; exact m1.2
theorem spanTurned_pure (l : List Spn) (m : Spn) (hs : ∀ s ∈ l, s.f3 ≤ 9223372036854775807) : ∃ k, newellaw13_SpanTurned.f k l m.f0 m.f1 m.f2 m.f3 = some true := by
  obtain ⟨k, hk⟩ : ∃ k, k = l.length + 9001 := ⟨_, rfl⟩
  refine ⟨k, ?_⟩
  unfold newellaw13_SpanTurned.f
  by_cases hl : (l.length : Int) > 60
  · rw [if_pos hl, awake_eq _ (by omega)]
    rfl
  · rw [if_neg hl, show newellaw13_SpanTurned.l0 k l 0 0 m.f0 m.f1 m.f2 m.f3 = newellaw13_SpanTurned.l0 k l 0 ((0 : Nat) : Int) m.f0 m.f1 m.f2 m.f3 from rfl]
    exact turned_loop l (by omega) hs _ _ _ _ l.length k 0 0 (by omega) (by omega) (by omega) (by omega) (fun j hj => absurd hj (by omega))
section
open Go.ChangeShapes Go.WideShapes Go.Deep
variable {H : Type} {enc : TypeId × Value → H} {w : World}
theorem RdH_intw {cs : List Value} (h : RdH enc w 3 cs) : ∃ n, cs = [.int .i64 n] ∧ n ≤ 9223372036854775807 := by
  obtain ⟨fuel, y, h⟩ := h
  obtain ⟨n, h, _, hw⟩ := DataW.trod_int Try.underlying3 h
  refine ⟨n, h, ?_⟩
  unfold Lit.wf at hw
  have := of_decide_eq_true (Bool.and_eq_true_iff.1 hw).2
  exact this
theorem RdH_spanw {cs : List Value} (h : RdH enc w 63 cs) : ∃ x : Spn, cs = (spnA x).toList ∧ x.f3 ≤ 9223372036854775807 := by
  obtain ⟨x, rfl⟩ := RdH_span h
  obtain ⟨n3, h3, hn⟩ := RdH_intw (RdH_field h Try.underlying63 3 rfl 3 rfl cellsH_int rfl)
  refine ⟨x, rfl, ?_⟩
  have e : [Value.int .i64 x.f3] = [.int .i64 n3] := h3
  injection e with e _
  injection e with _ e
  omega
theorem spans_of2 {fuel : Nat} {cs : List Value} {y : DataW H × List MemPlace} (h : DataW.trod enc Try.prog w 0 (fun _ => true) true fuel 56 cs = some y) :
    ∃ A c xs, cs = [.slice A (List.length xs) c] ∧ xs.length ≤ c ∧ Kd.C kSpn w A xs.length xs ∧ ∀ s ∈ xs, s.f3 ≤ 9223372036854775807 := by
  rcases open_slice Try.underlying56 h with ⟨rfl, _⟩ | ⟨a, len, cap, m, n, D, Pl, rfl, _, hl, hm, hmm, hy, hx⟩
  · exact ⟨none, 0, [], rfl, Nat.le_refl _, ⟨rfl, by decide, fun h => absurd h (by decide)⟩, fun s hs => absurd hs (by simp)⟩
  · rw [if_pos rfl] at hmm
    rw [cellsH_span] at hx
    haveI : Inhabited Spn := ⟨zSpn⟩
    obtain ⟨f, hf⟩ := chooseH (α := Spn) (n := len) (p := fun i x => (∀ k u, ((spnA x).toList)[k]? = some u → w.cell? (a.add (i * 4 + k)) = some u) ∧ x.f3 ≤ 9223372036854775807) (fun i hi => by
      obtain ⟨cs', h1, h2⟩ := hx i (by omega)
      obtain ⟨_, hlen, hcell⟩ := World.cells?_some h1
      obtain ⟨x, rfl, hx3⟩ := RdH_spanw ⟨n, _, h2⟩
      refine ⟨x, fun k u hk => ?_, hx3⟩
      have hk2 : k < 4 := by rw [← hlen]; exact (List.getElem?_eq_some_iff.1 hk).1
      rw [← Deep.add_add, hcell k hk2, hk])
    have hl2 : ((List.range len).map f).length = len := by simp
    refine ⟨some a, cap, (List.range len).map f, by rw [hl2], by rw [hl2]; exact hl, ⟨rfl, by rw [hl2]; unfold maxLen at hm; omega, fun _ => ⟨a, rfl, fun j p hj => ⟨(spnA p).toList, rfl, k63_mk w p, fun i u hu => ?_⟩⟩⟩, fun s hs => ?_⟩
    · have hj2 : j < len := by rw [← hl2]; exact (List.getElem?_eq_some_iff.1 hj).1
      obtain rfl : f j = p := by simpa [hj2] using hj
      exact (hf j hj2).1 i u hu
    · obtain ⟨i, hi, rfl⟩ := List.mem_map.1 hs
      exact (hf i (List.mem_range.1 hi)).2
end
end Go.Proofs.Ytopmmbopankpgaa.H
