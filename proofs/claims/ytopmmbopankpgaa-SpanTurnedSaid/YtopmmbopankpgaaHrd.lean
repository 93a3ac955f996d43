/- Spans that came in as arguments: what they hold. -/
import Derived.Test.YtopmmbopankpgaaHsb
import Derived.OpenShut
import Derived.Lib.SmallJoins
import Derived.Deep.Slices
import Derived.SizedLaws
namespace Go.Proofs.Ytopmmbopankpgaa.H
open Go.RowKit Go.Proofs.Ytopmmbopankpgaa Go.Proofs.YtopmmbopankpgaaW.PrintWords Go.Proofs.YtopmmbopankpgaaW.PrintLast Go.Proofs.YtopmmbopankpgaaW.PrintMore SpTh
open Go.ChangeShapes Go.WideShapes Go.Deep
set_option linter.unusedVariables false
set_option linter.unusedSimpArgs false

section
variable {H : Type} {enc : TypeId × Value → H} {w : World}
/-- These cells read, at that type. -/
def RdH (enc : TypeId × Value → H) (w : World) (t : TypeId) (cs : List Value) : Prop := ∃ (fuel : Nat) (y : DataW H × List MemPlace), DataW.trod enc Try.prog w 0 (fun _ => true) true fuel t cs = some y
theorem RdH_int {cs : List Value} (h : RdH enc w 3 cs) : ∃ n, cs = [.int .i64 n] := by
  obtain ⟨fuel, y, h⟩ := h
  obtain ⟨n, h, _⟩ := DataW.trod_int Try.underlying3 h
  exact ⟨n, h⟩
theorem RdH_field {t t' : TypeId} {fs : Array Field} {cs : List Value} (h : RdH enc w t cs) (ht : Try.prog.underlying t = some (.struct fs)) (i : Nat) {f : Field} (hf : fs[i]? = some f) (o : Nat) {n : Nat} (ho : f.offset = o) (hn : Try.prog.cellsOf t' = n) (h' : f.type = t') :
    RdH enc w t' ((cs.drop o).take n) := by
  obtain ⟨fuel, y, h⟩ := h
  obtain ⟨xs, m, _, rfl, _, hl, hx⟩ := DataW.trod_struct ht h
  have := hx i f hf
  have hlt : i < fs.size := (Array.getElem?_eq_some_iff.1 hf).1
  rw [List.getElem?_eq_getElem (by omega), ho, h', hn] at this
  exact ⟨m, _, this⟩
theorem RdH_len {t : TypeId} {fs : Array Field} {cs : List Value} (h : RdH enc w t cs) (ht : Try.prog.underlying t = some (.struct fs)) {n : Nat} (hn : Try.prog.cellsOf t = n) : cs.length = n := by
  obtain ⟨fuel, y, h⟩ := h
  obtain ⟨xs, m, _, rfl, hl, _⟩ := DataW.trod_struct ht h
  rw [hl, hn]
theorem cellsH_int : Try.prog.cellsOf 3 = 1 := by kernel_rfl
theorem cellsH_span : Try.prog.cellsOf 63 = 4 := by kernel_rfl
theorem cellsH_spans : Try.prog.cellsOf 56 = 1 := by kernel_rfl
theorem list4H {l : List Value} (h : l.length = 4) : ∃ a b c d, l = [a, b, c, d] := by
  match l, h with
  | [a, b, c, d], _ => exact ⟨_, _, _, _, rfl⟩
theorem RdH_span {cs : List Value} (h : RdH enc w 63 cs) : ∃ x : Spn, cs = (spnA x).toList := by
  obtain ⟨a, b, c, d, rfl⟩ := list4H (RdH_len h Try.underlying63 cellsH_span)
  obtain ⟨n0, h0⟩ := RdH_int (RdH_field h Try.underlying63 0 rfl 0 rfl cellsH_int rfl)
  obtain ⟨n1, h1⟩ := RdH_int (RdH_field h Try.underlying63 1 rfl 1 rfl cellsH_int rfl)
  obtain ⟨n2, h2⟩ := RdH_int (RdH_field h Try.underlying63 2 rfl 2 rfl cellsH_int rfl)
  obtain ⟨n3, h3⟩ := RdH_int (RdH_field h Try.underlying63 3 rfl 3 rfl cellsH_int rfl)
  clear h
  injection h0 with h0 _; injection h1 with h1 _; injection h2 with h2 _; injection h3 with h3 _
  subst h0 h1 h2 h3
  exact ⟨⟨n0, n1, n2, n3⟩, rfl⟩
theorem chooseH {α : Type} [Inhabited α] {n : Nat} {p : Nat → α → Prop} (h : ∀ i, i < n → ∃ x, p i x) : ∃ f : Nat → α, ∀ i, i < n → p i (f i) := by
  classical
  exact ⟨fun i => if hi : i < n then (h i hi).choose else default, fun i hi => by simp only [hi, dif_pos]; exact (h i hi).choose_spec⟩
theorem spans_of {fuel : Nat} {cs : List Value} {y : DataW H × List MemPlace} (h : DataW.trod enc Try.prog w 0 (fun _ => true) true fuel 56 cs = some y) :
    ∃ A c xs, cs = [.slice A (List.length xs) c] ∧ xs.length ≤ c ∧ Kd.C kSpn w A xs.length xs ∧ (xs = [] ∨ ∃ el sp, y.1 = .slice el sp ∧ el.length = xs.length) := by
  rcases open_slice Try.underlying56 h with ⟨rfl, _⟩ | ⟨a, len, cap, m, n, D, Pl, rfl, _, hl, hm, hmm, hy, hx⟩
  · exact ⟨none, 0, [], rfl, Nat.le_refl _, ⟨rfl, by decide, fun h => absurd h (by decide)⟩, .inl rfl⟩
  · rw [if_pos rfl] at hmm
    rw [cellsH_span] at hx
    haveI : Inhabited Spn := ⟨zSpn⟩
    obtain ⟨f, hf⟩ := chooseH (α := Spn) (n := len) (p := fun i x => ∀ k u, ((spnA x).toList)[k]? = some u → w.cell? (a.add (i * 4 + k)) = some u) (fun i hi => by
      obtain ⟨cs', h1, h2⟩ := hx i (by omega)
      obtain ⟨_, hlen, hcell⟩ := World.cells?_some h1
      obtain ⟨x, rfl⟩ := RdH_span ⟨n, _, h2⟩
      refine ⟨x, fun k u hk => ?_⟩
      have hk2 : k < 4 := by rw [← hlen]; exact (List.getElem?_eq_some_iff.1 hk).1
      rw [← Deep.add_add, hcell k hk2, hk])
    have hl2 : ((List.range len).map f).length = len := by simp
    refine ⟨some a, cap, (List.range len).map f, by rw [hl2], by rw [hl2]; exact hl, ⟨rfl, by rw [hl2]; unfold maxLen at hm; omega, fun _ => ⟨a, rfl, fun j p hj => ⟨(spnA p).toList, rfl, k63_mk w p, fun i u hu => ?_⟩⟩⟩, .inr ⟨_, _, by rw [hy], by simp⟩⟩
    have hj2 : j < len := by rw [← hl2]; exact (List.getElem?_eq_some_iff.1 hj).1
    obtain rfl : f j = p := by simpa [hj2] using hj
    exact hf j hj2 i u hu
theorem cellsH_pieces : Try.prog.cellsOf 70 = 4 := by kernel_rfl
theorem pieces_of {fuel : Nat} {cs : List Value} {y : DataW H × List MemPlace} (h0 : DataW.trod enc Try.prog w 0 (fun _ => true) true fuel 70 cs = some y) :
    ∃ A c xs n1 n2 n3, cs = [.slice A (List.length xs) c, .int .i64 n1, .int .i64 n2, .int .i64 n3] ∧ xs.length ≤ c ∧ Kd.C kSpn w A xs.length xs := by
  have h : RdH enc w 70 cs := ⟨fuel, y, h0⟩
  obtain ⟨a, b, c, d, rfl⟩ := list4H (RdH_len h Try.underlying70 cellsH_pieces)
  obtain ⟨fu, yy, hs⟩ := RdH_field h Try.underlying70 0 rfl 0 rfl cellsH_spans rfl
  obtain ⟨A, cc, xs, e, hc, hC, _⟩ := spans_of hs
  obtain ⟨n1, h1⟩ := RdH_int (RdH_field h Try.underlying70 1 rfl 1 rfl cellsH_int rfl)
  obtain ⟨n2, h2⟩ := RdH_int (RdH_field h Try.underlying70 2 rfl 2 rfl cellsH_int rfl)
  obtain ⟨n3, h3⟩ := RdH_int (RdH_field h Try.underlying70 3 rfl 3 rfl cellsH_int rfl)
  clear h h0
  injection e with e _; injection h1 with h1 _; injection h2 with h2 _; injection h3 with h3 _
  subst e h1 h2 h3
  exact ⟨A, cc, xs, n1, n2, n3, rfl, hc, hC⟩
end
end Go.Proofs.Ytopmmbopankpgaa.H
