/- What a Config that came in by value holds: its cells, its two rows read. -/
import Derived.Test.YtopmmbopankpgaaCfgN
import Derived.OpenShut
import Derived.Lib.SmallJoins
import Derived.Deep.Slices
namespace Go.Proofs.Ytopmmbopankpgaa
open Go.RowKit Go.Proofs.YtopmmbopankpgaaW.PrintWords Go.Proofs.YtopmmbopankpgaaW.PrintLast Go.Proofs.YtopmmbopankpgaaW.PrintMore
open Go.ChangeShapes Go.WideShapes Go.Deep
set_option linter.unusedVariables false
set_option linter.unusedSimpArgs false

section
variable {H : Type} {enc : TypeId × Value → H} {w : World}
/-- These cells read, at that type. -/
def Rd (enc : TypeId × Value → H) (w : World) (t : TypeId) (cs : List Value) : Prop := ∃ (fuel : Nat) (y : DataW H × List MemPlace), DataW.trod enc Try.prog w 0 (fun _ => true) true fuel t cs = some y
theorem Rd_int {cs : List Value} (h : Rd enc w 3 cs) : ∃ n, cs = [.int .i64 n] := by
  obtain ⟨fuel, y, h⟩ := h
  obtain ⟨n, h, _⟩ := DataW.trod_int Try.underlying3 h
  exact ⟨n, h⟩
theorem Rd_bool {cs : List Value} (h : Rd enc w 4 cs) : ∃ b, cs = [.bool b] := by
  obtain ⟨fuel, y, h⟩ := h
  obtain ⟨n, h, _⟩ := DataW.trod_bool Try.underlying4 h
  exact ⟨n, h⟩
theorem Rd_field {t t' : TypeId} {fs : Array Field} {cs : List Value} (h : Rd enc w t cs) (ht : Try.prog.underlying t = some (.struct fs)) (i : Nat) {f : Field} (hf : fs[i]? = some f) (o : Nat) {n : Nat} (ho : f.offset = o) (hn : Try.prog.cellsOf t' = n) (h' : f.type = t') :
    Rd enc w t' ((cs.drop o).take n) := by
  obtain ⟨fuel, y, h⟩ := h
  obtain ⟨xs, m, _, rfl, _, hl, hx⟩ := DataW.trod_struct ht h
  have := hx i f hf
  have hlt : i < fs.size := (Array.getElem?_eq_some_iff.1 hf).1
  rw [List.getElem?_eq_getElem (by omega), ho, h', hn] at this
  exact ⟨m, _, this⟩
theorem Rd_elem {t e : TypeId} {N n : Nat} {cs : List Value} (h : Rd enc w t cs) (ht : Try.prog.underlying t = some (.array N e)) (i : Nat) (hi : i < N) (hn : Try.prog.cellsOf e = n) :
    Rd enc w e ((cs.drop (i * n)).take n) := by
  obtain ⟨fuel, y, h⟩ := h
  obtain ⟨xs, m, _, rfl, _, hl, hx⟩ := DataW.trod_array ht h
  have := hx i hi
  rw [List.getElem?_eq_getElem (by omega), hn] at this
  exact ⟨m, _, this⟩
theorem cells_int : Try.prog.cellsOf 3 = 1 := by kernel_rfl
theorem cells_bool : Try.prog.cellsOf 4 = 1 := by kernel_rfl
theorem cells_tms : Try.prog.cellsOf 24 = 7 := by kernel_rfl
theorem cells_win : Try.prog.cellsOf 81 = 7 := by kernel_rfl
theorem cells_zon : Try.prog.cellsOf 28 = 10 := by kernel_rfl
theorem cells_sun : Try.prog.cellsOf 30 = 12 := by kernel_rfl
theorem cells_cfg : Try.prog.cellsOf 33 = 37 := by kernel_rfl
theorem cells_ints : Try.prog.cellsOf 22 = 1 := by kernel_rfl
theorem cells_wins : Try.prog.cellsOf 31 = 1 := by kernel_rfl
theorem list7 {l : List Value} (h : l.length = 7) : ∃ a b c d e f g, l = [a, b, c, d, e, f, g] := by
  match l, h with
  | [a, b, c, d, e, f, g], _ => exact ⟨_, _, _, _, _, _, _, rfl⟩
theorem Rd_len {t : TypeId} {fs : Array Field} {cs : List Value} (h : Rd enc w t cs) (ht : Try.prog.underlying t = some (.struct fs)) {n : Nat} (hn : Try.prog.cellsOf t = n) : cs.length = n := by
  obtain ⟨fuel, y, h⟩ := h
  obtain ⟨xs, m, _, rfl, hl, _⟩ := DataW.trod_struct ht h
  rw [hl, hn]
theorem Rd_win {cs : List Value} (h : Rd enc w 81 cs) : ∃ x : Win, cs = (winA x).toList := by
  obtain ⟨a, b, c, d, e, f, g, rfl⟩ := list7 (Rd_len h Try.underlying81 cells_win)
  obtain ⟨n0, h0⟩ := Rd_int (Rd_field h Try.underlying81 0 rfl 0 rfl cells_int rfl)
  obtain ⟨n1, h1⟩ := Rd_int (Rd_field h Try.underlying81 1 rfl 1 rfl cells_int rfl)
  obtain ⟨n2, h2⟩ := Rd_int (Rd_field h Try.underlying81 2 rfl 2 rfl cells_int rfl)
  obtain ⟨n3, h3⟩ := Rd_int (Rd_field h Try.underlying81 3 rfl 3 rfl cells_int rfl)
  obtain ⟨n4, h4⟩ := Rd_int (Rd_field h Try.underlying81 4 rfl 4 rfl cells_int rfl)
  obtain ⟨n5, h5⟩ := Rd_int (Rd_field h Try.underlying81 5 rfl 5 rfl cells_int rfl)
  obtain ⟨n6, h6⟩ := Rd_int (Rd_field h Try.underlying81 6 rfl 6 rfl cells_int rfl)
  clear h
  injection h0 with h0 _; injection h1 with h1 _; injection h2 with h2 _; injection h3 with h3 _; injection h4 with h4 _; injection h5 with h5 _; injection h6 with h6 _
  subst h0 h1 h2 h3 h4 h5 h6
  exact ⟨⟨n0, n1, n2, n3, n4, n5, n6⟩, rfl⟩
theorem Rd_ints {cs : List Value} (h : Rd enc w 22 cs) : ∃ A c xs, cs = [.slice A (List.length xs) c] ∧ Kd.C (Kd.int .i64) w A xs.length xs := by
  obtain ⟨fuel, y, h⟩ := h
  rcases open_ints Try.underlying22 Try.underlying3 cells_int h with ⟨rfl, _⟩ | ⟨a, len, cap, zs, rfl, _, hl, hm, hz, _, hc, _⟩
  · exact ⟨none, 0, [], rfl, rfl, by decide, fun h => absurd h (by decide)⟩
  · rw [if_pos rfl] at hz
    have hl2 : (zs.take len).length = len := by rw [List.length_take]; omega
    refine ⟨some a, cap, zs.take len, by rw [hl2], rfl, by rw [hl2]; unfold maxLen at hm; omega, fun _ => ⟨a, rfl, fun j p hj => ⟨[.int .i64 p], rfl, rfl, fun i u hu => ?_⟩⟩⟩
    have hj2 : j < (zs.take len).length := (List.getElem?_eq_some_iff.1 hj).1
    have hi : i = 0 := by have := (List.getElem?_eq_some_iff.1 hu).1; simp at this; omega
    subst hi
    obtain rfl : Value.int .i64 p = u := by simpa using hu
    show w.cell? (a.add (j * 1 + 0)) = _
    rw [Nat.mul_one, Nat.add_zero, hc j (by omega)]
    rw [List.getElem?_take, if_pos (by omega)] at hj
    rw [List.getD_eq_getElem?_getD, hj]; rfl
theorem Rd_wins {cs : List Value} (h : Rd enc w 31 cs) : ∃ A c xs, cs = [.slice A (List.length xs) c] ∧ Kd.C kWin w A xs.length xs := by
  obtain ⟨fuel, y, h⟩ := h
  rcases open_slice Try.underlying31 h with ⟨rfl, _⟩ | ⟨a, len, cap, m, n, D, Pl, rfl, _, hl, hm, hmm, _, hx⟩
  · exact ⟨none, 0, [], rfl, rfl, by decide, fun h => absurd h (by decide)⟩
  · rw [if_pos rfl] at hmm
    rw [cells_win] at hx
    haveI : Inhabited Win := ⟨zWin⟩
    obtain ⟨f, hf⟩ := choose_lt (α := Win) (n := len) (p := fun i x => ∀ k u, ((winA x).toList)[k]? = some u → w.cell? (a.add (i * 7 + k)) = some u) (fun i hi => by
      obtain ⟨cs', h1, h2⟩ := hx i (by omega)
      obtain ⟨_, hlen, hcell⟩ := World.cells?_some h1
      obtain ⟨x, rfl⟩ := Rd_win ⟨n, _, h2⟩
      refine ⟨x, fun k u hk => ?_⟩
      have hk2 : k < 7 := by rw [← hlen]; exact (List.getElem?_eq_some_iff.1 hk).1
      rw [← Deep.add_add, hcell k hk2, hk])
    have hl2 : ((List.range len).map f).length = len := by simp
    refine ⟨some a, cap, (List.range len).map f, by rw [hl2], rfl, by rw [hl2]; unfold maxLen at hm; omega, fun _ => ⟨a, rfl, fun j p hj => ⟨(winA p).toList, rfl, kWin_mk w p, fun i u hu => ?_⟩⟩⟩
    have hj2 : j < len := by rw [← hl2]; exact (List.getElem?_eq_some_iff.1 hj).1
    obtain rfl : f j = p := by simpa [hj2] using hj
    exact hf j hj2 i u hu
theorem Rd_tms {cs : List Value} (h : Rd enc w 24 cs) : ∃ x : Tms, cs = [.int .i64 x.travel, .int .i64 x.level, .int .i64 x.opn, .int .i64 x.dwell, .int .i64 x.lead, .int .i64 x.close, .int .i64 x.hold] := by
  obtain ⟨a, b, c, d, e, f, g, rfl⟩ := list7 (Rd_len h Try.underlying24 cells_tms)
  obtain ⟨n0, h0⟩ := Rd_int (Rd_field h Try.underlying24 0 rfl 0 rfl cells_int rfl)
  obtain ⟨n1, h1⟩ := Rd_int (Rd_field h Try.underlying24 1 rfl 1 rfl cells_int rfl)
  obtain ⟨n2, h2⟩ := Rd_int (Rd_field h Try.underlying24 2 rfl 2 rfl cells_int rfl)
  obtain ⟨n3, h3⟩ := Rd_int (Rd_field h Try.underlying24 3 rfl 3 rfl cells_int rfl)
  obtain ⟨n4, h4⟩ := Rd_int (Rd_field h Try.underlying24 4 rfl 4 rfl cells_int rfl)
  obtain ⟨n5, h5⟩ := Rd_int (Rd_field h Try.underlying24 5 rfl 5 rfl cells_int rfl)
  obtain ⟨n6, h6⟩ := Rd_int (Rd_field h Try.underlying24 6 rfl 6 rfl cells_int rfl)
  clear h
  injection h0 with h0 _; injection h1 with h1 _; injection h2 with h2 _; injection h3 with h3 _; injection h4 with h4 _; injection h5 with h5 _; injection h6 with h6 _
  subst h0 h1 h2 h3 h4 h5 h6
  exact ⟨⟨n0, n1, n2, n3, n4, n5, n6⟩, rfl⟩
theorem list4 {l : List Value} (h : l.length = 4) : ∃ a b c d, l = [a, b, c, d] := by
  match l, h with
  | [a, b, c, d], _ => exact ⟨_, _, _, _, rfl⟩
theorem list10 {l : List Value} (h : l.length = 10) : ∃ a b c d e f g i j k, l = [a, b, c, d, e, f, g, i, j, k] := by
  match l, h with
  | [a, b, c, d, e, f, g, i, j, k], _ => exact ⟨_, _, _, _, _, _, _, _, _, _, rfl⟩
theorem list12 {l : List Value} (h : l.length = 12) : ∃ a b c d e f g i j k m n, l = [a, b, c, d, e, f, g, i, j, k, m, n] := by
  match l, h with
  | [a, b, c, d, e, f, g, i, j, k, m, n], _ => exact ⟨_, _, _, _, _, _, _, _, _, _, _, _, rfl⟩
theorem cells_trn : Try.prog.cellsOf 26 = 4 := by kernel_rfl
theorem Rd_trn {cs : List Value} (h : Rd enc w 26 cs) : ∃ x : Trn, cs = (trnA x).toList := by
  obtain ⟨a, b, c, d, rfl⟩ := list4 (Rd_len h Try.underlying26 cells_trn)
  obtain ⟨n0, h0⟩ := Rd_int (Rd_field h Try.underlying26 0 rfl 0 rfl cells_int rfl)
  obtain ⟨n1, h1⟩ := Rd_int (Rd_field h Try.underlying26 1 rfl 1 rfl cells_int rfl)
  obtain ⟨n2, h2⟩ := Rd_int (Rd_field h Try.underlying26 2 rfl 2 rfl cells_int rfl)
  obtain ⟨n3, h3⟩ := Rd_int (Rd_field h Try.underlying26 3 rfl 3 rfl cells_int rfl)
  clear h
  injection h0 with h0 _; injection h1 with h1 _; injection h2 with h2 _; injection h3 with h3 _
  subst h0 h1 h2 h3
  exact ⟨⟨n0, n1, n2, n3⟩, rfl⟩
theorem Rd_zon {cs : List Value} (h : Rd enc w 28 cs) : ∃ x : Zon, cs = (zonA x).toList := by
  obtain ⟨a, b, c, d, e, f, g, i, j, k, rfl⟩ := list10 (Rd_len h Try.underlying28 cells_zon)
  obtain ⟨n0, h0⟩ := Rd_int (Rd_field h Try.underlying28 0 rfl 0 rfl cells_int rfl)
  obtain ⟨n1, h1⟩ := Rd_int (Rd_field h Try.underlying28 1 rfl 1 rfl cells_int rfl)
  obtain ⟨n2, h2⟩ := Rd_trn (Rd_field h Try.underlying28 2 rfl 2 rfl cells_trn rfl)
  obtain ⟨n3, h3⟩ := Rd_trn (Rd_field h Try.underlying28 3 rfl 6 rfl cells_trn rfl)
  clear h
  injection h0 with h0 _; injection h1 with h1 _
  injection h2 with e0 h2; injection h2 with e1 h2; injection h2 with e2 h2; injection h2 with e3 h2
  injection h3 with e4 h3; injection h3 with e5 h3; injection h3 with e6 h3; injection h3 with e7 h3
  subst h0 h1 e0 e1 e2 e3 e4 e5 e6 e7
  exact ⟨⟨n0, n1, n2, n3⟩, rfl⟩
theorem Rd_sun {cs : List Value} (h : Rd enc w 30 cs) : ∃ x : Sn, cs = (snA x).toList := by
  obtain ⟨fuel, y, h'⟩ := id h
  obtain ⟨xs, m, _, rfl, hl, _⟩ := DataW.trod_array Try.underlying30 h'
  clear h'
  obtain ⟨a, b, c, d, e, f, g, i, j, k, p, q, rfl⟩ := list12 (hl.trans cells_sun)
  obtain ⟨n0, h0⟩ := Rd_int (Rd_elem h Try.underlying30 0 (by decide) cells_int)
  obtain ⟨n1, h1⟩ := Rd_int (Rd_elem h Try.underlying30 1 (by decide) cells_int)
  obtain ⟨n2, h2⟩ := Rd_int (Rd_elem h Try.underlying30 2 (by decide) cells_int)
  obtain ⟨n3, h3⟩ := Rd_int (Rd_elem h Try.underlying30 3 (by decide) cells_int)
  obtain ⟨n4, h4⟩ := Rd_int (Rd_elem h Try.underlying30 4 (by decide) cells_int)
  obtain ⟨n5, h5⟩ := Rd_int (Rd_elem h Try.underlying30 5 (by decide) cells_int)
  obtain ⟨n6, h6⟩ := Rd_int (Rd_elem h Try.underlying30 6 (by decide) cells_int)
  obtain ⟨n7, h7⟩ := Rd_int (Rd_elem h Try.underlying30 7 (by decide) cells_int)
  obtain ⟨n8, h8⟩ := Rd_int (Rd_elem h Try.underlying30 8 (by decide) cells_int)
  obtain ⟨n9, h9⟩ := Rd_int (Rd_elem h Try.underlying30 9 (by decide) cells_int)
  obtain ⟨n10, h10⟩ := Rd_int (Rd_elem h Try.underlying30 10 (by decide) cells_int)
  obtain ⟨n11, h11⟩ := Rd_int (Rd_elem h Try.underlying30 11 (by decide) cells_int)
  clear h
  injection h0 with h0 _; injection h1 with h1 _; injection h2 with h2 _; injection h3 with h3 _; injection h4 with h4 _; injection h5 with h5 _; injection h6 with h6 _; injection h7 with h7 _; injection h8 with h8 _; injection h9 with h9 _; injection h10 with h10 _; injection h11 with h11 _
  subst h0 h1 h2 h3 h4 h5 h6 h7 h8 h9 h10 h11
  exact ⟨⟨n0, n1, n2, n3, n4, n5, n6, n7, n8, n9, n10, n11⟩, rfl⟩
set_option maxRecDepth 100000 in
/-- A Config by value. -/
theorem Rd_cfg {cs : List Value} (h : Rd enc w 33 cs) : ∃ (c : Cfg) (sv wv : Value), cs = (cfgA c sv wv).toList ∧ RdC w c sv wv := by
  have hl := Rd_len h Try.underlying33 cells_cfg
  have st : ∀ o n k, o + n = k → cs.drop o = (cs.drop o).take n ++ cs.drop k := by
    intro o n k hk
    subst hk
    rw [← List.drop_drop, List.take_append_drop]
  obtain ⟨m0, h0⟩ := Rd_int (Rd_field h Try.underlying33 0 rfl 0 rfl cells_int rfl)
  obtain ⟨m1, h1⟩ := Rd_int (Rd_field h Try.underlying33 1 rfl 1 rfl cells_int rfl)
  obtain ⟨m2, h2⟩ := Rd_int (Rd_field h Try.underlying33 2 rfl 2 rfl cells_int rfl)
  obtain ⟨A, ca, m3, h3, hs⟩ := Rd_ints (Rd_field h Try.underlying33 3 rfl 3 rfl cells_ints rfl)
  obtain ⟨m4, h4⟩ := Rd_tms (Rd_field h Try.underlying33 4 rfl 4 rfl cells_tms rfl)
  obtain ⟨m5, h5⟩ := Rd_int (Rd_field h Try.underlying33 5 rfl 11 rfl cells_int rfl)
  obtain ⟨m6, h6⟩ := Rd_int (Rd_field h Try.underlying33 6 rfl 12 rfl cells_int rfl)
  obtain ⟨m7, h7⟩ := Rd_zon (Rd_field h Try.underlying33 7 rfl 13 rfl cells_zon rfl)
  obtain ⟨m8, h8⟩ := Rd_sun (Rd_field h Try.underlying33 8 rfl 23 rfl cells_sun rfl)
  obtain ⟨m9, h9⟩ := Rd_bool (Rd_field h Try.underlying33 9 rfl 35 rfl cells_bool rfl)
  obtain ⟨B, cb, m10, h10, hw⟩ := Rd_wins (Rd_field h Try.underlying33 10 rfl 36 rfl cells_wins rfl)
  clear h
  refine ⟨⟨m0, m1, m2, m3, m4, m5, m6, m7, m8, m9, m10⟩, .slice A m3.length ca, .slice B m10.length cb, ?_, A, B, ca, cb, rfl, rfl, hs, hw⟩
  show cs.drop 0 = _
  rw [st 0 1 1 rfl, h0, st 1 1 2 rfl, h1, st 2 1 3 rfl, h2, st 3 1 4 rfl, h3, st 4 7 11 rfl, h4, st 11 1 12 rfl, h5, st 12 1 13 rfl, h6, st 13 10 23 rfl, h7, st 23 12 35 rfl, h8, st 35 1 36 rfl, h9, st 36 1 37 rfl, h10, List.drop_of_length_le (by omega)]
  rfl
set_option maxRecDepth 100000 in
theorem cfg_of {r : Reach} {b0 : Nat} {v : Value} {d : DataW H} {p : List MemPlace} (hv : Value.okWide Try.prog w r b0 33 v) (h : DataW.Trod enc Try.prog w 0 (fun _ => true) true 33 v d p) :
    ∃ (c : Cfg) (sv wv : Value), v = .agg (cfgA c sv wv) ∧ RdC w c sv wv := by
  obtain ⟨cs, rfl, hsz⟩ := okWide_struct Try.underlying33 hv
  obtain ⟨fuel, hf⟩ := h
  obtain ⟨c, sv, wv, he, hr⟩ := Rd_cfg ⟨fuel, _, hf⟩
  refine ⟨c, sv, wv, ?_, hr⟩
  have : cs = cfgA c sv wv := Array.toList_inj.1 he
  rw [this]
end
end Go.Proofs.Ytopmmbopankpgaa
