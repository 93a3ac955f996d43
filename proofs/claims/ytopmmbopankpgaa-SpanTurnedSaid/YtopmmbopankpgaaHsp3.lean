/- Spans: their sorted ends (span.pieces), in a box of its own, behind a closure. -/
import Derived.Test.YtopmmbopankpgaaHsp2
import Derived.Test.YtopmmbopankpgaaShelf
import Derived.Lib.OwnBridge
import Derived.Lib.AppendIntMem
namespace Go.Proofs.Ytopmmbopankpgaa.H
open Go.RowKit Go.Proofs.Ytopmmbopankpgaa Go.Proofs.YtopmmbopankpgaaW.PrintWords Go.Proofs.YtopmmbopankpgaaW.PrintLast Go.Proofs.YtopmmbopankpgaaW.PrintMore SpTh Go.Sort Go.Lib
set_option linter.unusedVariables false
set_option linter.unusedSimpArgs false

theorem R_some {α : Type} {d : Kd α} {e base : Nat} {ok : Nat → Prop} {w : World} {v : Value} {xs : List α} (h : d.R e w base ok v xs) (hn : 0 < xs.length) : ∃ (g c : Nat), v = .slice (some ⟨g, 0, none⟩) xs.length c ∧ xs.length ≤ c ∧ base ≤ g ∧ c ≤ 9223372036854775807 := by
  obtain ⟨_, inner, ho, _⟩ := h
  rcases ho.2 with ⟨rfl, h0⟩ | ⟨g, c, cur, rfl, hg, hh, hc, hcm, _⟩
  · obtain ⟨A, c, he, _⟩ := Kd.R_reads ⟨by assumption, inner, ho, by assumption⟩
    injection he with _ he _
    omega
  · exact ⟨g, c, rfl, hc, hg, hcm⟩
theorem endsOf_step (xs : List Spn) (k : Nat) (h : k < xs.length) : endsOf (xs.take (k + 1)) = endsOf (xs.take k) ++ [(rdS xs k).f0, (rdS xs k).f1] := by
  rw [List.take_succ_eq_append_getElem h, endsOf_append, rdS_getElem xs k h]; rfl
/-- A row of numbers of the call's own, at the library's two functions. -/
theorem row_holds {W : World} {base b c n : Nat} {zs : List Int} {ok : Nat → Prop} (HO : Kd.R (Kd.int .i64) 3 W base ok (.slice (some ⟨b, 0, none⟩) n c) zs) : Holds (Value.int .i64) W b 0 zs.toArray ∧ base ≤ b ∧ b < W.heap.size ∧ n ≤ c ∧ n = zs.length := by
  obtain ⟨g, cap, e, h1, h2, h3, _, h5, h6⟩ := holds_of_ownsRow (enc := Value.int .i64) (Kd.own_of_R HO) (by simp)
  injection e with e1 e2 e3
  injection e1 with e1
  injection e1 with e1
  subst e1
  exact ⟨h6, h1, h2, by omega, by omega⟩
theorem row_put {W : World} {base b c n q k : Nat} {zs ys : List Int} {ok : Nat → Prop} (HO : Kd.R (Kd.int .i64) 3 W base ok (.slice (some ⟨b, 0, none⟩) n c) zs) (hy : ys.length = zs.length) (hk : k ≤ zs.length) :
    Kd.R (Kd.int .i64) 3 (putRow (Value.int .i64) (Sort.ahead W q) b 0 ys.toArray) base (fun _ => True) (.slice (some ⟨b, 0, none⟩) k c) (ys.take k) := by
  obtain ⟨_, _, _, _, e⟩ := row_holds HO
  subst e
  have h := ownsRow_putRow (q := q) (ys := ys) (k := k) (enc := Value.int .i64) (zs := zs) (Kd.own_of_R HO) hy hk
  have hl : (ys.take k).length = k := by rw [List.length_take]; omega
  exact Kd.R_of_own (by rw [hl]; exact h) (fun _ _ => trivial)
theorem R_weak {α : Type} {d : Kd α} {e base : Nat} {ok : Nat → Prop} {w : World} {v : Value} {xs : List α} (h : d.R e w base ok v xs) : d.R e w base (fun _ => True) v xs := Kd.R_mono h (fun _ _ => trivial)
theorem blk_putRow {enc : Int → Value} {w : World} {g b q : Nat} {o : Obj} {d : Array Int} (h : w.heap[g]? = some o) (hne : b ≠ g) : (putRow enc (Sort.ahead w q) b 0 d).heap[g]? = some o := by
  rw [← h]
  simp [putRow, mapBlock, Sort.ahead, Array.getElem?_modify, hne]
theorem blk_grow {w : World} {g : Nat} {o : Obj} (h : w.heap[g]? = some o) (os : Array Obj) : (grow w os).heap[g]? = some o :=
  (heap_grow_old w 0 os g (blk_lt h)).trans h
theorem compact_len (zs : List Int) : (compact zs).length ≤ zs.length := by
  unfold compact compactUpTo
  rw [List.length_map]
  exact Nat.le_trans (List.length_filter_le _ _) (by simp)
set_option maxRecDepth 100000 in
set_option maxHeartbeats 4000000 in
theorem pieces_any (A : Option Addr) (cap : Nat) (xs : List Spn) (w : World) (hr : Kd.C kSpn w A xs.length xs) (hlen : xs.length ≤ 100000) :
    Calls Try.prog 54 #[.slice A xs.length cap] w fun e w' => ∃ g v, e = .returned (.func (.func 77) #[] #[.pointer (some ⟨g, 0, none⟩)]) ∧ w.heap.size ≤ g ∧ w'.heap[g]? = some (.cells #[v] 22 (0, 0)) ∧ Kd.R (Kd.int .i64) 3 w' w.heap.size (fun _ => True) v (sortedEnds xs) ∧ Below w.heap.size w w' := by
  obtain ⟨n, hn⟩ : ∃ n, n = xs.length := ⟨_, rfl⟩
  have hm : n ≤ 100000 := by omega
  have HR := Aside0.mk hr
  clear hr hlen
  rw [← hn] at HR ⊢
  have HN := Aside0.mk hn
  clear hn
  go_enter Try.func54, Try.ntmps54
  go_wp2_with fail
  obtain ⟨g, hg⟩ : ∃ g, g = w.heap.size := ⟨_, rfl⟩
  have HG := Aside0.mk hg
  go_loopw [8] (fun i wr => ∃ (k : Nat) (v : Value), k ≤ n ∧ i = .int .i64 k ∧ Aside0 (wr.heap[w.heap.size]? = some (.cells #[v] 22 (0, 0))) ∧ Aside0 (Kd.R (Kd.int .i64) 3 wr w.heap.size (fun _ => True) v (endsOf (xs.take k))) ∧ Aside0 (Below w.heap.size w wr)) (fun i _ => n - (intOf i).toNat)
  case atStart => exact ⟨0, _, Nat.zero_le _, rfl, ⟨heap_alloc_new w _⟩, ⟨by simpa [endsOf] using Kd.R_nil _ _ _ _ _⟩, ⟨below_alloc (Below.refl _ _) _⟩⟩
  case round =>
    clear hg
    obtain ⟨k, v, hk, rfl, BK, HO, HB⟩ := hrel
    by_cases hlt : k < n
    · obtain ⟨ad, e, hc0, hc1, hc2, hc3⟩ := at_Spn (Kd.C_below HR.out HB.out) k hlt
      subst e
      have HS := Aside0.mk (endsOf_step xs k (by rw [← HN.out]; exact hlt))
      generalize rdS xs k = x at hc0 hc1 hc2 hc3 HS
      have hck := blk_cell BK.out
      have hfz := blk_frozen BK.out
      have hgl : w.heap.size < wr.heap.size := blk_lt BK.out
      go_wp2_with (at_builtin; refine Kd.R_append_row (Value.int .i64) 0 (h1 := fun _ => rfl) (w0 := w) (W := (wr.alloc (.cells (spnA x) 63)).alloc (.cells #[.int .i64 x.f0, .int .i64 x.f1] 3)) w.heap.size rfl (.tmp 12) (.tmp 17) 22 3 (.int .i64 0) 8 rfl Try.underlying22 infoInt rfl (by decide) v (endsOf (xs.take k)) [x.f0, x.f1] (some ⟨wr.heap.size + 1, 0, none⟩) 2 2 (fun _ => True) rfl (by simp [Act.eval]) (fun _ _ => trivial) (Kd.R_below HO.out (below_alloc (below_alloc (Below.refl _ _) _) _)) (C_new (Kd.int .i64) (wr.alloc (.cells (spnA x) 63)) 3 [x.f0, x.f1] [.int .i64 x.f0, .int .i64 x.f1] _ (by simp) (Reps_ints .i64 _ [x.f0, x.f1]) (by simp)) (below_alloc (below_alloc HB.out _) _) (below_size (below_alloc (below_alloc HB.out _) _)) ?aL ?_; (case aL => have := endsOf_length (xs.take k); rw [List.length_take] at this; omega); intro v1 w1 ho hb hg hat; obtain ⟨A1, c1, hv1, _, _⟩ := Kd.R_reads ho; rw [List.length_append] at hv1; subst hv1; have BK1 := Aside0.mk (blk_grown (blk_alloc (blk_alloc BK.out (.cells (spnA x) 63)) (.cells #[.int .i64 x.f0, .int .i64 x.f1] 3)) hg (Kd.R_ne HO.out BK.out (by decide))); have HO1 := Aside0.mk ho; have HB1 := Aside0.mk hb; clear ho hb hg hat hck hfz; have hck := blk_cell BK1.out; have hfz := blk_frozen BK1.out)
      go_roundw
      case rel => exact ⟨k + 1, _, by omega, by go_num, ⟨blk_set BK1.out 0 _⟩, ⟨by rw [HS.out]; exact Kd.R_set HO1.out BK1.out (by decide) 0 _⟩, ⟨below_set HB1.out (Nat.le_refl _)⟩⟩
      case measure => simp [intOf]; omega
    · obtain rfl : k = n := by omega
      have HZ : Aside0 (endsOf (xs.take k) = endsOf xs) := ⟨by rw [HN.out, List.take_length]⟩
      have HL : Aside0 ((endsOf (xs.take k)).length = 2 * k) := ⟨by rw [HZ.out, endsOf_length, HN.out]⟩
      have HE : Aside0 (sortedEnds xs = compact ((endsOf (xs.take k)).mergeSort (fun x y => decide (x ≤ y)))) := ⟨by rw [HZ.out]; rfl⟩
      generalize endsOf (xs.take k) = zs at HO HL HE HZ
      have hck := blk_cell BK.out
      have hfz := blk_frozen BK.out
      by_cases h0 : k = 0
      · obtain ⟨A', c', e', _, _⟩ := Kd.R_reads HO.out
        have hz0 : zs.length = 0 := by have := HL.out; omega
        rw [hz0] at e'
        subst e'
        obtain rfl := List.length_eq_zero_iff.1 hz0
        clear HL HZ hz0
        go_wp2_with (first | (go_at_call 75; refine (Try.slices_Sort_int_none _ _ _).mono ?_; rintro e w' ⟨rfl, rfl⟩) | (go_at_call 76; refine (Try.slices_Compact_int_empty _ _ _).mono ?_; rintro e w' ⟨rfl, rfl⟩))
        go_ret
        exact ⟨_, _, rfl, Nat.le_refl _, blk_set BK.out 0 _, by rw [HE.out, show compact (([] : List Int).mergeSort fun x y => decide (x ≤ y)) = [] from by simp [compact, compactUpTo]]; exact Kd.R_set HO.out BK.out (by decide) 0 _, below_set HB.out (Nat.le_refl _)⟩
      · obtain ⟨b, c', e', hc', hb', hcm⟩ := R_some HO.out (by have := HL.out; omega)
        subst e'
        obtain ⟨hH, hbb, hbl, _, _⟩ := row_holds HO.out
        have hne : b ≠ w.heap.size := by have := Kd.R_ne HO.out BK.out (by decide); simp [Value.ownBlock] at this; omega
        have HNE := Aside0.mk hne
        have HH := Aside0.mk hH
        have HBB := Aside0.mk hbb
        have HBL := Aside0.mk hbl
        have HCC := Aside0.mk hc'
        have hz1 : zs.length < 4611686018427387904 := by have := HL.out; omega
        clear hne hH hbb hbl hc' hb' hcm
        go_wp2_with fail
        refine (Try.slices_Sort_int b 0 c' zs _ HH.out HBL.out hz1).mono ?_
        rintro e w' ⟨rfl, q, os, rfl⟩
        have hs1 : (zs.mergeSort fun x y => decide (x ≤ y)).length = zs.length := List.length_mergeSort _
        have R1 := row_put (q := q) (k := zs.length) (ys := zs.mergeSort fun x y => decide (x ≤ y)) HO.out hs1 (Nat.le_refl _)
        rw [List.take_of_length_le (by omega)] at R1
        have B1 : Aside0 ((grow (putRow (Value.int .i64) (Sort.ahead wr q) b 0 (zs.mergeSort fun x y => decide (x ≤ y)).toArray) os).heap[w.heap.size]? = some (.cells #[.slice (some ⟨b, 0, none⟩) zs.length c'] 22 (0, 0))) := ⟨blk_grow (blk_putRow BK.out HNE.out) os⟩
        have HO1 := Aside0.mk (Kd.R_below R1 (below_grow _ _ (Nat.le_refl _) 0 os))
        have HB1 : Aside0 (Below w.heap.size w (grow (putRow (Value.int .i64) (Sort.ahead wr q) b 0 (zs.mergeSort fun x y => decide (x ≤ y)).toArray) os)) := ⟨below_step (below_putRow HB.out HBB.out) (below_grow _ _ (Nat.le_refl _) 0 os)⟩
        have HS1 := Aside0.mk hs1
        clear R1 hs1 hck hfz HO BK HB HH HBL
        generalize (zs.mergeSort fun x y => decide (x ≤ y)) = ys at B1 HO1 HB1 HS1 HE ⊢
        have HO2 : Aside0 (Kd.R (Kd.int .i64) 3 (grow (putRow (Value.int .i64) (Sort.ahead wr q) b 0 ys.toArray) os) w.heap.size (fun _ => True) (.slice (some ⟨b, 0, none⟩) zs.length c') ys) := ⟨HO1.out⟩
        clear HO1
        generalize grow (putRow (Value.int .i64) (Sort.ahead wr q) b 0 ys.toArray) os = W1 at B1 HO2 HB1 ⊢
        have hck := blk_cell B1.out
        have hfz := blk_frozen B1.out
        go_wp2_with fail
        obtain ⟨hH2, _, hbl2, _, _⟩ := row_holds HO2.out
        rw [← HS1.out]
        refine (Try.slices_Compact_int b 0 c' ys _ hH2 (by have := HS1.out; omega) (by have := HS1.out; have := HCC.out; omega)).mono ?_
        rintro e w' ⟨rfl, q2, rfl⟩
        have hcl := compact_len ys
        have R2 := row_put (q := q2) (k := (compact ys).length) (ys := compact ys ++ List.replicate (ys.length - (compact ys).length) 0) HO2.out (by simp; omega) hcl
        rw [List.take_left] at R2
        have B2 : Aside0 ((putRow (Value.int .i64) (Sort.ahead W1 q2) b 0 (compact ys ++ List.replicate (ys.length - (compact ys).length) 0).toArray).heap[w.heap.size]? = some (.cells #[.slice (some ⟨b, 0, none⟩) zs.length c'] 22 (0, 0))) := ⟨blk_putRow B1.out HNE.out⟩
        have HO3 := Aside0.mk R2
        have HB2 := Aside0.mk (below_putRow (enc := Value.int .i64) (q := q2) (d := (compact ys ++ List.replicate (ys.length - (compact ys).length) 0).toArray) HB1.out HBB.out)
        clear R2 hcl hck hfz HO2 B1 HB1 hH2
        generalize putRow (Value.int .i64) (Sort.ahead W1 q2) b 0 (compact ys ++ List.replicate (ys.length - (compact ys).length) 0).toArray = W2 at B2 HO3 HB2 ⊢
        have hck := blk_cell B2.out
        have hfz := blk_frozen B2.out
        go_wp2_with fail
        go_ret
        exact ⟨_, _, rfl, Nat.le_refl _, blk_set B2.out 0 _, by rw [HE.out]; exact Kd.R_set HO3.out B2.out (by decide) 0 _, below_set HB2.out (Nat.le_refl _)⟩
end Go.Proofs.Ytopmmbopankpgaa.H
