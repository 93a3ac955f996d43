/- Spans: span.Resolve. -/
import Derived.Test.YtopmmbopankpgaaHsp4
namespace Go.Proofs.Ytopmmbopankpgaa.H
open Go.RowKit Go.Shelf Go.Proofs.Ytopmmbopankpgaa Go.Proofs.YtopmmbopankpgaaW.PrintWords Go.Proofs.YtopmmbopankpgaaW.PrintLast Go.Proofs.YtopmmbopankpgaaW.PrintMore SpTh
attribute [local go_sem] Oper.semAt_some
set_option linter.unusedVariables false
set_option linter.unusedSimpArgs false

theorem pieces_stops (g b : Nat) (A : Option Addr) (cap : Nat) (E : List Int) (w : World) (hE : Ends g b w.heap.size (.slice A E.length cap) E w) :
    SeqStopsK Fence.wide 3 Try.prog 77 #[.pointer (some ⟨g, 0, none⟩)] (fun x : Int × Int => #[.int .i64 x.1, .int .i64 x.2]) (Mid b w.heap.size) (fun ys => ys = pcs E (E.length - 1)) (fun pre => ∃ k, pre = pcs E k) (E.length - 1) w :=
  fun l J Jx W hW hJ _ hY h0 => pieces1_in l g b w.heap.size A cap E J Jx W (hE.mid (Mid.below hW)) hJ hY h0
/-- Whether spans may be. -/
def mayS (l : List Spn) : Bool := decide (l.length ≤ 500) && !l.any oddS
def resE (l : List Spn) : Int := if mayS l then 0 else 130
def resR (l : List Spn) : List Spn := if mayS l then resS l else []
set_option maxRecDepth 100000 in
set_option maxHeartbeats 4000000 in
theorem resolve_no (A : Option Addr) (cap : Nat) (xs : List Spn) (w : World) (hr : Kd.C kSpn w A xs.length xs) (hm : mayS xs = false) :
    Calls Try.prog 23 #[.slice A xs.length cap] w fun e w' => e = .returned (.tuple #[.slice none 0 0, .int .i64 130]) ∧ Below w.heap.size w w' := by
  unfold mayS at hm
  obtain ⟨n, hn⟩ : ∃ n, n = xs.length := ⟨_, rfl⟩
  have hm1 : n ≤ 9223372036854775807 := by have := hr.2.1; omega
  have HR := Aside0.mk (Kd.C_below hr (below_alloc (Below.refl _ _) (.cells #[.slice A xs.length cap] 56)))
  have HO := Aside0.mk (fun (h : xs.length ≤ 500) => show xs.any oddS = true from by simpa [h] using hm)
  clear hr hm
  rw [← hn] at HR HO ⊢
  have HN := Aside0.mk hn
  clear hn
  by_cases h5 : n ≤ 500
  · have h5' : decide (500 < (n : Int)) = false := by simp; omega
    have HO := Aside0.mk (HO.out h5)
    go_enter Try.func23, Try.ntmps23
    go_wp2_with (go_at_call 53; rw [HN.out]; refine (hasOdd_any A cap xs _ (by have := HR.out; rw [HN.out] at this; exact this)).mono ?_; rw [HO.out]; rintro e w' ⟨rfl, hb⟩)
    go_ret2
    exact ⟨rfl, below_step (below_alloc (Below.refl _ _) _) hb⟩
  · have h5' : decide (500 < (n : Int)) = true := by simp; omega
    go_enter Try.func23, Try.ntmps23
    go_wp2
    go_ret2
    exact ⟨rfl, below_alloc (Below.refl _ _) _⟩
/-- What pieces come to, one behind the other. -/
def resL (xs : List Spn) (pre : List (Int × Int)) : List Spn := pre.foldl (fun out p => stepR xs out p.1 p.2) []
theorem resL_snoc (xs : List Spn) (pre : List (Int × Int)) (x : Int × Int) : resL xs (pre ++ [x]) = stepR xs (resL xs pre) x.1 x.2 := by simp [resL]
theorem resL_length (xs : List Spn) (pre : List (Int × Int)) : (resL xs pre).length ≤ pre.length := by
  have : ∀ (pre : List (Int × Int)) (out : List Spn), (pre.foldl (fun out p => stepR xs out p.1 p.2) out).length ≤ out.length + pre.length := by
    intro pre
    induction pre with
    | nil => intro out; simp
    | cons p r ih =>
      intro out
      have h1 := ih (stepR xs out p.1 p.2)
      have h2 := stepR_length xs out p.1 p.2
      simp only [List.foldl_cons, List.length_cons]
      omega
  have := this pre []
  simpa [resL] using this
theorem resL_pcs (xs : List Spn) (E : List Int) : ∀ k, resL xs (pcs E k) = resN xs E k
  | 0 => rfl
  | k + 1 => by simp only [pcs, resL_snoc, resL_pcs xs E k, resN]
/-- What holds between two rounds: the result's box, the spans' box, the row that has been made. -/
structure IR (w : World) (n0 bl bo : Nat) (lv : Value) (out : List Spn) (u : Value) (W : World) : Prop where
  box : W.heap[bo]? = some (.cells #[u] 56 (0, 0))
  lb : W.heap[bl]? = some (.cells #[lv] 56 (0, 0))
  row : Kd.R kSpn 63 W n0 (fun _ => True) u out
  bel : Below w.heap.size w W
  sz : n0 ≤ W.heap.size
theorem IR.grown {w : World} {n0 bl bo : Nat} {lv u : Value} {out : List Spn} {W W' : World} {row : Option Nat} (h : IR w n0 bl bo lv out u W) (hn : w.heap.size ≤ n0) (hg : W.grownBy W' row) (hr : ∀ r, row = some r → n0 ≤ r ∧ ∃ o : Obj, W.heap[r]? = some o ∧ o.isCells = false) : IR w n0 bl bo lv out u W' := by
  have key : ∀ {k : Nat} {cs : Array Value} {t : TypeId}, W.heap[k]? = some (.cells cs t (0, 0)) → W'.heap[k]? = W.heap[k]? := fun {k cs t} hk => hg.block k (blk_lt hk) (fun e => by
    obtain ⟨_, o, ho, hc⟩ := hr k e.symm
    rw [hk] at ho
    injection ho with ho
    rw [← ho] at hc
    simp [Obj.isCells] at hc)
  exact ⟨(key h.box).trans h.box, (key h.lb).trans h.lb, Kd.R_mono (Kd.R_move (Kd.R_bound h.row) (fun k hk => by obtain ⟨_, _, _, q, _, cells, hc⟩ := hk; exact key hc)) (fun _ _ => trivial), h.bel.grown hg h.bel.size (fun k e => Nat.le_trans hn (hr k e).1), Nat.le_trans h.sz hg.size⟩
theorem IR.own {w : World} {n0 bl bo : Nat} {lv : Value} {xs : List Spn} (hn : w.heap.size ≤ n0) : OwnFrom n0 (fun (pre : List (Int × Int)) W => ∃ u, IR w n0 bl bo lv (resL xs pre) u W) :=
  fun s W W' row ⟨u, h⟩ hg hr => ⟨u, h.grown hn hg hr⟩
theorem IR.step {w : World} {n0 bl bo : Nat} {lv u : Value} {out : List Spn} {W W' : World} (h : IR w n0 bl bo lv out u W) (hb : Below W.heap.size W W') : IR w n0 bl bo lv out u W' :=
  ⟨blk_step h.box hb, blk_step h.lb hb, Kd.R_below h.row hb, below_step h.bel hb, Nat.le_trans h.sz hb.size⟩
theorem keepsFrom_below {B : Nat} {W W' : World} (hb : Below W.heap.size W W') : KeepsFrom B W W' :=
  ⟨hb.size, fun k o _ hk _ => (hb.block k (Array.getElem?_eq_some_iff.1 hk).1).trans hk⟩
theorem Mid.of_below {b n : Nat} {W W' : World} (hn : n ≤ W.heap.size) (hb : Below W.heap.size W W') : Mid b n W W' := ⟨hb.size, fun k _ hk => hb.block k (by omega)⟩
theorem wtI_n {n l : Nat} (A : Option Addr) (cap : Nat) (xs : List Spn) (t : Int) (w : World) (hn : n = xs.length) (hr : Kd.C kSpn w A n xs) :
    CallsIn (Fence.wide.inRound l) 1 Try.prog 55 #[.slice A n cap, .int .i64 t] w fun e w' => e = .returned (.int .i64 (wtI xs t n)) ∧ Below w.heap.size w w' := by
  subst hn; exact CallsIn.inRound l (callsIn_wide.2 (wt_any A cap xs t w hr))
theorem wpIn_region_wq {P : Program} {id n : Nat} {ro : Option Nat} {Q : Exit → Act → World → Prop} {a : Act} {w : World} {L : List Oper} (C : World → Prop) (hm : P.follows .mixedOrders = true) (hB : Region.lexB .any L.toArray = true) (hnd : noDefer L.toArray = true) (hQ : ¬ LetsOut Q) (hC : C (w.drewN 1))
    (h : WQ P L.toArray C (fun a' => ∀ w', C w' → Q .normal a' w') L a) : (Code.region id L.toArray true).wpIn (FW ro) n P Q a w :=
  wpIn_region_cls C hm hB hnd hQ hC h.out
theorem stepR_none {xs out : List Spn} {a b : Int} (h : wt xs a = none) : stepR xs out a b = out := by unfold stepR; rw [h]
theorem stepR_first {xs : List Spn} {a b : Int} {s : Spn} (h : wt xs a = some s) : stepR xs [] a b = [⟨a, b, s.f2, 0⟩] := by unfold stepR; rw [h]; rfl
theorem stepR_more {xs out : List Spn} {a b : Int} {s : Spn} {m : Nat} (h : wt xs a = some s) (hm : out.length = m + 1) (hn : ¬ ((rdS out m).f1 = a ∧ (rdS out m).f2 = s.f2)) : stepR xs out a b = out ++ [⟨a, b, s.f2, 0⟩] := by
  unfold stepR; rw [h]
  have hl : out.getLast? = some (rdS out m) := by rw [List.getLast?_eq_getElem?, hm, show m + 1 - 1 = m from rfl, List.getElem?_eq_getElem (by omega), rdS_getElem out m (by omega)]
  rw [hl]
  dsimp only
  rw [if_neg hn]
theorem stepR_join {xs out : List Spn} {a b : Int} {s : Spn} {m : Nat} (h : wt xs a = some s) (hm : out.length = m + 1) (hn : (rdS out m).f1 = a ∧ (rdS out m).f2 = s.f2) : stepR xs out a b = out.set m ⟨(rdS out m).f0, b, (rdS out m).f2, (rdS out m).f3⟩ := by
  unfold stepR; rw [h]
  have hl : out.getLast? = some (rdS out m) := by rw [List.getLast?_eq_getElem?, hm, show m + 1 - 1 = m from rfl, List.getElem?_eq_getElem (by omega), rdS_getElem out m (by omega)]
  rw [hl]
  dsimp only
  rw [if_pos hn]
  obtain ⟨o2, ho⟩ := List.getLast?_eq_some_iff.1 hl
  have ho2 : o2.length = m := by have := congrArg List.length ho; simp at this; omega
  generalize rdS out m = y at ho ⊢
  subst ho
  rw [List.dropLast_concat, List.set_append_right _ _ (by omega), ho2, Nat.sub_self]
  rfl
theorem Mid.set {b n g i : Nat} {W W' : World} (h : Mid b n W W') (hg : g < b) (v : Value) : Mid b n W (W'.setCell ⟨g, i, none⟩ v) :=
  ⟨by simpa [World.setCell] using h.1, fun k h1 h2 => (Below.heap_setCell W' ⟨g, i, none⟩ v k (by simp; omega)).trans (h.2 k h1 h2)⟩
theorem Mid.far {b n g i : Nat} {W W' : World} (h : Mid b n W W') (hg : n ≤ g) (v : Value) : Mid b n W (W'.setCell ⟨g, i, none⟩ v) :=
  ⟨by simpa [World.setCell] using h.1, fun k h1 h2 => (Below.heap_setCell W' ⟨g, i, none⟩ v k (by simp; omega)).trans (h.2 k h1 h2)⟩
theorem KeepsFrom.row {B e base : Nat} {ok : Nat → Prop} {W W' : World} {v : Value} {out : List Spn} (hr : Kd.R kSpn e W base ok v out) (hg : W.grownBy W' v.ownBlock) : KeepsFrom B W W' :=
  ⟨hg.size, fun k o _ hk hc => (hg.block k (Array.getElem?_eq_some_iff.1 hk).1 (fun e => by
    obtain ⟨cells, h⟩ := Kd.R_typed hr k e.symm
    rw [hk] at h
    injection h with h
    rw [h] at hc
    simp [Obj.isCells] at hc)).trans hk⟩
theorem infoSpn : (Try.prog.info? 63).map (fun i => (i.zero, i.size, i.bytes)) = some (some (.agg #[.int .i64 0, .int .i64 0, .int .i64 0, .int .i64 0]), 4, 32) := by kernel_rfl
theorem IR.add {w : World} {n0 bl bo : Nat} {lv u v1 : Value} {out : List Spn} {p : Spn} {W w1 : World} (h : IR w n0 bl bo lv out u W) (hbl : bl ≠ bo) (hb0 : bo < n0) (hl0 : bl < n0) (hwo : w.heap.size ≤ bo) (hwn : w.heap.size ≤ n0)
    (ho : Kd.R kSpn 63 w1 n0 (fun _ => True) v1 (out ++ [p])) (hb : Below n0 W.drew w1) : IR w n0 bl bo lv (out ++ [p]) v1 (w1.setCell ⟨bo, 0, none⟩ v1) := by
  have hx : w1.heap[bo]? = some (.cells #[u] 56 (0, 0)) := (hb.block bo hb0).trans h.box
  have hl : w1.heap[bl]? = some (.cells #[lv] 56 (0, 0)) := (hb.block bl hl0).trans h.lb
  have hbel : Below w.heap.size w w1 := below_weaken (below_drew1 h.bel) hwn hb
  exact ⟨blk_set hx 0 v1, blk_far hl (p := ⟨bo, 0, none⟩) hbl v1, Kd.R_set ho hx (by decide) 0 v1, below_set hbel hwo, by have h1 := h.sz; have h2 := hb.size; simp [World.setCell] at h2 ⊢; omega⟩
theorem IR.put {w : World} {n0 bl bo gb L c m : Nat} {lv : Value} {out : List Spn} {v : Int} {W : World} (h : IR w n0 bl bo lv out (.slice (some ⟨gb, 0, none⟩) L c) W) (hbl : bl < n0) (hb0 : bo < n0) (hgb : n0 ≤ gb) (hwn : w.heap.size ≤ n0) (hm : m < L) :
    W.frozen? ⟨gb, m * 4 + 1, none⟩ = false ∧ IR w n0 bl bo lv (out.set m ⟨(rdS out m).f0, v, (rdS out m).f2, (rdS out m).f3⟩) (.slice (some ⟨gb, 0, none⟩) L c) (W.setCell ⟨gb, m * 4 + 1, none⟩ (.int .i64 v)) := by
  obtain ⟨cs, hcl, hM, hcc, hfz⟩ := Kd.R_elem h.row zSpn (m : Int) (by omega) (by omega)
  obtain rfl := k63_openM hM
  have hr := (Kd.R_seg h.row (m : Int) (by omega) (by omega) (seg := [.int .i64 v]) (j := 1) hcl hcc (show 2 ≤ 4 from by decide) (x' := ⟨(rdS out m).f0, v, (rdS out m).f2, (rdS out m).f3⟩) (k63_mkM _ _ _ _) (fun _ hk => hk)).1
  rw [Int.toNat_natCast] at hr
  have hf := hfz 1
  rw [Int.toNat_natCast] at hf
  exact ⟨hf, blk_far h.box (p := ⟨gb, m * 4 + 1, none⟩) (by simp; omega) _, blk_far h.lb (p := ⟨gb, m * 4 + 1, none⟩) (by simp; omega) _, hr, below_set h.bel (by omega), by have := h.sz; simp [World.setCell]; omega⟩
theorem hasOdd_n {n : Nat} (A : Option Addr) (cap : Nat) (xs : List Spn) (w : World) (hn : n = xs.length) (ho : xs.any oddS = false) (hr : Kd.C kSpn w A n xs) :
    CallsIn Fence.wide 3 Try.prog 53 #[.slice A n cap, .func (.func 52) #[] #[]] w fun e w' => e = .returned (.bool false) ∧ Below w.heap.size w w' := by
  subst hn; rw [← ho]; exact callsIn_wide.2 (hasOdd_any A cap xs w hr)
theorem pieces_n {n : Nat} (A : Option Addr) (cap : Nat) (xs : List Spn) (w : World) (hn : n = xs.length) (hr : Kd.C kSpn w A n xs) (hlen : n ≤ 100000) :
    CallsIn Fence.wide 3 Try.prog 54 #[.slice A n cap] w fun e w' => ∃ g v, e = .returned (.func (.func 77) #[] #[.pointer (some ⟨g, 0, none⟩)]) ∧ w.heap.size ≤ g ∧ w'.heap[g]? = some (.cells #[v] 22 (0, 0)) ∧ Kd.R (Kd.int .i64) 3 w' w.heap.size (fun _ => True) v (sortedEnds xs) ∧ Below w.heap.size w w' := by
  subst hn; exact callsIn_wide.2 (pieces_any A cap xs w hr hlen)
set_option maxRecDepth 100000 in
set_option maxHeartbeats 4000000 in
theorem resolve_yes (A : Option Addr) (cap : Nat) (xs : List Spn) (w : World) (hr : Kd.C kSpn w A xs.length xs) (hm : mayS xs = true) :
    Calls Try.prog 23 #[.slice A xs.length cap] w fun e w' => ∃ v, e = .returned (.tuple #[v, .int .i64 0]) ∧ Kd.R kSpn 63 w' w.heap.size (fun _ => True) v (resS xs) ∧ Below w.heap.size w w' := by
  unfold mayS at hm
  simp only [Bool.and_eq_true, decide_eq_true_eq, Bool.not_eq_true'] at hm
  obtain ⟨n, hn⟩ : ∃ n, n = xs.length := ⟨_, rfl⟩
  have h5 : n ≤ 500 := by omega
  have HR := Aside0.mk hr
  have HO := Aside0.mk hm.2
  clear hr hm
  rw [← hn] at HR ⊢
  have HN := Aside0.mk hn
  clear hn
  have h5' : decide (500 < (n : Int)) = false := by simp; omega
  refine (callsIn_wide (n := 4)).1 ?_
  refine callsIn_of_wp_marks Try.func23 rfl trivial ?_ rfl
  simp only [Try.ntmps23, List.size_toArray, List.length_cons, List.length_nil, Nat.reduceAdd, Nat.reduceSub, Array.replicate_succ, Array.replicate_zero, List.push_toArray, List.append_toArray, List.nil_append, List.cons_append]
  have BKl : Aside0 ((w.alloc (.cells #[.slice A n cap] 56)).heap[w.heap.size]? = some (.cells #[.slice A n cap] 56 (0, 0))) := ⟨heap_alloc_new w _⟩
  have HB : Aside0 (Below w.heap.size w (w.alloc (.cells #[.slice A n cap] 56))) := ⟨below_alloc (Below.refl _ _) _⟩
  gi_wp2_with (first
    | (refine ⟨trivial, ?_⟩; gi_at_call 53; refine (hasOdd_n A cap xs _ HN.out HO.out (Kd.C_below HR.out HB.out)).mono ?_; rintro e w' ⟨rfl, hb⟩; have n0_ := Aside0.mk (below_step HB.out hb); have n1_ := Aside0.mk (blk_step BKl.out hb); clear HB BKl hb; have HB := n0_; have BKl := n1_; clear n0_ n1_; have hck := blk_cell BKl.out; have hcl := blk_lt BKl.out)
    | (refine ⟨trivial, ?_⟩; gi_at_call 54; refine (pieces_n A cap xs _ HN.out (Kd.C_below HR.out (below_alloc HB.out (.cells #[.slice none 0 0] 56))) (by omega)).mono ?_; rintro e w2 ⟨g, v, rfl, hg, hbox, hrow, hb⟩; have HG := Aside0.mk hg; have HBX := Aside0.mk hbox; have HRW := Aside0.mk hrow; have HW := Aside0.mk hb; clear hg hbox hrow hb hck))
  obtain ⟨A', c', hv, _, _⟩ := Kd.R_reads HRW.out
  subst hv
  have HE : Aside0 (sortedEnds xs = sortedEnds xs) := ⟨rfl⟩
  have hEl := (sortedEnds_spec xs).2.2
  have hS : Aside0 (resS xs = resL xs (pcs (sortedEnds xs) ((sortedEnds xs).length - 1))) := ⟨by rw [resL_pcs]; rfl⟩
  have hnn := HN.out
  generalize sortedEnds xs = E at HRW HBX hEl hS ⊢
  rw [← hnn] at hEl
  have hEl : E.length ≤ 1000 := by omega
  have hsz : (w'.alloc (.cells #[.slice none 0 0] 56)).heap.size = w'.heap.size + 1 := World.size_alloc _ _
  rw [hsz] at HG HRW HW
  have hb2 : w'.heap.size + 1 ≤ w2.heap.size := by have := HW.out.size; rw [hsz] at this; exact this
  have hB2 : Below w.heap.size w w2 := below_step (below_alloc HB.out (.cells #[.slice none 0 0] 56)) (by rw [hsz]; exact HW.out)
  have hE := Ends.of HBX.out HG.out HRW.out
  have hI0 : IR w w2.heap.size w.heap.size w'.heap.size (.slice A n cap) [] (.slice none 0 0) w2 :=
    ⟨(HW.out.block w'.heap.size (by omega)).trans (heap_alloc_new w' _), (HW.out.block w.heap.size (by omega)).trans (blk_alloc BKl.out _), Kd.R_nil _ _ _ _ _, hB2, Nat.le_refl _⟩
  clear hnn HE
  refine wpIn_rangeFunc_ownG rfl (by decide) (gf := 77) (lb := #[.pointer (some ⟨g, 0, none⟩)]) rfl trivial (enters_of Try.func77 (by kernel_rfl) rfl)
    (pieces_stops g (w'.heap.size + 1) A' c' E w2 hE) Mid.trans (fun W l o o' hl ho _ _ => ⟨by simp [World.putObj], fun k _ hk => World.putObj_heap_other (by omega)⟩) (Below.refl _ _) (fun _ => rfl)
    (fun pre W => ∃ u, IR w w2.heap.size w.heap.size w'.heap.size (.slice A n cap) (resL xs pre) u W) (fun _ _ _ => False) (IR.own hB2.size) (fun _ _ _ _ _ hs _ _ => hs) ⟨_, hI0⟩
    (fun x => { tmps := #[.slice A n cap, .pointer (some ⟨w.heap.size, 0, none⟩), .slice none 0 0, .int .i64 0, .func (.func 52) #[] #[], .pointer (some ⟨w'.heap.size, 0, none⟩), .int .i64 x.1, .int .i64 x.2, undef, undef, .slice A n cap, .int .i64 n, .bool false, .bool false, .slice A n cap, .func (.func 52) #[] #[], .bool false, .bool false, .slice A n cap, .func (.func 77) #[] #[.pointer (some ⟨g, 0, none⟩)], .int .i64 x.1, .int .i64 x.2, undef, undef, undef, undef, undef, undef, undef, undef, undef, undef, undef, undef, undef, undef, undef, undef, undef, undef, undef, undef, undef, undef, undef, undef, undef, undef, undef, undef, undef, undef, undef, undef, undef, undef, undef, undef, undef, undef, undef, undef, undef, undef, undef, undef, undef, undef, undef, undef, undef], defers := [] }) ?assign ?body ?done ?stop
  case assign =>
    intro l x W K hK
    gi_wp2
    exact hK
  case body =>
    rintro l pre x W ⟨u, HI⟩ hlt
    have hck := blk_cell HI.lb
    have hpl := resL_length xs pre
    have HX : Aside0 (resL xs (pre ++ [x]) = stepR xs (resL xs pre) x.1 x.2) := ⟨resL_snoc xs pre x⟩
    have HWT : Aside0 (wt xs x.1 = if wtI xs x.1 n < 0 then none else some (rdS xs (wtI xs x.1 n).toNat)) := ⟨by have := wt_of_wtI xs x.1 xs.length (Nat.le_refl _); rw [List.take_length] at this; rw [HN.out]; exact this⟩
    have HWB := Aside0.mk (wtI_bd xs x.1 n)
    have HIA := Aside0.mk HI
    clear HI
    generalize resL xs pre = out at HIA HX hpl
    gi_wp2_with (fail)
    refine ⟨trivial, ?_⟩
    refine (wtI_n A cap xs x.1 _ HN.out (Kd.C_below HR.out HIA.out.bel)).mono ?_
    rintro e w3 ⟨rfl, hb⟩
    have HI3 := Aside0.mk (HIA.out.step hb)
    have HK3 := Aside0.mk (keepsFrom_below (B := w2.heap.size) hb)
    have HM3 := Aside0.mk (Mid.of_below (b := w'.heap.size + 1) HIA.out.sz hb)
    clear hb hck HIA
    generalize wtI xs x.1 n = i at HWT HWB ⊢
    obtain ⟨A2, c2, hu, hlc, _⟩ := Kd.R_reads HI3.out.row
    subst hu
    have hcb := blk_cell HI3.out.box
    have hcl := blk_cell HI3.out.lb
    by_cases h0 : i < 0
    · have h0' : decide (i < 0) = true := by simpa using h0
      gi_wp2
      exact ⟨HK3.out, HM3.out, _, by rw [HX.out, stepR_none (by rw [HWT.out, if_pos h0])]; exact HI3.out⟩
    · have h0' : decide (i < 0) = false := by simpa using h0
      obtain ⟨j, hj⟩ : ∃ j : Nat, i = j := ⟨i.toNat, by omega⟩
      subst hj
      have HWT : Aside0 (wt xs x.1 = some (rdS xs j)) := ⟨by rw [HWT.out, if_neg h0]; rfl⟩
      have hjn : j < n := by have := HWB.out.2; omega
      clear h0 HWB
      have HL : Aside0 (∀ w', Below w3.heap.size w3 w' → ∃ ad', A = some ad' ∧ w'.cell? (ad'.add (j * 4)) = some (.int .i64 (rdS xs j).f0) ∧ w'.cell? ⟨(ad'.add (j * 4)).block, (ad'.add (j * 4)).off + 1, none⟩ = some (.int .i64 (rdS xs j).f1) ∧ w'.cell? ⟨(ad'.add (j * 4)).block, (ad'.add (j * 4)).off + 2, none⟩ = some (.int .i64 (rdS xs j).f2) ∧ w'.cell? ⟨(ad'.add (j * 4)).block, (ad'.add (j * 4)).off + 3, none⟩ = some (.int .i64 (rdS xs j).f3)) :=
        ⟨fun w' hw' => at_Spn (Kd.C_below HR.out (below_step HI3.out.bel hw')) j hjn⟩
      have hj0 : (0 : Int) ≤ (j : Int) := by omega
      have hj1 : (j : Int) < (n : Int) := by omega
      generalize rdS xs j = s at HWT HL
      obtain ⟨adl, eA, _⟩ := HL.out w3 (Below.refl _ _)
      subst eA
      by_cases hq : out.length = 0
      · obtain rfl := List.length_eq_zero_iff.1 hq
        have hpl' : ([] : List Spn).length ≤ pre.length := Nat.zero_le _
        clear hq hpl hlc
        gi_wp2
        refine wpIn_region_wq (ro := some l) (fun W' => Below w3.heap.size w3 W') (by kernel_rfl) (by kernel_rfl) (by kernel_rfl) (by rintro ⟨_, _, h⟩; exact h) (pw_below_drewN (Below.refl _ _) 1) ?_
        refine WQ.val (by rfl) (fun w => by first | (go_simp; done) | (go_simp; rfl)) ?_; (try simp only [Act.put, List.setIfInBounds_toArray, List.set_cons_zero, List.set_cons_succ])
        refine WQ.val (by rfl) (fun w => by first | (go_simp; done) | (go_simp; rfl)) ?_; (try simp only [Act.put, List.setIfInBounds_toArray, List.set_cons_zero, List.set_cons_succ])
        refine WQ.val (by rfl) (fun w => by first | (go_simp; done) | (go_simp; rfl)) ?_; (try simp only [Act.put, List.setIfInBounds_toArray, List.set_cons_zero, List.set_cons_succ])
        refine WQ.off (by rfl) ?_; (try simp only [Act.put, List.setIfInBounds_toArray, List.set_cons_zero, List.set_cons_succ])
        refine WQ.off (by rfl) ?_; (try simp only [Act.put, List.setIfInBounds_toArray, List.set_cons_zero, List.set_cons_succ])
        refine WQ.off (by rfl) ?_; (try simp only [Act.put, List.setIfInBounds_toArray, List.set_cons_zero, List.set_cons_succ])
        refine WQ.off (by rfl) ?_; (try simp only [Act.put, List.setIfInBounds_toArray, List.set_cons_zero, List.set_cons_succ])
        refine WQ.off (by rfl) ?_; (try simp only [Act.put, List.setIfInBounds_toArray, List.set_cons_zero, List.set_cons_succ])
        refine WQ.off (by rfl) ?_; (try simp only [Act.put, List.setIfInBounds_toArray, List.set_cons_zero, List.set_cons_succ])
        refine WQ.off (by rfl) ?_; (try simp only [Act.put, List.setIfInBounds_toArray, List.set_cons_zero, List.set_cons_succ])
        refine WQ.val (by rfl) (fun w => by first | (go_simp; done) | (go_simp; rfl)) ?_; (try simp only [Act.put, List.setIfInBounds_toArray, List.set_cons_zero, List.set_cons_succ])
        refine WQ.val (by rfl) (fun w => by first | (go_simp; done) | (go_simp; rfl)) ?_; (try simp only [Act.put, List.setIfInBounds_toArray, List.set_cons_zero, List.set_cons_succ])
        refine WQ.off (by rfl) ?_; (try simp only [Act.put, List.setIfInBounds_toArray, List.set_cons_zero, List.set_cons_succ])
        refine WQ.off (by rfl) ?_; (try simp only [Act.put, List.setIfInBounds_toArray, List.set_cons_zero, List.set_cons_succ])
        refine WQ.off (by rfl) ?_; (try simp only [Act.put, List.setIfInBounds_toArray, List.set_cons_zero, List.set_cons_succ])
        refine WQ.off (by rfl) ?_; (try simp only [Act.put, List.setIfInBounds_toArray, List.set_cons_zero, List.set_cons_succ])
        refine WQ.off (by rfl) ?_; (try simp only [Act.put, List.setIfInBounds_toArray, List.set_cons_zero, List.set_cons_succ])
        refine WQ.off (by rfl) ?_; (try simp only [Act.put, List.setIfInBounds_toArray, List.set_cons_zero, List.set_cons_succ])
        refine WQ.off (by rfl) ?_; (try simp only [Act.put, List.setIfInBounds_toArray, List.set_cons_zero, List.set_cons_succ])
        refine WQ.off (by rfl) ?_; (try simp only [Act.put, List.setIfInBounds_toArray, List.set_cons_zero, List.set_cons_succ])
        refine WQ.off (by rfl) ?_; (try simp only [Act.put, List.setIfInBounds_toArray, List.set_cons_zero, List.set_cons_succ])
        refine WQ.off (by rfl) ?_; (try simp only [Act.put, List.setIfInBounds_toArray, List.set_cons_zero, List.set_cons_succ])
        refine WQ.off (by rfl) ?_; (try simp only [Act.put, List.setIfInBounds_toArray, List.set_cons_zero, List.set_cons_succ])
        refine WQ.val (by rfl) (fun w => by first | (go_simp; done) | (go_simp; rfl)) ?_; (try simp only [Act.put, List.setIfInBounds_toArray, List.set_cons_zero, List.set_cons_succ])
        refine WQ.nil ?_
        intro w6 hw6
        have HS6 : Aside0 (stepR xs [] x.1 x.2 = [] ++ [⟨x.1, x.2, s.f2, 0⟩]) := ⟨stepR_first HWT.out⟩
        have HI6 := Aside0.mk (HI3.out.step hw6)
        have HK6 := Aside0.mk (KeepsFrom.trans HK3.out (keepsFrom_below hw6))
        have HM6 := Aside0.mk (Mid.trans HM3.out (Mid.of_below HI3.out.sz hw6))
        obtain ⟨ad, e', hd0, hd1, hd2, hd3⟩ := HL.out w6 hw6
        injection e' with e'
        subst e'
        clear hcb hcl HI3 HK3 HM3 HL hw6 HWT
        have hcb := blk_cell HI6.out.box
        have hcl := blk_cell HI6.out.lb
        have hb6 := blk_lt HI6.out.box
        have hl6 := blk_lt HI6.out.lb
        have hblo : w.heap.size ≠ w'.heap.size := by omega
        have hwl : w.heap.size ≤ w'.heap.size := by omega
        have hu63 := Try.underlying63
        have hu56 := Try.underlying56
        gi_wp2
        refine wpIn_any_round (ro := some l) (by kernel_rfl) (by kernel_rfl) (by rintro ⟨_, _, h⟩; exact h) ?_
        change wpAny _ _ _ _ _ _ _ (World.drew _)
        refine wpAny_take (i := 1) (v := ?v_1) rfl (by kernel_rfl) (by kernel_rfl) (by kernel_rfl) (fun _ _ _ h => h) (Or.inl ⟨by rfl, ?hy_1⟩) ?_
        (case hy_1 => (intro w_; first | (go_simp; done) | (go_simp; with_reducible rfl)))
        (try simp only [Act.put, List.setIfInBounds_toArray, List.set_cons_zero, List.set_cons_succ])
        refine wpAny_take (i := 2) (v := ?v_2) rfl (by kernel_rfl) (by kernel_rfl) (by kernel_rfl) (fun _ _ _ h => h) (Or.inl ⟨by rfl, ?hy_2⟩) ?_
        (case hy_2 => (intro w_; first | (go_simp; done) | (go_simp; with_reducible rfl)))
        (try simp only [Act.put, List.setIfInBounds_toArray, List.set_cons_zero, List.set_cons_succ])
        refine wpAny_take (i := 4) (v := ?v_3) rfl (by kernel_rfl) (by kernel_rfl) (by kernel_rfl) (fun _ _ _ h => h) (Or.inl ⟨by rfl, ?hy_3⟩) ?_
        (case hy_3 => (intro w_; first | (go_simp; done) | (go_simp; with_reducible rfl)))
        (try simp only [Act.put, List.setIfInBounds_toArray, List.set_cons_zero, List.set_cons_succ])
        refine wpAny_ready (rs := [0, 3]) (by kernel_rfl) (by simp) ?_
        refine AllReady.cons rfl (fun K hK => ?_) ?_
        · go_simp
          (try simp only [Act.put, List.setIfInBounds_toArray, List.set_cons_zero, List.set_cons_succ])
          refine hK _ _ ?_
          clear hK K
          refine wpAny_ready (rs := [3]) (by kernel_rfl) (by simp) ?_
          refine AllReady.cons rfl (fun K hK => ?_) ?_
          · go_simp
            (try simp only [Act.put, List.setIfInBounds_toArray, List.set_cons_zero, List.set_cons_succ])
            refine hK _ _ ?_
            clear hK K
            refine wpAny_take (i := 5) (v := ?v_4) rfl (by kernel_rfl) (by kernel_rfl) (by kernel_rfl) (fun _ _ _ h => h) (Or.inl ⟨by rfl, ?hy_4⟩) ?_
            (case hy_4 => (intro w_; first | (go_simp; done) | (go_simp; with_reducible rfl)))
            (try simp only [Act.put, List.setIfInBounds_toArray, List.set_cons_zero, List.set_cons_succ])
            refine wpAny_take (i := 6) (v := ?v_5) rfl (by kernel_rfl) (by kernel_rfl) (by kernel_rfl) (fun _ _ _ h => h) (Or.inl ⟨by rfl, ?hy_5⟩) ?_
            (case hy_5 => (intro w_; first | (go_simp; done) | (go_simp; with_reducible rfl)))
            (try simp only [Act.put, List.setIfInBounds_toArray, List.set_cons_zero, List.set_cons_succ])
            refine wpAny_ready (rs := [7]) (by kernel_rfl) (by simp) ?_
            refine AllReady.cons rfl (fun K hK => ?_) ?_
            · go_simp
              (try simp only [Act.put, List.setIfInBounds_toArray, List.set_cons_zero, List.set_cons_succ])
              refine hK _ _ ?_
              clear hK K
              refine wpAny_take (i := 8) (v := ?v_6) rfl (by kernel_rfl) (by kernel_rfl) (by kernel_rfl) (fun _ _ _ h => h) (Or.inl ⟨by rfl, ?hy_6⟩) ?_
              (case hy_6 => (intro w_; first | (go_simp; done) | (go_simp; with_reducible rfl)))
              (try simp only [Act.put, List.setIfInBounds_toArray, List.set_cons_zero, List.set_cons_succ])
              refine wpAny_ready (rs := [9]) (by kernel_rfl) (by simp) ?_
              refine AllReady.cons rfl (fun K hK => ?_) ?_
              · go_simp
                (try simp only [Act.put, List.setIfInBounds_toArray, List.set_cons_zero, List.set_cons_succ])
                refine hK _ _ ?_
                clear hK K
                refine wpAny_ready (rs := [10]) (by kernel_rfl) (by simp) ?_
                refine AllReady.cons (o := { dst := some 69, op := Go.Op.call { callee := Go.Callee.builtin Go.Builtin.append, args := #[Go.Operand.tmp 59, Go.Operand.tmp 68], argTypes := #[56, 56] }, type := 56, pos := "span.go:59", after := #[{ on := 0, ground := Go.Ground.data }, { on := 9, ground := Go.Ground.data }], guard := none }) rfl (fun K hK => ?_) ?_
                · refine Kd.R_append_step kSpn (w0 := w6.drew) (W := w6.drew) w2.heap.size (by rfl) (.tmp 59) (.tmp 68) 56 63 (.agg #[.int .i64 0, .int .i64 0, .int .i64 0, .int .i64 0]) 32 rfl Try.underlying56 infoSpn rfl (by decide) (by omega) _ _ ⟨x.1, x.2, s.f2, 0⟩ [.int .i64 x.1, .int .i64 x.2, .int .i64 s.f2, .int .i64 0] (fun _ => True) (fun _ => False) (by simp [Act.eval]) (by simp [Act.eval]) (k63_mkM _ _ _ _) (fun _ hk => hk.elim) (fun _ _ => trivial) (Kd.R_drew HI6.out.row) (Below.refl _ _) HI6.out.sz ?aL_ ?_; (case aL_ => have := hlt; have := hpl'; omega); intro v1 w1 ho hb hg hat; obtain ⟨A3, c3, hv1, _, _⟩ := Kd.R_reads ho; rw [List.length_append] at hv1; subst hv1; have HO1 := Aside0.mk ho; have HBB := Aside0.mk hb; have HGG := Aside0.mk hg; clear ho hb hg hat; have hck := blk_cell ((HBB.out.block w'.heap.size hb2).trans HI6.out.box); have hfz := blk_frozen ((HBB.out.block w'.heap.size hb2).trans HI6.out.box)
                  (try simp only [Act.put, List.setIfInBounds_toArray, List.set_cons_zero, List.set_cons_succ])
                  refine hK _ _ ?_
                  clear hK K
                  refine wpAny_ready (rs := [11]) (by kernel_rfl) (by simp) ?_
                  refine AllReady.cons rfl (fun K hK => ?_) ?_
                  · go_simp
                    (try simp only [Act.put, List.setIfInBounds_toArray, List.set_cons_zero, List.set_cons_succ])
                    refine hK _ _ ?_
                    clear hK K
                    refine wpAny_done (by kernel_rfl) ?_ _
                    exact ⟨(KeepsFrom.trans (show KeepsFrom _ _ w6.drew from ⟨HK6.out.size, HK6.out.same⟩) (KeepsFrom.row (Kd.R_drew HI6.out.row) HGG.out)).trans ((KeepsOthers.setCell _ _ _).from _), Mid.set (Mid.trans (Mid.trans HM6.out (Mid.below (pw_below_drewN (Below.refl _ _) 1))) (Mid.below HBB.out)) (Nat.lt_succ_self _) _, _, by rw [HX.out, HS6.out]; exact IR.add HI6.out hblo hb2 (by omega) hwl hB2.size HO1.out HBB.out⟩
                  exact AllReady.nil
                exact AllReady.nil
              exact AllReady.nil
            exact AllReady.nil
          exact AllReady.nil
        refine AllReady.cons rfl (fun K hK => ?_) ?_
        · go_simp
          (try simp only [Act.put, List.setIfInBounds_toArray, List.set_cons_zero, List.set_cons_succ])
          refine hK _ _ ?_
          clear hK K
          refine wpAny_take (i := 5) (v := ?v_7) rfl (by kernel_rfl) (by kernel_rfl) (by kernel_rfl) (fun _ _ _ h => h) (Or.inl ⟨by rfl, ?hy_7⟩) ?_
          (case hy_7 => (intro w_; first | (go_simp; done) | (go_simp; with_reducible rfl)))
          (try simp only [Act.put, List.setIfInBounds_toArray, List.set_cons_zero, List.set_cons_succ])
          refine wpAny_take (i := 6) (v := ?v_8) rfl (by kernel_rfl) (by kernel_rfl) (by kernel_rfl) (fun _ _ _ h => h) (Or.inl ⟨by rfl, ?hy_8⟩) ?_
          (case hy_8 => (intro w_; first | (go_simp; done) | (go_simp; with_reducible rfl)))
          (try simp only [Act.put, List.setIfInBounds_toArray, List.set_cons_zero, List.set_cons_succ])
          refine wpAny_ready (rs := [0, 7]) (by kernel_rfl) (by simp) ?_
          refine AllReady.cons rfl (fun K hK => ?_) ?_
          · go_simp
            (try simp only [Act.put, List.setIfInBounds_toArray, List.set_cons_zero, List.set_cons_succ])
            refine hK _ _ ?_
            clear hK K
            refine wpAny_ready (rs := [7]) (by kernel_rfl) (by simp) ?_
            refine AllReady.cons rfl (fun K hK => ?_) ?_
            · go_simp
              (try simp only [Act.put, List.setIfInBounds_toArray, List.set_cons_zero, List.set_cons_succ])
              refine hK _ _ ?_
              clear hK K
              refine wpAny_take (i := 8) (v := ?v_9) rfl (by kernel_rfl) (by kernel_rfl) (by kernel_rfl) (fun _ _ _ h => h) (Or.inl ⟨by rfl, ?hy_9⟩) ?_
              (case hy_9 => (intro w_; first | (go_simp; done) | (go_simp; with_reducible rfl)))
              (try simp only [Act.put, List.setIfInBounds_toArray, List.set_cons_zero, List.set_cons_succ])
              refine wpAny_ready (rs := [9]) (by kernel_rfl) (by simp) ?_
              refine AllReady.cons rfl (fun K hK => ?_) ?_
              · go_simp
                (try simp only [Act.put, List.setIfInBounds_toArray, List.set_cons_zero, List.set_cons_succ])
                refine hK _ _ ?_
                clear hK K
                refine wpAny_ready (rs := [10]) (by kernel_rfl) (by simp) ?_
                refine AllReady.cons (o := { dst := some 69, op := Go.Op.call { callee := Go.Callee.builtin Go.Builtin.append, args := #[Go.Operand.tmp 59, Go.Operand.tmp 68], argTypes := #[56, 56] }, type := 56, pos := "span.go:59", after := #[{ on := 0, ground := Go.Ground.data }, { on := 9, ground := Go.Ground.data }], guard := none }) rfl (fun K hK => ?_) ?_
                · refine Kd.R_append_step kSpn (w0 := w6.drew) (W := w6.drew) w2.heap.size (by rfl) (.tmp 59) (.tmp 68) 56 63 (.agg #[.int .i64 0, .int .i64 0, .int .i64 0, .int .i64 0]) 32 rfl Try.underlying56 infoSpn rfl (by decide) (by omega) _ _ ⟨x.1, x.2, s.f2, 0⟩ [.int .i64 x.1, .int .i64 x.2, .int .i64 s.f2, .int .i64 0] (fun _ => True) (fun _ => False) (by simp [Act.eval]) (by simp [Act.eval]) (k63_mkM _ _ _ _) (fun _ hk => hk.elim) (fun _ _ => trivial) (Kd.R_drew HI6.out.row) (Below.refl _ _) HI6.out.sz ?aL_ ?_; (case aL_ => have := hlt; have := hpl'; omega); intro v1 w1 ho hb hg hat; obtain ⟨A3, c3, hv1, _, _⟩ := Kd.R_reads ho; rw [List.length_append] at hv1; subst hv1; have HO1 := Aside0.mk ho; have HBB := Aside0.mk hb; have HGG := Aside0.mk hg; clear ho hb hg hat; have hck := blk_cell ((HBB.out.block w'.heap.size hb2).trans HI6.out.box); have hfz := blk_frozen ((HBB.out.block w'.heap.size hb2).trans HI6.out.box)
                  (try simp only [Act.put, List.setIfInBounds_toArray, List.set_cons_zero, List.set_cons_succ])
                  refine hK _ _ ?_
                  clear hK K
                  refine wpAny_ready (rs := [11]) (by kernel_rfl) (by simp) ?_
                  refine AllReady.cons rfl (fun K hK => ?_) ?_
                  · go_simp
                    (try simp only [Act.put, List.setIfInBounds_toArray, List.set_cons_zero, List.set_cons_succ])
                    refine hK _ _ ?_
                    clear hK K
                    refine wpAny_done (by kernel_rfl) ?_ _
                    exact ⟨(KeepsFrom.trans (show KeepsFrom _ _ w6.drew from ⟨HK6.out.size, HK6.out.same⟩) (KeepsFrom.row (Kd.R_drew HI6.out.row) HGG.out)).trans ((KeepsOthers.setCell _ _ _).from _), Mid.set (Mid.trans (Mid.trans HM6.out (Mid.below (pw_below_drewN (Below.refl _ _) 1))) (Mid.below HBB.out)) (Nat.lt_succ_self _) _, _, by rw [HX.out, HS6.out]; exact IR.add HI6.out hblo hb2 (by omega) hwl hB2.size HO1.out HBB.out⟩
                  exact AllReady.nil
                exact AllReady.nil
              exact AllReady.nil
            exact AllReady.nil
          refine AllReady.cons rfl (fun K hK => ?_) ?_
          · go_simp
            (try simp only [Act.put, List.setIfInBounds_toArray, List.set_cons_zero, List.set_cons_succ])
            refine hK _ _ ?_
            clear hK K
            refine wpAny_take (i := 8) (v := ?v_10) rfl (by kernel_rfl) (by kernel_rfl) (by kernel_rfl) (fun _ _ _ h => h) (Or.inl ⟨by rfl, ?hy_10⟩) ?_
            (case hy_10 => (intro w_; first | (go_simp; done) | (go_simp; with_reducible rfl)))
            (try simp only [Act.put, List.setIfInBounds_toArray, List.set_cons_zero, List.set_cons_succ])
            refine wpAny_ready (rs := [0, 9]) (by kernel_rfl) (by simp) ?_
            refine AllReady.cons rfl (fun K hK => ?_) ?_
            · go_simp
              (try simp only [Act.put, List.setIfInBounds_toArray, List.set_cons_zero, List.set_cons_succ])
              refine hK _ _ ?_
              clear hK K
              refine wpAny_ready (rs := [9]) (by kernel_rfl) (by simp) ?_
              refine AllReady.cons rfl (fun K hK => ?_) ?_
              · go_simp
                (try simp only [Act.put, List.setIfInBounds_toArray, List.set_cons_zero, List.set_cons_succ])
                refine hK _ _ ?_
                clear hK K
                refine wpAny_ready (rs := [10]) (by kernel_rfl) (by simp) ?_
                refine AllReady.cons (o := { dst := some 69, op := Go.Op.call { callee := Go.Callee.builtin Go.Builtin.append, args := #[Go.Operand.tmp 59, Go.Operand.tmp 68], argTypes := #[56, 56] }, type := 56, pos := "span.go:59", after := #[{ on := 0, ground := Go.Ground.data }, { on := 9, ground := Go.Ground.data }], guard := none }) rfl (fun K hK => ?_) ?_
                · refine Kd.R_append_step kSpn (w0 := w6.drew) (W := w6.drew) w2.heap.size (by rfl) (.tmp 59) (.tmp 68) 56 63 (.agg #[.int .i64 0, .int .i64 0, .int .i64 0, .int .i64 0]) 32 rfl Try.underlying56 infoSpn rfl (by decide) (by omega) _ _ ⟨x.1, x.2, s.f2, 0⟩ [.int .i64 x.1, .int .i64 x.2, .int .i64 s.f2, .int .i64 0] (fun _ => True) (fun _ => False) (by simp [Act.eval]) (by simp [Act.eval]) (k63_mkM _ _ _ _) (fun _ hk => hk.elim) (fun _ _ => trivial) (Kd.R_drew HI6.out.row) (Below.refl _ _) HI6.out.sz ?aL_ ?_; (case aL_ => have := hlt; have := hpl'; omega); intro v1 w1 ho hb hg hat; obtain ⟨A3, c3, hv1, _, _⟩ := Kd.R_reads ho; rw [List.length_append] at hv1; subst hv1; have HO1 := Aside0.mk ho; have HBB := Aside0.mk hb; have HGG := Aside0.mk hg; clear ho hb hg hat; have hck := blk_cell ((HBB.out.block w'.heap.size hb2).trans HI6.out.box); have hfz := blk_frozen ((HBB.out.block w'.heap.size hb2).trans HI6.out.box)
                  (try simp only [Act.put, List.setIfInBounds_toArray, List.set_cons_zero, List.set_cons_succ])
                  refine hK _ _ ?_
                  clear hK K
                  refine wpAny_ready (rs := [11]) (by kernel_rfl) (by simp) ?_
                  refine AllReady.cons rfl (fun K hK => ?_) ?_
                  · go_simp
                    (try simp only [Act.put, List.setIfInBounds_toArray, List.set_cons_zero, List.set_cons_succ])
                    refine hK _ _ ?_
                    clear hK K
                    refine wpAny_done (by kernel_rfl) ?_ _
                    exact ⟨(KeepsFrom.trans (show KeepsFrom _ _ w6.drew from ⟨HK6.out.size, HK6.out.same⟩) (KeepsFrom.row (Kd.R_drew HI6.out.row) HGG.out)).trans ((KeepsOthers.setCell _ _ _).from _), Mid.set (Mid.trans (Mid.trans HM6.out (Mid.below (pw_below_drewN (Below.refl _ _) 1))) (Mid.below HBB.out)) (Nat.lt_succ_self _) _, _, by rw [HX.out, HS6.out]; exact IR.add HI6.out hblo hb2 (by omega) hwl hB2.size HO1.out HBB.out⟩
                  exact AllReady.nil
                exact AllReady.nil
              exact AllReady.nil
            refine AllReady.cons rfl (fun K hK => ?_) ?_
            · go_simp
              (try simp only [Act.put, List.setIfInBounds_toArray, List.set_cons_zero, List.set_cons_succ])
              refine hK _ _ ?_
              clear hK K
              refine wpAny_ready (rs := [0]) (by kernel_rfl) (by simp) ?_
              refine AllReady.cons rfl (fun K hK => ?_) ?_
              · go_simp
                (try simp only [Act.put, List.setIfInBounds_toArray, List.set_cons_zero, List.set_cons_succ])
                refine hK _ _ ?_
                clear hK K
                refine wpAny_ready (rs := [10]) (by kernel_rfl) (by simp) ?_
                refine AllReady.cons (o := { dst := some 69, op := Go.Op.call { callee := Go.Callee.builtin Go.Builtin.append, args := #[Go.Operand.tmp 59, Go.Operand.tmp 68], argTypes := #[56, 56] }, type := 56, pos := "span.go:59", after := #[{ on := 0, ground := Go.Ground.data }, { on := 9, ground := Go.Ground.data }], guard := none }) rfl (fun K hK => ?_) ?_
                · refine Kd.R_append_step kSpn (w0 := w6.drew) (W := w6.drew) w2.heap.size (by rfl) (.tmp 59) (.tmp 68) 56 63 (.agg #[.int .i64 0, .int .i64 0, .int .i64 0, .int .i64 0]) 32 rfl Try.underlying56 infoSpn rfl (by decide) (by omega) _ _ ⟨x.1, x.2, s.f2, 0⟩ [.int .i64 x.1, .int .i64 x.2, .int .i64 s.f2, .int .i64 0] (fun _ => True) (fun _ => False) (by simp [Act.eval]) (by simp [Act.eval]) (k63_mkM _ _ _ _) (fun _ hk => hk.elim) (fun _ _ => trivial) (Kd.R_drew HI6.out.row) (Below.refl _ _) HI6.out.sz ?aL_ ?_; (case aL_ => have := hlt; have := hpl'; omega); intro v1 w1 ho hb hg hat; obtain ⟨A3, c3, hv1, _, _⟩ := Kd.R_reads ho; rw [List.length_append] at hv1; subst hv1; have HO1 := Aside0.mk ho; have HBB := Aside0.mk hb; have HGG := Aside0.mk hg; clear ho hb hg hat; have hck := blk_cell ((HBB.out.block w'.heap.size hb2).trans HI6.out.box); have hfz := blk_frozen ((HBB.out.block w'.heap.size hb2).trans HI6.out.box)
                  (try simp only [Act.put, List.setIfInBounds_toArray, List.set_cons_zero, List.set_cons_succ])
                  refine hK _ _ ?_
                  clear hK K
                  refine wpAny_ready (rs := [11]) (by kernel_rfl) (by simp) ?_
                  refine AllReady.cons rfl (fun K hK => ?_) ?_
                  · go_simp
                    (try simp only [Act.put, List.setIfInBounds_toArray, List.set_cons_zero, List.set_cons_succ])
                    refine hK _ _ ?_
                    clear hK K
                    refine wpAny_done (by kernel_rfl) ?_ _
                    exact ⟨(KeepsFrom.trans (show KeepsFrom _ _ w6.drew from ⟨HK6.out.size, HK6.out.same⟩) (KeepsFrom.row (Kd.R_drew HI6.out.row) HGG.out)).trans ((KeepsOthers.setCell _ _ _).from _), Mid.set (Mid.trans (Mid.trans HM6.out (Mid.below (pw_below_drewN (Below.refl _ _) 1))) (Mid.below HBB.out)) (Nat.lt_succ_self _) _, _, by rw [HX.out, HS6.out]; exact IR.add HI6.out hblo hb2 (by omega) hwl hB2.size HO1.out HBB.out⟩
                  exact AllReady.nil
                exact AllReady.nil
              exact AllReady.nil
            exact AllReady.nil
          exact AllReady.nil
        exact AllReady.nil
      · obtain ⟨gb, cc, he', _, _, _⟩ := R_some HI3.out.row (by omega)
        injection he' with he1 he2 he3
        subst he1 he3
        obtain ⟨L, hL⟩ : ∃ L, L = out.length := ⟨_, rfl⟩
        obtain ⟨m, hm⟩ : ∃ m, L = m + 1 := ⟨L - 1, by omega⟩
        have HL' := Aside0.mk hL
        have HMM := Aside0.mk hm
        have hgb := Aside0.mk (Kd.R_base HI3.out.row gb rfl)
        have HI3' := HI3
        have HC3 : Aside0 (Kd.C kSpn w3 (some ⟨gb, 0, none⟩) L out) := ⟨by obtain ⟨_, _, he, _, hc⟩ := Kd.R_reads HI3.out.row; injection he with he _ _; subst he; rw [hL]; exact hc⟩
        have hpl' : out.length ≤ pre.length := hpl
        rw [← hL] at HI3 hcb hpl
        have HY : Aside0 (∀ w', Below w3.heap.size w3 w' → ∃ ad', (some ⟨gb, 0, none⟩ : Option Addr) = some ad' ∧ w'.cell? (ad'.add (m * 4)) = some (.int .i64 (rdS out m).f0) ∧ w'.cell? ⟨(ad'.add (m * 4)).block, (ad'.add (m * 4)).off + 1, none⟩ = some (.int .i64 (rdS out m).f1) ∧ w'.cell? ⟨(ad'.add (m * 4)).block, (ad'.add (m * 4)).off + 2, none⟩ = some (.int .i64 (rdS out m).f2) ∧ w'.cell? ⟨(ad'.add (m * 4)).block, (ad'.add (m * 4)).off + 3, none⟩ = some (.int .i64 (rdS out m).f3)) :=
          ⟨fun w' hw' => at_Spn (Kd.C_below HC3.out hw') m (by omega)⟩
        have HY0 : Aside0 (out.length = m + 1) := ⟨by omega⟩
        obtain ⟨y, hy⟩ : ∃ y, y = rdS out m := ⟨_, rfl⟩
        have HYY := Aside0.mk hy
        rw [← hy] at HY
        have hm0 : (0 : Int) ≤ (m : Int) := by omega
        have hm1 : (m : Int) < (L : Int) := by omega
        have hw1 : IntKind.i64.wrap ((L : Int) - 1) = (m : Int) := by rw [IntKind.wrap_i64]; omega
        have hge : decide ((m : Int) < 0) = false := by simp
        obtain ⟨ga, hga⟩ : ∃ ga, ga = (⟨gb, 0, none⟩ : Addr) := ⟨_, rfl⟩
        have HGA := Aside0.mk hga
        rw [← hga] at HI3 hcb HY HC3
        clear hL hm hy hq hpl hlc he2 hga
        gi_wp2
        cases hq1 : (y.f1 == x.1)
        · refine wpIn_region_wq (ro := some l) (fun W' => Below w3.heap.size w3 W') (by kernel_rfl) (by kernel_rfl) (by kernel_rfl) (by rintro ⟨_, _, h⟩; exact h) (pw_below_drewN (Below.refl _ _) 1) ?_
          refine WQ.val (by rfl) (fun w => by first | (go_simp; done) | (go_simp; rfl)) ?_; (try simp only [Act.put, List.setIfInBounds_toArray, List.set_cons_zero, List.set_cons_succ])
          refine WQ.val (by rfl) (fun w => by first | (go_simp; done) | (go_simp; rfl)) ?_; (try simp only [Act.put, List.setIfInBounds_toArray, List.set_cons_zero, List.set_cons_succ])
          refine WQ.val (by rfl) (fun w => by first | (go_simp; done) | (go_simp; rfl)) ?_; (try simp only [Act.put, List.setIfInBounds_toArray, List.set_cons_zero, List.set_cons_succ])
          refine WQ.read (v := .slice (some ga) L c2) (by rfl) (fun w' hw' => by have hc := blk_cell (blk_step HI3.out.box hw'); first | (go_simp; done) | (go_simp; rfl)) ?_; (try simp only [Act.put, List.setIfInBounds_toArray, List.set_cons_zero, List.set_cons_succ])
          refine WQ.val (by rfl) (fun w => by first | (go_simp; done) | (go_simp; rfl)) ?_; (try simp only [Act.put, List.setIfInBounds_toArray, List.set_cons_zero, List.set_cons_succ])
          refine WQ.val (by rfl) (fun w => by first | (go_simp; done) | (go_simp; rfl)) ?_; (try simp only [Act.put, List.setIfInBounds_toArray, List.set_cons_zero, List.set_cons_succ])
          refine WQ.val (by rfl) (fun w => by first | (go_simp; done) | (go_simp; rfl)) ?_; (try simp only [Act.put, List.setIfInBounds_toArray, List.set_cons_zero, List.set_cons_succ])
          refine WQ.read (v := .int .i64 y.f1) (by rfl) (fun w' hw' => by obtain ⟨ad', e', hd0, hd1, hd2, hd3⟩ := HY.out w' hw'; injection e' with e'; subst e'; first | (go_simp; done) | (go_simp; rfl)) ?_; (try simp only [Act.put, List.setIfInBounds_toArray, List.set_cons_zero, List.set_cons_succ])
          refine WQ.val (by rfl) (fun w => by first | (go_simp; done) | (go_simp; rfl)) ?_; (try simp only [Act.put, List.setIfInBounds_toArray, List.set_cons_zero, List.set_cons_succ])
          refine WQ.val (by rfl) (fun w => by first | (go_simp; done) | (go_simp; rfl)) ?_; (try simp only [Act.put, List.setIfInBounds_toArray, List.set_cons_zero, List.set_cons_succ])
          refine WQ.val (by rfl) (fun w => by first | (go_simp; done) | (go_simp; rfl)) ?_; (try simp only [Act.put, List.setIfInBounds_toArray, List.set_cons_zero, List.set_cons_succ])
          refine WQ.val (by rfl) (fun w => by first | (go_simp; done) | (go_simp; rfl)) ?_; (try simp only [Act.put, List.setIfInBounds_toArray, List.set_cons_zero, List.set_cons_succ])
          refine WQ.off (by rfl) ?_; (try simp only [Act.put, List.setIfInBounds_toArray, List.set_cons_zero, List.set_cons_succ])
          refine WQ.off (by rfl) ?_; (try simp only [Act.put, List.setIfInBounds_toArray, List.set_cons_zero, List.set_cons_succ])
          refine WQ.off (by rfl) ?_; (try simp only [Act.put, List.setIfInBounds_toArray, List.set_cons_zero, List.set_cons_succ])
          refine WQ.off (by rfl) ?_; (try simp only [Act.put, List.setIfInBounds_toArray, List.set_cons_zero, List.set_cons_succ])
          refine WQ.off (by rfl) ?_; (try simp only [Act.put, List.setIfInBounds_toArray, List.set_cons_zero, List.set_cons_succ])
          refine WQ.off (by rfl) ?_; (try simp only [Act.put, List.setIfInBounds_toArray, List.set_cons_zero, List.set_cons_succ])
          refine WQ.off (by rfl) ?_; (try simp only [Act.put, List.setIfInBounds_toArray, List.set_cons_zero, List.set_cons_succ])
          refine WQ.off (by rfl) ?_; (try simp only [Act.put, List.setIfInBounds_toArray, List.set_cons_zero, List.set_cons_succ])
          refine WQ.off (by rfl) ?_; (try simp only [Act.put, List.setIfInBounds_toArray, List.set_cons_zero, List.set_cons_succ])
          refine WQ.off (by rfl) ?_; (try simp only [Act.put, List.setIfInBounds_toArray, List.set_cons_zero, List.set_cons_succ])
          refine WQ.off (by rfl) ?_; (try simp only [Act.put, List.setIfInBounds_toArray, List.set_cons_zero, List.set_cons_succ])
          refine WQ.val (by rfl) (fun w => by first | (go_simp; done) | (go_simp; rfl)) ?_; (try simp only [Act.put, List.setIfInBounds_toArray, List.set_cons_zero, List.set_cons_succ])
          refine WQ.nil ?_
          intro w6 hw6
          have HS6 : Aside0 (stepR xs out x.1 x.2 = out ++ [⟨x.1, x.2, s.f2, 0⟩]) := ⟨stepR_more HWT.out HY0.out (by rw [← HYY.out]; rintro ⟨h, _⟩; simp [h] at hq1)⟩
          clear hq1 hm0 hm1 hw1 hge
          have HI6 := Aside0.mk (HI3.out.step hw6)
          have HK6 := Aside0.mk (KeepsFrom.trans HK3.out (keepsFrom_below hw6))
          have HM6 := Aside0.mk (Mid.trans HM3.out (Mid.of_below HI3.out.sz hw6))
          obtain ⟨ad, e', hd0, hd1, hd2, hd3⟩ := HL.out w6 hw6
          injection e' with e'
          subst e'
          clear hcb hcl HI3 HK3 HM3 HL hw6 HWT
          have hcb := blk_cell HI6.out.box
          have hcl := blk_cell HI6.out.lb
          have hb6 := blk_lt HI6.out.box
          have hl6 := blk_lt HI6.out.lb
          have hblo : w.heap.size ≠ w'.heap.size := by omega
          have hwl : w.heap.size ≤ w'.heap.size := by omega
          have hu63 := Try.underlying63
          have hu56 := Try.underlying56
          gi_wp2
          refine wpIn_any_round (ro := some l) (by kernel_rfl) (by kernel_rfl) (by rintro ⟨_, _, h⟩; exact h) ?_
          change wpAny _ _ _ _ _ _ _ (World.drew _)
          refine wpAny_take (i := 1) (v := ?v_11) rfl (by kernel_rfl) (by kernel_rfl) (by kernel_rfl) (fun _ _ _ h => h) (Or.inl ⟨by rfl, ?hy_11⟩) ?_
          (case hy_11 => (intro w_; first | (go_simp; done) | (go_simp; with_reducible rfl)))
          (try simp only [Act.put, List.setIfInBounds_toArray, List.set_cons_zero, List.set_cons_succ])
          refine wpAny_take (i := 2) (v := ?v_12) rfl (by kernel_rfl) (by kernel_rfl) (by kernel_rfl) (fun _ _ _ h => h) (Or.inl ⟨by rfl, ?hy_12⟩) ?_
          (case hy_12 => (intro w_; first | (go_simp; done) | (go_simp; with_reducible rfl)))
          (try simp only [Act.put, List.setIfInBounds_toArray, List.set_cons_zero, List.set_cons_succ])
          refine wpAny_take (i := 4) (v := ?v_13) rfl (by kernel_rfl) (by kernel_rfl) (by kernel_rfl) (fun _ _ _ h => h) (Or.inl ⟨by rfl, ?hy_13⟩) ?_
          (case hy_13 => (intro w_; first | (go_simp; done) | (go_simp; with_reducible rfl)))
          (try simp only [Act.put, List.setIfInBounds_toArray, List.set_cons_zero, List.set_cons_succ])
          refine wpAny_ready (rs := [0, 3]) (by kernel_rfl) (by simp) ?_
          refine AllReady.cons rfl (fun K hK => ?_) ?_
          · go_simp
            (try simp only [Act.put, List.setIfInBounds_toArray, List.set_cons_zero, List.set_cons_succ])
            refine hK _ _ ?_
            clear hK K
            refine wpAny_ready (rs := [3]) (by kernel_rfl) (by simp) ?_
            refine AllReady.cons rfl (fun K hK => ?_) ?_
            · go_simp
              (try simp only [Act.put, List.setIfInBounds_toArray, List.set_cons_zero, List.set_cons_succ])
              refine hK _ _ ?_
              clear hK K
              refine wpAny_take (i := 5) (v := ?v_14) rfl (by kernel_rfl) (by kernel_rfl) (by kernel_rfl) (fun _ _ _ h => h) (Or.inl ⟨by rfl, ?hy_14⟩) ?_
              (case hy_14 => (intro w_; first | (go_simp; done) | (go_simp; with_reducible rfl)))
              (try simp only [Act.put, List.setIfInBounds_toArray, List.set_cons_zero, List.set_cons_succ])
              refine wpAny_take (i := 6) (v := ?v_15) rfl (by kernel_rfl) (by kernel_rfl) (by kernel_rfl) (fun _ _ _ h => h) (Or.inl ⟨by rfl, ?hy_15⟩) ?_
              (case hy_15 => (intro w_; first | (go_simp; done) | (go_simp; with_reducible rfl)))
              (try simp only [Act.put, List.setIfInBounds_toArray, List.set_cons_zero, List.set_cons_succ])
              refine wpAny_ready (rs := [7]) (by kernel_rfl) (by simp) ?_
              refine AllReady.cons rfl (fun K hK => ?_) ?_
              · go_simp
                (try simp only [Act.put, List.setIfInBounds_toArray, List.set_cons_zero, List.set_cons_succ])
                refine hK _ _ ?_
                clear hK K
                refine wpAny_take (i := 8) (v := ?v_16) rfl (by kernel_rfl) (by kernel_rfl) (by kernel_rfl) (fun _ _ _ h => h) (Or.inl ⟨by rfl, ?hy_16⟩) ?_
                (case hy_16 => (intro w_; first | (go_simp; done) | (go_simp; with_reducible rfl)))
                (try simp only [Act.put, List.setIfInBounds_toArray, List.set_cons_zero, List.set_cons_succ])
                refine wpAny_ready (rs := [9]) (by kernel_rfl) (by simp) ?_
                refine AllReady.cons rfl (fun K hK => ?_) ?_
                · go_simp
                  (try simp only [Act.put, List.setIfInBounds_toArray, List.set_cons_zero, List.set_cons_succ])
                  refine hK _ _ ?_
                  clear hK K
                  refine wpAny_ready (rs := [10]) (by kernel_rfl) (by simp) ?_
                  refine AllReady.cons (o := { dst := some 69, op := Go.Op.call { callee := Go.Callee.builtin Go.Builtin.append, args := #[Go.Operand.tmp 59, Go.Operand.tmp 68], argTypes := #[56, 56] }, type := 56, pos := "span.go:59", after := #[{ on := 0, ground := Go.Ground.data }, { on := 9, ground := Go.Ground.data }], guard := none }) rfl (fun K hK => ?_) ?_
                  · refine Kd.R_append_step kSpn (w0 := w6.drew) (W := w6.drew) w2.heap.size (by rfl) (.tmp 59) (.tmp 68) 56 63 (.agg #[.int .i64 0, .int .i64 0, .int .i64 0, .int .i64 0]) 32 rfl Try.underlying56 infoSpn rfl (by decide) (by omega) _ _ ⟨x.1, x.2, s.f2, 0⟩ [.int .i64 x.1, .int .i64 x.2, .int .i64 s.f2, .int .i64 0] (fun _ => True) (fun _ => False) (by simp [Act.eval]) (by simp [Act.eval]) (k63_mkM _ _ _ _) (fun _ hk => hk.elim) (fun _ _ => trivial) (Kd.R_drew HI6.out.row) (Below.refl _ _) HI6.out.sz ?aL_ ?_; (case aL_ => have := hlt; have := hpl'; omega); intro v1 w1 ho hb hg hat; obtain ⟨A3, c3, hv1, _, _⟩ := Kd.R_reads ho; rw [List.length_append] at hv1; subst hv1; have HO1 := Aside0.mk ho; have HBB := Aside0.mk hb; have HGG := Aside0.mk hg; clear ho hb hg hat; have hck := blk_cell ((HBB.out.block w'.heap.size hb2).trans HI6.out.box); have hfz := blk_frozen ((HBB.out.block w'.heap.size hb2).trans HI6.out.box)
                    (try simp only [Act.put, List.setIfInBounds_toArray, List.set_cons_zero, List.set_cons_succ])
                    refine hK _ _ ?_
                    clear hK K
                    refine wpAny_ready (rs := [11]) (by kernel_rfl) (by simp) ?_
                    refine AllReady.cons rfl (fun K hK => ?_) ?_
                    · go_simp
                      (try simp only [Act.put, List.setIfInBounds_toArray, List.set_cons_zero, List.set_cons_succ])
                      refine hK _ _ ?_
                      clear hK K
                      refine wpAny_done (by kernel_rfl) ?_ _
                      exact ⟨(KeepsFrom.trans (show KeepsFrom _ _ w6.drew from ⟨HK6.out.size, HK6.out.same⟩) (KeepsFrom.row (Kd.R_drew HI6.out.row) HGG.out)).trans ((KeepsOthers.setCell _ _ _).from _), Mid.set (Mid.trans (Mid.trans HM6.out (Mid.below (pw_below_drewN (Below.refl _ _) 1))) (Mid.below HBB.out)) (Nat.lt_succ_self _) _, _, by rw [HX.out, HS6.out]; exact IR.add HI6.out hblo hb2 (by omega) hwl hB2.size HO1.out HBB.out⟩
                    exact AllReady.nil
                  exact AllReady.nil
                exact AllReady.nil
              exact AllReady.nil
            exact AllReady.nil
          refine AllReady.cons rfl (fun K hK => ?_) ?_
          · go_simp
            (try simp only [Act.put, List.setIfInBounds_toArray, List.set_cons_zero, List.set_cons_succ])
            refine hK _ _ ?_
            clear hK K
            refine wpAny_take (i := 5) (v := ?v_17) rfl (by kernel_rfl) (by kernel_rfl) (by kernel_rfl) (fun _ _ _ h => h) (Or.inl ⟨by rfl, ?hy_17⟩) ?_
            (case hy_17 => (intro w_; first | (go_simp; done) | (go_simp; with_reducible rfl)))
            (try simp only [Act.put, List.setIfInBounds_toArray, List.set_cons_zero, List.set_cons_succ])
            refine wpAny_take (i := 6) (v := ?v_18) rfl (by kernel_rfl) (by kernel_rfl) (by kernel_rfl) (fun _ _ _ h => h) (Or.inl ⟨by rfl, ?hy_18⟩) ?_
            (case hy_18 => (intro w_; first | (go_simp; done) | (go_simp; with_reducible rfl)))
            (try simp only [Act.put, List.setIfInBounds_toArray, List.set_cons_zero, List.set_cons_succ])
            refine wpAny_ready (rs := [0, 7]) (by kernel_rfl) (by simp) ?_
            refine AllReady.cons rfl (fun K hK => ?_) ?_
            · go_simp
              (try simp only [Act.put, List.setIfInBounds_toArray, List.set_cons_zero, List.set_cons_succ])
              refine hK _ _ ?_
              clear hK K
              refine wpAny_ready (rs := [7]) (by kernel_rfl) (by simp) ?_
              refine AllReady.cons rfl (fun K hK => ?_) ?_
              · go_simp
                (try simp only [Act.put, List.setIfInBounds_toArray, List.set_cons_zero, List.set_cons_succ])
                refine hK _ _ ?_
                clear hK K
                refine wpAny_take (i := 8) (v := ?v_19) rfl (by kernel_rfl) (by kernel_rfl) (by kernel_rfl) (fun _ _ _ h => h) (Or.inl ⟨by rfl, ?hy_19⟩) ?_
                (case hy_19 => (intro w_; first | (go_simp; done) | (go_simp; with_reducible rfl)))
                (try simp only [Act.put, List.setIfInBounds_toArray, List.set_cons_zero, List.set_cons_succ])
                refine wpAny_ready (rs := [9]) (by kernel_rfl) (by simp) ?_
                refine AllReady.cons rfl (fun K hK => ?_) ?_
                · go_simp
                  (try simp only [Act.put, List.setIfInBounds_toArray, List.set_cons_zero, List.set_cons_succ])
                  refine hK _ _ ?_
                  clear hK K
                  refine wpAny_ready (rs := [10]) (by kernel_rfl) (by simp) ?_
                  refine AllReady.cons (o := { dst := some 69, op := Go.Op.call { callee := Go.Callee.builtin Go.Builtin.append, args := #[Go.Operand.tmp 59, Go.Operand.tmp 68], argTypes := #[56, 56] }, type := 56, pos := "span.go:59", after := #[{ on := 0, ground := Go.Ground.data }, { on := 9, ground := Go.Ground.data }], guard := none }) rfl (fun K hK => ?_) ?_
                  · refine Kd.R_append_step kSpn (w0 := w6.drew) (W := w6.drew) w2.heap.size (by rfl) (.tmp 59) (.tmp 68) 56 63 (.agg #[.int .i64 0, .int .i64 0, .int .i64 0, .int .i64 0]) 32 rfl Try.underlying56 infoSpn rfl (by decide) (by omega) _ _ ⟨x.1, x.2, s.f2, 0⟩ [.int .i64 x.1, .int .i64 x.2, .int .i64 s.f2, .int .i64 0] (fun _ => True) (fun _ => False) (by simp [Act.eval]) (by simp [Act.eval]) (k63_mkM _ _ _ _) (fun _ hk => hk.elim) (fun _ _ => trivial) (Kd.R_drew HI6.out.row) (Below.refl _ _) HI6.out.sz ?aL_ ?_; (case aL_ => have := hlt; have := hpl'; omega); intro v1 w1 ho hb hg hat; obtain ⟨A3, c3, hv1, _, _⟩ := Kd.R_reads ho; rw [List.length_append] at hv1; subst hv1; have HO1 := Aside0.mk ho; have HBB := Aside0.mk hb; have HGG := Aside0.mk hg; clear ho hb hg hat; have hck := blk_cell ((HBB.out.block w'.heap.size hb2).trans HI6.out.box); have hfz := blk_frozen ((HBB.out.block w'.heap.size hb2).trans HI6.out.box)
                    (try simp only [Act.put, List.setIfInBounds_toArray, List.set_cons_zero, List.set_cons_succ])
                    refine hK _ _ ?_
                    clear hK K
                    refine wpAny_ready (rs := [11]) (by kernel_rfl) (by simp) ?_
                    refine AllReady.cons rfl (fun K hK => ?_) ?_
                    · go_simp
                      (try simp only [Act.put, List.setIfInBounds_toArray, List.set_cons_zero, List.set_cons_succ])
                      refine hK _ _ ?_
                      clear hK K
                      refine wpAny_done (by kernel_rfl) ?_ _
                      exact ⟨(KeepsFrom.trans (show KeepsFrom _ _ w6.drew from ⟨HK6.out.size, HK6.out.same⟩) (KeepsFrom.row (Kd.R_drew HI6.out.row) HGG.out)).trans ((KeepsOthers.setCell _ _ _).from _), Mid.set (Mid.trans (Mid.trans HM6.out (Mid.below (pw_below_drewN (Below.refl _ _) 1))) (Mid.below HBB.out)) (Nat.lt_succ_self _) _, _, by rw [HX.out, HS6.out]; exact IR.add HI6.out hblo hb2 (by omega) hwl hB2.size HO1.out HBB.out⟩
                    exact AllReady.nil
                  exact AllReady.nil
                exact AllReady.nil
              exact AllReady.nil
            refine AllReady.cons rfl (fun K hK => ?_) ?_
            · go_simp
              (try simp only [Act.put, List.setIfInBounds_toArray, List.set_cons_zero, List.set_cons_succ])
              refine hK _ _ ?_
              clear hK K
              refine wpAny_take (i := 8) (v := ?v_20) rfl (by kernel_rfl) (by kernel_rfl) (by kernel_rfl) (fun _ _ _ h => h) (Or.inl ⟨by rfl, ?hy_20⟩) ?_
              (case hy_20 => (intro w_; first | (go_simp; done) | (go_simp; with_reducible rfl)))
              (try simp only [Act.put, List.setIfInBounds_toArray, List.set_cons_zero, List.set_cons_succ])
              refine wpAny_ready (rs := [0, 9]) (by kernel_rfl) (by simp) ?_
              refine AllReady.cons rfl (fun K hK => ?_) ?_
              · go_simp
                (try simp only [Act.put, List.setIfInBounds_toArray, List.set_cons_zero, List.set_cons_succ])
                refine hK _ _ ?_
                clear hK K
                refine wpAny_ready (rs := [9]) (by kernel_rfl) (by simp) ?_
                refine AllReady.cons rfl (fun K hK => ?_) ?_
                · go_simp
                  (try simp only [Act.put, List.setIfInBounds_toArray, List.set_cons_zero, List.set_cons_succ])
                  refine hK _ _ ?_
                  clear hK K
                  refine wpAny_ready (rs := [10]) (by kernel_rfl) (by simp) ?_
                  refine AllReady.cons (o := { dst := some 69, op := Go.Op.call { callee := Go.Callee.builtin Go.Builtin.append, args := #[Go.Operand.tmp 59, Go.Operand.tmp 68], argTypes := #[56, 56] }, type := 56, pos := "span.go:59", after := #[{ on := 0, ground := Go.Ground.data }, { on := 9, ground := Go.Ground.data }], guard := none }) rfl (fun K hK => ?_) ?_
                  · refine Kd.R_append_step kSpn (w0 := w6.drew) (W := w6.drew) w2.heap.size (by rfl) (.tmp 59) (.tmp 68) 56 63 (.agg #[.int .i64 0, .int .i64 0, .int .i64 0, .int .i64 0]) 32 rfl Try.underlying56 infoSpn rfl (by decide) (by omega) _ _ ⟨x.1, x.2, s.f2, 0⟩ [.int .i64 x.1, .int .i64 x.2, .int .i64 s.f2, .int .i64 0] (fun _ => True) (fun _ => False) (by simp [Act.eval]) (by simp [Act.eval]) (k63_mkM _ _ _ _) (fun _ hk => hk.elim) (fun _ _ => trivial) (Kd.R_drew HI6.out.row) (Below.refl _ _) HI6.out.sz ?aL_ ?_; (case aL_ => have := hlt; have := hpl'; omega); intro v1 w1 ho hb hg hat; obtain ⟨A3, c3, hv1, _, _⟩ := Kd.R_reads ho; rw [List.length_append] at hv1; subst hv1; have HO1 := Aside0.mk ho; have HBB := Aside0.mk hb; have HGG := Aside0.mk hg; clear ho hb hg hat; have hck := blk_cell ((HBB.out.block w'.heap.size hb2).trans HI6.out.box); have hfz := blk_frozen ((HBB.out.block w'.heap.size hb2).trans HI6.out.box)
                    (try simp only [Act.put, List.setIfInBounds_toArray, List.set_cons_zero, List.set_cons_succ])
                    refine hK _ _ ?_
                    clear hK K
                    refine wpAny_ready (rs := [11]) (by kernel_rfl) (by simp) ?_
                    refine AllReady.cons rfl (fun K hK => ?_) ?_
                    · go_simp
                      (try simp only [Act.put, List.setIfInBounds_toArray, List.set_cons_zero, List.set_cons_succ])
                      refine hK _ _ ?_
                      clear hK K
                      refine wpAny_done (by kernel_rfl) ?_ _
                      exact ⟨(KeepsFrom.trans (show KeepsFrom _ _ w6.drew from ⟨HK6.out.size, HK6.out.same⟩) (KeepsFrom.row (Kd.R_drew HI6.out.row) HGG.out)).trans ((KeepsOthers.setCell _ _ _).from _), Mid.set (Mid.trans (Mid.trans HM6.out (Mid.below (pw_below_drewN (Below.refl _ _) 1))) (Mid.below HBB.out)) (Nat.lt_succ_self _) _, _, by rw [HX.out, HS6.out]; exact IR.add HI6.out hblo hb2 (by omega) hwl hB2.size HO1.out HBB.out⟩
                    exact AllReady.nil
                  exact AllReady.nil
                exact AllReady.nil
              refine AllReady.cons rfl (fun K hK => ?_) ?_
              · go_simp
                (try simp only [Act.put, List.setIfInBounds_toArray, List.set_cons_zero, List.set_cons_succ])
                refine hK _ _ ?_
                clear hK K
                refine wpAny_ready (rs := [0]) (by kernel_rfl) (by simp) ?_
                refine AllReady.cons rfl (fun K hK => ?_) ?_
                · go_simp
                  (try simp only [Act.put, List.setIfInBounds_toArray, List.set_cons_zero, List.set_cons_succ])
                  refine hK _ _ ?_
                  clear hK K
                  refine wpAny_ready (rs := [10]) (by kernel_rfl) (by simp) ?_
                  refine AllReady.cons (o := { dst := some 69, op := Go.Op.call { callee := Go.Callee.builtin Go.Builtin.append, args := #[Go.Operand.tmp 59, Go.Operand.tmp 68], argTypes := #[56, 56] }, type := 56, pos := "span.go:59", after := #[{ on := 0, ground := Go.Ground.data }, { on := 9, ground := Go.Ground.data }], guard := none }) rfl (fun K hK => ?_) ?_
                  · refine Kd.R_append_step kSpn (w0 := w6.drew) (W := w6.drew) w2.heap.size (by rfl) (.tmp 59) (.tmp 68) 56 63 (.agg #[.int .i64 0, .int .i64 0, .int .i64 0, .int .i64 0]) 32 rfl Try.underlying56 infoSpn rfl (by decide) (by omega) _ _ ⟨x.1, x.2, s.f2, 0⟩ [.int .i64 x.1, .int .i64 x.2, .int .i64 s.f2, .int .i64 0] (fun _ => True) (fun _ => False) (by simp [Act.eval]) (by simp [Act.eval]) (k63_mkM _ _ _ _) (fun _ hk => hk.elim) (fun _ _ => trivial) (Kd.R_drew HI6.out.row) (Below.refl _ _) HI6.out.sz ?aL_ ?_; (case aL_ => have := hlt; have := hpl'; omega); intro v1 w1 ho hb hg hat; obtain ⟨A3, c3, hv1, _, _⟩ := Kd.R_reads ho; rw [List.length_append] at hv1; subst hv1; have HO1 := Aside0.mk ho; have HBB := Aside0.mk hb; have HGG := Aside0.mk hg; clear ho hb hg hat; have hck := blk_cell ((HBB.out.block w'.heap.size hb2).trans HI6.out.box); have hfz := blk_frozen ((HBB.out.block w'.heap.size hb2).trans HI6.out.box)
                    (try simp only [Act.put, List.setIfInBounds_toArray, List.set_cons_zero, List.set_cons_succ])
                    refine hK _ _ ?_
                    clear hK K
                    refine wpAny_ready (rs := [11]) (by kernel_rfl) (by simp) ?_
                    refine AllReady.cons rfl (fun K hK => ?_) ?_
                    · go_simp
                      (try simp only [Act.put, List.setIfInBounds_toArray, List.set_cons_zero, List.set_cons_succ])
                      refine hK _ _ ?_
                      clear hK K
                      refine wpAny_done (by kernel_rfl) ?_ _
                      exact ⟨(KeepsFrom.trans (show KeepsFrom _ _ w6.drew from ⟨HK6.out.size, HK6.out.same⟩) (KeepsFrom.row (Kd.R_drew HI6.out.row) HGG.out)).trans ((KeepsOthers.setCell _ _ _).from _), Mid.set (Mid.trans (Mid.trans HM6.out (Mid.below (pw_below_drewN (Below.refl _ _) 1))) (Mid.below HBB.out)) (Nat.lt_succ_self _) _, _, by rw [HX.out, HS6.out]; exact IR.add HI6.out hblo hb2 (by omega) hwl hB2.size HO1.out HBB.out⟩
                    exact AllReady.nil
                  exact AllReady.nil
                exact AllReady.nil
              exact AllReady.nil
            exact AllReady.nil
          exact AllReady.nil
        · cases hq2 : (y.f2 == s.f2)
          all_goals
            refine wpIn_region_wq (ro := some l) (fun W' => Below w3.heap.size w3 W') (by kernel_rfl) (by kernel_rfl) (by kernel_rfl) (by rintro ⟨_, _, h⟩; exact h) (pw_below_drewN (Below.refl _ _) 1) ?_
            refine WQ.val (by rfl) (fun w => by first | (go_simp; done) | (go_simp; rfl)) ?_; (try simp only [Act.put, List.setIfInBounds_toArray, List.set_cons_zero, List.set_cons_succ])
            refine WQ.val (by rfl) (fun w => by first | (go_simp; done) | (go_simp; rfl)) ?_; (try simp only [Act.put, List.setIfInBounds_toArray, List.set_cons_zero, List.set_cons_succ])
            refine WQ.val (by rfl) (fun w => by first | (go_simp; done) | (go_simp; rfl)) ?_; (try simp only [Act.put, List.setIfInBounds_toArray, List.set_cons_zero, List.set_cons_succ])
            refine WQ.read (v := .slice (some ga) L c2) (by rfl) (fun w' hw' => by have hc := blk_cell (blk_step HI3.out.box hw'); first | (go_simp; done) | (go_simp; rfl)) ?_; (try simp only [Act.put, List.setIfInBounds_toArray, List.set_cons_zero, List.set_cons_succ])
            refine WQ.val (by rfl) (fun w => by first | (go_simp; done) | (go_simp; rfl)) ?_; (try simp only [Act.put, List.setIfInBounds_toArray, List.set_cons_zero, List.set_cons_succ])
            refine WQ.val (by rfl) (fun w => by first | (go_simp; done) | (go_simp; rfl)) ?_; (try simp only [Act.put, List.setIfInBounds_toArray, List.set_cons_zero, List.set_cons_succ])
            refine WQ.val (by rfl) (fun w => by first | (go_simp; done) | (go_simp; rfl)) ?_; (try simp only [Act.put, List.setIfInBounds_toArray, List.set_cons_zero, List.set_cons_succ])
            refine WQ.read (v := .int .i64 y.f1) (by rfl) (fun w' hw' => by obtain ⟨ad', e', hd0, hd1, hd2, hd3⟩ := HY.out w' hw'; injection e' with e'; subst e'; first | (go_simp; done) | (go_simp; rfl)) ?_; (try simp only [Act.put, List.setIfInBounds_toArray, List.set_cons_zero, List.set_cons_succ])
            refine WQ.val (by rfl) (fun w => by first | (go_simp; done) | (go_simp; rfl)) ?_; (try simp only [Act.put, List.setIfInBounds_toArray, List.set_cons_zero, List.set_cons_succ])
            refine WQ.val (by rfl) (fun w => by first | (go_simp; done) | (go_simp; rfl)) ?_; (try simp only [Act.put, List.setIfInBounds_toArray, List.set_cons_zero, List.set_cons_succ])
            refine WQ.val (by rfl) (fun w => by first | (go_simp; done) | (go_simp; rfl)) ?_; (try simp only [Act.put, List.setIfInBounds_toArray, List.set_cons_zero, List.set_cons_succ])
            refine WQ.val (by rfl) (fun w => by first | (go_simp; done) | (go_simp; rfl)) ?_; (try simp only [Act.put, List.setIfInBounds_toArray, List.set_cons_zero, List.set_cons_succ])
            refine WQ.read (v := .slice (some ga) L c2) (by rfl) (fun w' hw' => by have hc := blk_cell (blk_step HI3.out.box hw'); first | (go_simp; done) | (go_simp; rfl)) ?_; (try simp only [Act.put, List.setIfInBounds_toArray, List.set_cons_zero, List.set_cons_succ])
            refine WQ.val (by rfl) (fun w => by first | (go_simp; done) | (go_simp; rfl)) ?_; (try simp only [Act.put, List.setIfInBounds_toArray, List.set_cons_zero, List.set_cons_succ])
            refine WQ.val (by rfl) (fun w => by first | (go_simp; done) | (go_simp; rfl)) ?_; (try simp only [Act.put, List.setIfInBounds_toArray, List.set_cons_zero, List.set_cons_succ])
            refine WQ.val (by rfl) (fun w => by first | (go_simp; done) | (go_simp; rfl)) ?_; (try simp only [Act.put, List.setIfInBounds_toArray, List.set_cons_zero, List.set_cons_succ])
            refine WQ.read (v := .int .i64 y.f2) (by rfl) (fun w' hw' => by obtain ⟨ad', e', hd0, hd1, hd2, hd3⟩ := HY.out w' hw'; injection e' with e'; subst e'; first | (go_simp; done) | (go_simp; rfl)) ?_; (try simp only [Act.put, List.setIfInBounds_toArray, List.set_cons_zero, List.set_cons_succ])
            refine WQ.read (v := .slice (some adl) n cap) (by rfl) (fun w' hw' => by have hc := blk_cell (blk_step HI3.out.lb hw'); first | (go_simp; done) | (go_simp; rfl)) ?_; (try simp only [Act.put, List.setIfInBounds_toArray, List.set_cons_zero, List.set_cons_succ])
            refine WQ.val (by rfl) (fun w => by first | (go_simp; done) | (go_simp; rfl)) ?_; (try simp only [Act.put, List.setIfInBounds_toArray, List.set_cons_zero, List.set_cons_succ])
            refine WQ.val (by rfl) (fun w => by first | (go_simp; done) | (go_simp; rfl)) ?_; (try simp only [Act.put, List.setIfInBounds_toArray, List.set_cons_zero, List.set_cons_succ])
            refine WQ.val (by rfl) (fun w => by first | (go_simp; done) | (go_simp; rfl)) ?_; (try simp only [Act.put, List.setIfInBounds_toArray, List.set_cons_zero, List.set_cons_succ])
            refine WQ.read (v := .int .i64 s.f2) (by rfl) (fun w' hw' => by obtain ⟨ad', e', hd0, hd1, hd2, hd3⟩ := HL.out w' hw'; injection e' with e'; subst e'; first | (go_simp; done) | (go_simp; rfl)) ?_; (try simp only [Act.put, List.setIfInBounds_toArray, List.set_cons_zero, List.set_cons_succ])
            refine WQ.val (by rfl) (fun w => by first | (go_simp; done) | (go_simp; rfl)) ?_; (try simp only [Act.put, List.setIfInBounds_toArray, List.set_cons_zero, List.set_cons_succ])
            refine WQ.val (by rfl) (fun w => by first | (go_simp; done) | (go_simp; rfl)) ?_; (try simp only [Act.put, List.setIfInBounds_toArray, List.set_cons_zero, List.set_cons_succ])
            refine WQ.nil ?_
            intro w6 hw6
          · have HS6 : Aside0 (stepR xs out x.1 x.2 = out ++ [⟨x.1, x.2, s.f2, 0⟩]) := ⟨stepR_more HWT.out HY0.out (by rw [← HYY.out]; rintro ⟨_, h⟩; simp [h] at hq2)⟩
            clear hq1 hq2 hm0 hm1 hw1 hge
            have HI6 := Aside0.mk (HI3.out.step hw6)
            have HK6 := Aside0.mk (KeepsFrom.trans HK3.out (keepsFrom_below hw6))
            have HM6 := Aside0.mk (Mid.trans HM3.out (Mid.of_below HI3.out.sz hw6))
            obtain ⟨ad, e', hd0, hd1, hd2, hd3⟩ := HL.out w6 hw6
            injection e' with e'
            subst e'
            clear hcb hcl HI3 HK3 HM3 HL hw6 HWT
            have hcb := blk_cell HI6.out.box
            have hcl := blk_cell HI6.out.lb
            have hb6 := blk_lt HI6.out.box
            have hl6 := blk_lt HI6.out.lb
            have hblo : w.heap.size ≠ w'.heap.size := by omega
            have hwl : w.heap.size ≤ w'.heap.size := by omega
            have hu63 := Try.underlying63
            have hu56 := Try.underlying56
            gi_wp2
            refine wpIn_any_round (ro := some l) (by kernel_rfl) (by kernel_rfl) (by rintro ⟨_, _, h⟩; exact h) ?_
            change wpAny _ _ _ _ _ _ _ (World.drew _)
            refine wpAny_take (i := 1) (v := ?v_21) rfl (by kernel_rfl) (by kernel_rfl) (by kernel_rfl) (fun _ _ _ h => h) (Or.inl ⟨by rfl, ?hy_21⟩) ?_
            (case hy_21 => (intro w_; first | (go_simp; done) | (go_simp; with_reducible rfl)))
            (try simp only [Act.put, List.setIfInBounds_toArray, List.set_cons_zero, List.set_cons_succ])
            refine wpAny_take (i := 2) (v := ?v_22) rfl (by kernel_rfl) (by kernel_rfl) (by kernel_rfl) (fun _ _ _ h => h) (Or.inl ⟨by rfl, ?hy_22⟩) ?_
            (case hy_22 => (intro w_; first | (go_simp; done) | (go_simp; with_reducible rfl)))
            (try simp only [Act.put, List.setIfInBounds_toArray, List.set_cons_zero, List.set_cons_succ])
            refine wpAny_take (i := 4) (v := ?v_23) rfl (by kernel_rfl) (by kernel_rfl) (by kernel_rfl) (fun _ _ _ h => h) (Or.inl ⟨by rfl, ?hy_23⟩) ?_
            (case hy_23 => (intro w_; first | (go_simp; done) | (go_simp; with_reducible rfl)))
            (try simp only [Act.put, List.setIfInBounds_toArray, List.set_cons_zero, List.set_cons_succ])
            refine wpAny_ready (rs := [0, 3]) (by kernel_rfl) (by simp) ?_
            refine AllReady.cons rfl (fun K hK => ?_) ?_
            · go_simp
              (try simp only [Act.put, List.setIfInBounds_toArray, List.set_cons_zero, List.set_cons_succ])
              refine hK _ _ ?_
              clear hK K
              refine wpAny_ready (rs := [3]) (by kernel_rfl) (by simp) ?_
              refine AllReady.cons rfl (fun K hK => ?_) ?_
              · go_simp
                (try simp only [Act.put, List.setIfInBounds_toArray, List.set_cons_zero, List.set_cons_succ])
                refine hK _ _ ?_
                clear hK K
                refine wpAny_take (i := 5) (v := ?v_24) rfl (by kernel_rfl) (by kernel_rfl) (by kernel_rfl) (fun _ _ _ h => h) (Or.inl ⟨by rfl, ?hy_24⟩) ?_
                (case hy_24 => (intro w_; first | (go_simp; done) | (go_simp; with_reducible rfl)))
                (try simp only [Act.put, List.setIfInBounds_toArray, List.set_cons_zero, List.set_cons_succ])
                refine wpAny_take (i := 6) (v := ?v_25) rfl (by kernel_rfl) (by kernel_rfl) (by kernel_rfl) (fun _ _ _ h => h) (Or.inl ⟨by rfl, ?hy_25⟩) ?_
                (case hy_25 => (intro w_; first | (go_simp; done) | (go_simp; with_reducible rfl)))
                (try simp only [Act.put, List.setIfInBounds_toArray, List.set_cons_zero, List.set_cons_succ])
                refine wpAny_ready (rs := [7]) (by kernel_rfl) (by simp) ?_
                refine AllReady.cons rfl (fun K hK => ?_) ?_
                · go_simp
                  (try simp only [Act.put, List.setIfInBounds_toArray, List.set_cons_zero, List.set_cons_succ])
                  refine hK _ _ ?_
                  clear hK K
                  refine wpAny_take (i := 8) (v := ?v_26) rfl (by kernel_rfl) (by kernel_rfl) (by kernel_rfl) (fun _ _ _ h => h) (Or.inl ⟨by rfl, ?hy_26⟩) ?_
                  (case hy_26 => (intro w_; first | (go_simp; done) | (go_simp; with_reducible rfl)))
                  (try simp only [Act.put, List.setIfInBounds_toArray, List.set_cons_zero, List.set_cons_succ])
                  refine wpAny_ready (rs := [9]) (by kernel_rfl) (by simp) ?_
                  refine AllReady.cons rfl (fun K hK => ?_) ?_
                  · go_simp
                    (try simp only [Act.put, List.setIfInBounds_toArray, List.set_cons_zero, List.set_cons_succ])
                    refine hK _ _ ?_
                    clear hK K
                    refine wpAny_ready (rs := [10]) (by kernel_rfl) (by simp) ?_
                    refine AllReady.cons (o := { dst := some 69, op := Go.Op.call { callee := Go.Callee.builtin Go.Builtin.append, args := #[Go.Operand.tmp 59, Go.Operand.tmp 68], argTypes := #[56, 56] }, type := 56, pos := "span.go:59", after := #[{ on := 0, ground := Go.Ground.data }, { on := 9, ground := Go.Ground.data }], guard := none }) rfl (fun K hK => ?_) ?_
                    · refine Kd.R_append_step kSpn (w0 := w6.drew) (W := w6.drew) w2.heap.size (by rfl) (.tmp 59) (.tmp 68) 56 63 (.agg #[.int .i64 0, .int .i64 0, .int .i64 0, .int .i64 0]) 32 rfl Try.underlying56 infoSpn rfl (by decide) (by omega) _ _ ⟨x.1, x.2, s.f2, 0⟩ [.int .i64 x.1, .int .i64 x.2, .int .i64 s.f2, .int .i64 0] (fun _ => True) (fun _ => False) (by simp [Act.eval]) (by simp [Act.eval]) (k63_mkM _ _ _ _) (fun _ hk => hk.elim) (fun _ _ => trivial) (Kd.R_drew HI6.out.row) (Below.refl _ _) HI6.out.sz ?aL_ ?_; (case aL_ => have := hlt; have := hpl'; omega); intro v1 w1 ho hb hg hat; obtain ⟨A3, c3, hv1, _, _⟩ := Kd.R_reads ho; rw [List.length_append] at hv1; subst hv1; have HO1 := Aside0.mk ho; have HBB := Aside0.mk hb; have HGG := Aside0.mk hg; clear ho hb hg hat; have hck := blk_cell ((HBB.out.block w'.heap.size hb2).trans HI6.out.box); have hfz := blk_frozen ((HBB.out.block w'.heap.size hb2).trans HI6.out.box)
                      (try simp only [Act.put, List.setIfInBounds_toArray, List.set_cons_zero, List.set_cons_succ])
                      refine hK _ _ ?_
                      clear hK K
                      refine wpAny_ready (rs := [11]) (by kernel_rfl) (by simp) ?_
                      refine AllReady.cons rfl (fun K hK => ?_) ?_
                      · go_simp
                        (try simp only [Act.put, List.setIfInBounds_toArray, List.set_cons_zero, List.set_cons_succ])
                        refine hK _ _ ?_
                        clear hK K
                        refine wpAny_done (by kernel_rfl) ?_ _
                        exact ⟨(KeepsFrom.trans (show KeepsFrom _ _ w6.drew from ⟨HK6.out.size, HK6.out.same⟩) (KeepsFrom.row (Kd.R_drew HI6.out.row) HGG.out)).trans ((KeepsOthers.setCell _ _ _).from _), Mid.set (Mid.trans (Mid.trans HM6.out (Mid.below (pw_below_drewN (Below.refl _ _) 1))) (Mid.below HBB.out)) (Nat.lt_succ_self _) _, _, by rw [HX.out, HS6.out]; exact IR.add HI6.out hblo hb2 (by omega) hwl hB2.size HO1.out HBB.out⟩
                      exact AllReady.nil
                    exact AllReady.nil
                  exact AllReady.nil
                exact AllReady.nil
              exact AllReady.nil
            refine AllReady.cons rfl (fun K hK => ?_) ?_
            · go_simp
              (try simp only [Act.put, List.setIfInBounds_toArray, List.set_cons_zero, List.set_cons_succ])
              refine hK _ _ ?_
              clear hK K
              refine wpAny_take (i := 5) (v := ?v_27) rfl (by kernel_rfl) (by kernel_rfl) (by kernel_rfl) (fun _ _ _ h => h) (Or.inl ⟨by rfl, ?hy_27⟩) ?_
              (case hy_27 => (intro w_; first | (go_simp; done) | (go_simp; with_reducible rfl)))
              (try simp only [Act.put, List.setIfInBounds_toArray, List.set_cons_zero, List.set_cons_succ])
              refine wpAny_take (i := 6) (v := ?v_28) rfl (by kernel_rfl) (by kernel_rfl) (by kernel_rfl) (fun _ _ _ h => h) (Or.inl ⟨by rfl, ?hy_28⟩) ?_
              (case hy_28 => (intro w_; first | (go_simp; done) | (go_simp; with_reducible rfl)))
              (try simp only [Act.put, List.setIfInBounds_toArray, List.set_cons_zero, List.set_cons_succ])
              refine wpAny_ready (rs := [0, 7]) (by kernel_rfl) (by simp) ?_
              refine AllReady.cons rfl (fun K hK => ?_) ?_
              · go_simp
                (try simp only [Act.put, List.setIfInBounds_toArray, List.set_cons_zero, List.set_cons_succ])
                refine hK _ _ ?_
                clear hK K
                refine wpAny_ready (rs := [7]) (by kernel_rfl) (by simp) ?_
                refine AllReady.cons rfl (fun K hK => ?_) ?_
                · go_simp
                  (try simp only [Act.put, List.setIfInBounds_toArray, List.set_cons_zero, List.set_cons_succ])
                  refine hK _ _ ?_
                  clear hK K
                  refine wpAny_take (i := 8) (v := ?v_29) rfl (by kernel_rfl) (by kernel_rfl) (by kernel_rfl) (fun _ _ _ h => h) (Or.inl ⟨by rfl, ?hy_29⟩) ?_
                  (case hy_29 => (intro w_; first | (go_simp; done) | (go_simp; with_reducible rfl)))
                  (try simp only [Act.put, List.setIfInBounds_toArray, List.set_cons_zero, List.set_cons_succ])
                  refine wpAny_ready (rs := [9]) (by kernel_rfl) (by simp) ?_
                  refine AllReady.cons rfl (fun K hK => ?_) ?_
                  · go_simp
                    (try simp only [Act.put, List.setIfInBounds_toArray, List.set_cons_zero, List.set_cons_succ])
                    refine hK _ _ ?_
                    clear hK K
                    refine wpAny_ready (rs := [10]) (by kernel_rfl) (by simp) ?_
                    refine AllReady.cons (o := { dst := some 69, op := Go.Op.call { callee := Go.Callee.builtin Go.Builtin.append, args := #[Go.Operand.tmp 59, Go.Operand.tmp 68], argTypes := #[56, 56] }, type := 56, pos := "span.go:59", after := #[{ on := 0, ground := Go.Ground.data }, { on := 9, ground := Go.Ground.data }], guard := none }) rfl (fun K hK => ?_) ?_
                    · refine Kd.R_append_step kSpn (w0 := w6.drew) (W := w6.drew) w2.heap.size (by rfl) (.tmp 59) (.tmp 68) 56 63 (.agg #[.int .i64 0, .int .i64 0, .int .i64 0, .int .i64 0]) 32 rfl Try.underlying56 infoSpn rfl (by decide) (by omega) _ _ ⟨x.1, x.2, s.f2, 0⟩ [.int .i64 x.1, .int .i64 x.2, .int .i64 s.f2, .int .i64 0] (fun _ => True) (fun _ => False) (by simp [Act.eval]) (by simp [Act.eval]) (k63_mkM _ _ _ _) (fun _ hk => hk.elim) (fun _ _ => trivial) (Kd.R_drew HI6.out.row) (Below.refl _ _) HI6.out.sz ?aL_ ?_; (case aL_ => have := hlt; have := hpl'; omega); intro v1 w1 ho hb hg hat; obtain ⟨A3, c3, hv1, _, _⟩ := Kd.R_reads ho; rw [List.length_append] at hv1; subst hv1; have HO1 := Aside0.mk ho; have HBB := Aside0.mk hb; have HGG := Aside0.mk hg; clear ho hb hg hat; have hck := blk_cell ((HBB.out.block w'.heap.size hb2).trans HI6.out.box); have hfz := blk_frozen ((HBB.out.block w'.heap.size hb2).trans HI6.out.box)
                      (try simp only [Act.put, List.setIfInBounds_toArray, List.set_cons_zero, List.set_cons_succ])
                      refine hK _ _ ?_
                      clear hK K
                      refine wpAny_ready (rs := [11]) (by kernel_rfl) (by simp) ?_
                      refine AllReady.cons rfl (fun K hK => ?_) ?_
                      · go_simp
                        (try simp only [Act.put, List.setIfInBounds_toArray, List.set_cons_zero, List.set_cons_succ])
                        refine hK _ _ ?_
                        clear hK K
                        refine wpAny_done (by kernel_rfl) ?_ _
                        exact ⟨(KeepsFrom.trans (show KeepsFrom _ _ w6.drew from ⟨HK6.out.size, HK6.out.same⟩) (KeepsFrom.row (Kd.R_drew HI6.out.row) HGG.out)).trans ((KeepsOthers.setCell _ _ _).from _), Mid.set (Mid.trans (Mid.trans HM6.out (Mid.below (pw_below_drewN (Below.refl _ _) 1))) (Mid.below HBB.out)) (Nat.lt_succ_self _) _, _, by rw [HX.out, HS6.out]; exact IR.add HI6.out hblo hb2 (by omega) hwl hB2.size HO1.out HBB.out⟩
                      exact AllReady.nil
                    exact AllReady.nil
                  exact AllReady.nil
                exact AllReady.nil
              refine AllReady.cons rfl (fun K hK => ?_) ?_
              · go_simp
                (try simp only [Act.put, List.setIfInBounds_toArray, List.set_cons_zero, List.set_cons_succ])
                refine hK _ _ ?_
                clear hK K
                refine wpAny_take (i := 8) (v := ?v_30) rfl (by kernel_rfl) (by kernel_rfl) (by kernel_rfl) (fun _ _ _ h => h) (Or.inl ⟨by rfl, ?hy_30⟩) ?_
                (case hy_30 => (intro w_; first | (go_simp; done) | (go_simp; with_reducible rfl)))
                (try simp only [Act.put, List.setIfInBounds_toArray, List.set_cons_zero, List.set_cons_succ])
                refine wpAny_ready (rs := [0, 9]) (by kernel_rfl) (by simp) ?_
                refine AllReady.cons rfl (fun K hK => ?_) ?_
                · go_simp
                  (try simp only [Act.put, List.setIfInBounds_toArray, List.set_cons_zero, List.set_cons_succ])
                  refine hK _ _ ?_
                  clear hK K
                  refine wpAny_ready (rs := [9]) (by kernel_rfl) (by simp) ?_
                  refine AllReady.cons rfl (fun K hK => ?_) ?_
                  · go_simp
                    (try simp only [Act.put, List.setIfInBounds_toArray, List.set_cons_zero, List.set_cons_succ])
                    refine hK _ _ ?_
                    clear hK K
                    refine wpAny_ready (rs := [10]) (by kernel_rfl) (by simp) ?_
                    refine AllReady.cons (o := { dst := some 69, op := Go.Op.call { callee := Go.Callee.builtin Go.Builtin.append, args := #[Go.Operand.tmp 59, Go.Operand.tmp 68], argTypes := #[56, 56] }, type := 56, pos := "span.go:59", after := #[{ on := 0, ground := Go.Ground.data }, { on := 9, ground := Go.Ground.data }], guard := none }) rfl (fun K hK => ?_) ?_
                    · refine Kd.R_append_step kSpn (w0 := w6.drew) (W := w6.drew) w2.heap.size (by rfl) (.tmp 59) (.tmp 68) 56 63 (.agg #[.int .i64 0, .int .i64 0, .int .i64 0, .int .i64 0]) 32 rfl Try.underlying56 infoSpn rfl (by decide) (by omega) _ _ ⟨x.1, x.2, s.f2, 0⟩ [.int .i64 x.1, .int .i64 x.2, .int .i64 s.f2, .int .i64 0] (fun _ => True) (fun _ => False) (by simp [Act.eval]) (by simp [Act.eval]) (k63_mkM _ _ _ _) (fun _ hk => hk.elim) (fun _ _ => trivial) (Kd.R_drew HI6.out.row) (Below.refl _ _) HI6.out.sz ?aL_ ?_; (case aL_ => have := hlt; have := hpl'; omega); intro v1 w1 ho hb hg hat; obtain ⟨A3, c3, hv1, _, _⟩ := Kd.R_reads ho; rw [List.length_append] at hv1; subst hv1; have HO1 := Aside0.mk ho; have HBB := Aside0.mk hb; have HGG := Aside0.mk hg; clear ho hb hg hat; have hck := blk_cell ((HBB.out.block w'.heap.size hb2).trans HI6.out.box); have hfz := blk_frozen ((HBB.out.block w'.heap.size hb2).trans HI6.out.box)
                      (try simp only [Act.put, List.setIfInBounds_toArray, List.set_cons_zero, List.set_cons_succ])
                      refine hK _ _ ?_
                      clear hK K
                      refine wpAny_ready (rs := [11]) (by kernel_rfl) (by simp) ?_
                      refine AllReady.cons rfl (fun K hK => ?_) ?_
                      · go_simp
                        (try simp only [Act.put, List.setIfInBounds_toArray, List.set_cons_zero, List.set_cons_succ])
                        refine hK _ _ ?_
                        clear hK K
                        refine wpAny_done (by kernel_rfl) ?_ _
                        exact ⟨(KeepsFrom.trans (show KeepsFrom _ _ w6.drew from ⟨HK6.out.size, HK6.out.same⟩) (KeepsFrom.row (Kd.R_drew HI6.out.row) HGG.out)).trans ((KeepsOthers.setCell _ _ _).from _), Mid.set (Mid.trans (Mid.trans HM6.out (Mid.below (pw_below_drewN (Below.refl _ _) 1))) (Mid.below HBB.out)) (Nat.lt_succ_self _) _, _, by rw [HX.out, HS6.out]; exact IR.add HI6.out hblo hb2 (by omega) hwl hB2.size HO1.out HBB.out⟩
                      exact AllReady.nil
                    exact AllReady.nil
                  exact AllReady.nil
                refine AllReady.cons rfl (fun K hK => ?_) ?_
                · go_simp
                  (try simp only [Act.put, List.setIfInBounds_toArray, List.set_cons_zero, List.set_cons_succ])
                  refine hK _ _ ?_
                  clear hK K
                  refine wpAny_ready (rs := [0]) (by kernel_rfl) (by simp) ?_
                  refine AllReady.cons rfl (fun K hK => ?_) ?_
                  · go_simp
                    (try simp only [Act.put, List.setIfInBounds_toArray, List.set_cons_zero, List.set_cons_succ])
                    refine hK _ _ ?_
                    clear hK K
                    refine wpAny_ready (rs := [10]) (by kernel_rfl) (by simp) ?_
                    refine AllReady.cons (o := { dst := some 69, op := Go.Op.call { callee := Go.Callee.builtin Go.Builtin.append, args := #[Go.Operand.tmp 59, Go.Operand.tmp 68], argTypes := #[56, 56] }, type := 56, pos := "span.go:59", after := #[{ on := 0, ground := Go.Ground.data }, { on := 9, ground := Go.Ground.data }], guard := none }) rfl (fun K hK => ?_) ?_
                    · refine Kd.R_append_step kSpn (w0 := w6.drew) (W := w6.drew) w2.heap.size (by rfl) (.tmp 59) (.tmp 68) 56 63 (.agg #[.int .i64 0, .int .i64 0, .int .i64 0, .int .i64 0]) 32 rfl Try.underlying56 infoSpn rfl (by decide) (by omega) _ _ ⟨x.1, x.2, s.f2, 0⟩ [.int .i64 x.1, .int .i64 x.2, .int .i64 s.f2, .int .i64 0] (fun _ => True) (fun _ => False) (by simp [Act.eval]) (by simp [Act.eval]) (k63_mkM _ _ _ _) (fun _ hk => hk.elim) (fun _ _ => trivial) (Kd.R_drew HI6.out.row) (Below.refl _ _) HI6.out.sz ?aL_ ?_; (case aL_ => have := hlt; have := hpl'; omega); intro v1 w1 ho hb hg hat; obtain ⟨A3, c3, hv1, _, _⟩ := Kd.R_reads ho; rw [List.length_append] at hv1; subst hv1; have HO1 := Aside0.mk ho; have HBB := Aside0.mk hb; have HGG := Aside0.mk hg; clear ho hb hg hat; have hck := blk_cell ((HBB.out.block w'.heap.size hb2).trans HI6.out.box); have hfz := blk_frozen ((HBB.out.block w'.heap.size hb2).trans HI6.out.box)
                      (try simp only [Act.put, List.setIfInBounds_toArray, List.set_cons_zero, List.set_cons_succ])
                      refine hK _ _ ?_
                      clear hK K
                      refine wpAny_ready (rs := [11]) (by kernel_rfl) (by simp) ?_
                      refine AllReady.cons rfl (fun K hK => ?_) ?_
                      · go_simp
                        (try simp only [Act.put, List.setIfInBounds_toArray, List.set_cons_zero, List.set_cons_succ])
                        refine hK _ _ ?_
                        clear hK K
                        refine wpAny_done (by kernel_rfl) ?_ _
                        exact ⟨(KeepsFrom.trans (show KeepsFrom _ _ w6.drew from ⟨HK6.out.size, HK6.out.same⟩) (KeepsFrom.row (Kd.R_drew HI6.out.row) HGG.out)).trans ((KeepsOthers.setCell _ _ _).from _), Mid.set (Mid.trans (Mid.trans HM6.out (Mid.below (pw_below_drewN (Below.refl _ _) 1))) (Mid.below HBB.out)) (Nat.lt_succ_self _) _, _, by rw [HX.out, HS6.out]; exact IR.add HI6.out hblo hb2 (by omega) hwl hB2.size HO1.out HBB.out⟩
                      exact AllReady.nil
                    exact AllReady.nil
                  exact AllReady.nil
                exact AllReady.nil
              exact AllReady.nil
            exact AllReady.nil
          · have HS6 : Aside0 (stepR xs out x.1 x.2 = out.set m ⟨(rdS out m).f0, x.2, (rdS out m).f2, (rdS out m).f3⟩) := ⟨stepR_join HWT.out HY0.out (by rw [← HYY.out]; exact ⟨by simpa using hq1, by simpa using hq2⟩)⟩
            have HI6 := Aside0.mk (HI3.out.step hw6)
            have HK6 := Aside0.mk (KeepsFrom.trans HK3.out (keepsFrom_below hw6))
            have HM6 := Aside0.mk (Mid.trans HM3.out (Mid.of_below HI3.out.sz hw6))
            obtain ⟨hf, hI7⟩ := IR.put (v := x.2) (m := m) (by have := HI6.out; rw [HGA.out] at this; exact this) (by omega) hb2 hgb.out hB2.size (by have := HMM.out; omega)
            have hea : (⟨(ga.add (m * 4)).block, (ga.add (m * 4)).off + 1, none⟩ : Addr) = ⟨gb, m * 4 + 1, none⟩ := by rw [HGA.out, add_zero_block]
            obtain ⟨ad', e', hd0, hd1, hd2, hd3⟩ := HY.out w6 hw6
            injection e' with e'
            subst e'
            rw [← hea] at hf hI7
            have HEA := Aside0.mk hea
            have HI7 := Aside0.mk hI7
            clear hcb hcl HI3 HK3 HM3 HL hw6 HWT HY hq1 hq2 hea hI7 hd0 hd2 hd3 hw1 hge
            have hcb := blk_cell HI6.out.box
            gi_wp2
            refine ⟨KeepsFrom.trans HK6.out ((KeepsOthers.setCell _ _ _).from _), ?_, _, by rw [HX.out, HS6.out]; exact HI7.out⟩
            rw [HEA.out]
            exact Mid.trans HM6.out (Mid.far (Mid.refl _ _ _) hgb.out _)
  case done =>
    rintro D ys W hD rfl ⟨u, HI⟩ hK
    obtain ⟨A2, c2, hu, _, _⟩ := Kd.R_reads HI.row
    subst hu
    have hck := blk_cell HI.box
    gi_wp2
    refine ⟨by simp, .inl ⟨_, _, rfl, run_takeDeferred hK, ?_⟩⟩
    have hg := IR.grown HI hB2.size (grownBy_putObj' W D (.deferred none)) (fun r e => by cases e; exact ⟨hD, _, hK, rfl⟩)
    exact ⟨.tuple #[.slice A2 (resL xs (pcs E (E.length - 1))).length c2, .int .i64 0], by simp [results, Try.results23, go_sem], _, rfl, by rw [hS.out]; exact Kd.R_lower hg.row hB2.size, hg.bel⟩
  case stop =>
    rintro D c pre W _ _ h _
    exact h.elim
end Go.Proofs.Ytopmmbopankpgaa.H
