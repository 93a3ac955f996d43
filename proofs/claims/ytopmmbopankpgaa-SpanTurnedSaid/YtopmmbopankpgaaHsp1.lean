/- Spans, plainly: rows that tell each instant's mode, and that they are told by it; what spans come to by their sorted ends. No program here. -/
import Derived.Test.YtopmmbopankpgaaH0
import Derived.Lib.SlicesCompact
namespace Go.Proofs.Ytopmmbopankpgaa.H.SpTh
open Go.Lib
set_option linter.unusedVariables false
set_option linter.unusedSimpArgs false
abbrev Spn := S63
def inS (s : Spn) (t : Int) : Bool := decide (s.f0 ≤ t) && decide (t < s.f1)
def lessS (a b : Spn) : Bool := decide (a.f3 < b.f3) || (a.f3 == b.f3 && decide (a.f0 < b.f0))
/-- The weightiest one so far, at an instant. -/
def wtStep (t : Int) (b : Option Spn) (s : Spn) : Option Spn :=
  if inS s t then (match b with | none => some s | some y => if lessS s y then b else some s) else b
def wt (l : List Spn) (t : Int) : Option Spn := l.foldl (wtStep t) none
/-- The mode at an instant. -/
def md (l : List Spn) (t : Int) : Option Int := (wt l t).map (·.f2)
theorem inS_iff (s : Spn) (t : Int) : inS s t = true ↔ s.f0 ≤ t ∧ t < s.f1 := by simp [inS]
theorem inS_no (s : Spn) (t : Int) : inS s t = false ↔ t < s.f0 ∨ s.f1 ≤ t := by
  simp [inS]; omega
theorem foldl_congr_mem {α β : Type} {f g : β → α → β} : ∀ (l : List α) (b : β), (∀ x ∈ l, ∀ b, f b x = g b x) → l.foldl f b = l.foldl g b
  | [], _, _ => rfl
  | x :: r, b, h => by
    simp only [List.foldl_cons]
    rw [h x (List.mem_cons_self) b]
    exact foldl_congr_mem r _ (fun y hy => h y (List.mem_cons_of_mem _ hy))
theorem wt_congr (l : List Spn) (t u : Int) (h : ∀ s ∈ l, inS s t = inS s u) : wt l t = wt l u :=
  foldl_congr_mem l none (fun s hs b => by unfold wtStep; rw [h s hs])
theorem foldl_none (t : Int) : ∀ (l : List Spn) (b : Option Spn), (∀ s ∈ l, inS s t = false) → l.foldl (wtStep t) b = b
  | [], _, _ => rfl
  | x :: r, b, h => by
    simp only [List.foldl_cons]
    rw [show wtStep t b x = b by unfold wtStep; rw [h x (List.mem_cons_self)]; rfl]
    exact foldl_none t r b (fun y hy => h y (List.mem_cons_of_mem _ hy))
theorem wt_none (l : List Spn) (t : Int) (h : ∀ s ∈ l, inS s t = false) : wt l t = none := foldl_none t l none h
/-- The span of a row that an instant is in: its mode. -/
def look (r : List Spn) (t : Int) : Option Int := (r.find? (inS · t)).map (·.f2)
def good (x : Spn) : Prop := x.f0 < x.f1 ∧ x.f3 = 0
def sep (x y : Spn) : Prop := x.f1 < y.f0 ∨ x.f1 = y.f0 ∧ x.f2 ≠ y.f2
/-- A row: spans one behind the other, those that touch of different modes. -/
def Nrm : List Spn → Prop
  | [] => True
  | [a] => good a
  | a :: b :: r => good a ∧ sep a b ∧ Nrm (b :: r)
theorem Nrm_tail {a : Spn} {r : List Spn} (h : Nrm (a :: r)) : Nrm r := by
  cases r with
  | nil => trivial
  | cons b r => exact h.2.2
theorem Nrm_head {a : Spn} {r : List Spn} (h : Nrm (a :: r)) : good a := by
  cases r with
  | nil => exact h
  | cons b r => exact h.1
theorem Nrm_later : ∀ {r : List Spn} {a : Spn}, Nrm (a :: r) → ∀ y ∈ r, a.f1 ≤ y.f0
  | [], _, _, y, hy => by simp at hy
  | b :: r, a, h, y, hy => by
    have h1 := h.2.1
    have h2 := Nrm_head h.2.2
    have hb : a.f1 ≤ b.f0 := by unfold sep at h1; omega
    rcases List.mem_cons.1 hy with rfl | hy
    · exact hb
    · have := Nrm_later h.2.2 y hy
      have := h2.1
      omega
theorem Nrm_mem : ∀ {r : List Spn}, Nrm r → ∀ y ∈ r, good y
  | [], _, y, hy => by simp at hy
  | a :: r, h, y, hy => by
    rcases List.mem_cons.1 hy with rfl | hy
    · exact Nrm_head h
    · exact Nrm_mem (Nrm_tail h) y hy
theorem look_cons_in {a : Spn} {r : List Spn} {t : Int} (h : inS a t = true) : look (a :: r) t = some a.f2 := by
  unfold look; simp [h]
theorem look_cons_out {a : Spn} {r : List Spn} {t : Int} (h : inS a t = false) : look (a :: r) t = look r t := by
  unfold look; simp [h]
theorem look_none {r : List Spn} {t : Int} (h : ∀ y ∈ r, inS y t = false) : look r t = none := by
  unfold look
  rw [List.find?_eq_none.2 (fun x hx => by rw [h x hx]; simp)]
  rfl
theorem look_before {a : Spn} {r : List Spn} {t : Int} (h : Nrm (a :: r)) (ht : t < a.f1) : look r t = none :=
  look_none (fun y hy => by rw [inS_no]; have := Nrm_later h y hy; omega)
theorem look_first {a : Spn} {r : List Spn} (h : Nrm (a :: r)) {t : Int} (ht : t < a.f0) : look (a :: r) t = none := by
  rw [look_cons_out (by rw [inS_no]; omega)]
  exact look_before h (by have := (Nrm_head h).1; omega)
theorem ext4 {a b : Spn} (h0 : a.f0 = b.f0) (h1 : a.f1 = b.f1) (h2 : a.f2 = b.f2) (h3 : a.f3 = b.f3) : a = b := by
  cases a; cases b; simp_all
/-- Behind a span of a row: not its mode. -/
theorem look_end {a : Spn} {r : List Spn} (h : Nrm (a :: r)) : look (a :: r) a.f1 ≠ some a.f2 := by
  have hg := Nrm_head h
  rw [look_cons_out (by rw [inS_no]; omega)]
  cases r with
  | nil => simp [look]
  | cons b r =>
    have hs := h.2.1
    have hb := Nrm_head h.2.2
    by_cases e : a.f1 = b.f0
    · rw [look_cons_in (by rw [inS_iff]; have := hb.1; omega)]
      unfold sep at hs
      intro hc
      injection hc with hc
      rcases hs with hs | hs
      · omega
      · exact hs.2 hc.symm
    · rw [look_first h.2.2 (by unfold sep at hs; omega)]
      simp
theorem Nrm_ext : ∀ (r s : List Spn), Nrm r → Nrm s → (∀ t, look r t = look s t) → r = s
  | [], [], _, _, _ => rfl
  | [], b :: s, _, hs, h => by
    have := h b.f0
    rw [look_cons_in (by rw [inS_iff]; have := (Nrm_head hs).1; omega)] at this
    simp [look] at this
  | a :: r, [], hr, _, h => by
    have := h a.f0
    rw [look_cons_in (by rw [inS_iff]; have := (Nrm_head hr).1; omega)] at this
    simp [look] at this
  | a :: r, b :: s, hr, hs, h => by
    have ga := Nrm_head hr
    have gb := Nrm_head hs
    have la : look (a :: r) a.f0 = some a.f2 := look_cons_in (by rw [inS_iff]; have := ga.1; omega)
    have lb : look (b :: s) b.f0 = some b.f2 := look_cons_in (by rw [inS_iff]; have := gb.1; omega)
    have e0 : a.f0 = b.f0 := by
      rcases Int.lt_trichotomy a.f0 b.f0 with hl | hl | hl
      · have := h a.f0
        rw [la, look_first hs hl] at this
        simp at this
      · exact hl
      · have := h b.f0
        rw [lb, look_first hr hl] at this
        simp at this
    have e2 : a.f2 = b.f2 := by
      have := h a.f0
      rw [la, e0, lb] at this
      injection this
    have e1 : a.f1 = b.f1 := by
      rcases Int.lt_trichotomy a.f1 b.f1 with hl | hl | hl
      · exfalso
        apply look_end hr
        rw [h a.f1, look_cons_in (by rw [inS_iff]; have := ga.1; omega), e2]
      · exact hl
      · exfalso
        apply look_end hs
        rw [← h b.f1, look_cons_in (by rw [inS_iff]; have := gb.1; omega), e2]
    have e : a = b := ext4 e0 e1 e2 (by rw [ga.2, gb.2])
    subst e
    congr 1
    refine Nrm_ext r s (Nrm_tail hr) (Nrm_tail hs) (fun t => ?_)
    by_cases ht : t < a.f1
    · rw [look_before hr ht, look_before hs ht]
    · have := h t
      rwa [look_cons_out (by rw [inS_no]; omega), look_cons_out (by rw [inS_no]; omega)] at this
/-- A span more at the end of a row. -/
theorem Nrm_snoc : ∀ {r : List Spn} {x : Spn}, Nrm r → good x → (∀ y, r.getLast? = some y → sep y x) → Nrm (r ++ [x])
  | [], x, _, hx, _ => hx
  | [a], x, h, hx, hs => ⟨h, hs a rfl, hx⟩
  | a :: b :: r, x, h, hx, hs => ⟨h.1, h.2.1, Nrm_snoc (r := b :: r) h.2.2 hx (fun y hy => hs y (by simpa using hy))⟩
theorem Nrm_init : ∀ {r : List Spn} {x : Spn}, Nrm (r ++ [x]) → Nrm r ∧ good x ∧ ∀ y, r.getLast? = some y → sep y x
  | [], x, h => ⟨trivial, h, fun y hy => by simp at hy⟩
  | [a], x, h => ⟨h.1, h.2.2, fun y hy => by simp at hy; subst hy; exact h.2.1⟩
  | a :: b :: r, x, h => by
    obtain ⟨h1, h2, h3⟩ := Nrm_init (r := b :: r) h.2.2
    exact ⟨⟨h.1, h.2.1, h1⟩, h2, fun y hy => h3 y (by simpa using hy)⟩
theorem look_append (r s : List Spn) (t : Int) : look (r ++ s) t = (look r t).or (look s t) := by
  unfold look
  rw [List.find?_append]
  cases r.find? (inS · t) <;> simp
/-- A step: the piece from a up to b goes into the row. -/
def stepR (l : List Spn) (out : List Spn) (a b : Int) : List Spn :=
  match wt l a with
  | none => out
  | some s => match out.getLast? with
    | none => out ++ [⟨a, b, s.f2, 0⟩]
    | some y => if y.f1 = a ∧ y.f2 = s.f2 then out.dropLast ++ [⟨y.f0, b, y.f2, y.f3⟩] else out ++ [⟨a, b, s.f2, 0⟩]
structure Inv (l out : List Spn) (a : Int) : Prop where
  nrm : Nrm out
  upto : ∀ s ∈ out, s.f1 ≤ a
  tells : ∀ t, t < a → look out t = md l t
theorem inv_step {l out : List Spn} {a b : Int} (h : Inv l out a) (hab : a < b) (hn : ∀ s ∈ l, (s.f0 ≤ a ∨ b ≤ s.f0) ∧ (s.f1 ≤ a ∨ b ≤ s.f1)) : Inv l (stepR l out a b) b := by
  have hmd : ∀ t, a ≤ t → t < b → wt l t = wt l a := fun t h1 h2 => wt_congr l t a (fun s hs => by
    have := hn s hs
    unfold inS
    congr 1 <;> (rw [decide_eq_decide]; omega))
  have hlate : ∀ t, a ≤ t → look out t = none := fun t ht => look_none (fun y hy => by rw [inS_no]; have := h.upto y hy; omega)
  unfold stepR
  cases hw : wt l a with
  | none =>
    refine ⟨h.nrm, fun s hs => by have := h.upto s hs; omega, fun t ht => ?_⟩
    by_cases h1 : t < a
    · exact h.tells t h1
    · rw [hlate t (by omega)]; unfold md; rw [hmd t (by omega) ht, hw]; rfl
  | some s =>
    have key : ∀ out', Nrm out' → (∀ y ∈ out', y.f1 ≤ b) → (∀ t, t < a → look out' t = look out t) → (∀ t, a ≤ t → t < b → look out' t = some s.f2) → Inv l out' b := fun out' n u t1 t2 =>
      ⟨n, u, fun t ht => by
        by_cases h1 : t < a
        · rw [t1 t h1]; exact h.tells t h1
        · rw [t2 t (by omega) ht]; unfold md; rw [hmd t (by omega) ht, hw]; rfl⟩
    have fresh : (∀ y, out.getLast? = some y → sep y ⟨a, b, s.f2, 0⟩) → Inv l (out ++ [⟨a, b, s.f2, 0⟩]) b := fun hs => by
      refine key _ (Nrm_snoc h.nrm ⟨hab, rfl⟩ hs) (fun y hy => ?_) (fun t ht => ?_) (fun t h1 h2 => ?_)
      · rcases List.mem_append.1 hy with hy | hy
        · have := h.upto y hy; omega
        · simp at hy; subst hy; exact Int.le_refl _
      · rw [look_append, look_cons_out (by rw [inS_no]; exact .inl ht)]
        cases look out t <;> simp [look]
      · rw [look_append, hlate t h1, look_cons_in (by rw [inS_iff]; exact ⟨h1, h2⟩)]; rfl
    dsimp only
    cases hl : out.getLast? with
    | none => exact fresh (fun y hy => by rw [hl] at hy; cases hy)
    | some y =>
      dsimp only
      obtain ⟨o2, rfl⟩ : ∃ o2, out = o2 ++ [y] := List.getLast?_eq_some_iff.1 hl
      have hy1 : y.f1 ≤ a := h.upto y (by simp)
      obtain ⟨n1, n2, n3⟩ := Nrm_init h.nrm
      by_cases hc : y.f1 = a ∧ y.f2 = s.f2
      · rw [if_pos hc]
        rw [List.dropLast_concat]
        refine key _ (Nrm_snoc n1 ⟨by have := n2.1; show y.f0 < b; omega, n2.2⟩ (fun z hz => n3 z hz)) (fun z hz => ?_) (fun t ht => ?_) (fun t h1 h2 => ?_)
        · rcases List.mem_append.1 hz with hz | hz
          · have := h.upto z (by simp [hz]); omega
          · simp at hz; subst hz; exact Int.le_refl _
        · rw [look_append, look_append]
          congr 1
          by_cases hi : inS y t = true
          · rw [look_cons_in hi, look_cons_in (by rw [inS_iff] at hi ⊢; exact ⟨hi.1, by show t < b; omega⟩)]
          · have hi : inS y t = false := by simpa using hi
            rw [look_cons_out hi, look_cons_out (by rw [inS_no] at hi ⊢; rcases hi with hi | hi; exact .inl hi; exfalso; omega)]
        · have hlt := hlate t h1
          rw [look_append] at hlt ⊢
          have : look o2 t = none := by cases ho : look o2 t <;> simp [ho] at hlt ⊢
          rw [this, look_cons_in (by rw [inS_iff]; exact ⟨by show y.f0 ≤ t; have := n2.1; omega, h2⟩)]
          simp [hc.2]
      · rw [if_neg hc]
        exact fresh (fun z hz => by
          rw [hl] at hz; injection hz with hz; subst hz
          unfold sep
          by_cases e : y.f1 = a
          · exact .inr ⟨e, fun e2 => hc ⟨e, e2⟩⟩
          · exact .inl (by show y.f1 < a; omega))
/-- What spans come to: a row that tells, at each instant, the weightiest one's mode. -/
structure Comes (l r : List Spn) : Prop where
  nrm : Nrm r
  tells : ∀ t, look r t = md l t
theorem comes_unique {l r s : List Spn} (h : Comes l r) (g : Comes l s) : r = s := Nrm_ext r s h.nrm g.nrm (fun t => by rw [h.tells, g.tells])
theorem comes_end {l out : List Spn} {a : Int} (h : Inv l out a) (ha : ∀ s ∈ l, s.f1 ≤ a) : Comes l out :=
  ⟨h.nrm, fun t => by
    by_cases ht : t < a
    · exact h.tells t ht
    · rw [look_none (fun y hy => by rw [inS_no]; have := h.upto y hy; omega)]
      unfold md
      rw [wt_none l t (fun s hs => by rw [inS_no]; have := ha s hs; omega)]
      rfl⟩
theorem inv_start {l : List Spn} {a : Int} (ha : ∀ s ∈ l, a ≤ s.f0) : Inv l [] a :=
  ⟨trivial, fun s hs => by simp at hs, fun t ht => by
    unfold md
    rw [wt_none l t (fun s hs => by rw [inS_no]; have := ha s hs; omega)]
    rfl⟩
theorem wt_append_left (a b : List Spn) (t : Int) (h : ∀ s ∈ b, inS s t = false) : wt (a ++ b) t = wt a t := by
  unfold wt; rw [List.foldl_append]; exact foldl_none t b _ h
theorem wt_append_right (a b : List Spn) (t : Int) (h : ∀ s ∈ a, inS s t = false) : wt (a ++ b) t = wt b t := by
  unfold wt; rw [List.foldl_append, foldl_none t a none h]
theorem md_row : ∀ {r : List Spn}, Nrm r → ∀ t, md r t = look r t
  | [], _, _ => rfl
  | a :: r, h, t => by
    by_cases hi : inS a t = true
    · rw [look_cons_in hi]
      have := wt_append_left [a] r t (fun s hs => by rw [inS_no]; rw [inS_iff] at hi; have := Nrm_later h s hs; omega)
      unfold md
      rw [show a :: r = [a] ++ r from rfl, this]
      simp [wt, wtStep, hi]
    · have hi : inS a t = false := by simpa using hi
      rw [look_cons_out hi, ← md_row (Nrm_tail h)]
      unfold md
      rw [show a :: r = [a] ++ r from rfl, wt_append_right [a] r t (fun s hs => by simp at hs; subst hs; exact hi)]
theorem comes_row {r : List Spn} (h : Nrm r) : Comes r r := ⟨h, fun t => (md_row h t).symm⟩
/-- What of a row is between two instants. -/
def cut1 (fr upto : Int) (s : Spn) : Spn := ⟨if s.f0 < fr then fr else s.f0, if upto < s.f1 then upto else s.f1, s.f2, s.f3⟩
def cutS (fr upto : Int) : List Spn → List Spn
  | [] => []
  | s :: r => (if (cut1 fr upto s).f0 < (cut1 fr upto s).f1 then [cut1 fr upto s] else []) ++ cutS fr upto r
theorem cutS_mem {fr upto : Int} : ∀ {r : List Spn} {y : Spn}, y ∈ cutS fr upto r → ∃ s ∈ r, y = cut1 fr upto s ∧ y.f0 < y.f1
  | s :: r, y, h => by
    simp only [cutS] at h
    rcases List.mem_append.1 h with h | h
    · split at h
      · rename_i hlt
        simp at h
        subst h
        exact ⟨s, List.mem_cons_self, rfl, hlt⟩
      · simp at h
    · obtain ⟨z, hz, h1⟩ := cutS_mem h
      exact ⟨z, List.mem_cons_of_mem _ hz, h1⟩
theorem cut1_in (fr upto : Int) (s : Spn) (t : Int) : inS (cut1 fr upto s) t = (inS s t && (decide (fr ≤ t) && decide (t < upto))) := by
  unfold inS cut1
  dsimp only
  rw [Bool.eq_iff_iff]
  simp only [Bool.and_eq_true, decide_eq_true_eq]
  split <;> split <;> omega
theorem look_cut (fr upto : Int) : ∀ (r : List Spn) (t : Int), look (cutS fr upto r) t = if fr ≤ t ∧ t < upto then look r t else none
  | [], t => by simp [cutS, look]
  | s :: r, t => by
    simp only [cutS]
    rw [look_append, look_cut fr upto r t]
    have hc := cut1_in fr upto s t
    by_cases h : (cut1 fr upto s).f0 < (cut1 fr upto s).f1
    · rw [if_pos h]
      by_cases ht : fr ≤ t ∧ t < upto
      · rw [if_pos ht, if_pos ht]
        simp [ht.1, ht.2] at hc
        by_cases hi : inS s t = true
        · rw [look_cons_in (by rw [hc]; exact hi), look_cons_in hi]; rfl
        · have hi : inS s t = false := by simpa using hi
          rw [look_cons_out (by rw [hc]; exact hi), look_cons_out hi]; rfl
      · rw [if_neg ht, if_neg ht]
        rw [look_cons_out (by rw [hc, Bool.and_eq_false_iff]; right; rw [Bool.and_eq_false_iff]; simp; omega)]
        rfl
    · rw [if_neg h]
      by_cases ht : fr ≤ t ∧ t < upto
      · rw [if_pos ht, if_pos ht]
        rw [look_cons_out (a := s)]
        · rfl
        · have : inS (cut1 fr upto s) t = false := by rw [inS_no]; omega
          rw [hc] at this
          simp [ht.1, ht.2] at this
          exact this
      · rw [if_neg ht, if_neg ht]; rfl
theorem cut_nrm {fr upto : Int} : ∀ {r : List Spn}, Nrm r → Nrm (cutS fr upto r)
  | [], _ => trivial
  | s :: r, h => by
    simp only [cutS]
    have ih := cut_nrm (fr := fr) (upto := upto) (Nrm_tail h)
    by_cases hs : (cut1 fr upto s).f0 < (cut1 fr upto s).f1
    · rw [if_pos hs]
      have hg : good (cut1 fr upto s) := ⟨hs, (Nrm_head h).2⟩
      cases hr : cutS fr upto r with
      | nil => exact hg
      | cons y z =>
        refine ⟨hg, ?_, by rw [hr] at ih; exact ih⟩
        obtain ⟨x, hx, rfl, hlt⟩ := cutS_mem (r := r) (fr := fr) (upto := upto) (y := y) (by rw [hr]; exact List.mem_cons_self)
        have hl := Nrm_later h x hx
        unfold sep
        -- where they touch, it is the next one of the row
        by_cases e : s.f1 = x.f0
        · cases r with
          | nil => simp at hx
          | cons b r =>
            have hsb := h.2.1
            rcases List.mem_cons.1 hx with rfl | hx2
            · unfold sep at hsb
              rcases hsb with hsb | hsb
              · omega
              · by_cases e2 : (cut1 fr upto s).f1 = (cut1 fr upto x).f0
                · exact .inr ⟨e2, hsb.2⟩
                · left
                  unfold cut1 at *
                  dsimp only at *
                  split at e2 <;> split at e2 <;> split at hs <;> simp_all <;> omega
            · exfalso
              have h1 := Nrm_later h.2.2 x hx2
              have h2 := (Nrm_head h.2.2).1
              unfold sep at hsb
              omega
        · left
          unfold cut1 at *
          dsimp only at *
          split <;> split <;> simp_all <;> omega
    · rw [if_neg hs]; exact ih
theorem wt_mem : ∀ {l : List Spn} {t : Int} {b : Option Spn} {y : Spn}, l.foldl (wtStep t) b = some y → y ∈ l ∨ b = some y
  | [], _, _, _, h => .inr h
  | s :: r, t, b, y, h => by
    simp only [List.foldl_cons] at h
    rcases wt_mem h with h | h
    · exact .inl (List.mem_cons_of_mem _ h)
    · unfold wtStep at h
      split at h
      · split at h
        · injection h with h; subst h; exact .inl List.mem_cons_self
        · split at h
          · exact .inr h
          · injection h with h; subst h; exact .inl List.mem_cons_self
      · exact .inr h
theorem wt_end {l : List Spn} {m : Spn} (h : ∀ s ∈ l, s.f3 < m.f3) (t : Int) : wt (l ++ [m]) t = if inS m t then some m else wt l t := by
  unfold wt
  rw [List.foldl_append]
  simp only [List.foldl_cons, List.foldl_nil]
  cases hw : List.foldl (wtStep t) none l with
  | none => rfl
  | some y =>
    unfold wtStep
    split
    · rcases wt_mem hw with hy | hy
      · have := h y hy
        dsimp only
        rw [if_neg (by simp [lessS]; omega)]
      · cases hy
    · rfl
theorem foldl_stays {m : Spn} (t : Int) : ∀ {l : List Spn}, (∀ s ∈ l, s.f3 < m.f3) → l.foldl (wtStep t) (some m) = some m
  | [], _ => rfl
  | s :: r, h => by
    simp only [List.foldl_cons]
    rw [show wtStep t (some m) s = some m by
      unfold wtStep
      split
      · dsimp only
        rw [if_pos (by have := h s List.mem_cons_self; simp [lessS]; omega)]
      · rfl]
    exact foldl_stays t (fun y hy => h y (List.mem_cons_of_mem _ hy))
theorem wt_front {l : List Spn} {m : Spn} (h : ∀ s ∈ l, s.f3 < m.f3) (t : Int) : wt (m :: l) t = if inS m t then some m else wt l t := by
  unfold wt
  simp only [List.foldl_cons]
  by_cases hi : inS m t = true
  · rw [if_pos hi, show wtStep t none m = some m by simp [wtStep, hi]]
    exact foldl_stays t h
  · rw [if_neg hi, show wtStep t none m = none by simp [wtStep, hi]]
/-- What is cut in two, and put together. -/
theorem comes_two {r : List Spn} (h : Nrm r) {fr mid upto : Int} (h1 : fr ≤ mid) (h2 : mid ≤ upto) : Comes (cutS fr mid r ++ cutS mid upto r) (cutS fr upto r) :=
  ⟨cut_nrm h, fun t => by
    rw [look_cut]
    have hA : md (cutS fr mid r ++ cutS mid upto r) t = if t < mid then md (cutS fr mid r) t else md (cutS mid upto r) t := by
      unfold md
      split
      · rw [wt_append_left]
        intro s hs
        obtain ⟨x, _, rfl, _⟩ := cutS_mem hs
        rw [cut1_in]
        simp; omega
      · rw [wt_append_right]
        intro s hs
        obtain ⟨x, _, rfl, _⟩ := cutS_mem hs
        rw [cut1_in]
        simp; omega
    rw [hA, md_row (cut_nrm h), md_row (cut_nrm h), look_cut, look_cut]
    by_cases ht : t < mid
    · rw [if_pos ht]
      by_cases h3 : fr ≤ t
      · rw [if_pos ⟨h3, by omega⟩, if_pos ⟨h3, ht⟩]
      · rw [if_neg (by omega), if_neg (by omega)]
    · rw [if_neg ht]
      by_cases h3 : t < upto
      · rw [if_pos ⟨by omega, h3⟩, if_pos ⟨by omega, h3⟩]
      · rw [if_neg (by omega), if_neg (by omega)]⟩
/-- One that is weightier than all. -/
theorem turned {l x y r : List Spn} {m : Spn} (h : ∀ s ∈ l, s.f3 < m.f3) (hm : m.f0 < m.f1) (hx : Comes (l ++ [m]) x) (hy : Comes (m :: l) y) (hr : Comes l r) (lo : Int) :
    x = y ∧ cutS m.f0 m.f1 x = [⟨m.f0, m.f1, m.f2, 0⟩] ∧ cutS lo m.f0 x = cutS lo m.f0 r := by
  have tx : ∀ t, look x t = if inS m t then some m.f2 else md l t := fun t => by
    rw [hx.tells]; unfold md; rw [wt_end h]; split <;> rfl
  have ty : ∀ t, look y t = if inS m t then some m.f2 else md l t := fun t => by
    rw [hy.tells]; unfold md; rw [wt_front h]; split <;> rfl
  refine ⟨Nrm_ext x y hx.nrm hy.nrm (fun t => by rw [tx, ty]), ?_, ?_⟩
  · refine Nrm_ext _ _ (cut_nrm hx.nrm) ⟨hm, rfl⟩ (fun t => ?_)
    rw [look_cut]
    by_cases hi : m.f0 ≤ t ∧ t < m.f1
    · rw [if_pos hi, tx, if_pos (by rw [inS_iff]; exact hi), look_cons_in (by rw [inS_iff]; exact hi)]
    · rw [if_neg hi, look_cons_out (by rw [inS_no]; show t < m.f0 ∨ m.f1 ≤ t; omega)]; rfl
  · refine Nrm_ext _ _ (cut_nrm hx.nrm) (cut_nrm hr.nrm) (fun t => ?_)
    rw [look_cut, look_cut]
    by_cases hi : lo ≤ t ∧ t < m.f0
    · rw [if_pos hi, if_pos hi, tx, if_neg (by rw [inS_iff]; omega), hr.tells]
    · rw [if_neg hi, if_neg hi]
theorem compact_sorted (d : Array Int) (hs : ∀ j, j + 1 < d.size → d[j]! ≤ d[j + 1]!) : ∀ m, m ≤ d.size →
    (compactUpTo d m).Pairwise (· < ·) ∧ (∀ x ∈ compactUpTo d m, 0 < m ∧ x ≤ d[m - 1]!) ∧ (∀ j, j < m → d[j]! ∈ compactUpTo d m) ∧ (compactUpTo d m).length ≤ m
  | 0, _ => ⟨by simp [compactUpTo], by simp [compactUpTo], fun j hj => absurd hj (Nat.not_lt_zero _), by simp [compactUpTo]⟩
  | m + 1, hm => by
    obtain ⟨h1, h2, h3, h4⟩ := compact_sorted d hs m (by omega)
    rw [compactUpTo_succ]
    by_cases hk : keeps d m = true
    · rw [if_pos hk]
      have hk' := hk
      unfold keeps at hk'
      simp only [decide_eq_true_eq] at hk'
      have hlt : ∀ x ∈ compactUpTo d m, x < d[m]! := fun x hx => by
        obtain ⟨h0, hx⟩ := h2 x hx
        have := hs (m - 1) (by omega)
        rw [show m - 1 + 1 = m by omega] at this
        rcases hk' with hk' | hk'
        · omega
        · omega
      refine ⟨?_, fun x hx => ⟨by omega, ?_⟩, fun j hj => ?_, by simp; omega⟩
      · rw [List.pairwise_append]
        refine ⟨h1, by simp, fun x hx y hy => ?_⟩
        simp at hy; subst hy; exact hlt x hx
      · rw [show m + 1 - 1 = m by omega]
        rcases List.mem_append.1 hx with hx | hx
        · exact Int.le_of_lt (hlt x hx)
        · simp at hx; subst hx; exact Int.le_refl _
      · rcases Nat.lt_or_ge j m with h | h
        · exact List.mem_append_left _ (h3 j h)
        · obtain rfl : j = m := by omega
          exact List.mem_append_right _ (by simp)
    · rw [if_neg hk, List.append_nil]
      unfold keeps at hk
      simp only [decide_eq_true_eq] at hk
      have e : m ≠ 0 ∧ d[m]! = d[m - 1]! := by
        refine ⟨fun h => hk (.inl h), ?_⟩
        by_cases h : d[m]! = d[m - 1]!
        · exact h
        · exact absurd (.inr h) hk
      refine ⟨h1, fun x hx => ⟨by omega, ?_⟩, fun j hj => ?_, by omega⟩
      · rw [show m + 1 - 1 = m by omega, e.2]; exact (h2 x hx).2
      · rcases Nat.lt_or_ge j m with h | h
        · exact h3 j h
        · obtain rfl : j = m := by omega
          rw [e.2]; exact h3 (j - 1) (by omega)
/-- Where spans begin and end, as they come. -/
def endsOf : List Spn → List Int
  | [] => []
  | s :: r => s.f0 :: s.f1 :: endsOf r
theorem endsOf_length : ∀ l : List Spn, (endsOf l).length = 2 * l.length
  | [] => rfl
  | s :: r => by simp [endsOf, endsOf_length r]; omega
theorem endsOf_append : ∀ a b : List Spn, endsOf (a ++ b) = endsOf a ++ endsOf b
  | [], _ => rfl
  | s :: r, b => by simp [endsOf, endsOf_append r b]
theorem mem_endsOf : ∀ {l : List Spn} {s : Spn}, s ∈ l → s.f0 ∈ endsOf l ∧ s.f1 ∈ endsOf l
  | x :: r, s, h => by
    rcases List.mem_cons.1 h with rfl | h
    · simp [endsOf]
    · have := mem_endsOf h
      simp [endsOf, this]
/-- The same in order, each once. -/
def sortedEnds (l : List Spn) : List Int := compact ((endsOf l).mergeSort (fun x y => decide (x ≤ y)))
theorem sortedEnds_spec (l : List Spn) : (sortedEnds l).Pairwise (· < ·) ∧ (∀ s ∈ l, s.f0 ∈ sortedEnds l ∧ s.f1 ∈ sortedEnds l) ∧ (sortedEnds l).length ≤ 2 * l.length := by
  unfold sortedEnds compact
  obtain ⟨z, hz⟩ : ∃ z, z = (endsOf l).mergeSort (fun x y => decide (x ≤ y)) := ⟨_, rfl⟩
  have hlen : z.length = 2 * l.length := by rw [hz, List.length_mergeSort, endsOf_length]
  have hs : z.Pairwise (fun x y => decide (x ≤ y) = true) := by
    rw [hz]; exact List.pairwise_mergeSort (fun a b c h1 h2 => by simp at h1 h2 ⊢; omega) (fun a b => by simp; omega) _
  have hm : ∀ x, x ∈ endsOf l → x ∈ z := fun x hx => by rw [hz]; exact List.mem_mergeSort.2 hx
  rw [← hz]
  have hget : ∀ j, (h : j < z.length) → z.toArray[j]! = z[j] := fun j h => by simp [h]
  obtain ⟨h1, h2, h3, h4⟩ := compact_sorted z.toArray (fun j hj => by
    have hj' : j + 1 < z.length := by simpa using hj
    rw [hget j (by omega), hget (j + 1) hj']
    have := List.pairwise_iff_getElem.1 hs j (j + 1) (by omega) hj' (by omega)
    simpa using this) z.length (by simp)
  refine ⟨h1, fun s hs' => ?_, by omega⟩
  have key : ∀ x ∈ endsOf l, x ∈ compactUpTo z.toArray z.length := fun x hx => by
    obtain ⟨j, hj, rfl⟩ := List.mem_iff_getElem.1 (hm x hx)
    rw [← hget j hj]; exact h3 j hj
  exact ⟨key _ (mem_endsOf hs').1, key _ (mem_endsOf hs').2⟩
/-- What k pieces come to. -/
def resN (l : List Spn) (E : List Int) : Nat → List Spn
  | 0 => []
  | k + 1 => stepR l (resN l E k) (E.getD k 0) (E.getD (k + 1) 0)
theorem sorted_between {E : List Int} (hE : E.Pairwise (· < ·)) {k : Nat} (hk : k + 1 < E.length) {x : Int} (hx : x ∈ E) : x ≤ E.getD k 0 ∨ E.getD (k + 1) 0 ≤ x := by
  obtain ⟨j, hj, rfl⟩ := List.mem_iff_getElem.1 hx
  rw [List.getD_eq_getElem?_getD, List.getD_eq_getElem?_getD, List.getElem?_eq_getElem hk, List.getElem?_eq_getElem (by omega : k < E.length)]
  simp only [Option.getD_some]
  rcases Nat.lt_trichotomy j k with h | h | h
  · left; have := List.pairwise_iff_getElem.1 hE j k hj (by omega) h; omega
  · subst h; left; exact Int.le_refl _
  · rcases Nat.lt_or_ge (k + 1) j with h' | h'
    · right; have := List.pairwise_iff_getElem.1 hE (k + 1) j hk hj h'; omega
    · obtain rfl : j = k + 1 := by omega
      right; exact Int.le_refl _
theorem inv_resN {l : List Spn} {E : List Int} (hE : E.Pairwise (· < ·)) (hm : ∀ s ∈ l, s.f0 ∈ E ∧ s.f1 ∈ E) : ∀ k, k < E.length → Inv l (resN l E k) (E.getD k 0)
  | 0, h => inv_start (fun s hs => by
      obtain ⟨j, hj, e⟩ := List.mem_iff_getElem.1 (hm s hs).1
      rw [List.getD_eq_getElem?_getD, List.getElem?_eq_getElem h, ← e]
      simp only [Option.getD_some]
      rcases Nat.eq_zero_or_pos j with h0 | h0
      · subst h0; exact Int.le_refl _
      · have := List.pairwise_iff_getElem.1 hE 0 j h hj h0; omega)
  | k + 1, h => inv_step (inv_resN hE hm k (by omega)) (by
      rw [List.getD_eq_getElem?_getD, List.getD_eq_getElem?_getD, List.getElem?_eq_getElem h, List.getElem?_eq_getElem (by omega : k < E.length)]
      exact List.pairwise_iff_getElem.1 hE k (k + 1) (by omega) h (by omega)) (fun s hs => ⟨sorted_between hE h (hm s hs).1, sorted_between hE h (hm s hs).2⟩)
/-- What spans come to, by their sorted ends. -/
def resS (l : List Spn) : List Spn := resN l (sortedEnds l) ((sortedEnds l).length - 1)
theorem comes_resS (l : List Spn) : Comes l (resS l) := by
  obtain ⟨h1, h2, h3⟩ := sortedEnds_spec l
  unfold resS
  by_cases h : (sortedEnds l).length = 0
  · rw [h]
    have hl : l = [] := by
      cases l with
      | nil => rfl
      | cons s r =>
        have := (h2 s (List.mem_cons_self)).1
        rw [List.length_eq_zero_iff.1 h] at this
        simp at this
    subst hl
    exact ⟨trivial, fun t => rfl⟩
  · refine comes_end (inv_resN h1 h2 ((sortedEnds l).length - 1) (by omega)) (fun s hs => ?_)
    obtain ⟨j, hj, e⟩ := List.mem_iff_getElem.1 (h2 s hs).2
    rw [List.getD_eq_getElem?_getD, List.getElem?_eq_getElem (by omega), ← e]
    simp only [Option.getD_some]
    rcases Nat.lt_or_ge j ((sortedEnds l).length - 1) with h' | h'
    · have := List.pairwise_iff_getElem.1 h1 j ((sortedEnds l).length - 1) hj (by omega) h'; omega
    · obtain rfl : j = (sortedEnds l).length - 1 := by omega
      exact Int.le_refl _
theorem stepR_length (l out : List Spn) (a b : Int) : (stepR l out a b).length ≤ out.length + 1 := by
  unfold stepR
  split
  · omega
  · split
    · simp
    · split
      · simp [List.length_append]
      · simp
theorem resN_length (l : List Spn) (E : List Int) : ∀ k, (resN l E k).length ≤ k
  | 0 => by simp [resN]
  | k + 1 => by have := stepR_length l (resN l E k) (E.getD k 0) (E.getD (k + 1) 0); have := resN_length l E k; simp only [resN]; omega
theorem resS_length (l : List Spn) : (resS l).length ≤ 2 * l.length := by
  have := resN_length l (sortedEnds l) ((sortedEnds l).length - 1)
  have := (sortedEnds_spec l).2.2
  unfold resS; omega
end Go.Proofs.Ytopmmbopankpgaa.H.SpTh
