/-
  What a year costs on each day is a step that rises; and a slice that is cut in two makes the same.
-/
import Derived.Test.YtbfcnjddddjbbaaE1
namespace Go.Proofs.Ytbfcnjddddjbbaa
open Go Go.Ab Go.RowKit Go.Proofs

theorem rises_snoc {d v : Int} : {l r : List Int} → (d0 v0 : Int) → l.length = r.length →
    rises (l ++ [d]) (r ++ [v]) d0 v0 = (rises l r d0 v0 && (decide (l.getLast?.getD d0 < d) && (decide (d ≤ 292194) && (!(v == r.getLast?.getD v0) && money v))))
  | [], [], d0, v0, _ => by
    show (_ && true) = (true && _)
    rw [Bool.and_true, Bool.true_and]
    rfl
  | [], _ :: _, _, _, h => by simp at h
  | _ :: _, [], _, _, h => by simp at h
  | a :: l, b :: r, d0, v0, h => by
    have ih := rises_snoc (d := d) (v := v) (l := l) (r := r) a b (by simpa using h)
    simp only [List.cons_append, rises]
    rw [ih]
    have e1 : (a :: l).getLast?.getD d0 = l.getLast?.getD a := by
      rw [List.getLast?_cons]
      rfl
    have e2 : (b :: r).getLast?.getD v0 = r.getLast?.getD b := by
      rw [List.getLast?_cons]
      rfl
    rw [e1, e2]
    simp only [Bool.and_assoc]

/-- Rising steps up to a day, with values of 0 or more. -/
structure Good (p : List Int × List Int) (m : Int) : Prop where
  len : p.1.length = p.2.length
  up : rises p.1 p.2 0 0 = true
  le : p.1.getLast?.getD 0 ≤ m
  pos : ∀ y ∈ p.2, 0 ≤ y

theorem getLast_le {l : List Int} {x : Int} (h : l.getLast? = some x) : l = l.dropLast ++ [x] := by
  cases l with
  | nil => simp at h
  | cons a l =>
    rw [List.getLast?_eq_some_getLast (by simp)] at h
    simp only [Option.some.injEq] at h
    rw [← h]
    exact (List.dropLast_concat_getLast (by simp)).symm

/-- Without the last. -/
theorem Good.pop {p : List Int × List Int} {m day : Int} (h : Good p m) (hl : p.1.getLast? = some day) : Good (p.1.dropLast, p.2.dropLast) (day - 1) ∧ day ≤ m := by
  obtain ⟨at_, val⟩ := p
  obtain ⟨h1, h2, h3, h4⟩ := h
  simp only at *
  have e1 := getLast_le hl
  cases hv : val.getLast? with
  | none =>
    have : val = [] := by simpa using hv
    subst this
    rw [e1] at h1
    simp at h1
  | some y =>
    have e2 := getLast_le hv
    have hlen : at_.dropLast.length = val.dropLast.length := by simp [h1]
    rw [e1, e2, rises_snoc 0 0 hlen] at h2
    simp only [Bool.and_eq_true, decide_eq_true_eq] at h2
    refine ⟨⟨hlen, h2.1, ?_, fun z hz => h4 z ?_⟩, ?_⟩
    · have := h2.2.1
      show at_.dropLast.getLast?.getD 0 ≤ day - 1
      omega
    · rw [e2]
      exact List.mem_append_left _ hz
    · rw [hl] at h3
      exact h3

theorem Good.push {p : List Int × List Int} {m day v : Int} (h : Good p m) (hd : m < day) (hday : day ≤ 292194) (hv : 0 ≤ v ∧ v ≤ 4000000000000000000) (hne : v ≠ p.2.getLast?.getD 0) : Good (p.1 ++ [day], p.2 ++ [v]) day := by
  obtain ⟨h1, h2, h3, h4⟩ := h
  refine ⟨by simp [h1], ?_, by simp, fun z hz => ?_⟩
  · show rises (p.1 ++ [day]) (p.2 ++ [v]) 0 0 = true
    rw [rises_snoc 0 0 h1, h2]
    have hm : money v = true := money_iff.2 (by omega)
    have hb : (v == p.2.getLast?.getD 0) = false := by simpa using hne
    have hlt : p.1.getLast?.getD 0 < day := by omega
    simp [hm, hb, hlt, hday]
  · rcases List.mem_append.1 hz with hz | hz
    · exact h4 z hz
    · simp only [List.mem_singleton] at hz
      subst hz
      exact hv.1

theorem Good.mono {p : List Int × List Int} {m m' : Int} (h : Good p m) (hm : m ≤ m') : Good p m' := ⟨h.len, h.up, Int.le_trans h.le hm, h.pos⟩

theorem Good.add {p : List Int × List Int} {m day v : Int} (h : Good p m) (hd : m ≤ day) (h1 : 1 ≤ day) (hv : 0 ≤ v ∧ v ≤ 4000000000000000000) : Good (addAV p day v) day := by
  unfold addAV
  by_cases hl : p.1.getLast? = some day
  · have hp := (h.pop hl).1
    simp only [hl, if_true]
    split
    · rename_i hc
      exact hp.push (by omega) hc.2 hv hc.1
    · exact hp.mono (by omega)
  · simp only [hl, if_false]
    have hlt : p.1.getLast?.getD 0 ≤ day - 1 := by
      have hle := h.le
      cases hx : p.1.getLast? with
      | none => show (0 : Int) ≤ _; omega
      | some x =>
        rw [hx] at hle hl
        have hne : x ≠ day := fun he => hl (by rw [he])
        have hle' : x ≤ m := hle
        show x ≤ _
        omega
    have hg : Good p (day - 1) := ⟨h.len, h.up, hlt, h.pos⟩
    split
    · rename_i hc
      exact hg.push (by omega) hc.2 hv hc.1
    · exact hg.mono (by omega)

theorem fullSl_iff {s : sliceT.den} {e : Int} : fullSl s e = true ↔ e ≤ s.1.1 ∧ s.1.1 < s.1.2.1 ∧ s.1.2.1 ≤ 292195 ∧ 0 ≤ s.2.2.2.2.1 ∧ s.2.2.2.2.1 ≤ 4000000000000000000 := by
  simp [fullSl]

theorem Good.addS {p : List Int × List Int} {s : sliceT.den} {e : Int} (h : Good p e) (he : 1 ≤ e) (hs : fullSl s e = true) : Good (addS p s) s.1.2.1 := by
  obtain ⟨h1, h2, h3, h4, h5⟩ := fullSl_iff.1 hs
  have hf : 1 ≤ s.1.1 := Int.le_trans he h1
  have ht : 1 ≤ s.1.2.1 := Int.le_trans hf (Int.le_of_lt h2)
  exact (h.add h1 hf ⟨h4, h5⟩).add (Int.le_of_lt h2) ht (by decide)

/-- Slices, and where they end. -/
def curveE : List sliceT.den → Int → List Int × List Int → Option (Int × (List Int × List Int))
  | [], e, p => some (e, p)
  | s :: l, e, p => if fullSl s e = true then curveE l s.1.2.1 (addS p s) else none

theorem curveGo_E : (l : List sliceT.den) → (e : Int) → (p : List Int × List Int) → curveGo l e p = (curveE l e p).map (·.2)
  | [], _, _ => rfl
  | s :: l, e, p => by
    simp only [curveGo, curveE]
    split
    · exact curveGo_E l _ _
    · rfl

theorem curveE_append (m : List sliceT.den) : (l : List sliceT.den) → (e : Int) → (p : List Int × List Int) → curveE (l ++ m) e p = (curveE l e p).bind fun q => curveE m q.1 q.2
  | [], _, _ => rfl
  | s :: l, e, p => by
    simp only [List.cons_append, curveE]
    split
    · exact curveE_append m l _ _
    · rfl

theorem curveE_good : {l : List sliceT.den} → {e : Int} → {p : List Int × List Int} → {q : Int × (List Int × List Int)} → Good p e → 1 ≤ e → curveE l e p = some q → Good q.2 q.1 ∧ 1 ≤ q.1
  | [], e, p, q, h, he, hq => by
    simp only [curveE, Option.some.injEq] at hq
    subst hq
    exact ⟨h, he⟩
  | s :: l, e, p, q, h, he, hq => by
    simp only [curveE] at hq
    split at hq
    · rename_i hs
      obtain ⟨h1, h2, _⟩ := fullSl_iff.1 hs
      have ht : 1 ≤ s.1.2.1 := Int.le_trans (Int.le_trans he h1) (Int.le_of_lt h2)
      exact curveE_good (h.addS he hs) ht hq
    · cases hq

theorem good0 : Good ([], []) 1 := ⟨rfl, rfl, by show (0 : Int) ≤ 1; decide, by simp⟩

theorem curve_pos {l : List sliceT.den} (h : (curveO l).isNone = false) : Pos (curveF l) := by
  unfold curveF
  unfold curveO at *
  split at h
  · rename_i hl
    rw [if_pos hl]
    rw [curveGo_E] at h ⊢
    cases hq : curveE l 1 ([], []) with
    | none => rw [hq] at h; cases h
    | some q =>
      have hg := (curveE_good good0 (by decide) hq).1
      show Pos (q.2.1, q.2.2, ())
      refine ⟨?_, hg.pos⟩
      simp only [rightSt, hg.up, Bool.and_true, decide_eq_true_eq]
      exact hg.len
  · cases h

/-- The last value, behind a slice that begins ahead of the last day. -/
theorem last_add {p : List Int × List Int} {day v : Int} (hd : day ≤ 292194) : (addAV p day v).2.getLast?.getD 0 = v := by
  unfold addAV
  generalize (if p.1.getLast? = some day then (p.1.dropLast, p.2.dropLast) else p) = q
  simp only
  split
  · simp
  · rename_i hc
    have : v = q.2.getLast?.getD 0 := by
      apply Classical.byContradiction
      intro hne
      exact hc ⟨hne, hd⟩
    exact this.symm

/-- On a day between, to nothing and back: as it was. -/
theorem add_back {q : List Int × List Int} {m d y : Int} (hq : Good q m) (hm : m < d) (hd : d ≤ 292194) (hy : q.2.getLast?.getD 0 = y) : addAV (addAV q d 0) d y = q := by
  have hne : q.1.getLast? ≠ some d := fun hl => by
    have hle := hq.le
    rw [hl] at hle
    have : d ≤ m := hle
    omega
  by_cases h0 : y = 0
  · have h1 : addAV q d 0 = q := by
      unfold addAV
      simp only [hne, if_false, hy, h0, ne_eq, not_true, false_and]
    rw [h1]
    unfold addAV
    simp only [hne, if_false, hy, ne_eq, not_true, false_and]
  · have h1 : addAV q d 0 = (q.1 ++ [d], q.2 ++ [0]) := by
      unfold addAV
      simp only [hne, if_false, hy]
      rw [if_pos ⟨Ne.symm h0, hd⟩]
    rw [h1]
    unfold addAV
    simp [hy]

/-- A slice in two. -/
theorem addS_two {p : List Int × List Int} {e d : Int} {s x y : sliceT.den} (hp : Good p e) (he : 1 ≤ e) (hs : fullSl s e = true) (h1 : s.1.1 < d) (h2 : d < s.1.2.1)
    (hx1 : x.1.1 = s.1.1) (hx2 : x.1.2.1 = d) (hx3 : x.2.2.2.2.1 = s.2.2.2.2.1) (hy1 : y.1.1 = d) (hy2 : y.1.2.1 = s.1.2.1) (hy3 : y.2.2.2.2.1 = s.2.2.2.2.1) :
    fullSl x e = true ∧ fullSl y d = true ∧ addS (addS p x) y = addS p s := by
  obtain ⟨g1, g2, g3, g4, g5⟩ := fullSl_iff.1 hs
  refine ⟨fullSl_iff.2 ?_, fullSl_iff.2 ?_, ?_⟩
  · rw [hx1, hx2, hx3]
    exact ⟨g1, h1, Int.le_trans (Int.le_of_lt h2) g3, g4, g5⟩
  · rw [hy1, hy2, hy3]
    exact ⟨Int.le_refl _, h2, g3, g4, g5⟩
  · have hf : 1 ≤ s.1.1 := Int.le_trans he g1
    have hq := hp.add g1 hf ⟨g4, g5⟩
    have hb : s.1.1 ≤ 292194 := by
      have : s.1.1 < 292195 := Int.lt_of_lt_of_le g2 g3
      exact Int.le_of_lt_add_one this
    have hdb : d ≤ 292194 := by
      have : d < 292195 := Int.lt_of_lt_of_le h2 g3
      exact Int.le_of_lt_add_one this
    unfold addS
    rw [hx1, hx2, hx3, hy1, hy2, hy3, add_back hq h1 hdb (last_add hb)]

end Go.Proofs.Ytbfcnjddddjbbaa
