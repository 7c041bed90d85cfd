/-
  Search in a list of rising numbers: what it answers, plainly.
-/
import Derived.Test.YtbfcnjddddjbbaaB2
namespace Go.Proofs.Ytbfcnjddddjbbaa
open Go Go.Ab Go.RowKit Go.Proofs

theorem cnt_spec {x : Int} : {l : List Int} → l.Pairwise (· < ·) → (∀ k y, k < cnt l x → l[k]? = some y → y < x) ∧ ∀ k y, cnt l x ≤ k → l[k]? = some y → ¬ y < x
  | [], _ => ⟨fun k y _ h => by simp at h, fun k y _ h => by simp at h⟩
  | a :: r, h => by
    obtain ⟨h1, h2⟩ := List.pairwise_cons.1 h
    obtain ⟨i1, i2⟩ := cnt_spec (x := x) h2
    by_cases ha : a < x
    · have hc : cnt (a :: r) x = cnt r x + 1 := by simp [cnt, List.countP_cons, ha]
      rw [hc]
      refine ⟨fun k y hk hy => ?_, fun k y hk hy => ?_⟩
      · cases k with
        | zero => simp at hy; omega
        | succ k => exact i1 k y (by omega) (by simpa using hy)
      · cases k with
        | zero => omega
        | succ k => exact i2 k y (by omega) (by simpa using hy)
    · have hz : cnt (a :: r) x = 0 := by
        unfold cnt
        rw [List.countP_eq_zero]
        intro y hy
        rcases List.mem_cons.1 hy with rfl | hy
        · simpa using ha
        · have := h1 y hy
          simp
          omega
      rw [hz]
      refine ⟨fun k y hk _ => by omega, fun k y _ hy => ?_⟩
      cases k with
      | zero => simp at hy; omega
      | succ k =>
        have hm : y ∈ r := List.mem_of_getElem? (by simpa using hy)
        have := h1 y hm
        omega

theorem cnt_mem {l : List Int} {x : Int} (h : l.Pairwise (· < ·)) : x ∈ l ↔ l[cnt l x]? = some x := by
  obtain ⟨h1, h2⟩ := cnt_spec (x := x) h
  constructor
  · intro hm
    obtain ⟨k, hk⟩ := List.mem_iff_getElem?.1 hm
    by_cases hlt : k < cnt l x
    · have := h1 k x hlt hk
      omega
    · by_cases he : k = cnt l x
      · rw [← he]; exact hk
      · have hkl := (List.getElem?_eq_some_iff.1 hk).1
        have hy : l[cnt l x]? = some (l[cnt l x]'(by omega)) := List.getElem?_eq_getElem (by omega)
        have a1 := up_get h (by omega) hy hk
        have a2 := h2 _ _ (Nat.le_refl _) hy
        omega
  · exact fun hk => List.mem_of_getElem? hk

theorem cnt_le (l : List Int) (x : Int) : cnt l x ≤ l.length := List.countP_le_length

theorem invB_start {l : List Int} {x : Int} (h : l.Pairwise (· < ·)) (hl : (l.length : Int) ≤ 9223372036854775807) : InvB l x 0 l.length :=
  ⟨Int.le_refl _, by omega, Int.le_refl _, hl, h, fun k y hk _ => by omega, fun k y hk hy => by
    have := (List.getElem?_eq_some_iff.1 hy).1
    omega⟩

theorem frS_val {l : List Int} {x : Int} (h : l.Pairwise (· < ·)) (hl : (l.length : Int) ≤ 9223372036854775807) : (frS (l, x, ())).ok ∧ (frS (l, x, ())).get = ((cnt l x : Int), l.contains x, ()) := by
  have hle := cnt_le l x
  refine ⟨⟨invB_start h hl, fun hd => ?_, fun _ hd => ?_, trivial⟩, ?_⟩
  · have hd' : (cnt l x : Int) < l.length := by simpa using hd
    exact ⟨by omega, hd'⟩
  · have hd' : (cnt l x : Int) < l.length := by simpa using hd
    exact ⟨by omega, hd'⟩
  · show ((cnt l x : Int), (bif decide ((cnt l x : Int) < l.length) then bif l.getD (cnt l x) i64.dflt == x then true else (bif false then false else false) else false), ()) = _
    have hb : (bif decide ((cnt l x : Int) < l.length) then bif l.getD (cnt l x) i64.dflt == x then true else (bif false then false else false) else false) = l.contains x := by
      have hm := cnt_mem (x := x) h
      by_cases hlt : cnt l x < l.length
      · have h1 : decide ((cnt l x : Int) < l.length) = true := by simpa using hlt
        have hg : l[cnt l x]? = some (l[cnt l x]'hlt) := List.getElem?_eq_getElem hlt
        have hd : l.getD (cnt l x) i64.dflt = l[cnt l x]'hlt := by rw [List.getD_eq_getElem?_getD, hg]; rfl
        rw [h1, hd]
        simp only [cond_true]
        by_cases he : l[cnt l x]'hlt = x
        · have : x ∈ l := hm.2 (by rw [hg, he])
          simp [he, this]
        · have : ¬ x ∈ l := fun hx => he (by have := hm.1 hx; rw [hg] at this; simpa using this)
          simp [he, this]
      · have h1 : decide ((cnt l x : Int) < l.length) = false := by simpa using hlt
        have : ¬ x ∈ l := fun hx => by
          have := hm.1 hx
          rw [List.getElem?_eq_none (by omega)] at this
          cases this
        rw [h1]
        simp [this]
    rw [hb]

def cSearch : Ct := ⟨[.d ints, .d i64], [i64, .bool], fun x => ((cnt x.1 x.2.1 : Int), x.1.contains x.2.1, ()), fun x => [x.1.Pairwise (· < ·)]⟩

theorem search_ok : SoundCt Try.prog 33 cSearch :=
  conv search_fr _ _ fun w F xs vs hr hok => by
    obtain ⟨l, x, _⟩ := xs
    obtain ⟨v, vs', rfl, hv, _⟩ := hr
    have hwf := RepT.wf hv.2.2
    have hlen : (l.length : Int) ≤ 9223372036854775807 := by
      have := hwf.1
      simp only [maxLen] at this
      omega
    exact frS_val hok hlen

end Go.Proofs.Ytbfcnjddddjbbaa
