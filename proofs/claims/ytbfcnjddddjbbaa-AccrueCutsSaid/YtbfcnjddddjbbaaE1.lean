/-
  What is earned, day by day: sums of what days cost.
-/
import Derived.Test.YtbfcnjddddjbbaaD8
namespace Go.Proofs.Ytbfcnjddddjbbaa
open Go Go.Ab Go.RowKit Go.Proofs

/-- What n days cost, from one on. -/
def dsum (f : stepT.den) : Int → Nat → Int
  | _, 0 => 0
  | a, n + 1 => valAt f a + dsum f (a + 1) n

theorem dsum_add (f : stepT.den) : (m n : Nat) → (a : Int) → dsum f a (m + n) = dsum f a m + dsum f (a + m) n
  | 0, n, a => by simp [dsum]
  | m + 1, n, a => by
    have h := dsum_add f m n (a + 1)
    rw [show m + 1 + n = (m + n) + 1 by omega]
    simp only [dsum]
    rw [h]
    have : a + 1 + (m : Int) = a + ((m + 1 : Nat) : Int) := by omega
    rw [this]
    omega

theorem dsum_nonneg {f : stepT.den} (h : ∀ d, 0 ≤ valAt f d) : (n : Nat) → (a : Int) → 0 ≤ dsum f a n
  | 0, a => Int.le_refl _
  | n + 1, a => by
    have := dsum_nonneg h n (a + 1)
    have := h a
    simp only [dsum]
    omega

theorem dsum_const {f : stepT.den} {v : Int} : (n : Nat) → (a : Int) → (∀ d, a ≤ d → d < a + n → valAt f d = v) → dsum f a n = n * v
  | 0, a, _ => by simp [dsum]
  | n + 1, a, h => by
    simp only [dsum]
    rw [h a (by omega) (by omega), dsum_const n (a + 1) (fun d h1 h2 => h d (by omega) (by omega))]
    grind

theorem cntLe_same {l : List Int} {a d : Int} (had : a ≤ d) (h : ∀ x ∈ l, x ≤ a ∨ d < x) : cntLe l d = cntLe l a := by
  unfold cntLe
  apply List.countP_congr
  intro x hx
  have := h x hx
  simp only [decide_eq_true_eq]
  omega

theorem valAt_same {f : stepT.den} {a d : Int} (had : a ≤ d) (h : ∀ x ∈ f.1, x ≤ a ∨ d < x) : valAt f d = valAt f a := by
  unfold valAt
  rw [cntLe_same had h]

theorem valAt_nonneg {f : stepT.den} (h : ∀ y ∈ f.2.1, 0 ≤ y) (d : Int) : 0 ≤ valAt f d := by
  unfold valAt
  split
  · exact Int.le_refl _
  · rename_i k _
    rw [List.getD_eq_getElem?_getD]
    cases hk : f.2.1[k]? with
    | none => simp
    | some y =>
      have := h y (List.mem_of_getElem? hk)
      simpa using this

theorem sumStep_of {s t a b v : Int} (hv : 0 ≤ v) (hab : a < b) (ht : t ≤ 4000000000000000000) :
    sumStep (s, t) (a, b, v) = if t + (b - a) * v ≤ 4000000000000000000 then some (s + (b - a) * v, t + (b - a) * v) else none := by
  have hm : max v (-v) = v := by omega
  unfold sumStep
  simp only [hm]
  have hiff : v > (4000000000000000000 - t) / (b - a) ↔ ¬ t + (b - a) * v ≤ 4000000000000000000 := by
    have := Int.le_ediv_iff_mul_le (a := v) (b := 4000000000000000000 - t) (c := b - a) (by omega)
    rw [Int.mul_comm v] at this
    omega
  by_cases h : t + (b - a) * v ≤ 4000000000000000000
  · rw [if_neg (by rw [hiff]; exact fun hc => hc h), if_pos h]
  · rw [if_pos (hiff.2 h), if_neg h]

/-- The pieces' sum is the days' sum. -/
theorem sumGo_days {f : stepT.den} (hv : ∀ d, 0 ≤ valAt f d) {e : Int} : (l : List Int) → (a s t : Int) → l.Pairwise (· < ·) → (∀ x ∈ f.1, x ≤ a ∨ e ≤ x ∨ x ∈ l) → a < e → t ≤ 4000000000000000000 →
    sumGo (piecesGo f e l a) (s, t) = if t + dsum f a (e - a).toNat ≤ 4000000000000000000 then some (s + dsum f a (e - a).toNat, t + dsum f a (e - a).toNat) else none
  | [], a, s, t, _, hc, hae, ht => by
    have hd : dsum f a (e - a).toNat = (e - a) * valAt f a := by
      rw [dsum_const (e - a).toNat a (fun d h1 h2 => valAt_same h1 (fun x hx => by
        rcases hc x hx with h | h | h
        · exact .inl h
        · exact .inr (by omega)
        · cases h))]
      congr 1
      omega
    rw [hd]
    simp only [piecesGo, sumGo]
    rw [sumStep_of (hv a) hae ht]
    split <;> rfl
  | d :: l, a, s, t, hp, hc, hae, ht => by
    obtain ⟨hp1, hp2⟩ := List.pairwise_cons.1 hp
    unfold piecesGo
    split
    · rename_i hsk
      refine sumGo_days hv l a s t hp2 (fun x hx => ?_) hae ht
      rcases hc x hx with h | h | h
      · exact .inl h
      · exact .inr (.inl h)
      · rcases List.mem_cons.1 h with rfl | h
        · rcases hsk with h | h
          · exact .inl h
          · exact .inr (.inl h)
        · exact .inr (.inr h)
    · rename_i hsk
      have hda : a < d := by omega
      have hde : d < e := by omega
      have hd : dsum f a (d - a).toNat = (d - a) * valAt f a := by
        rw [dsum_const (d - a).toNat a (fun d' h1 h2 => valAt_same h1 (fun x hx => by
          rcases hc x hx with h | h | h
          · exact .inl h
          · exact .inr (by omega)
          · rcases List.mem_cons.1 h with rfl | h
            · exact .inr (by omega)
            · have := hp1 x h
              exact .inr (by omega)))]
        congr 1
        omega
      have hsplit : dsum f a (e - a).toNat = dsum f a (d - a).toNat + dsum f d (e - d).toNat := by
        rw [show (e - a).toNat = (d - a).toNat + (e - d).toNat by omega, dsum_add]
        congr 2
        omega
      have hnn := dsum_nonneg hv (e - d).toNat d
      simp only [sumGo]
      rw [sumStep_of (hv a) hda ht, ← hd]
      by_cases h1 : t + dsum f a (d - a).toNat ≤ 4000000000000000000
      · rw [if_pos h1]
        show sumGo (piecesGo f e l d) _ = _
        have hc' : ∀ x ∈ f.1, x ≤ d ∨ e ≤ x ∨ x ∈ l := fun x hx => by
          rcases hc x hx with h | h | h
          · exact .inl (Int.le_trans h (Int.le_of_lt hda))
          · exact .inr (.inl h)
          · rcases List.mem_cons.1 h with rfl | h
            · exact .inl (Int.le_refl _)
            · exact .inr (.inr h)
        rw [sumGo_days hv l d _ _ hp2 hc' hde h1]
        rw [hsplit, Int.add_assoc, Int.add_assoc]
      · have hno : ¬ t + dsum f a (e - a).toNat ≤ 4000000000000000000 := by
          rw [hsplit]
          clear hd hsplit
          generalize dsum f a (d - a).toNat = A at *
          generalize dsum f d (e - d).toNat = B at *
          omega
        rw [if_neg h1, if_neg hno]
        rfl

/-- Steps that rise, with values of 0 or more. -/
structure Pos (f : stepT.den) : Prop where
  right : rightSt f = true
  pos : ∀ y ∈ f.2.1, 0 ≤ y

theorem Pos.val {f : stepT.den} (h : Pos f) (d : Int) : 0 ≤ valAt f d := valAt_nonneg h.pos d

theorem sumSt_days {f : stepT.den} (h : Pos f) {a e : Int} (ha : 1 ≤ a) (hae : a < e) (he : e ≤ 292195) :
    sumSt f (a, e, ()) = if dsum f a (e - a).toNat ≤ 4000000000000000000 then (dsum f a (e - a).toNat, 0) else (0, 5) := by
  obtain ⟨h1, h2, h3, h4⟩ := rightSt_spec h.right
  have hsum := sumGo_days h.val (e := e) f.1 a 0 0 h2 (fun x hx => .inr (.inr hx)) hae (by decide)
  simp only [Int.zero_add] at hsum
  unfold sumSt
  rw [if_pos ⟨h.right, fullS_iff.2 ⟨ha, hae, he⟩⟩, hsum]
  by_cases hc : dsum f a (e - a).toNat ≤ 4000000000000000000
  · rw [if_pos hc, if_pos hc]
  · rw [if_neg hc, if_neg hc]

/-- What all days ahead of one cost. -/
def Sd (f : stepT.den) (d : Int) : Int := dsum f 1 (clampD d - 1).toNat

theorem evenQ365 {p : Int} (h : 0 ≤ p) : evenQ p 365 = (p + 182) / 365 := by
  unfold evenQ
  split <;> omega

theorem even365 {p : Int} (h : 0 ≤ p) (h2 : p ≤ 4000000000000000000) : evenF p 1 365 = ((p + 182) / 365, 0) := by
  unfold evenF
  rw [Int.mul_one, evenQ365 h, if_neg (by omega), if_neg (by decide), if_neg (by omega)]

/-- What is earned ahead of a day. -/
theorem uptoO_days {f : stepT.den} (h : Pos f) (d : Int) : uptoO f d = if Sd f d ≤ 4000000000000000000 then ((Sd f d + 182) / 365, 0) else (0, 5) := by
  have hb := clampD_bd d
  have hnn := dsum_nonneg h.val (clampD d - 1).toNat 1
  unfold uptoO
  by_cases hd : clampD d = 1
  · rw [if_pos hd]
    have : Sd f d = 0 := by
      unfold Sd
      rw [hd]
      rfl
    rw [this, if_pos (by decide)]
    rfl
  · rw [if_neg hd, sumSt_days h (by decide) (by omega) hb.2]
    show uptoSE _ _ = _
    unfold Sd
    by_cases hc : dsum f 1 (clampD d - 1).toNat ≤ 4000000000000000000
    · rw [if_pos hc, if_pos hc]
      show uptoSE (dsum f 1 (clampD d - 1).toNat) 0 = _
      unfold uptoSE
      rw [if_neg (fun h => h rfl), even365 hnn hc, if_neg (fun h => h rfl)]
    · rw [if_neg hc, if_neg hc]
      rfl

theorem clampD_mono {a b : Int} (h : a ≤ b) : clampD a ≤ clampD b := by
  unfold clampD
  split <;> split <;> (try split) <;> (try split) <;> omega

theorem Sd_mono {f : stepT.den} (h : Pos f) {a b : Int} (hab : a ≤ b) : Sd f a ≤ Sd f b := by
  have hc := clampD_mono hab
  have ha := clampD_bd a
  unfold Sd
  rw [show (clampD b - 1).toNat = (clampD a - 1).toNat + (clampD b - clampD a).toNat by omega, dsum_add]
  have := dsum_nonneg h.val (clampD b - clampD a).toNat (1 + ((clampD a - 1).toNat : Int))
  omega

theorem Sd_nonneg {f : stepT.den} (h : Pos f) (a : Int) : 0 ≤ Sd f a := dsum_nonneg h.val _ _

theorem clamp_top : clampD 292195 = 292195 := by decide
theorem Sd_top {f : stepT.den} (h : Pos f) (a : Int) : Sd f a ≤ Sd f 292195 := by
  have ha := clampD_bd a
  have : Sd f a = Sd f (clampD a) := by
    unfold Sd
    have : clampD (clampD a) = clampD a := by
      generalize clampD a = c at ha
      unfold clampD
      rw [if_neg (show ¬ c < 1 by omega), if_neg (by omega)]
    rw [this]
  rw [this]
  exact Sd_mono h ha.2

end Go.Proofs.Ytbfcnjddddjbbaa
