/-
  Parts of the proof, one behind the other: E1, E2, AbE, H1, AbF, I1, I2, I3, I4, I5, I6, I7, I8, H2, H3.
-/
import Derived.Test.YtplkgghjldndkaaGreatMd
import Derived.IntWalk
import Derived.ScopeJumps
namespace Go.Proofs.YtplkgghjldndkaaGreat
open Go Go.Ab Go.RowKit Go.Proofs
def dsum (f : stepT.den) : Int -> Nat -> Int
 | _, 0 => 0
 | a, n + 1 => valAt f a + dsum f (a + 1) n
theorem dsum_add (f : stepT.den) : (m n : Nat) -> (a : Int) -> dsum f a (m + n) = dsum f a m + dsum f (a + m) n
 | 0, n, a => by simp [dsum]
 | m + 1, n, a => by
  have h := dsum_add f m n (a + 1)
  rw [show m + 1 + n = (m + n) + 1 by omega]
  simp only [dsum]
  rw [h]
  have : a + 1 + (m : Int) = a + ((m + 1 : Nat) : Int) := by omega
  rw [this]
  omega
theorem dsum_nonneg {f : stepT.den} (h : ∀ d, 0 <= valAt f d) : (n : Nat) -> (a : Int) -> 0 <= dsum f a n
 | 0, a => Int.le_refl _
 | n + 1, a => by
  have := dsum_nonneg h n (a + 1)
  have := h a
  simp only [dsum]
  omega
theorem dsum_const {f : stepT.den} {v : Int} : (n : Nat) -> (a : Int) -> (∀ d, a <= d -> d < a + n -> valAt f d = v) -> dsum f a n = n * v
 | 0, a, _ => by simp [dsum]
 | n + 1, a, h => by
  simp only [dsum]
  rw [h a (by omega) (by omega), dsum_const n (a + 1) (fun d h1 h2 => h d (by omega) (by omega))]
  grind
theorem cntLe_same {l : List Int} {a d : Int} (had : a <= d) (h : ∀ x ∈ l, x <= a ∨ d < x) : cntLe l d = cntLe l a := by
 unfold cntLe
 apply List.countP_congr
 intro x hx
 have := h x hx
 simp only [decide_eq_true_eq]
 omega
theorem valAt_same {f : stepT.den} {a d : Int} (had : a <= d) (h : ∀ x ∈ f.1, x <= a ∨ d < x) : valAt f d = valAt f a := by
 unfold valAt
 rw [cntLe_same had h]
theorem valAt_nonneg {f : stepT.den} (h : ∀ y ∈ f.2.1, 0 <= y) (d : Int) : 0 <= valAt f d := by
 unfold valAt
 split
 ·exact Int.le_refl _
 ·rename_i k _
  rw [List.getD_eq_getElem?_getD]
  cases hk : f.2.1[k]? with
  | none => simp
  | some y =>
   have := h y (List.mem_of_getElem? hk)
   simpa using this
theorem sumStep_of {s t a b v : Int} (hv : 0 <= v) (hab : a < b) (ht : t <= 4000000000000000000) :
  sumStep (s, t) (a, b, v) = if t + (b - a) * v <= 4000000000000000000 then some (s + (b - a) * v, t + (b - a) * v) else none := by
 have hm : max v (-v) = v := by omega
 unfold sumStep
 simp only [hm]
 have hiff : v > (4000000000000000000 - t) / (b - a) ↔ ¬ t + (b - a) * v <= 4000000000000000000 := by
  have := Int.le_ediv_iff_mul_le (a := v) (b := 4000000000000000000 - t) (c := b - a) (by omega)
  rw [Int.mul_comm v] at this
  omega
 by_cases h : t + (b - a) * v <= 4000000000000000000
 ·rw [if_neg (by rw [hiff]; exact fun hc => hc h), if_pos h]
 ·rw [if_pos (hiff.2 h), if_neg h]
theorem sumGo_days {f : stepT.den} (hv : ∀ d, 0 <= valAt f d) {e : Int} : (l : List Int) -> (a s t : Int) -> l.Pairwise (· < ·) -> (∀ x ∈ f.1, x <= a ∨ e <= x ∨ x ∈ l) -> a < e -> t <= 4000000000000000000 ->
  sumGo (piecesGo f e l a) (s, t) = if t + dsum f a (e - a).toNat <= 4000000000000000000 then some (s + dsum f a (e - a).toNat, t + dsum f a (e - a).toNat) else none
 | [], a, s, t, _, hc, hae, ht => by
  have hd : dsum f a (e - a).toNat = (e - a) * valAt f a := by
   rw [dsum_const (e - a).toNat a (fun d h1 h2 => valAt_same h1 (fun x hx => by
    rcases hc x hx with h | h | h
    ·exact .inl h
    ·exact .inr (by omega)
    ·cases h))]
   congr 1
   omega
  rw [hd]
  simp only [piecesGo, sumGo]
  rw [sumStep_of (hv a) hae ht]
  split <;> rfl
 | d :: l, a, s, t, hp, hc, hae, ht => by
  obtain ⟨hp1, hp2⟩ := List.pairwise_cons.1 hp
  unfold piecesGo
  split
  ·rename_i hsk
   refine sumGo_days hv l a s t hp2 (fun x hx => ?_) hae ht
   rcases hc x hx with h | h | h
   ·exact .inl h
   ·exact .inr (.inl h)
   ·rcases List.mem_cons.1 h with rfl | h
    ·rcases hsk with h | h
     ·exact .inl h
     ·exact .inr (.inl h)
    ·exact .inr (.inr h)
  ·rename_i hsk
   have hda : a < d := by omega
   have hde : d < e := by omega
   have hd : dsum f a (d - a).toNat = (d - a) * valAt f a := by
    rw [dsum_const (d - a).toNat a (fun d' h1 h2 => valAt_same h1 (fun x hx => by
     rcases hc x hx with h | h | h
     ·exact .inl h
     ·exact .inr (by omega)
     ·rcases List.mem_cons.1 h with rfl | h
      ·exact .inr (by omega)
      ·have := hp1 x h
       exact .inr (by omega)))]
    congr 1
    omega
   have hsplit : dsum f a (e - a).toNat = dsum f a (d - a).toNat + dsum f d (e - d).toNat := by
    rw [show (e - a).toNat = (d - a).toNat + (e - d).toNat by omega, dsum_add]
    congr 2
    omega
   have hnn := dsum_nonneg hv (e - d).toNat d
   simp only [sumGo]
   rw [sumStep_of (hv a) hda ht, ← hd]
   by_cases h1 : t + dsum f a (d - a).toNat <= 4000000000000000000
   ·rw [if_pos h1]
    show sumGo (piecesGo f e l d) _ = _
    have hc' : ∀ x ∈ f.1, x <= d ∨ e <= x ∨ x ∈ l := fun x hx => by
     rcases hc x hx with h | h | h
     ·exact .inl (Int.le_trans h (Int.le_of_lt hda))
     ·exact .inr (.inl h)
     ·rcases List.mem_cons.1 h with rfl | h
      ·exact .inl (Int.le_refl _)
      ·exact .inr (.inr h)
    rw [sumGo_days hv l d _ _ hp2 hc' hde h1]
    rw [hsplit, Int.add_assoc, Int.add_assoc]
   ·have hno : ¬ t + dsum f a (e - a).toNat <= 4000000000000000000 := by
     rw [hsplit]
     clear hd hsplit
     generalize dsum f a (d - a).toNat = A at *
     generalize dsum f d (e - d).toNat = B at *
     omega
    rw [if_neg h1, if_neg hno]
    rfl
structure Pos (f : stepT.den) : Prop where
 right : rightSt f = true
 pos : ∀ y ∈ f.2.1, 0 <= y
theorem Pos.val {f : stepT.den} (h : Pos f) (d : Int) : 0 <= valAt f d := valAt_nonneg h.pos d
theorem sumSt_days {f : stepT.den} (h : Pos f) {a e : Int} (ha : 1 <= a) (hae : a < e) (he : e <= 292195) :
  sumSt f (a, e, ()) = if dsum f a (e - a).toNat <= 4000000000000000000 then (dsum f a (e - a).toNat, 0) else (0, 5) := by
 obtain ⟨h1, h2, h3, h4⟩ := rightSt_spec h.right
 have hsum := sumGo_days h.val (e := e) f.1 a 0 0 h2 (fun x hx => .inr (.inr hx)) hae (by decide)
 simp only [Int.zero_add] at hsum
 unfold sumSt
 rw [if_pos ⟨h.right, fullS_iff.2 ⟨ha, hae, he⟩⟩, hsum]
 by_cases hc : dsum f a (e - a).toNat <= 4000000000000000000
 ·rw [if_pos hc, if_pos hc]
 ·rw [if_neg hc, if_neg hc]
def Sd (f : stepT.den) (d : Int) : Int := dsum f 1 (clampD d - 1).toNat
theorem evenQ365 {p : Int} (h : 0 <= p) : evenQ p 365 = (p + 182) / 365 := by
 unfold evenQ
 split <;> omega
theorem even365 {p : Int} (h : 0 <= p) (h2 : p <= 4000000000000000000) : evenF p 1 365 = ((p + 182) / 365, 0) := by
 unfold evenF
 rw [Int.mul_one, evenQ365 h, if_neg (by omega), if_neg (by decide), if_neg (by omega)]
theorem uptoO_days {f : stepT.den} (h : Pos f) (d : Int) : uptoO f d = if Sd f d <= 4000000000000000000 then ((Sd f d + 182) / 365, 0) else (0, 5) := by
 have hb := clampD_bd d
 have hnn := dsum_nonneg h.val (clampD d - 1).toNat 1
 unfold uptoO
 by_cases hd : clampD d = 1
 ·rw [if_pos hd]
  have : Sd f d = 0 := by
   unfold Sd
   rw [hd]
   rfl
  rw [this, if_pos (by decide)]
  rfl
 ·rw [if_neg hd, sumSt_days h (by decide) (by omega) hb.2]
  show uptoSE _ _ = _
  unfold Sd
  by_cases hc : dsum f 1 (clampD d - 1).toNat <= 4000000000000000000
  ·rw [if_pos hc, if_pos hc]
   show uptoSE (dsum f 1 (clampD d - 1).toNat) 0 = _
   unfold uptoSE
   rw [if_neg (fun h => h rfl), even365 hnn hc, if_neg (fun h => h rfl)]
  ·rw [if_neg hc, if_neg hc]
   rfl
theorem clampD_mono {a b : Int} (h : a <= b) : clampD a <= clampD b := by
 unfold clampD
 split <;> split <;> (try split) <;> (try split) <;> omega
theorem Sd_mono {f : stepT.den} (h : Pos f) {a b : Int} (hab : a <= b) : Sd f a <= Sd f b := by
 have hc := clampD_mono hab
 have ha := clampD_bd a
 unfold Sd
 rw [show (clampD b - 1).toNat = (clampD a - 1).toNat + (clampD b - clampD a).toNat by omega, dsum_add]
 have := dsum_nonneg h.val (clampD b - clampD a).toNat (1 + ((clampD a - 1).toNat : Int))
 omega
theorem Sd_top {f : stepT.den} (h : Pos f) (a : Int) : Sd f a <= Sd f 292195 := by
 have ha := clampD_bd a
 have : Sd f a = Sd f (clampD a) := by
  unfold Sd
  have : clampD (clampD a) = clampD a := by
   generalize clampD a = c at ha
   unfold clampD
   rw [if_neg (show ¬ c < 1 by omega), if_neg (by omega)]
  rw [this]
 rw [this]
 exact Sd_mono h ha.2
theorem rises_snoc {d v : Int} : {l r : List Int} -> (d0 v0 : Int) -> l.length = r.length ->
  rises (l ++ [d]) (r ++ [v]) d0 v0 = (rises l r d0 v0 && (decide (l.getLast?.getD d0 < d) && (decide (d <= 292194) && (!(v == r.getLast?.getD v0) && money v))))
 | [], [], d0, v0, _ => by
  show (_ && true) = (true && _)
  rw [Bool.and_true, Bool.true_and]
  rfl
 | [], _ :: _, _, _, h => by simp at h
 | _ :: _, [], _, _, h => by simp at h
 | a :: l, b :: r, d0, v0, h => by
  have ih := rises_snoc (d := d) (v := v) (l := l) (r := r) a b (by simpa using h)
  simp only [List.cons_append, rises]
  rw [ih]
  have e1 : (a :: l).getLast?.getD d0 = l.getLast?.getD a := by
   rw [List.getLast?_cons]
   rfl
  have e2 : (b :: r).getLast?.getD v0 = r.getLast?.getD b := by
   rw [List.getLast?_cons]
   rfl
  rw [e1, e2]
  simp only [Bool.and_assoc]
structure Good (p : List Int × List Int) (m : Int) : Prop where
 len : p.1.length = p.2.length
 up : rises p.1 p.2 0 0 = true
 le : p.1.getLast?.getD 0 <= m
 pos : ∀ y ∈ p.2, 0 <= y
theorem getLast_le {l : List Int} {x : Int} (h : l.getLast? = some x) : l = l.dropLast ++ [x] := by
 cases l with
 | nil => simp at h
 | cons a l =>
  rw [List.getLast?_eq_some_getLast (by simp)] at h
  simp only [Option.some.injEq] at h
  rw [← h]
  exact (List.dropLast_concat_getLast (by simp)).symm
theorem Good.pop {p : List Int × List Int} {m day : Int} (h : Good p m) (hl : p.1.getLast? = some day) : Good (p.1.dropLast, p.2.dropLast) (day - 1) /\ day <= m := by
 obtain ⟨at_, val⟩ := p
 obtain ⟨h1, h2, h3, h4⟩ := h
 simp only at *
 have e1 := getLast_le hl
 cases hv : val.getLast? with
 | none =>
  have : val = [] := by simpa using hv
  subst this
  rw [e1] at h1
  simp at h1
 | some y =>
  have e2 := getLast_le hv
  have hlen : at_.dropLast.length = val.dropLast.length := by simp [h1]
  rw [e1, e2, rises_snoc 0 0 hlen] at h2
  simp only [Bool.and_eq_true, decide_eq_true_eq] at h2
  refine ⟨⟨hlen, h2.1, ?_, fun z hz => h4 z ?_⟩, ?_⟩
  ·have := h2.2.1
   show at_.dropLast.getLast?.getD 0 <= day - 1
   omega
  ·rw [e2]
   exact List.mem_append_left _ hz
  ·rw [hl] at h3
   exact h3
theorem Good.push {p : List Int × List Int} {m day v : Int} (h : Good p m) (hd : m < day) (hday : day <= 292194) (hv : 0 <= v /\ v <= 4000000000000000000) (hne : v ≠ p.2.getLast?.getD 0) : Good (p.1 ++ [day], p.2 ++ [v]) day := by
 obtain ⟨h1, h2, h3, h4⟩ := h
 refine ⟨by simp [h1], ?_, by simp, fun z hz => ?_⟩
 ·show rises (p.1 ++ [day]) (p.2 ++ [v]) 0 0 = true
  rw [rises_snoc 0 0 h1, h2]
  have hm : money v = true := money_iff.2 (by omega)
  have hb : (v == p.2.getLast?.getD 0) = false := by simpa using hne
  have hlt : p.1.getLast?.getD 0 < day := by omega
  simp [hm, hb, hlt, hday]
 ·rcases List.mem_append.1 hz with hz | hz
  ·exact h4 z hz
  ·simp only [List.mem_singleton] at hz
   subst hz
   exact hv.1
theorem Good.mono {p : List Int × List Int} {m m' : Int} (h : Good p m) (hm : m <= m') : Good p m' := ⟨h.len, h.up, Int.le_trans h.le hm, h.pos⟩
theorem Good.add {p : List Int × List Int} {m day v : Int} (h : Good p m) (hd : m <= day) (h1 : 1 <= day) (hv : 0 <= v /\ v <= 4000000000000000000) : Good (addAV p day v) day := by
 unfold addAV
 by_cases hl : p.1.getLast? = some day
 ·have hp := (h.pop hl).1
  simp only [hl, if_true]
  split
  ·rename_i hc
   exact hp.push (by omega) hc.2 hv hc.1
  ·exact hp.mono (by omega)
 ·simp only [hl, if_false]
  have hlt : p.1.getLast?.getD 0 <= day - 1 := by
   have hle := h.le
   cases hx : p.1.getLast? with
   | none => show (0 : Int) <= _; omega
   | some x =>
    rw [hx] at hle hl
    have hne : x ≠ day := fun he => hl (by rw [he])
    have hle' : x <= m := hle
    show x <= _
    omega
  have hg : Good p (day - 1) := ⟨h.len, h.up, hlt, h.pos⟩
  split
  ·rename_i hc
   exact hg.push (by omega) hc.2 hv hc.1
  ·exact hg.mono (by omega)
theorem fullSl_iff {s : sliceT.den} {e : Int} : fullSl s e = true ↔ e <= s.1.1 /\ s.1.1 < s.1.2.1 /\ s.1.2.1 <= 292195 /\ 0 <= s.2.2.2.2.1 /\ s.2.2.2.2.1 <= 4000000000000000000 := by
 simp [fullSl]
theorem Good.addS {p : List Int × List Int} {s : sliceT.den} {e : Int} (h : Good p e) (he : 1 <= e) (hs : fullSl s e = true) : Good (addS p s) s.1.2.1 := by
 obtain ⟨h1, h2, h3, h4, h5⟩ := fullSl_iff.1 hs
 have hf : 1 <= s.1.1 := Int.le_trans he h1
 have ht : 1 <= s.1.2.1 := Int.le_trans hf (Int.le_of_lt h2)
 exact (h.add h1 hf ⟨h4, h5⟩).add (Int.le_of_lt h2) ht (by decide)
def curveE : List sliceT.den -> Int -> List Int × List Int -> Option (Int × (List Int × List Int))
 | [], e, p => some (e, p)
 | s :: l, e, p => if fullSl s e = true then curveE l s.1.2.1 (addS p s) else none
theorem curveGo_E : (l : List sliceT.den) -> (e : Int) -> (p : List Int × List Int) -> curveGo l e p = (curveE l e p).map (·.2)
 | [], _, _ => rfl
 | s :: l, e, p => by
  simp only [curveGo, curveE]
  split
  ·exact curveGo_E l _ _
  ·rfl
theorem curveE_good : {l : List sliceT.den} -> {e : Int} -> {p : List Int × List Int} -> {q : Int × (List Int × List Int)} -> Good p e -> 1 <= e -> curveE l e p = some q -> Good q.2 q.1 /\ 1 <= q.1
 | [], e, p, q, h, he, hq => by
  simp only [curveE, Option.some.injEq] at hq
  subst hq
  exact ⟨h, he⟩
 | s :: l, e, p, q, h, he, hq => by
  simp only [curveE] at hq
  split at hq
  ·rename_i hs
   obtain ⟨h1, h2, _⟩ := fullSl_iff.1 hs
   have ht : 1 <= s.1.2.1 := Int.le_trans (Int.le_trans he h1) (Int.le_of_lt h2)
   exact curveE_good (h.addS he hs) ht hq
  ·cases hq
theorem good0 : Good ([], []) 1 := ⟨rfl, rfl, by show (0 : Int) <= 1; decide, by simp⟩
theorem curve_pos {l : List sliceT.den} (h : (curveO l).isNone = false) : Pos (curveF l) := by
 unfold curveF
 unfold curveO at *
 split at h
 ·rename_i hl
  rw [if_pos hl]
  rw [curveGo_E] at h ⊢
  cases hq : curveE l 1 ([], []) with
  | none => rw [hq] at h; cases h
  | some q =>
   have hg := (curveE_good good0 (by decide) hq).1
   show Pos (q.2.1, q.2.2, ())
   refine ⟨?_, hg.pos⟩
   simp only [rightSt, hg.up, Bool.and_true, decide_eq_true_eq]
   exact hg.len
 ·cases h
end Go.Proofs.YtplkgghjldndkaaGreat
namespace Go.Ab
open Go Go.RowKit
def Ty.flat : Ty -> Bool
 | .sl _ => false
 | .fm _ => false
 | .pair a b => a.flat && b.flat
 | _ => true
section
variable {P : Program} {B : Nat} {w w' : World} {E : Env} {F F' : Nat -> Prop} {γ γ' : Nat -> Value} {m : Mem}
theorem RepT.flat : {t : Ty} -> t.flat = true -> {x : t.den} -> {g : Nat -> Value -> Prop} -> RepT w F t x g -> RepT w' F' t x g
 | .int _, _, _, _, h => h
 | .bool, _, _, _, h => h
 | .str, _, _, _, h => h
 | .unit, _, _, _, h => h
 | .sl _, hf, _, _, _ => by simp [Ty.flat] at hf
 | .fm _, hf, _, _, _ => by simp [Ty.flat] at hf
 | .pair a b, hf, _, _, h => by
  simp only [Ty.flat, Bool.and_eq_true] at hf
  exact ⟨RepT.flat hf.1 h.1, RepT.flat hf.2 h.2⟩
theorem RepV.flat {t : Ty} (hf : t.flat = true) {x : t.den} {v : Value} (h : RepV w F t x v) : RepV w' F' t x v := ⟨h.1, h.2.1, h.2.2.flat hf⟩
theorem RepVs.flat : {ts : List Ty} -> ts.all Ty.flat = true -> {x : denL ts} -> {vs : List Value} -> RepVs w F ts x vs -> RepVs w' F' ts x vs
 | [], _, _, _, h => h
 | t :: r, hf, _, _, ⟨v, vs', h1, h2, h3⟩ => by
  simp only [List.all_cons, Bool.and_eq_true] at hf
  exact ⟨v, vs', h1, h2.flat hf.1, RepVs.flat hf.2 h3⟩
theorem RepR.flat : {ts : List Ty} -> ts.all Ty.flat = true -> {x : denL ts} -> {v : Value} -> RepR w F ts x v -> RepR w' F' ts x v
 | [], hf, _, _, ⟨vs, h1, h2⟩ => ⟨vs, h1, RepVs.flat hf h2⟩
 | [t], hf, _, _, h => by
  simp only [List.all_cons, Bool.and_eq_true] at hf
  exact RepV.flat hf.1 h
 | t :: t' :: r, hf, _, _, ⟨vs, h1, h2⟩ => ⟨vs, h1, RepVs.flat hf h2⟩
theorem RowsL.flat {t : Ty} (hf : t.flat = true) {l : List t.den} {xs : List Value} (h : RowsL w F t l xs) : RowsL w' F' t l xs := fun i x hi => (h i x hi).flat hf
theorem ownsRow_base {B B' : Nat} {e : TypeId} {size n : Nat} {v : Value} {xs : List Value} (h : w.ownsRow B e size v n xs) (hb : ∀ g, v.ownBlock = some g -> B' <= g) : w.ownsRow B' e size v n xs := by
 refine ⟨h.1, h.2.imp id ?_⟩
 rintro ⟨g, cap, cur, rfl, _, rest⟩
 exact ⟨g, cap, cur, rfl, hb g rfl, rest⟩
structure Mt where
 e : TypeId
 T : Ty
 ps : List PT
 rs : List Ty
 f : List T.den -> denP ps -> List T.den × denL rs
 ok : List T.den -> denP ps -> List Prop
def MtPost (w : World) (mt : Mt) (v : Value) (y : List mt.T.den × denL mt.rs) (e : Ending) (w' : World) : Prop :=
 ∃ u rows, e = .returned u /\ w.grownBy w' v.ownBlock /\ w'.ownsRow 0 mt.e mt.T.size v y.1.length rows /\ RowsL w' (fun _ => False) mt.T y.1 rows /\ (∀ u ∈ rows, u.oneCell' = true) /\ RepR w' (fun _ => False) mt.rs y.2 u
structure SoundMt (P : Program) (f : FuncId) (mt : Mt) : Prop where
 flat : mt.T.flat = true
 flats : mt.rs.all Ty.flat = true
 enters : ∀ args w, (callFunc f args).run P w = .ok (.enter f args) w
 calls : ∀ (w : World) (F : Nat -> Prop) (l : List mt.T.den) (xs : denP mt.ps) (v : Value) (vs rows : List Value), (∀ b, F b -> b < w.heap.size) -> w.ownsRow 0 mt.e mt.T.size v l.length rows -> (∀ g, v.ownBlock = some g -> ¬ F g) ->
  RowsL w F mt.T l rows -> (∀ u ∈ rows, u.oneCell' = true) -> v.oneCell' = true -> RepPs P w F mt.ps xs vs -> conj (mt.ok l xs) -> Calls P f (v :: vs).toArray w (MtPost w mt v (mt.f l xs))
def mtK (Γ : FuncId -> Option Ct) (f : FuncId) (mt : Mt) (_d : Nat) (g : FuncId) (args : List AV) (s : St) : Option Tr :=
 if g = f then match args with
  | .c (.own id) :: rest => match rsAs s.mem rest with
   | some (xs, u) => match upds s.mem u id with
    | some (.arr e t l) => if h : t = mt.T then if e = mt.e then match decPs Γ mt.ps xs with
      | some (x, n) => some (needL (n ++ mt.ok (castL h l) x) (.leaf (.val (encR mt.rs (mt.f (castL h l) x).2)) ⟨s.n, s.sl, upd (upds s.mem u) id (.arr mt.e mt.T (mt.f (castL h l) x).1), s.gs⟩))
      | none => none
     else none else none
    | _ => none
   | none => none
  | _ => none
 else none
theorem mtK_ok {Γ : FuncId -> Option Ct} (hΓ : ∀ f ct, Γ f = some ct -> SoundCt P f ct) {f : FuncId} {mt : Mt} (h : SoundMt P f mt) : InlOK P (mtK Γ f mt) := by
 intro d g args s t ht
 unfold mtK at ht
 split at ht <;> try (cases ht; done)
 rename_i hg
 subst hg
 split at ht <;> try (cases ht; done)
 rename_i id rest
 split at ht <;> try (cases ht; done)
 rename_i xs u hrs
 split at ht <;> try (cases ht; done)
 rename_i e ty l hm1
 split at ht <;> try (cases ht; done)
 rename_i hty
 split at ht <;> try (cases ht; done)
 rename_i hee
 split at ht <;> try (cases ht; done)
 rename_i x n hdec
 simp only [Option.some.injEq] at ht
 subst ht
 subst hty
 subst hee
 refine ⟨h.enters, fun E a w F γ vs Q hi hr hq => ?_⟩
 obtain ⟨hn, hqv⟩ := needL_sat _ hq
 obtain ⟨hn1, hn2⟩ := conj_append.1 hn
 cases vs with
 | nil => exact hr.elim
 | cons v vs =>
  obtain ⟨⟨hone, hv⟩, hr⟩ := hr
  obtain ⟨F1, s1, m1, _, r1⟩ := rsAs_sound hi.mem (inv_bd hi) (SubM.of fun _ _ h => h) hrs hr
  have hps := decPs_rep hΓ hdec hn1 r1
  have hv1 : v = γ id := by
   have h2 : refOK (upds s.mem u) γ id v := s1.hR id v hv
   simpa [refOK, hm1] using h2
  obtain ⟨rows, o1, o2, o3, o4⟩ := m1.ob id _ hm1
  rw [← hv1] at o1 o2
  have hblk : ∀ g, v.ownBlock = some g -> E.B <= g /\ g < w.heap.size := fun g hg => o1.lt g hg
  have hc := h.calls w F1 l x v vs rows s1.bd (ownsRow_base o1 (fun _ _ => Nat.zero_le _)) o2 o3 o4 hone hps hn2
  refine hc.mono fun en w2 hp => ?_
  obtain ⟨u2, rows2, rfl, hgr, p1, p2, p3, p4⟩ := hp
  have hkeep : ∀ b, b < w.heap.size -> v.ownBlock ≠ some b -> w2.heap[b]? = w.heap[b]? := fun b hb hne => hgr.block b hb (fun h => hne h.symm)
  have hBs := Step.size' hi
  have hR : ∀ i v', refOK (upds s.mem u) γ i v' -> refOK (upd (upds s.mem u) id (.arr mt.e mt.T (mt.f l x).1)) γ i v' := fun i v' hv' => by
   unfold refOK at hv' ⊢
   by_cases hii : i = id
   ·subst hii
    rw [hm1] at hv'
    simpa [upd] using hv'
   ·simpa [upd, hii] using hv'
  have s2 : Step E.B w F1 γ (upds s.mem u) w2 F1 γ (upd (upds s.mem u) id (.arr mt.e mt.T (mt.f l x).1)) :=
   ⟨fun _ h => h, fun b hb => hkeep b (s1.bd b hb) (fun h => o2 b h hb), hR, fun b hb => hkeep b (by omega) (fun h => by have := (hblk b h).1; omega),
    hgr.os, hgr.tape, hgr.output, hgr.size, fun b hb => Nat.lt_of_lt_of_le (s1.bd b hb) hgr.size, fun b hb => .inl hb⟩
  have hex : ∀ i o, upd (upds s.mem u) id (.arr mt.e mt.T (mt.f l x).1) i = some o -> ∃ o0, upds s.mem u i = some o0 /\ exB o0 (γ i) = exB o (γ i) := fun i o ho => by
   by_cases hii : i = id
   ·subst hii
    simp only [upd, if_true, Option.some.injEq] at ho
    subst ho
    exact ⟨_, hm1, rfl⟩
   ·simp only [upd, if_neg hii] at ho
    exact ⟨o, ho, rfl⟩
  have m2 : MemOK P E.B w2 F1 γ (upd (upds s.mem u) id (.arr mt.e mt.T (mt.f l x).1)) := by
   refine ⟨fun i o ho => ?_, fun i j oi oj b hij hoi hoj hb hb' => ?_⟩
   ·by_cases hii : i = id
    ·subst hii
     simp only [upd, if_true, Option.some.injEq] at ho
     subst ho
     rw [← hv1]
     exact ⟨rows2, ownsRow_base p1 (fun g hg => (hblk g hg).1), o2, p2.flat h.flat, p3⟩
    ·simp only [upd, if_neg hii] at ho
     refine (m1.ob i o ho).keep (fun _ h => h) (fun b hb => hkeep b (s1.bd b hb) (fun h => o2 b h hb)) hR fun b hb => ?_
     obtain ⟨l1, l2, _⟩ := exB_lt (m1.ob i o ho) hb
     refine ⟨hkeep b l1 (fun hvb => ?_), l2⟩
     exact m1.apart i id o _ b hii ho hm1 hb (by rw [← hv1]; exact hvb)
   ·obtain ⟨oi0, a1, a2⟩ := hex i oi hoi
    obtain ⟨oj0, b1, b2⟩ := hex j oj hoj
    exact m1.apart i j oi0 oj0 b hij a1 b1 (a2.trans hb) (b2.trans hb')
  have s3 := s1.trans s2
  have hinv : InvG P E ⟨s.n, s.sl, upd (upds s.mem u) id (.arr mt.e mt.T (mt.f l x).1), s.gs⟩ a w2 [] F1 γ := by
   refine ⟨hi.n, hi.df, ?_, m2, fun t => (hi.sl t).mono s3.hF s3.hw s3.hR, hi.hg, fun t => s3.repA (hi.gh t)⟩
   obtain ⟨γ0, h0⟩ := hi.step
   exact ⟨γ0, h0.trans s3⟩
  exact ⟨.val (encR mt.rs (mt.f l x).2), _, F1, γ, hqv, hinv, u2, rfl, encR_rep (p4.flat h.flats)⟩
def startMt (n : Nat) (e : TypeId) (T : Ty) (l : List T.den) (args : List AV) : St :=
 ⟨n, fun i => (AV.c (.own (oid 0)) :: args).getD i .dead, fun i => if i = oid 0 then some (.arr e T l) else none, fun i => if i = 0 then .c (.own (oid 0)) else .dead⟩
def endM (P : Program) (rv : List ResultVar) (e : TypeId) (T : Ty) (rs : List Ty) (s : St) : Option (Fr (List T.den × denL rs)) :=
 match s.gs 0 with
 | .c (.own k) => match s.mem k with
  | some (.arr e' t l) => if h : t = T then if e' = e then match resAs P s rv with
    | some (vs, n) => match rsAs s.mem vs with
     | some (xs, _) => match decVs rs xs with
      | some y => some (Fr.needL n (.val (castL h l, y)))
      | none => none
     | none => none
    | none => none
   else none else none
  | _ => none
 | _ => none
def frM (P : Program) (rv : List ResultVar) (e : TypeId) (T : Ty) (rs : List Ty) : Tr -> Option (Fr (List T.den × denL rs))
 | .leaf .ret s => endM P rv e T rs s
 | .leaf .normal s => endM P rv e T rs s
 | .leaf _ _ => none
 | .br b x y => match frM P rv e T rs x, frM P rv e T rs y with
  | some x', some y' => some (.br b x' y')
  | _, _ => none
 | .need p x => match frM P rv e T rs x with
  | some x' => some (.need p x')
  | none => none
 | .two p x y => match frM P rv e T rs x, frM P rv e T rs y with
  | some x', some y' => some (.need (p -> x'.ok /\ x'.get = y'.get) y')
  | _, _ => none
theorem frM_sat {rv : List ResultVar} {e : TypeId} {T : Ty} {rs : List Ty} : {t : Tr} -> {f : Fr (List T.den × denL rs)} -> frM P rv e T rs t = some f -> f.ok -> t.sat fun x s => (x = .ret ∨ x = .normal) /\ ∃ n, endM P rv e T rs s = some (Fr.needL n (.val f.get)) /\ conj n
 | .leaf x s, f, h, hok => by
  have key : endM P rv e T rs s = some f -> ∃ n, endM P rv e T rs s = some (Fr.needL n (.val f.get)) /\ conj n := fun h => by
   have h0 := h
   unfold endM at h
   split at h <;> try (cases h; done)
   split at h <;> try (cases h; done)
   split at h <;> try (cases h; done)
   split at h <;> try (cases h; done)
   split at h <;> try (cases h; done)
   split at h <;> try (cases h; done)
   split at h <;> try (cases h; done)
   simp only [Option.some.injEq] at h
   subst h
   refine ⟨_, ?_, (needL_ok _ hok).1⟩
   rw [needL_get]
   exact h0
  cases x with
  | exit i => simp [frM] at h
  | panic i => simp [frM] at h
  | val i => simp [frM] at h
  | jump i => simp [frM] at h
  | normal => exact ⟨.inr rfl, key h⟩
  | ret => exact ⟨.inl rfl, key h⟩
 | .br b x y, f, h, hok => by
  simp only [frM] at h
  split at h <;> try (cases h; done)
  rename_i x' y' hx hy
  simp only [Option.some.injEq] at h
  subst h
  refine ⟨fun hb => ?_, fun hb => ?_⟩
  ·have := frM_sat hx (hok.1 hb)
   simpa only [Fr.get, hb, if_true] using this
  ·have := frM_sat hy (hok.2 hb)
   simpa only [Fr.get, hb, Bool.false_eq_true, if_false] using this
 | .need p x, f, h, hok => by
  simp only [frM] at h
  split at h <;> try (cases h; done)
  rename_i x' hx
  simp only [Option.some.injEq] at h
  subst h
  have := frM_sat hx hok.2
  exact ⟨hok.1, this⟩
 | .two p x y, f, h, hok => by
  simp only [frM] at h
  split at h <;> try (cases h; done)
  rename_i x' y' hx hy
  simp only [Option.some.injEq] at h
  subst h
  have h2 := frM_sat hy hok.2
  refine ⟨fun hp => ?_, h2⟩
  have := frM_sat hx (hok.1 hp).1
  rwa [(hok.1 hp).2] at this
def runMt (P : Program) (C : Cx) (Λ : Nat -> St -> Option Tr) (fn : Func) (e : TypeId) (T : Ty) (ps : List PT) (rs : List Ty) (l : List T.den) (xs : denP ps) : Option (Fr (List T.den × denL rs)) :=
 match fn.body with
 | some c => if (fn.name == "runtime.NumGoroutine") = false /\ ps.length + 1 <= fn.ntmps then match codeA P C 0 Λ c 0 (startMt fn.ntmps e T l (encPs ps xs)) with
   | some t => frM P fn.results.toList e T rs t
   | none => none
  else none
 | none => none
theorem mt_sound {C : Cx} (hC : CxOK P C) {Λ : Nat -> St -> Option Tr} {f : FuncId} {fn : Func} {e : TypeId} {T : Ty} {ps : List PT} {rs : List Ty} {fr : List T.den -> denP ps -> Fr (List T.den × denL rs)} (x0 : denP ps)
  (hf : P.funcs[f]? = some fn) (hT : T.flat = true) (hTs : rs.all Ty.flat = true) (hΛ : ∀ c E, fn.body = some c -> LamOK P E Λ c 0) (hrun : ∀ l xs, runMt P C Λ fn e T ps rs l xs = some (fr l xs)) :
  SoundMt P f ⟨e, T, ps, rs, fun l xs => (fr l xs).get, fun l xs => [(fr l xs).ok]⟩ := by
 have h0 := hrun [] x0
 unfold runMt at h0
 split at h0 <;> try (cases h0; done)
 rename_i c hb
 split at h0 <;> try (cases h0; done)
 rename_i hc
 refine ⟨hT, hTs, enters hf hb hc.1, fun w F l xs v vs rows hbd hown hnF hrows hcell hone hr hok => calls_of_wp hf hb ?_⟩
 have hr' := hrun l xs
 unfold runMt at hr'
 simp only [hb, hc, and_self, if_true] at hr'
 split at hr' <;> try (cases hr'; done)
 rename_i t ht
 have hlen : vs.length = ps.length := repPs_len hr
 have hFb : ∀ b, F b -> (b < w.heap.size /\ v.ownBlock ≠ some b) := fun b hb => ⟨hbd b hb, fun h => hnF b h hb⟩
 have hps : RepPs P w (fun b => b < w.heap.size /\ v.ownBlock ≠ some b) ps xs vs := RepPs.mono hFb (fun _ _ => rfl) hr
 have hargs : ∀ R : Nat -> Value -> Prop, R (oid 0) v -> Reps P w (fun b => b < w.heap.size /\ v.ownBlock ≠ some b) R (AV.c (.own (oid 0)) :: encPs ps xs) (v :: vs) := fun R hR => ⟨⟨hone, hR⟩, encPs_rep hps⟩
 have hstart : I P ⟨w, fun b => b < w.heap.size /\ v.ownBlock ≠ some b, fun _ => v, [], 0, Nat.zero_le _⟩ (startMt fn.ntmps e T l (encPs ps xs)) { tmps := (v :: vs).toArray ++ Array.replicate (fn.ntmps - (v :: vs).length) undef, defers := [] } w := by
  refine ⟨_, fun _ => v, ?_, rfl, ⟨fun _ => undef, ⟨fun _ h => h, fun _ _ => rfl, fun _ _ h => h.elim, fun b hb => absurd hb (Nat.not_lt_zero b), rfl, rfl, rfl, Nat.le_refl _, fun b hb => hb.1, fun b hb => .inl hb⟩⟩, ⟨fun id o ho => ?_, fun i j oi oj b hij hi hj => ?_⟩, fun t => ?_, fun t g want v ht => ?_, fun t => ?_⟩
  ·show _ = fn.ntmps
   simp only [Array.size_append, List.size_toArray, Array.size_replicate, List.length_cons]
   omega
  ·have ho' : (if id = oid 0 then some (Ob.arr e T l) else none) = some o := ho
   split at ho'
   ·simp only [Option.some.injEq] at ho'
    subst ho'
    exact ⟨rows, hown, fun g hg h => h.2 hg, hrows.flat hT, hcell⟩
   ·cases ho'
  ·have hi' : (if i = oid 0 then some (Ob.arr e T l) else none) = some oi := hi
   have hj' : (if j = oid 0 then some (Ob.arr e T l) else none) = some oj := hj
   split at hi'
   ·split at hj'
    ·rename_i h1 h2
     exact absurd (h1.trans h2.symm) hij
    ·cases hj'
   ·cases hi'
  ·have hg : ((v :: vs).toArray ++ Array.replicate (fn.ntmps - (v :: vs).length) undef).getD t undef = (v :: vs).getD t undef := by
    simp only [Array.getD_eq_getD_getElem?, List.getD_eq_getElem?_getD]
    rcases Nat.lt_or_ge t (v :: vs).length with hlt | hge
    ·rw [Array.getElem?_append_left (by simpa using hlt)]
     simp
    ·rw [Array.getElem?_append_right (by simpa using hge), List.getElem?_eq_none hge]
     simp only [Array.getElem?_replicate]
     split <;> rfl
   show SlotOK P w _ _ _ ((AV.c (.own (oid 0)) :: encPs ps xs).getD t .dead) (((v :: vs).toArray ++ Array.replicate (fn.ntmps - (v :: vs).length) undef).getD t undef)
   rw [hg]
   exact repA_slot (reps_get (hargs _ (by simp [refOK, startMt])) t)
  ·exfalso
   have := reps_get (hargs (fun _ _ => True) trivial) t
   have ht' : (AV.c (.own (oid 0)) :: encPs ps xs).getD t .dead = .maybe g want v := ht
   rw [ht'] at this
   exact this
  ·show RepA P w _ _ (if t = 0 then .c (.own (oid 0)) else .dead) v
   split
   ·exact ⟨hone, by simp [RepC, refOK, startMt]⟩
   ·trivial
 have hwp := codeA_sound hC c 0 (hΛ c _ hb) ht (frM_sat hr' hok) hstart
 have hsz : ((v :: vs).toArray).size = (v :: vs).length := by simp
 rw [hsz]
 refine wp_mono hwp ?_
 rintro ex a' w' ⟨xe, s, rfl, ⟨F', γ', hi⟩, hxe, n, hend, hnn⟩
 have hfin : a'.defers = [] /\ ∃ u, (results fn a'.tmps).run P w' = .ok u w' /\ MtPost w ⟨e, T, ps, rs, fun l xs => (fr l xs).get, fun l xs => [(fr l xs).ok]⟩ v (fr l xs).get (.returned u) w' := by
  unfold endM at hend
  split at hend <;> try (cases hend; done)
  rename_i k hgs
  split at hend <;> try (cases hend; done)
  rename_i e' t' l' hmk
  split at hend <;> try (cases hend; done)
  rename_i hty
  split at hend <;> try (cases hend; done)
  rename_i hee
  split at hend <;> try (cases hend; done)
  rename_i avs n' hres
  split at hend <;> try (cases hend; done)
  rename_i axs u hrs
  split at hend <;> try (cases hend; done)
  rename_i y hdec
  simp only [Option.some.injEq] at hend
  obtain ⟨hn', hy⟩ := needL_inj hend hnn
  subst hty
  subst hee
  obtain ⟨us, hran, hreps⟩ := res_run hi hres hn'
  obtain ⟨F'', hs, hm', _, hxs⟩ := rsAs_sound hi.mem (inv_bd hi) (SubM.of fun _ _ h => h) hrs hreps
  obtain ⟨γ0, h1⟩ := hi.step
  have hgv : v = γ' k := by
   have h2 := hi.gh 0
   rw [hgs] at h2
   have h3 : refOK s.mem γ' k v := h2.2
   simpa [refOK, hmk] using h3
  obtain ⟨rows2, q1, q2, q3, q4⟩ := hi.mem.ob k _ hmk
  rw [← hgv] at q1
  refine ⟨hi.df, _, results_run hran, _, rows2, rfl, ⟨h1.os, h1.tape, h1.output, h1.size, fun b hb hne => h1.hw b ⟨hb, fun h => hne h.symm⟩⟩, ?_, ?_, q4, ?_⟩
  ·rw [← hy]
   exact q1
  ·rw [← hy]
   exact q3.flat hT
  ·rw [← hy]
   exact (repR_of (decVs_rep hdec hxs)).flat hTs
 rcases hxe with rfl | rfl
 ·exact hfin
 ·exact hfin
theorem rowsL_wf {t : Ty} {l : List t.den} {xs : List Value} (h : RowsL w F t l xs) : ∀ x ∈ l, Wf t x := fun x hx => by
 obtain ⟨i, hi, rfl⟩ := List.mem_iff_getElem.1 hx
 exact RepT.wf (h i _ (List.getElem?_eq_getElem hi))
theorem ownsRow_len {e : TypeId} {size n : Nat} {v : Value} {xs : List Value} (h : w.ownsRow B e size v n xs) : n <= maxLen := by
 rcases h.2 with ⟨_, rfl⟩ | ⟨g, cap, cur, _, _, _, h1, h2, _⟩
 ·exact Nat.zero_le _
 ·exact Nat.le_trans h1 h2
theorem convMt {f : FuncId} {mt : Mt} (h : SoundMt P f mt) (g : List mt.T.den -> denP mt.ps -> List mt.T.den × denL mt.rs) (ok : List mt.T.den -> denP mt.ps -> List Prop)
  (hg : ∀ w F l xs vs, RepPs P w F mt.ps xs vs -> l.length <= maxLen -> (∀ x ∈ l, Wf mt.T x) -> conj (ok l xs) -> conj (mt.ok l xs) /\ mt.f l xs = g l xs) : SoundMt P f ⟨mt.e, mt.T, mt.ps, mt.rs, g, ok⟩ := by
 refine ⟨h.flat, h.flats, h.enters, fun w F l xs v vs rows hb ho hn hr hc h1 hp hok => ?_⟩
 obtain ⟨h2, h3⟩ := hg w F l xs vs hp (ownsRow_len ho) (rowsL_wf hr) hok
 have := h.calls w F l xs v vs rows hb ho hn hr hc h1 hp h2
 rw [h3] at this
 exact this
end
end Go.Ab

namespace Go.Ab
open Go Go.RowKit
def goL {T σ ρ : Type} (step : T -> σ -> Fr (σ ⊕ ρ)) : List T -> σ -> σ ⊕ ρ
 | [], s => .inl s
 | x :: r, s => match (step x s).get with
  | .inl s' => goL step r s'
  | .inr y => .inr y
def okL {T σ ρ : Type} (step : T -> σ -> Fr (σ ⊕ ρ)) : List T -> σ -> Prop
 | [], _ => True
 | x :: r, s => (step x s).ok /\ match (step x s).get with
  | .inl s' => okL step r s'
  | .inr _ => True
def isL {σ ρ : Type} : σ ⊕ ρ -> Bool
 | .inl _ => true
 | .inr _ => false
def getL {σ ρ : Type} (d : σ) : σ ⊕ ρ -> σ
 | .inl s => s
 | .inr _ => d
def getR {σ ρ : Type} (d : ρ) : σ ⊕ ρ -> ρ
 | .inl _ => d
 | .inr y => y
def Rd.up {X Y Z : Type} : Rd Empty Y Z -> Rd X Y Z
 | .next x => nomatch x
 | .out y => .out y
 | .back z => .back z
 | .pan p => .pan p
def dfL : (ts : List Ty) -> denL ts
 | [] => ()
 | t :: r => (t.dflt, dfL r)
def dfP : (ps : List PT) -> denP ps
 | [] => ()
 | .d t :: r => (t.dflt, dfP r)
 | .ptr t :: r => (t.dflt, dfP r)
 | .fn _ rs :: r => (fun _ => dfL rs, dfP r)
 | .pf _ rs :: r => ((fun _ => dfL rs, fun _ => False), dfP r)
def dfY : (fs : List YF) -> denY fs
 | [] => ()
 | (some _, _) :: r => ([], dfY r)
 | (none, t) :: r => (t.dflt, dfY r)
def dfM : (ms : List MI) -> denM ms
 | [] => ()
 | .o _ _ _ :: r => ([], dfM r)
 | .x _ _ ty :: r => (ty.dflt, dfM r)
 | .r _ _ _ :: r => dfM (r)
 | .y _ _ fs :: r => (dfY fs, dfM r)
 | .g _ _ _ :: r => dfM (r)
 | .al _ _ :: r => dfM (r)
section
variable {P : Program} {c : Code} {L Eo R : LS} {n id : Nat} {T σ ρ : Type}
structure InL (good : Prop) (u : Int × List T × σ) : Prop where
 good : good
 lo : 0 <= u.1
 hi : u.1 <= u.2.1.length
 big : (u.2.1.length : Int) <= 9223372036854775807
def FL (step : T -> σ -> Fr (σ ⊕ ρ)) (un : L.X -> Int × List T × σ) (good : L.X -> Prop) (outO : σ -> Eo.X) (outR : ρ -> Rd Empty Eo.X R.X) (d : σ) (d2 : ρ) (x : L.X) : Fr (Rd L.X Eo.X R.X) :=
 Fr.need (InL (good x) (un x)) (Fr.need (okL step ((un x).2.1.drop (un x).1.toNat) (un x).2.2)
  (Fr.br (isL (goL step ((un x).2.1.drop (un x).1.toNat) (un x).2.2)) (Fr.val (Rd.out (outO (getL d (goL step ((un x).2.1.drop (un x).1.toNat) (un x).2.2)))))
   (Fr.val (Rd.up (outR (getR d2 (goL step ((un x).2.1.drop (un x).1.toNat) (un x).2.2)))))))
theorem Does.list {fr : L.X -> Fr (Rd L.X Eo.X R.X)} (h : Does P c L ⟨n, id, L, Eo, R⟩ fr) (step : T -> σ -> Fr (σ ⊕ ρ)) (un : L.X -> Int × List T × σ) (good : L.X -> Prop) (outO : σ -> Eo.X) (outR : ρ -> Rd Empty Eo.X R.X) (d : σ) (d2 : ρ)
  (hround : ∀ x, good x -> 0 <= (un x).1 -> (un x).1 < (un x).2.1.length -> ((un x).2.1.length : Int) <= 9223372036854775807 -> ∀ e, (un x).2.1[(un x).1.toNat]? = some e -> ∀ Q : Rd L.X Eo.X R.X -> Prop,
   (step e (un x).2.2).satP (fun
    | .inl s' => ∀ x', un x' = ((un x).1 + 1, (un x).2.1, s') -> good x' -> Q (.next x')
    | .inr y => Q (Rd.up (outR y))) -> (fr x).satP Q)
  (hend : ∀ x, good x -> ¬ (un x).1 < (un x).2.1.length -> ∀ Q : Rd L.X Eo.X R.X -> Prop, Q (.out (outO (un x).2.2)) -> (fr x).satP Q) :
  Does P (.loop c) L ⟨n, id, L, Eo, R⟩ (FL step un good outO outR d d2) := by
 refine Does.loop (n := n) (id := id) h (inv := fun x => InL (good x) (un x)) (μ := fun x => (((un x).2.1.length : Int) - (un x).1).toNat) ?_ (fun x Q hq => hq.1)
 intro x hx Q hq
 obtain ⟨_, hok, hq1, hq2⟩ := hq
 by_cases hi : (un x).1 < (un x).2.1.length
 ·have hlo := hx.lo
  have hbig := hx.big
  have hl : (un x).1.toNat < (un x).2.1.length := by omega
  have e1 : (un x).2.1.drop (un x).1.toNat = (un x).2.1[(un x).1.toNat] :: (un x).2.1.drop ((un x).1.toNat + 1) := List.drop_eq_getElem_cons hl
  have hn : ((un x).1 + 1).toNat = (un x).1.toNat + 1 := by omega
  rw [e1] at hok hq1 hq2
  generalize he : (un x).2.1[(un x).1.toNat] = e at hok hq1 hq2
  have he' : (un x).2.1[(un x).1.toNat]? = some e := by rw [List.getElem?_eq_getElem hl, he]
  refine hround x hx.good hlo hi hbig e he' _ (Fr.satP_of hok.1 ?_)
  have hok2 := hok.2
  simp only [goL] at hq1 hq2
  cases hg : (step e (un x).2.2).get with
  | inl s' =>
   simp only [hg] at hok2 hq1 hq2
   intro x' hun hgd
   have e2 : (un x').1 = (un x).1 + 1 := by rw [hun]
   have e3 : (un x').2.1 = (un x).2.1 := by rw [hun]
   have e4 : (un x').2.2 = s' := by rw [hun]
   have hin : InL (good x') (un x') := ⟨hgd, by rw [e2]; omega, by rw [e2, e3]; omega, by rw [e3]; exact hbig⟩
   refine ⟨hin, by rw [e2, e3]; omega, hin, ?_, ?_, ?_⟩
   ·rw [e2, e3, e4, hn]; exact hok2
   ·rw [e2, e3, e4, hn]; exact hq1
   ·rw [e2, e3, e4, hn]; exact hq2
  | inr y =>
   simp only [hg] at hq1 hq2
   have := hq2 rfl
   simp only [getR] at this
   cases ho : outR y with
   | next x => exact nomatch x
   | out y2 => rw [ho] at this; simp only [ho, Rd.up]; exact this
   | back z => rw [ho] at this; simp only [ho, Rd.up]; exact this
   | pan p => rw [ho] at this; simp only [ho, Rd.up]; exact this
 ·have hl : (un x).2.1.drop (un x).1.toNat = [] := List.drop_eq_nil_of_le (by have := hx.lo; omega)
  rw [hl] at hq1
  exact hend x hx.good hi _ (hq1 rfl)
theorem okL_of {step : T -> σ -> Fr (σ ⊕ ρ)} (h : ∀ e s, (step e s).ok) : (l : List T) -> (s : σ) -> okL step l s
 | [], _ => trivial
 | e :: r, s => by
  refine ⟨h e s, ?_⟩
  split
  ·exact okL_of h r _
  ·trivial
theorem goL_const {step : T -> σ -> Fr (σ ⊕ ρ)} {c d : ρ} (h : ∀ e s y, (step e s).get = .inr y -> y = c) : (l : List T) -> (s : σ) -> isL (goL step l s) = false -> getR d (goL step l s) = c
 | [], _, hh => by cases hh
 | e :: r, s, hh => by
  simp only [goL] at hh ⊢
  cases hg : (step e s).get with
  | inl s' =>
   simp only [hg] at hh ⊢
   exact goL_const h r s' hh
  | inr y => exact h e s y hg
theorem zip_lt {A B : Type} {l : List A} {l2 : List B} (hz : l.length = l2.length) {i : Int} (h : i < ((l.zip l2).length : Int)) : i < (l.length : Int) := by
 simp only [List.length_zip] at h
 omega
theorem zip_nlt {A B : Type} {l : List A} {l2 : List B} (hz : l.length = l2.length) {i : Int} (h : ¬ i < ((l.zip l2).length : Int)) : ¬ i < (l.length : Int) := by
 simp only [List.length_zip] at h
 omega
theorem zip_le {A B : Type} {l : List A} {l2 : List B} (hz : l.length = l2.length) {b : Int} (h : ((l.zip l2).length : Int) <= b) : (l.length : Int) <= b := by
 simp only [List.length_zip] at h
 omega
theorem zip_fst {A B : Type} {l : List A} {l2 : List B} {i : Nat} {e : A × B} (h : (l.zip l2)[i]? = some e) : l[i]? = some e.1 := by
 rw [List.getElem?_zip_eq_some] at h
 exact h.1
theorem zip_snd {A B : Type} {l : List A} {l2 : List B} {i : Nat} {e : A × B} (h : (l.zip l2)[i]? = some e) : l2[i]? = some e.2 := by
 rw [List.getElem?_zip_eq_some] at h
 exact h.2
theorem getD_of {T : Type} {l : List T} {i : Nat} {e d : T} (h : l[i]? = some e) : l.getD i d = e := by
 rw [List.getD_eq_getElem?_getD, h]
 rfl
theorem wrap_next {i : Int} {n : Nat} (h0 : 0 <= i) (h1 : i < n) (h2 : (n : Int) <= 9223372036854775807) : IntKind.i64.wrap (i + 1) = i + 1 := IntWalk.i64_in _ (by omega)
theorem prev_wrap {i : Int} {n : Nat} (h0 : 0 <= i) (h1 : i < n) (h2 : (n : Int) <= 9223372036854775807) : IntKind.i64.wrap (i - 1) = i - 1 := IntWalk.i64_in _ (by omega)
theorem prev_get {T : Type} {l : List T} {i : Int} {e d : T} (h : l.getD i.toNat d = e) : l.getD (i + 1 - 1).toNat d = e := by
 rw [show i + 1 - 1 = i by omega]
 exact h
theorem prev_in {i : Int} {n : Nat} {b : Bool} (h1 : i < n) (hb : b = decide (i > 0)) (h : b = true) : 0 <= i - 1 /\ i - 1 < n := by
 rw [hb] at h
 have := of_decide_eq_true h
 omega
end
end Go.Ab

namespace Go.Ab
open Go Go.RowKit
section
variable {P : Program} {c : Code} {L Eo R : LS} {n id : Nat} {T σ ρ : Type}
end
end Go.Ab
namespace Go.Proofs.YtplkgghjldndkaaGreat
open Go Go.Ab Go.RowKit Go.Proofs
noncomputable def CH0 : Cx := cx [(83, cRightS), (58, cRightS)] []
theorem CH0_ok : CxOK Tryz.prog CH0 := cx_ok mixed ⟨right03_ok, rightS_ok, trivial⟩ trivial
def fr_riskR (x : denP [.d riskT]) : Fr (denL [.bool]) :=
 Fr.val (bif bif bif bif bif bif decide (x.1.1 ≥ 0) then decide (x.1.1 < 4) else false then bif decide (x.1.2.1 ≥ 1) then decide (x.1.2.1 <= 1000000000000000) else false else false then decide (x.1.2.2.1 ≥ 0) else false then decide (x.1.2.2.1 <= 200) else false then decide (x.1.2.2.2.1 ≥ 0) else false then decide (x.1.2.2.2.1 < 100) else false, ())
theorem fr_riskR_ok : SoundCt Tryz.prog 123 ⟨[.d riskT], [.bool], fun xs => (fr_riskR xs).get, fun xs => [(fr_riskR xs).ok]⟩ :=
 fn_sound CH0_ok (Λ := lam0) (fn := Tryz.f123) (dfP [.d riskT]) (by kernel_rfl) (fun c E _ => lam0_ok c 0) (fun x => by kernel_rfl)
def fr_riskR6 (x : denP [.d riskT]) : Fr (denL [.bool]) :=
 Fr.br (bif bif bif decide (x.1.1 < 0) then true else decide (x.1.1 > 3) then true else decide (x.1.2.1 < 1) then true else decide (x.1.2.1 > 1000000000000000)) (Fr.val (false, ())) (Fr.val (bif bif bif decide (x.1.2.2.1 ≥ 0) then decide (x.1.2.2.1 <= 200) else false then decide (x.1.2.2.2.1 ≥ 0) else false then decide (x.1.2.2.2.1 <= 99) else false, ()))
theorem fr_riskR6_ok : SoundCt Tryz.prog 116 ⟨[.d riskT], [.bool], fun xs => (fr_riskR6 xs).get, fun xs => [(fr_riskR6 xs).ok]⟩ :=
 fn_sound CH0_ok (Λ := lam0) (fn := Tryz.f116) (dfP [.d riskT]) (by kernel_rfl) (fun c E _ => lam0_ok c 0) (fun x => by kernel_rfl)
def fr_coverR8 (x : denP [.d coverT]) : Fr (denL [.bool]) :=
 Fr.br (bif bif bif decide (x.1.1 < 0) then true else decide (x.1.1 > 7) then true else decide (x.1.2.2.2.2.1 < 1) then true else decide (x.1.2.2.2.2.1 > 10000)) (Fr.val (false, ())) (Fr.val (bif bif bif decide (x.1.2.2.2.1 ≥ 0) then decide (x.1.2.2.2.1 < x.1.2.1) else false then decide (x.1.2.1 <= x.1.2.2.1) else false then decide (x.1.2.2.1 <= 1000000000000000) else false, ()))
theorem fr_coverR8_ok : SoundCt Tryz.prog 150 ⟨[.d coverT], [.bool], fun xs => (fr_coverR8 xs).get, fun xs => [(fr_coverR8 xs).ok]⟩ :=
 fn_sound CH0_ok (Λ := lam0) (fn := Tryz.f150) (dfP [.d coverT]) (by kernel_rfl) (fun c E _ => lam0_ok c 0) (fun x => by kernel_rfl)
def fr_dayC (x : denP [.d i64]) : Fr (denL [.bool]) :=
 Fr.val (bif decide (x.1 ≥ 1) then decide (x.1 <= 292194) else false, ())
theorem fr_dayC_ok : SoundCt Tryz.prog 105 ⟨[.d i64], [.bool], fun xs => (fr_dayC xs).get, fun xs => [(fr_dayC xs).ok]⟩ :=
 fn_sound CH0_ok (Λ := lam0) (fn := Tryz.f105) (dfP [.d i64]) (by kernel_rfl) (fun c E _ => lam0_ok c 0) (fun x => by kernel_rfl)
def fr_in3 (x : denP [.d spanT, .d i64]) : Fr (denL [.bool]) :=
 Fr.val (bif bif (cRightS.f ((x.1.1, x.1.2.1, ()), ())).1 then decide (x.1.1 <= x.2.1) else false then decide (x.2.1 < x.1.2.1) else false, ())
theorem fr_in3_ok : SoundCt Tryz.prog 70 ⟨[.d spanT, .d i64], [.bool], fun xs => (fr_in3 xs).get, fun xs => [(fr_in3 xs).ok]⟩ :=
 fn_sound CH0_ok (Λ := lam0) (fn := Tryz.f70) (dfP [.d spanT, .d i64]) (by kernel_rfl) (fun c E _ => lam0_ok c 0) (fun x => by kernel_rfl)
def fr_kept (x : denP [.d spanT]) : Fr (denL [spanT]) :=
 Fr.br (bif !(cRightS.f ((x.1.1, x.1.2.1, ()), ())).1 then true else x.1.1 == x.1.2.1) (Fr.val ((0, 0, ()), ())) (Fr.val ((x.1.1, x.1.2.1, ()), ()))
theorem fr_kept_ok : SoundCt Tryz.prog 103 ⟨[.d spanT], [spanT], fun xs => (fr_kept xs).get, fun xs => [(fr_kept xs).ok]⟩ :=
 fn_sound CH0_ok (Λ := lam0) (fn := Tryz.f103) (dfP [.d spanT]) (by kernel_rfl) (fun c E _ => lam0_ok c 0) (fun x => by kernel_rfl)
theorem ite_no (b v : Bool) : (if b = true then ((false, ()) : Bool × Unit) else (v, ())) = (!b && v, ()) := by cases b <;> rfl
def riskB (k v a z : Int) : Bool := decide (0 <= k /\ k < 4 /\ 1 <= v /\ v <= 1000000000000000 /\ 0 <= a /\ a <= 200 /\ 0 <= z /\ z < 100)
def cRisk : Ct := ⟨[.d riskT], [.bool], fun x => (riskB x.1.1 x.1.2.1 x.1.2.2.1 x.1.2.2.2.1, ()), fun _ => []⟩
theorem risk_ok : SoundCt Tryz.prog 123 cRisk :=
 conv fr_riskR_ok _ _ (fun _ _ x _ _ _ => by
  obtain ⟨⟨k, v, a, z, _⟩, _⟩ := x
  refine ⟨by simp [conj, Fr.ok, fr_riskR], ?_⟩
  dsimp only [fr_riskR, Fr.get, riskB, Ty.den, PT.den]
  simp only [Bool.cond_true_left, Bool.cond_false_right]
  congr 1
  rw [Bool.eq_iff_iff]
  simp only [Bool.and_eq_true, Bool.or_eq_true, decide_eq_true_eq]
  omega)
theorem risk6_ok : SoundCt Tryz.prog 116 cRisk :=
 conv fr_riskR6_ok _ _ (fun _ _ x _ _ _ => by
  obtain ⟨⟨k, v, a, z, _⟩, _⟩ := x
  refine ⟨by simp [conj, Fr.ok, fr_riskR6], ?_⟩
  dsimp only [fr_riskR6, Fr.get, riskB, Ty.den, PT.den]
  simp only [ite_no, Bool.cond_true_left, Bool.cond_false_right]
  congr 1
  rw [Bool.eq_iff_iff]
  simp only [Bool.and_eq_true, Bool.not_eq_true', Bool.or_eq_false_iff, decide_eq_true_eq, decide_eq_false_iff_not]
  omega)
def coverB (p l g d s : Int) : Bool := decide (0 <= p /\ p < 8 /\ 1 <= s /\ s <= 10000 /\ 0 <= d /\ d < l /\ l <= g /\ g <= 1000000000000000)
def cCover : Ct := ⟨[.d coverT], [.bool], fun x => (coverB x.1.1 x.1.2.1 x.1.2.2.1 x.1.2.2.2.1 x.1.2.2.2.2.1, ()), fun _ => []⟩
theorem cover8_ok : SoundCt Tryz.prog 150 cCover :=
 conv fr_coverR8_ok _ _ (fun _ _ x _ _ _ => by
  obtain ⟨⟨p, l, g, d, s, _⟩, _⟩ := x
  refine ⟨by simp [conj, Fr.ok, fr_coverR8], ?_⟩
  dsimp only [fr_coverR8, Fr.get, coverB, Ty.den, PT.den]
  simp only [ite_no, Bool.cond_true_left, Bool.cond_false_right]
  congr 1
  rw [Bool.eq_iff_iff]
  simp only [Bool.and_eq_true, Bool.not_eq_true', Bool.or_eq_false_iff, decide_eq_true_eq, decide_eq_false_iff_not]
  omega)
def dayB (d : Int) : Bool := decide (1 <= d /\ d <= 292194)
def cDay : Ct := ⟨[.d i64], [.bool], fun x => (dayB x.1, ()), fun _ => []⟩
theorem day_ok : SoundCt Tryz.prog 105 cDay :=
 conv fr_dayC_ok _ _ (fun _ _ x _ _ _ => by
  obtain ⟨d, _⟩ := x
  refine ⟨by simp [conj, Fr.ok, fr_dayC], ?_⟩
  dsimp only [fr_dayC, Fr.get, dayB, Ty.den, PT.den]
  simp only [Bool.cond_false_right]
  congr 1
  rw [Bool.eq_iff_iff]
  simp only [Bool.and_eq_true, decide_eq_true_eq, ge_iff_le])
def inB (a b d : Int) : Bool := decide (1 <= a /\ b <= 292195 /\ a <= d /\ d < b)
def cIn : Ct := ⟨[.d spanT, .d i64], [.bool], fun x => (inB x.1.1 x.1.2.1 x.2.1, ()), fun _ => []⟩
theorem in3_ok : SoundCt Tryz.prog 70 cIn :=
 conv fr_in3_ok _ _ (fun _ _ x _ _ _ => by
  obtain ⟨⟨a, b, _⟩, d, _⟩ := x
  refine ⟨by simp [conj, Fr.ok, fr_in3], ?_⟩
  dsimp only [fr_in3, Fr.get, inB, cRightS, rightS, Ty.den, PT.den]
  simp only [Bool.cond_true_left, Bool.cond_false_right]
  congr 1
  rw [Bool.eq_iff_iff]
  simp only [Bool.and_eq_true, decide_eq_true_eq]
  omega)
def keptS (s : spanT.den) : spanT.den := if fullS s = true then s else (0, 0, ())
def cKept : Ct := ⟨[.d spanT], [spanT], fun x => (keptS x.1, ()), fun _ => []⟩
theorem kept_p (a b : Int) : ((¬a ≥ 1 ∨ ¬a <= b ∨ ¬b <= 292195) ∨ a = b) ↔ (¬a ≥ 1 ∨ ¬a < b ∨ ¬b <= 292195) := by omega
theorem kept_b (a b : Int) : (bif !(rightS (a, b, ())) then true else a == b) = !(fullS (a, b, ())) := by
 dsimp only [rightS, fullS, Ty.den, PT.den]
 simp only [Bool.cond_true_left]
 rw [Bool.eq_iff_iff]
 simp only [Bool.and_eq_true, Bool.or_eq_true, Bool.not_eq_true', Bool.and_eq_false_iff, decide_eq_true_eq, decide_eq_false_iff_not, beq_iff_eq]
 exact kept_p a b
theorem kept_ok : SoundCt Tryz.prog 103 cKept :=
 conv fr_kept_ok _ _ (fun _ _ x _ _ _ => by
  obtain ⟨⟨a, b, _⟩, _⟩ := x
  refine ⟨by simp [conj, Fr.ok, fr_kept], ?_⟩
  show (if (bif !(rightS (a, b, ())) then true else a == b) = true then (((0, 0, ()), ()) : spanT.den × Unit) else ((a, b, ()), ())) = (if fullS (a, b, ()) = true then (a, b, ()) else (0, 0, ()), ())
  rw [kept_b]
  cases fullS (a, b, ()) <;> rfl)
noncomputable def CH1 : Cx := cx [(103, cKept)] []
theorem CH1_ok : CxOK Tryz.prog CH1 := cx_ok mixed ⟨kept_ok, trivial⟩ trivial
end Go.Proofs.YtplkgghjldndkaaGreat
namespace Go.Ab
variable {α : Type} {key : α -> Int}
def SortK (key : α -> Int) (l : List α) : Prop := l.Pairwise fun x y => key x <= key y
def SameK (key : α -> Int) (l s : List α) : Prop := ∀ k, s.filter (fun x => key x == k) = l.filter (fun x => key x == k)
theorem SameK.refl (l : List α) : SameK key l l := fun _ => rfl
theorem SameK.trans {a b c : List α} (h : SameK key a b) (k : SameK key b c) : SameK key a c := fun n => (k n).trans (h n)
theorem SameK.symm {a b : List α} (h : SameK key a b) : SameK key b a := fun n => (h n).symm
theorem SameK.app {a b c d : List α} (h : SameK key a b) (k : SameK key c d) : SameK key (a ++ c) (b ++ d) := fun n => by simp [h n, k n]
theorem SameK.mem {l s : List α} (h : SameK key l s) {x : α} : x ∈ s ↔ x ∈ l := by
 have := congrArg (x ∈ ·) (h (key x))
 simpa [List.mem_filter] using this
theorem SameK.swap {a b : List α} (h : ∀ x ∈ a, ∀ y ∈ b, key x ≠ key y) : SameK key (a ++ b) (b ++ a) := fun n => by
 simp only [List.filter_append]
 by_cases ha : ∃ x ∈ a, key x = n
 ·obtain ⟨x, hx, hk⟩ := ha
  have hb : b.filter (fun x => key x == n) = [] := by
   rw [List.filter_eq_nil_iff]
   intro y hy
   have := h x hx y hy
   simp
   omega
  rw [hb]
  simp
 ·have ha' : a.filter (fun x => key x == n) = [] := by
   rw [List.filter_eq_nil_iff]
   intro y hy hk
   exact ha ⟨y, hy, by simpa using hk⟩
  rw [ha']
  simp
theorem SameK.eq : {s t : List α} -> SortK key s -> SortK key t -> SameK key s t -> s = t
 | [], t, _, _, h => by
  cases t with
  | nil => rfl
  | cons y t => have := (h.mem (x := y)).1 (by simp); simp at this
 | x :: s, [], _, _, h => by have := (h.mem (x := x)).2 (by simp); simp at this
 | x :: s, y :: t, hs, ht, h => by
  have hs' := List.pairwise_cons.1 hs
  have ht' := List.pairwise_cons.1 ht
  have hxy : key x <= key y := by
   rcases List.mem_cons.1 ((h.mem (x := y)).1 (by simp)) with e | e
   ·exact Int.le_of_eq (by rw [e])
   ·exact hs'.1 y e
  have hyx : key y <= key x := by
   rcases List.mem_cons.1 ((h.mem (x := x)).2 (by simp)) with e | e
   ·exact Int.le_of_eq (by rw [e])
   ·exact ht'.1 x e
  have hk : key x = key y := by omega
  have h0 := h (key x)
  simp only [List.filter_cons, hk, beq_self_eq_true, if_true, List.cons.injEq] at h0
  obtain ⟨rfl, h0⟩ := h0
  have : s = t := SameK.eq hs'.2 ht'.2 fun n => by
   have := h n
   simp only [List.filter_cons] at this
   split at this
   ·simpa using this
   ·exact this
  rw [this]
def insB (lt : α -> α -> Bool) (x : α) : List α -> List α
 | [] => [x]
 | y :: r => if lt y x then y :: insB lt x r else x :: y :: r
def sortB (lt : α -> α -> Bool) : List α -> List α
 | [] => []
 | x :: r => insB lt x (sortB lt r)
theorem insB_perm {lt : α -> α -> Bool} {x : α} : (l : List α) -> (insB lt x l).Perm (x :: l)
 | [] => List.Perm.refl _
 | y :: r => by
  simp only [insB]
  split
  ·exact (List.Perm.cons y (insB_perm r)).trans (List.Perm.swap x y r)
  ·exact List.Perm.refl _
theorem sortB_perm {lt : α -> α -> Bool} : (l : List α) -> (sortB lt l).Perm l
 | [] => List.Perm.refl _
 | x :: r => (insB_perm _).trans (List.Perm.cons x (sortB_perm r))
theorem sortB_length {lt : α -> α -> Bool} (l : List α) : (sortB lt l).length = l.length := (sortB_perm l).length_eq
theorem sortB_mem {lt : α -> α -> Bool} {l : List α} {x : α} : x ∈ sortB lt l ↔ x ∈ l := (sortB_perm l).mem_iff
def LtK (lt : α -> α -> Bool) (key : α -> Int) (l : List α) : Prop := ∀ x ∈ l, ∀ y ∈ l, lt x y = decide (key x < key y)
theorem LtK.sub {lt : α -> α -> Bool} {l s : List α} (h : LtK lt key l) (hs : ∀ x ∈ s, x ∈ l) : LtK lt key s := fun x hx y hy => h x (hs x hx) y (hs y hy)
theorem insB_sort {lt : α -> α -> Bool} {x : α} : {l : List α} -> LtK lt key (x :: l) -> SortK key l -> SortK key (insB lt x l) /\ SameK key (x :: l) (insB lt x l)
 | [], _, _ => ⟨List.pairwise_singleton _ _, SameK.refl _⟩
 | y :: r, h, hs => by
  have hs' := List.pairwise_cons.1 hs
  have hl := h y (by simp) x (by simp)
  simp only [insB]
  split
  ·rename_i hyx
   rw [hyx] at hl
   have hlt : key y < key x := by simpa using hl.symm
   obtain ⟨h1, h2⟩ := insB_sort (x := x) (h.sub (by intro z hz; simp at hz ⊢; rcases hz with rfl | hz <;> simp [*])) hs'.2
   refine ⟨List.pairwise_cons.2 ⟨fun z hz => ?_, h1⟩, ?_⟩
   ·rcases List.mem_cons.1 ((h2.mem).1 hz) with rfl | hz
    ·omega
    ·exact hs'.1 z hz
   ·have h3 : SameK key ([x] ++ [y]) ([y] ++ [x]) := SameK.swap fun a ha b hb => by simp at ha hb; subst ha; subst hb; omega
    have h4 : SameK key (([x] ++ [y]) ++ r) (([y] ++ [x]) ++ r) := h3.app (SameK.refl r)
    have h5 : SameK key ([y] ++ (x :: r)) ([y] ++ insB lt x r) := (SameK.refl [y]).app h2
    exact h4.trans h5
  ·rename_i hyx
   have hf : lt y x = false := by simpa using hyx
   rw [hf] at hl
   have hle : key x <= key y := by simpa using hl.symm
   exact ⟨List.pairwise_cons.2 ⟨fun z hz => by
    rcases List.mem_cons.1 hz with rfl | hz
    ·exact hle
    ·exact Int.le_trans hle (hs'.1 z hz), hs⟩, SameK.refl _⟩
theorem sortB_sort {lt : α -> α -> Bool} : {l : List α} -> LtK lt key l -> SortK key (sortB lt l) /\ SameK key l (sortB lt l)
 | [], _ => ⟨List.Pairwise.nil, SameK.refl _⟩
 | x :: r, h => by
  obtain ⟨h1, h2⟩ := sortB_sort (l := r) (h.sub (by intro z hz; simp [hz]))
  obtain ⟨h3, h4⟩ := insB_sort (x := x) (l := sortB lt r) (h.sub (by
   intro z hz
   rcases List.mem_cons.1 hz with rfl | hz
   ·simp
   ·simp [sortB_mem.1 hz])) h1
  exact ⟨h3, SameK.trans (SameK.app (SameK.refl [x]) h2) h4⟩
theorem eq_sortB {lt : α -> α -> Bool} {l s : List α} (h : LtK lt key l) (hs : SortK key s) (hk : SameK key l s) : s = sortB lt l := by
 obtain ⟨h1, h2⟩ := sortB_sort h
 exact SameK.eq hs h1 (hk.symm.trans h2)
def partB (lt : α -> α -> Bool) (a b : Nat) (l : List α) : List α := l.take a ++ (sortB lt ((l.take b).drop a) ++ l.drop b)
theorem partB_eq {lt : α -> α -> Bool} {a b : Nat} {p s q : List α} (ha : p.length = a) (hb : (p ++ s).length = b) : partB lt a b (p ++ (s ++ q)) = p ++ (sortB lt s ++ q) := by
 subst ha hb
 have h1 : (p ++ (s ++ q)).take (p ++ s).length = p ++ s := by rw [← List.append_assoc]; exact List.take_left' rfl
 have h2 : (p ++ (s ++ q)).drop (p ++ s).length = q := by rw [← List.append_assoc]; exact List.drop_left' rfl
 unfold partB
 rw [h1, h2, List.take_left' rfl, List.drop_left' rfl]
theorem split3 {l : List α} {a b : Nat} (hab : a <= b) (hb : b <= l.length) : ∃ p s q, l = p ++ (s ++ q) /\ p.length = a /\ s.length = b - a /\ q.length = l.length - b :=
 ⟨l.take a, (l.take b).drop a, l.drop b, by
  have h1 : (l.take b).take a = l.take a := by rw [List.take_take, Nat.min_eq_left hab]
  rw [← List.append_assoc, ← h1, List.take_append_drop, List.take_append_drop], by simp; omega, by simp; omega, by simp⟩
def swapL (l : List α) (d : α) (i j : Nat) : List α := (l.set i (l.getD j d)).set j (l.getD i d)
end Go.Ab

namespace Go.Ab
section
variable {α : Type} {key : α -> Int} {d : α}
theorem getD_mid {p s q : List α} {i : Nat} (h : i < s.length) : (p ++ (s ++ q)).getD (p.length + i) d = s.getD i d := by
 simp [List.getD_eq_getElem?_getD, List.getElem?_append_right, List.getElem?_append_left h]
theorem swap_cons {p r q : List α} {x y : α} {i j : Nat} (hi : i = p.length) (hj : j = p.length + 1 + r.length) : swapL (p ++ (x :: (r ++ (y :: q)))) d i j = p ++ (y :: (r ++ (x :: q))) := by
 subst hi hj
 unfold swapL
 have h1 : (p ++ (x :: (r ++ (y :: q)))).getD (p.length + 1 + r.length) d = y := by
  rw [show p ++ (x :: (r ++ (y :: q))) = (p ++ [x] ++ r) ++ (y :: q) by simp]
  simp only [List.getD_eq_getElem?_getD]
  rw [List.getElem?_append_right (by simp; omega)]
  simp [show p.length + 1 + r.length - (p.length + (r.length + 1)) = 0 by omega]
 have h2 : (p ++ (x :: (r ++ (y :: q)))).getD p.length d = x := by simp [List.getD_eq_getElem?_getD]
 rw [h1, h2]
 have h3 : (p ++ (x :: (r ++ (y :: q)))).set p.length y = p ++ (y :: (r ++ (y :: q))) := by simp
 rw [h3]
 rw [show p ++ (y :: (r ++ (y :: q))) = (p ++ [y] ++ r) ++ (y :: q) by simp, List.set_append_right _ _ (by simp; omega)]
 simp [show p.length + 1 + r.length - (p.length + (r.length + 1)) = 0 by omega]
theorem swap_next {p q : List α} {x y : α} {i : Nat} (hi : i = p.length) : swapL (p ++ (x :: (y :: q))) d i (i + 1) = p ++ (y :: (x :: q)) :=
 swap_cons (r := []) hi (by simp [hi])
theorem swapL_comm {l : List α} {i j : Nat} (h : i ≠ j) : swapL l d j i = swapL l d i j := by
 unfold swapL
 rw [List.set_comm _ _ (by omega)]
theorem swap_prev {p q : List α} {x y : α} {i : Nat} (hi : i = p.length) : swapL (p ++ (x :: (y :: q))) d (i + 1) i = p ++ (y :: (x :: q)) := by
 rw [swapL_comm (by omega), swap_next hi]
def insDown (lt : α -> α -> Bool) (d : α) (a : Nat) : Nat -> List α -> List α
 | 0, l => l
 | j + 1, l => if a < j + 1 then bif lt (l.getD (j + 1) d) (l.getD j d) then insDown lt d a j (swapL l d (j + 1) j) else l else l
def insFrom (lt : α -> α -> Bool) (d : α) (a : Nat) : Nat -> Nat -> List α -> List α
 | 0, _, l => l
 | n + 1, i, l => insFrom lt d a n (i + 1) (insDown lt d a i l)
theorem snoc_cases (s : List α) : s = [] ∨ ∃ t y, s = t ++ [y] := by
 cases h : s.reverse with
 | nil => exact .inl (by simpa using h)
 | cons y t => exact .inr ⟨t.reverse, y, by have := congrArg List.reverse h; simpa using this⟩
theorem insDown_eq {lt : α -> α -> Bool} {p : List α} {x : α} : (n : Nat) -> (s q : List α) -> s.length = n -> LtK lt key (s ++ [x]) -> SortK key s ->
  ∃ t, insDown lt d p.length (p.length + n) (p ++ (s ++ (x :: q))) = p ++ (t ++ q) /\ SortK key t /\ SameK key (s ++ [x]) t
 | 0, s, q, hn, _, _ => by
  obtain rfl := List.length_eq_zero_iff.1 hn
  refine ⟨[x], ?_, List.pairwise_singleton _ _, SameK.refl _⟩
  cases hp : p.length with
  | zero => simp [insDown]
  | succ j => simp [insDown]
 | n + 1, s, q, hn, hl, hs => by
  rcases snoc_cases s with rfl | ⟨s', y, rfl⟩
  ·simp at hn
  ·have hn' : s'.length = n := by simpa using hn
   have hs' := List.pairwise_append.1 hs
   have e1 : p ++ ((s' ++ [y]) ++ (x :: q)) = (p ++ s') ++ (y :: (x :: q)) := by simp
   have hk : lt x y = decide (key x < key y) := hl x (by simp) y (by simp)
   have g1 : (p ++ ((s' ++ [y]) ++ (x :: q))).getD (p.length + n + 1) d = x := by
    rw [e1]
    simp only [List.getD_eq_getElem?_getD]
    rw [List.getElem?_append_right (by simp; omega)]
    simp [hn', show p.length + n + 1 - (p.length + n) = 1 by omega]
   have g2 : (p ++ ((s' ++ [y]) ++ (x :: q))).getD (p.length + n) d = y := by
    rw [e1]
    simp only [List.getD_eq_getElem?_getD]
    rw [List.getElem?_append_right (by simp; omega)]
    simp [hn']
   rw [show p.length + (n + 1) = (p.length + n) + 1 by omega]
   simp only [insDown, g1, g2]
   rw [if_pos (by omega), hk]
   by_cases hlt : key x < key y
   ·simp only [hlt, decide_true, cond_true]
    rw [e1, swap_prev (by simp [hn'])]
    obtain ⟨t, h1, h2, h3⟩ := insDown_eq (p := p) (x := x) n s' (y :: q) hn' (hl.sub (by intro z hz; simp at hz ⊢; rcases hz with h | h <;> simp [h])) hs'.1
    have e2 : (p ++ s') ++ (x :: (y :: q)) = p ++ (s' ++ (x :: (y :: q))) := by simp
    rw [e2, h1]
    refine ⟨t ++ [y], by simp, ?_, ?_⟩
    ·refine List.pairwise_append.2 ⟨h2, List.pairwise_singleton _ _, fun a ha b hb => ?_⟩
     simp at hb
     subst hb
     rcases List.mem_append.1 (h3.mem.1 ha) with h | h
     ·exact hs'.2.2 a h _ (by simp)
     ·simp at h
      subst h
      omega
    ·have h4 : SameK key ((s' ++ [y]) ++ [x]) (s' ++ [x] ++ [y]) := by
      rw [List.append_assoc, List.append_assoc]
      exact (SameK.refl s').app (SameK.swap fun a ha b hb => by simp at ha hb; subst ha hb; omega)
     exact h4.trans (h3.app (SameK.refl [y]))
   ·simp only [hlt, decide_false, cond_false]
    refine ⟨s' ++ [y] ++ [x], by simp, ?_, SameK.refl _⟩
    refine List.pairwise_append.2 ⟨hs, List.pairwise_singleton _ _, fun a ha b hb => ?_⟩
    simp at hb
    subst hb
    rcases List.mem_append.1 ha with h | h
    ·have := hs'.2.2 a h y (by simp)
     omega
    ·simp at h
     subst h
     omega
theorem insFrom_eq {lt : α -> α -> Bool} {p q : List α} : (u s : List α) -> LtK lt key (s ++ u) -> SortK key s -> ∃ t, insFrom lt d p.length u.length (p.length + s.length) (p ++ (s ++ (u ++ q))) = p ++ (t ++ q) /\ SortK key t /\ SameK key (s ++ u) t
 | [], s, _, hs => ⟨s, by simp [insFrom], hs, by simpa using SameK.refl s⟩
 | x :: u, s, hl, hs => by
  obtain ⟨t, h1, h2, h3⟩ := insDown_eq (d := d) (p := p) (x := x) s.length s (u ++ q) rfl (hl.sub (by intro z hz; simp at hz ⊢; rcases hz with h | h <;> simp [h])) hs
  have hlen : t.length = s.length + 1 := by
   have := congrArg List.length h1
   have hd : ∀ (n : Nat) (l : List α), (insDown lt d p.length n l).length = l.length := by
    intro n
    induction n with
    | zero => intro l; rfl
    | succ n ih =>
     intro l
     simp only [insDown]
     split
     ·cases lt (l.getD (n + 1) d) (l.getD n d)
      ·rfl
      ·simp [ih, swapL]
     ·rfl
   rw [hd] at this
   simp at this
   omega
  obtain ⟨t', k1, k2, k3⟩ := insFrom_eq (p := p) (q := q) u t (hl.sub (by
   intro z hz
   rcases List.mem_append.1 hz with h | h
   ·have := h3.mem.1 h
    simp at this ⊢
    rcases this with h | h <;> simp [h]
   ·simp [h])) h2
  refine ⟨t', ?_, k2, ?_⟩
  ·simp only [List.length_cons, insFrom, List.cons_append]
   rw [h1, show p.length + s.length + 1 = p.length + t.length by omega]
   exact k1
  ·have : s ++ x :: u = (s ++ [x]) ++ u := by simp
   rw [this]
   exact (h3.app (SameK.refl u)).trans k3
theorem insFrom_part {lt : α -> α -> Bool} {a b : Nat} {l : List α} (hab : a <= b) (hb : b <= l.length) (hl : LtK lt key l) : insFrom lt d a (b - (a + 1)) (a + 1) l = partB lt a b l := by
 obtain ⟨p, s, q, rfl, hp, hs, _⟩ := split3 hab hb
 subst hp
 cases s with
 | nil =>
  have : b = p.length := by simp at hs; omega
  subst this
  rw [partB_eq rfl (by simp)]
  simp [insFrom, sortB, show p.length - (p.length + 1) = 0 by omega]
 | cons x u =>
  simp at hs
  have hb' : b = p.length + (1 + u.length) := by omega
  subst hb'
  rw [partB_eq rfl (by simp; omega)]
  have hl' : LtK lt key (x :: u) := hl.sub fun z hz => List.mem_append_right _ (List.mem_append_left _ hz)
  obtain ⟨t, h1, h2, h3⟩ := insFrom_eq (d := d) (p := p) (q := q) u [x] (by simpa using hl') (List.pairwise_singleton _ _)
  have e : t = sortB lt (x :: u) := eq_sortB hl' h2 (by simpa using h3)
  subst e
  rw [← h1]
  simp [show p.length + (1 + u.length) - (p.length + 1) = u.length by omega]
def upS (d : α) : Nat -> Nat -> List α -> List α
 | 0, _, l => l
 | n + 1, k, l => upS d n (k + 1) (swapL l d k (k + 1))
def downS (d : α) : Nat -> Nat -> List α -> List α
 | 0, _, l => l
 | n + 1, k, l => downS d n (k - 1) (swapL l d k (k - 1))
theorem upS_eq {x : α} : (s p q : List α) -> upS d s.length p.length (p ++ (x :: (s ++ q))) = p ++ (s ++ (x :: q))
 | [], p, q => by simp [upS]
 | y :: s, p, q => by
  simp only [List.length_cons, upS, List.cons_append]
  rw [swap_next rfl]
  have := upS_eq (x := x) s (p ++ [y]) q
  simpa using this
theorem downS_eq {x : α} : (n : Nat) -> (s p q : List α) -> s.length = n -> downS d n (p.length + n) (p ++ (s ++ (x :: q))) = p ++ (x :: (s ++ q))
 | 0, s, p, q, h => by
  obtain rfl := List.length_eq_zero_iff.1 h
  simp [downS]
 | n + 1, s, p, q, h => by
  rcases snoc_cases s with rfl | ⟨s', y, rfl⟩
  ·simp at h
  ·have hn : s'.length = n := by simpa using h
   rw [show p.length + (n + 1) = (p.length + n) + 1 by omega]
   simp only [downS, Nat.add_sub_cancel]
   have e1 : p ++ ((s' ++ [y]) ++ (x :: q)) = (p ++ s') ++ (y :: (x :: q)) := by simp
   rw [e1, swap_prev (by simp [hn])]
   have := downS_eq (x := x) n s' p (y :: q) hn
   simpa using this
def swapR (d : α) : Nat -> Nat -> Nat -> List α -> List α
 | 0, _, _, l => l
 | n + 1, a, b, l => swapR d n (a + 1) (b + 1) (swapL l d a b)
theorem swapR_eq : (x z y p q : List α) -> x.length = z.length -> ∀ {b : Nat}, b = p.length + x.length + y.length -> swapR d x.length p.length b (p ++ (x ++ (y ++ (z ++ q)))) = p ++ (z ++ (y ++ (x ++ q)))
 | [], z, y, p, q, h, b, hb => by
  obtain rfl := List.length_eq_zero_iff.1 h.symm
  simp [swapR]
 | u :: x, [], y, p, q, h, b, hb => by simp at h
 | u :: x, v :: z, y, p, q, h, b, hb => by
  simp only [List.length_cons, swapR, List.cons_append]
  have e1 : p ++ (u :: (x ++ (y ++ (v :: (z ++ q))))) = p ++ (u :: ((x ++ y) ++ (v :: (z ++ q)))) := by simp
  rw [e1, swap_cons rfl (by simp at hb ⊢; omega)]
  have := swapR_eq x z (y ++ [u]) (p ++ [v]) q (by simpa using h) (b := b + 1) (by simp at hb ⊢; omega)
  simpa using this
def rotG (d : α) (m : Nat) : Nat -> Nat -> Nat -> List α -> Nat × List α
 | 0, i, _, l => (i, l)
 | f + 1, i, j, l => if i = j then (i, l) else if i > j then rotG d m f (i - j) j (swapR d j (m - i) m l) else rotG d m f i (j - i) (swapR d i (m - i) (m + j - i) l)
def rotF (d : α) (a m b : Nat) (l : List α) : List α := let r := rotG d m (b - a) (m - a) (b - m) l; swapR d r.1 (m - r.1) m r.2
theorem rotG_eq {m : Nat} : (f : Nat) -> (x y p q : List α) -> x.length + y.length <= f -> 0 < x.length -> 0 < y.length -> m = p.length + x.length ->
  swapR d (rotG d m f x.length y.length (p ++ (x ++ (y ++ q)))).1 (m - (rotG d m f x.length y.length (p ++ (x ++ (y ++ q)))).1) m (rotG d m f x.length y.length (p ++ (x ++ (y ++ q)))).2 = p ++ (y ++ (x ++ q))
 | 0, x, y, p, q, h, h1, _, _ => by omega
 | f + 1, x, y, p, q, h, h1, h2, hm => by
  simp only [rotG]
  split
  ·rename_i he
   subst hm
   have := swapR_eq (d := d) x y [] p q he (b := p.length + x.length) (by simp)
   simpa [show p.length + x.length - x.length = p.length by omega] using this
  ·split
   ·rename_i hne hgt
    obtain ⟨x1, x2, rfl, hx1⟩ : ∃ x1 x2, x = x1 ++ x2 /\ x1.length = y.length := ⟨x.take y.length, x.drop y.length, by simp, by simp; omega⟩
    simp only [List.length_append] at hm h hgt h1 ⊢
    have e := swapR_eq (d := d) x1 y x2 p q hx1 (b := m) (by omega)
    have e0 : m - (x1.length + x2.length) = p.length := by omega
    rw [e0, ← hx1]
    rw [show p ++ (x1 ++ x2 ++ (y ++ q)) = p ++ (x1 ++ (x2 ++ (y ++ q))) by simp, e]
    have := rotG_eq (m := m) f x2 x1 (p ++ y) q (by omega) (by omega) (by omega) (by simp; omega)
    rw [show x1.length + x2.length - x1.length = x2.length by omega]
    simpa using this
   ·rename_i hne hgt
    obtain ⟨y1, y2, rfl, hy2⟩ : ∃ y1 y2, y = y1 ++ y2 /\ y2.length = x.length := ⟨y.take (y.length - x.length), y.drop (y.length - x.length), by simp, by simp; omega⟩
    simp only [List.length_append] at hm h hgt h2 hne ⊢
    have e := swapR_eq (d := d) x y2 y1 p q hy2.symm (b := m + (y1.length + y2.length) - x.length) (by omega)
    have e0 : m - x.length = p.length := by omega
    rw [e0]
    rw [show p ++ (x ++ (y1 ++ y2 ++ q)) = p ++ (x ++ (y1 ++ (y2 ++ q))) by simp, e]
    have := rotG_eq (m := m) f y2 y1 p (x ++ q) (by omega) (by omega) (by omega) (by omega)
    rw [show y1.length + y2.length - x.length = y1.length by omega, ← hy2]
    simpa using this
theorem rotF_eq {a m b : Nat} {x y p q : List α} (h1 : 0 < x.length) (h2 : 0 < y.length) (ha : a = p.length) (hm : m = a + x.length) (hb : b = m + y.length) : rotF d a m b (p ++ (x ++ (y ++ q))) = p ++ (y ++ (x ++ q)) := by
 have := rotG_eq (d := d) (m := m) (b - a) x y p q (by omega) h1 h2 (by omega)
 unfold rotF
 rw [show m - a = x.length by omega, show b - m = y.length by omega]
 exact this
def bsG (Q : Nat -> Bool) : Nat -> Nat -> Nat -> Nat
 | 0, i, _ => i
 | f + 1, i, j => if i < j then bif Q ((i + j) / 2) then bsG Q f ((i + j) / 2 + 1) j else bsG Q f i ((i + j) / 2) else i
theorem bsG_spec {Q : Nat -> Bool} : (f i j : Nat) -> j - i <= f -> i <= j -> (∀ u v, i <= u -> u <= v -> v < j -> Q v = true -> Q u = true) ->
  i <= bsG Q f i j /\ bsG Q f i j <= j /\ (∀ k, i <= k -> k < bsG Q f i j -> Q k = true) /\ (∀ k, bsG Q f i j <= k -> k < j -> Q k = false)
 | 0, i, j, h, hij, _ => by
  simp only [bsG]
  exact ⟨Nat.le_refl _, hij, fun k h1 h2 => by omega, fun k h1 h2 => by omega⟩
 | f + 1, i, j, h, hij, hmono => by
  simp only [bsG]
  by_cases hlt : i < j
  ·rw [if_pos hlt]
   cases hq : Q ((i + j) / 2) with
   | true =>
    simp only [cond_true]
    obtain ⟨a1, a2, a3, a4⟩ := bsG_spec (Q := Q) f ((i + j) / 2 + 1) j (by omega) (by omega) (fun u v hu huv hv => hmono u v (by omega) huv hv)
    refine ⟨by omega, a2, fun k h1 h2 => ?_, a4⟩
    by_cases hk : k <= (i + j) / 2
    ·exact hmono k _ h1 hk (by omega) hq
    ·exact a3 k (by omega) h2
   | false =>
    simp only [cond_false]
    obtain ⟨a1, a2, a3, a4⟩ := bsG_spec (Q := Q) f i ((i + j) / 2) (by omega) (by omega) (fun u v hu huv hv => hmono u v hu huv (by omega))
    refine ⟨a1, by omega, a3, fun k h1 h2 => ?_⟩
    by_cases hk : k < (i + j) / 2
    ·exact a4 k h1 hk
    ·cases hqk : Q k with
     | false => rfl
     | true => rw [hmono _ k (by omega) (by omega) h2 hqk] at hq; cases hq
  ·rw [if_neg hlt]
   exact ⟨Nat.le_refl _, hij, fun k h1 h2 => by omega, fun k h1 h2 => by omega⟩
end
end Go.Ab

namespace Go.Ab
section
variable {α : Type} {key : α -> Int} {d : α}
def seg (a b : Nat) (l : List α) : List α := (l.take b).drop a
theorem seg_eq {p s q : List α} {a b : Nat} (ha : p.length = a) (hb : a + s.length = b) : seg a b (p ++ (s ++ q)) = s := by
 subst ha hb
 unfold seg
 have h1 : (p ++ (s ++ q)).take (p.length + s.length) = p ++ s := by rw [← List.append_assoc]; exact List.take_left' (by simp)
 rw [h1, List.drop_left' rfl]
theorem seg_split {l : List α} {a m b : Nat} (h1 : a <= m) (h2 : m <= b) (h3 : b <= l.length) : ∃ p q, l = p ++ (seg a m l ++ (seg m b l ++ q)) /\ p.length = a /\ (seg a m l).length = m - a /\ (seg m b l).length = b - m /\ q.length = l.length - b := by
 obtain ⟨p, s, q, rfl, hp, hs, hq⟩ := split3 (Nat.le_trans h1 h2) h3
 obtain ⟨x, y, rfl, hx⟩ : ∃ x y, s = x ++ y /\ x.length = m - a := ⟨s.take (m - a), s.drop (m - a), by simp, by simp; omega⟩
 have hy : y.length = b - m := by simp at hs; omega
 have e1 : seg a m (p ++ (x ++ y ++ q)) = x := by
  rw [List.append_assoc]
  exact seg_eq hp (by omega)
 have e2 : seg m b (p ++ (x ++ y ++ q)) = y := by
  rw [show p ++ (x ++ y ++ q) = (p ++ x) ++ (y ++ q) by simp]
  exact seg_eq (by simp; omega) (by omega)
 rw [e1, e2]
 exact ⟨p, q, by simp, hp, hx, hy, by omega⟩
theorem partB_length {lt : α -> α -> Bool} {a b : Nat} {l : List α} (h1 : a <= b) (h2 : b <= l.length) : (partB lt a b l).length = l.length := by
 unfold partB
 simp [sortB_length]
 omega
theorem sortB_self {lt : α -> α -> Bool} {l : List α} (h : LtK lt key l) (hs : SortK key l) : sortB lt l = l := (eq_sortB h hs (SameK.refl l)).symm
theorem partB_same {lt : α -> α -> Bool} {a b : Nat} {l : List α} (hab : a <= b) (hb : b <= l.length) (hl : LtK lt key l) : SameK key l (partB lt a b l) := by
 obtain ⟨p, s, q, rfl, hp, hs, _⟩ := split3 hab hb
 rw [partB_eq hp (by simp; omega)]
 have h := (sortB_sort (l := s) (hl.sub fun z hz => List.mem_append_right _ (List.mem_append_left _ hz))).2
 exact (SameK.refl p).app (h.app (SameK.refl q))
def symS (lt : α -> α -> Bool) (d : α) (a m b : Nat) (l : List α) : Nat :=
 bsG (fun c => !lt (l.getD ((a + b) / 2 + m - 1 - c) d) (l.getD c d)) ((if (a + b) / 2 < m then (a + b) / 2 else m) - (if (a + b) / 2 < m then (a + b) / 2 + m - b else a)) (if (a + b) / 2 < m then (a + b) / 2 + m - b else a) (if (a + b) / 2 < m then (a + b) / 2 else m)
def symR (d : α) (m st en : Nat) (l : List α) : List α := if st < m /\ m < en then rotF d st m en l else l
def symX (lt : α -> α -> Bool) (d : α) (a m b : Nat) (l : List α) : List α :=
 if m - a = 1 then upS d (bsG (fun h => lt (l.getD h d) (l.getD a d)) (b - m) m b - 1 - a) a l
 else if b - m = 1 then downS d (m - bsG (fun h => !lt (l.getD m d) (l.getD h d)) (m - a) a m) m l
 else
  let st := symS lt d a m b l
  let mid := (a + b) / 2
  let en := mid + m - st
  let l1 := symR d m st en l
  let l2 := if a < st /\ st < mid then partB lt a mid l1 else l1
  if mid < en /\ en < b then partB lt mid b l2 else l2
theorem key_at {l : List α} {i j : Nat} (hs : SortK key l) (hij : i <= j) (hj : j < l.length) : key (l.getD i d) <= key (l.getD j d) := by
 rcases Nat.lt_or_ge i j with h | h
 ·have := List.pairwise_iff_getElem.1 hs i j (by omega) hj h
  simpa [List.getD_eq_getElem?_getD, List.getElem?_eq_getElem hj, List.getElem?_eq_getElem (show i < l.length by omega)] using this
 ·have : i = j := by omega
  subst this
  exact Int.le_refl _
theorem getD_mem {l : List α} {i : Nat} (h : i < l.length) : l.getD i d ∈ l := by
 simp [List.getD_eq_getElem?_getD, List.getElem?_eq_getElem h]
theorem ex_at {l : List α} {x : α} (h : x ∈ l) : ∃ i, i < l.length /\ l.getD i d = x := by
 obtain ⟨i, hi, rfl⟩ := List.getElem_of_mem h
 exact ⟨i, hi, by simp [List.getD_eq_getElem?_getD, List.getElem?_eq_getElem hi]⟩
theorem sym_parts {lt : α -> α -> Bool} {a m b : Nat} {p A B q : List α} (hp : p.length = a) (hA : A.length = m - a) (hB : B.length = b - m) (h1 : a < m) (h2 : m < b)
  (hl : LtK lt key (A ++ B)) (sA : SortK key A) (sB : SortK key B) :
  ∃ A1 A2 B1 B2, A = A1 ++ A2 /\ B = B1 ++ B2 /\ a + A1.length = symS lt d a m b (p ++ (A ++ (B ++ q))) /\ m + B1.length + symS lt d a m b (p ++ (A ++ (B ++ q))) = (a + b) / 2 + m /\
   (∀ x ∈ A1, ∀ y ∈ B2, key x <= key y) /\ (∀ y ∈ B1, ∀ x ∈ A2, key y < key x) := by
 have gA : ∀ i, i < A.length -> (p ++ (A ++ (B ++ q))).getD (a + i) d = A.getD i d := fun i hi => by rw [← hp]; exact getD_mid hi
 have gB : ∀ i, i < B.length -> (p ++ (A ++ (B ++ q))).getD (m + i) d = B.getD i d := fun i hi => by
  rw [show p ++ (A ++ (B ++ q)) = (p ++ A) ++ (B ++ q) by simp, show m = (p ++ A).length by simp; omega]
  exact getD_mid hi
 generalize hL : p ++ (A ++ (B ++ q)) = L at gA gB ⊢
 have hQ : ∀ c, a <= c -> c < m -> m <= (a + b) / 2 + m - 1 - c -> (a + b) / 2 + m - 1 - c < b ->
   (!lt (L.getD ((a + b) / 2 + m - 1 - c) d) (L.getD c d)) = decide (key (A.getD (c - a) d) <= key (B.getD ((a + b) / 2 + m - 1 - c - m) d)) := fun c c1 c2 c3 c4 => by
  have e1 := gA (c - a) (by omega)
  have e2 := gB ((a + b) / 2 + m - 1 - c - m) (by omega)
  rw [show a + (c - a) = c by omega] at e1
  rw [show m + ((a + b) / 2 + m - 1 - c - m) = (a + b) / 2 + m - 1 - c by omega] at e2
  rw [e1, e2, hl _ (List.mem_append_right _ (getD_mem (by omega))) _ (List.mem_append_left _ (getD_mem (by omega)))]
  rw [Bool.eq_iff_iff]
  simp
 generalize hs0 : (if (a + b) / 2 < m then (a + b) / 2 + m - b else a) = s0
 generalize hr0 : (if (a + b) / 2 < m then (a + b) / 2 else m) = r0
 have b1 : a <= s0 /\ s0 <= r0 /\ r0 <= m /\ r0 <= (a + b) / 2 /\ (a + b) / 2 + m <= b + s0 /\ (s0 = a ∨ s0 + b = (a + b) / 2 + m) /\ (r0 = m ∨ r0 = (a + b) / 2) := by
  subst hs0 hr0
  split <;> omega
 obtain ⟨c1, c2, c3, c4, c5, c6, c7⟩ := b1
 obtain ⟨r1, r2, r3, r4⟩ := bsG_spec (Q := fun c => !lt (L.getD ((a + b) / 2 + m - 1 - c) d) (L.getD c d)) (r0 - s0) s0 r0 (Nat.le_refl _) c2 (fun u v hu huv hv h => by
  rw [hQ v (by omega) (by omega) (by omega) (by omega)] at h
  rw [hQ u (by omega) (by omega) (by omega) (by omega)]
  simp only [decide_eq_true_eq] at h ⊢
  have k1 := key_at (d := d) sA (i := u - a) (j := v - a) (by omega) (by omega)
  have k2 := key_at (d := d) sB (i := (a + b) / 2 + m - 1 - v - m) (j := (a + b) / 2 + m - 1 - u - m) (by omega) (by omega)
  omega)
 have hS : symS lt d a m b L = bsG (fun c => !lt (L.getD ((a + b) / 2 + m - 1 - c) d) (L.getD c d)) (r0 - s0) s0 r0 := by
  unfold symS
  rw [hs0, hr0]
 rw [hS]
 generalize bsG (fun c => !lt (L.getD ((a + b) / 2 + m - 1 - c) d) (L.getD c d)) (r0 - s0) s0 r0 = st at r1 r2 r3 r4 ⊢
 refine ⟨A.take (st - a), A.drop (st - a), B.take ((a + b) / 2 - st), B.drop ((a + b) / 2 - st), by simp, by simp, ?_, ?_, ?_, ?_⟩
 ·simp; omega
 ·simp; omega
 ·intro x hx y hy
  obtain ⟨i, hi, rfl⟩ := ex_at (d := d) hx
  obtain ⟨j, hj, rfl⟩ := ex_at (d := d) hy
  simp at hi hj
  have e1 : (A.take (st - a)).getD i d = A.getD i d := by simp [List.getD_eq_getElem?_getD, show i < st - a by omega]
  have e2 : (B.drop ((a + b) / 2 - st)).getD j d = B.getD ((a + b) / 2 - st + j) d := by simp [List.getD_eq_getElem?_getD]
  rw [e1, e2]
  have hq := r3 (st - 1) (by omega) (by omega)
  rw [hQ (st - 1) (by omega) (by omega) (by omega) (by omega)] at hq
  simp only [decide_eq_true_eq] at hq
  have k1 := key_at (d := d) sA (i := i) (j := st - 1 - a) (by omega) (by omega)
  have k2 := key_at (d := d) sB (i := (a + b) / 2 + m - 1 - (st - 1) - m) (j := (a + b) / 2 - st + j) (by omega) (by omega)
  omega
 ·intro y hy x hx
  obtain ⟨i, hi, rfl⟩ := ex_at (d := d) hx
  obtain ⟨j, hj, rfl⟩ := ex_at (d := d) hy
  simp at hi hj
  have e1 : (A.drop (st - a)).getD i d = A.getD (st - a + i) d := by simp [List.getD_eq_getElem?_getD]
  have e2 : (B.take ((a + b) / 2 - st)).getD j d = B.getD j d := by simp [List.getD_eq_getElem?_getD, show j < (a + b) / 2 - st by omega]
  rw [e1, e2]
  have hq := r4 st (Nat.le_refl _) (by omega)
  rw [hQ st (by omega) (by omega) (by omega) (by omega)] at hq
  simp only [decide_eq_false_iff_not] at hq
  have k1 := key_at (d := d) sA (i := st - a) (j := st - a + i) (by omega) (by omega)
  have k2 := key_at (d := d) sB (i := j) (j := (a + b) / 2 + m - 1 - st - m) (by omega) (by omega)
  omega
theorem sort_two {lt : α -> α -> Bool} {A1 A2 B1 B2 : List α} (hl : LtK lt key ((A1 ++ A2) ++ (B1 ++ B2))) (sA : SortK key (A1 ++ A2)) (sB : SortK key (B1 ++ B2)) (h1 : ∀ x ∈ A1, ∀ y ∈ B2, key x <= key y) (h2 : ∀ y ∈ B1, ∀ x ∈ A2, key y < key x) :
  sortB lt (A1 ++ B1) ++ sortB lt (A2 ++ B2) = sortB lt ((A1 ++ A2) ++ (B1 ++ B2)) := by
 have l1 : LtK lt key (A1 ++ B1) := hl.sub fun z hz => by simp at hz ⊢; rcases hz with h | h <;> simp [h]
 have l2 : LtK lt key (A2 ++ B2) := hl.sub fun z hz => by simp at hz ⊢; rcases hz with h | h <;> simp [h]
 obtain ⟨s1, k1⟩ := sortB_sort l1
 obtain ⟨s2, k2⟩ := sortB_sort l2
 have pA := List.pairwise_append.1 sA
 have pB := List.pairwise_append.1 sB
 refine eq_sortB hl (List.pairwise_append.2 ⟨s1, s2, fun x hx y hy => ?_⟩) ?_
 ·rw [sortB_mem] at hx hy
  rcases List.mem_append.1 hx with hx | hx <;> rcases List.mem_append.1 hy with hy | hy
  ·exact pA.2.2 x hx y hy
  ·exact h1 x hx y hy
  ·exact Int.le_of_lt (h2 x hx y hy)
  ·exact pB.2.2 x hx y hy
 ·have e1 : SameK key (A1 ++ (A2 ++ B1) ++ B2) (A1 ++ (B1 ++ A2) ++ B2) := ((SameK.refl A1).app (SameK.swap fun x hx y hy => by have := h2 y hy x hx; omega)).app (SameK.refl B2)
  have e2 := k1.app k2
  have e1' : SameK key ((A1 ++ A2) ++ (B1 ++ B2)) ((A1 ++ B1) ++ (A2 ++ B2)) := by simpa using e1
  exact e1'.trans e2
theorem symX_eq {lt : α -> α -> Bool} {a m b : Nat} {p A B q : List α} (hp : p.length = a) (hA : A.length = m - a) (hB : B.length = b - m) (h1 : a < m) (h2 : m < b)
  (hl : LtK lt key (A ++ B)) (sA : SortK key A) (sB : SortK key B) : symX lt d a m b (p ++ (A ++ (B ++ q))) = p ++ (sortB lt (A ++ B) ++ q) := by
 unfold symX
 split
 ·
  rename_i hm
  cases A with
  | nil => simp at hA; omega
  | cons x A =>
   obtain rfl : A = [] := by simp at hA; exact List.length_eq_zero_iff.1 (by omega)
   have gx : (p ++ ([x] ++ (B ++ q))).getD a d = x := by subst hp; simp [List.getD_eq_getElem?_getD]
   have gB : ∀ i, i < B.length -> (p ++ ([x] ++ (B ++ q))).getD (m + i) d = B.getD i d := fun i hi => by
    rw [show p ++ ([x] ++ (B ++ q)) = (p ++ [x]) ++ (B ++ q) by simp, show m = (p ++ [x]).length by simp; omega]
    exact getD_mid hi
   have hQ : ∀ k, m <= k -> k < b -> lt ((p ++ ([x] ++ (B ++ q))).getD k d) ((p ++ ([x] ++ (B ++ q))).getD a d) = decide (key (B.getD (k - m) d) < key x) := fun k k1 k2 => by
    have := gB (k - m) (by omega)
    rw [show m + (k - m) = k by omega] at this
    rw [this, gx]
    exact hl _ (List.mem_append_right _ (getD_mem (by omega))) _ (by simp)
   obtain ⟨r1, r2, r3, r4⟩ := bsG_spec (Q := fun h => lt ((p ++ ([x] ++ (B ++ q))).getD h d) ((p ++ ([x] ++ (B ++ q))).getD a d)) (b - m) m b (Nat.le_refl _) (by omega) (fun u v hu huv hv h => by
    rw [hQ v (by omega) hv] at h
    rw [hQ u hu (by omega)]
    simp only [decide_eq_true_eq] at h ⊢
    have := key_at (d := d) sB (i := u - m) (j := v - m) (by omega) (by omega)
    omega)
   generalize bsG (fun h => lt ((p ++ ([x] ++ (B ++ q))).getD h d) ((p ++ ([x] ++ (B ++ q))).getD a d)) (b - m) m b = r at r1 r2 r3 r4 ⊢
   obtain ⟨B1, B2, rfl, hB1⟩ : ∃ B1 B2, B = B1 ++ B2 /\ B1.length = r - m := ⟨B.take (r - m), B.drop (r - m), by simp, by simp; omega⟩
   have hB' : B1.length + B2.length = b - m := by simpa using hB
   have f1 : ∀ y ∈ B1, key y < key x := fun y hy => by
    obtain ⟨j, hj, rfl⟩ := ex_at (d := d) hy
    have := r3 (m + j) (by omega) (by omega)
    rw [hQ (m + j) (by omega) (by omega)] at this
    simp only [decide_eq_true_eq, Nat.add_sub_cancel_left] at this
    rwa [show (B1 ++ B2).getD j d = B1.getD j d by simp [List.getD_eq_getElem?_getD, List.getElem?_append_left hj]] at this
   have f2 : ∀ y ∈ B2, key x <= key y := fun y hy => by
    obtain ⟨j, hj, rfl⟩ := ex_at (d := d) hy
    have := r4 (r + j) (by omega) (by omega)
    rw [hQ (r + j) (by omega) (by omega)] at this
    simp only [decide_eq_false_iff_not] at this
    rw [show (B1 ++ B2).getD (r + j - m) d = B2.getD j d by
     simp only [List.getD_eq_getElem?_getD]
     rw [List.getElem?_append_right (by omega), show r + j - m - B1.length = j by omega]] at this
    omega
   rw [show r - 1 - a = B1.length by omega]
   have hup := upS_eq (d := d) (x := x) B1 p (B2 ++ q)
   rw [hp] at hup
   have e0 : p ++ ([x] ++ (B1 ++ B2 ++ q)) = p ++ (x :: (B1 ++ (B2 ++ q))) := by simp
   rw [e0, hup]
   have pB := List.pairwise_append.1 sB
   have hS : B1 ++ (x :: B2) = sortB lt ([x] ++ (B1 ++ B2)) := by
    refine eq_sortB hl (List.pairwise_append.2 ⟨pB.1, List.pairwise_cons.2 ⟨fun y hy => f2 y hy, pB.2.1⟩, fun y hy z hz => ?_⟩) ?_
    ·rcases List.mem_cons.1 hz with rfl | hz
     ·exact Int.le_of_lt (f1 y hy)
     ·exact pB.2.2 y hy z hz
    ·have e1 : SameK key (([x] ++ B1) ++ B2) ((B1 ++ [x]) ++ B2) := (SameK.swap fun u hu y hy => by simp at hu; subst hu; have := f1 y hy; omega).app (SameK.refl B2)
     simpa using e1
   rw [← hS]
   simp
 ·split
  ·
   rename_i _ hm
   cases B with
   | nil => simp at hB; omega
   | cons x B =>
    obtain rfl : B = [] := by simp at hB; exact List.length_eq_zero_iff.1 (by omega)
    have gx : (p ++ (A ++ ([x] ++ q))).getD m d = x := by
     rw [show p ++ (A ++ ([x] ++ q)) = (p ++ A) ++ (x :: q) by simp, show m = (p ++ A).length by simp; omega]
     simp only [List.getD_eq_getElem?_getD]
     rw [List.getElem?_append_right (Nat.le_refl _)]
     simp
    have gA : ∀ i, i < A.length -> (p ++ (A ++ ([x] ++ q))).getD (a + i) d = A.getD i d := fun i hi => by rw [← hp]; exact getD_mid hi
    have hQ : ∀ k, a <= k -> k < m -> (!lt ((p ++ (A ++ ([x] ++ q))).getD m d) ((p ++ (A ++ ([x] ++ q))).getD k d)) = decide (key (A.getD (k - a) d) <= key x) := fun k k1 k2 => by
     have := gA (k - a) (by omega)
     rw [show a + (k - a) = k by omega] at this
     rw [this, gx, hl _ (List.mem_append_right _ (by simp)) _ (List.mem_append_left _ (getD_mem (by omega))), Bool.eq_iff_iff]
     simp
    obtain ⟨r1, r2, r3, r4⟩ := bsG_spec (Q := fun h => !lt ((p ++ (A ++ ([x] ++ q))).getD m d) ((p ++ (A ++ ([x] ++ q))).getD h d)) (m - a) a m (Nat.le_refl _) (by omega) (fun u v hu huv hv h => by
     rw [hQ v (by omega) hv] at h
     rw [hQ u hu (by omega)]
     simp only [decide_eq_true_eq] at h ⊢
     have := key_at (d := d) sA (i := u - a) (j := v - a) (by omega) (by omega)
     omega)
    generalize bsG (fun h => !lt ((p ++ (A ++ ([x] ++ q))).getD m d) ((p ++ (A ++ ([x] ++ q))).getD h d)) (m - a) a m = r at r1 r2 r3 r4 ⊢
    obtain ⟨A1, A2, rfl, hA1⟩ : ∃ A1 A2, A = A1 ++ A2 /\ A1.length = r - a := ⟨A.take (r - a), A.drop (r - a), by simp, by simp; omega⟩
    have hA' : A1.length + A2.length = m - a := by simpa using hA
    have f1 : ∀ y ∈ A1, key y <= key x := fun y hy => by
     obtain ⟨j, hj, rfl⟩ := ex_at (d := d) hy
     have := r3 (a + j) (by omega) (by omega)
     rw [hQ (a + j) (by omega) (by omega)] at this
     simp only [decide_eq_true_eq, Nat.add_sub_cancel_left] at this
     rwa [show (A1 ++ A2).getD j d = A1.getD j d by simp [List.getD_eq_getElem?_getD, List.getElem?_append_left hj]] at this
    have f2 : ∀ y ∈ A2, key x < key y := fun y hy => by
     obtain ⟨j, hj, rfl⟩ := ex_at (d := d) hy
     have := r4 (r + j) (by omega) (by omega)
     rw [hQ (r + j) (by omega) (by omega)] at this
     simp only [decide_eq_false_iff_not] at this
     rw [show (A1 ++ A2).getD (r + j - a) d = A2.getD j d by
      simp only [List.getD_eq_getElem?_getD]
      rw [List.getElem?_append_right (by omega), show r + j - a - A1.length = j by omega]] at this
     omega
    have hdn := downS_eq (d := d) (x := x) A2.length A2 (p ++ A1) q rfl
    have e0 : p ++ (A1 ++ A2 ++ ([x] ++ q)) = (p ++ A1) ++ (A2 ++ (x :: q)) := by simp
    have e1 : m = (p ++ A1).length + A2.length := by simp; omega
    rw [e0, show m - r = A2.length by omega]
    rw [← e1] at hdn
    rw [hdn]
    have pA := List.pairwise_append.1 sA
    have hS : A1 ++ (x :: A2) = sortB lt ((A1 ++ A2) ++ [x]) := by
     refine eq_sortB hl (List.pairwise_append.2 ⟨pA.1, List.pairwise_cons.2 ⟨fun y hy => Int.le_of_lt (f2 y hy), pA.2.1⟩, fun y hy z hz => ?_⟩) ?_
     ·rcases List.mem_cons.1 hz with rfl | hz
      ·exact f1 y hy
      ·exact pA.2.2 y hy z hz
     ·have e1 : SameK key (A1 ++ (A2 ++ [x])) (A1 ++ ([x] ++ A2)) := (SameK.refl A1).app (SameK.swap fun u hu y hy => by simp at hy; subst hy; have := f2 u hu; omega)
      simpa using e1
    rw [← hS]
    simp
  ·
   obtain ⟨A1, A2, B1, B2, rfl, rfl, e1, e2, f1, f2⟩ := sym_parts (d := d) (q := q) hp hA hB h1 h2 hl sA sB
   simp only
   generalize symS lt d a m b (p ++ (A1 ++ A2 ++ (B1 ++ B2 ++ q))) = st at e1 e2 ⊢
   simp only [List.length_append] at hA hB
   have hen : (a + b) / 2 + m - st = m + B1.length := by omega
   rw [hen]
   have hR : symR d m st (m + B1.length) (p ++ (A1 ++ A2 ++ (B1 ++ B2 ++ q))) = p ++ (A1 ++ B1 ++ (A2 ++ B2 ++ q)) := by
    unfold symR
    split
    ·rename_i hc
     have := rotF_eq (d := d) (a := st) (m := m) (b := m + B1.length) (x := A2) (y := B1) (p := p ++ A1) (q := B2 ++ q) (by omega) (by omega) (by simp; omega) (by omega) rfl
     simpa using this
    ·rename_i hc
     by_cases hb1 : B1 = []
     ·subst hb1; simp
     ·have := List.length_pos_iff.2 hb1
      have : A2 = [] := List.length_eq_zero_iff.1 (by omega)
      subst this; simp
   rw [hR]
   have l1 : LtK lt key (A1 ++ B1) := hl.sub fun z hz => by simp at hz ⊢; rcases hz with h | h <;> simp [h]
   have l2 : LtK lt key (A2 ++ B2) := hl.sub fun z hz => by simp at hz ⊢; rcases hz with h | h <;> simp [h]
   have pA := List.pairwise_append.1 sA
   have pB := List.pairwise_append.1 sB
   have hmid : (a + b) / 2 = a + (A1.length + B1.length) := by omega
   have hL : (if a < st /\ st < (a + b) / 2 then partB lt a ((a + b) / 2) (p ++ (A1 ++ B1 ++ (A2 ++ B2 ++ q))) else p ++ (A1 ++ B1 ++ (A2 ++ B2 ++ q))) = p ++ (sortB lt (A1 ++ B1) ++ (A2 ++ B2 ++ q)) := by
    split
    ·exact partB_eq hp (by simp; omega)
    ·rename_i hc
     have : sortB lt (A1 ++ B1) = A1 ++ B1 := by
      refine sortB_self l1 ?_
      by_cases ha1 : A1 = []
      ·subst ha1; simpa [SortK] using pB.1
      ·have := List.length_pos_iff.2 ha1
       have : B1 = [] := List.length_eq_zero_iff.1 (by omega)
       subst this
       simpa [SortK] using pA.1
     rw [this]
   rw [hL]
   have hRt : (if (a + b) / 2 < m + B1.length /\ m + B1.length < b then partB lt ((a + b) / 2) b (p ++ (sortB lt (A1 ++ B1) ++ (A2 ++ B2 ++ q))) else p ++ (sortB lt (A1 ++ B1) ++ (A2 ++ B2 ++ q))) = p ++ (sortB lt (A1 ++ B1) ++ (sortB lt (A2 ++ B2) ++ q)) := by
    split
    ·have := partB_eq (lt := lt) (a := (a + b) / 2) (b := b) (p := p ++ sortB lt (A1 ++ B1)) (s := A2 ++ B2) (q := q) (by simp [sortB_length]; omega) (by simp [sortB_length]; omega)
     simpa using this
    ·rename_i hc
     have : sortB lt (A2 ++ B2) = A2 ++ B2 := by
      refine sortB_self l2 ?_
      by_cases ha1 : A2 = []
      ·subst ha1; simpa [SortK] using pB.2.1
      ·have := List.length_pos_iff.2 ha1
       have : B2 = [] := List.length_eq_zero_iff.1 (by omega)
       subst this
       simpa [SortK] using pA.2.1
     rw [this]
   rw [hRt, ← sort_two hl sA sB f1 f2]
   simp
end
end Go.Ab

namespace Go.Ab
section
variable {α : Type} {key : α -> Int}
theorem seg_before {lt : α -> α -> Bool} {a b a' b' : Nat} {l : List α} (h1 : b' <= a) (h2 : a <= l.length) : seg a' b' (partB lt a b l) = seg a' b' l := by
 unfold seg partB
 rw [List.take_append_of_le_length (by simp; omega), List.take_take, Nat.min_eq_left h1]
theorem seg_length {a b : Nat} {l : List α} : (seg a b l).length = min b l.length - a := by simp [seg]
theorem seg_same {lt : α -> α -> Bool} {a b : Nat} {l : List α} (h1 : a <= b) (h2 : b <= l.length) : seg a b (partB lt a b l) = sortB lt (seg a b l) := by
 unfold partB
 exact seg_eq (by simp; omega) (by rw [sortB_length]; simp; omega)
theorem drop_partB {lt : α -> α -> Bool} {a b c : Nat} {l : List α} (h1 : a <= b) (h2 : b <= l.length) (h3 : b <= c) : (partB lt a b l).drop c = l.drop c := by
 unfold partB
 rw [← List.append_assoc, List.drop_append, List.drop_eq_nil_of_le (by simp [sortB_length]; omega)]
 simp [sortB_length]
 congr 1
 omega
theorem seg_of_drop {a b c : Nat} {l s : List α} (h : l.drop c = s.drop c) (hc : c <= a) : seg a b l = seg a b s := by
 unfold seg
 rw [List.drop_take, List.drop_take]
 have : ∀ t : List α, t.drop a = (t.drop c).drop (a - c) := fun t => by rw [List.drop_drop]; congr 1; omega
 rw [this l, this s, h]
def BlkS (key : α -> Int) (w : Nat) (l : List α) : Prop := ∀ k, SortK key (seg (k * w) (k * w + w) l)
def blkW (lt : α -> α -> Bool) (w n : Nat) : Nat -> Nat -> List α -> Nat × List α
 | 0, a, l => (a, l)
 | f + 1, a, l => if a + w <= n then blkW lt w n f (a + w) (partB lt a (a + w) l) else (a, l)
structure BlkW (key : α -> Int) (w n : Nat) (l : List α) (r : Nat × List α) : Prop where
 mul : ∃ c, r.1 = c * w
 le : r.1 <= n
 lt : n < r.1 + w
 len : r.2.length = n
 same : SameK key l r.2
 drop : r.2.drop r.1 = l.drop r.1
 done : ∀ k, k * w + w <= r.1 -> SortK key (seg (k * w) (k * w + w) r.2)
theorem blkW_spec {lt : α -> α -> Bool} {w n : Nat} (hw : 0 < w) : (f a : Nat) -> (l : List α) -> n < f + a -> a <= n -> l.length = n -> (∃ c, a = c * w) -> LtK lt key l -> (∀ k, k * w + w <= a -> SortK key (seg (k * w) (k * w + w) l)) ->
  BlkW key w n l (blkW lt w n f a l)
 | 0, a, l, h, ha, _, _, _, _ => by omega
 | f + 1, a, l, h, ha, hn, ⟨c, hc⟩, hl, hd => by
  simp only [blkW]
  split
  ·rename_i hle
   have hsame := partB_same (key := key) (lt := lt) (a := a) (b := a + w) (by omega) (by omega) hl
   have hseg : SortK key (seg a (a + w) (partB lt a (a + w) l)) := by
    rw [seg_same (by omega) (by omega)]
    refine (sortB_sort (hl.sub fun z hz => ?_)).1
    exact List.mem_of_mem_take (List.mem_of_mem_drop hz)
   have r := blkW_spec hw f (a + w) (partB lt a (a + w) l) (by omega) hle (by rw [partB_length (by omega) (by omega)]; exact hn) ⟨c + 1, by rw [hc, Nat.succ_mul]⟩ (hl.sub fun z hz => hsame.mem.1 hz) (fun k hk => by
    rcases Nat.lt_trichotomy k c with h | h | h
    ·have h1 : (k + 1) * w <= c * w := Nat.mul_le_mul_right _ h
     rw [Nat.succ_mul] at h1
     rw [seg_before (by omega) (by omega)]
     exact hd k (by omega)
    ·subst h
     rw [← hc]
     exact hseg
    ·have h1 : (c + 1) * w <= k * w := Nat.mul_le_mul_right _ h
     rw [Nat.succ_mul] at h1
     omega)
   refine ⟨r.mul, r.le, r.lt, r.len, hsame.trans r.same, ?_, r.done⟩
   rw [r.drop]
   obtain ⟨c', hc'⟩ := r.mul
   have : a + w <= (blkW lt w n f (a + w) (partB lt a (a + w) l)).1 := by
    clear r hc' c'
    have : ∀ (f a : Nat) (l : List α), a <= (blkW lt w n f a l).1 := by
     intro f
     induction f with
     | zero => intro a l; exact Nat.le_refl _
     | succ f ih =>
      intro a l
      simp only [blkW]
      split
      ·exact Nat.le_trans (by omega) (ih _ _)
      ·exact Nat.le_refl _
    exact this _ _ _
   exact drop_partB (by omega) (by omega) this
  ·exact ⟨⟨c, hc⟩, ha, by omega, hn, SameK.refl _, rfl, fun k hk => hd k hk⟩
theorem BlkW.last {lt : α -> α -> Bool} {w n : Nat} {l : List α} {r : Nat × List α} (h : BlkW key w n l r) (hl : LtK lt key l) : BlkS key w (partB lt r.1 n r.2) /\ SameK key l (partB lt r.1 n r.2) /\ (partB lt r.1 n r.2).length = n := by
 have hlen := h.len
 have hl2 : LtK lt key r.2 := hl.sub fun z hz => h.same.mem.1 hz
 refine ⟨fun k => ?_, h.same.trans (partB_same h.le (by omega) hl2), by rw [partB_length h.le (by omega)]; exact hlen⟩
 obtain ⟨c, hc⟩ := h.mul
 have hle := h.le
 have hlt := h.lt
 rcases Nat.lt_trichotomy k c with hk | hk | hk
 ·have h1 : (k + 1) * w <= c * w := Nat.mul_le_mul_right _ hk
  rw [Nat.succ_mul] at h1
  rw [seg_before (by omega) (by omega)]
  exact h.done k (by omega)
 ·subst hk
  rw [← hc]
  have : seg r.1 (r.1 + w) (partB lt r.1 n r.2) = seg r.1 n (partB lt r.1 n r.2) := by
   have e := partB_length (lt := lt) h.le (Nat.le_of_eq hlen.symm)
   unfold seg
   rw [List.take_of_length_le (by omega), List.take_of_length_le (by omega)]
  rw [this, seg_same h.le (by omega)]
  exact (sortB_sort (hl2.sub fun z hz => List.mem_of_mem_take (List.mem_of_mem_drop hz))).1
 ·have h1 : (c + 1) * w <= k * w := Nat.mul_le_mul_right _ hk
  rw [Nat.succ_mul] at h1
  have : seg (k * w) (k * w + w) (partB lt r.1 n r.2) = [] := by
   have e := partB_length (lt := lt) h.le (Nat.le_of_eq hlen.symm)
   apply List.eq_nil_of_length_eq_zero
   rw [seg_length]
   omega
  rw [this]
  exact List.Pairwise.nil
def passB (lt : α -> α -> Bool) (w n : Nat) (l : List α) : List α :=
 let r := blkW lt (2 * w) n (n + 1) 0 l
 if r.1 + w < n then partB lt r.1 n r.2 else r.2
theorem passB_spec {lt : α -> α -> Bool} {w n : Nat} {l : List α} (hw : 0 < w) (hn : l.length = n) (hl : LtK lt key l) (hb : BlkS key w l) :
  BlkS key (2 * w) (passB lt w n l) /\ SameK key l (passB lt w n l) /\ (passB lt w n l).length = n := by
 have r := blkW_spec (key := key) (lt := lt) (w := 2 * w) (n := n) (by omega) (n + 1) 0 l (by omega) (by omega) hn ⟨0, by simp⟩ hl (fun k hk => by omega)
 unfold passB
 generalize blkW lt (2 * w) n (n + 1) 0 l = r0 at r ⊢
 simp only
 split
 ·exact r.last hl
 ·rename_i hc
  refine ⟨fun k => ?_, r.same, r.len⟩
  obtain ⟨c, hcc⟩ := r.mul
  have hle := r.le
  have hlt := r.lt
  have hlen := r.len
  rcases Nat.lt_trichotomy k c with hk | hk | hk
  ·have h1 : (k + 1) * (2 * w) <= c * (2 * w) := Nat.mul_le_mul_right _ hk
   rw [Nat.succ_mul] at h1
   exact r.done k (by omega)
  ·subst hk
   have h1 : k * (2 * w) = (2 * k) * w := by rw [Nat.mul_comm 2 k, Nat.mul_assoc]
   have h2 : seg (k * (2 * w)) (k * (2 * w) + 2 * w) r0.2 = seg ((2 * k) * w) ((2 * k) * w + w) r0.2 := by
    rw [← h1]
    unfold seg
    rw [List.take_of_length_le (by omega), List.take_of_length_le (by omega)]
   rw [h2, seg_of_drop (c := r0.1) r.drop (by omega)]
   exact hb (2 * k)
  ·have h1 : (c + 1) * (2 * w) <= k * (2 * w) := Nat.mul_le_mul_right _ hk
   rw [Nat.succ_mul] at h1
   have : seg (k * (2 * w)) (k * (2 * w) + 2 * w) r0.2 = [] := by
    apply List.eq_nil_of_length_eq_zero
    rw [seg_length]
    omega
   rw [this]
   exact List.Pairwise.nil
def passes (lt : α -> α -> Bool) (n : Nat) : Nat -> Nat -> List α -> List α
 | 0, _, l => l
 | f + 1, w, l => if w < n then passes lt n f (2 * w) (passB lt w n l) else l
theorem passes_spec {lt : α -> α -> Bool} {n : Nat} : (f w : Nat) -> (l : List α) -> 0 < w -> n <= f + w -> l.length = n -> LtK lt key l -> BlkS key w l -> passes lt n f w l = sortB lt l
 | 0, w, l, hw, hf, hn, hl, hb => by
  simp only [passes]
  refine eq_sortB hl ?_ (SameK.refl l)
  have := hb 0
  unfold seg at this
  simpa [List.take_of_length_le (show l.length <= w by omega)] using this
 | f + 1, w, l, hw, hf, hn, hl, hb => by
  simp only [passes]
  split
  ·obtain ⟨h1, h2, h3⟩ := passB_spec hw hn hl hb
   rw [passes_spec f (2 * w) _ (by omega) (by omega) h3 (hl.sub fun z hz => h2.mem.1 hz) h1]
   obtain ⟨k1, k2⟩ := sortB_sort (l := passB lt w n l) (hl.sub fun z hz => h2.mem.1 hz)
   exact eq_sortB hl k1 (h2.trans k2)
  ·refine eq_sortB hl ?_ (SameK.refl l)
   have := hb 0
   unfold seg at this
   simpa [List.take_of_length_le (show l.length <= w by omega)] using this
def stableB (lt : α -> α -> Bool) (l : List α) : List α :=
 let r := blkW lt 20 l.length (l.length + 1) 0 l
 passes lt l.length l.length 20 (partB lt r.1 l.length r.2)
theorem stableB_eq {lt : α -> α -> Bool} {l : List α} (hl : LtK lt key l) : stableB lt l = sortB lt l := by
 have r := blkW_spec (key := key) (lt := lt) (w := 20) (n := l.length) (by omega) (l.length + 1) 0 l (by omega) (by omega) rfl ⟨0, by simp⟩ hl (fun k hk => by omega)
 unfold stableB
 obtain ⟨h1, h2, h3⟩ := r.last hl
 simp only
 rw [passes_spec _ 20 _ (by omega) (by omega) h3 (hl.sub fun z hz => h2.mem.1 hz) h1]
 obtain ⟨k1, k2⟩ := sortB_sort (hl.sub fun z hz => h2.mem.1 hz)
 exact eq_sortB hl k1 (h2.trans k2)
end
end Go.Ab

namespace Go.Ab
open Go Go.RowKit
def Tr.jn (l : Nat) : Tr -> Tr
 | .leaf (.jump i) s => if i = l then .leaf .normal s else .need False (.leaf .ret s)
 | .leaf .normal s => .need False (.leaf .ret s)
 | .leaf e s => .leaf e s
 | .br b x y => .br b (x.jn l) (y.jn l)
 | .need p x => .need p (x.jn l)
 | .two p x y => .two p (x.jn l) (y.jn l)
theorem Tr.sat_jn {l : Nat} {Q : XE -> St -> Prop} : {t : Tr} -> (t.jn l).sat Q -> t.sat fun e s => match e with
  | .jump i => i = l /\ Q .normal s
  | .normal => False
  | e => Q e s
 | .leaf e s, hq => by
  cases e with
  | normal => exact hq.1
  | exit i => exact hq
  | ret => exact hq
  | panic p => exact hq
  | val v => exact hq
  | jump i =>
   simp only [Tr.jn] at hq
   split at hq
   ·rename_i h
    exact ⟨h, hq⟩
   ·exact hq.1.elim
 | .br b x y, hq => ⟨fun hb => Tr.sat_jn (hq.1 hb), fun hb => Tr.sat_jn (hq.2 hb)⟩
 | .need p x, hq => ⟨hq.1, Tr.sat_jn hq.2⟩
 | .two p x y, hq => ⟨fun hb => Tr.sat_jn (hq.1 hb), Tr.sat_jn hq.2⟩
def AfterJ (P : Program) (E : Env) (l : Nat) (p : Pt) (Q : p.Out -> Prop) (e : Exit) (a : Act) (w : World) : Prop :=
 ∃ r, Q r /\ match r with
  | .next m => e = .goto l /\ I P E (p.M.tpl p.n m) a w
  | .out y => e = .exit p.id /\ I P E (p.E.tpl p.n y) a w
  | .back z => e = .ret /\ I P E (p.R.tpl p.n z) a w
  | .pan v => e = .panic [{ v := v.val, recovered := false }] /\ ∃ s, s.n = p.n /\ I P E s a w
def DoesJ (P : Program) (l : Nat) (c : Code) (L : LS) (p : Pt) (f : L.X -> Fr p.Out) : Prop :=
 ∀ (E : Env) (a : Act) (w : World) (x : L.X) (Q : p.Out -> Prop), I P E (L.tpl p.n x) a w -> (f x).satP Q -> c.wp P (AfterJ P E l p Q) a w
def runPieceJ (P : Program) (C : Cx) (bs : Nat) (Λ : Nat -> St -> Option Tr) (l : Nat) (c : Code) (L : LS) (p : Pt) (x : L.X) : Option (Fr p.Out) :=
 match codeA P C bs Λ c 0 (L.tpl p.n x) with
 | some t => p.lp.rdOf C.Γ (t.jn l)
 | none => none
def RunOK (P : Program) (E : Env) (c : Code) (run : St -> Option Tr) : Prop :=
 ∀ s t, run s = some t -> ∀ Q : XE -> St -> Prop, t.sat Q -> ∀ (a : Act) (w : World), I P E s a w -> c.wp P (After P E Q) a w
def thenA (r1 r2 : St -> Option Tr) (s : St) : Option Tr :=
 match r1 s with
 | some t => t.bind r2
 | none => none
def runFx (P : Program) (run : St -> Option Tr) (fn : Func) (ps : List PT) (rs : List Ty) (xs : denP ps) : Option (Fr (denL rs)) :=
 if (fn.name == "runtime.NumGoroutine") = false /\ ps.length <= fn.ntmps then match run (startA fn.ntmps (encPs ps xs)) with
  | some t => frOf P fn.results.toList rs t
  | none => none
 else none
section
variable {P : Program} {E : Env}
theorem DoesJ.of_run {C : Cx} (hC : CxOK P C) {bs l : Nat} {Λ : Nat -> St -> Option Tr} {c : Code} {L : LS} {p : Pt} (hM : p.M.low = true) (hE : p.E.low = true) (hR : p.R.low = true) (hΛ : ∀ E, LamOK P E Λ c 0) {f : L.X -> Fr p.Out}
  (hr : ∀ x, runPieceJ P C bs Λ l c L p x = some (f x)) : DoesJ P l c L p f := by
 intro E a w x Q hi hq
 have hrx := hr x
 unfold runPieceJ at hrx
 split at hrx <;> try (cases hrx; done)
 rename_i t ht
 have hsat := Tr.sat_jn (p.lp.rd_sat hrx hq)
 refine wp_mono (codeA_sound hC c 0 (hΛ E) ht hsat hi) ?_
 rintro e a' w' ⟨xe, s', rfl, his, hqs⟩
 cases xe with
 | normal => exact hqs.elim
 | exit i =>
  obtain ⟨rfl, hn', y, n', hy, hn, hqy⟩ := hqs
  have := ext_sound hC.ct hE his hy hn
  rw [hn'] at this
  exact ⟨.out y, hqy, rfl, this⟩
 | ret =>
  obtain ⟨hn', y, n', hy, hn, hqy⟩ := hqs
  have := ext_sound hC.ct hR his hy hn
  rw [hn'] at this
  exact ⟨.back y, hqy, rfl, this⟩
 | panic v => exact ⟨.pan v, hqs.2, rfl, s', hqs.1, his⟩
 | val _ => exact hqs.elim
 | jump _ =>
  obtain ⟨rfl, hn', y, n', hy, hn, hqy⟩ := hqs
  have := ext_sound hC.ct hM his hy hn
  rw [hn'] at this
  exact ⟨.next y, hqy, rfl, this⟩
theorem DoesJ.scope {c rest : Code} {L N Eo R : LS} {n id l : Nat} {f : L.X -> Fr (Rd L.X Eo.X R.X)} (hf : findLabel c l = some rest) (h1 : DoesJ P l c L ⟨n, id, L, Eo, R⟩ f) (h2 : DoesJ P l rest L ⟨n, id, L, Eo, R⟩ f)
  {F : L.X -> Fr (Rd N.X Eo.X R.X)} {inv : L.X -> Prop} {μ : L.X -> Nat}
  (hlaw : ∀ x, inv x -> ∀ Q : Rd N.X Eo.X R.X -> Prop, (F x).satP Q -> (f x).satP fun
   | .next x' => inv x' /\ μ x' < μ x /\ (F x').satP Q
   | .out y => Q (.out y)
   | .back z => Q (.back z)
   | .pan p => Q (.pan p)) (hinv : ∀ x Q, (F x).satP Q -> inv x) : Does P (.scope c) L ⟨n, id, N, Eo, R⟩ F := by
 intro E a w x Q hi hq
 have key : ∀ x a w (c' : Code) (J : Nat -> Act -> World -> Prop), (∀ a w (x' : L.X), inv x' -> μ x' < μ x -> I P E (L.tpl n x') a w -> (F x').satP Q -> ∃ m, m < μ x /\ J m a w) -> DoesJ P l c' L ⟨n, id, L, Eo, R⟩ f -> inv x -> I P E (L.tpl n x) a w -> (F x).satP Q ->
   c'.wp P (Exit.jump l (fun a w => ∃ m, m < μ x /\ J m a w) (AfterR P E ⟨n, id, N, Eo, R⟩ Q)) a w := by
  intro x a w c' J hJ h hx hix hFx
  refine wp_mono (h E a w x _ hix (hlaw x hx Q hFx)) ?_
  rintro e a' w' ⟨r, hr, hm⟩
  cases r with
  | next x' =>
   obtain ⟨rfl, hi'⟩ := hm
   exact ⟨rfl, hJ a' w' x' hr.1 hr.2.1 hi' hr.2.2⟩
  | out y =>
   obtain ⟨rfl, hi'⟩ := hm
   exact ⟨.out y, hr, rfl, hi'⟩
  | back z =>
   obtain ⟨rfl, hi'⟩ := hm
   exact ⟨.back z, hr, rfl, hi'⟩
  | pan v =>
   obtain ⟨rfl, hi'⟩ := hm
   exact ⟨.pan v, hr, rfl, hi'⟩
 have hmono : ∀ {J J' : Act -> World -> Prop} {c' : Code} {a : Act} {w : World}, (∀ a w, J a w -> J' a w) -> c'.wp P (Exit.jump l J (AfterR P E ⟨n, id, N, Eo, R⟩ Q)) a w -> c'.wp P (Exit.jump l J' (AfterR P E ⟨n, id, N, Eo, R⟩ Q)) a w := by
  intro J J' c' a w hJ h
  refine wp_mono h fun e a' w' he => ?_
  cases e with
  | goto l' => exact ⟨he.1, hJ _ _ he.2⟩
  | _ => exact he
 refine wp_scope_jumps l (fun a w => ∃ m, ∃ x, inv x /\ μ x = m /\ I P E (L.tpl n x) a w /\ (F x).satP Q) (fun a w => leastOf fun m => ∃ x, inv x /\ μ x = m /\ I P E (L.tpl n x) a w /\ (F x).satP Q) hf ?_ ?_
 ·exact hmono (fun a w ⟨m, _, h⟩ => ⟨m, h⟩) (key x a w c (fun m a w => ∃ x, inv x /\ μ x = m /\ I P E (L.tpl n x) a w /\ (F x).satP Q) (fun a w x' q1 q2 q3 q4 => ⟨μ x', q2, x', q1, rfl, q3, q4⟩) h1 (hinv x Q hq) hi hq)
 ·rintro a w ⟨m, hm⟩
  obtain ⟨⟨x', q1, q2, q3, q4⟩, _⟩ := leastOf_spec (p := fun m => ∃ x, inv x /\ μ x = m /\ I P E (L.tpl n x) a w /\ (F x).satP Q) ⟨m, hm⟩
  refine hmono (fun a1 w1 ⟨m1, r1, r2⟩ => ⟨⟨m1, r2⟩, ?_⟩) (key x' a w rest (fun m a w => ∃ x, inv x /\ μ x = m /\ I P E (L.tpl n x) a w /\ (F x).satP Q) (fun a w x' q1 q2 q3 q4 => ⟨μ x', q2, x', q1, rfl, q3, q4⟩) h2 q1 q3 q4)
  rw [← q2]
  exact Nat.lt_of_le_of_lt ((leastOf_spec (p := fun m => ∃ x, inv x /\ μ x = m /\ I P E (L.tpl n x) a1 w1 /\ (F x).satP Q) ⟨m1, r2⟩).2 m1 r2) r1
theorem Does.run {C : Cx} (hC : CxOK P C) {c : Code} {L : LS} {p : Pt} {F : L.X -> Fr p.Out} (hL : L.low = true) (h : Does P c L p F) : RunOK P E c (p.han C.Γ L F) := by
 intro s t hs Q hq a w hi
 unfold Pt.han at hs
 split at hs <;> try (cases hs; done)
 rename_i hsn
 split at hs <;> try (cases hs; done)
 rename_i x n hx
 simp only [Option.some.injEq] at hs
 subst hs
 obtain ⟨hq1, hq2⟩ := needL_sat _ hq
 have hi' := ext_sound hC.ct hL hi hx hq1
 rw [hsn] at hi'
 refine wp_mono (h E a w x _ hi' (p.toTr_sat hq2)) ?_
 rintro e a' w' ⟨r, hr, hm⟩
 cases r with
 | next m =>
  obtain ⟨rfl, hi'⟩ := hm
  exact ⟨.normal, _, rfl, hi', hr⟩
 | out y =>
  obtain ⟨rfl, hi'⟩ := hm
  exact ⟨.exit p.id, _, rfl, hi', hr⟩
 | back z =>
  obtain ⟨rfl, hi'⟩ := hm
  exact ⟨.ret, _, rfl, hi', hr⟩
 | pan v =>
  obtain ⟨rfl, s', hn', hi'⟩ := hm
  have hdead : I P E ⟨p.n, fun _ => .dead, fun _ => none, fun _ => .dead⟩ a' w' := by
   have := ext_sound hC.ct (L := ⟨[], []⟩) rfl hi' (x := ((), ())) (n := []) rfl trivial
   rw [hn'] at this
   obtain ⟨F', γ', h⟩ := this
   exact ⟨F', γ', h.n, h.df, h.step, h.mem, fun t => trivial, fun t g want v ht => (nomatch ht), fun t => trivial⟩
  exact ⟨.panic v, _, rfl, hdead, hr⟩
theorem codeA_run {C : Cx} (hC : CxOK P C) {bs : Nat} {Λ : Nat -> St -> Option Tr} {c : Code} (hΛ : LamOK P E Λ c 0) : RunOK P E c (codeA P C bs Λ c 0) :=
 fun _ _ h _ hq _ _ hi => codeA_sound hC c 0 hΛ h hq hi
theorem thenA_run {x y : Code} {r1 r2 : St -> Option Tr} (h1 : RunOK P E x r1) (h2 : RunOK P E y r2) : RunOK P E (.seq x y) (thenA r1 r2) := by
 intro s t h Q hq a w hi
 unfold thenA at h
 split at h <;> try (cases h; done)
 rename_i t1 ht1
 refine wp_seq (wp_mono (h1 s t1 ht1 _ (Tr.sat_bind h hq) a w hi) ?_)
 rintro e a' w' ⟨xe, s', rfl, hi', hq'⟩
 cases xe with
 | normal =>
  obtain ⟨u, hu, hqu⟩ := hq'
  exact h2 _ u hu Q hqu a' w' hi'
 | exit i => exact ⟨.exit i, s', rfl, hi', hq'⟩
 | ret => exact ⟨.ret, s', rfl, hi', hq'⟩
 | panic p => exact ⟨.panic p, s', rfl, hi', hq'⟩
 | val v => exact ⟨.val v, s', rfl, hi', hq'⟩
 | jump l => exact ⟨.jump l, s', rfl, hi', hq'⟩
theorem fx_sound {f : FuncId} {fn : Func} {c : Code} {run : St -> Option Tr} {ps : List PT} {rs : List Ty} {fr : denP ps -> Fr (denL rs)} (x0 : denP ps)
  (hf : P.funcs[f]? = some fn) (hb : fn.body = some c) (hrn : ∀ E, RunOK P E c run) (hrun : ∀ xs, runFx P run fn ps rs xs = some (fr xs)) : SoundCt P f ⟨ps, rs, fun xs => (fr xs).get, fun xs => [(fr xs).ok]⟩ := by
 have h0 := hrun x0
 unfold runFx at h0
 split at h0 <;> try (cases h0; done)
 rename_i hc
 obtain ⟨hname, hn⟩ := hc
 refine ⟨enters hf hb hname, fun w F xs vs hbd hr hok => calls_of_wp hf hb ?_⟩
 have hr' := hrun xs
 unfold runFx at hr'
 rw [if_pos ⟨hname, hn⟩] at hr'
 split at hr' <;> try (cases hr'; done)
 rename_i t ht
 have hlen : vs.length = ps.length := by
  have : ∀ {ps : List PT} {xs : denP ps} {vs : List Value}, RepPs P w F ps xs vs -> vs.length = ps.length := by
   intro ps
   induction ps with
   | nil => intro xs vs h; cases h; rfl
   | cons p r ih =>
    intro xs vs h
    obtain ⟨v, vs', rfl, _, h3⟩ := h
    simp [ih h3]
  exact this hr
 have hstart := start_inv (D := []) (n := fn.ntmps) hbd (fun R => encPs_rep (R := R) hr) (by omega)
 have hwp := hrn _ _ t ht _ (fr_sat hr' hok) _ _ hstart
 have hsz : (vs.toArray).size = vs.length := by simp
 rw [hsz]
 refine wp_mono hwp ?_
 rintro e a' w' ⟨xe, s, rfl, ⟨F', γ', hi⟩, hxe, n, hend, hnn⟩
 have hfin : a'.defers = [] /\ ∃ v, (results fn a'.tmps).run P w' = .ok v w' /\ Post w F rs (fr xs).get (.returned v) w' := by
  unfold endA at hend
  split at hend <;> try (cases hend; done)
  rename_i avs n' hres
  split at hend <;> try (cases hend; done)
  rename_i axs u hrs
  split at hend <;> try (cases hend; done)
  rename_i y hdec
  simp only [Option.some.injEq] at hend
  obtain ⟨hn', hy⟩ := needL_inj hend hnn
  subst hy
  obtain ⟨us, hran, hreps⟩ := res_run hi hres hn'
  obtain ⟨F'', hs, hm', _, hxs⟩ := rsAs_sound hi.mem (inv_bd hi) (SubM.of fun _ _ h => h) hrs hreps
  obtain ⟨γ0, h0⟩ := hi.step
  have hst := h0.trans hs
  refine ⟨hi.df, _, results_run hran, _, F'', rfl, ⟨hst.os, hst.tape, hst.output, hst.size, hst.old⟩, hst.hF, fun b hb => ⟨hst.new b hb, hst.bd b hb⟩, repR_of (decVs_rep hdec hxs)⟩
 rcases hxe with rfl | rfl
 ·exact hfin
 ·exact hfin
end
end Go.Ab
namespace Go.Proofs.YtplkgghjldndkaaGreat
open Go Go.Ab Go.RowKit Go.Proofs
abbrev cmpT : PT := .pf [i64, i64] [i64]
def ltOf (g : cmpT.den) (x y : Int) : Bool := decide ((g.1 (x, y, ())).1 < 0)
def DomOf (g : cmpT.den) (l : List Int) : Prop := ∀ x ∈ l, ∀ y ∈ l, g.2 (x, y, ())
theorem DomOf.sub {g : cmpT.den} {l s : List Int} (h : DomOf g l) (hs : ∀ x ∈ s, x ∈ l) : DomOf g s := fun x hx y hy => h x (hs x hx) y (hs y hy)
theorem half_nat {i j : Nat} (h : i + j <= 9223372036854775807) : IntKind.i64.wrap ((IntKind.u64.wrap (IntKind.i64.wrap ((i : Int) + j))).fdiv (2 ^ min (Int.toNat 1) IntKind.u64.bits)) = ((i + j) / 2 : Nat) := by
 have h1 : IntKind.i64.wrap ((i : Int) + j) = (i : Int) + j := IntWalk.i64_in _ (by omega)
 have h2 : IntKind.u64.wrap ((i : Int) + j) = (i : Int) + j := IntWalk.u64_in _ (by omega)
 have h3 : (2 : Int) ^ min (Int.toNat 1) IntKind.u64.bits = 2 := by decide
 rw [h1, h2, h3, Int.fdiv_eq_ediv_of_nonneg _ (by decide), IntWalk.i64_in _ (by omega)]
 omega
theorem add_nat {i j : Nat} (h : i + j <= 9223372036854775807) : IntKind.i64.wrap ((i : Int) + j) = (i + j : Nat) := by
 rw [IntWalk.i64_in _ (by omega)]
 omega
theorem succ_nat {i : Nat} (h : i + 1 <= 9223372036854775807) : IntKind.i64.wrap ((i : Int) + 1) = (i + 1 : Nat) := by
 rw [IntWalk.i64_in _ (by omega)]
 omega
theorem sub_nat {i j : Nat} (h : j <= i) (h2 : i <= 9223372036854775807) : IntKind.i64.wrap ((i : Int) - j) = (i - j : Nat) := by
 rw [IntWalk.i64_in _ (by omega)]
 omega
theorem pred_nat {i : Nat} (h : 1 <= i) (h2 : i <= 9223372036854775807) : IntKind.i64.wrap ((i : Int) - 1) = (i - 1 : Nat) := by
 rw [IntWalk.i64_in _ (by omega)]
 omega
theorem swapL_length {l : List Int} {i j : Nat} : (swapL l 0 i j).length = l.length := by simp [swapL]
theorem swapL_mem {l : List Int} {i j : Nat} (hi : i < l.length) (hj : j < l.length) {x : Int} (h : x ∈ swapL l 0 i j) : x ∈ l := by
 unfold swapL at h
 have h1 : l.getD i 0 ∈ l := getD_mem hi
 have h2 : l.getD j 0 ∈ l := getD_mem hj
 rcases List.mem_or_eq_of_mem_set h with h | rfl
 ·rcases List.mem_or_eq_of_mem_set h with h | rfl
  ·exact h
  ·exact h2
 ·exact h1
abbrev pt_insI : Pt := ⟨53, 2, ⟨[(1, .d i64), (2, .d i64), (3, cmpT), (8, .d i64), (9, .d i64)], [.al 10000 0, .o 0 3 i64]⟩, ⟨[(1, .d i64), (2, .d i64), (3, cmpT), (8, .d i64)], [.al 10000 0, .o 0 3 i64]⟩, ⟨[], []⟩⟩
noncomputable def insCode : Code := ((Go.Ab.loopB (loopF Tryz.f159 0) 0).getD .skip)
noncomputable def CI0 : Cx := cx [] []
theorem CI0_ok : CxOK Tryz.prog CI0 := cx_ok mixed trivial trivial
def fr_insI (x : pt_insI.M.X) : Fr pt_insI.Out :=
 let a := x.1.1; let j := x.1.2.2.2.2.1; let g := x.1.2.2.1; let l := x.2.1
 Fr.need (decide (j > a) = true -> 0 <= j /\ j < l.length)
  (Fr.need (decide (j > a) = true -> j.toNat < l.length)
   (Fr.need (decide (j > a) = true -> 0 <= IntKind.i64.wrap (j - 1) /\ IntKind.i64.wrap (j - 1) < l.length)
    (Fr.need (decide (j > a) = true -> (IntKind.i64.wrap (j - 1)).toNat < l.length)
     (Fr.need (decide (j > a) = true -> g.2 (l.getD j.toNat i64.dflt, l.getD (IntKind.i64.wrap (j - 1)).toNat i64.dflt, ()))
      (Fr.br (bif decide (j > a) then decide ((g.1 (l.getD j.toNat i64.dflt, l.getD (IntKind.i64.wrap (j - 1)).toNat i64.dflt, ())).1 < 0) else false)
       (Fr.need (0 <= IntKind.i64.wrap (j - 1) /\ IntKind.i64.wrap (j - 1) < l.length)
        (Fr.need ((IntKind.i64.wrap (j - 1)).toNat < l.length)
         (Fr.need (0 <= j /\ j < l.length)
          (Fr.need (j.toNat < l.length)
           (Fr.need (0 <= j /\ j < l.length)
            (Fr.need (j.toNat < l.length)
             (Fr.need (0 <= IntKind.i64.wrap (j - 1) /\ IntKind.i64.wrap (j - 1) < (l.set j.toNat (l.getD (IntKind.i64.wrap (j - 1)).toNat i64.dflt)).length)
              (Fr.need ((IntKind.i64.wrap (j - 1)).toNat < (l.set j.toNat (l.getD (IntKind.i64.wrap (j - 1)).toNat i64.dflt)).length)
               (Fr.val (Rd.next ((a, x.1.2.1, (g.1, g.2), x.1.2.2.2.1, IntKind.i64.wrap (j - 1), ()),
                ((l.set j.toNat (l.getD (IntKind.i64.wrap (j - 1)).toNat i64.dflt)).set (IntKind.i64.wrap (j - 1)).toNat (l.getD j.toNat i64.dflt), ()))))))))))))
       (Fr.val (Rd.out ((a, x.1.2.1, (g.1, g.2), x.1.2.2.2.1, ()), (l, ())))))))))
theorem sem_insI : Does Tryz.prog insCode pt_insI.M pt_insI fr_insI :=
 Does.of_run CI0_ok (bs := 0) (Λ := lam0) rfl rfl rfl (fun E => lam0_ok _ 0) (fun x => by kernel_rfl)
structure InvInsI (a j : Int) (g : cmpT.den) (l : List Int) : Prop where
 a0 : 0 <= a
 aj : a <= j
 jl : j < l.length
 big : (l.length : Int) <= 9223372036854775807
 dom : DomOf g l
def FInsI (x : pt_insI.M.X) : Fr pt_insI.Out :=
 Fr.need (InvInsI x.1.1 x.1.2.2.2.2.1 x.1.2.2.1 x.2.1) (Fr.val (Rd.out ((x.1.1, x.1.2.1, x.1.2.2.1, x.1.2.2.2.1, ()), (insDown (ltOf x.1.2.2.1) 0 x.1.1.toNat x.1.2.2.2.2.1.toNat x.2.1, ()))))
theorem lawInsI (a b i j : Int) (g : cmpT.den) (l : List Int) (hinv : InvInsI a j g l) (Q : pt_insI.Out -> Prop)
  (hq : Q (Rd.out ((a, b, g, i, ()), (insDown (ltOf g) 0 a.toNat j.toNat l, ())))) : (fr_insI ((a, b, g, i, j, ()), (l, ()))).satP fun
   | .next x' => InvInsI x'.1.1 x'.1.2.2.2.2.1 x'.1.2.2.1 x'.2.1 /\ x'.1.2.2.2.2.1.toNat < j.toNat /\ (FInsI x').satP Q
   | .out y => Q (.out y)
   | .back z => Q (.back z)
   | .pan p => Q (.pan p) := by
 obtain ⟨h0, h1, h2, h3, h4⟩ := hinv
 obtain ⟨a', rfl⟩ : ∃ n : Nat, a = n := ⟨a.toNat, by omega⟩
 obtain ⟨j', rfl⟩ : ∃ n : Nat, j = n := ⟨j.toNat, by omega⟩
 dsimp only [fr_insI, Fr.satP, Ty.den, PT.den]
 by_cases hj : a' < j'
 ·obtain ⟨k, rfl⟩ : ∃ k, j' = k + 1 := ⟨j' - 1, by omega⟩
  have hkl : k + 1 < l.length := by omega
  have hw : IntKind.i64.wrap (((k + 1 : Nat) : Int) - 1) = (k : Nat) := by rw [pred_nat (by omega) (by omega)]; rfl
  have hd : decide (((k + 1 : Nat) : Int) > (a' : Int)) = true := decide_eq_true (by omega)
  have t1 : ((k + 1 : Nat) : Int).toNat = k + 1 := rfl
  have t2 : ((k : Nat) : Int).toNat = k := rfl
  rw [hw, hd, t1, t2]
  simp only [List.length_set]
  refine ⟨fun _ => ⟨by omega, by omega⟩, fun _ => by omega, fun _ => ⟨by omega, by omega⟩, fun _ => by omega, fun _ => h4 _ (getD_mem hkl) _ (getD_mem (by omega)), fun hc => ?_, fun hc => ?_⟩
  ·refine ⟨⟨by omega, by omega⟩, by omega, ⟨by omega, by omega⟩, by omega, ⟨by omega, by omega⟩, by omega, ⟨by omega, by omega⟩, by omega, ?_⟩
   have hI : InvInsI a' k g (swapL l 0 (k + 1) k) := ⟨by omega, by omega, by rw [swapL_length]; omega, by rw [swapL_length]; omega, h4.sub fun x hx => swapL_mem hkl (by omega) hx⟩
   refine ⟨hI, by omega, hI, ?_⟩
   simp only [Int.toNat_natCast, insDown] at hq ⊢
   rw [if_pos (by omega)] at hq
   have hc' : ltOf g (l.getD (k + 1) 0) (l.getD k 0) = true := hc
   rw [hc'] at hq
   exact hq
  ·simp only [Int.toNat_natCast, insDown] at hq
   rw [if_pos (by omega)] at hq
   have hc' : ltOf g (l.getD (k + 1) 0) (l.getD k 0) = false := hc
   rw [hc'] at hq
   exact hq
 ·have hd : decide ((j' : Int) > (a' : Int)) = false := decide_eq_false (by omega)
  rw [hd]
  refine ⟨fun h => (by cases h), fun h => (by cases h), fun h => (by cases h), fun h => (by cases h), fun h => (by cases h), fun hc => (by cases hc), fun _ => ?_⟩
  have hx : insDown (ltOf g) 0 a' j' l = l := by
   cases j' with
   | zero => rfl
   | succ k => simp only [insDown]; rw [if_neg (by omega)]
  simp only [Int.toNat_natCast, hx] at hq
  exact hq
theorem loopInsI : Does Tryz.prog (.loop insCode) pt_insI.M pt_insI FInsI := by
 refine Does.loop (n := 53) (id := 2) sem_insI (inv := fun x => InvInsI x.1.1 x.1.2.2.2.2.1 x.1.2.2.1 x.2.1) (μ := fun x => x.1.2.2.2.2.1.toNat) ?_ (fun x Q h => h.1)
 rintro ⟨⟨a, b, g, i, j, _⟩, ⟨l, _⟩⟩ hinv Q hq
 exact lawInsI a b i j g l hinv Q hq.2
abbrev pt_insO : Pt := ⟨53, 0, ⟨[(1, .d i64), (2, .d i64), (3, cmpT), (8, .d i64)], [.al 10000 0, .o 0 3 i64]⟩, ⟨[], [.al 10000 0, .o 0 3 i64]⟩, ⟨[], []⟩⟩
noncomputable def ΛInsI : Nat -> St -> Option Tr := fun _ => pt_insI.han CI0.Γ pt_insI.M FInsI
def fr_insO (x : pt_insO.M.X) : Fr pt_insO.Out :=
 let a := x.1.1; let b := x.1.2.1; let g := x.1.2.2.1; let i := x.1.2.2.2.1; let l := x.2.1
 Fr.br (decide (i < b))
  (Fr.need (InvInsI a i (g.1, g.2) l) (Fr.val (Rd.next ((a, b, (g.1, g.2), IntKind.i64.wrap (i + 1), ()), (insDown (ltOf (g.1, g.2)) 0 a.toNat i.toNat l, ())))))
  (Fr.val (Rd.out ((), (l, ()))))
theorem lam_insI {E : Env} : LamOK Tryz.prog E ΛInsI (loopF Tryz.f159 0) 0 :=
 lam1 (b := insCode) (by kernel_rfl) (by kernel_rfl) (Does.han CI0_ok rfl loopInsI)
theorem sem_insO : Does Tryz.prog (loopF Tryz.f159 0) pt_insO.M pt_insO fr_insO :=
 Does.of_run CI0_ok (bs := 0) (Λ := ΛInsI) rfl rfl rfl (fun E => lam_insI) (fun x => by kernel_rfl)
theorem insDown_mem {lt : Int -> Int -> Bool} {a : Nat} : (j : Nat) -> {l : List Int} -> j < l.length -> ∀ x ∈ insDown lt 0 a j l, x ∈ l
 | 0, _, _, _, h => h
 | j + 1, l, hj, x, h => by
  simp only [insDown] at h
  split at h
  ·cases hc : lt (l.getD (j + 1) 0) (l.getD j 0) with
   | true =>
    rw [hc] at h
    exact swapL_mem hj (by omega) (insDown_mem j (by rw [swapL_length]; omega) x h)
   | false =>
    rw [hc] at h
    exact h
  ·exact h
theorem insDown_length {lt : Int -> Int -> Bool} {a : Nat} : (j : Nat) -> {l : List Int} -> (insDown lt 0 a j l).length = l.length
 | 0, _ => rfl
 | j + 1, l => by
  simp only [insDown]
  split
  ·cases lt (l.getD (j + 1) 0) (l.getD j 0) with
   | true => rw [cond_true, insDown_length j, swapL_length]
   | false => rfl
  ·rfl
structure InvInsO (a b i : Int) (g : cmpT.den) (l : List Int) : Prop where
 a0 : 0 <= a
 ai : a < i
 bl : b <= l.length
 il : i <= 9223372036854775807
 big : (l.length : Int) <= 9223372036854775807
 dom : DomOf g l
def FInsO (x : pt_insO.M.X) : Fr pt_insO.Out :=
 Fr.need (InvInsO x.1.1 x.1.2.1 x.1.2.2.2.1 x.1.2.2.1 x.2.1) (Fr.val (Rd.out ((), (insFrom (ltOf x.1.2.2.1) 0 x.1.1.toNat (x.1.2.1 - x.1.2.2.2.1).toNat x.1.2.2.2.1.toNat x.2.1, ()))))
theorem lawInsO (a b i : Int) (g : cmpT.den) (l : List Int) (hinv : InvInsO a b i g l) (Q : pt_insO.Out -> Prop)
  (hq : Q (Rd.out ((), (insFrom (ltOf g) 0 a.toNat (b - i).toNat i.toNat l, ())))) : (fr_insO ((a, b, g, i, ()), (l, ()))).satP fun
   | .next x' => InvInsO x'.1.1 x'.1.2.1 x'.1.2.2.2.1 x'.1.2.2.1 x'.2.1 /\ (x'.1.2.1 - x'.1.2.2.2.1).toNat < (b - i).toNat /\ (FInsO x').satP Q
   | .out y => Q (.out y)
   | .back z => Q (.back z)
   | .pan p => Q (.pan p) := by
 obtain ⟨h0, h1, h2, h3, h4, h5⟩ := hinv
 dsimp only [fr_insO, Fr.satP, Ty.den, PT.den]
 refine ⟨fun hi => ?_, fun hi => ?_⟩
 ·have hlt : i < b := of_decide_eq_true hi
  have hw : IntKind.i64.wrap (i + 1) = i + 1 := IntWalk.i64_in _ (by omega)
  have hI : InvInsO a b (i + 1) g (insDown (ltOf g) 0 a.toNat i.toNat l) := ⟨h0, by omega, by rw [insDown_length]; exact h2, by omega, by rw [insDown_length]; exact h4, h5.sub fun x hx => insDown_mem _ (by omega) x hx⟩
  refine ⟨⟨h0, by omega, by omega, h4, h5⟩, ?_⟩
  rw [hw]
  refine ⟨hI, by omega, hI, ?_⟩
  have e1 : (b - i).toNat = (b - (i + 1)).toNat + 1 := by omega
  have e2 : (i + 1).toNat = i.toNat + 1 := by omega
  rw [e1] at hq
  simp only [insFrom] at hq
  dsimp only
  rw [e2]
  exact hq
 ·have hge : ¬ i < b := of_decide_eq_false hi
  have e1 : (b - i).toNat = 0 := by omega
  rw [e1] at hq
  exact hq
theorem loopInsO : Does Tryz.prog (.loop (loopF Tryz.f159 0)) pt_insO.M pt_insO FInsO := by
 refine Does.loop (n := 53) (id := 0) sem_insO (inv := fun x => InvInsO x.1.1 x.1.2.1 x.1.2.2.2.1 x.1.2.2.1 x.2.1) (μ := fun x => (x.1.2.1 - x.1.2.2.2.1).toNat) ?_ (fun x Q h => h.1)
 rintro ⟨⟨a, b, g, i, _⟩, ⟨l, _⟩⟩ hinv Q hq
 exact lawInsO a b i g l hinv Q hq.2
noncomputable def ΛInsO : Nat -> St -> Option Tr := fun _ => pt_insO.han CI0.Γ pt_insO.M FInsO
def OrdOf (g : cmpT.den) (l : List Int) : Prop := DomOf g l /\ ∃ key : Int -> Int, LtK (ltOf g) key l
theorem OrdOf.sub {g : cmpT.den} {l s : List Int} (h : OrdOf g l) (hs : ∀ x ∈ s, x ∈ l) : OrdOf g s := by
 obtain ⟨h1, key, h2⟩ := h
 exact ⟨h1.sub hs, key, h2.sub hs⟩
noncomputable def mInsert : Mt := ⟨3, i64, [.d i64, .d i64, cmpT], [], fun l x => (partB (ltOf x.2.2.1) x.1.toNat x.2.1.toNat l, ()), fun l x => [0 <= x.1, x.1 <= x.2.1, x.2.1 <= l.length, (l.length : Int) <= 4611686018427387903, OrdOf x.2.2.1 l]⟩
def fr_insert (l : List Int) (x : denP [.d i64, .d i64, cmpT]) : Fr (List Int × denL []) :=
 Fr.need (InvInsO x.1 x.2.1 (IntKind.i64.wrap (x.1 + 1)) (x.2.2.1.1, x.2.2.1.2) l)
  (Fr.val (insFrom (ltOf (x.2.2.1.1, x.2.2.1.2)) 0 x.1.toNat (x.2.1 - IntKind.i64.wrap (x.1 + 1)).toNat (IntKind.i64.wrap (x.1 + 1)).toNat l, ()))
theorem insert_ok : SoundMt Tryz.prog 159 mInsert :=
 convMt (mt_sound CI0_ok (Λ := ΛInsO) (fn := Tryz.f159) (fr := fr_insert) (e := 3) (T := i64) (ps := [.d i64, .d i64, cmpT]) (rs := []) (0, 0, (fun _ => (0, ()), fun _ => True), ()) (by kernel_rfl) rfl rfl
  (fun c E hc => lam1f hc (by kernel_rfl) (b := loopF Tryz.f159 0) (by kernel_rfl) (Does.han CI0_ok rfl loopInsO)) (fun l x => by kernel_rfl)) _ _ fun w F l xs vs _ _ _ hok => by
  obtain ⟨a, b, g, rfl⟩ : ∃ (a b : Int) (g : cmpT.den), xs = (a, b, g, ()) := ⟨xs.1, xs.2.1, xs.2.2.1, rfl⟩
  have hok' : (0 : Int) <= a /\ (a : Int) <= b /\ (b : Int) <= (List.length (α := Int) l : Int) /\ (List.length (α := Int) l : Int) <= 4611686018427387903 /\ OrdOf g l := hok
  obtain ⟨h1, h2, h3, hlen, h4, key, h5⟩ := hok'
  have hw : IntKind.i64.wrap (a + 1) = a + 1 := IntWalk.i64_in _ (by omega)
  dsimp only [fr_insert, Fr.ok, Fr.get, Ty.den, PT.den]
  rw [hw]
  refine ⟨⟨⟨h1, by omega, h3, by omega, by omega, h4⟩, trivial⟩, ?_⟩
  have := insFrom_part (key := key) (lt := ltOf g) (d := (0 : Int)) (a := a.toNat) (b := b.toNat) (l := l) (by omega) (by omega) h5
  show (insFrom (ltOf g) 0 a.toNat (b - (a + 1)).toNat (a + 1).toNat l, ()) = (partB (ltOf g) a.toNat b.toNat l, ())
  rw [← this, show (b - (a + 1)).toNat = b.toNat - (a.toNat + 1) by omega, show (a + 1).toNat = a.toNat + 1 by omega]
abbrev pt_swp : Pt := ⟨38, 0, ⟨[(1, .d i64), (2, .d i64), (3, .d i64), (10, .d i64)], [.al 10000 0, .o 0 3 i64]⟩, ⟨[], [.al 10000 0, .o 0 3 i64]⟩, ⟨[], []⟩⟩
def fr_swp (x : pt_swp.M.X) : Fr pt_swp.Out :=
 let a := x.1.1; let b := x.1.2.1; let n := x.1.2.2.1; let i := x.1.2.2.2.1; let l := x.2.1
 Fr.br (decide (i < n))
  (Fr.need (0 <= IntKind.i64.wrap (b + i) /\ IntKind.i64.wrap (b + i) < l.length)
   (Fr.need ((IntKind.i64.wrap (b + i)).toNat < l.length)
    (Fr.need (0 <= IntKind.i64.wrap (a + i) /\ IntKind.i64.wrap (a + i) < l.length)
     (Fr.need ((IntKind.i64.wrap (a + i)).toNat < l.length)
      (Fr.need (0 <= IntKind.i64.wrap (a + i) /\ IntKind.i64.wrap (a + i) < l.length)
       (Fr.need ((IntKind.i64.wrap (a + i)).toNat < l.length)
        (Fr.need (0 <= IntKind.i64.wrap (b + i) /\ IntKind.i64.wrap (b + i) < (l.set (IntKind.i64.wrap (a + i)).toNat (l.getD (IntKind.i64.wrap (b + i)).toNat i64.dflt)).length)
         (Fr.need ((IntKind.i64.wrap (b + i)).toNat < (l.set (IntKind.i64.wrap (a + i)).toNat (l.getD (IntKind.i64.wrap (b + i)).toNat i64.dflt)).length)
          (Fr.val (Rd.next ((a, b, n, IntKind.i64.wrap (i + 1), ()),
           ((l.set (IntKind.i64.wrap (a + i)).toNat (l.getD (IntKind.i64.wrap (b + i)).toNat i64.dflt)).set (IntKind.i64.wrap (b + i)).toNat (l.getD (IntKind.i64.wrap (a + i)).toNat i64.dflt), ()))))))))))))
  (Fr.val (Rd.out ((), (l, ()))))
theorem sem_swp : Does Tryz.prog (loopF Tryz.f172 0) pt_swp.M pt_swp fr_swp :=
 Does.of_run CI0_ok (bs := 0) (Λ := lam0) rfl rfl rfl (fun E => lam0_ok _ 0) (fun x => by kernel_rfl)
structure InvSwp (a b n i : Int) (l : List Int) : Prop where
 a0 : 0 <= a
 b0 : 0 <= b
 i0 : 0 <= i
 al : a + n <= l.length
 bl : b + n <= l.length
 big : (l.length : Int) <= 9223372036854775807
def FSwp (x : pt_swp.M.X) : Fr pt_swp.Out :=
 Fr.need (InvSwp x.1.1 x.1.2.1 x.1.2.2.1 x.1.2.2.2.1 x.2.1) (Fr.val (Rd.out ((), (swapR 0 (x.1.2.2.1 - x.1.2.2.2.1).toNat (x.1.1 + x.1.2.2.2.1).toNat (x.1.2.1 + x.1.2.2.2.1).toNat x.2.1, ()))))
theorem lawSwp (a b n i : Int) (l : List Int) (hinv : InvSwp a b n i l) (Q : pt_swp.Out -> Prop)
  (hq : Q (Rd.out ((), (swapR 0 (n - i).toNat (a + i).toNat (b + i).toNat l, ())))) : (fr_swp ((a, b, n, i, ()), (l, ()))).satP fun
   | .next x' => InvSwp x'.1.1 x'.1.2.1 x'.1.2.2.1 x'.1.2.2.2.1 x'.2.1 /\ (x'.1.2.2.1 - x'.1.2.2.2.1).toNat < (n - i).toNat /\ (FSwp x').satP Q
   | .out y => Q (.out y)
   | .back z => Q (.back z)
   | .pan p => Q (.pan p) := by
 obtain ⟨h0, h1, h2, h3, h4, h5⟩ := hinv
 dsimp only [fr_swp, Fr.satP, Ty.den, PT.den]
 refine ⟨fun hi => ?_, fun hi => ?_⟩
 ·have hlt : i < n := of_decide_eq_true hi
  have w1 : IntKind.i64.wrap (b + i) = b + i := IntWalk.i64_in _ (by omega)
  have w2 : IntKind.i64.wrap (a + i) = a + i := IntWalk.i64_in _ (by omega)
  have w3 : IntKind.i64.wrap (i + 1) = i + 1 := IntWalk.i64_in _ (by omega)
  rw [w1, w2, w3]
  simp only [List.length_set]
  refine ⟨⟨by omega, by omega⟩, by omega, ⟨by omega, by omega⟩, by omega, ⟨by omega, by omega⟩, by omega, ⟨by omega, by omega⟩, by omega, ?_⟩
  have hI : InvSwp a b n (i + 1) (swapL l 0 (a + i).toNat (b + i).toNat) := ⟨h0, h1, by omega, by rw [swapL_length]; omega, by rw [swapL_length]; omega, by rw [swapL_length]; omega⟩
  refine ⟨hI, by omega, hI, ?_⟩
  rw [show (n - i).toNat = (n - (i + 1)).toNat + 1 by omega] at hq
  simp only [swapR] at hq
  dsimp only
  rw [show (a + (i + 1)).toNat = (a + i).toNat + 1 by omega, show (b + (i + 1)).toNat = (b + i).toNat + 1 by omega]
  exact hq
 ·have hge : ¬ i < n := of_decide_eq_false hi
  rw [show (n - i).toNat = 0 by omega] at hq
  exact hq
theorem loopSwp : Does Tryz.prog (.loop (loopF Tryz.f172 0)) pt_swp.M pt_swp FSwp := by
 refine Does.loop (n := 38) (id := 0) sem_swp (inv := fun x => InvSwp x.1.1 x.1.2.1 x.1.2.2.1 x.1.2.2.2.1 x.2.1) (μ := fun x => (x.1.2.2.1 - x.1.2.2.2.1).toNat) ?_ (fun x Q h => h.1)
 rintro ⟨⟨a, b, n, i, _⟩, ⟨l, _⟩⟩ hinv Q hq
 exact lawSwp a b n i l hinv Q hq.2
noncomputable def ΛSwp : Nat -> St -> Option Tr := fun _ => pt_swp.han CI0.Γ pt_swp.M FSwp
noncomputable def mSwap : Mt := ⟨3, i64, [.d i64, .d i64, .d i64, cmpT], [], fun l x => (swapR 0 x.2.2.1.toNat x.1.toNat x.2.1.toNat l, ()), fun l x => [0 <= x.1, 0 <= x.2.1, x.1 + x.2.2.1 <= l.length, x.2.1 + x.2.2.1 <= l.length]⟩
def fr_swap (l : List Int) (x : denP [.d i64, .d i64, .d i64, cmpT]) : Fr (List Int × denL []) :=
 Fr.need (InvSwp x.1 x.2.1 x.2.2.1 0 l) (Fr.val (swapR 0 (x.2.2.1 - 0).toNat (x.1 + 0).toNat (x.2.1 + 0).toNat l, ()))
theorem swap_ok : SoundMt Tryz.prog 172 mSwap :=
 convMt (mt_sound CI0_ok (Λ := ΛSwp) (fn := Tryz.f172) (fr := fr_swap) (e := 3) (T := i64) (ps := [.d i64, .d i64, .d i64, cmpT]) (rs := []) (0, 0, 0, (fun _ => (0, ()), fun _ => True), ()) (by kernel_rfl) rfl rfl
  (fun c E hc => lam1f hc (by kernel_rfl) (b := loopF Tryz.f172 0) (by kernel_rfl) (Does.han CI0_ok rfl loopSwp)) (fun l x => by kernel_rfl)) _ _ fun w F l xs vs _ hlen _ hok => by
  obtain ⟨a, b, n, g, rfl⟩ : ∃ (a b n : Int) (g : cmpT.den), xs = (a, b, n, g, ()) := ⟨xs.1, xs.2.1, xs.2.2.1, xs.2.2.2.1, rfl⟩
  have hok' : (0 : Int) <= a /\ (0 : Int) <= b /\ (a : Int) + n <= (List.length (α := Int) l : Int) /\ (b : Int) + n <= (List.length (α := Int) l : Int) := hok
  obtain ⟨h1, h2, h3, h4⟩ := hok'
  have hlen : List.length (α := Int) l <= maxLen := hlen
  simp only [maxLen] at hlen
  refine ⟨⟨⟨h1, h2, Int.le_refl _, h3, h4, by omega⟩, trivial⟩, ?_⟩
  show (swapR 0 (n - 0).toNat (a + 0).toNat (b + 0).toNat l, ()) = (swapR 0 n.toNat a.toNat b.toNat l, ())
  rw [Int.sub_zero, Int.add_zero, Int.add_zero]
theorem bsG_enough {Q : Nat -> Bool} : (f f' i j : Nat) -> j - i <= f -> j - i <= f' -> bsG Q f i j = bsG Q f' i j
 | 0, 0, _, _, _, _ => rfl
 | 0, f' + 1, i, j, h, _ => by simp only [bsG]; rw [if_neg (by omega)]
 | f + 1, 0, i, j, _, h => by simp only [bsG]; rw [if_neg (by omega)]
 | f + 1, f' + 1, i, j, h, h' => by
  simp only [bsG]
  split
  ·cases Q ((i + j) / 2) with
   | true => exact bsG_enough f f' _ _ (by omega) (by omega)
   | false => exact bsG_enough f f' _ _ (by omega) (by omega)
  ·rfl
theorem bsG_step {Q : Nat -> Bool} {i j : Nat} (h : i < j) : bsG Q (j - i) i j = bif Q ((i + j) / 2) then bsG Q (j - ((i + j) / 2 + 1)) ((i + j) / 2 + 1) j else bsG Q ((i + j) / 2 - i) i ((i + j) / 2) := by
 obtain ⟨f, hf⟩ : ∃ f, j - i = f + 1 := ⟨j - i - 1, by omega⟩
 rw [hf]
 simp only [bsG]
 rw [if_pos h]
 cases Q ((i + j) / 2) with
 | true => exact bsG_enough _ _ _ _ (by omega) (by omega)
 | false => exact bsG_enough _ _ _ _ (by omega) (by omega)
theorem rotG_enough {α : Type} {d : α} {m : Nat} : (f f' i j : Nat) -> (l : List α) -> 0 < i -> 0 < j -> i + j <= f -> i + j <= f' -> rotG d m f i j l = rotG d m f' i j l
 | 0, _, i, j, _, _, _, _, _ => by omega
 | f + 1, 0, i, j, _, _, _, _, _ => by omega
 | f + 1, f' + 1, i, j, l, h1, h2, h3, h4 => by
  simp only [rotG]
  split
  ·rfl
  ·split
   ·exact rotG_enough f f' _ _ _ (by omega) (by omega) (by omega) (by omega)
   ·exact rotG_enough f f' _ _ _ (by omega) (by omega) (by omega) (by omega)
noncomputable def CI1 : Cx := cxK [] [] (mtK (cx [] []).Γ 172 mSwap)
theorem CI1_ok : CxOK Tryz.prog CI1 := cxK_ok mixed trivial trivial (mtK_ok CI0_ok.ct swap_ok)
abbrev pt_rot : Pt := ⟨58, 0, ⟨[(2, .d i64), (4, cmpT), (10, .d i64), (11, .d i64)], [.al 10000 0, .o 0 3 i64]⟩, ⟨[(2, .d i64), (4, cmpT), (10, .d i64)], [.al 10000 0, .o 0 3 i64]⟩, ⟨[], []⟩⟩
noncomputable def fr_rot (x : pt_rot.M.X) : Fr pt_rot.Out :=
 let m := x.1.1; let g := x.1.2.1; let i := x.1.2.2.1; let j := x.1.2.2.2.1; let l := x.2.1
 Fr.br (i != j)
  (Fr.br (decide (i > j))
   (Fr.need (0 <= IntKind.i64.wrap (m - i))
    (Fr.need (0 <= m)
     (Fr.need (IntKind.i64.wrap (m - i) + j <= (l.length : Int))
      (Fr.need (m + j <= (l.length : Int))
       (Fr.val (Rd.next ((m, (g.1, g.2), IntKind.i64.wrap (i - j), j, ()), ((mSwap.f l (IntKind.i64.wrap (m - i), m, j, (g.1, g.2), ())).1, ()))))))))
   (Fr.need (0 <= IntKind.i64.wrap (m - i))
    (Fr.need (0 <= IntKind.i64.wrap (IntKind.i64.wrap (m + j) - i))
     (Fr.need (IntKind.i64.wrap (m - i) + i <= (l.length : Int))
      (Fr.need (IntKind.i64.wrap (IntKind.i64.wrap (m + j) - i) + i <= (l.length : Int))
       (Fr.val (Rd.next ((m, (g.1, g.2), i, IntKind.i64.wrap (j - i), ()), ((mSwap.f l (IntKind.i64.wrap (m - i), IntKind.i64.wrap (IntKind.i64.wrap (m + j) - i), i, (g.1, g.2), ())).1, ())))))))))
  (Fr.val (Rd.out ((m, (g.1, g.2), i, ()), (l, ()))))
theorem sem_rot : Does Tryz.prog (loopF Tryz.f168 0) pt_rot.M pt_rot fr_rot :=
 Does.of_run CI1_ok (bs := 0) (Λ := lam0) rfl rfl rfl (fun E => lam0_ok _ 0) (fun x => by kernel_rfl)
theorem swapR_length : (n a b : Nat) -> (l : List Int) -> (swapR 0 n a b l).length = l.length
 | 0, _, _, _ => rfl
 | n + 1, a, b, l => by simp only [swapR]; rw [swapR_length n, swapL_length]
structure InvRot (m i j : Int) (l : List Int) : Prop where
 i0 : 0 < i
 j0 : 0 < j
 im : i <= m
 ml : m + j <= l.length
 big : (l.length : Int) <= 4611686018427387903
def FRot (x : pt_rot.M.X) : Fr pt_rot.Out :=
 Fr.need (InvRot x.1.1 x.1.2.2.1 x.1.2.2.2.1 x.2.1) (Fr.val (Rd.out ((x.1.1, x.1.2.1, ((rotG 0 x.1.1.toNat (x.1.2.2.1.toNat + x.1.2.2.2.1.toNat) x.1.2.2.1.toNat x.1.2.2.2.1.toNat x.2.1).1 : Nat), ()),
  ((rotG 0 x.1.1.toNat (x.1.2.2.1.toNat + x.1.2.2.2.1.toNat) x.1.2.2.1.toNat x.1.2.2.2.1.toNat x.2.1).2, ()))))
theorem lawRot (m i j : Int) (g : cmpT.den) (l : List Int) (hinv : InvRot m i j l) (Q : pt_rot.Out -> Prop)
  (hq : Q (Rd.out ((m, g, ((rotG 0 m.toNat (i.toNat + j.toNat) i.toNat j.toNat l).1 : Nat), ()), ((rotG 0 m.toNat (i.toNat + j.toNat) i.toNat j.toNat l).2, ())))) : (fr_rot ((m, g, i, j, ()), (l, ()))).satP fun
   | .next x' => InvRot x'.1.1 x'.1.2.2.1 x'.1.2.2.2.1 x'.2.1 /\ x'.1.2.2.1.toNat + x'.1.2.2.2.1.toNat < i.toNat + j.toNat /\ (FRot x').satP Q
   | .out y => Q (.out y)
   | .back z => Q (.back z)
   | .pan p => Q (.pan p) := by
 obtain ⟨h0, h1, h2, h3, h4⟩ := hinv
 obtain ⟨f, hf⟩ : ∃ f, i.toNat + j.toNat = f + 1 := ⟨i.toNat + j.toNat - 1, by omega⟩
 have w1 : IntKind.i64.wrap (m - i) = m - i := IntWalk.i64_in _ (by omega)
 have w2 : IntKind.i64.wrap (i - j) = i - j := IntWalk.i64_in _ (by omega)
 have w3 : IntKind.i64.wrap (m + j) = m + j := IntWalk.i64_in _ (by omega)
 have w4 : IntKind.i64.wrap (m + j - i) = m + j - i := IntWalk.i64_in _ (by omega)
 have w5 : IntKind.i64.wrap (j - i) = j - i := IntWalk.i64_in _ (by omega)
 dsimp only [fr_rot, Fr.satP, Ty.den, PT.den, mSwap]
 rw [w1, w2, w3, w4, w5]
 rw [hf] at hq
 simp only [rotG] at hq
 refine ⟨fun hc => ⟨fun hd => ?_, fun hd => ?_⟩, fun hc => ?_⟩
 ·have hgt : i > j := of_decide_eq_true hd
  rw [if_neg (by omega), if_pos (by omega)] at hq
  have hI : InvRot m (i - j) j (swapR 0 j.toNat (m - i).toNat m.toNat l) := ⟨by omega, h1, by omega, by rw [swapR_length]; omega, by rw [swapR_length]; omega⟩
  refine ⟨by omega, by omega, by omega, by omega, hI, by omega, hI, ?_⟩
  dsimp only [Ty.den, PT.den]
  rw [rotG_enough _ f (i - j).toNat j.toNat _ (by omega) (by omega) (Nat.le_refl _) (by omega), show (i - j).toNat = i.toNat - j.toNat by omega, show (m - i).toNat = m.toNat - i.toNat by omega]
  exact hq
 ·have hle : ¬ i > j := of_decide_eq_false hd
  have hne : i ≠ j := by simpa using hc
  rw [if_neg (by omega), if_neg (by omega)] at hq
  have hI : InvRot m i (j - i) (swapR 0 i.toNat (m - i).toNat (m + j - i).toNat l) := ⟨h0, by omega, h2, by rw [swapR_length]; omega, by rw [swapR_length]; omega⟩
  refine ⟨by omega, by omega, by omega, by omega, hI, by omega, hI, ?_⟩
  dsimp only [Ty.den, PT.den]
  rw [rotG_enough _ f i.toNat (j - i).toNat _ (by omega) (by omega) (Nat.le_refl _) (by omega), show (j - i).toNat = j.toNat - i.toNat by omega, show (m - i).toNat = m.toNat - i.toNat by omega, show (m + j - i).toNat = m.toNat + j.toNat - i.toNat by omega]
  exact hq
 ·have heq : i = j := by simpa using hc
  rw [if_pos (by omega)] at hq
  have : ((i.toNat : Nat) : Int) = i := by omega
  rw [this] at hq
  exact hq
theorem loopRot : Does Tryz.prog (.loop (loopF Tryz.f168 0)) pt_rot.M pt_rot FRot := by
 refine Does.loop (n := 58) (id := 0) sem_rot (inv := fun x => InvRot x.1.1 x.1.2.2.1 x.1.2.2.2.1 x.2.1) (μ := fun x => x.1.2.2.1.toNat + x.1.2.2.2.1.toNat) ?_ (fun x Q h => h.1)
 rintro ⟨⟨m, g, i, j, _⟩, ⟨l, _⟩⟩ hinv Q hq
 exact lawRot m i j g l hinv Q hq.2
noncomputable def ΛRot : Nat -> St -> Option Tr := fun _ => pt_rot.han CI1.Γ pt_rot.M FRot
theorem rotG_facts {m : Nat} : (f i j : Nat) -> (l : List Int) -> 0 < i -> 0 < j -> i + j <= f -> 0 < (rotG 0 m f i j l).1 /\ (rotG 0 m f i j l).1 <= i /\ (rotG 0 m f i j l).1 <= j /\ (rotG 0 m f i j l).2.length = l.length
 | 0, i, j, l, _, _, _ => by omega
 | f + 1, i, j, l, h1, h2, h3 => by
  simp only [rotG]
  split
  ·exact ⟨h1, Nat.le_refl _, by omega, rfl⟩
  ·split
   ·have := rotG_facts (m := m) f (i - j) j (swapR 0 j (m - i) m l) (by omega) h2 (by omega)
    rw [swapR_length] at this
    omega
   ·have := rotG_facts (m := m) f i (j - i) (swapR 0 i (m - i) (m + j - i) l) h1 (by omega) (by omega)
    rw [swapR_length] at this
    omega
noncomputable def mRot : Mt := ⟨3, i64, [.d i64, .d i64, .d i64, cmpT], [], fun l x => (rotF 0 x.1.toNat x.2.1.toNat x.2.2.1.toNat l, ()), fun l x => [0 <= x.1, x.1 < x.2.1, x.2.1 < x.2.2.1, x.2.2.1 <= l.length, (l.length : Int) <= 4611686018427387903]⟩
def roI (m i j : Int) (l : List Int) : Int := ((rotG 0 m.toNat (i.toNat + j.toNat) i.toNat j.toNat l).1 : Nat)
def roL (m i j : Int) (l : List Int) : List Int := (rotG 0 m.toNat (i.toNat + j.toNat) i.toNat j.toNat l).2
noncomputable def fr_rotate (l : List Int) (x : denP [.d i64, .d i64, .d i64, cmpT]) : Fr (List Int × denL []) :=
 let a := x.1; let m := x.2.1; let b := x.2.2.1; let g := x.2.2.2.1
 let i := roI m (IntKind.i64.wrap (m - a)) (IntKind.i64.wrap (b - m)) l
 let r := roL m (IntKind.i64.wrap (m - a)) (IntKind.i64.wrap (b - m)) l
 Fr.need (InvRot m (IntKind.i64.wrap (m - a)) (IntKind.i64.wrap (b - m)) l)
 (Fr.need (0 <= IntKind.i64.wrap (m - i))
  (Fr.need (0 <= m)
   (Fr.need (IntKind.i64.wrap (m - i) + i <= (r.length : Int))
    (Fr.need (m + i <= (r.length : Int))
     (Fr.val ((mSwap.f r (IntKind.i64.wrap (m - i), m, i, (g.1, g.2), ())).1, ()))))))
theorem rotate_ok : SoundMt Tryz.prog 168 mRot :=
 convMt (mt_sound CI1_ok (Λ := ΛRot) (fn := Tryz.f168) (fr := fr_rotate) (e := 3) (T := i64) (ps := [.d i64, .d i64, .d i64, cmpT]) (rs := []) (0, 0, 0, (fun _ => (0, ()), fun _ => True), ()) (by kernel_rfl) rfl rfl
  (fun c E hc => lam1f hc (by kernel_rfl) (b := loopF Tryz.f168 0) (by kernel_rfl) (Does.han CI1_ok rfl loopRot)) (fun l x => by kernel_rfl)) _ _ fun w F l xs vs _ _ _ hok => by
  obtain ⟨a, m, b, g, rfl⟩ : ∃ (a m b : Int) (g : cmpT.den), xs = (a, m, b, g, ()) := ⟨xs.1, xs.2.1, xs.2.2.1, xs.2.2.2.1, rfl⟩
  have hok' : (0 : Int) <= a /\ (a : Int) < m /\ (m : Int) < b /\ (b : Int) <= (List.length (α := Int) l : Int) /\ (List.length (α := Int) l : Int) <= 4611686018427387903 := hok
  obtain ⟨h1, h2, h3, h4, h5⟩ := hok'
  have w1 : IntKind.i64.wrap (m - a) = m - a := IntWalk.i64_in _ (by omega)
  have w2 : IntKind.i64.wrap (b - m) = b - m := IntWalk.i64_in _ (by omega)
  have hf := rotG_facts (m := m.toNat) ((m - a).toNat + (b - m).toNat) (m - a).toNat (b - m).toNat l (by omega) (by omega) (Nat.le_refl _)
  dsimp only [fr_rotate, Fr.ok, Fr.get, Ty.den, PT.den, mSwap, roI, roL]
  rw [w1, w2]
  have e1 : rotF 0 a.toNat m.toNat b.toNat l = swapR 0 (rotG 0 m.toNat ((m - a).toNat + (b - m).toNat) (m - a).toNat (b - m).toNat l).1 (m.toNat - (rotG 0 m.toNat ((m - a).toNat + (b - m).toNat) (m - a).toNat (b - m).toNat l).1) m.toNat (rotG 0 m.toNat ((m - a).toNat + (b - m).toNat) (m - a).toNat (b - m).toNat l).2 := by
   unfold rotF
   rw [show b.toNat - a.toNat = (m - a).toNat + (b - m).toNat by omega, show m.toNat - a.toNat = (m - a).toNat by omega, show b.toNat - m.toNat = (b - m).toNat by omega]
  generalize rotG 0 m.toNat ((m - a).toNat + (b - m).toNat) (m - a).toNat (b - m).toNat l = r at hf e1 ⊢
  have w3 : IntKind.i64.wrap (m - (r.1 : Int)) = m - r.1 := IntWalk.i64_in _ (by omega)
  rw [w3]
  refine ⟨⟨⟨by omega, by omega, by omega, by omega, h5⟩, by omega, by omega, by omega, by omega, trivial⟩, ?_⟩
  show (swapR 0 (r.1 : Int).toNat (m - r.1).toNat m.toNat r.2, ()) = (rotF 0 a.toNat m.toNat b.toNat l, ())
  rw [e1, show (r.1 : Int).toNat = r.1 by omega, show (m - (r.1 : Int)).toNat = m.toNat - r.1 by omega]
def midI (i j : Int) : Int := IntKind.i64.wrap ((IntKind.u64.wrap (IntKind.i64.wrap (i + j))).fdiv (2 ^ min (Int.toNat 1) IntKind.u64.bits))
theorem midI_nat {i j : Nat} (h : i + j <= 9223372036854775807) : midI (i : Int) j = ((i + j) / 2 : Nat) := half_nat h
abbrev pt_s0 : Pt := ⟨220, 0, ⟨[(1, .d i64), (4, cmpT), (10, .d i64), (11, .d i64)], [.al 10000 0, .o 0 3 i64]⟩, ⟨[(1, .d i64), (10, .d i64)], [.al 10000 0, .o 0 3 i64]⟩, ⟨[], []⟩⟩
def fr_s0 (x : pt_s0.M.X) : Fr pt_s0.Out :=
 let c := x.1.1; let g := x.1.2.1; let i := x.1.2.2.1; let j := x.1.2.2.2.1; let l := x.2.1
 Fr.br (decide (i < j))
  (Fr.need (¬(1 : Int) < 0)
   (Fr.need (0 <= midI i j /\ midI i j < (l.length : Int))
    (Fr.need ((midI i j).toNat < l.length)
     (Fr.need (0 <= c /\ c < (l.length : Int))
      (Fr.need ((c).toNat < l.length)
       (Fr.need (g.2 (l.getD (midI i j).toNat i64.dflt, l.getD c.toNat i64.dflt, ()))
        (Fr.br (decide ((g.1 (l.getD (midI i j).toNat i64.dflt, l.getD c.toNat i64.dflt, ())).1 < 0))
         (Fr.val (Rd.next ((c, (g.1, g.2), IntKind.i64.wrap (midI i j + 1), j, ()), (l, ()))))
         (Fr.val (Rd.next ((c, (g.1, g.2), i, midI i j, ()), (l, ())))))))))))
  (Fr.val (Rd.out ((c, i, ()), (l, ()))))
theorem sem_s0 : Does Tryz.prog (loopF Tryz.f160 0) pt_s0.M pt_s0 fr_s0 :=
 Does.of_run CI0_ok (bs := 0) (Λ := lam0) rfl rfl rfl (fun E => lam0_ok _ 0) (fun x => by kernel_rfl)
structure InvS0 (c i j : Int) (g : cmpT.den) (l : List Int) : Prop where
 c0 : 0 <= c
 cl : c < l.length
 i0 : 0 <= i
 ij : i <= j
 jl : j <= l.length
 big : (l.length : Int) <= 4611686018427387903
 dom : DomOf g l
def FS0 (x : pt_s0.M.X) : Fr pt_s0.Out :=
 let c := x.1.1; let g := x.1.2.1; let i := x.1.2.2.1; let j := x.1.2.2.2.1; let l := x.2.1
 Fr.need (InvS0 c i j g l) (Fr.val (Rd.out ((c, (bsG (fun h => ltOf g (l.getD h 0) (l.getD c.toNat 0)) (j.toNat - i.toNat) i.toNat j.toNat : Nat), ()), (l, ()))))
theorem lawS0 (c i j : Int) (g : cmpT.den) (l : List Int) (hinv : InvS0 c i j g l) (Q : pt_s0.Out -> Prop)
  (hq : Q (Rd.out ((c, (bsG (fun h => ltOf g (l.getD h 0) (l.getD c.toNat 0)) (j.toNat - i.toNat) i.toNat j.toNat : Nat), ()), (l, ())))) : (fr_s0 ((c, g, i, j, ()), (l, ()))).satP fun
   | .next x' => InvS0 x'.1.1 x'.1.2.2.1 x'.1.2.2.2.1 x'.1.2.1 x'.2.1 /\ (x'.1.2.2.2.1 - x'.1.2.2.1).toNat < (j - i).toNat /\ (FS0 x').satP Q
   | .out y => Q (.out y)
   | .back z => Q (.back z)
   | .pan p => Q (.pan p) := by
 obtain ⟨h0, h1, h2, h3, h4, hb, hd⟩ := hinv
 obtain ⟨i', rfl⟩ : ∃ n : Nat, i = n := ⟨i.toNat, by omega⟩
 obtain ⟨j', rfl⟩ : ∃ n : Nat, j = n := ⟨j.toNat, by omega⟩
 obtain ⟨c', rfl⟩ : ∃ n : Nat, c = n := ⟨c.toNat, by omega⟩
 have hm : midI (i' : Int) j' = ((i' + j') / 2 : Nat) := midI_nat (by omega)
 have hw : IntKind.i64.wrap ((((i' + j') / 2 : Nat) : Int) + 1) = ((i' + j') / 2 + 1 : Nat) := succ_nat (by omega)
 dsimp only [fr_s0, Fr.satP, Ty.den, PT.den]
 rw [hm, hw]
 simp only [Int.toNat_natCast] at hq ⊢
 refine ⟨fun hi => ?_, fun hi => ?_⟩
 ·have hlt : i' < j' := by have : (i' : Int) < j' := of_decide_eq_true hi; omega
  rw [bsG_step hlt] at hq
  have hml : (i' + j') / 2 < l.length := by omega
  have hcl : c' < l.length := by omega
  refine ⟨by omega, ⟨by omega, by omega⟩, by omega, ⟨by omega, by omega⟩, by omega, hd _ (getD_mem hml) _ (getD_mem hcl), fun hc => ?_, fun hc => ?_⟩
  ·have hc' : (ltOf g (l.getD ((i' + j') / 2) 0) (l.getD c' 0)) = true := hc
   rw [hc'] at hq
   have hI : InvS0 (c' : Int) ((i' + j') / 2 + 1 : Nat) j' g l := ⟨h0, h1, by omega, by omega, by omega, hb, hd⟩
   exact ⟨hI, by omega, hI, hq⟩
  ·have hc' : (ltOf g (l.getD ((i' + j') / 2) 0) (l.getD c' 0)) = false := hc
   rw [hc'] at hq
   have hI : InvS0 (c' : Int) i' ((i' + j') / 2 : Nat) g l := ⟨h0, h1, by omega, by omega, by omega, hb, hd⟩
   exact ⟨hI, by omega, hI, hq⟩
 ·have hge : ¬ i' < j' := by have : ¬ (i' : Int) < j' := of_decide_eq_false hi; omega
  rw [show j' - i' = 0 by omega] at hq
  exact hq
theorem loopS0 : Does Tryz.prog (.loop (loopF Tryz.f160 0)) pt_s0.M pt_s0 FS0 := by
 refine Does.loop (n := 220) (id := 0) sem_s0 (inv := fun x => InvS0 x.1.1 x.1.2.2.1 x.1.2.2.2.1 x.1.2.1 x.2.1) (μ := fun x => (x.1.2.2.2.1 - x.1.2.2.1).toNat) ?_ (fun x Q h => h.1)
 rintro ⟨⟨c, g, i, j, _⟩, ⟨l, _⟩⟩ hinv Q hq
 exact lawS0 c i j g l hinv Q hq.2
abbrev pt_s2 : Pt := ⟨220, 4, ⟨[(2, .d i64), (4, cmpT), (14, .d i64), (15, .d i64)], [.al 10000 0, .o 0 3 i64]⟩, ⟨[(2, .d i64), (14, .d i64)], [.al 10000 0, .o 0 3 i64]⟩, ⟨[], []⟩⟩
def fr_s2 (x : pt_s2.M.X) : Fr pt_s2.Out :=
 let c := x.1.1; let g := x.1.2.1; let i := x.1.2.2.1; let j := x.1.2.2.2.1; let l := x.2.1
 Fr.br (decide (i < j))
  (Fr.need (¬(1 : Int) < 0)
   (Fr.need (0 <= c /\ c < (l.length : Int))
    (Fr.need ((c).toNat < l.length)
     (Fr.need (0 <= midI i j /\ midI i j < (l.length : Int))
      (Fr.need ((midI i j).toNat < l.length)
       (Fr.need (g.2 (l.getD c.toNat i64.dflt, l.getD (midI i j).toNat i64.dflt, ()))
        (Fr.br (!decide ((g.1 (l.getD c.toNat i64.dflt, l.getD (midI i j).toNat i64.dflt, ())).1 < 0))
         (Fr.val (Rd.next ((c, (g.1, g.2), IntKind.i64.wrap (midI i j + 1), j, ()), (l, ()))))
         (Fr.val (Rd.next ((c, (g.1, g.2), i, midI i j, ()), (l, ())))))))))))
  (Fr.val (Rd.out ((c, i, ()), (l, ()))))
theorem sem_s2 : Does Tryz.prog (loopF Tryz.f160 2) pt_s2.M pt_s2 fr_s2 :=
 Does.of_run CI0_ok (bs := 0) (Λ := lam0) rfl rfl rfl (fun E => lam0_ok _ 0) (fun x => by kernel_rfl)
structure InvS2 (c i j : Int) (g : cmpT.den) (l : List Int) : Prop where
 c0 : 0 <= c
 cl : c < l.length
 i0 : 0 <= i
 ij : i <= j
 jl : j <= l.length
 big : (l.length : Int) <= 4611686018427387903
 dom : DomOf g l
def FS2 (x : pt_s2.M.X) : Fr pt_s2.Out :=
 let c := x.1.1; let g := x.1.2.1; let i := x.1.2.2.1; let j := x.1.2.2.2.1; let l := x.2.1
 Fr.need (InvS2 c i j g l) (Fr.val (Rd.out ((c, (bsG (fun h => !ltOf g (l.getD c.toNat 0) (l.getD h 0)) (j.toNat - i.toNat) i.toNat j.toNat : Nat), ()), (l, ()))))
theorem lawS2 (c i j : Int) (g : cmpT.den) (l : List Int) (hinv : InvS2 c i j g l) (Q : pt_s2.Out -> Prop)
  (hq : Q (Rd.out ((c, (bsG (fun h => !ltOf g (l.getD c.toNat 0) (l.getD h 0)) (j.toNat - i.toNat) i.toNat j.toNat : Nat), ()), (l, ())))) : (fr_s2 ((c, g, i, j, ()), (l, ()))).satP fun
   | .next x' => InvS2 x'.1.1 x'.1.2.2.1 x'.1.2.2.2.1 x'.1.2.1 x'.2.1 /\ (x'.1.2.2.2.1 - x'.1.2.2.1).toNat < (j - i).toNat /\ (FS2 x').satP Q
   | .out y => Q (.out y)
   | .back z => Q (.back z)
   | .pan p => Q (.pan p) := by
 obtain ⟨h0, h1, h2, h3, h4, hb, hd⟩ := hinv
 obtain ⟨i', rfl⟩ : ∃ n : Nat, i = n := ⟨i.toNat, by omega⟩
 obtain ⟨j', rfl⟩ : ∃ n : Nat, j = n := ⟨j.toNat, by omega⟩
 obtain ⟨c', rfl⟩ : ∃ n : Nat, c = n := ⟨c.toNat, by omega⟩
 have hm : midI (i' : Int) j' = ((i' + j') / 2 : Nat) := midI_nat (by omega)
 have hw : IntKind.i64.wrap ((((i' + j') / 2 : Nat) : Int) + 1) = ((i' + j') / 2 + 1 : Nat) := succ_nat (by omega)
 dsimp only [fr_s2, Fr.satP, Ty.den, PT.den]
 rw [hm, hw]
 simp only [Int.toNat_natCast] at hq ⊢
 refine ⟨fun hi => ?_, fun hi => ?_⟩
 ·have hlt : i' < j' := by have : (i' : Int) < j' := of_decide_eq_true hi; omega
  rw [bsG_step hlt] at hq
  have hml : (i' + j') / 2 < l.length := by omega
  have hcl : c' < l.length := by omega
  refine ⟨by omega, ⟨by omega, by omega⟩, by omega, ⟨by omega, by omega⟩, by omega, hd _ (getD_mem hcl) _ (getD_mem hml), fun hc => ?_, fun hc => ?_⟩
  ·have hc' : (!ltOf g (l.getD c' 0) (l.getD ((i' + j') / 2) 0)) = true := hc
   rw [hc'] at hq
   have hI : InvS2 (c' : Int) ((i' + j') / 2 + 1 : Nat) j' g l := ⟨h0, h1, by omega, by omega, by omega, hb, hd⟩
   exact ⟨hI, by omega, hI, hq⟩
  ·have hc' : (!ltOf g (l.getD c' 0) (l.getD ((i' + j') / 2) 0)) = false := hc
   rw [hc'] at hq
   have hI : InvS2 (c' : Int) i' ((i' + j') / 2 : Nat) g l := ⟨h0, h1, by omega, by omega, by omega, hb, hd⟩
   exact ⟨hI, by omega, hI, hq⟩
 ·have hge : ¬ i' < j' := by have : ¬ (i' : Int) < j' := of_decide_eq_false hi; omega
  rw [show j' - i' = 0 by omega] at hq
  exact hq
theorem loopS2 : Does Tryz.prog (.loop (loopF Tryz.f160 2)) pt_s2.M pt_s2 FS2 := by
 refine Does.loop (n := 220) (id := 4) sem_s2 (inv := fun x => InvS2 x.1.1 x.1.2.2.1 x.1.2.2.2.1 x.1.2.1 x.2.1) (μ := fun x => (x.1.2.2.2.1 - x.1.2.2.1).toNat) ?_ (fun x Q h => h.1)
 rintro ⟨⟨c, g, i, j, _⟩, ⟨l, _⟩⟩ hinv Q hq
 exact lawS2 c i j g l hinv Q hq.2
abbrev pt_s4 : Pt := ⟨220, 8, ⟨[(1, .d i64), (2, .d i64), (3, .d i64), (4, cmpT), (18, .d i64), (19, .d i64), (20, .d i64), (21, .d i64), (22, .d i64)], [.al 10000 0, .o 0 3 i64]⟩, ⟨[(1, .d i64), (2, .d i64), (3, .d i64), (4, cmpT), (18, .d i64), (19, .d i64), (20, .d i64)], [.al 10000 0, .o 0 3 i64]⟩, ⟨[], []⟩⟩
def fr_s4 (x : pt_s4.M.X) : Fr pt_s4.Out :=
 let a := x.1.1; let m := x.1.2.1; let b := x.1.2.2.1; let g := x.1.2.2.2.1; let mid := x.1.2.2.2.2.1; let n := x.1.2.2.2.2.2.1; let i := x.1.2.2.2.2.2.2.1; let j := x.1.2.2.2.2.2.2.2.1; let p := x.1.2.2.2.2.2.2.2.2.1; let l := x.2.1
 Fr.br (decide (i < j))
  (Fr.need (¬(1 : Int) < 0)
   (Fr.need (0 <= IntKind.i64.wrap (p - midI i j) /\ IntKind.i64.wrap (p - midI i j) < (l.length : Int))
    (Fr.need ((IntKind.i64.wrap (p - midI i j)).toNat < l.length)
     (Fr.need (0 <= midI i j /\ midI i j < (l.length : Int))
      (Fr.need ((midI i j).toNat < l.length)
       (Fr.need (g.2 (l.getD (IntKind.i64.wrap (p - midI i j)).toNat i64.dflt, l.getD (midI i j).toNat i64.dflt, ()))
        (Fr.br (!decide ((g.1 (l.getD (IntKind.i64.wrap (p - midI i j)).toNat i64.dflt, l.getD (midI i j).toNat i64.dflt, ())).1 < 0))
         (Fr.val (Rd.next ((a, m, b, (g.1, g.2), mid, n, IntKind.i64.wrap (midI i j + 1), j, p, ()), (l, ()))))
         (Fr.val (Rd.next ((a, m, b, (g.1, g.2), mid, n, i, midI i j, p, ()), (l, ())))))))))))
  (Fr.val (Rd.out ((a, m, b, (g.1, g.2), mid, n, i, ()), (l, ()))))
theorem sem_s4 : Does Tryz.prog (loopF Tryz.f160 4) pt_s4.M pt_s4 fr_s4 :=
 Does.of_run CI0_ok (bs := 0) (Λ := lam0) rfl rfl rfl (fun E => lam0_ok _ 0) (fun x => by kernel_rfl)
structure InvS4 (p i j : Int) (g : cmpT.den) (l : List Int) : Prop where
 p0 : 0 <= p
 pl : p < i + l.length
 pj : j <= p + 1
 i0 : 0 <= i
 ij : i <= j
 jl : j <= l.length
 big : (l.length : Int) <= 4611686018427387903
 dom : DomOf g l
def FS4 (x : pt_s4.M.X) : Fr pt_s4.Out :=
 let a := x.1.1; let m := x.1.2.1; let b := x.1.2.2.1; let g := x.1.2.2.2.1; let mid := x.1.2.2.2.2.1; let n := x.1.2.2.2.2.2.1; let i := x.1.2.2.2.2.2.2.1; let j := x.1.2.2.2.2.2.2.2.1; let p := x.1.2.2.2.2.2.2.2.2.1; let l := x.2.1
 Fr.need (InvS4 p i j g l) (Fr.val (Rd.out ((a, m, b, g, mid, n, (bsG (fun h => !ltOf g (l.getD (p.toNat - h) 0) (l.getD h 0)) (j.toNat - i.toNat) i.toNat j.toNat : Nat), ()), (l, ()))))
theorem lawS4 (a m b mid n p i j : Int) (g : cmpT.den) (l : List Int) (hinv : InvS4 p i j g l) (Q : pt_s4.Out -> Prop)
  (hq : Q (Rd.out ((a, m, b, g, mid, n, (bsG (fun h => !ltOf g (l.getD (p.toNat - h) 0) (l.getD h 0)) (j.toNat - i.toNat) i.toNat j.toNat : Nat), ()), (l, ())))) : (fr_s4 ((a, m, b, g, mid, n, i, j, p, ()), (l, ()))).satP fun
   | .next x' => InvS4 x'.1.2.2.2.2.2.2.2.2.1 x'.1.2.2.2.2.2.2.1 x'.1.2.2.2.2.2.2.2.1 x'.1.2.2.2.1 x'.2.1 /\ (x'.1.2.2.2.2.2.2.2.1 - x'.1.2.2.2.2.2.2.1).toNat < (j - i).toNat /\ (FS4 x').satP Q
   | .out y => Q (.out y)
   | .back z => Q (.back z)
   | .pan p => Q (.pan p) := by
 obtain ⟨h00, h0, h1, h2, h3, h4, hb, hd⟩ := hinv
 obtain ⟨i', rfl⟩ : ∃ n : Nat, i = n := ⟨i.toNat, by omega⟩
 obtain ⟨j', rfl⟩ : ∃ n : Nat, j = n := ⟨j.toNat, by omega⟩
 obtain ⟨p', rfl⟩ : ∃ n : Nat, p = n := ⟨p.toNat, by omega⟩
 have hm : midI (i' : Int) j' = ((i' + j') / 2 : Nat) := midI_nat (by omega)
 have hw : IntKind.i64.wrap ((((i' + j') / 2 : Nat) : Int) + 1) = ((i' + j') / 2 + 1 : Nat) := succ_nat (by omega)
 dsimp only [fr_s4, Fr.satP, Ty.den, PT.den]
 rw [hm, hw]
 have hp : (i' < j') -> IntKind.i64.wrap ((p' : Int) - (((i' + j') / 2 : Nat) : Int)) = (p' - (i' + j') / 2 : Nat) := fun h => sub_nat (by omega) (by omega)
 simp only [Int.toNat_natCast] at hq ⊢
 refine ⟨fun hi => ?_, fun hi => ?_⟩
 ·have hlt : i' < j' := by have : (i' : Int) < j' := of_decide_eq_true hi; omega
  rw [bsG_step hlt] at hq
  rw [hp hlt]
  simp only [Int.toNat_natCast]
  have hml : p' - (i' + j') / 2 < l.length := by omega
  have hcl : (i' + j') / 2 < l.length := by omega
  refine ⟨by omega, ⟨by omega, by omega⟩, by omega, ⟨by omega, by omega⟩, by omega, hd _ (getD_mem hml) _ (getD_mem hcl), fun hc => ?_, fun hc => ?_⟩
  ·have hc' : (!ltOf g (l.getD (p' - (i' + j') / 2) 0) (l.getD ((i' + j') / 2) 0)) = true := hc
   rw [hc'] at hq
   have hI : InvS4 (p' : Int) ((i' + j') / 2 + 1 : Nat) j' g l := ⟨h00, by omega, by omega, by omega, by omega, by omega, hb, hd⟩
   exact ⟨hI, by omega, hI, hq⟩
  ·have hc' : (!ltOf g (l.getD (p' - (i' + j') / 2) 0) (l.getD ((i' + j') / 2) 0)) = false := hc
   rw [hc'] at hq
   have hI : InvS4 (p' : Int) i' ((i' + j') / 2 : Nat) g l := ⟨h00, by omega, by omega, by omega, by omega, by omega, hb, hd⟩
   exact ⟨hI, by omega, hI, hq⟩
 ·have hge : ¬ i' < j' := by have : ¬ (i' : Int) < j' := of_decide_eq_false hi; omega
  rw [show j' - i' = 0 by omega] at hq
  exact hq
theorem loopS4 : Does Tryz.prog (.loop (loopF Tryz.f160 4)) pt_s4.M pt_s4 FS4 := by
 refine Does.loop (n := 220) (id := 8) sem_s4 (inv := fun x => InvS4 x.1.2.2.2.2.2.2.2.2.1 x.1.2.2.2.2.2.2.1 x.1.2.2.2.2.2.2.2.1 x.1.2.2.2.1 x.2.1) (μ := fun x => (x.1.2.2.2.2.2.2.2.1 - x.1.2.2.2.2.2.2.1).toNat) ?_ (fun x Q h => h.1)
 rintro ⟨⟨a, m, b, g, mid, n, i, j, p, _⟩, ⟨l, _⟩⟩ hinv Q hq
 exact lawS4 a m b mid n p i j g l hinv Q hq.2
abbrev pt_s1 : Pt := ⟨220, 2, ⟨[(10, .d i64), (13, .d i64)], [.al 10000 0, .o 0 3 i64]⟩, ⟨[], [.al 10000 0, .o 0 3 i64]⟩, ⟨[], []⟩⟩
def fr_s1 (x : pt_s1.M.X) : Fr pt_s1.Out :=
 let i := x.1.1; let k := x.1.2.1; let l := x.2.1
 Fr.br (decide (k < IntKind.i64.wrap (i - 1)))
  (Fr.need (0 <= IntKind.i64.wrap (k + 1) /\ IntKind.i64.wrap (k + 1) < (l.length : Int))
   (Fr.need ((IntKind.i64.wrap (k + 1)).toNat < l.length)
    (Fr.need (0 <= k /\ k < (l.length : Int))
     (Fr.need (k.toNat < l.length)
      (Fr.need (0 <= k /\ k < (l.length : Int))
       (Fr.need (k.toNat < l.length)
        (Fr.need (0 <= IntKind.i64.wrap (k + 1) /\ IntKind.i64.wrap (k + 1) < ((l.set k.toNat (l.getD (IntKind.i64.wrap (k + 1)).toNat i64.dflt)).length : Int))
         (Fr.need ((IntKind.i64.wrap (k + 1)).toNat < (l.set k.toNat (l.getD (IntKind.i64.wrap (k + 1)).toNat i64.dflt)).length)
          (Fr.val (Rd.next ((i, IntKind.i64.wrap (k + 1), ()), ((l.set k.toNat (l.getD (IntKind.i64.wrap (k + 1)).toNat i64.dflt)).set (IntKind.i64.wrap (k + 1)).toNat (l.getD k.toNat i64.dflt), ()))))))))))))
  (Fr.val (Rd.out ((), (l, ()))))
theorem sem_s1 : Does Tryz.prog (loopF Tryz.f160 1) pt_s1.M pt_s1 fr_s1 :=
 Does.of_run CI0_ok (bs := 0) (Λ := lam0) rfl rfl rfl (fun E => lam0_ok _ 0) (fun x => by kernel_rfl)
structure InvS1 (i k : Int) (l : List Int) : Prop where
 k0 : 0 <= k
 i0 : 0 <= i
 il : i <= l.length
 big : (l.length : Int) <= 4611686018427387903
def FS1 (x : pt_s1.M.X) : Fr pt_s1.Out :=
 let i := x.1.1; let k := x.1.2.1; let l := x.2.1
 Fr.need (InvS1 i k l) (Fr.val (Rd.out ((), (upS 0 (i - 1 - k).toNat k.toNat l, ()))))
theorem lawS1 (i k : Int) (l : List Int) (hinv : InvS1 i k l) (Q : pt_s1.Out -> Prop) (hq : Q (Rd.out ((), (upS 0 (i - 1 - k).toNat k.toNat l, ())))) : (fr_s1 ((i, k, ()), (l, ()))).satP fun
   | .next x' => InvS1 x'.1.1 x'.1.2.1 x'.2.1 /\ (x'.1.1 - 1 - x'.1.2.1).toNat < (i - 1 - k).toNat /\ (FS1 x').satP Q
   | .out y => Q (.out y)
   | .back z => Q (.back z)
   | .pan p => Q (.pan p) := by
 obtain ⟨h0, h1, h2, h3⟩ := hinv
 have w1 : IntKind.i64.wrap (i - 1) = i - 1 := IntWalk.i64_in _ (by omega)
 dsimp only [fr_s1, Fr.satP, Ty.den, PT.den]
 rw [w1]
 simp only [List.length_set]
 refine ⟨fun hc => ?_, fun hc => ?_⟩
 ·have hlt : k < i - 1 := of_decide_eq_true hc
  have w2 : IntKind.i64.wrap (k + 1) = k + 1 := IntWalk.i64_in _ (by omega)
  rw [w2]
  have hI : InvS1 i (k + 1) (swapL l 0 k.toNat (k + 1).toNat) := ⟨by omega, by omega, by rw [swapL_length]; omega, by rw [swapL_length]; omega⟩
  refine ⟨⟨by omega, by omega⟩, by omega, ⟨by omega, by omega⟩, by omega, ⟨by omega, by omega⟩, by omega, ⟨by omega, by omega⟩, by omega, hI, by omega, hI, ?_⟩
  rw [show (i - 1 - k).toNat = (i - 1 - (k + 1)).toNat + 1 by omega] at hq
  simp only [upS] at hq
  dsimp only [Ty.den, PT.den]
  rw [show k.toNat + 1 = (k + 1).toNat by omega] at hq
  exact hq
 ·have hge : ¬ k < i - 1 := of_decide_eq_false hc
  rw [show (i - 1 - k).toNat = 0 by omega] at hq
  exact hq
theorem loopS1 : Does Tryz.prog (.loop (loopF Tryz.f160 1)) pt_s1.M pt_s1 FS1 := by
 refine Does.loop (n := 220) (id := 2) sem_s1 (inv := fun x => InvS1 x.1.1 x.1.2.1 x.2.1) (μ := fun x => (x.1.1 - 1 - x.1.2.1).toNat) ?_ (fun x Q h => h.1)
 rintro ⟨⟨i, k, _⟩, ⟨l, _⟩⟩ hinv Q hq
 exact lawS1 i k l hinv Q hq.2
abbrev pt_s3 : Pt := ⟨220, 6, ⟨[(14, .d i64), (17, .d i64)], [.al 10000 0, .o 0 3 i64]⟩, ⟨[], [.al 10000 0, .o 0 3 i64]⟩, ⟨[], []⟩⟩
def fr_s3 (x : pt_s3.M.X) : Fr pt_s3.Out :=
 let i := x.1.1; let k := x.1.2.1; let l := x.2.1
 Fr.br (decide (k > i))
  (Fr.need (0 <= IntKind.i64.wrap (k - 1) /\ IntKind.i64.wrap (k - 1) < (l.length : Int))
   (Fr.need ((IntKind.i64.wrap (k - 1)).toNat < l.length)
    (Fr.need (0 <= k /\ k < (l.length : Int))
     (Fr.need (k.toNat < l.length)
      (Fr.need (0 <= k /\ k < (l.length : Int))
       (Fr.need (k.toNat < l.length)
        (Fr.need (0 <= IntKind.i64.wrap (k - 1) /\ IntKind.i64.wrap (k - 1) < ((l.set k.toNat (l.getD (IntKind.i64.wrap (k - 1)).toNat i64.dflt)).length : Int))
         (Fr.need ((IntKind.i64.wrap (k - 1)).toNat < (l.set k.toNat (l.getD (IntKind.i64.wrap (k - 1)).toNat i64.dflt)).length)
          (Fr.val (Rd.next ((i, IntKind.i64.wrap (k - 1), ()), ((l.set k.toNat (l.getD (IntKind.i64.wrap (k - 1)).toNat i64.dflt)).set (IntKind.i64.wrap (k - 1)).toNat (l.getD k.toNat i64.dflt), ()))))))))))))
  (Fr.val (Rd.out ((), (l, ()))))
theorem sem_s3 : Does Tryz.prog (loopF Tryz.f160 3) pt_s3.M pt_s3 fr_s3 :=
 Does.of_run CI0_ok (bs := 0) (Λ := lam0) rfl rfl rfl (fun E => lam0_ok _ 0) (fun x => by kernel_rfl)
structure InvS3 (i k : Int) (l : List Int) : Prop where
 i0 : 0 <= i
 ik : i <= k
 kl : k < l.length
 big : (l.length : Int) <= 4611686018427387903
def FS3 (x : pt_s3.M.X) : Fr pt_s3.Out :=
 let i := x.1.1; let k := x.1.2.1; let l := x.2.1
 Fr.need (InvS3 i k l) (Fr.val (Rd.out ((), (downS 0 (k - i).toNat k.toNat l, ()))))
theorem lawS3 (i k : Int) (l : List Int) (hinv : InvS3 i k l) (Q : pt_s3.Out -> Prop) (hq : Q (Rd.out ((), (downS 0 (k - i).toNat k.toNat l, ())))) : (fr_s3 ((i, k, ()), (l, ()))).satP fun
   | .next x' => InvS3 x'.1.1 x'.1.2.1 x'.2.1 /\ (x'.1.2.1 - x'.1.1).toNat < (k - i).toNat /\ (FS3 x').satP Q
   | .out y => Q (.out y)
   | .back z => Q (.back z)
   | .pan p => Q (.pan p) := by
 obtain ⟨h0, h1, h2, h3⟩ := hinv
 have w2 : IntKind.i64.wrap (k - 1) = k - 1 := IntWalk.i64_in _ (by omega)
 dsimp only [fr_s3, Fr.satP, Ty.den, PT.den]
 rw [w2]
 simp only [List.length_set]
 refine ⟨fun hc => ?_, fun hc => ?_⟩
 ·have hlt : k > i := of_decide_eq_true hc
  have hI : InvS3 i (k - 1) (swapL l 0 k.toNat (k - 1).toNat) := ⟨by omega, by omega, by rw [swapL_length]; omega, by rw [swapL_length]; omega⟩
  refine ⟨⟨by omega, by omega⟩, by omega, ⟨by omega, by omega⟩, by omega, ⟨by omega, by omega⟩, by omega, ⟨by omega, by omega⟩, by omega, hI, by omega, hI, ?_⟩
  rw [show (k - i).toNat = (k - 1 - i).toNat + 1 by omega] at hq
  simp only [downS] at hq
  dsimp only [Ty.den, PT.den]
  rw [show k.toNat - 1 = (k - 1).toNat by omega] at hq
  exact hq
 ·have hge : ¬ k > i := of_decide_eq_false hc
  rw [show (k - i).toNat = 0 by omega] at hq
  exact hq
theorem loopS3 : Does Tryz.prog (.loop (loopF Tryz.f160 3)) pt_s3.M pt_s3 FS3 := by
 refine Does.loop (n := 220) (id := 6) sem_s3 (inv := fun x => InvS3 x.1.1 x.1.2.1 x.2.1) (μ := fun x => (x.1.2.1 - x.1.1).toNat) ?_ (fun x Q h => h.1)
 rintro ⟨⟨i, k, _⟩, ⟨l, _⟩⟩ hinv Q hq
 exact lawS3 i k l hinv Q hq.2
structure SymOk (n : Nat) (a m b : Int) (g : cmpT.den) (l : List Int) : Prop where
 a0 : 0 <= a
 am : a < m
 mb : m < b
 bl : b <= l.length
 big : (l.length : Int) <= 4611686018427387903
 size : b - a <= n
 dom : DomOf g l
 key : ∃ key : Int -> Int, LtK (ltOf g) key l /\ SortK key (seg a.toNat m.toNat l) /\ SortK key (seg m.toNat b.toNat l)
noncomputable def mSym (n : Nat) : Mt := ⟨3, i64, [.d i64, .d i64, .d i64, cmpT], [], fun l x => (partB (ltOf x.2.2.2.1) x.1.toNat x.2.2.1.toNat l, ()), fun l x => [SymOk n x.1 x.2.1 x.2.2.1 x.2.2.2.1 l]⟩
noncomputable def CI2 (n : Nat) : Cx := cxK [] [] (orK (mtK (cx [] []).Γ 168 mRot) (mtK (cx [] []).Γ 160 (mSym n)))
theorem CI2_ok {n : Nat} (h : SoundMt Tryz.prog 160 (mSym n)) : CxOK Tryz.prog (CI2 n) := cxK_ok mixed trivial trivial (orK_ok (mtK_ok CI0_ok.ct rotate_ok) (mtK_ok CI0_ok.ct h))
noncomputable def ΛSym : Nat -> St -> Option Tr
 | 0 => pt_s0.han CI0.Γ pt_s0.M FS0
 | 1 => pt_s1.han CI0.Γ pt_s1.M FS1
 | 2 => pt_s2.han CI0.Γ pt_s2.M FS2
 | 3 => pt_s3.han CI0.Γ pt_s3.M FS3
 | _ => pt_s4.han CI0.Γ pt_s4.M FS4
theorem lam_sym {E : Env} {c : Code} (hc : Tryz.f160.body = some c) : LamOK Tryz.prog E ΛSym c 0 := by
 have hn : (Tryz.f160.body.map loopsIn) = some 5 := by kernel_rfl
 have b0 : Tryz.f160.body.bind (Go.Ab.loopB · 0) = some (loopF Tryz.f160 0) := by kernel_rfl
 have b1 : Tryz.f160.body.bind (Go.Ab.loopB · 1) = some (loopF Tryz.f160 1) := by kernel_rfl
 have b2 : Tryz.f160.body.bind (Go.Ab.loopB · 2) = some (loopF Tryz.f160 2) := by kernel_rfl
 have b3 : Tryz.f160.body.bind (Go.Ab.loopB · 3) = some (loopF Tryz.f160 3) := by kernel_rfl
 have b4 : Tryz.f160.body.bind (Go.Ab.loopB · 4) = some (loopF Tryz.f160 4) := by kernel_rfl
 have hb : ∀ i, i < 5 -> Tryz.f160.body.bind (Go.Ab.loopB · i) = some (loopF Tryz.f160 i) := fun i hi => match i, hi with
  | 0, _ => b0
  | 1, _ => b1
  | 2, _ => b2
  | 3, _ => b3
  | 4, _ => b4
 rw [hc] at hn hb
 simp only [Option.map_some, Option.some.injEq] at hn
 simp only [Option.bind_some] at hb
 refine lamAll c 0 fun i b' hb' => ?_
 have hlt := loopB_lt hb'
 rw [hn] at hlt
 have e := hb i hlt
 rw [e] at hb'
 cases hb'
 match i, hlt with
 | 0, _ => exact Does.han CI0_ok rfl loopS0
 | 1, _ => exact Does.han CI0_ok rfl loopS1
 | 2, _ => exact Does.han CI0_ok rfl loopS2
 | 3, _ => exact Does.han CI0_ok rfl loopS3
 | 4, _ => exact Does.han CI0_ok rfl loopS4
def bs0 (c i j : Int) (g : cmpT.den) (l : List Int) : Int := (bsG (fun h => ltOf g (l.getD h 0) (l.getD c.toNat 0)) (j.toNat - i.toNat) i.toNat j.toNat : Nat)
def bs2 (c i j : Int) (g : cmpT.den) (l : List Int) : Int := (bsG (fun h => !ltOf g (l.getD c.toNat 0) (l.getD h 0)) (j.toNat - i.toNat) i.toNat j.toNat : Nat)
def bs4 (p i j : Int) (g : cmpT.den) (l : List Int) : Int := (bsG (fun h => !ltOf g (l.getD (p.toNat - h) 0) (l.getD h 0)) (j.toNat - i.toNat) i.toNat j.toNat : Nat)
noncomputable def symT3 (n : Nat) (mid en b : Int) (g : cmpT.den) (l : List Int) : Fr (List Int × denL []) :=
 Fr.br (bif decide (mid < en) then decide (en < b) else false) (Fr.need (SymOk n mid en b (g.1, g.2) l) (Fr.val (((mSym n).f l (mid, en, b, (g.1, g.2), ())).1, ()))) (Fr.val (l, ()))
noncomputable def symT2 (n : Nat) (a st mid en b : Int) (g : cmpT.den) (l : List Int) : Fr (List Int × denL []) :=
 Fr.br (bif decide (a < st) then decide (st < mid) else false) (Fr.need (SymOk n a st mid (g.1, g.2) l) (symT3 n mid en b g ((mSym n).f l (a, st, mid, (g.1, g.2), ())).1)) (symT3 n mid en b g l)
noncomputable def symT1 (n : Nat) (a m b st mid en : Int) (g : cmpT.den) (l : List Int) : Fr (List Int × denL []) :=
 Fr.br (bif decide (st < m) then decide (m < en) else false)
  (Fr.need (0 <= st) (Fr.need (st < m) (Fr.need (m < en) (Fr.need (en <= (l.length : Int)) (Fr.need ((l.length : Int) <= 4611686018427387903) (symT2 n a st mid en b g (mRot.f l (st, m, en, (g.1, g.2), ())).1))))))
  (symT2 n a st mid en b g l)
noncomputable def symT0 (n : Nat) (a m b mid i j : Int) (g : cmpT.den) (l : List Int) : Fr (List Int × denL []) :=
 let p := IntKind.i64.wrap (IntKind.i64.wrap (mid + m) - 1)
 Fr.need (InvS4 p i j (g.1, g.2) l) (symT1 n a m b (bs4 p i j (g.1, g.2) l) mid (IntKind.i64.wrap (IntKind.i64.wrap (mid + m) - bs4 p i j (g.1, g.2) l)) g l)
noncomputable def fr_sym (n : Nat) (l : List Int) (x : denP [.d i64, .d i64, .d i64, cmpT]) : Fr (List Int × denL []) :=
 let a := x.1; let m := x.2.1; let b := x.2.2.1; let g := x.2.2.2.1
 Fr.br (IntKind.i64.wrap (m - a) == 1)
  (Fr.need (InvS0 a m b (g.1, g.2) l) (Fr.need (InvS1 (bs0 a m b (g.1, g.2) l) a l) (Fr.val (upS 0 (bs0 a m b (g.1, g.2) l - 1 - a).toNat a.toNat l, ()))))
  (Fr.br (IntKind.i64.wrap (b - m) == 1)
   (Fr.need (InvS2 m a m (g.1, g.2) l) (Fr.need (InvS3 (bs2 m a m (g.1, g.2) l) m l) (Fr.val (downS 0 (m - bs2 m a m (g.1, g.2) l).toNat m.toNat l, ()))))
   (Fr.need (¬(1 : Int) < 0)
    (Fr.br (decide (m > midI a b))
     (symT0 n a m b (midI a b) (IntKind.i64.wrap (IntKind.i64.wrap (midI a b + m) - b)) (midI a b) g l)
     (symT0 n a m b (midI a b) a m g l))))
theorem run_sym (n : Nat) (l : List Int) (x : denP [.d i64, .d i64, .d i64, cmpT]) : runMt Tryz.prog (CI2 n) ΛSym Tryz.f160 3 i64 [.d i64, .d i64, .d i64, cmpT] [] l x = some (fr_sym n l x) := by kernel_rfl
theorem bsG_bd {Q : Nat -> Bool} : (f i j : Nat) -> i <= j -> i <= bsG Q f i j /\ bsG Q f i j <= j
 | 0, i, j, h => ⟨Nat.le_refl _, h⟩
 | f + 1, i, j, h => by
  simp only [bsG]
  split
  ·cases Q ((i + j) / 2) with
   | true =>
    have := bsG_bd (Q := Q) f ((i + j) / 2 + 1) j (by omega)
    simp only [cond_true]
    omega
   | false =>
    have := bsG_bd (Q := Q) f i ((i + j) / 2) (by omega)
    simp only [cond_false]
    omega
  ·exact ⟨Nat.le_refl _, h⟩
structure Sym3 (lt : Int -> Int -> Bool) (key : Int -> Int) (a m b st : Nat) (l : List Int) : Prop where
 s1 : a <= st
 s2 : st <= m
 s3 : st <= (a + b) / 2
 s4 : (a + b) / 2 <= b
 e1 : m + st <= (a + b) / 2 + m
 e2 : (a + b) / 2 + m <= b + st
 len1 : (symR 0 m st ((a + b) / 2 + m - st) l).length = l.length
 same1 : SameK key l (symR 0 m st ((a + b) / 2 + m - st) l)
 sA1 : SortK key (seg a st (symR 0 m st ((a + b) / 2 + m - st) l))
 sB1 : SortK key (seg st ((a + b) / 2) (symR 0 m st ((a + b) / 2 + m - st) l))
 len2 : (if a < st /\ st < (a + b) / 2 then partB lt a ((a + b) / 2) (symR 0 m st ((a + b) / 2 + m - st) l) else symR 0 m st ((a + b) / 2 + m - st) l).length = l.length
 same2 : SameK key l (if a < st /\ st < (a + b) / 2 then partB lt a ((a + b) / 2) (symR 0 m st ((a + b) / 2 + m - st) l) else symR 0 m st ((a + b) / 2 + m - st) l)
 sA2 : SortK key (seg ((a + b) / 2) ((a + b) / 2 + m - st) (if a < st /\ st < (a + b) / 2 then partB lt a ((a + b) / 2) (symR 0 m st ((a + b) / 2 + m - st) l) else symR 0 m st ((a + b) / 2 + m - st) l))
 sB2 : SortK key (seg ((a + b) / 2 + m - st) b (if a < st /\ st < (a + b) / 2 then partB lt a ((a + b) / 2) (symR 0 m st ((a + b) / 2 + m - st) l) else symR 0 m st ((a + b) / 2 + m - st) l))
theorem sym3 {lt : Int -> Int -> Bool} {key : Int -> Int} {a m b : Nat} {l : List Int} (h1 : a < m) (h2 : m < b) (h3 : b <= l.length) (hl : LtK lt key l) (sA : SortK key (seg a m l)) (sB : SortK key (seg m b l)) :
  Sym3 lt key a m b (symS lt 0 a m b l) l := by
 obtain ⟨p, q, hL, hp, hA, hB, hq⟩ := seg_split (Nat.le_of_lt h1) (Nat.le_of_lt h2) h3
 have hAB : LtK lt key (seg a m l ++ seg m b l) := hl.sub fun z hz => by
  rw [hL]
  rcases List.mem_append.1 hz with h | h
  ·exact List.mem_append_right _ (List.mem_append_left _ h)
  ·exact List.mem_append_right _ (List.mem_append_right _ (List.mem_append_left _ h))
 obtain ⟨A1, A2, B1, B2, eA, eB, e1, e2, f1, f2⟩ := sym_parts (d := (0 : Int)) (q := q) hp hA hB h1 h2 hAB sA sB
 rw [← hL] at e1 e2
 rw [eA] at sA hA
 rw [eB] at sB hB
 rw [eA, eB] at hL
 generalize symS lt 0 a m b l = st at e1 e2 ⊢
 subst hL
 simp only [List.length_append] at hA hB h3
 have pA := List.pairwise_append.1 sA
 have pB := List.pairwise_append.1 sB
 have hen : (a + b) / 2 + m - st = m + B1.length := by omega
 have hR : symR 0 m st ((a + b) / 2 + m - st) (p ++ (A1 ++ A2 ++ (B1 ++ B2 ++ q))) = p ++ (A1 ++ (B1 ++ (A2 ++ (B2 ++ q)))) := by
  rw [hen]
  unfold symR
  split
  ·rename_i hc
   have := rotF_eq (d := (0 : Int)) (a := st) (m := m) (b := m + B1.length) (x := A2) (y := B1) (p := p ++ A1) (q := B2 ++ q) (by omega) (by omega) (by simp; omega) (by omega) rfl
   simpa using this
  ·rename_i hc
   by_cases hb1 : B1 = []
   ·subst hb1; simp
   ·have := List.length_pos_iff.2 hb1
    have : A2 = [] := List.length_eq_zero_iff.1 (by omega)
    subst this; simp
 have same1 : SameK key (p ++ (A1 ++ A2 ++ (B1 ++ B2 ++ q))) (p ++ (A1 ++ (B1 ++ (A2 ++ (B2 ++ q))))) := by
  have h := (SameK.refl p).app (((SameK.refl A1).app (SameK.swap (key := key) fun x hx y hy => by have := f2 y hy x hx; omega : SameK key (A2 ++ B1) (B1 ++ A2))).app (SameK.refl (B2 ++ q)))
  simpa using h
 have hl1 : LtK lt key (p ++ (A1 ++ (B1 ++ (A2 ++ (B2 ++ q))))) := hl.sub fun z hz => same1.mem.1 hz
 have g1 : seg a st (p ++ (A1 ++ (B1 ++ (A2 ++ (B2 ++ q))))) = A1 := seg_eq hp (by omega)
 have g2 : seg st ((a + b) / 2) (p ++ (A1 ++ (B1 ++ (A2 ++ (B2 ++ q))))) = B1 := by
  have := seg_eq (p := p ++ A1) (s := B1) (q := A2 ++ (B2 ++ q)) (a := st) (b := (a + b) / 2) (by simp; omega) (by omega)
  simpa using this
 have hX : ∀ T : List Int, T.length = A1.length + B1.length -> seg ((a + b) / 2) ((a + b) / 2 + m - st) (p ++ (T ++ (A2 ++ (B2 ++ q)))) = A2 /\ seg ((a + b) / 2 + m - st) b (p ++ (T ++ (A2 ++ (B2 ++ q)))) = B2 := fun T hT => by
  have k1 := seg_eq (p := p ++ T) (s := A2) (q := B2 ++ q) (a := (a + b) / 2) (b := (a + b) / 2 + m - st) (by simp; omega) (by omega)
  have k2 := seg_eq (p := p ++ T ++ A2) (s := B2) (q := q) (a := (a + b) / 2 + m - st) (b := b) (by simp; omega) (by omega)
  exact ⟨by simpa using k1, by simpa using k2⟩
 have hlen : (p ++ (A1 ++ (B1 ++ (A2 ++ (B2 ++ q))))).length = (p ++ (A1 ++ A2 ++ (B1 ++ B2 ++ q))).length := by simp; omega
 have hpart : a < st /\ st < (a + b) / 2 -> partB lt a ((a + b) / 2) (p ++ (A1 ++ (B1 ++ (A2 ++ (B2 ++ q))))) = p ++ (sortB lt (A1 ++ B1) ++ (A2 ++ (B2 ++ q))) := fun hc => by
  have := partB_eq (lt := lt) (a := a) (b := (a + b) / 2) (p := p) (s := A1 ++ B1) (q := A2 ++ (B2 ++ q)) hp (by simp; omega)
  simpa using this
 refine ⟨by omega, by omega, by omega, by omega, by omega, by omega, by rw [hR]; exact hlen, by rw [hR]; exact same1, by rw [hR, g1]; exact pA.1, by rw [hR, g2]; exact pB.1, ?_, ?_, ?_, ?_⟩
 ·rw [hR]
  split
  ·rw [partB_length (by omega) (by simp; omega)]
   exact hlen
  ·exact hlen
 ·rw [hR]
  split
  ·exact same1.trans (partB_same (by omega) (by simp; omega) hl1)
  ·exact same1
 ·rw [hR]
  split
  ·rename_i hc
   rw [hpart hc, (hX _ (by rw [sortB_length]; simp)).1]
   exact pA.2.1
  ·have := (hX (A1 ++ B1) (by simp)).1
   rw [show p ++ (A1 ++ (B1 ++ (A2 ++ (B2 ++ q)))) = p ++ ((A1 ++ B1) ++ (A2 ++ (B2 ++ q))) by simp, this]
   exact pA.2.1
 ·rw [hR]
  split
  ·rename_i hc
   rw [hpart hc, (hX _ (by rw [sortB_length]; simp)).2]
   exact pB.2.1
  ·have := (hX (A1 ++ B1) (by simp)).2
   rw [show p ++ (A1 ++ (B1 ++ (A2 ++ (B2 ++ q)))) = p ++ ((A1 ++ B1) ++ (A2 ++ (B2 ++ q))) by simp, this]
   exact pB.2.1
theorem symX_part {lt : Int -> Int -> Bool} {key : Int -> Int} {a m b : Nat} {l : List Int} (h1 : a < m) (h2 : m < b) (h3 : b <= l.length) (hl : LtK lt key l) (sA : SortK key (seg a m l)) (sB : SortK key (seg m b l)) :
  symX lt 0 a m b l = partB lt a b l := by
 obtain ⟨p, q, hL, hp, hA, hB, hq⟩ := seg_split (Nat.le_of_lt h1) (Nat.le_of_lt h2) h3
 generalize seg a m l = A at hL hA sA
 generalize seg m b l = B at hL hB sB
 subst hL
 have hAB : LtK lt key (A ++ B) := hl.sub fun z hz => by
  rcases List.mem_append.1 hz with h | h
  ·exact List.mem_append_right _ (List.mem_append_left _ h)
  ·exact List.mem_append_right _ (List.mem_append_right _ (List.mem_append_left _ h))
 rw [symX_eq hp hA hB h1 h2 hAB sA sB]
 have := partB_eq (lt := lt) (a := a) (b := b) (p := p) (s := A ++ B) (q := q) hp (by simp; omega)
 rw [← this]
 simp
theorem bif_dec (p q : Prop) [Decidable p] [Decidable q] : (bif decide p then decide q else false) = decide (p /\ q) := by
 by_cases p <;> by_cases q <;> simp_all
theorem symT3_ok {n : Nat} {mid en b : Nat} {g : cmpT.den} {l : List Int} (h : mid < en /\ en < b -> SymOk n mid en b g l) :
  (symT3 n mid en b g l).ok /\ (symT3 n mid en b g l).get = ((if mid < en /\ en < b then partB (ltOf g) mid b l else l), ()) := by
 unfold symT3
 have hd : (bif decide ((mid : Int) < en) then decide ((en : Int) < b) else false) = decide (mid < en /\ en < b) := by
  rw [bif_dec, decide_eq_decide]
  omega
 rw [hd]
 by_cases hc : mid < en /\ en < b
 ·rw [decide_eq_true hc, if_pos hc]
  exact ⟨⟨fun _ => ⟨h hc, trivial⟩, fun hb => by cases hb⟩, rfl⟩
 ·rw [decide_eq_false hc, if_neg hc]
  exact ⟨⟨fun hb => (by cases hb), fun _ => trivial⟩, rfl⟩
theorem symT2_ok {n : Nat} {a st mid en b : Nat} {g : cmpT.den} {l : List Int} (h : a < st /\ st < mid -> SymOk n a st mid g l)
  (k : mid < en /\ en < b -> SymOk n mid en b g (if a < st /\ st < mid then partB (ltOf g) a mid l else l)) :
  (symT2 n a st mid en b g l).ok /\ (symT2 n a st mid en b g l).get = ((if mid < en /\ en < b then partB (ltOf g) mid b (if a < st /\ st < mid then partB (ltOf g) a mid l else l) else (if a < st /\ st < mid then partB (ltOf g) a mid l else l)), ()) := by
 unfold symT2
 have hd : (bif decide ((a : Int) < st) then decide ((st : Int) < mid) else false) = decide (a < st /\ st < mid) := by
  rw [bif_dec, decide_eq_decide]
  omega
 rw [hd]
 by_cases hc : a < st /\ st < mid
 ·rw [if_pos hc] at k ⊢
  rw [decide_eq_true hc]
  obtain ⟨h1, h2⟩ := symT3_ok k
  exact ⟨⟨fun _ => ⟨h hc, h1⟩, fun hb => by cases hb⟩, h2⟩
 ·rw [if_neg hc] at k ⊢
  rw [decide_eq_false hc]
  obtain ⟨h1, h2⟩ := symT3_ok k
  exact ⟨⟨fun hb => (by cases hb), fun _ => h1⟩, h2⟩
theorem symT1_ok {n : Nat} {a m b st mid en : Nat} {g : cmpT.den} {l : List Int} (hen : en <= l.length) (hbig : (l.length : Int) <= 4611686018427387903)
  (h : a < st /\ st < mid -> SymOk n a st mid g (symR 0 m st en l))
  (k : mid < en /\ en < b -> SymOk n mid en b g (if a < st /\ st < mid then partB (ltOf g) a mid (symR 0 m st en l) else symR 0 m st en l)) :
  (symT1 n a m b st mid en g l).ok /\ (symT1 n a m b st mid en g l).get = ((if mid < en /\ en < b then partB (ltOf g) mid b (if a < st /\ st < mid then partB (ltOf g) a mid (symR 0 m st en l) else symR 0 m st en l) else (if a < st /\ st < mid then partB (ltOf g) a mid (symR 0 m st en l) else symR 0 m st en l)), ()) := by
 unfold symT1
 have hd : (bif decide ((st : Int) < m) then decide ((m : Int) < en) else false) = decide (st < m /\ m < en) := by
  rw [bif_dec, decide_eq_decide]
  omega
 rw [hd]
 by_cases hc : st < m /\ m < en
 ·have e : symR 0 m st en l = rotF 0 st m en l := by unfold symR; rw [if_pos hc]
  rw [e] at h k ⊢
  rw [decide_eq_true hc]
  obtain ⟨h1, h2⟩ := symT2_ok h k
  exact ⟨⟨fun _ => ⟨by omega, by omega, by omega, by omega, hbig, h1⟩, fun hb => by cases hb⟩, h2⟩
 ·have e : symR 0 m st en l = l := by unfold symR; rw [if_neg hc]
  rw [e] at h k ⊢
  rw [decide_eq_false hc]
  obtain ⟨h1, h2⟩ := symT2_ok h k
  exact ⟨⟨fun hb => (by cases hb), fun _ => h1⟩, h2⟩
theorem sym_plain (n a m b : Nat) (g : cmpT.den) (l : List Int) (h : SymOk (n + 1) a m b g l) : (fr_sym n l ((a : Int), (m : Int), (b : Int), g, ())).ok /\ (fr_sym n l ((a : Int), (m : Int), (b : Int), g, ())).get = (partB (ltOf g) a b l, ()) := by
 obtain ⟨_, h1, h2, h3, hbig, hsize, hdom, key, hl, sA, sB⟩ := h
 simp only [Int.toNat_natCast] at sA sB
 have h1' : a < m := by omega
 have h2' : m < b := by omega
 have h3' : b <= l.length := by omega
 have hX := symX_part h1' h2' h3' hl sA sB
 rw [← hX]
 have w1 : IntKind.i64.wrap ((m : Int) - a) = (m - a : Nat) := sub_nat (by omega) (by omega)
 have w2 : IntKind.i64.wrap ((b : Int) - m) = (b - m : Nat) := sub_nat (by omega) (by omega)
 have hmid : midI (a : Int) b = ((a + b) / 2 : Nat) := midI_nat (by omega)
 dsimp only [fr_sym]
 rw [w1, w2, hmid]
 by_cases c1 : m - a = 1
 ·have hc : (((m - a : Nat) : Int) == 1) = true := by rw [c1]; rfl
  rw [hc]
  unfold symX
  rw [if_pos c1]
  obtain ⟨r1, r2⟩ := bsG_bd (Q := fun h => ltOf g (l.getD h 0) (l.getD a 0)) (b - m) m b (by omega)
  have hb0 : bs0 (a : Int) m b g l = (bsG (fun h => ltOf g (l.getD h 0) (l.getD a 0)) (b - m) m b : Nat) := rfl
  have e : (g.1, g.2) = g := rfl
  simp only [e]
  rw [hb0]
  generalize bsG (fun h => ltOf g (l.getD h 0) (l.getD a 0)) (b - m) m b = r at r1 r2 ⊢
  refine ⟨⟨fun _ => ⟨⟨by omega, by omega, by omega, by omega, by omega, hbig, hdom⟩, ⟨by omega, by omega, by omega, hbig⟩, trivial⟩, fun hb => by cases hb⟩, ?_⟩
  show (upS 0 ((r : Int) - 1 - a).toNat (a : Int).toNat l, ()) = _
  rw [show ((r : Int) - 1 - a).toNat = r - 1 - a by omega]
  rfl
 ·have hc : (((m - a : Nat) : Int) == 1) = false := by rw [beq_eq_false_iff_ne]; omega
  rw [hc]
  by_cases c2 : b - m = 1
  ·have hc : (((b - m : Nat) : Int) == 1) = true := by rw [c2]; rfl
   rw [hc]
   unfold symX
   rw [if_neg c1, if_pos c2]
   obtain ⟨r1, r2⟩ := bsG_bd (Q := fun h => !ltOf g (l.getD m 0) (l.getD h 0)) (m - a) a m (by omega)
   have hb0 : bs2 (m : Int) a m g l = (bsG (fun h => !ltOf g (l.getD m 0) (l.getD h 0)) (m - a) a m : Nat) := rfl
   have e : (g.1, g.2) = g := rfl
   simp only [e]
   rw [hb0]
   generalize bsG (fun h => !ltOf g (l.getD m 0) (l.getD h 0)) (m - a) a m = r at r1 r2 ⊢
   refine ⟨⟨fun hb => (by cases hb), fun _ => ⟨fun _ => ⟨⟨by omega, by omega, by omega, by omega, by omega, hbig, hdom⟩, ⟨by omega, by omega, by omega, hbig⟩, trivial⟩, fun hb => by cases hb⟩⟩, ?_⟩
   show (downS 0 ((m : Int) - r).toNat (m : Int).toNat l, ()) = _
   rw [show ((m : Int) - r).toNat = m - r by omega]
   rfl
  ·have hc : (((b - m : Nat) : Int) == 1) = false := by rw [beq_eq_false_iff_ne]; omega
   rw [hc]
   have s3 := sym3 h1' h2' h3' hl sA sB
   have key3 : ∀ i j : Nat, (i = if (a + b) / 2 < m then (a + b) / 2 + m - b else a) -> (j = if (a + b) / 2 < m then (a + b) / 2 else m) ->
     (symT0 n a m b ((a + b) / 2 : Nat) i j g l).ok /\ (symT0 n a m b ((a + b) / 2 : Nat) i j g l).get = (symX (ltOf g) 0 a m b l, ()) := fun i j hi hj => by
    have wp : IntKind.i64.wrap (IntKind.i64.wrap ((((a + b) / 2 : Nat) : Int) + m) - 1) = ((a + b) / 2 + m - 1 : Nat) := by
     rw [add_nat (by omega), pred_nat (by omega) (by omega)]
    have hS : bs4 (((a + b) / 2 + m - 1 : Nat) : Int) i j g l = (symS (ltOf g) 0 a m b l : Nat) := by
     unfold bs4 symS
     simp only [Int.toNat_natCast]
     rw [← hi, ← hj]
    dsimp only [symT0]
    have e : (g.1, g.2) = g := rfl
    rw [wp, e, hS]
    have we : IntKind.i64.wrap (IntKind.i64.wrap ((((a + b) / 2 : Nat) : Int) + m) - (symS (ltOf g) 0 a m b l : Nat)) = ((a + b) / 2 + m - symS (ltOf g) 0 a m b l : Nat) := by
     have := s3.s3
     rw [add_nat (by omega), sub_nat (by omega) (by omega)]
    rw [we]
    have hSx : symX (ltOf g) 0 a m b l = (if (a + b) / 2 < (a + b) / 2 + m - symS (ltOf g) 0 a m b l /\ (a + b) / 2 + m - symS (ltOf g) 0 a m b l < b then partB (ltOf g) ((a + b) / 2) b (if a < symS (ltOf g) 0 a m b l /\ symS (ltOf g) 0 a m b l < (a + b) / 2 then partB (ltOf g) a ((a + b) / 2) (symR 0 m (symS (ltOf g) 0 a m b l) ((a + b) / 2 + m - symS (ltOf g) 0 a m b l) l) else symR 0 m (symS (ltOf g) 0 a m b l) ((a + b) / 2 + m - symS (ltOf g) 0 a m b l) l) else (if a < symS (ltOf g) 0 a m b l /\ symS (ltOf g) 0 a m b l < (a + b) / 2 then partB (ltOf g) a ((a + b) / 2) (symR 0 m (symS (ltOf g) 0 a m b l) ((a + b) / 2 + m - symS (ltOf g) 0 a m b l) l) else symR 0 m (symS (ltOf g) 0 a m b l) ((a + b) / 2 + m - symS (ltOf g) 0 a m b l) l)) := by
     conv => lhs; unfold symX
     rw [if_neg c1, if_neg c2]
    rw [hSx]
    generalize symS (ltOf g) 0 a m b l = st at s3 ⊢
    obtain ⟨q1, q2, q3, q4, q5, q6, len1, same1, sA1, sB1, len2, same2, sA2, sB2⟩ := s3
    obtain ⟨o1, o2⟩ := symT1_ok (n := n) (a := a) (m := m) (b := b) (st := st) (mid := (a + b) / 2) (en := (a + b) / 2 + m - st) (g := g) (l := l) (by omega) hbig
     (fun hc => ⟨by omega, by omega, by omega, by omega, by omega, by omega, hdom.sub fun z hz => same1.mem.1 hz, key, hl.sub fun z hz => same1.mem.1 hz, sA1, sB1⟩)
     (fun hc => ⟨by omega, by omega, by omega, by omega, by omega, by omega, hdom.sub fun z hz => same2.mem.1 hz, key, hl.sub fun z hz => same2.mem.1 hz, sA2, sB2⟩)
    refine ⟨⟨?_, o1⟩, o2⟩
    refine ⟨by omega, ?_, ?_, by omega, ?_, ?_, hbig, hdom⟩ <;> (subst hi hj; split <;> omega)
   by_cases cm : m > (a + b) / 2
   ·have hd : decide ((m : Int) > ((a + b) / 2 : Nat)) = true := decide_eq_true (by omega)
    rw [hd]
    have wi : IntKind.i64.wrap (IntKind.i64.wrap ((((a + b) / 2 : Nat) : Int) + m) - b) = ((a + b) / 2 + m - b : Nat) := by
     rw [add_nat (by omega), sub_nat (by omega) (by omega)]
    rw [wi]
    obtain ⟨k1, k2⟩ := key3 ((a + b) / 2 + m - b) ((a + b) / 2) (by rw [if_pos (by omega)]) (by rw [if_pos (by omega)])
    exact ⟨⟨fun hb => (by cases hb), fun _ => ⟨fun hb => (by cases hb), fun _ => ⟨by omega, fun _ => k1, fun hb => by cases hb⟩⟩⟩, k2⟩
   ·have hd : decide ((m : Int) > ((a + b) / 2 : Nat)) = false := decide_eq_false (by omega)
    rw [hd]
    obtain ⟨k1, k2⟩ := key3 a m (by rw [if_neg (by omega)]) (by rw [if_neg (by omega)])
    exact ⟨⟨fun hb => (by cases hb), fun _ => ⟨fun hb => (by cases hb), fun _ => ⟨by omega, fun hb => (by cases hb), fun _ => k1⟩⟩⟩, k2⟩
theorem sym_ok : (n : Nat) -> SoundMt Tryz.prog 160 (mSym n)
 | 0 => by
  have hf : Tryz.prog.funcs[160]? = some Tryz.f160 := by kernel_rfl
  obtain ⟨c, hb⟩ : ∃ c, Tryz.f160.body = some c := ⟨_, rfl⟩
  refine ⟨rfl, rfl, enters hf hb (by kernel_rfl), fun w F l xs v vs rows _ _ _ _ _ _ _ hok => ?_⟩
  have h : SymOk 0 xs.1 xs.2.1 xs.2.2.1 xs.2.2.2.1 l := hok
  have h1 := h.am
  have h2 := h.mb
  have h3 := h.size
  omega
 | n + 1 => by
  refine convMt (mt_sound (CI2_ok (sym_ok n)) (Λ := ΛSym) (fn := Tryz.f160) (fr := fr_sym n) (e := 3) (T := i64) (ps := [.d i64, .d i64, .d i64, cmpT]) (rs := []) (0, 0, 0, (fun _ => (0, ()), fun _ => True), ()) (by kernel_rfl) rfl rfl
   (fun c E hc => lam_sym hc) (run_sym n)) _ _ fun w F l xs vs _ _ _ hok => ?_
  obtain ⟨a, m, b, g, rfl⟩ : ∃ (a m b : Int) (g : cmpT.den), xs = (a, m, b, g, ()) := ⟨xs.1, xs.2.1, xs.2.2.1, xs.2.2.2.1, rfl⟩
  have h : SymOk (n + 1) a m b g l := hok
  have h0 := h.a0
  have h1 := h.am
  have h2 := h.mb
  obtain ⟨a', rfl⟩ : ∃ n : Nat, a = n := ⟨a.toNat, by omega⟩
  obtain ⟨m', rfl⟩ : ∃ n : Nat, m = n := ⟨m.toNat, by omega⟩
  obtain ⟨b', rfl⟩ : ∃ n : Nat, b = n := ⟨b.toNat, by omega⟩
  exact sym_plain n a' m' b' g l h
theorem blkW_enough {lt : Int -> Int -> Bool} {w n : Nat} (hw : 0 < w) : (f f' a : Nat) -> (l : List Int) -> n < f + a -> n < f' + a -> blkW lt w n f a l = blkW lt w n f' a l
 | 0, 0, _, _, _, _ => rfl
 | 0, f' + 1, a, l, h, _ => by simp only [blkW]; rw [if_neg (by omega)]
 | f + 1, 0, a, l, _, h => by simp only [blkW]; rw [if_neg (by omega)]
 | f + 1, f' + 1, a, l, h, h' => by
  simp only [blkW]
  split
  ·exact blkW_enough hw f f' _ _ (by omega) (by omega)
  ·rfl
theorem passes_enough {lt : Int -> Int -> Bool} {n : Nat} : (f f' w : Nat) -> (l : List Int) -> 0 < w -> n <= f + w -> n <= f' + w -> passes lt n f w l = passes lt n f' w l
 | 0, 0, _, _, _, _, _ => rfl
 | 0, f' + 1, w, l, hw, h, _ => by simp only [passes]; rw [if_neg (by omega)]
 | f + 1, 0, w, l, hw, _, h => by simp only [passes]; rw [if_neg (by omega)]
 | f + 1, f' + 1, w, l, hw, h, h' => by
  simp only [passes]
  split
  ·exact passes_enough f f' _ _ (by omega) (by omega) (by omega)
  ·rfl
abbrev big : Nat := 4611686018427387903
noncomputable def CI3 : Cx := cxK [] [] (orK (mtK (cx [] []).Γ 159 mInsert) (mtK (cx [] []).Γ 160 (mSym big)))
theorem CI3_ok : CxOK Tryz.prog CI3 := cxK_ok mixed trivial trivial (orK_ok (mtK_ok CI0_ok.ct insert_ok) (mtK_ok CI0_ok.ct (sym_ok big)))
abbrev pt_blk : Pt := ⟨63, 0, ⟨[(1, .d i64), (2, cmpT), (6, .d i64), (7, .d i64), (8, .d i64)], [.al 10000 0, .o 0 3 i64]⟩, ⟨[(1, .d i64), (2, cmpT), (6, .d i64), (7, .d i64)], [.al 10000 0, .o 0 3 i64]⟩, ⟨[], []⟩⟩
noncomputable def fr_blk (x : pt_blk.M.X) : Fr pt_blk.Out :=
 let n := x.1.1; let g := x.1.2.1; let bs := x.1.2.2.1; let a := x.1.2.2.2.1; let b := x.1.2.2.2.2.1; let l := x.2.1
 Fr.br (decide (b <= n))
  (Fr.need (0 <= a)
   (Fr.need (a <= b)
    (Fr.need (b <= (l.length : Int))
     (Fr.need ((l.length : Int) <= 4611686018427387903)
      (Fr.need (OrdOf (g.1, g.2) l)
       (Fr.val (Rd.next ((n, (g.1, g.2), bs, b, IntKind.i64.wrap (b + bs), ()), ((mInsert.f l (a, b, (g.1, g.2), ())).1, ())))))))))
  (Fr.val (Rd.out ((n, (g.1, g.2), bs, a, ()), (l, ()))))
theorem sem_blk : Does Tryz.prog (loopF Tryz.f144 0) pt_blk.M pt_blk fr_blk :=
 Does.of_run CI3_ok (bs := 0) (Λ := lam0) rfl rfl rfl (fun E => lam0_ok _ 0) (fun x => by kernel_rfl)
structure InvBlk (n bs a b : Int) (g : cmpT.den) (l : List Int) : Prop where
 nl : n = l.length
 big : n <= 4611686018427387903
 bs0 : bs = 20
 a0 : 0 <= a
 an : a <= n
 ab : b = a + 20
 ord : OrdOf g l
def blkI (n a : Int) (g : cmpT.den) (l : List Int) : Nat × List Int := blkW (ltOf g) 20 n.toNat (n.toNat + 1) a.toNat l
def FBlk (x : pt_blk.M.X) : Fr pt_blk.Out :=
 let n := x.1.1; let g := x.1.2.1; let bs := x.1.2.2.1; let a := x.1.2.2.2.1; let b := x.1.2.2.2.2.1; let l := x.2.1
 Fr.need (InvBlk n bs a b g l) (Fr.val (Rd.out ((n, g, bs, ((blkI n a g l).1 : Nat), ()), ((blkI n a g l).2, ()))))
theorem partB_mem {lt : Int -> Int -> Bool} {a b : Nat} {l : List Int} {x : Int} (h : x ∈ partB lt a b l) : x ∈ l := by
 unfold partB at h
 rcases List.mem_append.1 h with h | h
 ·exact List.mem_of_mem_take h
 ·rcases List.mem_append.1 h with h | h
  ·exact List.mem_of_mem_take (List.mem_of_mem_drop (sortB_mem.1 h))
  ·exact List.mem_of_mem_drop h
theorem lawBlk (n bs a b : Int) (g : cmpT.den) (l : List Int) (hinv : InvBlk n bs a b g l) (Q : pt_blk.Out -> Prop)
  (hq : Q (Rd.out ((n, g, bs, ((blkI n a g l).1 : Nat), ()), ((blkI n a g l).2, ())))) : (fr_blk ((n, g, bs, a, b, ()), (l, ()))).satP fun
   | .next x' => InvBlk x'.1.1 x'.1.2.2.1 x'.1.2.2.2.1 x'.1.2.2.2.2.1 x'.1.2.1 x'.2.1 /\ (x'.1.1 - x'.1.2.2.2.1).toNat < (n - a).toNat /\ (FBlk x').satP Q
   | .out y => Q (.out y)
   | .back z => Q (.back z)
   | .pan p => Q (.pan p) := by
 obtain ⟨h0, h1, h2, h3, h4, h5, h6⟩ := hinv
 subst h2 h5
 dsimp only [fr_blk, Fr.satP, Ty.den, PT.den, mInsert]
 refine ⟨fun hi => ?_, fun hi => ?_⟩
 ·have hle : a + 20 <= n := of_decide_eq_true hi
  have w : IntKind.i64.wrap (a + 20 + 20) = a + 20 + 20 := IntWalk.i64_in _ (by omega)
  rw [w]
  have hlen : (partB (ltOf g) a.toNat (a + 20).toNat l).length = l.length := partB_length (by omega) (by omega)
  have hI : InvBlk n 20 (a + 20) (a + 20 + 20) g (partB (ltOf g) a.toNat (a + 20).toNat l) := ⟨by rw [hlen]; exact h0, h1, rfl, by omega, hle, rfl, h6.sub fun x hx => partB_mem hx⟩
  refine ⟨h3, by omega, by omega, by omega, h6, hI, by omega, hI, ?_⟩
  have e : blkI n a g l = blkI n (a + 20) g (partB (ltOf g) a.toNat (a + 20).toNat l) := by
   unfold blkI
   rw [show n.toNat + 1 = n.toNat + 1 from rfl]
   conv => lhs; unfold blkW
   rw [if_pos (by omega), show a.toNat + 20 = (a + 20).toNat by omega]
   exact blkW_enough (by omega) _ _ _ _ (by omega) (by omega)
  rw [e] at hq
  exact hq
 ·have hgt : ¬ a + 20 <= n := of_decide_eq_false hi
  have e : blkI n a g l = (a.toNat, l) := by
   unfold blkI blkW
   rw [if_neg (by omega)]
  rw [e] at hq
  have e2 : ((a.toNat : Nat) : Int) = a := by omega
  simp only [e2] at hq
  exact hq
theorem loopBlk : Does Tryz.prog (.loop (loopF Tryz.f144 0)) pt_blk.M pt_blk FBlk := by
 refine Does.loop (n := 63) (id := 0) sem_blk (inv := fun x => InvBlk x.1.1 x.1.2.2.1 x.1.2.2.2.1 x.1.2.2.2.2.1 x.1.2.1 x.2.1) (μ := fun x => (x.1.1 - x.1.2.2.2.1).toNat) ?_ (fun x Q h => h.1)
 rintro ⟨⟨n, g, bs, a, b, _⟩, ⟨l, _⟩⟩ hinv Q hq
 exact lawBlk n bs a b g l hinv Q hq.2
abbrev pt_pas : Pt := ⟨63, 4, ⟨[(1, .d i64), (2, cmpT), (6, .d i64), (7, .d i64), (8, .d i64)], [.al 10000 0, .o 0 3 i64]⟩, ⟨[(1, .d i64), (2, cmpT), (6, .d i64), (7, .d i64)], [.al 10000 0, .o 0 3 i64]⟩, ⟨[], []⟩⟩
noncomputable def pasCode : Code := ((Go.Ab.loopB (loopF Tryz.f144 1) 0).getD .skip)
noncomputable def fr_pas (x : pt_pas.M.X) : Fr pt_pas.Out :=
 let n := x.1.1; let g := x.1.2.1; let bs := x.1.2.2.1; let a := x.1.2.2.2.1; let b := x.1.2.2.2.2.1; let l := x.2.1
 Fr.br (decide (b <= n))
  (Fr.need (SymOk big a (IntKind.i64.wrap (a + bs)) b (g.1, g.2) l)
   (Fr.val (Rd.next ((n, (g.1, g.2), bs, b, IntKind.i64.wrap (b + IntKind.i64.wrap (2 * bs)), ()), (((mSym big).f l (a, IntKind.i64.wrap (a + bs), b, (g.1, g.2), ())).1, ())))))
  (Fr.val (Rd.out ((n, (g.1, g.2), bs, a, ()), (l, ()))))
theorem sem_pas : Does Tryz.prog pasCode pt_pas.M pt_pas fr_pas :=
 Does.of_run CI3_ok (bs := 0) (Λ := lam0) rfl rfl rfl (fun E => lam0_ok _ 0) (fun x => by kernel_rfl)
structure InvPas (n bs a b : Int) (g : cmpT.den) (l : List Int) : Prop where
 nl : n = l.length
 big : n <= 4611686018427387903
 bs0 : 0 < bs
 bsn : bs < n
 a0 : 0 <= a
 an : a <= n
 ab : b = a + 2 * bs
 mul : ∃ c : Nat, a.toNat = c * (2 * bs.toNat)
 dom : DomOf g l
 key : ∃ key : Int -> Int, LtK (ltOf g) key l /\ ∀ k : Nat, a.toNat <= k * bs.toNat -> SortK key (seg (k * bs.toNat) (k * bs.toNat + bs.toNat) l)
def pasI (n bs a : Int) (g : cmpT.den) (l : List Int) : Nat × List Int := blkW (ltOf g) (2 * bs.toNat) n.toNat (n.toNat + 1) a.toNat l
def FPas (x : pt_pas.M.X) : Fr pt_pas.Out :=
 let n := x.1.1; let g := x.1.2.1; let bs := x.1.2.2.1; let a := x.1.2.2.2.1; let b := x.1.2.2.2.2.1; let l := x.2.1
 Fr.need (InvPas n bs a b g l) (Fr.val (Rd.out ((n, g, bs, ((pasI n bs a g l).1 : Nat), ()), ((pasI n bs a g l).2, ()))))
theorem lawPas (n bs a b : Int) (g : cmpT.den) (l : List Int) (hinv : InvPas n bs a b g l) (Q : pt_pas.Out -> Prop)
  (hq : Q (Rd.out ((n, g, bs, ((pasI n bs a g l).1 : Nat), ()), ((pasI n bs a g l).2, ())))) : (fr_pas ((n, g, bs, a, b, ()), (l, ()))).satP fun
   | .next x' => InvPas x'.1.1 x'.1.2.2.1 x'.1.2.2.2.1 x'.1.2.2.2.2.1 x'.1.2.1 x'.2.1 /\ (x'.1.1 - x'.1.2.2.2.1).toNat < (n - a).toNat /\ (FPas x').satP Q
   | .out y => Q (.out y)
   | .back z => Q (.back z)
   | .pan p => Q (.pan p) := by
 obtain ⟨h0, h1, h2, h3, h4, h5, h6, ⟨c, h7⟩, h8, key, h9, h10⟩ := hinv
 subst h6
 dsimp only [fr_pas, Fr.satP, Ty.den, PT.den, mSym]
 have w1 : IntKind.i64.wrap (a + bs) = a + bs := IntWalk.i64_in _ (by omega)
 have w2 : IntKind.i64.wrap (2 * bs) = 2 * bs := IntWalk.i64_in _ (by omega)
 rw [w1, w2]
 refine ⟨fun hi => ?_, fun hi => ?_⟩
 ·have hle : a + 2 * bs <= n := of_decide_eq_true hi
  have hle' : a.toNat + 2 * bs.toNat <= l.length := by omega
  have hseg1 : SortK key (seg a.toNat (a + bs).toNat l) := by
   have := h10 (2 * c) (by rw [h7, ← Nat.mul_assoc, Nat.mul_comm c 2]; exact Nat.le_refl _)
   rwa [show 2 * c * bs.toNat = a.toNat by rw [h7, ← Nat.mul_assoc, Nat.mul_comm c 2], show a.toNat + bs.toNat = (a + bs).toNat by omega] at this
  have hseg2 : SortK key (seg (a + bs).toNat (a + 2 * bs).toNat l) := by
   have e : (2 * c + 1) * bs.toNat = (a + bs).toNat := by
    rw [Nat.succ_mul, show 2 * c * bs.toNat = a.toNat by rw [h7, ← Nat.mul_assoc, Nat.mul_comm c 2]]
    omega
   have := h10 (2 * c + 1) (by omega)
   rwa [e, show (a + bs).toNat + bs.toNat = (a + 2 * bs).toNat by omega] at this
  have hlen : (partB (ltOf g) a.toNat (a + 2 * bs).toNat l).length = l.length := partB_length (by omega) (by omega)
  by_cases hbig : a + 2 * bs + 2 * bs <= 9223372036854775807
  ·have w3 : IntKind.i64.wrap (a + 2 * bs + 2 * bs) = a + 2 * bs + 2 * bs := IntWalk.i64_in _ (by omega)
   rw [w3]
   have hI : InvPas n bs (a + 2 * bs) (a + 2 * bs + 2 * bs) g (partB (ltOf g) a.toNat (a + 2 * bs).toNat l) := ⟨by rw [hlen]; exact h0, h1, h2, h3, by omega, hle, rfl, ⟨c + 1, by rw [Nat.succ_mul, ← h7]; omega⟩, h8.sub fun x hx => partB_mem hx, key, h9.sub fun x hx => partB_mem hx, fun k hk => by
    rw [seg_of_drop (c := (a + 2 * bs).toNat) (drop_partB (by omega) (by omega) (Nat.le_refl _)) hk]
    exact h10 k (by omega)⟩
   refine ⟨⟨h4, by omega, by omega, by omega, by omega, by simp only [big]; omega, h8, key, h9, hseg1, hseg2⟩, hI, by omega, hI, ?_⟩
   have e : pasI n bs a g l = pasI n bs (a + 2 * bs) g (partB (ltOf g) a.toNat (a + 2 * bs).toNat l) := by
    unfold pasI
    conv => lhs; unfold blkW
    rw [if_pos (by omega), show a.toNat + 2 * bs.toNat = (a + 2 * bs).toNat by omega]
    exact blkW_enough (by omega) _ _ _ _ (by omega) (by omega)
   rw [e] at hq
   exact hq
  ·exfalso
   omega
 ·have hgt : ¬ a + 2 * bs <= n := of_decide_eq_false hi
  have e : pasI n bs a g l = (a.toNat, l) := by
   unfold pasI blkW
   rw [if_neg (by omega)]
  rw [e] at hq
  have e2 : ((a.toNat : Nat) : Int) = a := by omega
  simp only [e2] at hq
  exact hq
theorem loopPas : Does Tryz.prog (.loop pasCode) pt_pas.M pt_pas FPas := by
 refine Does.loop (n := 63) (id := 4) sem_pas (inv := fun x => InvPas x.1.1 x.1.2.2.1 x.1.2.2.2.1 x.1.2.2.2.2.1 x.1.2.1 x.2.1) (μ := fun x => (x.1.1 - x.1.2.2.2.1).toNat) ?_ (fun x Q h => h.1)
 rintro ⟨⟨n, g, bs, a, b, _⟩, ⟨l, _⟩⟩ hinv Q hq
 exact lawPas n bs a b g l hinv Q hq.2
noncomputable def ΛPas : Nat -> St -> Option Tr := fun _ => pt_pas.han CI3.Γ pt_pas.M FPas
abbrev pt_all : Pt := ⟨63, 2, ⟨[(1, .d i64), (2, cmpT), (6, .d i64)], [.al 10000 0, .o 0 3 i64]⟩, ⟨[], [.al 10000 0, .o 0 3 i64]⟩, ⟨[], []⟩⟩
noncomputable def fr_all (x : pt_all.M.X) : Fr pt_all.Out :=
 let n := x.1.1; let g := x.1.2.1; let bs := x.1.2.2.1; let l := x.2.1
 let r := pasI n bs 0 (g.1, g.2) l
 Fr.br (decide (bs < n))
  (Fr.need (InvPas n bs 0 (IntKind.i64.wrap (2 * bs)) (g.1, g.2) l)
   (Fr.br (decide (IntKind.i64.wrap ((r.1 : Int) + bs) < n))
    (Fr.need (SymOk big r.1 (IntKind.i64.wrap ((r.1 : Int) + bs)) n (g.1, g.2) r.2)
     (Fr.val (Rd.next ((n, (g.1, g.2), IntKind.i64.wrap (bs * 2), ()), (((mSym big).f r.2 ((r.1 : Int), IntKind.i64.wrap ((r.1 : Int) + bs), n, (g.1, g.2), ())).1, ())))))
    (Fr.val (Rd.next ((n, (g.1, g.2), IntKind.i64.wrap (bs * 2), ()), (r.2, ()))))))
  (Fr.val (Rd.out ((), (l, ()))))
theorem lam_pas {E : Env} : LamOK Tryz.prog E ΛPas (loopF Tryz.f144 1) 0 :=
 lam1 (b := pasCode) (by kernel_rfl) (by kernel_rfl) (Does.han CI3_ok rfl loopPas)
theorem sem_all : Does Tryz.prog (loopF Tryz.f144 1) pt_all.M pt_all fr_all :=
 Does.of_run CI3_ok (bs := 0) (Λ := ΛPas) rfl rfl rfl (fun E => lam_pas) (fun x => by kernel_rfl)
structure InvAll (n bs : Int) (g : cmpT.den) (l : List Int) : Prop where
 nl : n = l.length
 big : n <= 4611686018427387903
 bs0 : 0 < bs
 dom : DomOf g l
 key : ∃ key : Int -> Int, LtK (ltOf g) key l /\ BlkS key bs.toNat l
def FAll (x : pt_all.M.X) : Fr pt_all.Out :=
 let n := x.1.1; let g := x.1.2.1; let bs := x.1.2.2.1; let l := x.2.1
 Fr.need (InvAll n bs g l) (Fr.val (Rd.out ((), (passes (ltOf g) n.toNat n.toNat bs.toNat l, ()))))
theorem lawAll (n bs : Int) (g : cmpT.den) (l : List Int) (hinv : InvAll n bs g l) (Q : pt_all.Out -> Prop)
  (hq : Q (Rd.out ((), (passes (ltOf g) n.toNat n.toNat bs.toNat l, ())))) : (fr_all ((n, g, bs, ()), (l, ()))).satP fun
   | .next x' => InvAll x'.1.1 x'.1.2.2.1 x'.1.2.1 x'.2.1 /\ (x'.1.1 - x'.1.2.2.1).toNat < (n - bs).toNat /\ (FAll x').satP Q
   | .out y => Q (.out y)
   | .back z => Q (.back z)
   | .pan p => Q (.pan p) := by
 obtain ⟨h0, h1, h2, h3, key, h4, h5⟩ := hinv
 dsimp only [fr_all, Fr.satP, Ty.den, PT.den, mSym]
 refine ⟨fun hi => ?_, fun hi => ?_⟩
 ·have hlt : bs < n := of_decide_eq_true hi
  have w1 : IntKind.i64.wrap (2 * bs) = 2 * bs := IntWalk.i64_in _ (by omega)
  have w2 : IntKind.i64.wrap (bs * 2) = bs * 2 := IntWalk.i64_in _ (by omega)
  have hr := blkW_spec (key := key) (lt := ltOf g) (w := 2 * bs.toNat) (n := n.toNat) (by omega) (n.toNat + 1) 0 l (by omega) (by omega) (by omega) ⟨0, by simp⟩ h4 (fun k hk => by omega)
  obtain ⟨p1, p2, p3⟩ := passB_spec (lt := ltOf g) (w := bs.toNat) (n := n.toNat) (l := l) (key := key) (by omega) (by omega) h4 h5
  have hpas : passB (ltOf g) bs.toNat n.toNat l = if (pasI n bs 0 g l).1 + bs.toNat < n.toNat then partB (ltOf g) (pasI n bs 0 g l).1 n.toNat (pasI n bs 0 g l).2 else (pasI n bs 0 g l).2 := rfl
  have hstep : passes (ltOf g) n.toNat n.toNat bs.toNat l = passes (ltOf g) n.toNat n.toNat (bs * 2).toNat (passB (ltOf g) bs.toNat n.toNat l) := by
   obtain ⟨f, hf⟩ : ∃ f, n.toNat = f + 1 := ⟨n.toNat - 1, by omega⟩
   conv => lhs; rw [show passes (ltOf g) n.toNat n.toNat bs.toNat l = passes (ltOf g) n.toNat (f + 1) bs.toNat l by rw [← hf]]
   simp only [passes]
   rw [if_pos (by omega), show (bs * 2).toNat = 2 * bs.toNat by omega]
   exact passes_enough _ _ _ _ (by omega) (by omega) (by omega)
  have hI : InvAll n (bs * 2) g (passB (ltOf g) bs.toNat n.toNat l) := ⟨by omega, h1, by omega, h3.sub fun x hx => p2.mem.1 hx, key, h4.sub fun x hx => p2.mem.1 hx, by rw [show (bs * 2).toNat = 2 * bs.toNat by omega]; exact p1⟩
  have hfin : InvAll n (bs * 2) g (passB (ltOf g) bs.toNat n.toNat l) /\ (n - bs * 2).toNat < (n - bs).toNat /\ InvAll n (bs * 2) g (passB (ltOf g) bs.toNat n.toNat l) /\ Q (Rd.out ((), (passes (ltOf g) n.toNat n.toNat (bs * 2).toNat (passB (ltOf g) bs.toNat n.toNat l), ()))) := ⟨hI, by omega, hI, by rw [← hstep]; exact hq⟩
  rw [w1, w2]
  have hb : (blkW (ltOf g) (2 * bs.toNat) n.toNat (n.toNat + 1) 0 l) = pasI n bs 0 g l := rfl
  rw [hb] at hr
  refine ⟨⟨h0, h1, h2, hlt, Int.le_refl _, by omega, by omega, ⟨0, by simp⟩, h3, key, h4, fun k _ => h5 k⟩, ?_⟩
  have e : (g.1, g.2) = g := rfl
  simp only [e]
  generalize pasI n bs 0 g l = r at hr hpas ⊢
  obtain ⟨⟨c, hc⟩, q2, q3, q4, q5, q6, q7⟩ := hr
  have w3 : IntKind.i64.wrap ((r.1 : Int) + bs) = r.1 + bs := IntWalk.i64_in _ (by omega)
  rw [w3]
  refine ⟨fun hj => ?_, fun hj => ?_⟩
  ·have hj' : (r.1 : Int) + bs < n := of_decide_eq_true hj
   rw [if_pos (by omega)] at hpas
   have hd : r.2.drop r.1 = l.drop r.1 := q6
   have hm1 : 2 * c * bs.toNat = r.1 := by rw [hc, ← Nat.mul_assoc, Nat.mul_comm c 2]
   have hm2 : (2 * c + 1) * bs.toNat = r.1 + bs.toNat := by rw [Nat.succ_mul, hm1]
   have s1 : SortK key (seg r.1 (r.1 + bs.toNat) r.2) := by
    rw [seg_of_drop hd (Nat.le_refl _), ← hm1]
    exact h5 (2 * c)
   have s2 : SortK key (seg (r.1 + bs.toNat) n.toNat r.2) := by
    have : seg (r.1 + bs.toNat) n.toNat r.2 = seg (r.1 + bs.toNat) (r.1 + bs.toNat + bs.toNat) r.2 := by
     unfold seg
     rw [List.take_of_length_le (by omega), List.take_of_length_le (by omega)]
    rw [this, seg_of_drop hd (by omega), ← hm2]
    exact h5 (2 * c + 1)
   refine ⟨⟨by omega, by omega, by omega, by omega, by omega, by simp only [big]; omega, h3.sub fun x hx => q5.mem.1 hx, key, h4.sub fun x hx => q5.mem.1 hx, ?_, ?_⟩, ?_⟩
   ·rw [show ((r.1 : Int) + bs).toNat = r.1 + bs.toNat by omega]
    exact s1
   ·rw [show ((r.1 : Int) + bs).toNat = r.1 + bs.toNat by omega]
    exact s2
   ·rw [hpas] at hfin
    exact hfin
  ·have hj' : ¬ (r.1 : Int) + bs < n := of_decide_eq_false hj
   rw [if_neg (by omega)] at hpas
   rw [hpas] at hfin
   exact hfin
 ·have hge : ¬ bs < n := of_decide_eq_false hi
  have : passes (ltOf g) n.toNat n.toNat bs.toNat l = l := by
   rw [passes_enough _ 0 _ _ (by omega) (by omega) (by omega)]
   rfl
  rw [this] at hq
  exact hq
theorem loopAll : Does Tryz.prog (.loop (loopF Tryz.f144 1)) pt_all.M pt_all FAll := by
 refine Does.loop (n := 63) (id := 2) sem_all (inv := fun x => InvAll x.1.1 x.1.2.2.1 x.1.2.1 x.2.1) (μ := fun x => (x.1.1 - x.1.2.2.1).toNat) ?_ (fun x Q h => h.1)
 rintro ⟨⟨n, g, bs, _⟩, ⟨l, _⟩⟩ hinv Q hq
 exact lawAll n bs g l hinv Q hq.2
noncomputable def ΛStab : Nat -> St -> Option Tr
 | 0 => pt_blk.han CI3.Γ pt_blk.M FBlk
 | _ => pt_all.han CI3.Γ pt_all.M FAll
noncomputable def mStab : Mt := ⟨3, i64, [.d i64, cmpT], [], fun l x => (sortB (ltOf x.2.1) l, ()), fun l x => [x.1 = l.length, (l.length : Int) <= 4611686018427387903, OrdOf x.2.1 l]⟩
noncomputable def fr_stab (l : List Int) (x : denP [.d i64, cmpT]) : Fr (List Int × denL []) :=
 let n := x.1; let g := x.2.1
 let r := blkI n 0 (g.1, g.2) l
 Fr.need (InvBlk n 20 0 20 (g.1, g.2) l)
 (Fr.need ((0 : Int) <= r.1)
  (Fr.need ((r.1 : Int) <= n)
   (Fr.need (n <= (r.2.length : Int))
    (Fr.need ((r.2.length : Int) <= 4611686018427387903)
     (Fr.need (OrdOf (g.1, g.2) r.2)
      (Fr.need (InvAll n 20 (g.1, g.2) (mInsert.f r.2 ((r.1 : Int), n, (g.1, g.2), ())).1)
       (Fr.val (passes (ltOf (g.1, g.2)) n.toNat n.toNat (20 : Int).toNat (mInsert.f r.2 ((r.1 : Int), n, (g.1, g.2), ())).1, ()))))))))
theorem stab_ok : SoundMt Tryz.prog 144 mStab :=
 convMt (mt_sound CI3_ok (Λ := ΛStab) (fn := Tryz.f144) (fr := fr_stab) (e := 3) (T := i64) (ps := [.d i64, cmpT]) (rs := []) (0, (fun _ => (0, ()), fun _ => True), ()) (by kernel_rfl) rfl rfl
  (fun c E hc => lam2f hc (by kernel_rfl) (b0 := loopF Tryz.f144 0) (b1 := loopF Tryz.f144 1) (by kernel_rfl) (by kernel_rfl) (Does.han CI3_ok rfl loopBlk) (Does.han CI3_ok rfl loopAll)) (fun l x => by kernel_rfl)) _ _ fun w F l xs vs _ _ _ hok => by
  obtain ⟨n, g, rfl⟩ : ∃ (n : Int) (g : cmpT.den), xs = (n, g, ()) := ⟨xs.1, xs.2.1, rfl⟩
  have hok' : (n : Int) = (List.length (α := Int) l : Int) /\ (List.length (α := Int) l : Int) <= 4611686018427387903 /\ OrdOf g l := hok
  obtain ⟨h1, h2, h3, key, h4⟩ := hok'
  subst h1
  have hr := blkW_spec (key := key) (lt := ltOf g) (w := 20) (n := List.length (α := Int) l) (by omega) (List.length (α := Int) l + 1) 0 l (by omega) (by omega) rfl ⟨0, by simp⟩ h4 (fun k hk => by omega)
  have hS := stableB_eq h4
  unfold stableB at hS
  have hb : blkI (List.length (α := Int) l : Int) 0 g l = blkW (ltOf g) 20 (List.length (α := Int) l) (List.length (α := Int) l + 1) 0 l := rfl
  dsimp only [fr_stab, Fr.ok, Fr.get, Ty.den, PT.den, mInsert, mStab]
  have e : (g.1, g.2) = g := rfl
  simp only [e, hb]
  simp only at hS
  generalize blkW (ltOf g) 20 (List.length (α := Int) l) (List.length (α := Int) l + 1) 0 l = r at hr hS ⊢
  obtain ⟨p1, p2, p3⟩ := hr.last h4
  have q2 := hr.le
  have q4 := hr.len
  have hm : ∀ x ∈ r.2, x ∈ l := fun x hx => hr.same.mem.1 hx
  have hm2 : ∀ x ∈ partB (ltOf g) r.1 (List.length (α := Int) l) r.2, x ∈ l := fun x hx => p2.mem.1 hx
  refine ⟨⟨⟨rfl, h2, rfl, by omega, by omega, rfl, h3, key, h4⟩, by omega, by omega, by omega, by omega, ⟨h3.sub hm, key, h4.sub hm⟩, ⟨congrArg (fun n : Nat => (n : Int)) p3.symm, h2, by omega, h3.sub hm2, key, h4.sub hm2, p1⟩, trivial⟩, ?_⟩
  show (passes (ltOf g) (List.length (α := Int) l) (List.length (α := Int) l) 20 (partB (ltOf g) r.1 (List.length (α := Int) l) r.2), ()) = (sortB (ltOf g) l, ())
  rw [hS]
noncomputable def CI4 : Cx := cxK [] [] (mtK (cx [] []).Γ 144 mStab)
theorem CI4_ok : CxOK Tryz.prog CI4 := cxK_ok mixed trivial trivial (mtK_ok CI0_ok.ct stab_ok)
noncomputable def mSort : Mt := ⟨3, i64, [cmpT], [], fun l x => (sortB (ltOf x.1) l, ()), fun l x => [(l.length : Int) <= 4611686018427387903, OrdOf x.1 l]⟩
noncomputable def fr_sort (l : List Int) (x : denP [cmpT]) : Fr (List Int × denL []) :=
 Fr.need ((l.length : Int) = l.length) (Fr.need ((l.length : Int) <= 4611686018427387903) (Fr.need (OrdOf (x.1.1, x.1.2) l) (Fr.val ((mStab.f l ((l.length : Int), (x.1.1, x.1.2), ())).1, ()))))
theorem sort_ok : SoundMt Tryz.prog 106 mSort :=
 convMt (mt_sound CI4_ok (Λ := lam0) (fn := Tryz.f106) (fr := fr_sort) (e := 3) (T := i64) (ps := [cmpT]) (rs := []) ((fun _ => (0, ()), fun _ => True), ()) (by kernel_rfl) rfl rfl
  (fun c E _ => lam0_ok c 0) (fun l x => by kernel_rfl)) _ _ fun w F l xs vs _ _ _ hok => by
  obtain ⟨g, rfl⟩ : ∃ g : cmpT.den, xs = (g, ()) := ⟨xs.1, rfl⟩
  exact ⟨⟨rfl, hok.1, hok.2, trivial⟩, rfl⟩
noncomputable def CH2 : Cx := cx [(166, cLess), (145, cNaN)] []
theorem CH2_ok : CxOK Tryz.prog CH2 := cx_ok mixed ⟨less_ok, nan2_ok, trivial⟩ trivial
def srt : List Int -> Bool
 | a :: b :: r => decide (a <= b) && srt (b :: r)
 | _ => true
theorem srt_push : (l : List Int) -> (a b : Int) -> srt (l ++ [a, b]) = (srt (l ++ [a]) && decide (a <= b))
 | [], a, b => by simp [srt]
 | [x], a, b => by simp [srt]
 | x :: y :: l, a, b => by
  have := srt_push (y :: l) a b
  simp only [List.cons_append, srt] at this ⊢
  rw [this, Bool.and_assoc]
abbrev pt_srt : Pt := ⟨21, 0, ⟨[(0, .d ints), (3, .d i64)], []⟩, ⟨[], []⟩, ⟨[(2, .d .bool)], []⟩⟩
def fr_srt (x : pt_srt.M.X) : Fr pt_srt.Out :=
 Fr.br (decide (x.1.2.1 > 0))
  (Fr.need (0 <= x.1.2.1 /\ x.1.2.1 < x.1.1.length)
   (Fr.need (0 <= IntKind.i64.wrap (x.1.2.1 - 1) /\ IntKind.i64.wrap (x.1.2.1 - 1) < x.1.1.length)
    (Fr.br (cLess.f (x.1.1.getD x.1.2.1.toNat i64.dflt, x.1.1.getD (IntKind.i64.wrap (x.1.2.1 - 1)).toNat i64.dflt, ())).1
     (Fr.val (Rd.back ((false, ()), ())))
     (Fr.val (Rd.next ((x.1.1, IntKind.i64.wrap (x.1.2.1 - 1), ()), ()))))))
  (Fr.val (Rd.out ((), ())))
theorem sem_srt : Does Tryz.prog (loopF Tryz.f155 0) pt_srt.M pt_srt fr_srt :=
 Does.of_run CH2_ok (bs := 0) (Λ := lam0) rfl rfl rfl (fun E => lam0_ok _ 0) (fun x => by kernel_rfl)
def InS (l : List Int) (i : Int) : Prop := -1 <= i /\ i < l.length /\ (l.length : Int) <= 9223372036854775807
def FSrt (x : pt_srt.M.X) : Fr pt_srt.Out :=
 Fr.need (InS x.1.1 x.1.2.1) (Fr.br (srt (x.1.1.take (x.1.2.1 + 1).toNat)) (Fr.val (Rd.out ((), ()))) (Fr.val (Rd.back ((false, ()), ()))))
theorem srt_take (l : List Int) (k : Nat) (h : k + 1 < l.length) : srt (l.take (k + 2)) = (srt (l.take (k + 1)) && decide (l[k] <= l[k + 1])) := by
 have e1 : l.take (k + 1) = l.take k ++ [l[k]] := (List.take_append_getElem (show k < l.length by omega)).symm
 have e2 : l.take (k + 2) = l.take k ++ [l[k], l[k + 1]] := by
  have e3 : l.take (k + 2) = l.take (k + 1) ++ [l[k + 1]] := (List.take_append_getElem h).symm
  rw [e3, e1, List.append_assoc]
  rfl
 rw [e2, e1, srt_push]
theorem lawSrt (l : List Int) (i : Int) (hinv : InS l i) (Q : pt_srt.Out -> Prop)
  (hq : (Fr.br (srt (l.take (i + 1).toNat)) (Fr.val (Rd.out ((), ()))) (Fr.val (Rd.back ((false, ()), ()))) : Fr pt_srt.Out).satP Q) :
  (fr_srt ((l, i, ()), ())).satP fun
   | .next x' => InS x'.1.1 x'.1.2.1 /\ x'.1.2.1.toNat < i.toNat /\ (FSrt x').satP Q
   | .out y => Q (.out y)
   | .back z => Q (.back z)
   | .pan p => Q (.pan p) := by
 obtain ⟨h1, h2, h3⟩ := hinv
 refine ⟨fun hi => ?_, fun hi => ?_⟩
 ·have hi' : i > 0 := of_decide_eq_true hi
  obtain ⟨k, hk⟩ : ∃ k : Nat, i = k + 1 := ⟨(i - 1).toNat, by omega⟩
  subst hk
  have hw : IntKind.i64.wrap ((k : Int) + 1 - 1) = k := by rw [show (k : Int) + 1 - 1 = k by omega]; exact IntWalk.i64_in _ (by omega)
  have hl : k + 1 < l.length := by omega
  have g1 : l.getD ((k : Int) + 1).toNat i64.dflt = l[k + 1] := by
   rw [show ((k : Int) + 1).toNat = k + 1 by omega, List.getD_eq_getElem?_getD, List.getElem?_eq_getElem hl]; rfl
  have g2 : l.getD (k : Int).toNat i64.dflt = l[k] := by
   rw [show (k : Int).toNat = k by omega, List.getD_eq_getElem?_getD, List.getElem?_eq_getElem (show k < l.length by omega)]; rfl
  have e1 : ((k : Int) + 1 + 1).toNat = k + 2 := by omega
  rw [e1, srt_take l k hl] at hq
  dsimp only [fr_srt, Fr.satP, cLess]
  rw [hw, g1, g2]
  have hI : InS l k := ⟨by omega, by omega, h3⟩
  refine ⟨⟨(show (0 : Int) <= (k : Int) + 1 by omega), h2⟩, ⟨(show (0 : Int) <= (k : Int) by omega), (show (k : Int) < (l.length : Int) by omega)⟩, fun hc => ?_, fun hc => ?_⟩
  ·have hc' : ¬ l[k] <= l[k + 1] := by have := of_decide_eq_true hc; exact Int.not_le.2 this
   rw [decide_eq_false hc', Bool.and_false] at hq
   exact hq.2 rfl
  ·have hc' : l[k] <= l[k + 1] := by have := of_decide_eq_false hc; exact Int.not_lt.1 this
   rw [decide_eq_true hc', Bool.and_true] at hq
   exact ⟨hI, by omega, hI, by rw [show ((k : Int) + 1).toNat = k + 1 by omega]; exact hq⟩
 ·have hi' : ¬ i > 0 := of_decide_eq_false hi
  have hle : (i + 1).toNat <= 1 := by omega
  have : srt (l.take (i + 1).toNat) = true := by
   rcases Nat.lt_or_ge (i + 1).toNat 1 with h | h
   ·rw [show (i + 1).toNat = 0 by omega]; rfl
   ·rw [show (i + 1).toNat = 1 by omega]
    cases l <;> rfl
  rw [this] at hq
  exact hq.1 rfl
theorem loopSrt : Does Tryz.prog (.loop (loopF Tryz.f155 0)) pt_srt.M pt_srt FSrt := by
 refine Does.loop (n := 21) (id := 0) sem_srt (inv := fun x => InS x.1.1 x.1.2.1) (μ := fun x => x.1.2.1.toNat) ?_ (fun x Q h => h.1)
 rintro ⟨⟨l, i, _⟩, _⟩ hinv Q hq
 exact lawSrt l i hinv Q hq.2
noncomputable def ΛSrt : Nat -> St -> Option Tr := fun _ => pt_srt.han CH2.Γ pt_srt.M FSrt
def cSorted : Ct := ⟨[.d ints], [.bool], fun x => (srt x.1, ()), fun _ => []⟩
def fr_sorted (x : denP [.d ints]) : Fr (denL [.bool]) :=
 Fr.need (InS x.1 (IntKind.i64.wrap (x.1.length - 1))) (Fr.br (srt (x.1.take (IntKind.i64.wrap (x.1.length - 1) + 1).toNat)) (Fr.val (true, ())) (Fr.val (false, ())))
theorem sorted_ok : SoundCt Tryz.prog 155 cSorted :=
 conv (fn_sound CH2_ok (Λ := ΛSrt) (fn := Tryz.f155) (fr := fr_sorted) (ps := [.d ints]) (rs := [.bool]) ([], ()) (by kernel_rfl)
  (fun c E hc => lam1f hc (by kernel_rfl) (b := loopF Tryz.f155 0) (by kernel_rfl) (Does.han CH2_ok rfl loopSrt)) (fun x => by kernel_rfl)) _ _ fun w F xs vs hr _ => by
  obtain ⟨l, _⟩ := xs
  obtain ⟨v, vs', rfl, hv, _⟩ := hr
  have hwf := RepT.wf hv.2.2
  have hlen : l.length <= maxLen := hwf.1
  have hw : IntKind.i64.wrap ((l.length : Int) - 1) = l.length - 1 := IntWalk.i64_in _ (by simp only [maxLen] at hlen; omega)
  have ht : l.take ((l.length : Int) - 1 + 1).toNat = l := List.take_of_length_le (by omega)
  refine ⟨⟨?_, fun _ => trivial, fun _ => trivial⟩, ?_⟩
  ·show InS l (IntKind.i64.wrap ((l.length : Int) - 1))
   rw [hw]
   simp only [maxLen] at hlen
   exact ⟨by omega, by omega, by omega⟩
  ·show (if srt (l.take (IntKind.i64.wrap ((l.length : Int) - 1) + 1).toNat) = true then (true, ()) else (false, ())) = (srt l, ())
   rw [hw, ht]
   cases srt l <;> rfl
noncomputable def CH3 : Cx := cx [(155, cSorted), (145, cNaN)] []
theorem CH3_ok : CxOK Tryz.prog CH3 := cx_ok mixed ⟨sorted_ok, nan2_ok, trivial⟩ trivial
def fr_coverR (x : denP [.d coverT]) : Fr (denL [.bool]) :=
 Fr.br (bif decide (x.1.1 ≥ 0) then decide (x.1.1 < 8) else false) (Fr.br (bif decide (x.1.2.2.2.2.1 ≥ 1) then decide (x.1.2.2.2.2.1 <= 10000) else false) (Fr.br (cSorted.f ([0, x.1.2.2.2.1, IntKind.i64.wrap (x.1.2.1 - 1), IntKind.i64.wrap (x.1.2.2.1 - 1), 999999999999999], ())).1 (Fr.val (decide (x.1.2.2.2.1 < x.1.2.1), ())) (Fr.val (false, ()))) (Fr.val (false, ()))) (Fr.val (false, ()))
theorem fr_coverR_ok : SoundCt Tryz.prog 132 ⟨[.d coverT], [.bool], fun xs => (fr_coverR xs).get, fun xs => [(fr_coverR xs).ok]⟩ :=
 fn_sound CH3_ok (Λ := lam0) (fn := Tryz.f132) (dfP [.d coverT]) (by kernel_rfl) (fun c E _ => lam0_ok c 0) (fun x => by kernel_rfl)
def fr_cmp (x : denP [.d i64, .d i64]) : Fr (denL [i64]) :=
 Fr.br (cNaN.f (x.1, ())).1 (Fr.br (cNaN.f (x.2.1, ())).1 (Fr.val (0, ())) (Fr.val (-1, ()))) (Fr.br (cNaN.f (x.2.1, ())).1 (Fr.val (1, ())) (Fr.br (decide (x.1 < x.2.1)) (Fr.val (-1, ())) (Fr.br (decide (x.1 > x.2.1)) (Fr.val (1, ())) (Fr.val (0, ())))))
theorem fr_cmp_ok : SoundCt Tryz.prog 108 ⟨[.d i64, .d i64], [i64], fun xs => (fr_cmp xs).get, fun xs => [(fr_cmp xs).ok]⟩ :=
 fn_sound CH3_ok (Λ := lam0) (fn := Tryz.f108) (dfP [.d i64, .d i64]) (by kernel_rfl) (fun c E _ => lam0_ok c 0) (fun x => by kernel_rfl)
def fr_inS (x : denP [.d spanT, .d i64]) : Fr (denL [.bool]) :=
 Fr.val (bif decide (x.2.1 ≥ (cKept.f ((x.1.1, x.1.2.1, ()), ())).1.1) then decide (x.2.1 < (cKept.f ((x.1.1, x.1.2.1, ()), ())).1.2.1) else false, ())
theorem fr_inS_ok : SoundCt Tryz.prog 67 ⟨[.d spanT, .d i64], [.bool], fun xs => (fr_inS xs).get, fun xs => [(fr_inS xs).ok]⟩ :=
 fn_sound CH1_ok (Λ := lam0) (fn := Tryz.f67) (dfP [.d spanT, .d i64]) (by kernel_rfl) (fun c E _ => lam0_ok c 0) (fun x => by kernel_rfl)
def fr_manyS (x : denP [.d spanT]) : Fr (denL [i64]) :=
 Fr.val (IntKind.i64.wrap ((cKept.f ((x.1.1, x.1.2.1, ()), ())).1.2.1 - (cKept.f ((x.1.1, x.1.2.1, ()), ())).1.1), ())
theorem fr_manyS_ok : SoundCt Tryz.prog 121 ⟨[.d spanT], [i64], fun xs => (fr_manyS xs).get, fun xs => [(fr_manyS xs).ok]⟩ :=
 fn_sound CH1_ok (Λ := lam0) (fn := Tryz.f121) (dfP [.d spanT]) (by kernel_rfl) (fun c E _ => lam0_ok c 0) (fun x => by kernel_rfl)
theorem i64wf {n : Int} (h : Wf i64 n) : -9223372036854775808 <= n /\ n <= 9223372036854775807 := h
theorem wrap_less {n : Int} (h : -9223372036854775808 <= n /\ n <= 9223372036854775807) : (n = -9223372036854775808 /\ IntKind.i64.wrap (n - 1) = 9223372036854775807) ∨ (-9223372036854775808 < n /\ IntKind.i64.wrap (n - 1) = n - 1) := by
 by_cases hn : n = -9223372036854775808
 ·left
  subst hn
  exact ⟨rfl, by kernel_rfl⟩
 ·right
  exact ⟨by omega, i64w (by omega)⟩
theorem coverR_b (p l g d s : Int) (hl : -9223372036854775808 <= l /\ l <= 9223372036854775807) (hg : -9223372036854775808 <= g /\ g <= 9223372036854775807) :
  (srt [0, d, IntKind.i64.wrap (l - 1), IntKind.i64.wrap (g - 1), 999999999999999] && decide (d < l)) = decide (0 <= d /\ d < l /\ l <= g /\ g <= 1000000000000000) := by
 rw [Bool.eq_iff_iff]
 simp only [srt, Bool.and_eq_true, decide_eq_true_eq]
 rcases wrap_less hl with ⟨h1, h2⟩ | ⟨h1, h2⟩ <;> rcases wrap_less hg with ⟨h3, h4⟩ | ⟨h3, h4⟩ <;> rw [h2, h4]
 ·omega
 ·omega
 ·omega
 ·constructor
  ·rintro ⟨⟨a1, a2, a3, a4, _⟩, a5⟩
   exact ⟨a1, a5, by omega, by omega⟩
  ·rintro ⟨a1, a2, a3, a4⟩
   exact ⟨⟨a1, by omega, by omega, by omega, trivial⟩, a2⟩
theorem cover_ok : SoundCt Tryz.prog 132 cCover :=
 conv fr_coverR_ok _ _ (fun w F x vs hr _ => by
  obtain ⟨⟨p, l, g, d, s, _⟩, _⟩ := x
  obtain ⟨v, vs', rfl, hv, _⟩ := hr
  have hwf := RepT.wf hv.2.2
  refine ⟨by simp [conj, Fr.ok, fr_coverR], ?_⟩
  have hb := coverR_b p l g d s (i64wf hwf.2.1) (i64wf hwf.2.2.1)
  show (if (bif decide (p ≥ 0) then decide (p < 8) else false) = true then (if (bif decide (s ≥ 1) then decide (s <= 10000) else false) = true then (if srt [0, d, IntKind.i64.wrap (l - 1), IntKind.i64.wrap (g - 1), 999999999999999] = true then (decide (d < l), ()) else (false, ())) else (false, ())) else (false, ())) = (coverB p l g d s, ())
  have h1 : (if srt [0, d, IntKind.i64.wrap (l - 1), IntKind.i64.wrap (g - 1), 999999999999999] = true then ((decide (d < l), ()) : Bool × Unit) else (false, ())) = (decide (0 <= d /\ d < l /\ l <= g /\ g <= 1000000000000000), ()) := by
   rw [← hb]
   cases srt [0, d, IntKind.i64.wrap (l - 1), IntKind.i64.wrap (g - 1), 999999999999999] <;> rfl
  rw [h1]
  have h2 : ∀ (a b c : Bool), (if a = true then (if b = true then ((c, ()) : Bool × Unit) else (false, ())) else (false, ())) = (a && (b && c), ()) := fun a b c => by cases a <;> cases b <;> rfl
  rw [h2]
  congr 1
  rw [Bool.eq_iff_iff]
  simp only [coverB, Bool.cond_false_right, Bool.and_eq_true, decide_eq_true_eq]
  exact ⟨fun ⟨⟨a1, a2⟩, ⟨a3, a4⟩, a5⟩ => ⟨a1, a2, a3, a4, a5⟩, fun ⟨a1, a2, a3, a4, a5⟩ => ⟨⟨a1, a2⟩, ⟨a3, a4⟩, a5⟩⟩)
def cmpZ (a b : Int) : Int := if a < b then -1 else if b < a then 1 else 0
def cCmp : Ct := ⟨[.d i64, .d i64], [i64], fun x => (cmpZ x.1 x.2.1, ()), fun _ => []⟩
theorem cmp_ok : SoundCt Tryz.prog 108 cCmp :=
 conv fr_cmp_ok _ _ (fun _ _ x _ _ _ => by
  obtain ⟨a, b, _⟩ := x
  refine ⟨by simp [conj, Fr.ok, fr_cmp], ?_⟩
  show (if decide (a < b) = true then ((-1 : Int), ()) else if decide (a > b) = true then (1, ()) else (0, ())) = (if a < b then -1 else if b < a then 1 else 0, ())
  by_cases h1 : a < b
  ·rw [if_pos (decide_eq_true h1), if_pos h1]
  ·rw [if_neg (by simp [h1]), if_neg h1]
   by_cases h2 : b < a
   ·rw [if_pos (decide_eq_true h2), if_pos h2]
   ·rw [if_neg (by simpa using h2), if_neg h2])
theorem inS_b (a b d : Int) : (bif decide (d ≥ (keptS (a, b, ())).1) then decide (d < (keptS (a, b, ())).2.1) else false) = inB a b d := by
 unfold keptS
 by_cases h : fullS (a, b, ()) = true
 ·rw [if_pos h]
  obtain ⟨h1, h2, h3⟩ := fullS_iff.1 h
  simp only [Bool.cond_false_right, inB]
  rw [Bool.eq_iff_iff]
  simp only [Bool.and_eq_true, decide_eq_true_eq, Ty.den, PT.den]
  constructor
  ·rintro ⟨a1, a2⟩; exact ⟨h1, h3, a1, a2⟩
  ·rintro ⟨_, _, a1, a2⟩; exact ⟨a1, a2⟩
 ·rw [if_neg h]
  have h' : ¬ (1 <= a /\ a < b /\ b <= 292195) := fun hh => h (fullS_iff.2 hh)
  simp only [Bool.cond_false_right, inB]
  rw [Bool.eq_iff_iff]
  simp only [Bool.and_eq_true, decide_eq_true_eq]
  constructor
  ·rintro ⟨a1, a2⟩
   have a1' : (0 : Int) <= d := a1
   have a2' : d < (0 : Int) := a2
   omega
  ·rintro ⟨a1, a2, a3, a4⟩
   exact absurd ⟨a1, by omega, a2⟩ h'
theorem inS_ok : SoundCt Tryz.prog 67 cIn :=
 conv fr_inS_ok _ _ (fun _ _ x _ _ _ => by
  obtain ⟨⟨a, b, _⟩, d, _⟩ := x
  refine ⟨by simp [conj, Fr.ok, fr_inS], ?_⟩
  exact congrArg (·, ()) (inS_b a b d))
def manyS (a b : Int) : Int := if fullS (a, b, ()) = true then b - a else 0
def cManyS : Ct := ⟨[.d spanT], [i64], fun x => (manyS x.1.1 x.1.2.1, ()), fun _ => []⟩
theorem manyS_ok : SoundCt Tryz.prog 121 cManyS :=
 conv fr_manyS_ok _ _ (fun _ _ x _ _ _ => by
  obtain ⟨⟨a, b, _⟩, _⟩ := x
  refine ⟨by simp [conj, Fr.ok, fr_manyS], ?_⟩
  show (IntKind.i64.wrap ((keptS (a, b, ())).2.1 - (keptS (a, b, ())).1), ()) = (manyS a b, ())
  unfold keptS manyS
  by_cases h : fullS (a, b, ()) = true
  ·rw [if_pos h, if_pos h]
   obtain ⟨h1, h2, h3⟩ := fullS_iff.1 h
   have hw : IntKind.i64.wrap (b - a) = b - a := i64w (by omega)
   exact congrArg (·, ()) hw
  ·rw [if_neg h, if_neg h]
   rfl)
end Go.Proofs.YtplkgghjldndkaaGreat
