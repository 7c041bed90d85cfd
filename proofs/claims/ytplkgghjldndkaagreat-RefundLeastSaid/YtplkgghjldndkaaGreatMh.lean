/-
  Parts of the proof, one behind the other: L13, L14, L15.
-/
import Derived.Test.YtplkgghjldndkaaGreatMg
namespace Go.Proofs.YtplkgghjldndkaaGreat
open Go Go.Ab Go.RowKit Go.Proofs
theorem chL_add (h : histT.den) (c : changeT.den) : chL (addCh h c) = chL h ++ [c] := by
 show ([] ++ chL h) ++ [c] = _
 rw [List.nil_append]
theorem chsO_mem' {h : histT.den} {c : changeT.den} : c ∈ chsO h ↔ c ∈ chL h := by
 have hk := chsO_same h (dayC c)
 have h1 : ∀ l : List changeT.den, c ∈ l ↔ c ∈ l.filter (fun x => dayC x == dayC c) := fun l => by
  rw [List.mem_filter]
  exact ⟨fun hh => ⟨hh, beq_self_eq_true _⟩, fun hh => hh.1⟩
 rw [h1 (chsO h), h1 (chL h)]
 constructor
 ·intro hh
  first | rw [hk]; exact hh | rw [← hk]; exact hh
 ·intro hh
  first | rw [← hk]; exact hh | rw [hk]; exact hh
theorem cond_split (day : Int) (l : List changeT.den) (k : Int) : (l.filter fun x => decide (x.2.1 <= day)).filter (fun x => dayC x == k) = if k <= day then l.filter (fun x => dayC x == k) else [] := by
 rw [List.filter_filter]
 split
 ·rename_i h
  refine List.filter_congr fun x _ => ?_
  by_cases hx : dayC x = k
  ·have hx' : x.2.1 = k := hx
   rw [hx', decide_eq_true h, Bool.and_true]
  ·have : (dayC x == k) = false := beq_eq_false_iff_ne.2 hx
   rw [this, Bool.false_and]
 ·rename_i h
  refine List.filter_eq_nil_iff.2 fun x _ => ?_
  by_cases hx : dayC x = k
  ·have hx' : x.2.1 = k := hx
   rw [hx', decide_eq_false h, Bool.and_false]
   decide
  ·have : (dayC x == k) = false := beq_eq_false_iff_ne.2 hx
   rw [this, Bool.false_and]
   decide
theorem cond_split2 (day : Int) (l : List changeT.den) (k : Int) : (l.filter fun x => decide (day < x.2.1)).filter (fun x => dayC x == k) = if k <= day then [] else l.filter (fun x => dayC x == k) := by
 rw [List.filter_filter]
 split
 ·rename_i h
  refine List.filter_eq_nil_iff.2 fun x _ => ?_
  by_cases hx : dayC x = k
  ·have hx' : x.2.1 = k := hx
   rw [hx', decide_eq_false (Int.not_lt.2 h), Bool.and_false]
   decide
  ·have : (dayC x == k) = false := beq_eq_false_iff_ne.2 hx
   rw [this, Bool.false_and]
   decide
 ·rename_i h
  refine List.filter_congr fun x _ => ?_
  by_cases hx : dayC x = k
  ·have hx' : x.2.1 = k := hx
   rw [hx', decide_eq_true (Int.not_le.1 h), Bool.and_true]
  ·have : (dayC x == k) = false := beq_eq_false_iff_ne.2 hx
   rw [this, Bool.false_and]
def upL (day : Int) (l : List changeT.den) : List changeT.den := l.filter fun x => decide (x.2.1 <= day)
def behL (day : Int) (l : List changeT.den) : List changeT.den := l.filter fun x => decide (day < x.2.1)
theorem upL_le {day : Int} {l : List changeT.den} : ∀ x ∈ upL day l, x.2.1 <= day := fun _ hx => of_decide_eq_true (List.mem_filter.1 hx).2
theorem behL_lt {day : Int} {l : List changeT.den} : ∀ x ∈ behL day l, day < x.2.1 := fun _ hx => of_decide_eq_true (List.mem_filter.1 hx).2
theorem sort_three {day : Int} {l m : List changeT.den} (hl : SortK dayC l) (hm : ∀ x ∈ m, x.2.1 = day) : SortK dayC (upL day l ++ (m ++ behL day l)) := by
 unfold SortK
 refine List.pairwise_append.2 ⟨hl.filter _, List.pairwise_append.2 ⟨?_, hl.filter _, fun x hx y hy => ?_⟩, fun x hx y hy => ?_⟩
 ·refine List.Pairwise.imp_of_mem (R := fun _ _ => True) (fun {a b} ha hb _ => ?_) (List.pairwise_of_forall (fun _ _ => trivial))
  show a.2.1 <= b.2.1
  rw [hm a ha, hm b hb]
  exact Int.le_refl _
 ·show x.2.1 <= y.2.1
  rw [hm x hx]
  exact Int.le_of_lt (behL_lt y hy)
 ·show x.2.1 <= y.2.1
  have h1 := upL_le x hx
  rcases List.mem_append.1 hy with hy | hy
  ·rw [hm y hy]
   exact h1
  ·exact Int.le_trans h1 (Int.le_of_lt (behL_lt y hy))
theorem chsO_add (h : histT.den) (c : changeT.den) : chsO (addCh h c) = upL c.2.1 (chsO h) ++ ([c] ++ behL c.2.1 (chsO h)) := by
 refine SameK.eq (key := dayC) (chsO_sortK _) (sort_three (m := [c]) (chsO_sortK h) (fun x hx => by rw [List.mem_singleton.1 hx])) fun k => ?_
 have h1 : (chsO (addCh h c)).filter (fun x => dayC x == k) = (chL h ++ [c]).filter (fun x => dayC x == k) := by
  have := chsO_same (addCh h c) k
  rw [chL_add] at this
  first | exact this | exact this.symm
 have h2 : (chsO h).filter (fun x => dayC x == k) = (chL h).filter (fun x => dayC x == k) := by
  have := chsO_same h k
  first | exact this | exact this.symm
 rw [h1, List.filter_append, List.filter_append, List.filter_append, ← h2]
 unfold upL behL
 rw [cond_split, cond_split2]
 by_cases hk : k <= c.2.1
 ·rw [if_pos hk, if_pos hk, List.append_nil]
 ·rw [if_neg hk, if_neg hk, List.nil_append]
  have : [c].filter (fun x => dayC x == k) = [] := by
   refine List.filter_eq_nil_iff.2 fun x hx => ?_
   rw [List.mem_singleton.1 hx]
   have : (dayC c == k) = false := beq_eq_false_iff_ne.2 fun he => hk (by rw [← he]; exact Int.le_refl _)
   rw [this]
   decide
  rw [this, List.append_nil, List.nil_append]
def lastT (l : List changeT.den) : Option changeT.den := l.reverse.find? isT
theorem turnG_last (h : histT.den) (l : List Int) : (k : Nat) -> k <= l.length -> (turnG h l k).map (chAt h) = lastT ((l.take k).map (chAt h))
 | 0, _ => rfl
 | k + 1, hk => by
  have hkl : k < l.length := by omega
  have ht : l.take (k + 1) = l.take k ++ [l.getD k 0] := by rw [List.take_add_one, List.getElem?_eq_getElem hkl, List.getD_eq_getElem?_getD, List.getElem?_eq_getElem hkl]; rfl
  have ih := turnG_last h l k (by omega)
  rw [ht, List.map_append]
  unfold lastT at ih ⊢
  rw [List.reverse_append]
  show _ = List.find? isT (chAt h (l.getD k 0) :: ((l.take k).map (chAt h)).reverse)
  unfold turnG
  by_cases hT : isT (chAt h (l.getD k 0)) = true
  ·rw [if_pos hT, List.find?_cons_of_pos hT]
   rfl
  ·rw [if_neg hT, List.find?_cons_of_neg hT, ih]
theorem turnO_last (h : histT.den) : (turnO h).map (chAt h) = lastT (chsO h) := by
 unfold turnO
 rw [turnG_last h (orderL h) _ (Nat.le_refl _), List.take_length]
 rfl
theorem lastT_none {l : List changeT.den} (h : ∀ x ∈ l, isT x = false) : lastT l = none :=
 List.find?_eq_none.2 fun x hx => by rw [h x (List.mem_reverse.1 hx)]; decide
theorem lastT_mid {a b : List changeT.den} {c : changeT.den} (hc : isT c = true) (hb : ∀ x ∈ b, isT x = false) : lastT (a ++ c :: b) = some c := by
 unfold lastT
 rw [List.reverse_append, List.reverse_cons, List.append_assoc]
 rw [List.find?_append]
 have : List.find? isT b.reverse = none := lastT_none hb
 rw [this]
 show List.find? isT (c :: a.reverse) = some c
 exact List.find?_cons_of_pos hc
theorem steady_iff {h : histT.den} : steadyB h = true ↔ ∀ x ∈ chL h, isT x = false := by
 unfold steadyB
 rw [Bool.not_eq_true', ← Bool.not_eq_true, List.any_eq_true]
 constructor
 ·intro hh x hx
  cases hT : isT x with
  | false => rfl
  | true => exact absurd ⟨x, hx, hT⟩ hh
 ·rintro hh ⟨x, hx, hT⟩
  rw [hh x hx] at hT
  cases hT
theorem steady_ord {h : histT.den} (hs : steadyB h = true) : ∀ x ∈ chsO h, isT x = false := fun x hx => steady_iff.1 hs x (chsO_mem'.1 hx)
theorem steady_turn {h : histT.den} (hs : steadyB h = true) : turnO h = none := by
 have := turnO_last h
 rw [lastT_none (steady_ord hs)] at this
 cases ho : turnO h with
 | none => rfl
 | some a => rw [ho] at this; cases this
theorem chAt_lt {h : histT.den} {c : changeT.den} {a : Int} (h0 : 0 <= a) (ha : a < ((chL h).length : Int)) : chAt (addCh h c) a = chAt h a := by
 unfold chAt
 rw [chL_add, List.getD_eq_getElem?_getD, List.getD_eq_getElem?_getD, List.getElem?_append_left (by omega)]
theorem chAt_end {h : histT.den} {c : changeT.den} : chAt (addCh h c) ((chL h).length : Int) = c := by
 unfold chAt
 rw [chL_add, Int.toNat_natCast, List.getD_eq_getElem?_getD, List.getElem?_append_right (Nat.le_refl _)]
 simp
theorem turn_add {h : histT.den} {c : changeT.den} (hs : steadyB h = true) (hc : isT c = true) : turnO (addCh h c) = some ((chL h).length : Int) := by
 have hl := turnO_last (addCh h c)
 have hb : ∀ x ∈ behL c.2.1 (chsO h), isT x = false := fun x hx => steady_ord hs x (List.mem_filter.1 hx).1
 rw [chsO_add, show [c] ++ behL c.2.1 (chsO h) = c :: behL c.2.1 (chsO h) from rfl, lastT_mid hc hb] at hl
 cases ho : turnO (addCh h c) with
 | none => rw [ho] at hl; cases hl
 | some a =>
  obtain ⟨⟨a0, a1⟩, hT⟩ := turnO_mem ho
  rw [chL_add, List.length_append] at a1
  simp only [List.length_cons, List.length_nil] at a1
  by_cases hlt : a < ((chL h).length : Int)
  ·exfalso
   rw [chAt_lt a0 hlt] at hT
   have hm : chAt h a ∈ chL h := chAt_mem ⟨a0, hlt⟩
   rw [steady_iff.1 hs _ hm] at hT
   cases hT
  ·congr 1
   omega
theorem without_add {h : histT.den} {c : changeT.den} : without (addCh h c) (chL h).length = h := by
 unfold without
 rw [chL_add, List.take_append_of_le_length (Nat.le_refl _), List.take_length, List.drop_of_length_le (by simp), List.append_nil]
 rfl
theorem doesK_flag {k : Core} {c : changeT.den} (hc : isT c = false) : (doesK k c).1 = k.1 := by
 unfold isT at hc
 rw [Bool.or_eq_false_iff] at hc
 have h3 : ¬ c.2.2.1 = 3 := beq_eq_false_iff_ne.1 hc.1
 have h4 : ¬ c.2.2.1 = 4 := beq_eq_false_iff_ne.1 hc.2
 unfold doesK
 rw [if_neg h3, if_neg h4]
 split
 ·rfl
 ·split <;> rfl
theorem hold_flag {d : Int} : {l : List changeT.den} -> (∀ x ∈ l, isT x = false) -> (k : Core) -> (holdK d l k).1 = k.1
 | [], _, _ => rfl
 | c :: l, h, k => by
  simp only [holdK]
  rw [hold_flag (fun x hx => h x (List.mem_cons_of_mem _ hx))]
  split
  ·rfl
  ·exact doesK_flag (h c (by simp))
theorem hold_off {d : Int} {a b : List changeT.den} {c : changeT.den} (hc : c.2.2.1 = 3) (hd : c.2.1 <= d) (hb : ∀ x ∈ b, isT x = false) (k : Core) : (holdK d (a ++ c :: b) k).1 = false := by
 rw [holdK_append d k]
 simp only [holdK]
 rw [if_neg (Int.not_lt.2 hd), hold_flag hb]
 unfold doesK
 rw [if_neg (by rw [hc]; decide), if_neg (by rw [hc]; decide), if_pos hc]
theorem st_off {h : histT.den} {c : changeT.den} (hs : steadyB h = true) (hc : c.2.2.1 = 3) {d : Int} (hd : c.2.1 <= d) : (stOf (addCh h c) d).1 = false := by
 unfold stOf
 rw [chsO_add]
 exact hold_off hc hd (fun x hx => steady_ord hs x (List.mem_filter.1 hx).1) _
theorem putF_ok {h : histT.den} {c : changeT.den} (hp : (putF h c).2 = 0) : changeB c = true /\ inB h.2.2.1.1.1 h.2.2.1.1.2.1 c.2.1 = true /\ (chL h).length < 2000 /\ (putF h c).1 = addCh h c := by
 unfold putF at *
 split at hp
 ·rename_i hc
  rw [if_pos hc]
  split at hp
  ·cases hp
  ·rename_i h1
   rw [if_neg h1]
   split at hp
   ·cases hp
   ·rename_i h2
    rw [if_neg h2]
    exact ⟨hc.1, hc.2, Nat.lt_of_not_le h2, rfl⟩
 ·cases hp
theorem inB_spec {a b d : Int} (h : inB a b d = true) : 1 <= a /\ b <= 292195 /\ a <= d /\ d < b := by
 unfold inB at h
 exact of_decide_eq_true h
theorem keptF_steady {h : histT.den} (t : tarT.den) (hs : steadyB h = true) : keptF h t = (0, (ofF h t).2) := by
 unfold keptF
 rw [steady_turn hs]
 by_cases c : (ofF h t).2 = 0
 ·rw [if_pos c, c]
 ·rw [if_neg c]
theorem due_told {h : histT.den} {t : tarT.den} (hd : (dueF h t).2 = 0) : (keptF h t).2 = 0 /\ (ofF h t).2 = 0 /\ (UptoF (ofF h t).1 292195).2 = 0 /\ (dueF h t).1 = earn (ofF h t).1 292195 + (keptF h t).1 := by
 unfold dueF at *
 split at hd
 ·rename_i h1
  rw [if_pos h1]
  split at hd
  ·rename_i h2
   rw [if_pos h2]
   have h0 : (ofF h t).2 = 0 := by
    unfold keptF at h1
    split at h1
    ·rename_i h0
     exact h0
    ·exact h1
   refine ⟨h1, h0, h2, ?_⟩
   have hU := (upto_told h2).2.2.2 292195
   unfold dueW at *
   split at hd
   ·cases hd
   ·rename_i h3
    rw [if_neg h3, hU]
    rfl
  ·rename_i h2
   exact absurd hd h2
 ·rename_i h1
  exact absurd hd h1
theorem due_bad {h : histT.den} {t : tarT.den} (hd : (dueF h t).2 ≠ 0) : (dueF h t).1 = 0 := by
 unfold dueF dueW at *
 split at hd
 ·rename_i h1
  rw [if_pos h1]
  split at hd
  ·rename_i h2
   rw [if_pos h2]
   split at hd
   ·rename_i h3
    rw [if_pos h3]
   ·exact absurd rfl hd
  ·rename_i h2
   rw [if_neg h2]
 ·rename_i h1
  rw [if_neg h1]
theorem given_bad {h : histT.den} {t : tarT.den} {c : changeT.den} (hd : (givenF h t c).2 ≠ 0) : (givenF h t c).1 = 0 := by
 unfold givenF at *
 split at hd
 ·rename_i h1
  rw [if_pos h1]
  split at hd
  ·rename_i h2
   rw [if_pos h2]
   split at hd
   ·exact absurd rfl hd
   ·rename_i h3
    rw [if_neg h3]
  ·rename_i h2
   rw [if_neg h2]
 ·rename_i h1
  rw [if_neg h1]
theorem given_told {h : histT.den} {t : tarT.den} {c : changeT.den} (hd : (givenF h t c).2 = 0) : (putF h c).2 = 0 /\ (dueF h t).2 = 0 /\ (dueF (putF h c).1 t).2 = 0 /\ (givenF h t c).1 = (dueF h t).1 - (dueF (putF h c).1 t).1 := by
 unfold givenF at *
 split at hd
 ·rename_i h1
  rw [if_pos h1]
  split at hd
  ·rename_i h2
   rw [if_pos h2]
   split at hd
   ·rename_i h3
    rw [if_pos h3]
    exact ⟨h1, h2, h3, rfl⟩
   ·rename_i h3
    exact absurd hd h3
  ·rename_i h2
   exact absurd hd h2
 ·rename_i h1
  exact absurd hd h1
theorem of_val {h : histT.den} {t : tarT.den} (he : (ofF h t).2 = 0) (hc : (curveO (ofF h t).1).isNone = false) {d : Int} (h1 : 1 <= d) (h2 : d <= 292194) :
  valAt (curveF (ofF h t).1) d = if h.2.2.1.1.1 <= d /\ d < h.2.2.1.1.2.1 then costK (verH h t).1 (stOf h d) else 0 := by
 obtain ⟨g1, _, _, g4⟩ := ofF_good he
 have hr := cutL_runs g1
 rw [valAt_cost hc h1 h2, g4, runs_cost _ hr]
theorem costK_off (v : verT.den) {k : Core} (h : k.1 = false) : costK v k = 0 := by
 unfold costK
 rw [if_neg (by rw [h]; decide)]
theorem off_top {a d : Int} (h : a < 292195) (h2 : d < a + ((292195 - a).toNat : Int)) : d <= 292194 := by omega
theorem written_cancel {h : histT.den} {t : tarT.den} {c : changeT.den} (hs : steadyB h = true) (hk : c.2.2.1 = 3) (hin : inB h.2.2.1.1.1 h.2.2.1.1.2.1 c.2.1 = true)
  (he : (ofF h t).2 = 0) (ht : (UptoF (ofF h t).1 292195).2 = 0) (he' : (ofF (addCh h c) t).2 = 0) (ht' : (UptoF (ofF (addCh h c) t).1 292195).2 = 0) :
  earn (ofF (addCh h c) t).1 292195 = earn (ofF h t).1 c.2.1 := by
 obtain ⟨i1, i2, i3, i4⟩ := inB_spec hin
 have c1 := (upto_told ht').1
 have key : earn (ofF (addCh h c) t).1 292195 = earn (ofF (addCh h c) t).1 c.2.1 := by
  unfold earn
  rw [Sd_split (curveF (ofF (addCh h c) t).1) (Int.le_trans i1 i3) (Int.le_trans (Int.le_of_lt i4) i2) (Int.le_refl 292195), dsum_zero fun d h1 h2 => ?_, Int.add_zero]
  rw [of_val he' c1 (Int.le_trans (Int.le_trans i1 i3) h1) (off_top (Int.lt_of_lt_of_le i4 i2) h2)]
  split
  ·exact costK_off _ (st_off hs hk h1)
  ·rfl
 rw [key]
 obtain ⟨g1, _, _, g4⟩ := ofF_good he
 obtain ⟨k1, _, _, k4⟩ := ofF_good he'
 have hr := cutL_runs g1
 have hr' := cutL_runs k1
 rw [g4] at ht ⊢
 have k4' : (ofF (addCh h c) t).1 = (cutL (addCh h c)).map (priceV (verH h t).1) := k4
 rw [k4'] at ht' ⊢
 exact (earn_same (verH h t).1 hr hr' (fun d hd => stOf_congr rfl (fun k hk => filter_addCh h c (Int.lt_of_le_of_lt hk hd))) ht ht').symm
theorem earn_end {h : histT.den} {t : tarT.den} (he : (ofF h t).2 = 0) (ht : (UptoF (ofF h t).1 292195).2 = 0) : earn (ofF h t).1 h.2.2.1.1.2.1 = earn (ofF h t).1 292195 := by
 obtain ⟨g1, _, _, g4⟩ := ofF_good he
 have ho := histOk g1
 rw [g4] at ht ⊢
 exact (earn_runs (verH h t).1 (cutL_runs g1) ho.a1 ho.ab ho.b1 ht).2.1
theorem betw_rest {h : histT.den} {t : tarT.den} {day : Int} (hin : inB h.2.2.1.1.1 h.2.2.1.1.2.1 day = true) (he : (ofF h t).2 = 0) (ht : (UptoF (ofF h t).1 292195).2 = 0) :
  BetwG (ofF h t).1 (day, h.2.2.1.1.2.1, ()) = (earn (ofF h t).1 292195 - earn (ofF h t).1 day, 0) := by
 obtain ⟨i1, i2, i3, i4⟩ := inB_spec hin
 obtain ⟨hc, hp, htop, hall⟩ := upto_told ht
 have hu : ∀ d, uptoO (curveF (ofF h t).1) d = (earn (ofF h t).1 d, 0) := fun d => by
  have := hall d
  unfold UptoF at this
  rw [if_neg (by rw [hc]; decide)] at this
  exact this
 have hr : rightS (day, h.2.2.1.1.2.1, ()) = true := rightS_of (show 1 <= day by omega) (Int.le_of_lt i4) i2
 unfold BetwG
 rw [if_neg (by rw [hc, hr]; simp)]
 show (if (uptoO (curveF (ofF h t).1) h.2.2.1.1.2.1).2 ≠ 0 then _ else if (uptoO (curveF (ofF h t).1) day).2 ≠ 0 then _ else _) = _
 rw [hu, hu, if_neg (fun hh => hh rfl), if_neg (fun hh => hh rfl), earn_end he ht]
theorem kept_cancel {h : histT.den} {t : tarT.den} {c : changeT.den} (hs : steadyB h = true) (hk : c.2.2.1 = 3) (he' : (ofF (addCh h c) t).2 = 0) (he : (ofF h t).2 = 0) :
  keptF (addCh h c) t = if c.2.2.2.2.2.1 = 1 then (if (BetwG (ofF h t).1 (c.2.1, h.2.2.1.1.2.1, ())).2 = 0 then bpF (BetwG (ofF h t).1 (c.2.1, h.2.2.1.1.2.1, ())).1 1000 else (0, (BetwG (ofF h t).1 (c.2.1, h.2.2.1.1.2.1, ())).2)) else (0, 0) := by
 have hT : isT c = true := by unfold isT; rw [hk]; rfl
 have h1 : keptF (addCh h c) t = keptA (addCh h c) t ((chL h).length : Int) := by
  unfold keptF
  rw [if_pos he', turn_add hs hT]
 rw [h1]
 unfold keptA
 rw [chAt_end, Int.toNat_natCast, without_add]
 by_cases hw : c.2.2.2.2.2.1 = 1
 ·rw [if_pos ⟨hk, hw⟩, if_pos hw, if_pos he]
  rfl
 ·rw [if_neg (fun hh => hw hh.2), if_neg hw]
theorem days_core {h : histT.den} {t : tarT.den} {day : Int} (hs : steadyB h = true) (h0 : (givenF h t (canC 292194 day 0)).2 = 0) (h1 : (givenF h t (canC 292194 day 1)).2 = 0) :
  (BetwG (ofF h t).1 (day, h.2.2.1.1.2.1, ())).2 = 0 /\ (bpF (BetwG (ofF h t).1 (day, h.2.2.1.1.2.1, ())).1 1000).2 = 0 /\
   (givenF h t (canC 292194 day 0)).1 = (BetwG (ofF h t).1 (day, h.2.2.1.1.2.1, ())).1 /\
   (givenF h t (canC 292194 day 1)).1 = (BetwG (ofF h t).1 (day, h.2.2.1.1.2.1, ())).1 - (bpF (BetwG (ofF h t).1 (day, h.2.2.1.1.2.1, ())).1 1000).1 := by
 obtain ⟨p1, d1, e1, v1⟩ := given_told h0
 obtain ⟨p2, d2, e2, v2⟩ := given_told h1
 obtain ⟨q1, q2, q3, q4⟩ := putF_ok p1
 obtain ⟨r1, r2, r3, r4⟩ := putF_ok p2
 rw [q4] at e1 v1
 rw [r4] at e2 v2
 obtain ⟨_, he, ht, w0⟩ := due_told d1
 obtain ⟨k1, he1, ht1, w1⟩ := due_told e1
 obtain ⟨k2, he2, ht2, w2⟩ := due_told e2
 have hin : inB h.2.2.1.1.1 h.2.2.1.1.2.1 day = true := q2
 have hb := betw_rest hin he ht
 have c1 := written_cancel hs rfl q2 he ht he1 ht1
 have c2 := written_cancel hs rfl r2 he ht he2 ht2
 have c1' : earn (ofF (addCh h (canC 292194 day 0)) t).1 292195 = earn (ofF h t).1 day := c1
 have c2' : earn (ofF (addCh h (canC 292194 day 1)) t).1 292195 = earn (ofF h t).1 day := c2
 have z0 : (keptF h t).1 = 0 := by rw [keptF_steady t hs]
 have z1 : keptF (addCh h (canC 292194 day 0)) t = (0, 0) := by
  rw [kept_cancel hs rfl he1 he]
  exact if_neg (by show ¬ (0 : Int) = 1; decide)
 have z2 : keptF (addCh h (canC 292194 day 1)) t = bpF (BetwG (ofF h t).1 (day, h.2.2.1.1.2.1, ())).1 1000 := by
  rw [kept_cancel hs rfl he2 he]
  refine (if_pos (show (canC 292194 day 1).2.2.2.2.2.1 = (1 : Int) from rfl)).trans ?_
  show (if (BetwG (ofF h t).1 (day, h.2.2.1.1.2.1, ())).2 = 0 then _ else _) = _
  rw [if_pos (by rw [hb])]
  rfl
 rw [z0, Int.add_zero] at w0
 rw [z1, c1', Int.add_zero] at w1
 rw [z2, c2'] at w2
 rw [z2] at k2
 rw [v1, v2, w0, w1, w2]
 have hb1 : (BetwG (ofF h t).1 (day, h.2.2.1.1.2.1, ())).1 = earn (ofF h t).1 292195 - earn (ofF h t).1 day := by rw [hb]
 refine ⟨by rw [hb], k2, hb1.symm, ?_⟩
 rw [hb1]
 omega
noncomputable def CLy : Cx := cx [(17, cYesR), (10, cFew), (24, cSteady), (25, cCancel), (22, cGiven), (26, cOf), (27, cBetwG), (28, cBp)] []
theorem CLy_ok : CxOK Tryz.prog CLy := cx_ok mixed ⟨alive15_ok, few_ok, steady_ok, cancel_ok, given_ok, of_ok, betwG_ok, bpR_ok, trivial⟩ trivial
def frDays2 (h : histT.den) (t : tarT.den) (a b r p : Int × Int) : Fr (denL [.bool]) :=
 Fr.br (bif a.2 != 0 then true else b.2 != 0)
  (Fr.val (bif bif true then (bif a.2 == 0 then true else a.1 == 0) else false then (bif b.2 == 0 then true else b.1 == 0) else false, ()))
  (Fr.need (fewH h) (Fr.need (fewT t)
   (Fr.val (bif bif bif bif true then r.2 == 0 else false then p.2 == 0 else false then a.1 == r.1 else false then b.1 == IntKind.i64.wrap (r.1 - p.1) else false, ()))))
def frDays (x : denP [.d histT, .d tarT, .d i64]) : Fr (denL [.bool]) :=
 let h : histT.den := x.1; let t : tarT.den := x.2.1; let day : Int := x.2.2.1
 let r : Int × Int := BetwG (ofF h t).1 (day, h.2.2.1.1.2.1, ())
 Fr.br (bif !(cFew.f (h, t, ())).1 then true else !(cSteady.f (h, ())).1) (Fr.val (true, ()))
  (Fr.need (fewH h) (Fr.need (fewT t) (
   (Fr.need (fewH h) (Fr.need (fewT t) (
    (frDays2 h t (givenF h t (canC 292194 day 0)) (givenF h t (canC 292194 day 1)) r (bpF r.1 1000))))))))
theorem days_run : SoundCt Tryz.prog 8 ⟨[.d histT, .d tarT, .d i64], [.bool], fun xs => (frDays xs).get, fun xs => [(frDays xs).ok]⟩ :=
 fn_sound CLy_ok (Λ := lam0) (fn := Tryz.f8) (fr := frDays) (ps := [.d histT, .d tarT, .d i64]) (rs := [.bool]) (histT.dflt, tarT.dflt, 0, ()) (by kernel_rfl) (fun c E _ => lam0_ok c 0) (fun x => by kernel_rfl)
theorem not_or {a b : Bool} : (bif !a then true else !b) = false ↔ a = true /\ b = true := by
 cases a <;> cases b <;> simp
theorem days2_eq {h : histT.den} {t : tarT.den} {a b r p : Int × Int} (f1 : fewH h) (f2 : fewT t) (ha : a.2 ≠ 0 -> a.1 = 0) (hb : b.2 ≠ 0 -> b.1 = 0)
  (hk : a.2 = 0 -> b.2 = 0 -> r.2 = 0 /\ p.2 = 0 /\ a.1 = r.1 /\ b.1 = r.1 - p.1) (hr : -9223372036854775808 <= r.1 - p.1 /\ r.1 - p.1 <= 9223372036854775807) : (frDays2 h t a b r p).ok /\ (frDays2 h t a b r p).get = (true, ()) := by
 by_cases h1 : a.2 = 0
 ·by_cases h2 : b.2 = 0
  ·obtain ⟨k1, k2, k3, k4⟩ := hk h1 h2
   refine Fr.br_f (by rw [h1, h2]; rfl) (Fr.need_ f1 (Fr.need_ f2 ⟨trivial, ?_⟩))
   show (bif bif bif bif true then r.2 == 0 else false then p.2 == 0 else false then a.1 == r.1 else false then b.1 == IntKind.i64.wrap (r.1 - p.1) else false, ()) = (true, ())
   rw [i64w hr, k1, k2, k3, k4]
   simp
  ·refine Fr.br_t (by rw [h1]; simp [h2]) ⟨trivial, ?_⟩
   show (bif bif true then (bif a.2 == 0 then true else a.1 == 0) else false then (bif b.2 == 0 then true else b.1 == 0) else false, ()) = (true, ())
   rw [h1, hb h2]
   simp
 ·refine Fr.br_t (by simp [h1]) ⟨trivial, ?_⟩
  show (bif bif true then (bif a.2 == 0 then true else a.1 == 0) else false then (bif b.2 == 0 then true else b.1 == 0) else false, ()) = (true, ())
  rw [ha h1]
  by_cases h2 : b.2 = 0
  ·simp [h2]
  ·rw [hb h2]
   simp
theorem betwG_val (l : List sliceT.den) (s : spanT.den) : -4000000000000000000 <= (BetwG l s).1 /\ (BetwG l s).1 <= 4000000000000000000 := by
 have z : (-4000000000000000000 : Int) <= 0 /\ (0 : Int) <= 4000000000000000000 := by decide
 have v1 := uptoO_val (curveF l) s.2.1
 have v2 := uptoO_val (curveF l) s.1
 unfold BetwG
 split
 ·exact z
 ·split
  ·exact z
  ·split
   ·exact z
   ·exact ⟨by show _ <= _ - _; omega, by show _ - _ <= _; omega⟩
theorem bp_in {r p : Int} (h1 : -4000000000000000000 <= r /\ r <= 4000000000000000000) (h2 : 0 <= p /\ p <= 4000000000000000000) : -9223372036854775808 <= r - p /\ r - p <= 9223372036854775807 := by omega
theorem lawDays_ok : SoundCt Tryz.prog 8 (cLawR [.d histT, .d tarT, .d i64]) :=
 convF days_run _ _ (fun _ _ x _ _ _ => by
  obtain ⟨h, t, day, _⟩ := x
  cases hc : (bif !(fewB h t) then true else !(steadyB h)) with
  | true => exact Fr.br_t hc ⟨trivial, rfl⟩
  | false =>
   obtain ⟨hf, hs⟩ := not_or.1 hc
   obtain ⟨f1, f2⟩ := fewB_fewH hf
   refine Fr.br_f hc (Fr.need_ f1 (Fr.need_ f2 (Fr.need_ f1 (Fr.need_ f2 ?_))))
   exact days2_eq f1 f2 given_bad given_bad (days_core hs) (bp_in (betwG_val _ _) (evenF_val _ _ _ (by decide))))
noncomputable def CLz : Cx := cx [(17, cYesR), (10, cFew), (20, cDue), (18, cKeptP), (26, cOf), (29, cWritten), (30, cTurnR), (31, cWithout)] []
theorem CLz_ok : CxOK Tryz.prog CLz := cx_ok mixed ⟨alive15_ok, few_ok, due_ok, keptP_ok, of_ok, Written_ok, turnR_ok, withoutR_ok, trivial⟩ trivial
def frLe2 (d k w j : Int × Int) : Fr (denL [.bool]) :=
 let c : Bool := bif bif bif bif bif true then k.2 == 0 else false then w.2 == 0 else false then j.2 == 0 else false then d.1 == IntKind.i64.wrap (w.1 + k.1) else false then decide (k.1 > 0) else false
 Fr.need (c = true -> (10 : Int) ≠ 0) (Fr.val (bif c then decide (k.1 <= IntKind.i64.wrap (IntKind.i64.wrap (j.1.tdiv 10) + 1)) else false, ()))
def frLeast (x : denP [.d histT, .d tarT]) : Fr (denL [.bool]) :=
 let h : histT.den := x.1; let t : tarT.den := x.2.1
 let d : Int × Int := dueF h t; let k : Int × Int := keptF h t; let w : Int × Int := UptoF (ofF h t).1 292195
 let a : Int := (cTurnR.f (h, ())).1
 let m : histT.den := (cWithout.f (h, a, ())).1
 Fr.br (!(cFew.f (h, t, ())).1) (Fr.val (true, ()))
  (Fr.need (fewH h) (Fr.need (fewT t) (Fr.need (fewH h) (Fr.need (fewT t)
   (Fr.br (d.2 != 0) (Fr.val (bif true then d.1 == 0 else false, ()))
    (Fr.need (fewH h) (Fr.need (fewT t) (Fr.need (((chL h).length : Int) <= 1000000)
     (Fr.br (bif k.1 == 0 then true else decide (a < 0))
      (Fr.val (bif bif bif bif true then k.2 == 0 else false then w.2 == 0 else false then d.1 == w.1 else false then k.1 == 0 else false, ()))
      (Fr.need ((chL h).length <= 500000) (Fr.need (fewH m) (Fr.need (fewT t) (frLe2 d k w (UptoF (ofF m t).1 292195))))))))))))))
theorem least_run : SoundCt Tryz.prog 9 ⟨[.d histT, .d tarT], [.bool], fun xs => (frLeast xs).get, fun xs => [(frLeast xs).ok]⟩ :=
 fn_sound CLz_ok (Λ := lam0) (fn := Tryz.f9) (fr := frLeast) (ps := [.d histT, .d tarT]) (rs := [.bool]) (histT.dflt, tarT.dflt, ()) (by kernel_rfl) (fun c E _ => lam0_ok c 0) (fun x => by kernel_rfl)
theorem off_top' {b d : Int} (hb : b <= 292195) (h1 : b <= d) (h2 : d < b + ((292195 - b).toNat : Int)) : d <= 292194 := by omega
theorem evenQ_le (p : Int) : evenQ (p * 1000) 10000 <= p / 10 + 1 := by
 unfold evenQ
 have : p * 1000 / 10000 = p / 10 := by omega
 rw [this]
 split <;> omega
theorem kept_least {h : histT.den} {t : tarT.den} (hk : (keptF h t).2 = 0) (h0 : (keptF h t).1 ≠ 0) : ∃ a : Nat, turnO h = some (a : Int) /\ a < (chL h).length /\ (UptoF (ofF (without h a) t).1 292195).2 = 0 /\ (keptF h t).1 <= (UptoF (ofF (without h a) t).1 292195).1 / 10 + 1 := by
 unfold keptF at *
 split at hk
 ·rename_i h1
  rw [if_pos h1] at h0 ⊢
  cases ho : turnO h with
  | none => rw [ho] at h0; exact absurd rfl h0
  | some a =>
   rw [ho] at h0 hk
   obtain ⟨⟨a0, a1⟩, hT⟩ := turnO_mem ho
   obtain ⟨n, rfl⟩ : ∃ n : Nat, a = n := ⟨a.toNat, by omega⟩
   have hn : n < (chL h).length := by omega
   refine ⟨n, rfl, hn, ?_⟩
   have hk' : (keptA h t n).2 = 0 := hk
   have h0' : (keptA h t n).1 ≠ 0 := h0
   show (UptoF (ofF (without h n) t).1 292195).2 = 0 /\ (keptA h t n).1 <= _
   unfold keptA at *
   rw [Int.toNat_natCast] at *
   split at hk'
   ·rename_i c1
    rw [if_pos c1] at h0' ⊢
    split at hk'
    ·rename_i c2
     rw [if_pos c2] at h0' ⊢
     split at hk'
     ·rename_i c3
      rw [if_pos c3] at h0' ⊢
      obtain ⟨g1, _, _, g4⟩ := ofF_good c2
      have hx := histOk g1
      have hb1 : h.2.2.1.1.2.1 <= 292195 := hx.b1
      have ha1 : 1 <= h.2.2.1.1.1 := hx.a1
      have hab : h.2.2.1.1.1 < h.2.2.1.1.2.1 := hx.ab
      unfold BetwG at c3 h0' ⊢
      split at c3
      ·cases c3
      ·rename_i q1
       rw [if_neg q1] at h0' ⊢
       have hcv : (curveO (ofF (without h n) t).1).isNone = false := by
        cases hq : (curveO (ofF (without h n) t).1).isNone with
        | false => rfl
        | true => exact absurd (.inl hq) q1
       have hp := curve_pos hcv
       split at c3
       ·rename_i q2
        exact absurd c3 q2
       ·rename_i q2
        rw [if_neg q2] at h0' ⊢
        split at c3
        ·rename_i q3
         exact absurd c3 q3
        ·rename_i q3
         rw [if_neg q3] at h0' ⊢
         have hSd : Sd (curveF (ofF (without h n) t).1) 292195 = Sd (curveF (ofF (without h n) t).1) h.2.2.1.1.2.1 := by
          rw [Sd_split (curveF (ofF (without h n) t).1) (Int.le_trans ha1 (Int.le_of_lt hab)) hb1 (Int.le_refl 292195), dsum_zero fun d h1 h2 => ?_, Int.add_zero]
          have hd1 : 1 <= d := Int.le_trans (Int.le_trans ha1 (Int.le_of_lt hab)) h1
          by_cases hd : d <= 292194
          ·rw [of_val c2 hcv hd1 hd, if_neg (fun hh => absurd hh.2 (Int.not_lt.2 h1))]
          ·exfalso
           exact hd (off_top' hb1 h1 h2)
         have hU : UptoF (ofF (without h n) t).1 292195 = uptoO (curveF (ofF (without h n) t).1) h.2.2.1.1.2.1 := by
          unfold UptoF
          rw [if_neg (by rw [hcv]; decide), uptoO_days hp, uptoO_days hp, hSd]
         have q2' : (uptoO (curveF (ofF (without h n) t).1) h.2.2.1.1.2.1).2 = 0 := by
          apply Classical.byContradiction
          intro hh
          exact q2 hh
         have v1 := uptoO_val (curveF (ofF (without h n) t).1) h.2.2.1.1.2.1
         have v2 := uptoO_val (curveF (ofF (without h n) t).1) (chAt h n).2.1
         rw [hU]
         refine ⟨q2', ?_⟩
         generalize (uptoO (curveF (ofF (without h n) t).1) h.2.2.1.1.2.1).1 = A at *
         generalize (uptoO (curveF (ofF (without h n) t).1) (chAt h n).2.1).1 = B at *
         show (bpF (A - B) 1000).1 <= A / 10 + 1
         unfold bpF evenF at *
         by_cases hneg : A - B < 0
         ·rw [if_pos (.inl hneg)]
          show (0 : Int) <= _
          omega
         ·rw [if_neg (by omega), if_neg (by decide)]
          split
          ·show (0 : Int) <= _
           omega
          ·have := evenQ_le (A - B)
           show evenQ ((A - B) * 1000) 10000 <= _
           omega
     ·rename_i c3
      rw [if_neg c3] at h0'
      exact absurd rfl h0'
    ·rename_i c2
     rw [if_neg c2] at h0'
     exact absurd rfl h0'
   ·rename_i c1
    rw [if_neg c1] at h0'
    exact absurd rfl h0'
 ·rename_i h1
  rw [if_neg h1] at h0
  exact absurd rfl h0
theorem all5 {a b c d e : Bool} (h1 : a = true) (h2 : b = true) (h3 : c = true) (h4 : d = true) (h5 : e = true) : (bif bif bif bif bif true then a else false then b else false then c else false then d else false then e else false) = true := by
 subst h1 h2 h3 h4 h5
 rfl
theorem lawLeast_ok : SoundCt Tryz.prog 9 (cLawR [.d histT, .d tarT]) :=
 convF least_run _ _ (fun _ _ x _ _ _ => by
  obtain ⟨h, t, _⟩ := x
  cases hf : fewB h t with
  | false => exact Fr.br_t (by show (!(fewB h t)) = true; rw [hf]; rfl) ⟨trivial, rfl⟩
  | true =>
   obtain ⟨f1, f2⟩ := fewB_fewH hf
   have hl : (chL h).length <= 500000 := f1.1
   refine Fr.br_f (by show (!(fewB h t)) = false; rw [hf]; rfl) (Fr.need_ f1 (Fr.need_ f2 (Fr.need_ f1 (Fr.need_ f2 ?_))))
   by_cases hd : (dueF h t).2 = 0
   ·obtain ⟨k0, e0, w0, hv⟩ := due_told hd
    have hW : UptoF (ofF h t).1 292195 = (earn (ofF h t).1 292195, 0) := (upto_told w0).2.2.2 292195
    refine Fr.br_f (by show ((dueF h t).2 != 0) = false; rw [hd]; rfl) (Fr.need_ f1 (Fr.need_ f2 (Fr.need_ (show ((chL h).length : Int) <= 1000000 by omega) ?_)))
    show (Fr.br (bif (keptF h t).1 == 0 then true else decide ((turnO h).getD (-1) < 0)) _ _).ok /\ (Fr.br (bif (keptF h t).1 == 0 then true else decide ((turnO h).getD (-1) < 0)) _ _).get = _
    by_cases hz : (keptF h t).1 = 0
    ·refine Fr.br_t (by rw [hz]; rfl) ⟨trivial, ?_⟩
     show (bif bif bif bif true then (keptF h t).2 == 0 else false then (UptoF (ofF h t).1 292195).2 == 0 else false then (dueF h t).1 == (UptoF (ofF h t).1 292195).1 else false then (keptF h t).1 == 0 else false, ()) = (true, ())
     rw [k0, w0, hv, hz, hW, Int.add_zero]
     simp
    ·obtain ⟨n, ho, hn, hj, hle⟩ := kept_least k0 hz
     have hkv := keptF_val h t
     have hg : (turnO h).getD (-1) = (n : Int) := by rw [ho]; rfl
     have hm : (cWithout.f (h, (turnO h).getD (-1), ())).1 = without h n := by
      rw [hg]
      show setCh h (woL (chL h) n (chL h).length) = setCh h _
      rw [woL_all]
     refine Fr.br_f (by rw [hg]; simp only [beq_eq_false_iff_ne.2 hz, cond_false]; exact decide_eq_false (by omega)) (Fr.need_ hl ?_)
     show (Fr.need (fewH (cWithout.f (h, (turnO h).getD (-1), ())).1) (Fr.need (fewT t) (frLe2 (dueF h t) (keptF h t) (UptoF (ofF h t).1 292195) (UptoF (ofF (cWithout.f (h, (turnO h).getD (-1), ())).1 t).1 292195)))).ok /\ (Fr.need (fewH (cWithout.f (h, (turnO h).getD (-1), ())).1) (Fr.need (fewT t) (frLe2 (dueF h t) (keptF h t) (UptoF (ofF h t).1 292195) (UptoF (ofF (cWithout.f (h, (turnO h).getD (-1), ())).1 t).1 292195)))).get = _
     rw [hm]
     refine Fr.need_ (without_few f1 n) (Fr.need_ f2 (Fr.need_ (fun _ => by decide) ⟨trivial, ?_⟩))
     have hUv := UptoF_val (ofF h t).1 292195
     have hUj := UptoF_val (ofF (without h n) t).1 292195
     have hc := all5 (a := (keptF h t).2 == 0) (b := (UptoF (ofF h t).1 292195).2 == 0) (c := (UptoF (ofF (without h n) t).1 292195).2 == 0) (d := (dueF h t).1 == IntKind.i64.wrap ((UptoF (ofF h t).1 292195).1 + (keptF h t).1)) (e := decide ((keptF h t).1 > 0))
      (by rw [k0]; rfl) (by rw [w0]; rfl) (by rw [hj]; rfl) (by rw [i64w (by omega), hv, hW]; exact beq_self_eq_true _) (decide_eq_true (by omega))
     show (bif (bif bif bif bif bif true then (keptF h t).2 == 0 else false then (UptoF (ofF h t).1 292195).2 == 0 else false then (UptoF (ofF (without h n) t).1 292195).2 == 0 else false then (dueF h t).1 == IntKind.i64.wrap ((UptoF (ofF h t).1 292195).1 + (keptF h t).1) else false then decide ((keptF h t).1 > 0) else false) then decide ((keptF h t).1 <= IntKind.i64.wrap (IntKind.i64.wrap ((UptoF (ofF (without h n) t).1 292195).1.tdiv 10) + 1)) else false, ()) = (true, ())
     rw [hc, Int.tdiv_eq_ediv_of_nonneg hUj.1, i64w (show -9223372036854775808 <= (UptoF (ofF (without h n) t).1 292195).1 / 10 /\ (UptoF (ofF (without h n) t).1 292195).1 / 10 <= 9223372036854775807 by omega), i64w (by omega), decide_eq_true hle]
     rfl
   ·refine Fr.br_t (by show ((dueF h t).2 != 0) = true; simp [hd]) ⟨trivial, ?_⟩
    show (bif true then (dueF h t).1 == 0 else false, ()) = (true, ())
    rw [due_bad hd]
    rfl)
end Go.Proofs.YtplkgghjldndkaaGreat
