/-
  Parts of the proof, one behind the other: AbF, I14, I16, H19, H20, I17, I18, I19, I20, AbG, N1, N2, N3, I1, I2.
-/
import Derived.Test.YtplkgghjldndkaaGreatMd
import Derived.ScopeJumps
import Derived.RangeFuncNested
import Derived.Maps.OwnIn
namespace Go.Ab
variable {α : Type} {key : α -> Int}
def SortK (key : α -> Int) (l : List α) : Prop := l.Pairwise fun x y => key x <= key y
def SameK (key : α -> Int) (l s : List α) : Prop := ∀ k, s.filter (fun x => key x == k) = l.filter (fun x => key x == k)
theorem SameK.refl (l : List α) : SameK key l l := fun _ => rfl
theorem SameK.trans {a b c : List α} (h : SameK key a b) (k : SameK key b c) : SameK key a c := fun n => (k n).trans (h n)
theorem SameK.symm {a b : List α} (h : SameK key a b) : SameK key b a := fun n => (h n).symm
theorem SameK.app {a b c d : List α} (h : SameK key a b) (k : SameK key c d) : SameK key (a ++ c) (b ++ d) := fun n => by simp [h n, k n]
theorem SameK.mem {l s : List α} (h : SameK key l s) {x : α} : x ∈ s ↔ x ∈ l := by
 have := congrArg (x ∈ ·) (h (key x))
 simpa [List.mem_filter] using this
theorem SameK.swap {a b : List α} (h : ∀ x ∈ a, ∀ y ∈ b, key x ≠ key y) : SameK key (a ++ b) (b ++ a) := fun n => by
 simp only [List.filter_append]
 by_cases ha : ∃ x ∈ a, key x = n
 ·obtain ⟨x, hx, hk⟩ := ha
  have hb : b.filter (fun x => key x == n) = [] := by
   rw [List.filter_eq_nil_iff]
   intro y hy
   have := h x hx y hy
   simp
   omega
  rw [hb]
  simp
 ·have ha' : a.filter (fun x => key x == n) = [] := by
   rw [List.filter_eq_nil_iff]
   intro y hy hk
   exact ha ⟨y, hy, by simpa using hk⟩
  rw [ha']
  simp
theorem SameK.eq : {s t : List α} -> SortK key s -> SortK key t -> SameK key s t -> s = t
 | [], t, _, _, h => by
  cases t with
  | nil => rfl
  | cons y t => have := (h.mem (x := y)).1 (by simp); simp at this
 | x :: s, [], _, _, h => by have := (h.mem (x := x)).2 (by simp); simp at this
 | x :: s, y :: t, hs, ht, h => by
  have hs' := List.pairwise_cons.1 hs
  have ht' := List.pairwise_cons.1 ht
  have hxy : key x <= key y := by
   rcases List.mem_cons.1 ((h.mem (x := y)).1 (by simp)) with e | e
   ·exact Int.le_of_eq (by rw [e])
   ·exact hs'.1 y e
  have hyx : key y <= key x := by
   rcases List.mem_cons.1 ((h.mem (x := x)).2 (by simp)) with e | e
   ·exact Int.le_of_eq (by rw [e])
   ·exact ht'.1 x e
  have hk : key x = key y := by omega
  have h0 := h (key x)
  simp only [List.filter_cons, hk, beq_self_eq_true, if_true, List.cons.injEq] at h0
  obtain ⟨rfl, h0⟩ := h0
  have : s = t := SameK.eq hs'.2 ht'.2 fun n => by
   have := h n
   simp only [List.filter_cons] at this
   split at this
   ·simpa using this
   ·exact this
  rw [this]
def insB (lt : α -> α -> Bool) (x : α) : List α -> List α
 | [] => [x]
 | y :: r => if lt y x then y :: insB lt x r else x :: y :: r
def sortB (lt : α -> α -> Bool) : List α -> List α
 | [] => []
 | x :: r => insB lt x (sortB lt r)
theorem insB_perm {lt : α -> α -> Bool} {x : α} : (l : List α) -> (insB lt x l).Perm (x :: l)
 | [] => List.Perm.refl _
 | y :: r => by
  simp only [insB]
  split
  ·exact (List.Perm.cons y (insB_perm r)).trans (List.Perm.swap x y r)
  ·exact List.Perm.refl _
theorem sortB_perm {lt : α -> α -> Bool} : (l : List α) -> (sortB lt l).Perm l
 | [] => List.Perm.refl _
 | x :: r => (insB_perm _).trans (List.Perm.cons x (sortB_perm r))
theorem sortB_length {lt : α -> α -> Bool} (l : List α) : (sortB lt l).length = l.length := (sortB_perm l).length_eq
theorem sortB_mem {lt : α -> α -> Bool} {l : List α} {x : α} : x ∈ sortB lt l ↔ x ∈ l := (sortB_perm l).mem_iff
def LtK (lt : α -> α -> Bool) (key : α -> Int) (l : List α) : Prop := ∀ x ∈ l, ∀ y ∈ l, lt x y = decide (key x < key y)
theorem LtK.sub {lt : α -> α -> Bool} {l s : List α} (h : LtK lt key l) (hs : ∀ x ∈ s, x ∈ l) : LtK lt key s := fun x hx y hy => h x (hs x hx) y (hs y hy)
theorem insB_sort {lt : α -> α -> Bool} {x : α} : {l : List α} -> LtK lt key (x :: l) -> SortK key l -> SortK key (insB lt x l) /\ SameK key (x :: l) (insB lt x l)
 | [], _, _ => ⟨List.pairwise_singleton _ _, SameK.refl _⟩
 | y :: r, h, hs => by
  have hs' := List.pairwise_cons.1 hs
  have hl := h y (by simp) x (by simp)
  simp only [insB]
  split
  ·rename_i hyx
   rw [hyx] at hl
   have hlt : key y < key x := by simpa using hl.symm
   obtain ⟨h1, h2⟩ := insB_sort (x := x) (h.sub (by intro z hz; simp at hz ⊢; rcases hz with rfl | hz <;> simp [*])) hs'.2
   refine ⟨List.pairwise_cons.2 ⟨fun z hz => ?_, h1⟩, ?_⟩
   ·rcases List.mem_cons.1 ((h2.mem).1 hz) with rfl | hz
    ·omega
    ·exact hs'.1 z hz
   ·have h3 : SameK key ([x] ++ [y]) ([y] ++ [x]) := SameK.swap fun a ha b hb => by simp at ha hb; subst ha; subst hb; omega
    have h4 : SameK key (([x] ++ [y]) ++ r) (([y] ++ [x]) ++ r) := h3.app (SameK.refl r)
    have h5 : SameK key ([y] ++ (x :: r)) ([y] ++ insB lt x r) := (SameK.refl [y]).app h2
    exact h4.trans h5
  ·rename_i hyx
   have hf : lt y x = false := by simpa using hyx
   rw [hf] at hl
   have hle : key x <= key y := by simpa using hl.symm
   exact ⟨List.pairwise_cons.2 ⟨fun z hz => by
    rcases List.mem_cons.1 hz with rfl | hz
    ·exact hle
    ·exact Int.le_trans hle (hs'.1 z hz), hs⟩, SameK.refl _⟩
theorem sortB_sort {lt : α -> α -> Bool} : {l : List α} -> LtK lt key l -> SortK key (sortB lt l) /\ SameK key l (sortB lt l)
 | [], _ => ⟨List.Pairwise.nil, SameK.refl _⟩
 | x :: r, h => by
  obtain ⟨h1, h2⟩ := sortB_sort (l := r) (h.sub (by intro z hz; simp [hz]))
  obtain ⟨h3, h4⟩ := insB_sort (x := x) (l := sortB lt r) (h.sub (by
   intro z hz
   rcases List.mem_cons.1 hz with rfl | hz
   ·simp
   ·simp [sortB_mem.1 hz])) h1
  exact ⟨h3, SameK.trans (SameK.app (SameK.refl [x]) h2) h4⟩
theorem eq_sortB {lt : α -> α -> Bool} {l s : List α} (h : LtK lt key l) (hs : SortK key s) (hk : SameK key l s) : s = sortB lt l := by
 obtain ⟨h1, h2⟩ := sortB_sort h
 exact SameK.eq hs h1 (hk.symm.trans h2)
def partB (lt : α -> α -> Bool) (a b : Nat) (l : List α) : List α := l.take a ++ (sortB lt ((l.take b).drop a) ++ l.drop b)
theorem partB_eq {lt : α -> α -> Bool} {a b : Nat} {p s q : List α} (ha : p.length = a) (hb : (p ++ s).length = b) : partB lt a b (p ++ (s ++ q)) = p ++ (sortB lt s ++ q) := by
 subst ha hb
 have h1 : (p ++ (s ++ q)).take (p ++ s).length = p ++ s := by rw [← List.append_assoc]; exact List.take_left' rfl
 have h2 : (p ++ (s ++ q)).drop (p ++ s).length = q := by rw [← List.append_assoc]; exact List.drop_left' rfl
 unfold partB
 rw [h1, h2, List.take_left' rfl, List.drop_left' rfl]
theorem split3 {l : List α} {a b : Nat} (hab : a <= b) (hb : b <= l.length) : ∃ p s q, l = p ++ (s ++ q) /\ p.length = a /\ s.length = b - a /\ q.length = l.length - b :=
 ⟨l.take a, (l.take b).drop a, l.drop b, by
  have h1 : (l.take b).take a = l.take a := by rw [List.take_take, Nat.min_eq_left hab]
  rw [← List.append_assoc, ← h1, List.take_append_drop, List.take_append_drop], by simp; omega, by simp; omega, by simp⟩
def swapL (l : List α) (d : α) (i j : Nat) : List α := (l.set i (l.getD j d)).set j (l.getD i d)
end Go.Ab

namespace Go.Ab
section
variable {α : Type} {key : α -> Int} {d : α}
theorem getD_mid {p s q : List α} {i : Nat} (h : i < s.length) : (p ++ (s ++ q)).getD (p.length + i) d = s.getD i d := by
 simp [List.getD_eq_getElem?_getD, List.getElem?_append_right, List.getElem?_append_left h]
theorem swap_cons {p r q : List α} {x y : α} {i j : Nat} (hi : i = p.length) (hj : j = p.length + 1 + r.length) : swapL (p ++ (x :: (r ++ (y :: q)))) d i j = p ++ (y :: (r ++ (x :: q))) := by
 subst hi hj
 unfold swapL
 have h1 : (p ++ (x :: (r ++ (y :: q)))).getD (p.length + 1 + r.length) d = y := by
  rw [show p ++ (x :: (r ++ (y :: q))) = (p ++ [x] ++ r) ++ (y :: q) by simp]
  simp only [List.getD_eq_getElem?_getD]
  rw [List.getElem?_append_right (by simp; omega)]
  simp [show p.length + 1 + r.length - (p.length + (r.length + 1)) = 0 by omega]
 have h2 : (p ++ (x :: (r ++ (y :: q)))).getD p.length d = x := by simp [List.getD_eq_getElem?_getD]
 rw [h1, h2]
 have h3 : (p ++ (x :: (r ++ (y :: q)))).set p.length y = p ++ (y :: (r ++ (y :: q))) := by simp
 rw [h3]
 rw [show p ++ (y :: (r ++ (y :: q))) = (p ++ [y] ++ r) ++ (y :: q) by simp, List.set_append_right _ _ (by simp; omega)]
 simp [show p.length + 1 + r.length - (p.length + (r.length + 1)) = 0 by omega]
theorem swap_next {p q : List α} {x y : α} {i : Nat} (hi : i = p.length) : swapL (p ++ (x :: (y :: q))) d i (i + 1) = p ++ (y :: (x :: q)) :=
 swap_cons (r := []) hi (by simp [hi])
theorem swapL_comm {l : List α} {i j : Nat} (h : i ≠ j) : swapL l d j i = swapL l d i j := by
 unfold swapL
 rw [List.set_comm _ _ (by omega)]
theorem swap_prev {p q : List α} {x y : α} {i : Nat} (hi : i = p.length) : swapL (p ++ (x :: (y :: q))) d (i + 1) i = p ++ (y :: (x :: q)) := by
 rw [swapL_comm (by omega), swap_next hi]
def insDown (lt : α -> α -> Bool) (d : α) (a : Nat) : Nat -> List α -> List α
 | 0, l => l
 | j + 1, l => if a < j + 1 then bif lt (l.getD (j + 1) d) (l.getD j d) then insDown lt d a j (swapL l d (j + 1) j) else l else l
def insFrom (lt : α -> α -> Bool) (d : α) (a : Nat) : Nat -> Nat -> List α -> List α
 | 0, _, l => l
 | n + 1, i, l => insFrom lt d a n (i + 1) (insDown lt d a i l)
theorem snoc_cases (s : List α) : s = [] ∨ ∃ t y, s = t ++ [y] := by
 cases h : s.reverse with
 | nil => exact .inl (by simpa using h)
 | cons y t => exact .inr ⟨t.reverse, y, by have := congrArg List.reverse h; simpa using this⟩
theorem insDown_eq {lt : α -> α -> Bool} {p : List α} {x : α} : (n : Nat) -> (s q : List α) -> s.length = n -> LtK lt key (s ++ [x]) -> SortK key s ->
  ∃ t, insDown lt d p.length (p.length + n) (p ++ (s ++ (x :: q))) = p ++ (t ++ q) /\ SortK key t /\ SameK key (s ++ [x]) t
 | 0, s, q, hn, _, _ => by
  obtain rfl := List.length_eq_zero_iff.1 hn
  refine ⟨[x], ?_, List.pairwise_singleton _ _, SameK.refl _⟩
  cases hp : p.length with
  | zero => simp [insDown]
  | succ j => simp [insDown]
 | n + 1, s, q, hn, hl, hs => by
  rcases snoc_cases s with rfl | ⟨s', y, rfl⟩
  ·simp at hn
  ·have hn' : s'.length = n := by simpa using hn
   have hs' := List.pairwise_append.1 hs
   have e1 : p ++ ((s' ++ [y]) ++ (x :: q)) = (p ++ s') ++ (y :: (x :: q)) := by simp
   have hk : lt x y = decide (key x < key y) := hl x (by simp) y (by simp)
   have g1 : (p ++ ((s' ++ [y]) ++ (x :: q))).getD (p.length + n + 1) d = x := by
    rw [e1]
    simp only [List.getD_eq_getElem?_getD]
    rw [List.getElem?_append_right (by simp; omega)]
    simp [hn', show p.length + n + 1 - (p.length + n) = 1 by omega]
   have g2 : (p ++ ((s' ++ [y]) ++ (x :: q))).getD (p.length + n) d = y := by
    rw [e1]
    simp only [List.getD_eq_getElem?_getD]
    rw [List.getElem?_append_right (by simp; omega)]
    simp [hn']
   rw [show p.length + (n + 1) = (p.length + n) + 1 by omega]
   simp only [insDown, g1, g2]
   rw [if_pos (by omega), hk]
   by_cases hlt : key x < key y
   ·simp only [hlt, decide_true, cond_true]
    rw [e1, swap_prev (by simp [hn'])]
    obtain ⟨t, h1, h2, h3⟩ := insDown_eq (p := p) (x := x) n s' (y :: q) hn' (hl.sub (by intro z hz; simp at hz ⊢; rcases hz with h | h <;> simp [h])) hs'.1
    have e2 : (p ++ s') ++ (x :: (y :: q)) = p ++ (s' ++ (x :: (y :: q))) := by simp
    rw [e2, h1]
    refine ⟨t ++ [y], by simp, ?_, ?_⟩
    ·refine List.pairwise_append.2 ⟨h2, List.pairwise_singleton _ _, fun a ha b hb => ?_⟩
     simp at hb
     subst hb
     rcases List.mem_append.1 (h3.mem.1 ha) with h | h
     ·exact hs'.2.2 a h _ (by simp)
     ·simp at h
      subst h
      omega
    ·have h4 : SameK key ((s' ++ [y]) ++ [x]) (s' ++ [x] ++ [y]) := by
      rw [List.append_assoc, List.append_assoc]
      exact (SameK.refl s').app (SameK.swap fun a ha b hb => by simp at ha hb; subst ha hb; omega)
     exact h4.trans (h3.app (SameK.refl [y]))
   ·simp only [hlt, decide_false, cond_false]
    refine ⟨s' ++ [y] ++ [x], by simp, ?_, SameK.refl _⟩
    refine List.pairwise_append.2 ⟨hs, List.pairwise_singleton _ _, fun a ha b hb => ?_⟩
    simp at hb
    subst hb
    rcases List.mem_append.1 ha with h | h
    ·have := hs'.2.2 a h y (by simp)
     omega
    ·simp at h
     subst h
     omega
theorem insFrom_eq {lt : α -> α -> Bool} {p q : List α} : (u s : List α) -> LtK lt key (s ++ u) -> SortK key s -> ∃ t, insFrom lt d p.length u.length (p.length + s.length) (p ++ (s ++ (u ++ q))) = p ++ (t ++ q) /\ SortK key t /\ SameK key (s ++ u) t
 | [], s, _, hs => ⟨s, by simp [insFrom], hs, by simpa using SameK.refl s⟩
 | x :: u, s, hl, hs => by
  obtain ⟨t, h1, h2, h3⟩ := insDown_eq (d := d) (p := p) (x := x) s.length s (u ++ q) rfl (hl.sub (by intro z hz; simp at hz ⊢; rcases hz with h | h <;> simp [h])) hs
  have hlen : t.length = s.length + 1 := by
   have := congrArg List.length h1
   have hd : ∀ (n : Nat) (l : List α), (insDown lt d p.length n l).length = l.length := by
    intro n
    induction n with
    | zero => intro l; rfl
    | succ n ih =>
     intro l
     simp only [insDown]
     split
     ·cases lt (l.getD (n + 1) d) (l.getD n d)
      ·rfl
      ·simp [ih, swapL]
     ·rfl
   rw [hd] at this
   simp at this
   omega
  obtain ⟨t', k1, k2, k3⟩ := insFrom_eq (p := p) (q := q) u t (hl.sub (by
   intro z hz
   rcases List.mem_append.1 hz with h | h
   ·have := h3.mem.1 h
    simp at this ⊢
    rcases this with h | h <;> simp [h]
   ·simp [h])) h2
  refine ⟨t', ?_, k2, ?_⟩
  ·simp only [List.length_cons, insFrom, List.cons_append]
   rw [h1, show p.length + s.length + 1 = p.length + t.length by omega]
   exact k1
  ·have : s ++ x :: u = (s ++ [x]) ++ u := by simp
   rw [this]
   exact (h3.app (SameK.refl u)).trans k3
theorem insFrom_part {lt : α -> α -> Bool} {a b : Nat} {l : List α} (hab : a <= b) (hb : b <= l.length) (hl : LtK lt key l) : insFrom lt d a (b - (a + 1)) (a + 1) l = partB lt a b l := by
 obtain ⟨p, s, q, rfl, hp, hs, _⟩ := split3 hab hb
 subst hp
 cases s with
 | nil =>
  have : b = p.length := by simp at hs; omega
  subst this
  rw [partB_eq rfl (by simp)]
  simp [insFrom, sortB, show p.length - (p.length + 1) = 0 by omega]
 | cons x u =>
  simp at hs
  have hb' : b = p.length + (1 + u.length) := by omega
  subst hb'
  rw [partB_eq rfl (by simp; omega)]
  have hl' : LtK lt key (x :: u) := hl.sub fun z hz => List.mem_append_right _ (List.mem_append_left _ hz)
  obtain ⟨t, h1, h2, h3⟩ := insFrom_eq (d := d) (p := p) (q := q) u [x] (by simpa using hl') (List.pairwise_singleton _ _)
  have e : t = sortB lt (x :: u) := eq_sortB hl' h2 (by simpa using h3)
  subst e
  rw [← h1]
  simp [show p.length + (1 + u.length) - (p.length + 1) = u.length by omega]
def upS (d : α) : Nat -> Nat -> List α -> List α
 | 0, _, l => l
 | n + 1, k, l => upS d n (k + 1) (swapL l d k (k + 1))
def downS (d : α) : Nat -> Nat -> List α -> List α
 | 0, _, l => l
 | n + 1, k, l => downS d n (k - 1) (swapL l d k (k - 1))
theorem upS_eq {x : α} : (s p q : List α) -> upS d s.length p.length (p ++ (x :: (s ++ q))) = p ++ (s ++ (x :: q))
 | [], p, q => by simp [upS]
 | y :: s, p, q => by
  simp only [List.length_cons, upS, List.cons_append]
  rw [swap_next rfl]
  have := upS_eq (x := x) s (p ++ [y]) q
  simpa using this
theorem downS_eq {x : α} : (n : Nat) -> (s p q : List α) -> s.length = n -> downS d n (p.length + n) (p ++ (s ++ (x :: q))) = p ++ (x :: (s ++ q))
 | 0, s, p, q, h => by
  obtain rfl := List.length_eq_zero_iff.1 h
  simp [downS]
 | n + 1, s, p, q, h => by
  rcases snoc_cases s with rfl | ⟨s', y, rfl⟩
  ·simp at h
  ·have hn : s'.length = n := by simpa using h
   rw [show p.length + (n + 1) = (p.length + n) + 1 by omega]
   simp only [downS, Nat.add_sub_cancel]
   have e1 : p ++ ((s' ++ [y]) ++ (x :: q)) = (p ++ s') ++ (y :: (x :: q)) := by simp
   rw [e1, swap_prev (by simp [hn])]
   have := downS_eq (x := x) n s' p (y :: q) hn
   simpa using this
def swapR (d : α) : Nat -> Nat -> Nat -> List α -> List α
 | 0, _, _, l => l
 | n + 1, a, b, l => swapR d n (a + 1) (b + 1) (swapL l d a b)
theorem swapR_eq : (x z y p q : List α) -> x.length = z.length -> ∀ {b : Nat}, b = p.length + x.length + y.length -> swapR d x.length p.length b (p ++ (x ++ (y ++ (z ++ q)))) = p ++ (z ++ (y ++ (x ++ q)))
 | [], z, y, p, q, h, b, hb => by
  obtain rfl := List.length_eq_zero_iff.1 h.symm
  simp [swapR]
 | u :: x, [], y, p, q, h, b, hb => by simp at h
 | u :: x, v :: z, y, p, q, h, b, hb => by
  simp only [List.length_cons, swapR, List.cons_append]
  have e1 : p ++ (u :: (x ++ (y ++ (v :: (z ++ q))))) = p ++ (u :: ((x ++ y) ++ (v :: (z ++ q)))) := by simp
  rw [e1, swap_cons rfl (by simp at hb ⊢; omega)]
  have := swapR_eq x z (y ++ [u]) (p ++ [v]) q (by simpa using h) (b := b + 1) (by simp at hb ⊢; omega)
  simpa using this
def rotG (d : α) (m : Nat) : Nat -> Nat -> Nat -> List α -> Nat × List α
 | 0, i, _, l => (i, l)
 | f + 1, i, j, l => if i = j then (i, l) else if i > j then rotG d m f (i - j) j (swapR d j (m - i) m l) else rotG d m f i (j - i) (swapR d i (m - i) (m + j - i) l)
def rotF (d : α) (a m b : Nat) (l : List α) : List α := let r := rotG d m (b - a) (m - a) (b - m) l; swapR d r.1 (m - r.1) m r.2
theorem rotG_eq {m : Nat} : (f : Nat) -> (x y p q : List α) -> x.length + y.length <= f -> 0 < x.length -> 0 < y.length -> m = p.length + x.length ->
  swapR d (rotG d m f x.length y.length (p ++ (x ++ (y ++ q)))).1 (m - (rotG d m f x.length y.length (p ++ (x ++ (y ++ q)))).1) m (rotG d m f x.length y.length (p ++ (x ++ (y ++ q)))).2 = p ++ (y ++ (x ++ q))
 | 0, x, y, p, q, h, h1, _, _ => by omega
 | f + 1, x, y, p, q, h, h1, h2, hm => by
  simp only [rotG]
  split
  ·rename_i he
   subst hm
   have := swapR_eq (d := d) x y [] p q he (b := p.length + x.length) (by simp)
   simpa [show p.length + x.length - x.length = p.length by omega] using this
  ·split
   ·rename_i hne hgt
    obtain ⟨x1, x2, rfl, hx1⟩ : ∃ x1 x2, x = x1 ++ x2 /\ x1.length = y.length := ⟨x.take y.length, x.drop y.length, by simp, by simp; omega⟩
    simp only [List.length_append] at hm h hgt h1 ⊢
    have e := swapR_eq (d := d) x1 y x2 p q hx1 (b := m) (by omega)
    have e0 : m - (x1.length + x2.length) = p.length := by omega
    rw [e0, ← hx1]
    rw [show p ++ (x1 ++ x2 ++ (y ++ q)) = p ++ (x1 ++ (x2 ++ (y ++ q))) by simp, e]
    have := rotG_eq (m := m) f x2 x1 (p ++ y) q (by omega) (by omega) (by omega) (by simp; omega)
    rw [show x1.length + x2.length - x1.length = x2.length by omega]
    simpa using this
   ·rename_i hne hgt
    obtain ⟨y1, y2, rfl, hy2⟩ : ∃ y1 y2, y = y1 ++ y2 /\ y2.length = x.length := ⟨y.take (y.length - x.length), y.drop (y.length - x.length), by simp, by simp; omega⟩
    simp only [List.length_append] at hm h hgt h2 hne ⊢
    have e := swapR_eq (d := d) x y2 y1 p q hy2.symm (b := m + (y1.length + y2.length) - x.length) (by omega)
    have e0 : m - x.length = p.length := by omega
    rw [e0]
    rw [show p ++ (x ++ (y1 ++ y2 ++ q)) = p ++ (x ++ (y1 ++ (y2 ++ q))) by simp, e]
    have := rotG_eq (m := m) f y2 y1 p (x ++ q) (by omega) (by omega) (by omega) (by omega)
    rw [show y1.length + y2.length - x.length = y1.length by omega, ← hy2]
    simpa using this
theorem rotF_eq {a m b : Nat} {x y p q : List α} (h1 : 0 < x.length) (h2 : 0 < y.length) (ha : a = p.length) (hm : m = a + x.length) (hb : b = m + y.length) : rotF d a m b (p ++ (x ++ (y ++ q))) = p ++ (y ++ (x ++ q)) := by
 have := rotG_eq (d := d) (m := m) (b - a) x y p q (by omega) h1 h2 (by omega)
 unfold rotF
 rw [show m - a = x.length by omega, show b - m = y.length by omega]
 exact this
def bsG (Q : Nat -> Bool) : Nat -> Nat -> Nat -> Nat
 | 0, i, _ => i
 | f + 1, i, j => if i < j then bif Q ((i + j) / 2) then bsG Q f ((i + j) / 2 + 1) j else bsG Q f i ((i + j) / 2) else i
theorem bsG_spec {Q : Nat -> Bool} : (f i j : Nat) -> j - i <= f -> i <= j -> (∀ u v, i <= u -> u <= v -> v < j -> Q v = true -> Q u = true) ->
  i <= bsG Q f i j /\ bsG Q f i j <= j /\ (∀ k, i <= k -> k < bsG Q f i j -> Q k = true) /\ (∀ k, bsG Q f i j <= k -> k < j -> Q k = false)
 | 0, i, j, h, hij, _ => by
  simp only [bsG]
  exact ⟨Nat.le_refl _, hij, fun k h1 h2 => by omega, fun k h1 h2 => by omega⟩
 | f + 1, i, j, h, hij, hmono => by
  simp only [bsG]
  by_cases hlt : i < j
  ·rw [if_pos hlt]
   cases hq : Q ((i + j) / 2) with
   | true =>
    simp only [cond_true]
    obtain ⟨a1, a2, a3, a4⟩ := bsG_spec (Q := Q) f ((i + j) / 2 + 1) j (by omega) (by omega) (fun u v hu huv hv => hmono u v (by omega) huv hv)
    refine ⟨by omega, a2, fun k h1 h2 => ?_, a4⟩
    by_cases hk : k <= (i + j) / 2
    ·exact hmono k _ h1 hk (by omega) hq
    ·exact a3 k (by omega) h2
   | false =>
    simp only [cond_false]
    obtain ⟨a1, a2, a3, a4⟩ := bsG_spec (Q := Q) f i ((i + j) / 2) (by omega) (by omega) (fun u v hu huv hv => hmono u v hu huv (by omega))
    refine ⟨a1, by omega, a3, fun k h1 h2 => ?_⟩
    by_cases hk : k < (i + j) / 2
    ·exact a4 k h1 hk
    ·cases hqk : Q k with
     | false => rfl
     | true => rw [hmono _ k (by omega) (by omega) h2 hqk] at hq; cases hq
  ·rw [if_neg hlt]
   exact ⟨Nat.le_refl _, hij, fun k h1 h2 => by omega, fun k h1 h2 => by omega⟩
end
end Go.Ab

namespace Go.Ab
section
variable {α : Type} {key : α -> Int} {d : α}
def seg (a b : Nat) (l : List α) : List α := (l.take b).drop a
theorem seg_eq {p s q : List α} {a b : Nat} (ha : p.length = a) (hb : a + s.length = b) : seg a b (p ++ (s ++ q)) = s := by
 subst ha hb
 unfold seg
 have h1 : (p ++ (s ++ q)).take (p.length + s.length) = p ++ s := by rw [← List.append_assoc]; exact List.take_left' (by simp)
 rw [h1, List.drop_left' rfl]
theorem seg_split {l : List α} {a m b : Nat} (h1 : a <= m) (h2 : m <= b) (h3 : b <= l.length) : ∃ p q, l = p ++ (seg a m l ++ (seg m b l ++ q)) /\ p.length = a /\ (seg a m l).length = m - a /\ (seg m b l).length = b - m /\ q.length = l.length - b := by
 obtain ⟨p, s, q, rfl, hp, hs, hq⟩ := split3 (Nat.le_trans h1 h2) h3
 obtain ⟨x, y, rfl, hx⟩ : ∃ x y, s = x ++ y /\ x.length = m - a := ⟨s.take (m - a), s.drop (m - a), by simp, by simp; omega⟩
 have hy : y.length = b - m := by simp at hs; omega
 have e1 : seg a m (p ++ (x ++ y ++ q)) = x := by
  rw [List.append_assoc]
  exact seg_eq hp (by omega)
 have e2 : seg m b (p ++ (x ++ y ++ q)) = y := by
  rw [show p ++ (x ++ y ++ q) = (p ++ x) ++ (y ++ q) by simp]
  exact seg_eq (by simp; omega) (by omega)
 rw [e1, e2]
 exact ⟨p, q, by simp, hp, hx, hy, by omega⟩
theorem partB_length {lt : α -> α -> Bool} {a b : Nat} {l : List α} (h1 : a <= b) (h2 : b <= l.length) : (partB lt a b l).length = l.length := by
 unfold partB
 simp [sortB_length]
 omega
theorem sortB_self {lt : α -> α -> Bool} {l : List α} (h : LtK lt key l) (hs : SortK key l) : sortB lt l = l := (eq_sortB h hs (SameK.refl l)).symm
theorem partB_same {lt : α -> α -> Bool} {a b : Nat} {l : List α} (hab : a <= b) (hb : b <= l.length) (hl : LtK lt key l) : SameK key l (partB lt a b l) := by
 obtain ⟨p, s, q, rfl, hp, hs, _⟩ := split3 hab hb
 rw [partB_eq hp (by simp; omega)]
 have h := (sortB_sort (l := s) (hl.sub fun z hz => List.mem_append_right _ (List.mem_append_left _ hz))).2
 exact (SameK.refl p).app (h.app (SameK.refl q))
def symS (lt : α -> α -> Bool) (d : α) (a m b : Nat) (l : List α) : Nat :=
 bsG (fun c => !lt (l.getD ((a + b) / 2 + m - 1 - c) d) (l.getD c d)) ((if (a + b) / 2 < m then (a + b) / 2 else m) - (if (a + b) / 2 < m then (a + b) / 2 + m - b else a)) (if (a + b) / 2 < m then (a + b) / 2 + m - b else a) (if (a + b) / 2 < m then (a + b) / 2 else m)
def symR (d : α) (m st en : Nat) (l : List α) : List α := if st < m /\ m < en then rotF d st m en l else l
def symX (lt : α -> α -> Bool) (d : α) (a m b : Nat) (l : List α) : List α :=
 if m - a = 1 then upS d (bsG (fun h => lt (l.getD h d) (l.getD a d)) (b - m) m b - 1 - a) a l
 else if b - m = 1 then downS d (m - bsG (fun h => !lt (l.getD m d) (l.getD h d)) (m - a) a m) m l
 else
  let st := symS lt d a m b l
  let mid := (a + b) / 2
  let en := mid + m - st
  let l1 := symR d m st en l
  let l2 := if a < st /\ st < mid then partB lt a mid l1 else l1
  if mid < en /\ en < b then partB lt mid b l2 else l2
theorem key_at {l : List α} {i j : Nat} (hs : SortK key l) (hij : i <= j) (hj : j < l.length) : key (l.getD i d) <= key (l.getD j d) := by
 rcases Nat.lt_or_ge i j with h | h
 ·have := List.pairwise_iff_getElem.1 hs i j (by omega) hj h
  simpa [List.getD_eq_getElem?_getD, List.getElem?_eq_getElem hj, List.getElem?_eq_getElem (show i < l.length by omega)] using this
 ·have : i = j := by omega
  subst this
  exact Int.le_refl _
theorem getD_mem {l : List α} {i : Nat} (h : i < l.length) : l.getD i d ∈ l := by
 simp [List.getD_eq_getElem?_getD, List.getElem?_eq_getElem h]
theorem ex_at {l : List α} {x : α} (h : x ∈ l) : ∃ i, i < l.length /\ l.getD i d = x := by
 obtain ⟨i, hi, rfl⟩ := List.getElem_of_mem h
 exact ⟨i, hi, by simp [List.getD_eq_getElem?_getD, List.getElem?_eq_getElem hi]⟩
theorem sym_parts {lt : α -> α -> Bool} {a m b : Nat} {p A B q : List α} (hp : p.length = a) (hA : A.length = m - a) (hB : B.length = b - m) (h1 : a < m) (h2 : m < b)
  (hl : LtK lt key (A ++ B)) (sA : SortK key A) (sB : SortK key B) :
  ∃ A1 A2 B1 B2, A = A1 ++ A2 /\ B = B1 ++ B2 /\ a + A1.length = symS lt d a m b (p ++ (A ++ (B ++ q))) /\ m + B1.length + symS lt d a m b (p ++ (A ++ (B ++ q))) = (a + b) / 2 + m /\
   (∀ x ∈ A1, ∀ y ∈ B2, key x <= key y) /\ (∀ y ∈ B1, ∀ x ∈ A2, key y < key x) := by
 have gA : ∀ i, i < A.length -> (p ++ (A ++ (B ++ q))).getD (a + i) d = A.getD i d := fun i hi => by rw [← hp]; exact getD_mid hi
 have gB : ∀ i, i < B.length -> (p ++ (A ++ (B ++ q))).getD (m + i) d = B.getD i d := fun i hi => by
  rw [show p ++ (A ++ (B ++ q)) = (p ++ A) ++ (B ++ q) by simp, show m = (p ++ A).length by simp; omega]
  exact getD_mid hi
 generalize hL : p ++ (A ++ (B ++ q)) = L at gA gB ⊢
 have hQ : ∀ c, a <= c -> c < m -> m <= (a + b) / 2 + m - 1 - c -> (a + b) / 2 + m - 1 - c < b ->
   (!lt (L.getD ((a + b) / 2 + m - 1 - c) d) (L.getD c d)) = decide (key (A.getD (c - a) d) <= key (B.getD ((a + b) / 2 + m - 1 - c - m) d)) := fun c c1 c2 c3 c4 => by
  have e1 := gA (c - a) (by omega)
  have e2 := gB ((a + b) / 2 + m - 1 - c - m) (by omega)
  rw [show a + (c - a) = c by omega] at e1
  rw [show m + ((a + b) / 2 + m - 1 - c - m) = (a + b) / 2 + m - 1 - c by omega] at e2
  rw [e1, e2, hl _ (List.mem_append_right _ (getD_mem (by omega))) _ (List.mem_append_left _ (getD_mem (by omega)))]
  rw [Bool.eq_iff_iff]
  simp
 generalize hs0 : (if (a + b) / 2 < m then (a + b) / 2 + m - b else a) = s0
 generalize hr0 : (if (a + b) / 2 < m then (a + b) / 2 else m) = r0
 have b1 : a <= s0 /\ s0 <= r0 /\ r0 <= m /\ r0 <= (a + b) / 2 /\ (a + b) / 2 + m <= b + s0 /\ (s0 = a ∨ s0 + b = (a + b) / 2 + m) /\ (r0 = m ∨ r0 = (a + b) / 2) := by
  subst hs0 hr0
  split <;> omega
 obtain ⟨c1, c2, c3, c4, c5, c6, c7⟩ := b1
 obtain ⟨r1, r2, r3, r4⟩ := bsG_spec (Q := fun c => !lt (L.getD ((a + b) / 2 + m - 1 - c) d) (L.getD c d)) (r0 - s0) s0 r0 (Nat.le_refl _) c2 (fun u v hu huv hv h => by
  rw [hQ v (by omega) (by omega) (by omega) (by omega)] at h
  rw [hQ u (by omega) (by omega) (by omega) (by omega)]
  simp only [decide_eq_true_eq] at h ⊢
  have k1 := key_at (d := d) sA (i := u - a) (j := v - a) (by omega) (by omega)
  have k2 := key_at (d := d) sB (i := (a + b) / 2 + m - 1 - v - m) (j := (a + b) / 2 + m - 1 - u - m) (by omega) (by omega)
  omega)
 have hS : symS lt d a m b L = bsG (fun c => !lt (L.getD ((a + b) / 2 + m - 1 - c) d) (L.getD c d)) (r0 - s0) s0 r0 := by
  unfold symS
  rw [hs0, hr0]
 rw [hS]
 generalize bsG (fun c => !lt (L.getD ((a + b) / 2 + m - 1 - c) d) (L.getD c d)) (r0 - s0) s0 r0 = st at r1 r2 r3 r4 ⊢
 refine ⟨A.take (st - a), A.drop (st - a), B.take ((a + b) / 2 - st), B.drop ((a + b) / 2 - st), by simp, by simp, ?_, ?_, ?_, ?_⟩
 ·simp; omega
 ·simp; omega
 ·intro x hx y hy
  obtain ⟨i, hi, rfl⟩ := ex_at (d := d) hx
  obtain ⟨j, hj, rfl⟩ := ex_at (d := d) hy
  simp at hi hj
  have e1 : (A.take (st - a)).getD i d = A.getD i d := by simp [List.getD_eq_getElem?_getD, show i < st - a by omega]
  have e2 : (B.drop ((a + b) / 2 - st)).getD j d = B.getD ((a + b) / 2 - st + j) d := by simp [List.getD_eq_getElem?_getD]
  rw [e1, e2]
  have hq := r3 (st - 1) (by omega) (by omega)
  rw [hQ (st - 1) (by omega) (by omega) (by omega) (by omega)] at hq
  simp only [decide_eq_true_eq] at hq
  have k1 := key_at (d := d) sA (i := i) (j := st - 1 - a) (by omega) (by omega)
  have k2 := key_at (d := d) sB (i := (a + b) / 2 + m - 1 - (st - 1) - m) (j := (a + b) / 2 - st + j) (by omega) (by omega)
  omega
 ·intro y hy x hx
  obtain ⟨i, hi, rfl⟩ := ex_at (d := d) hx
  obtain ⟨j, hj, rfl⟩ := ex_at (d := d) hy
  simp at hi hj
  have e1 : (A.drop (st - a)).getD i d = A.getD (st - a + i) d := by simp [List.getD_eq_getElem?_getD]
  have e2 : (B.take ((a + b) / 2 - st)).getD j d = B.getD j d := by simp [List.getD_eq_getElem?_getD, show j < (a + b) / 2 - st by omega]
  rw [e1, e2]
  have hq := r4 st (Nat.le_refl _) (by omega)
  rw [hQ st (by omega) (by omega) (by omega) (by omega)] at hq
  simp only [decide_eq_false_iff_not] at hq
  have k1 := key_at (d := d) sA (i := st - a) (j := st - a + i) (by omega) (by omega)
  have k2 := key_at (d := d) sB (i := j) (j := (a + b) / 2 + m - 1 - st - m) (by omega) (by omega)
  omega
theorem sort_two {lt : α -> α -> Bool} {A1 A2 B1 B2 : List α} (hl : LtK lt key ((A1 ++ A2) ++ (B1 ++ B2))) (sA : SortK key (A1 ++ A2)) (sB : SortK key (B1 ++ B2)) (h1 : ∀ x ∈ A1, ∀ y ∈ B2, key x <= key y) (h2 : ∀ y ∈ B1, ∀ x ∈ A2, key y < key x) :
  sortB lt (A1 ++ B1) ++ sortB lt (A2 ++ B2) = sortB lt ((A1 ++ A2) ++ (B1 ++ B2)) := by
 have l1 : LtK lt key (A1 ++ B1) := hl.sub fun z hz => by simp at hz ⊢; rcases hz with h | h <;> simp [h]
 have l2 : LtK lt key (A2 ++ B2) := hl.sub fun z hz => by simp at hz ⊢; rcases hz with h | h <;> simp [h]
 obtain ⟨s1, k1⟩ := sortB_sort l1
 obtain ⟨s2, k2⟩ := sortB_sort l2
 have pA := List.pairwise_append.1 sA
 have pB := List.pairwise_append.1 sB
 refine eq_sortB hl (List.pairwise_append.2 ⟨s1, s2, fun x hx y hy => ?_⟩) ?_
 ·rw [sortB_mem] at hx hy
  rcases List.mem_append.1 hx with hx | hx <;> rcases List.mem_append.1 hy with hy | hy
  ·exact pA.2.2 x hx y hy
  ·exact h1 x hx y hy
  ·exact Int.le_of_lt (h2 x hx y hy)
  ·exact pB.2.2 x hx y hy
 ·have e1 : SameK key (A1 ++ (A2 ++ B1) ++ B2) (A1 ++ (B1 ++ A2) ++ B2) := ((SameK.refl A1).app (SameK.swap fun x hx y hy => by have := h2 y hy x hx; omega)).app (SameK.refl B2)
  have e2 := k1.app k2
  have e1' : SameK key ((A1 ++ A2) ++ (B1 ++ B2)) ((A1 ++ B1) ++ (A2 ++ B2)) := by simpa using e1
  exact e1'.trans e2
theorem symX_eq {lt : α -> α -> Bool} {a m b : Nat} {p A B q : List α} (hp : p.length = a) (hA : A.length = m - a) (hB : B.length = b - m) (h1 : a < m) (h2 : m < b)
  (hl : LtK lt key (A ++ B)) (sA : SortK key A) (sB : SortK key B) : symX lt d a m b (p ++ (A ++ (B ++ q))) = p ++ (sortB lt (A ++ B) ++ q) := by
 unfold symX
 split
 ·
  rename_i hm
  cases A with
  | nil => simp at hA; omega
  | cons x A =>
   obtain rfl : A = [] := by simp at hA; exact List.length_eq_zero_iff.1 (by omega)
   have gx : (p ++ ([x] ++ (B ++ q))).getD a d = x := by subst hp; simp [List.getD_eq_getElem?_getD]
   have gB : ∀ i, i < B.length -> (p ++ ([x] ++ (B ++ q))).getD (m + i) d = B.getD i d := fun i hi => by
    rw [show p ++ ([x] ++ (B ++ q)) = (p ++ [x]) ++ (B ++ q) by simp, show m = (p ++ [x]).length by simp; omega]
    exact getD_mid hi
   have hQ : ∀ k, m <= k -> k < b -> lt ((p ++ ([x] ++ (B ++ q))).getD k d) ((p ++ ([x] ++ (B ++ q))).getD a d) = decide (key (B.getD (k - m) d) < key x) := fun k k1 k2 => by
    have := gB (k - m) (by omega)
    rw [show m + (k - m) = k by omega] at this
    rw [this, gx]
    exact hl _ (List.mem_append_right _ (getD_mem (by omega))) _ (by simp)
   obtain ⟨r1, r2, r3, r4⟩ := bsG_spec (Q := fun h => lt ((p ++ ([x] ++ (B ++ q))).getD h d) ((p ++ ([x] ++ (B ++ q))).getD a d)) (b - m) m b (Nat.le_refl _) (by omega) (fun u v hu huv hv h => by
    rw [hQ v (by omega) hv] at h
    rw [hQ u hu (by omega)]
    simp only [decide_eq_true_eq] at h ⊢
    have := key_at (d := d) sB (i := u - m) (j := v - m) (by omega) (by omega)
    omega)
   generalize bsG (fun h => lt ((p ++ ([x] ++ (B ++ q))).getD h d) ((p ++ ([x] ++ (B ++ q))).getD a d)) (b - m) m b = r at r1 r2 r3 r4 ⊢
   obtain ⟨B1, B2, rfl, hB1⟩ : ∃ B1 B2, B = B1 ++ B2 /\ B1.length = r - m := ⟨B.take (r - m), B.drop (r - m), by simp, by simp; omega⟩
   have hB' : B1.length + B2.length = b - m := by simpa using hB
   have f1 : ∀ y ∈ B1, key y < key x := fun y hy => by
    obtain ⟨j, hj, rfl⟩ := ex_at (d := d) hy
    have := r3 (m + j) (by omega) (by omega)
    rw [hQ (m + j) (by omega) (by omega)] at this
    simp only [decide_eq_true_eq, Nat.add_sub_cancel_left] at this
    rwa [show (B1 ++ B2).getD j d = B1.getD j d by simp [List.getD_eq_getElem?_getD, List.getElem?_append_left hj]] at this
   have f2 : ∀ y ∈ B2, key x <= key y := fun y hy => by
    obtain ⟨j, hj, rfl⟩ := ex_at (d := d) hy
    have := r4 (r + j) (by omega) (by omega)
    rw [hQ (r + j) (by omega) (by omega)] at this
    simp only [decide_eq_false_iff_not] at this
    rw [show (B1 ++ B2).getD (r + j - m) d = B2.getD j d by
     simp only [List.getD_eq_getElem?_getD]
     rw [List.getElem?_append_right (by omega), show r + j - m - B1.length = j by omega]] at this
    omega
   rw [show r - 1 - a = B1.length by omega]
   have hup := upS_eq (d := d) (x := x) B1 p (B2 ++ q)
   rw [hp] at hup
   have e0 : p ++ ([x] ++ (B1 ++ B2 ++ q)) = p ++ (x :: (B1 ++ (B2 ++ q))) := by simp
   rw [e0, hup]
   have pB := List.pairwise_append.1 sB
   have hS : B1 ++ (x :: B2) = sortB lt ([x] ++ (B1 ++ B2)) := by
    refine eq_sortB hl (List.pairwise_append.2 ⟨pB.1, List.pairwise_cons.2 ⟨fun y hy => f2 y hy, pB.2.1⟩, fun y hy z hz => ?_⟩) ?_
    ·rcases List.mem_cons.1 hz with rfl | hz
     ·exact Int.le_of_lt (f1 y hy)
     ·exact pB.2.2 y hy z hz
    ·have e1 : SameK key (([x] ++ B1) ++ B2) ((B1 ++ [x]) ++ B2) := (SameK.swap fun u hu y hy => by simp at hu; subst hu; have := f1 y hy; omega).app (SameK.refl B2)
     simpa using e1
   rw [← hS]
   simp
 ·split
  ·
   rename_i _ hm
   cases B with
   | nil => simp at hB; omega
   | cons x B =>
    obtain rfl : B = [] := by simp at hB; exact List.length_eq_zero_iff.1 (by omega)
    have gx : (p ++ (A ++ ([x] ++ q))).getD m d = x := by
     rw [show p ++ (A ++ ([x] ++ q)) = (p ++ A) ++ (x :: q) by simp, show m = (p ++ A).length by simp; omega]
     simp only [List.getD_eq_getElem?_getD]
     rw [List.getElem?_append_right (Nat.le_refl _)]
     simp
    have gA : ∀ i, i < A.length -> (p ++ (A ++ ([x] ++ q))).getD (a + i) d = A.getD i d := fun i hi => by rw [← hp]; exact getD_mid hi
    have hQ : ∀ k, a <= k -> k < m -> (!lt ((p ++ (A ++ ([x] ++ q))).getD m d) ((p ++ (A ++ ([x] ++ q))).getD k d)) = decide (key (A.getD (k - a) d) <= key x) := fun k k1 k2 => by
     have := gA (k - a) (by omega)
     rw [show a + (k - a) = k by omega] at this
     rw [this, gx, hl _ (List.mem_append_right _ (by simp)) _ (List.mem_append_left _ (getD_mem (by omega))), Bool.eq_iff_iff]
     simp
    obtain ⟨r1, r2, r3, r4⟩ := bsG_spec (Q := fun h => !lt ((p ++ (A ++ ([x] ++ q))).getD m d) ((p ++ (A ++ ([x] ++ q))).getD h d)) (m - a) a m (Nat.le_refl _) (by omega) (fun u v hu huv hv h => by
     rw [hQ v (by omega) hv] at h
     rw [hQ u hu (by omega)]
     simp only [decide_eq_true_eq] at h ⊢
     have := key_at (d := d) sA (i := u - a) (j := v - a) (by omega) (by omega)
     omega)
    generalize bsG (fun h => !lt ((p ++ (A ++ ([x] ++ q))).getD m d) ((p ++ (A ++ ([x] ++ q))).getD h d)) (m - a) a m = r at r1 r2 r3 r4 ⊢
    obtain ⟨A1, A2, rfl, hA1⟩ : ∃ A1 A2, A = A1 ++ A2 /\ A1.length = r - a := ⟨A.take (r - a), A.drop (r - a), by simp, by simp; omega⟩
    have hA' : A1.length + A2.length = m - a := by simpa using hA
    have f1 : ∀ y ∈ A1, key y <= key x := fun y hy => by
     obtain ⟨j, hj, rfl⟩ := ex_at (d := d) hy
     have := r3 (a + j) (by omega) (by omega)
     rw [hQ (a + j) (by omega) (by omega)] at this
     simp only [decide_eq_true_eq, Nat.add_sub_cancel_left] at this
     rwa [show (A1 ++ A2).getD j d = A1.getD j d by simp [List.getD_eq_getElem?_getD, List.getElem?_append_left hj]] at this
    have f2 : ∀ y ∈ A2, key x < key y := fun y hy => by
     obtain ⟨j, hj, rfl⟩ := ex_at (d := d) hy
     have := r4 (r + j) (by omega) (by omega)
     rw [hQ (r + j) (by omega) (by omega)] at this
     simp only [decide_eq_false_iff_not] at this
     rw [show (A1 ++ A2).getD (r + j - a) d = A2.getD j d by
      simp only [List.getD_eq_getElem?_getD]
      rw [List.getElem?_append_right (by omega), show r + j - a - A1.length = j by omega]] at this
     omega
    have hdn := downS_eq (d := d) (x := x) A2.length A2 (p ++ A1) q rfl
    have e0 : p ++ (A1 ++ A2 ++ ([x] ++ q)) = (p ++ A1) ++ (A2 ++ (x :: q)) := by simp
    have e1 : m = (p ++ A1).length + A2.length := by simp; omega
    rw [e0, show m - r = A2.length by omega]
    rw [← e1] at hdn
    rw [hdn]
    have pA := List.pairwise_append.1 sA
    have hS : A1 ++ (x :: A2) = sortB lt ((A1 ++ A2) ++ [x]) := by
     refine eq_sortB hl (List.pairwise_append.2 ⟨pA.1, List.pairwise_cons.2 ⟨fun y hy => Int.le_of_lt (f2 y hy), pA.2.1⟩, fun y hy z hz => ?_⟩) ?_
     ·rcases List.mem_cons.1 hz with rfl | hz
      ·exact f1 y hy
      ·exact pA.2.2 y hy z hz
     ·have e1 : SameK key (A1 ++ (A2 ++ [x])) (A1 ++ ([x] ++ A2)) := (SameK.refl A1).app (SameK.swap fun u hu y hy => by simp at hy; subst hy; have := f2 u hu; omega)
      simpa using e1
    rw [← hS]
    simp
  ·
   obtain ⟨A1, A2, B1, B2, rfl, rfl, e1, e2, f1, f2⟩ := sym_parts (d := d) (q := q) hp hA hB h1 h2 hl sA sB
   simp only
   generalize symS lt d a m b (p ++ (A1 ++ A2 ++ (B1 ++ B2 ++ q))) = st at e1 e2 ⊢
   simp only [List.length_append] at hA hB
   have hen : (a + b) / 2 + m - st = m + B1.length := by omega
   rw [hen]
   have hR : symR d m st (m + B1.length) (p ++ (A1 ++ A2 ++ (B1 ++ B2 ++ q))) = p ++ (A1 ++ B1 ++ (A2 ++ B2 ++ q)) := by
    unfold symR
    split
    ·rename_i hc
     have := rotF_eq (d := d) (a := st) (m := m) (b := m + B1.length) (x := A2) (y := B1) (p := p ++ A1) (q := B2 ++ q) (by omega) (by omega) (by simp; omega) (by omega) rfl
     simpa using this
    ·rename_i hc
     by_cases hb1 : B1 = []
     ·subst hb1; simp
     ·have := List.length_pos_iff.2 hb1
      have : A2 = [] := List.length_eq_zero_iff.1 (by omega)
      subst this; simp
   rw [hR]
   have l1 : LtK lt key (A1 ++ B1) := hl.sub fun z hz => by simp at hz ⊢; rcases hz with h | h <;> simp [h]
   have l2 : LtK lt key (A2 ++ B2) := hl.sub fun z hz => by simp at hz ⊢; rcases hz with h | h <;> simp [h]
   have pA := List.pairwise_append.1 sA
   have pB := List.pairwise_append.1 sB
   have hmid : (a + b) / 2 = a + (A1.length + B1.length) := by omega
   have hL : (if a < st /\ st < (a + b) / 2 then partB lt a ((a + b) / 2) (p ++ (A1 ++ B1 ++ (A2 ++ B2 ++ q))) else p ++ (A1 ++ B1 ++ (A2 ++ B2 ++ q))) = p ++ (sortB lt (A1 ++ B1) ++ (A2 ++ B2 ++ q)) := by
    split
    ·exact partB_eq hp (by simp; omega)
    ·rename_i hc
     have : sortB lt (A1 ++ B1) = A1 ++ B1 := by
      refine sortB_self l1 ?_
      by_cases ha1 : A1 = []
      ·subst ha1; simpa [SortK] using pB.1
      ·have := List.length_pos_iff.2 ha1
       have : B1 = [] := List.length_eq_zero_iff.1 (by omega)
       subst this
       simpa [SortK] using pA.1
     rw [this]
   rw [hL]
   have hRt : (if (a + b) / 2 < m + B1.length /\ m + B1.length < b then partB lt ((a + b) / 2) b (p ++ (sortB lt (A1 ++ B1) ++ (A2 ++ B2 ++ q))) else p ++ (sortB lt (A1 ++ B1) ++ (A2 ++ B2 ++ q))) = p ++ (sortB lt (A1 ++ B1) ++ (sortB lt (A2 ++ B2) ++ q)) := by
    split
    ·have := partB_eq (lt := lt) (a := (a + b) / 2) (b := b) (p := p ++ sortB lt (A1 ++ B1)) (s := A2 ++ B2) (q := q) (by simp [sortB_length]; omega) (by simp [sortB_length]; omega)
     simpa using this
    ·rename_i hc
     have : sortB lt (A2 ++ B2) = A2 ++ B2 := by
      refine sortB_self l2 ?_
      by_cases ha1 : A2 = []
      ·subst ha1; simpa [SortK] using pB.2.1
      ·have := List.length_pos_iff.2 ha1
       have : B2 = [] := List.length_eq_zero_iff.1 (by omega)
       subst this
       simpa [SortK] using pA.2.1
     rw [this]
   rw [hRt, ← sort_two hl sA sB f1 f2]
   simp
end
end Go.Ab

namespace Go.Ab
section
variable {α : Type} {key : α -> Int}
theorem seg_before {lt : α -> α -> Bool} {a b a' b' : Nat} {l : List α} (h1 : b' <= a) (h2 : a <= l.length) : seg a' b' (partB lt a b l) = seg a' b' l := by
 unfold seg partB
 rw [List.take_append_of_le_length (by simp; omega), List.take_take, Nat.min_eq_left h1]
theorem seg_length {a b : Nat} {l : List α} : (seg a b l).length = min b l.length - a := by simp [seg]
theorem seg_same {lt : α -> α -> Bool} {a b : Nat} {l : List α} (h1 : a <= b) (h2 : b <= l.length) : seg a b (partB lt a b l) = sortB lt (seg a b l) := by
 unfold partB
 exact seg_eq (by simp; omega) (by rw [sortB_length]; simp; omega)
theorem drop_partB {lt : α -> α -> Bool} {a b c : Nat} {l : List α} (h1 : a <= b) (h2 : b <= l.length) (h3 : b <= c) : (partB lt a b l).drop c = l.drop c := by
 unfold partB
 rw [← List.append_assoc, List.drop_append, List.drop_eq_nil_of_le (by simp [sortB_length]; omega)]
 simp [sortB_length]
 congr 1
 omega
theorem seg_of_drop {a b c : Nat} {l s : List α} (h : l.drop c = s.drop c) (hc : c <= a) : seg a b l = seg a b s := by
 unfold seg
 rw [List.drop_take, List.drop_take]
 have : ∀ t : List α, t.drop a = (t.drop c).drop (a - c) := fun t => by rw [List.drop_drop]; congr 1; omega
 rw [this l, this s, h]
def BlkS (key : α -> Int) (w : Nat) (l : List α) : Prop := ∀ k, SortK key (seg (k * w) (k * w + w) l)
def blkW (lt : α -> α -> Bool) (w n : Nat) : Nat -> Nat -> List α -> Nat × List α
 | 0, a, l => (a, l)
 | f + 1, a, l => if a + w <= n then blkW lt w n f (a + w) (partB lt a (a + w) l) else (a, l)
structure BlkW (key : α -> Int) (w n : Nat) (l : List α) (r : Nat × List α) : Prop where
 mul : ∃ c, r.1 = c * w
 le : r.1 <= n
 lt : n < r.1 + w
 len : r.2.length = n
 same : SameK key l r.2
 drop : r.2.drop r.1 = l.drop r.1
 done : ∀ k, k * w + w <= r.1 -> SortK key (seg (k * w) (k * w + w) r.2)
theorem blkW_spec {lt : α -> α -> Bool} {w n : Nat} (hw : 0 < w) : (f a : Nat) -> (l : List α) -> n < f + a -> a <= n -> l.length = n -> (∃ c, a = c * w) -> LtK lt key l -> (∀ k, k * w + w <= a -> SortK key (seg (k * w) (k * w + w) l)) ->
  BlkW key w n l (blkW lt w n f a l)
 | 0, a, l, h, ha, _, _, _, _ => by omega
 | f + 1, a, l, h, ha, hn, ⟨c, hc⟩, hl, hd => by
  simp only [blkW]
  split
  ·rename_i hle
   have hsame := partB_same (key := key) (lt := lt) (a := a) (b := a + w) (by omega) (by omega) hl
   have hseg : SortK key (seg a (a + w) (partB lt a (a + w) l)) := by
    rw [seg_same (by omega) (by omega)]
    refine (sortB_sort (hl.sub fun z hz => ?_)).1
    exact List.mem_of_mem_take (List.mem_of_mem_drop hz)
   have r := blkW_spec hw f (a + w) (partB lt a (a + w) l) (by omega) hle (by rw [partB_length (by omega) (by omega)]; exact hn) ⟨c + 1, by rw [hc, Nat.succ_mul]⟩ (hl.sub fun z hz => hsame.mem.1 hz) (fun k hk => by
    rcases Nat.lt_trichotomy k c with h | h | h
    ·have h1 : (k + 1) * w <= c * w := Nat.mul_le_mul_right _ h
     rw [Nat.succ_mul] at h1
     rw [seg_before (by omega) (by omega)]
     exact hd k (by omega)
    ·subst h
     rw [← hc]
     exact hseg
    ·have h1 : (c + 1) * w <= k * w := Nat.mul_le_mul_right _ h
     rw [Nat.succ_mul] at h1
     omega)
   refine ⟨r.mul, r.le, r.lt, r.len, hsame.trans r.same, ?_, r.done⟩
   rw [r.drop]
   obtain ⟨c', hc'⟩ := r.mul
   have : a + w <= (blkW lt w n f (a + w) (partB lt a (a + w) l)).1 := by
    clear r hc' c'
    have : ∀ (f a : Nat) (l : List α), a <= (blkW lt w n f a l).1 := by
     intro f
     induction f with
     | zero => intro a l; exact Nat.le_refl _
     | succ f ih =>
      intro a l
      simp only [blkW]
      split
      ·exact Nat.le_trans (by omega) (ih _ _)
      ·exact Nat.le_refl _
    exact this _ _ _
   exact drop_partB (by omega) (by omega) this
  ·exact ⟨⟨c, hc⟩, ha, by omega, hn, SameK.refl _, rfl, fun k hk => hd k hk⟩
theorem BlkW.last {lt : α -> α -> Bool} {w n : Nat} {l : List α} {r : Nat × List α} (h : BlkW key w n l r) (hl : LtK lt key l) : BlkS key w (partB lt r.1 n r.2) /\ SameK key l (partB lt r.1 n r.2) /\ (partB lt r.1 n r.2).length = n := by
 have hlen := h.len
 have hl2 : LtK lt key r.2 := hl.sub fun z hz => h.same.mem.1 hz
 refine ⟨fun k => ?_, h.same.trans (partB_same h.le (by omega) hl2), by rw [partB_length h.le (by omega)]; exact hlen⟩
 obtain ⟨c, hc⟩ := h.mul
 have hle := h.le
 have hlt := h.lt
 rcases Nat.lt_trichotomy k c with hk | hk | hk
 ·have h1 : (k + 1) * w <= c * w := Nat.mul_le_mul_right _ hk
  rw [Nat.succ_mul] at h1
  rw [seg_before (by omega) (by omega)]
  exact h.done k (by omega)
 ·subst hk
  rw [← hc]
  have : seg r.1 (r.1 + w) (partB lt r.1 n r.2) = seg r.1 n (partB lt r.1 n r.2) := by
   have e := partB_length (lt := lt) h.le (Nat.le_of_eq hlen.symm)
   unfold seg
   rw [List.take_of_length_le (by omega), List.take_of_length_le (by omega)]
  rw [this, seg_same h.le (by omega)]
  exact (sortB_sort (hl2.sub fun z hz => List.mem_of_mem_take (List.mem_of_mem_drop hz))).1
 ·have h1 : (c + 1) * w <= k * w := Nat.mul_le_mul_right _ hk
  rw [Nat.succ_mul] at h1
  have : seg (k * w) (k * w + w) (partB lt r.1 n r.2) = [] := by
   have e := partB_length (lt := lt) h.le (Nat.le_of_eq hlen.symm)
   apply List.eq_nil_of_length_eq_zero
   rw [seg_length]
   omega
  rw [this]
  exact List.Pairwise.nil
def passB (lt : α -> α -> Bool) (w n : Nat) (l : List α) : List α :=
 let r := blkW lt (2 * w) n (n + 1) 0 l
 if r.1 + w < n then partB lt r.1 n r.2 else r.2
theorem passB_spec {lt : α -> α -> Bool} {w n : Nat} {l : List α} (hw : 0 < w) (hn : l.length = n) (hl : LtK lt key l) (hb : BlkS key w l) :
  BlkS key (2 * w) (passB lt w n l) /\ SameK key l (passB lt w n l) /\ (passB lt w n l).length = n := by
 have r := blkW_spec (key := key) (lt := lt) (w := 2 * w) (n := n) (by omega) (n + 1) 0 l (by omega) (by omega) hn ⟨0, by simp⟩ hl (fun k hk => by omega)
 unfold passB
 generalize blkW lt (2 * w) n (n + 1) 0 l = r0 at r ⊢
 simp only
 split
 ·exact r.last hl
 ·rename_i hc
  refine ⟨fun k => ?_, r.same, r.len⟩
  obtain ⟨c, hcc⟩ := r.mul
  have hle := r.le
  have hlt := r.lt
  have hlen := r.len
  rcases Nat.lt_trichotomy k c with hk | hk | hk
  ·have h1 : (k + 1) * (2 * w) <= c * (2 * w) := Nat.mul_le_mul_right _ hk
   rw [Nat.succ_mul] at h1
   exact r.done k (by omega)
  ·subst hk
   have h1 : k * (2 * w) = (2 * k) * w := by rw [Nat.mul_comm 2 k, Nat.mul_assoc]
   have h2 : seg (k * (2 * w)) (k * (2 * w) + 2 * w) r0.2 = seg ((2 * k) * w) ((2 * k) * w + w) r0.2 := by
    rw [← h1]
    unfold seg
    rw [List.take_of_length_le (by omega), List.take_of_length_le (by omega)]
   rw [h2, seg_of_drop (c := r0.1) r.drop (by omega)]
   exact hb (2 * k)
  ·have h1 : (c + 1) * (2 * w) <= k * (2 * w) := Nat.mul_le_mul_right _ hk
   rw [Nat.succ_mul] at h1
   have : seg (k * (2 * w)) (k * (2 * w) + 2 * w) r0.2 = [] := by
    apply List.eq_nil_of_length_eq_zero
    rw [seg_length]
    omega
   rw [this]
   exact List.Pairwise.nil
def passes (lt : α -> α -> Bool) (n : Nat) : Nat -> Nat -> List α -> List α
 | 0, _, l => l
 | f + 1, w, l => if w < n then passes lt n f (2 * w) (passB lt w n l) else l
theorem passes_spec {lt : α -> α -> Bool} {n : Nat} : (f w : Nat) -> (l : List α) -> 0 < w -> n <= f + w -> l.length = n -> LtK lt key l -> BlkS key w l -> passes lt n f w l = sortB lt l
 | 0, w, l, hw, hf, hn, hl, hb => by
  simp only [passes]
  refine eq_sortB hl ?_ (SameK.refl l)
  have := hb 0
  unfold seg at this
  simpa [List.take_of_length_le (show l.length <= w by omega)] using this
 | f + 1, w, l, hw, hf, hn, hl, hb => by
  simp only [passes]
  split
  ·obtain ⟨h1, h2, h3⟩ := passB_spec hw hn hl hb
   rw [passes_spec f (2 * w) _ (by omega) (by omega) h3 (hl.sub fun z hz => h2.mem.1 hz) h1]
   obtain ⟨k1, k2⟩ := sortB_sort (l := passB lt w n l) (hl.sub fun z hz => h2.mem.1 hz)
   exact eq_sortB hl k1 (h2.trans k2)
  ·refine eq_sortB hl ?_ (SameK.refl l)
   have := hb 0
   unfold seg at this
   simpa [List.take_of_length_le (show l.length <= w by omega)] using this
def stableB (lt : α -> α -> Bool) (l : List α) : List α :=
 let r := blkW lt 20 l.length (l.length + 1) 0 l
 passes lt l.length l.length 20 (partB lt r.1 l.length r.2)
theorem stableB_eq {lt : α -> α -> Bool} {l : List α} (hl : LtK lt key l) : stableB lt l = sortB lt l := by
 have r := blkW_spec (key := key) (lt := lt) (w := 20) (n := l.length) (by omega) (l.length + 1) 0 l (by omega) (by omega) rfl ⟨0, by simp⟩ hl (fun k hk => by omega)
 unfold stableB
 obtain ⟨h1, h2, h3⟩ := r.last hl
 simp only
 rw [passes_spec _ 20 _ (by omega) (by omega) h3 (hl.sub fun z hz => h2.mem.1 hz) h1]
 obtain ⟨k1, k2⟩ := sortB_sort (hl.sub fun z hz => h2.mem.1 hz)
 exact eq_sortB hl k1 (h2.trans k2)
end
end Go.Ab

namespace Go.Ab
open Go Go.RowKit
def Tr.jn (l : Nat) : Tr -> Tr
 | .leaf (.jump i) s => if i = l then .leaf .normal s else .need False (.leaf .ret s)
 | .leaf .normal s => .need False (.leaf .ret s)
 | .leaf e s => .leaf e s
 | .br b x y => .br b (x.jn l) (y.jn l)
 | .need p x => .need p (x.jn l)
 | .two p x y => .two p (x.jn l) (y.jn l)
theorem Tr.sat_jn {l : Nat} {Q : XE -> St -> Prop} : {t : Tr} -> (t.jn l).sat Q -> t.sat fun e s => match e with
  | .jump i => i = l /\ Q .normal s
  | .normal => False
  | e => Q e s
 | .leaf e s, hq => by
  cases e with
  | normal => exact hq.1
  | exit i => exact hq
  | ret => exact hq
  | panic p => exact hq
  | val v => exact hq
  | jump i =>
   simp only [Tr.jn] at hq
   split at hq
   ·rename_i h
    exact ⟨h, hq⟩
   ·exact hq.1.elim
 | .br b x y, hq => ⟨fun hb => Tr.sat_jn (hq.1 hb), fun hb => Tr.sat_jn (hq.2 hb)⟩
 | .need p x, hq => ⟨hq.1, Tr.sat_jn hq.2⟩
 | .two p x y, hq => ⟨fun hb => Tr.sat_jn (hq.1 hb), Tr.sat_jn hq.2⟩
def AfterJ (P : Program) (E : Env) (l : Nat) (p : Pt) (Q : p.Out -> Prop) (e : Exit) (a : Act) (w : World) : Prop :=
 ∃ r, Q r /\ match r with
  | .next m => e = .goto l /\ I P E (p.M.tpl p.n m) a w
  | .out y => e = .exit p.id /\ I P E (p.E.tpl p.n y) a w
  | .back z => e = .ret /\ I P E (p.R.tpl p.n z) a w
  | .pan v => e = .panic [{ v := v.val, recovered := false }] /\ ∃ s, s.n = p.n /\ I P E s a w
def DoesJ (P : Program) (l : Nat) (c : Code) (L : LS) (p : Pt) (f : L.X -> Fr p.Out) : Prop :=
 ∀ (E : Env) (a : Act) (w : World) (x : L.X) (Q : p.Out -> Prop), I P E (L.tpl p.n x) a w -> (f x).satP Q -> c.wp P (AfterJ P E l p Q) a w
def runPieceJ (P : Program) (C : Cx) (bs : Nat) (Λ : Nat -> St -> Option Tr) (l : Nat) (c : Code) (L : LS) (p : Pt) (x : L.X) : Option (Fr p.Out) :=
 match codeA P C bs Λ c 0 (L.tpl p.n x) with
 | some t => p.lp.rdOf C.Γ (t.jn l)
 | none => none
def RunOK (P : Program) (E : Env) (c : Code) (run : St -> Option Tr) : Prop :=
 ∀ s t, run s = some t -> ∀ Q : XE -> St -> Prop, t.sat Q -> ∀ (a : Act) (w : World), I P E s a w -> c.wp P (After P E Q) a w
def thenA (r1 r2 : St -> Option Tr) (s : St) : Option Tr :=
 match r1 s with
 | some t => t.bind r2
 | none => none
def runFx (P : Program) (run : St -> Option Tr) (fn : Func) (ps : List PT) (rs : List Ty) (xs : denP ps) : Option (Fr (denL rs)) :=
 if (fn.name == "runtime.NumGoroutine") = false /\ ps.length <= fn.ntmps then match run (startA fn.ntmps (encPs ps xs)) with
  | some t => frOf P fn.results.toList rs t
  | none => none
 else none
section
variable {P : Program} {E : Env}
theorem DoesJ.of_run {C : Cx} (hC : CxOK P C) {bs l : Nat} {Λ : Nat -> St -> Option Tr} {c : Code} {L : LS} {p : Pt} (hM : p.M.low = true) (hE : p.E.low = true) (hR : p.R.low = true) (hΛ : ∀ E, LamOK P E Λ c 0) {f : L.X -> Fr p.Out}
  (hr : ∀ x, runPieceJ P C bs Λ l c L p x = some (f x)) : DoesJ P l c L p f := by
 intro E a w x Q hi hq
 have hrx := hr x
 unfold runPieceJ at hrx
 split at hrx <;> try (cases hrx; done)
 rename_i t ht
 have hsat := Tr.sat_jn (p.lp.rd_sat hrx hq)
 refine wp_mono (codeA_sound hC c 0 (hΛ E) ht hsat hi) ?_
 rintro e a' w' ⟨xe, s', rfl, his, hqs⟩
 cases xe with
 | normal => exact hqs.elim
 | exit i =>
  obtain ⟨rfl, hn', y, n', hy, hn, hqy⟩ := hqs
  have := ext_sound hC.ct hE his hy hn
  rw [hn'] at this
  exact ⟨.out y, hqy, rfl, this⟩
 | ret =>
  obtain ⟨hn', y, n', hy, hn, hqy⟩ := hqs
  have := ext_sound hC.ct hR his hy hn
  rw [hn'] at this
  exact ⟨.back y, hqy, rfl, this⟩
 | panic v => exact ⟨.pan v, hqs.2, rfl, s', hqs.1, his⟩
 | val _ => exact hqs.elim
 | jump _ =>
  obtain ⟨rfl, hn', y, n', hy, hn, hqy⟩ := hqs
  have := ext_sound hC.ct hM his hy hn
  rw [hn'] at this
  exact ⟨.next y, hqy, rfl, this⟩
theorem DoesJ.scope {c rest : Code} {L N Eo R : LS} {n id l : Nat} {f : L.X -> Fr (Rd L.X Eo.X R.X)} (hf : findLabel c l = some rest) (h1 : DoesJ P l c L ⟨n, id, L, Eo, R⟩ f) (h2 : DoesJ P l rest L ⟨n, id, L, Eo, R⟩ f)
  {F : L.X -> Fr (Rd N.X Eo.X R.X)} {inv : L.X -> Prop} {μ : L.X -> Nat}
  (hlaw : ∀ x, inv x -> ∀ Q : Rd N.X Eo.X R.X -> Prop, (F x).satP Q -> (f x).satP fun
   | .next x' => inv x' /\ μ x' < μ x /\ (F x').satP Q
   | .out y => Q (.out y)
   | .back z => Q (.back z)
   | .pan p => Q (.pan p)) (hinv : ∀ x Q, (F x).satP Q -> inv x) : Does P (.scope c) L ⟨n, id, N, Eo, R⟩ F := by
 intro E a w x Q hi hq
 have key : ∀ x a w (c' : Code) (J : Nat -> Act -> World -> Prop), (∀ a w (x' : L.X), inv x' -> μ x' < μ x -> I P E (L.tpl n x') a w -> (F x').satP Q -> ∃ m, m < μ x /\ J m a w) -> DoesJ P l c' L ⟨n, id, L, Eo, R⟩ f -> inv x -> I P E (L.tpl n x) a w -> (F x).satP Q ->
   c'.wp P (Exit.jump l (fun a w => ∃ m, m < μ x /\ J m a w) (AfterR P E ⟨n, id, N, Eo, R⟩ Q)) a w := by
  intro x a w c' J hJ h hx hix hFx
  refine wp_mono (h E a w x _ hix (hlaw x hx Q hFx)) ?_
  rintro e a' w' ⟨r, hr, hm⟩
  cases r with
  | next x' =>
   obtain ⟨rfl, hi'⟩ := hm
   exact ⟨rfl, hJ a' w' x' hr.1 hr.2.1 hi' hr.2.2⟩
  | out y =>
   obtain ⟨rfl, hi'⟩ := hm
   exact ⟨.out y, hr, rfl, hi'⟩
  | back z =>
   obtain ⟨rfl, hi'⟩ := hm
   exact ⟨.back z, hr, rfl, hi'⟩
  | pan v =>
   obtain ⟨rfl, hi'⟩ := hm
   exact ⟨.pan v, hr, rfl, hi'⟩
 have hmono : ∀ {J J' : Act -> World -> Prop} {c' : Code} {a : Act} {w : World}, (∀ a w, J a w -> J' a w) -> c'.wp P (Exit.jump l J (AfterR P E ⟨n, id, N, Eo, R⟩ Q)) a w -> c'.wp P (Exit.jump l J' (AfterR P E ⟨n, id, N, Eo, R⟩ Q)) a w := by
  intro J J' c' a w hJ h
  refine wp_mono h fun e a' w' he => ?_
  cases e with
  | goto l' => exact ⟨he.1, hJ _ _ he.2⟩
  | _ => exact he
 refine wp_scope_jumps l (fun a w => ∃ m, ∃ x, inv x /\ μ x = m /\ I P E (L.tpl n x) a w /\ (F x).satP Q) (fun a w => leastOf fun m => ∃ x, inv x /\ μ x = m /\ I P E (L.tpl n x) a w /\ (F x).satP Q) hf ?_ ?_
 ·exact hmono (fun a w ⟨m, _, h⟩ => ⟨m, h⟩) (key x a w c (fun m a w => ∃ x, inv x /\ μ x = m /\ I P E (L.tpl n x) a w /\ (F x).satP Q) (fun a w x' q1 q2 q3 q4 => ⟨μ x', q2, x', q1, rfl, q3, q4⟩) h1 (hinv x Q hq) hi hq)
 ·rintro a w ⟨m, hm⟩
  obtain ⟨⟨x', q1, q2, q3, q4⟩, _⟩ := leastOf_spec (p := fun m => ∃ x, inv x /\ μ x = m /\ I P E (L.tpl n x) a w /\ (F x).satP Q) ⟨m, hm⟩
  refine hmono (fun a1 w1 ⟨m1, r1, r2⟩ => ⟨⟨m1, r2⟩, ?_⟩) (key x' a w rest (fun m a w => ∃ x, inv x /\ μ x = m /\ I P E (L.tpl n x) a w /\ (F x).satP Q) (fun a w x' q1 q2 q3 q4 => ⟨μ x', q2, x', q1, rfl, q3, q4⟩) h2 q1 q3 q4)
  rw [← q2]
  exact Nat.lt_of_le_of_lt ((leastOf_spec (p := fun m => ∃ x, inv x /\ μ x = m /\ I P E (L.tpl n x) a1 w1 /\ (F x).satP Q) ⟨m1, r2⟩).2 m1 r2) r1
theorem Does.run {C : Cx} (hC : CxOK P C) {c : Code} {L : LS} {p : Pt} {F : L.X -> Fr p.Out} (hL : L.low = true) (h : Does P c L p F) : RunOK P E c (p.han C.Γ L F) := by
 intro s t hs Q hq a w hi
 unfold Pt.han at hs
 split at hs <;> try (cases hs; done)
 rename_i hsn
 split at hs <;> try (cases hs; done)
 rename_i x n hx
 simp only [Option.some.injEq] at hs
 subst hs
 obtain ⟨hq1, hq2⟩ := needL_sat _ hq
 have hi' := ext_sound hC.ct hL hi hx hq1
 rw [hsn] at hi'
 refine wp_mono (h E a w x _ hi' (p.toTr_sat hq2)) ?_
 rintro e a' w' ⟨r, hr, hm⟩
 cases r with
 | next m =>
  obtain ⟨rfl, hi'⟩ := hm
  exact ⟨.normal, _, rfl, hi', hr⟩
 | out y =>
  obtain ⟨rfl, hi'⟩ := hm
  exact ⟨.exit p.id, _, rfl, hi', hr⟩
 | back z =>
  obtain ⟨rfl, hi'⟩ := hm
  exact ⟨.ret, _, rfl, hi', hr⟩
 | pan v =>
  obtain ⟨rfl, s', hn', hi'⟩ := hm
  have hdead : I P E ⟨p.n, fun _ => .dead, fun _ => none, fun _ => .dead⟩ a' w' := by
   have := ext_sound hC.ct (L := ⟨[], []⟩) rfl hi' (x := ((), ())) (n := []) rfl trivial
   rw [hn'] at this
   obtain ⟨F', γ', h⟩ := this
   exact ⟨F', γ', h.n, h.df, h.step, h.mem, fun t => trivial, fun t g want v ht => (nomatch ht), fun t => trivial⟩
  exact ⟨.panic v, _, rfl, hdead, hr⟩
theorem codeA_run {C : Cx} (hC : CxOK P C) {bs : Nat} {Λ : Nat -> St -> Option Tr} {c : Code} (hΛ : LamOK P E Λ c 0) : RunOK P E c (codeA P C bs Λ c 0) :=
 fun _ _ h _ hq _ _ hi => codeA_sound hC c 0 hΛ h hq hi
theorem thenA_run {x y : Code} {r1 r2 : St -> Option Tr} (h1 : RunOK P E x r1) (h2 : RunOK P E y r2) : RunOK P E (.seq x y) (thenA r1 r2) := by
 intro s t h Q hq a w hi
 unfold thenA at h
 split at h <;> try (cases h; done)
 rename_i t1 ht1
 refine wp_seq (wp_mono (h1 s t1 ht1 _ (Tr.sat_bind h hq) a w hi) ?_)
 rintro e a' w' ⟨xe, s', rfl, hi', hq'⟩
 cases xe with
 | normal =>
  obtain ⟨u, hu, hqu⟩ := hq'
  exact h2 _ u hu Q hqu a' w' hi'
 | exit i => exact ⟨.exit i, s', rfl, hi', hq'⟩
 | ret => exact ⟨.ret, s', rfl, hi', hq'⟩
 | panic p => exact ⟨.panic p, s', rfl, hi', hq'⟩
 | val v => exact ⟨.val v, s', rfl, hi', hq'⟩
 | jump l => exact ⟨.jump l, s', rfl, hi', hq'⟩
theorem fx_sound {f : FuncId} {fn : Func} {c : Code} {run : St -> Option Tr} {ps : List PT} {rs : List Ty} {fr : denP ps -> Fr (denL rs)} (x0 : denP ps)
  (hf : P.funcs[f]? = some fn) (hb : fn.body = some c) (hrn : ∀ E, RunOK P E c run) (hrun : ∀ xs, runFx P run fn ps rs xs = some (fr xs)) : SoundCt P f ⟨ps, rs, fun xs => (fr xs).get, fun xs => [(fr xs).ok]⟩ := by
 have h0 := hrun x0
 unfold runFx at h0
 split at h0 <;> try (cases h0; done)
 rename_i hc
 obtain ⟨hname, hn⟩ := hc
 refine ⟨enters hf hb hname, fun w F xs vs hbd hr hok => calls_of_wp hf hb ?_⟩
 have hr' := hrun xs
 unfold runFx at hr'
 rw [if_pos ⟨hname, hn⟩] at hr'
 split at hr' <;> try (cases hr'; done)
 rename_i t ht
 have hlen : vs.length = ps.length := by
  have : ∀ {ps : List PT} {xs : denP ps} {vs : List Value}, RepPs P w F ps xs vs -> vs.length = ps.length := by
   intro ps
   induction ps with
   | nil => intro xs vs h; cases h; rfl
   | cons p r ih =>
    intro xs vs h
    obtain ⟨v, vs', rfl, _, h3⟩ := h
    simp [ih h3]
  exact this hr
 have hstart := start_inv (D := []) (n := fn.ntmps) hbd (fun R => encPs_rep (R := R) hr) (by omega)
 have hwp := hrn _ _ t ht _ (fr_sat hr' hok) _ _ hstart
 have hsz : (vs.toArray).size = vs.length := by simp
 rw [hsz]
 refine wp_mono hwp ?_
 rintro e a' w' ⟨xe, s, rfl, ⟨F', γ', hi⟩, hxe, n, hend, hnn⟩
 have hfin : a'.defers = [] /\ ∃ v, (results fn a'.tmps).run P w' = .ok v w' /\ Post w F rs (fr xs).get (.returned v) w' := by
  unfold endA at hend
  split at hend <;> try (cases hend; done)
  rename_i avs n' hres
  split at hend <;> try (cases hend; done)
  rename_i axs u hrs
  split at hend <;> try (cases hend; done)
  rename_i y hdec
  simp only [Option.some.injEq] at hend
  obtain ⟨hn', hy⟩ := needL_inj hend hnn
  subst hy
  obtain ⟨us, hran, hreps⟩ := res_run hi hres hn'
  obtain ⟨F'', hs, hm', _, hxs⟩ := rsAs_sound hi.mem (inv_bd hi) (SubM.of fun _ _ h => h) hrs hreps
  obtain ⟨γ0, h0⟩ := hi.step
  have hst := h0.trans hs
  refine ⟨hi.df, _, results_run hran, _, F'', rfl, ⟨hst.os, hst.tape, hst.output, hst.size, hst.old⟩, hst.hF, fun b hb => ⟨hst.new b hb, hst.bd b hb⟩, repR_of (decVs_rep hdec hxs)⟩
 rcases hxe with rfl | rfl
 ·exact hfin
 ·exact hfin
end
end Go.Ab
namespace Go.Proofs.YtplkgghjldndkaaGreat
open Go Go.Ab Go.RowKit Go.Proofs
def Fr.way {α : Type} : Fr α -> Fr α
 | .br true x _ => Fr.way x
 | .br false _ y => Fr.way y
 | .need p x => .need p (Fr.way x)
 | .val v => .val v
theorem Fr.way_ok {α : Type} : {f : Fr α} -> (Fr.way f).ok -> f.ok /\ f.get = (Fr.way f).get
 | .br true x _, h => by
  have := Fr.way_ok (f := x) h
  exact ⟨⟨fun _ => this.1, fun hb => (by cases hb)⟩, this.2⟩
 | .br false _ y, h => by
  have := Fr.way_ok (f := y) h
  exact ⟨⟨fun hb => (by cases hb), fun _ => this.1⟩, this.2⟩
 | .need _ x, h => by
  have := Fr.way_ok (f := x) h.2
  exact ⟨⟨h.1, this.1⟩, this.2⟩
 | .val _, _ => ⟨trivial, rfl⟩
theorem Fr.way_eq {α : Type} {f g : Fr α} (h : Fr.way f = g) (hg : g.ok) : f.ok /\ f.get = g.get := by
 subst h
 exact Fr.way_ok hg
theorem convF {P : Program} {f : FuncId} {ps : List PT} {rs : List Ty} {fr : denP ps -> Fr (denL rs)} (h : SoundCt P f ⟨ps, rs, fun xs => (fr xs).get, fun xs => [(fr xs).ok]⟩) (g : denP ps -> denL rs) (ok : denP ps -> List Prop)
  (hg : ∀ w F xs vs, RepPs P w F ps xs vs -> conj (ok xs) -> (fr xs).ok /\ (fr xs).get = g xs) : SoundCt P f ⟨ps, rs, g, ok⟩ :=
 conv h g ok hg
noncomputable def frLen (x : denP [.d u64]) : Fr (denL [i64]) := (runFn Tryz.prog (cx [] []) lam0 Tryz.f169 [.d u64] [i64] x).getD (Fr.need False (Fr.val (0, ())))
theorem frLen_way : Fr.way (frLen (10000, ())) = Fr.need (¬ (8 : Int) < 0) (Fr.need (0 <= (39 : Int) /\ (39 : Int) < ((256 : Nat) : Int)) (Fr.val (14, ()))) := by kernel_rfl
def cLen : Ct := ⟨[.d u64], [i64], fun _ => (14, ()), fun x => [x.1 = 10000]⟩
theorem len_ok : SoundCt Tryz.prog 169 cLen :=
 convF (fn_sound (cx_ok (cs := []) (ps := []) mixed trivial trivial) (Λ := lam0) (fn := Tryz.f169) (fr := frLen) (ps := [.d u64]) (rs := [i64]) (0, ()) (by kernel_rfl) (fun c E _ => lam0_ok c 0) (fun x => by kernel_rfl)) _ _
  (fun w F x vs _ hok => by
   obtain ⟨n, _⟩ := x
   have hn : n = 10000 := hok
   subst hn
   exact Fr.way_eq frLen_way ⟨by decide, ⟨by decide, by decide⟩, trivial⟩)
def cLz : Ct := ⟨[.d u64], [i64], fun _ => (50, ()), fun x => [x.1 = 10000]⟩
theorem lz_ok : SoundCt Tryz.prog 161 cLz :=
 conv (fn_sound (cx_ok (cs := [(169, cLen)]) (ps := []) mixed ⟨len_ok, trivial⟩ trivial) (Λ := lam0) (fn := Tryz.f161) (fr := fun x => Fr.need (x.1 = 10000) (Fr.val (IntKind.i64.wrap (64 - (cLen.f (x.1, ())).1), ()))) (ps := [.d u64]) (rs := [i64]) (0, ()) (by kernel_rfl) (fun c E _ => lam0_ok c 0) (fun x => by kernel_rfl)) _ _
  (fun w F x vs _ hok => ⟨⟨hok, trivial⟩, rfl⟩)
abbrev dU : PT := .d u64
def MD0 : LS := ⟨[(2, dU), (8, dU), (9, dU), (10, dU), (11, dU), (13, dU), (14, dU), (15, dU), (16, dU)], []⟩
def MD2 : LS := ⟨[(2, dU), (8, dU), (9, dU), (10, dU), (13, dU), (14, dU), (15, dU), (16, dU), (17, dU), (18, dU)], []⟩
def ptD0 : Pt := ⟨135, 0, MD0, MD0, ⟨[], []⟩⟩
def ptD2 : Pt := ⟨135, 2, MD2, MD2, ⟨[], []⟩⟩
def more (q yn r u : Int) : Bool := bif decide (q ≥ 4294967296) then true else decide (IntKind.u64.wrap (q * yn) > IntKind.u64.wrap (IntKind.u64.wrap (4294967296 * r) + u))
def fD0 (x : MD0.X) : Fr ptD0.Out :=
 match x with
 | ((y, s, a, b, c, d, e, q, r, _), _) => Fr.br (more q b r d)
  (Fr.br (decide (IntKind.u64.wrap (r + a) ≥ 4294967296))
   (Fr.val (Rd.out ((y, s, a, b, c, d, e, IntKind.u64.wrap (q - 1), IntKind.u64.wrap (r + a), ()), ())))
   (Fr.val (Rd.next ((y, s, a, b, c, d, e, IntKind.u64.wrap (q - 1), IntKind.u64.wrap (r + a), ()), ()))))
  (Fr.val (Rd.out ((y, s, a, b, c, d, e, q, r, ()), ())))
def fD2 (x : MD2.X) : Fr ptD2.Out :=
 match x with
 | ((y, s, a, b, d, e, q, r, u, v, _), _) => Fr.br (more v b r e)
  (Fr.br (decide (IntKind.u64.wrap (r + a) ≥ 4294967296))
   (Fr.val (Rd.out ((y, s, a, b, d, e, q, IntKind.u64.wrap (r + a), u, IntKind.u64.wrap (v - 1), ()), ())))
   (Fr.val (Rd.next ((y, s, a, b, d, e, q, IntKind.u64.wrap (r + a), u, IntKind.u64.wrap (v - 1), ()), ()))))
  (Fr.val (Rd.out ((y, s, a, b, d, e, q, r, u, v, ()), ())))
def FD0 (x : MD0.X) : Fr ptD0.Out := Fr.need (more x.1.2.2.2.2.2.2.2.1 x.1.2.2.2.1 x.1.2.2.2.2.2.2.2.2.1 x.1.2.2.2.2.2.1 = false) (Fr.val (.out x))
def FD2 (x : MD2.X) : Fr ptD2.Out := Fr.need (more x.1.2.2.2.2.2.2.2.2.2.1 x.1.2.2.2.1 x.1.2.2.2.2.2.2.2.1 x.1.2.2.2.2.2.1 = false) (Fr.val (.out x))
noncomputable def CD : Cx := cx [(161, cLz)] []
theorem CD_ok : CxOK Tryz.prog CD := cx_ok mixed ⟨lz_ok, trivial⟩ trivial
theorem semD0 : Does Tryz.prog (loopF Tryz.f148 0) MD0 ptD0 fD0 := Does.of_run CD_ok (bs := 0) rfl rfl rfl (fun _ => lam0_ok _ 0) (fun x => by kernel_rfl)
theorem semD2 : Does Tryz.prog (loopF Tryz.f148 1) MD2 ptD2 fD2 := Does.of_run CD_ok (bs := 0) rfl rfl rfl (fun _ => lam0_ok _ 0) (fun x => by kernel_rfl)
theorem doesD0 : Does Tryz.prog (.loop (loopF Tryz.f148 0)) MD0 ptD0 FD0 :=
 Does.loop (n := 135) (id := 0) semD0 (inv := fun x => more x.1.2.2.2.2.2.2.2.1 x.1.2.2.2.1 x.1.2.2.2.2.2.2.2.2.1 x.1.2.2.2.2.2.1 = false) (μ := fun _ => 0)
  (by
   rintro ⟨⟨y, s, a, b, c, d, e, q, r, _⟩, _⟩ hinv Q hq
   exact ⟨fun h => (by rw [show more q b r d = false from hinv] at h; cases h), fun _ => hq.2⟩)
  (fun x Q h => h.1)
theorem doesD2 : Does Tryz.prog (.loop (loopF Tryz.f148 1)) MD2 ptD2 FD2 :=
 Does.loop (n := 135) (id := 2) semD2 (inv := fun x => more x.1.2.2.2.2.2.2.2.2.2.1 x.1.2.2.2.1 x.1.2.2.2.2.2.2.2.1 x.1.2.2.2.2.2.1 = false) (μ := fun _ => 0)
  (by
   rintro ⟨⟨y, s, a, b, d, e, q, r, u, v, _⟩, _⟩ hinv Q hq
   exact ⟨fun h => (by rw [show more v b r e = false from hinv] at h; cases h), fun _ => hq.2⟩)
  (fun x Q h => h.1)
noncomputable def lamD : Nat -> St -> Option Tr := fun k => if k = 0 then ptD0.han CD.Γ MD0 FD0 else ptD2.han CD.Γ MD2 FD2
abbrev wU (n : Int) : Int := IntKind.u64.wrap n
def shl50 (a : Int) : Int := wU (a * 2 ^ min (wU 50).toNat IntKind.u64.bits)
def dU32 (hi lo : Int) : Int := wU ((BitVec.ofInt IntKind.u64.bits (shl50 hi) ||| BitVec.ofInt IntKind.u64.bits (lo.fdiv (2 ^ min (wU (64 - wU 50)).toNat IntKind.u64.bits))).toNat : Int)
def dQ (u y : Int) : Int := wU (u.tdiv (h32 (shl50 y)))
def dR (u y : Int) : Int := wU (u - wU (dQ u y * h32 (shl50 y)))
def dU21 (hi lo y : Int) : Int := wU (wU (wU (dU32 hi lo * 4294967296) + h32 (shl50 lo)) - wU (dQ (dU32 hi lo) y * shl50 y))
def frDivI (hi lo y : Int) : Fr (denL [u64, u64]) :=
 Fr.need (y = 10000) (Fr.need (¬ wU 50 < 0) (Fr.need (¬ (32 : Int) < 0) (Fr.need (¬ wU 50 < 0) (Fr.need (¬ wU (64 - wU 50) < 0) (Fr.need (¬ wU 50 < 0) (Fr.need (¬ (32 : Int) < 0)
  (Fr.need (h32 (shl50 y) ≠ 0)
   (Fr.need (more (dQ (dU32 hi lo) y) (m32 (shl50 y)) (dR (dU32 hi lo) y) (h32 (shl50 lo)) = false)
    (Fr.need (h32 (shl50 y) ≠ 0)
     (Fr.need (more (dQ (dU21 hi lo y) y) (m32 (shl50 y)) (dR (dU21 hi lo y) y) (m32 (shl50 lo)) = false)
      (Fr.need (¬ wU 50 < 0)
       (Fr.val (wU (wU (dQ (dU32 hi lo) y * 4294967296) + dQ (dU21 hi lo y) y),
        (wU (wU (wU (dU21 hi lo y * 4294967296) + m32 (shl50 lo)) - wU (dQ (dU21 hi lo y) y * shl50 y))).fdiv (2 ^ min (wU 50).toNat IntKind.u64.bits), ())))))))))))))
def frDivW (x : denP [dU, dU, dU]) : Fr (denL [u64, u64]) :=
 Fr.br (x.2.2.1 == 0) (Fr.need False (Fr.val (0, 0, ())))
  (Fr.br (decide (x.2.2.1 <= x.1)) (Fr.need False (Fr.val (0, 0, ())))
   (Fr.br (x.1 == 0) (Fr.need (x.2.2.1 ≠ 0) (Fr.need (x.2.2.1 ≠ 0) (Fr.val (IntKind.u64.wrap (x.2.1.tdiv x.2.2.1), x.2.1.tmod x.2.2.1, ()))))
    (frDivI x.1 x.2.1 x.2.2.1)))
theorem Fr.br_f {α : Type} {b : Bool} {x y : Fr α} {v : α} (hb : b = false) (h : y.ok /\ y.get = v) : (Fr.br b x y).ok /\ (Fr.br b x y).get = v := by
 subst hb
 exact ⟨⟨fun h => (by cases h), fun _ => h.1⟩, h.2⟩
theorem Fr.br_t {α : Type} {b : Bool} {x y : Fr α} {v : α} (hb : b = true) (h : x.ok /\ x.get = v) : (Fr.br b x y).ok /\ (Fr.br b x y).get = v := by
 subst hb
 exact ⟨⟨fun _ => h.1, fun h => (by cases h)⟩, h.2⟩
theorem Fr.need_ {α : Type} {p : Prop} {x : Fr α} {v : α} (hp : p) (h : x.ok /\ x.get = v) : (Fr.need p x).ok /\ (Fr.need p x).get = v := ⟨⟨hp, h.1⟩, h.2⟩
theorem div_run : SoundCt Tryz.prog 148 ⟨[dU, dU, dU], [u64, u64], fun xs => (frDivW xs).get, fun xs => [(frDivW xs).ok]⟩ :=
 fn_sound CD_ok (Λ := lamD) (fn := Tryz.f148) (fr := frDivW) (ps := [dU, dU, dU]) (rs := [u64, u64]) (0, 0, 0, ()) (by kernel_rfl)
  (fun c E hc => lam2f hc (by kernel_rfl) (b0 := loopF Tryz.f148 0) (b1 := loopF Tryz.f148 1) (by kernel_rfl) (by kernel_rfl) (Does.han CD_ok rfl doesD0) (Does.han CD_ok rfl doesD2)) (fun x => by kernel_rfl)
theorem shl50_eq {a : Int} : shl50 a = wU (a * 1125899906842624) := by
 have e1 : wU 50 = 50 := by decide
 have e2 : min (50 : Int).toNat IntKind.u64.bits = 50 := by decide
 unfold shl50
 rw [e1, e2]
 rfl
theorem or_add {a b : Int} (h1 : 0 <= a) (h2 : 0 <= b) (h3 : b < 1125899906842624) (h4 : a * 1125899906842624 < 18446744073709551616) :
  wU ((BitVec.ofInt IntKind.u64.bits (a * 1125899906842624) ||| BitVec.ofInt IntKind.u64.bits b).toNat : Int) = a * 1125899906842624 + b := by
 obtain ⟨m, rfl⟩ : ∃ m : Nat, a = m := ⟨a.toNat, by omega⟩
 obtain ⟨n, rfl⟩ : ∃ n : Nat, b = n := ⟨b.toNat, by omega⟩
 have e1 : (BitVec.ofInt IntKind.u64.bits ((m : Int) * 1125899906842624)).toNat = m * 1125899906842624 := by
  rw [BitVec.toNat_ofInt]
  show (((m : Int) * 1125899906842624) % ((2 ^ 64 : Nat) : Int)).toNat = m * 1125899906842624
  omega
 have e2 : (BitVec.ofInt IntKind.u64.bits (n : Int)).toNat = n := by
  rw [BitVec.toNat_ofInt]
  show ((n : Int) % ((2 ^ 64 : Nat) : Int)).toNat = n
  omega
 have e3 : (m * 1125899906842624 ||| n) = m * 1125899906842624 + n := by
  have := Nat.shiftLeft_add_eq_or_of_lt (i := 50) (b := n) (by omega) m
  rw [Nat.shiftLeft_eq] at this
  have e : (2 : Nat) ^ 50 = 1125899906842624 := by decide
  rw [e] at this
  exact this.symm
 rw [BitVec.toNat_or, e1, e2, e3]
 show IntKind.u64.wrap _ = _
 rw [u64w (by omega)]
 omega
theorem div_a {hi lo q1 q0 un32 un10 un1 un0 r1 un21 : Int} (h1 : 0 <= hi /\ hi < 10000) (h2 : 0 <= lo /\ lo <= 18446744073709551615)
  (e32 : un32 = hi * 1125899906842624 + lo / 16384) (e10 : un10 = lo * 1125899906842624 % 18446744073709551616) (e1 : un1 = un10 / 4294967296) (e0 : un0 = un10 % 4294967296)
  (eq1 : q1 = un32 / 2621440000) (er : r1 = un32 - q1 * 2621440000) (e21 : un21 = r1 * 4294967296 + un1) (eq0 : q0 = un21 / 2621440000) :
  un0 = 0 /\ 0 <= un1 /\ un1 < 4294967296 /\ 0 <= q1 /\ q1 < 4294967296 /\ 0 <= r1 /\ r1 < 2621440000 /\ 0 <= q0 /\ q0 < 4294967296 /\ q1 * 4294967296 + q0 = (hi * 18446744073709551616 + lo) / 10000 /\ (un21 - q0 * 2621440000) * 4294967296 / 1125899906842624 = (hi * 18446744073709551616 + lo) % 10000 := by
 have a1 : un1 = (lo % 16384) * 262144 := by omega
 have a0 : un0 = 0 := by omega
 have a2 : 0 <= un1 /\ un1 < 4294967296 := by omega
 clear e1 e0 e10
 have b1 : 0 <= q1 /\ q1 < 4294967296 := by omega
 have b2 : 0 <= r1 /\ r1 < 2621440000 := by omega
 have b3 : 0 <= q0 /\ q0 < 4294967296 := by omega
 refine ⟨a0, a2.1, a2.2, b1.1, b1.2, b2.1, b2.2, b3.1, b3.2, ?_, ?_⟩
 ·omega
 ·omega
theorem more_no {q r u : Int} (h1 : 0 <= q /\ q < 4294967296) : more q 0 r u = false := by
 unfold more
 have e1 : decide (q ≥ 4294967296) = false := by simp; omega
 rw [e1, Int.mul_zero]
 have e2 : IntKind.u64.wrap 0 = 0 := by decide
 rw [e2]
 have : 0 <= IntKind.u64.wrap (IntKind.u64.wrap (4294967296 * r) + u) := by
  rw [IntKind.wrap_u64]
  omega
 simp
 omega
theorem dqL {u : Int} (h : 0 <= u /\ u < 18446744073709551616) : wU (u.tdiv 2621440000) = u / 2621440000 := by
 rw [Int.tdiv_eq_ediv_of_nonneg h.1]
 exact u64w (by omega)
theorem g1L {q1 q0 : Int} (h1 : 0 <= q1 /\ q1 < 4294967296) (h0 : 0 <= q0 /\ q0 < 4294967296) : wU (wU (q1 * 4294967296) + q0) = q1 * 4294967296 + q0 := by
 rw [show wU (q1 * 4294967296) = q1 * 4294967296 from u64w (by omega)]
 exact u64w (by omega)
theorem g2L {u q0 : Int} (hq : q0 = u / 2621440000) (hu : 0 <= u /\ u < 18446744073709551616) : wU (wU (wU (u * 4294967296) + 0) - wU (q0 * 11258999068426240000)) = (u - q0 * 2621440000) * 4294967296 := by
 unfold wU
 simp only [IntKind.wrap_u64]
 omega
theorem e21L {u q1 u1 : Int} (h : 0 <= u - q1 * 2621440000 /\ u - q1 * 2621440000 < 2621440000) (h1 : 0 <= u1 /\ u1 < 4294967296) : wU (wU (wU (u * 4294967296) + u1) - wU (q1 * 11258999068426240000)) = (u - q1 * 2621440000) * 4294967296 + u1 := by
 unfold wU
 simp only [IntKind.wrap_u64]
 omega
theorem u21L {r u1 : Int} (h : 0 <= r /\ r < 2621440000) (h1 : 0 <= u1 /\ u1 < 4294967296) : 0 <= r * 4294967296 + u1 /\ r * 4294967296 + u1 < 18446744073709551616 := by omega
theorem u32L {hi lo : Int} (h1 : 0 <= hi /\ hi < 10000) (h2 : 0 <= lo /\ lo <= 18446744073709551615) : 0 <= hi * 1125899906842624 + lo / 16384 /\ hi * 1125899906842624 + lo / 16384 < 18446744073709551616 := by omega
theorem divW_plain {hi lo : Int} (h0 : hi ≠ 0) (h1 : 0 <= hi /\ hi < 10000) (h2 : 0 <= lo /\ lo <= 18446744073709551615) :
  (frDivW (hi, lo, 10000, ())).ok /\ (frDivW (hi, lo, 10000, ())).get = ((hi * 18446744073709551616 + lo) / 10000, (hi * 18446744073709551616 + lo) % 10000, ()) := by
 have ey : shl50 10000 = 11258999068426240000 := by decide
 have ey1 : h32 (shl50 10000) = 2621440000 := by decide
 have ey0 : m32 (shl50 10000) = 0 := by decide
 have es : shl50 hi = hi * 1125899906842624 := by rw [shl50_eq]; exact u64w (by omega)
 have eu : dU32 hi lo = hi * 1125899906842624 + lo / 16384 := by
  unfold dU32
  have e1 : lo.fdiv (2 ^ min (wU (64 - wU 50)).toNat IntKind.u64.bits) = lo / 16384 := by
   have : (2 : Int) ^ min (wU (64 - wU 50)).toNat IntKind.u64.bits = 16384 := by decide
   rw [this, Int.fdiv_eq_ediv_of_nonneg _ (by decide)]
  rw [e1, es]
  exact or_add (by omega) (by omega) (by omega) (by omega)
 have el : shl50 lo = lo * 1125899906842624 % 18446744073709551616 := by rw [shl50_eq]; exact IntKind.wrap_u64 _
 have hs : 0 <= shl50 lo /\ shl50 lo <= 18446744073709551615 := by rw [el]; omega
 have eU1 : h32 (shl50 lo) = shl50 lo / 4294967296 := h32_eq
 have eU0 : m32 (shl50 lo) = shl50 lo % 4294967296 := m32_eq hs
 have eq1 : dQ (dU32 hi lo) 10000 = dU32 hi lo / 2621440000 := by
  unfold dQ
  rw [ey1, eu]
  exact dqL (u32L h1 h2)
 obtain ⟨k0, k1, k2, k3, k4, k5, k6, k7, k8, k9, k10⟩ := div_a (q1 := dQ (dU32 hi lo) 10000) (un32 := dU32 hi lo) (un10 := shl50 lo) (un1 := h32 (shl50 lo)) (un0 := m32 (shl50 lo)) (r1 := dU32 hi lo - dQ (dU32 hi lo) 10000 * 2621440000) h1 h2 eu el eU1 eU0 eq1 rfl rfl rfl
 have e21 : dU21 hi lo 10000 = (dU32 hi lo - dQ (dU32 hi lo) 10000 * 2621440000) * 4294967296 + h32 (shl50 lo) := by
  unfold dU21
  rw [ey]
  exact e21L ⟨k5, k6⟩ ⟨k1, k2⟩
 have b21 := u21L ⟨k5, k6⟩ ⟨k1, k2⟩
 rw [← e21] at k7 k8 k9 k10 b21
 have eq0 : dQ (dU21 hi lo 10000) 10000 = dU21 hi lo 10000 / 2621440000 := by
  unfold dQ
  rw [ey1]
  exact dqL b21
 rw [← eq0] at k7 k8 k9 k10
 have g1 : wU (wU (dQ (dU32 hi lo) 10000 * 4294967296) + dQ (dU21 hi lo 10000) 10000) = (hi * 18446744073709551616 + lo) / 10000 := by
  rw [← k9]
  exact g1L ⟨k3, k4⟩ ⟨k7, k8⟩
 have g2 : (wU (wU (wU (dU21 hi lo 10000 * 4294967296) + m32 (shl50 lo)) - wU (dQ (dU21 hi lo 10000) 10000 * shl50 10000))).fdiv (2 ^ min (wU 50).toNat IntKind.u64.bits) = (hi * 18446744073709551616 + lo) % 10000 := by
  have e50 : (2 : Int) ^ min (wU 50).toNat IntKind.u64.bits = 1125899906842624 := by decide
  rw [e50, ey, k0, Int.fdiv_eq_ediv_of_nonneg _ (by decide), ← k10, g2L eq0 b21]
 have hge : ¬ (10000 : Int) <= hi := by omega
 have h0' : (hi == 0) = false := by simpa using h0
 refine Fr.br_f rfl (Fr.br_f (decide_eq_false hge) (Fr.br_f h0' ?_))
 show (frDivI hi lo 10000).ok /\ (frDivI hi lo 10000).get = _
 refine Fr.need_ rfl (Fr.need_ (by decide) (Fr.need_ (by decide) (Fr.need_ (by decide) (Fr.need_ (by decide) (Fr.need_ (by decide) (Fr.need_ (by decide) (Fr.need_ ?_ (Fr.need_ ?_ (Fr.need_ ?_ (Fr.need_ ?_ (Fr.need_ (by decide) ⟨trivial, ?_⟩)))))))))))
 ·rw [ey1]; decide
 ·rw [ey0]; exact more_no ⟨k3, k4⟩
 ·rw [ey1]; decide
 ·rw [ey0]; exact more_no ⟨k7, k8⟩
 ·exact Prod.ext g1 (Prod.ext g2 rfl)
def cDivW : Ct := ⟨[dU, dU, dU], [u64, u64], fun x => ((x.1 * 18446744073709551616 + x.2.1) / x.2.2.1, (x.1 * 18446744073709551616 + x.2.1) % x.2.2.1, ()), fun x => [(x.1 = 0 /\ 0 < x.2.2.1) ∨ (x.2.2.1 = 10000 /\ x.1 < 10000)]⟩
theorem divW_0 {lo y : Int} (b2 : 0 <= lo /\ lo <= 18446744073709551615) (hy : 0 < y) : (frDivW (0, lo, y, ())).ok /\ (frDivW (0, lo, y, ())).get = ((0 * 18446744073709551616 + lo) / y, (0 * 18446744073709551616 + lo) % y, ()) := by
 rw [Int.zero_mul, Int.zero_add]
 have e1 : (y == 0) = false := by simp; omega
 have e2 : ¬ y <= (0 : Int) := by omega
 have e3 : y ≠ 0 := by omega
 refine Fr.br_f e1 (Fr.br_f (decide_eq_false e2) (Fr.br_t rfl (Fr.need_ e3 (Fr.need_ e3 ⟨trivial, ?_⟩))))
 exact Prod.ext (IntWalk.u64_quo lo y ⟨b2.1, b2.2, by omega⟩) (Prod.ext (IntWalk.rem_in lo y b2.1) rfl)
theorem divW_ok : SoundCt Tryz.prog 148 cDivW :=
  convF div_run _ _ (fun w F x vs hr hok => by
    obtain ⟨hi, lo, y, _⟩ := x
    obtain ⟨v1, vs1, rfl, h1, v2, vs2, rfl, h2, v3, vs3, rfl, h3, _⟩ := hr
    have b1 : 0 <= hi /\ hi <= 18446744073709551615 := u64_of h1
    have b2 : 0 <= lo /\ lo <= 18446744073709551615 := u64_of h2
    have hok' : (hi = 0 /\ 0 < y) ∨ (y = 10000 /\ hi < 10000) := hok
    have hcase : (hi = 0 /\ 0 < y) ∨ (hi ≠ 0 /\ y = 10000 /\ hi < 10000) := by
      clear hok
      by_cases hz : hi = 0
      · exact .inl ⟨hz, by rcases hok' with h | h
                           · exact h.2
                           · rw [h.1]; decide⟩
      · rcases hok' with h | h
        · exact absurd h.1 hz
        · exact .inr ⟨hz, h⟩
    rcases hcase with ⟨rfl, hy⟩ | ⟨h0, rfl, hlt⟩
    · exact divW_0 b2 hy
    · exact divW_plain h0 ⟨b1.1, hlt⟩ b2)
def scopeOf : Code -> Code
 | .seq _ (.scope c) => c
 | _ => .skip
def headOf : Code -> Code
 | .seq a _ => a
 | _ => .skip
noncomputable def bandC : Code := (Tryz.f133.body.map scopeOf).getD .skip
noncomputable def bandA : Code := (Tryz.f133.body.map headOf).getD .skip
noncomputable def bandR : Code := (findLabel bandC 0).getD .skip
def MBd : LS := ⟨[(0, .d (.sl bandT)), (1, .d i64)], []⟩
def ptBd : Pt := ⟨20, 0, MBd, ⟨[], []⟩, ⟨[(4, .d i64)], []⟩⟩
noncomputable def CB0 : Cx := cx [] []
theorem CB0_ok : CxOK Tryz.prog CB0 := cx_ok (cs := []) (ps := []) mixed trivial trivial
def fBd (x : MBd.X) : Fr ptBd.Out :=
 match x with
 | ((l, a, _), _) => Fr.br ((l.length : Int) == 0) (Fr.val (Rd.back ((10000, ()), ())))
  (Fr.need (0 <= (0 : Int) /\ (0 : Int) < l.length)
   (Fr.br (decide ((l.getD (Int.toNat 0) bandT.dflt).1 < a))
    (Fr.need (0 <= (some (1 : Int)).getD 0 /\ (some (1 : Int)).getD 0 <= (none : Option Int).getD l.length /\ (none : Option Int).getD l.length <= l.length)
     (Fr.val (Rd.next ((List.take ((none : Option Int).getD l.length - (some (1 : Int)).getD 0).toNat (List.drop ((some (1 : Int)).getD 0).toNat l), a, ()), ()))))
    (Fr.need (0 <= (0 : Int) /\ (0 : Int) < l.length) (Fr.val (Rd.back (((l.getD (Int.toNat 0) bandT.dflt).2.1, ()), ()))))))
def FBdJ (x : MBd.X) : Fr ptBd.Out := Fr.val (.back ((bandD x.1.2.1 x.1.1 10000, ()), ()))
theorem semBC : DoesJ Tryz.prog 0 bandC MBd ptBd fBd := DoesJ.of_run CB0_ok (bs := 0) rfl rfl rfl (fun _ => lam0_ok _ 0) (fun x => by kernel_rfl)
theorem semBR : DoesJ Tryz.prog 0 bandR MBd ptBd fBd := DoesJ.of_run CB0_ok (bs := 0) rfl rfl rfl (fun _ => lam0_ok _ 0) (fun x => by kernel_rfl)
theorem bandLaw (l : List bandT.den) (a : Int) (Q : ptBd.Out -> Prop) (hq : Q (.back ((bandD a l 10000, ()), ()))) :
  (fBd ((l, a, ()), ())).satP fun
   | .next x' => True /\ x'.1.1.length < l.length /\ (FBdJ x').satP Q
   | .out y => Q (.out y)
   | .back z => Q (.back z)
   | .pan p => Q (.pan p) := by
 cases l with
 | nil => exact ⟨fun _ => hq, fun h => by cases h⟩
 | cons b r =>
  have h0 : (0 : Int) < ((b :: r).length : Int) := by simp only [List.length_cons]; omega
  have h1 : (((b :: r).length : Int) == 0) = false := by simp; omega
  refine ⟨fun h => (by rw [h1] at h; cases h), fun _ => ⟨⟨Int.le_refl 0, h0⟩, fun h => ⟨⟨by decide, ?_, Int.le_refl _⟩, trivial, ?_, ?_⟩, fun h => ⟨⟨Int.le_refl 0, h0⟩, ?_⟩⟩⟩
  ·show (1 : Int) <= ((b :: r).length : Int)
   omega
  ·show (List.take (((b :: r).length : Int) - 1).toNat r).length < (b :: r).length
   rw [List.length_take]
   simp only [List.length_cons]
   omega
  ·show Q (.back ((bandD a (List.take (((b :: r).length : Int) - 1).toNat r) 10000, ()), ()))
   have e : List.take (((b :: r).length : Int) - 1).toNat r = r := List.take_of_length_le (by simp)
   have hc : b.1 < a := of_decide_eq_true h
   rw [e]
   have : bandD a (b :: r) 10000 = bandD a r 10000 := if_pos hc
   rw [← this]
   exact hq
  ·have hc : ¬ b.1 < a := of_decide_eq_false h
   have : bandD a (b :: r) 10000 = b.2.1 := if_neg hc
   rw [this] at hq
   exact hq
theorem bandS : Does Tryz.prog (.scope bandC) MBd ptBd FBdJ :=
 DoesJ.scope (n := 20) (id := 0) (N := MBd) (rest := bandR) (by kernel_rfl) semBC semBR (inv := fun _ => True) (μ := fun x => x.1.1.length)
  (by
   rintro ⟨⟨l, a, _⟩, _⟩ _ Q hq
   exact bandLaw l a Q hq)
  (fun _ _ _ => trivial)
theorem band_ok : SoundCt Tryz.prog 133 cBand :=
 convF (fx_sound (run := thenA (codeA Tryz.prog CB0 0 lam0 bandA 0) (ptBd.han CB0.Γ MBd FBdJ)) (fn := Tryz.f133) (c := .seq bandA (.scope bandC)) (ps := [.d (.sl bandT), .d i64]) (rs := [i64])
  (fr := fun x => Fr.val (bandD x.2.1 x.1 10000, ())) ([], 0, ()) (by kernel_rfl) (by kernel_rfl)
  (fun E => thenA_run (codeA_run CB0_ok (lam0_ok _ 0)) (Does.run CB0_ok rfl bandS)) (fun x => by kernel_rfl)) _ _ (fun _ _ _ _ _ _ => ⟨trivial, rfl⟩)
abbrev pt_r07_At : Pt := ⟨29, 0, ⟨[(6, .d i64), (1, .d i64)], [.x 2 34 tarT, .r 2 2 0, .x 4 71 verT, .r 4 4 0]⟩, ⟨[], [.x 4 71 verT, .r 4 4 0]⟩, ⟨[(5, .d i64)], [.x 4 71 verT, .r 4 4 0]⟩⟩
def fr_r07_At (x : pt_r07_At.M.X) : Fr pt_r07_At.Out :=
 Fr.br (decide (x.1.1 ≥ 0)) (Fr.need (0 <= x.1.1 /\ x.1.1 < ((List.length x.2.1.1) : Int)) (Fr.br (decide ((List.getD x.2.1.1 (Int.toNat x.1.1) verT.dflt).1 <= x.1.2.1)) (Fr.need (0 <= x.1.1 /\ x.1.1 < ((List.length x.2.1.1) : Int)) (Fr.val (Rd.back ((0, ()), ((List.getD x.2.1.1 (Int.toNat x.1.1) verT.dflt).1, ((List.getD x.2.1.1 (Int.toNat x.1.1) verT.dflt).2.1.1, (List.getD x.2.1.1 (Int.toNat x.1.1) verT.dflt).2.1.2.1, (List.getD x.2.1.1 (Int.toNat x.1.1) verT.dflt).2.1.2.2.1, (List.getD x.2.1.1 (Int.toNat x.1.1) verT.dflt).2.1.2.2.2.1, ()), (List.getD x.2.1.1 (Int.toNat x.1.1) verT.dflt).2.2.1, (List.getD x.2.1.1 (Int.toNat x.1.1) verT.dflt).2.2.2.1, (List.getD x.2.1.1 (Int.toNat x.1.1) verT.dflt).2.2.2.2.1, (List.getD x.2.1.1 (Int.toNat x.1.1) verT.dflt).2.2.2.2.2.1, ()), ())))) (Fr.val (Rd.next ((IntKind.i64.wrap (x.1.1 - 1), x.1.2.1, ()), (x.2.1.1, ()), (x.2.2.1.1, (x.2.2.1.2.1.1, x.2.2.1.2.1.2.1, x.2.2.1.2.1.2.2.1, x.2.2.1.2.1.2.2.2.1, ()), x.2.2.1.2.2.1, x.2.2.1.2.2.2.1, x.2.2.1.2.2.2.2.1, x.2.2.1.2.2.2.2.2.1, ()), ()))))) (Fr.val (Rd.out ((), (x.2.2.1.1, (x.2.2.1.2.1.1, x.2.2.1.2.1.2.1, x.2.2.1.2.1.2.2.1, x.2.2.1.2.1.2.2.2.1, ()), x.2.2.1.2.2.1, x.2.2.1.2.2.2.1, x.2.2.1.2.2.2.2.1, x.2.2.1.2.2.2.2.2.1, ()), ())))
theorem sem_r07_At : Does Tryz.prog (loopF Tryz.f78 0) pt_r07_At.M pt_r07_At fr_r07_At :=
 Does.of_run CHC_ok (bs := 0) (Λ := lam0) rfl rfl rfl (fun E => lam0_ok _ 0) (fun x => by kernel_rfl)
abbrev st_r07_At : Type := denP [.d i64] × denM [.x 2 34 tarT, .r 2 2 0, .x 4 71 verT, .r 4 4 0]
def step_r07_At (e : verT.den) (s : st_r07_At) : Fr (st_r07_At ⊕ pt_r07_At.R.X) :=
 Fr.br (decide (e.1 <= s.1.1)) (Fr.val (.inr ((0, ()), (e.1, (e.2.1.1, e.2.1.2.1, e.2.1.2.2.1, e.2.1.2.2.2.1, ()), e.2.2.1, e.2.2.2.1, e.2.2.2.2.1, e.2.2.2.2.2.1, ()), ()))) (Fr.val (.inl ((s.1.1, ()), (s.2.1.1, ()), (s.2.2.1.1, (s.2.2.1.2.1.1, s.2.2.1.2.1.2.1, s.2.2.1.2.1.2.2.1, s.2.2.1.2.1.2.2.2.1, ()), s.2.2.1.2.2.1, s.2.2.1.2.2.2.1, s.2.2.1.2.2.2.2.1, s.2.2.1.2.2.2.2.2.1, ()), ())))
def un_r07_At (x : pt_r07_At.M.X) : Int × List verT.den × st_r07_At := (x.1.1, x.2.1.1, x.1.2, x.2)
def good_r07_At (x : pt_r07_At.M.X) : Prop := True
def out_r07_At (s : st_r07_At) : pt_r07_At.E.X := ((), (s.2.2.1.1, (s.2.2.1.2.1.1, s.2.2.1.2.1.2.1, s.2.2.1.2.1.2.2.1, s.2.2.1.2.1.2.2.2.1, ()), s.2.2.1.2.2.1, s.2.2.1.2.2.2.1, s.2.2.1.2.2.2.2.1, s.2.2.1.2.2.2.2.2.1, ()), ())
def dS_r07_At : st_r07_At := (dfP _, dfM _)
def dR_r07_At : pt_r07_At.R.X := (dfP _, dfM _)
theorem loop_r07_At : Does Tryz.prog (.loop (loopF Tryz.f78 0)) pt_r07_At.M pt_r07_At (FD step_r07_At un_r07_At good_r07_At out_r07_At Rd.back dS_r07_At dR_r07_At) := by
 refine Does.down sem_r07_At step_r07_At un_r07_At good_r07_At out_r07_At Rd.back dS_r07_At dR_r07_At ?_ ?_
 ·rintro ⟨⟨i, s⟩, m⟩ hg h0 h1 hb e he Q h
  have h0 : 0 <= i := h0
  have h1 : i < (m.1.1.length : Int) := h1
  have hb : (m.1.1.length : Int) <= 9223372036854775807 := hb
  have hd : m.1.1.getD i.toNat verT.dflt = e := getD_of he
  have hw := prev_wrap h0 h1 hb
  dsimp only [un_r07_At, step_r07_At, fr_r07_At, Fr.satP] at h ⊢
  simp only [hd, hw] at h ⊢
  refine ⟨fun _ => ?_, fun hn => absurd h0 (of_decide_eq_false hn)⟩
  repeat' first
   | exact h
   | exact ⟨h0, h1⟩
   | exact fun _ => ⟨h0, h1⟩
   | exact h _ rfl trivial
   | refine ⟨?_, ?_⟩
   | (intro (hc : _ = true); replace h := h.1 hc)
   | (intro (hc : _ = false); replace h := h.2 hc)
 ·rintro ⟨⟨i, s⟩, m⟩ hg h1 Q h
  exact ⟨fun hn => absurd (of_decide_eq_true hn) h1, fun _ => h⟩
def Λ_r07_At (Γ : FuncId -> Option Ct) : St -> Option Tr := pt_r07_At.han Γ pt_r07_At.M (FD step_r07_At un_r07_At good_r07_At out_r07_At Rd.back dS_r07_At dR_r07_At)
def res_r07_At (y : pt_r07_At.M.X) : st_r07_At ⊕ pt_r07_At.R.X := goL step_r07_At ((un_r07_At y).2.1.take ((un_r07_At y).1 + 1).toNat).reverse (un_r07_At y).2.2
def okr_r07_At (y : pt_r07_At.M.X) : Prop := okL step_r07_At ((un_r07_At y).2.1.take ((un_r07_At y).1 + 1).toNat).reverse (un_r07_At y).2.2
def ff_r07_At (x : denP [.d tarT, .d i64]) : Fr (denL [verT, i64]) :=
 Fr.need (InD (good_r07_At ((IntKind.i64.wrap (((List.length x.1.1) : Int) - 1), x.2.1, ()), (x.1.1, ()), (0, (0, 0, 0, 0, ()), [], [], [], 0, ()), ())) (un_r07_At ((IntKind.i64.wrap (((List.length x.1.1) : Int) - 1), x.2.1, ()), (x.1.1, ()), (0, (0, 0, 0, 0, ()), [], [], [], 0, ()), ()))) (Fr.need (okr_r07_At ((IntKind.i64.wrap (((List.length x.1.1) : Int) - 1), x.2.1, ()), (x.1.1, ()), (0, (0, 0, 0, 0, ()), [], [], [], 0, ()), ())) (Fr.br (isL (res_r07_At ((IntKind.i64.wrap (((List.length x.1.1) : Int) - 1), x.2.1, ()), (x.1.1, ()), (0, (0, 0, 0, 0, ()), [], [], [], 0, ()), ()))) (Fr.val ((0, (0, 0, 0, 0, ()), [], [], [], 0, ()), 7, ())) (Fr.val (((getR dR_r07_At (res_r07_At ((IntKind.i64.wrap (((List.length x.1.1) : Int) - 1), x.2.1, ()), (x.1.1, ()), (0, (0, 0, 0, 0, ()), [], [], [], 0, ()), ()))).2.1.1, ((getR dR_r07_At (res_r07_At ((IntKind.i64.wrap (((List.length x.1.1) : Int) - 1), x.2.1, ()), (x.1.1, ()), (0, (0, 0, 0, 0, ()), [], [], [], 0, ()), ()))).2.1.2.1.1, (getR dR_r07_At (res_r07_At ((IntKind.i64.wrap (((List.length x.1.1) : Int) - 1), x.2.1, ()), (x.1.1, ()), (0, (0, 0, 0, 0, ()), [], [], [], 0, ()), ()))).2.1.2.1.2.1, (getR dR_r07_At (res_r07_At ((IntKind.i64.wrap (((List.length x.1.1) : Int) - 1), x.2.1, ()), (x.1.1, ()), (0, (0, 0, 0, 0, ()), [], [], [], 0, ()), ()))).2.1.2.1.2.2.1, (getR dR_r07_At (res_r07_At ((IntKind.i64.wrap (((List.length x.1.1) : Int) - 1), x.2.1, ()), (x.1.1, ()), (0, (0, 0, 0, 0, ()), [], [], [], 0, ()), ()))).2.1.2.1.2.2.2.1, ()), (getR dR_r07_At (res_r07_At ((IntKind.i64.wrap (((List.length x.1.1) : Int) - 1), x.2.1, ()), (x.1.1, ()), (0, (0, 0, 0, 0, ()), [], [], [], 0, ()), ()))).2.1.2.2.1, (getR dR_r07_At (res_r07_At ((IntKind.i64.wrap (((List.length x.1.1) : Int) - 1), x.2.1, ()), (x.1.1, ()), (0, (0, 0, 0, 0, ()), [], [], [], 0, ()), ()))).2.1.2.2.2.1, (getR dR_r07_At (res_r07_At ((IntKind.i64.wrap (((List.length x.1.1) : Int) - 1), x.2.1, ()), (x.1.1, ()), (0, (0, 0, 0, 0, ()), [], [], [], 0, ()), ()))).2.1.2.2.2.2.1, (getR dR_r07_At (res_r07_At ((IntKind.i64.wrap (((List.length x.1.1) : Int) - 1), x.2.1, ()), (x.1.1, ()), (0, (0, 0, 0, 0, ()), [], [], [], 0, ()), ()))).2.1.2.2.2.2.2.1, ()), (getR dR_r07_At (res_r07_At ((IntKind.i64.wrap (((List.length x.1.1) : Int) - 1), x.2.1, ()), (x.1.1, ()), (0, (0, 0, 0, 0, ()), [], [], [], 0, ()), ()))).1.1, ()))))
theorem ff_r07_At_ok : SoundCt Tryz.prog 78 ⟨[.d tarT, .d i64], [verT, i64], fun xs => (ff_r07_At xs).get, fun xs => [(ff_r07_At xs).ok]⟩ :=
 fn_sound CHC_ok (Λ := (fun _ => Λ_r07_At CHC.Γ)) (fn := Tryz.f78) (dfP [.d tarT, .d i64]) (by kernel_rfl) (fun c E hc => lam1f hc (by kernel_rfl) (b := loopF Tryz.f78 0) (by kernel_rfl) (Does.han CHC_ok rfl loop_r07_At)) (fun x => by kernel_rfl)
def noVer : verT.den := (0, (0, 0, 0, 0, ()), [], [], [], 0, ())
def verAt (day : Int) : List verT.den -> verT.den × Int
 | [] => (noVer, 7)
 | v :: r => if v.1 <= day then (v, 0) else verAt day r
def cVerAt : Ct := ⟨[.d tarT, .d i64], [verT, i64], fun x => ((verAt x.2.1 x.1.1.reverse).1, (verAt x.2.1 x.1.1.reverse).2, ()), fun _ => []⟩
theorem verAt_none (day : Int) : (l : List verT.den) -> (verAt day l).2 ≠ 0 -> verAt day l = (noVer, 7)
 | [], _ => rfl
 | v :: r, h => by
  unfold verAt at h ⊢
  by_cases hv : v.1 <= day
  ·rw [if_pos hv] at h
   exact absurd rfl h
  ·rw [if_neg hv] at h ⊢
   exact verAt_none day r h
theorem va_go (day : Int) (l : List verT.den) (t : tarT.den) (m : verT.den) : goL step_r07_At l ((day, ()), (t, (m, ()))) = if (verAt day l).2 = 0 then .inr ((0, ()), ((verAt day l).1, ())) else .inl ((day, ()), (t, (m, ()))) := by
 induction l with
 | nil => rfl
 | cons e r ih =>
  by_cases h : e.1 <= day
  ·have hg : (step_r07_At e ((day, ()), (t, (m, ())))).get = .inr ((0, ()), (e, ())) := if_pos (decide_eq_true h)
   simp only [goL, hg, verAt, if_pos h, if_true]
  ·have hg : (step_r07_At e ((day, ()), (t, (m, ())))).get = .inl ((day, ()), (t, (m, ()))) := if_neg (by simpa using h)
   simp only [goL, hg, verAt, if_neg h]
   exact ih
theorem ref07_At_ok : SoundCt Tryz.prog 78 cVerAt :=
 conv ff_r07_At_ok _ _ (fun w F x vs hr _ => by
  obtain ⟨t, day, _⟩ := x
  obtain ⟨v, vs', rfl, hv, _⟩ := hr
  have hwf := RepT.wf hv.2.2
  have hlen : (t.1.length : Int) <= 9223372036854775807 := len_big hwf.1.1
  have hw : IntKind.i64.wrap ((t.1.length : Int) - 1) = t.1.length - 1 := IntWalk.i64_in _ (by omega)
  have ht : t.1.take ((t.1.length : Int) - 1 + 1).toNat = t.1 := List.take_of_length_le (by omega)
  have hin : InD (good_r07_At ((IntKind.i64.wrap ((t.1.length : Int) - 1), day, ()), (t, (noVer, ())))) (un_r07_At ((IntKind.i64.wrap ((t.1.length : Int) - 1), day, ()), (t, (noVer, ())))) := by
   rw [hw]
   exact ⟨trivial, (show (-1 : Int) <= (t.1.length : Int) - 1 by omega), (show (t.1.length : Int) - 1 < (t.1.length : Int) by omega), hlen⟩
  refine ⟨⟨hin, okL_of (step := step_r07_At) (fun e s => ⟨fun _ => trivial, fun _ => trivial⟩) _ _, fun _ => trivial, fun _ => trivial⟩, ?_⟩
  have hres : res_r07_At ((IntKind.i64.wrap ((t.1.length : Int) - 1), day, ()), (t, (noVer, ()))) = if (verAt day t.1.reverse).2 = 0 then .inr ((0, ()), ((verAt day t.1.reverse).1, ())) else .inl ((day, ()), (t, (noVer, ()))) := by
   have := va_go day (t.1.take ((t.1.length : Int) - 1 + 1).toNat).reverse t noVer
   rw [ht] at this
   rw [← this, hw]
   show goL step_r07_At (t.1.take ((t.1.length : Int) - 1 + 1).toNat).reverse _ = _
   rw [ht]
   rfl
  show (if isL (res_r07_At ((IntKind.i64.wrap ((t.1.length : Int) - 1), day, ()), (t, (noVer, ())))) = true then ((noVer, 7, ()) : verT.den × Int × Unit) else ((getR dR_r07_At (res_r07_At ((IntKind.i64.wrap ((t.1.length : Int) - 1), day, ()), (t, (noVer, ()))))).2.1, (getR dR_r07_At (res_r07_At ((IntKind.i64.wrap ((t.1.length : Int) - 1), day, ()), (t, (noVer, ()))))).1.1, ())) = ((verAt day t.1.reverse).1, (verAt day t.1.reverse).2, ())
  rw [hres]
  by_cases h : (verAt day t.1.reverse).2 = 0
  ·rw [if_pos h, h]
   rfl
  ·rw [if_neg h, verAt_none _ _ h]
   rfl)
def frClone (T : Ty) (n : Nat) (x : denP [.d (.sl T)]) : Fr (denL [.sl T]) :=
 Fr.need (x.1 = [] ->
   (Fr.br true (Fr.val (([] : List T.den), ())) (Fr.need (([] : List T.den).length + x.1.length <= maxLen /\ (([] : List T.den).length + x.1.length) * n <= 140737488355328) (Fr.val (([] : List T.den) ++ x.1, ())))).ok /\
   (Fr.br true (Fr.val (([] : List T.den), ())) (Fr.need (([] : List T.den).length + x.1.length <= maxLen /\ (([] : List T.den).length + x.1.length) * n <= 140737488355328) (Fr.val (([] : List T.den) ++ x.1, ())))).get =
    (Fr.br false (Fr.val (([] : List T.den), ())) (Fr.need (([] : List T.den).length + x.1.length <= maxLen /\ (([] : List T.den).length + x.1.length) * n <= 140737488355328) (Fr.val (([] : List T.den) ++ x.1, ())))).get)
  (Fr.br false (Fr.val (([] : List T.den), ())) (Fr.need (([] : List T.den).length + x.1.length <= maxLen /\ (([] : List T.den).length + x.1.length) * n <= 140737488355328) (Fr.val (([] : List T.den) ++ x.1, ()))))
def cClone (T : Ty) : Ct := ⟨[.d (.sl T)], [.sl T], fun x => (x.1, ()), fun x => [x.1.length <= 1000000]⟩
theorem clone_eq {T : Ty} {n : Nat} (hn : n <= 1000) {l : List T.den} (hl : l.length <= 1000000) : (frClone T n (l, ())).ok /\ (frClone T n (l, ())).get = (l, ()) := by
 have h1 : ([] : List T.den).length + l.length <= maxLen /\ (([] : List T.den).length + l.length) * n <= 140737488355328 := by
  refine ⟨by simp only [List.length_nil]; unfold maxLen; omega, ?_⟩
  have : (([] : List T.den).length + l.length) * n <= 1000000 * 1000 := Nat.mul_le_mul (by simp only [List.length_nil]; omega) hn
  omega
 refine Fr.need_ (fun h => ?_) (Fr.br_f rfl (Fr.need_ h1 ⟨trivial, rfl⟩))
 subst h
 exact ⟨⟨fun _ => trivial, fun h => by cases h⟩, rfl⟩
noncomputable def CI17 : Cx := cx [] []
theorem CI17_ok : CxOK Tryz.prog CI17 := cx_ok (cs := []) (ps := []) mixed trivial trivial
theorem cloneB_ok : SoundCt Tryz.prog 127 (cClone bandT) :=
 convF (fn_sound CI17_ok (Λ := lam0) (fn := Tryz.f127) (fr := frClone bandT 16) (ps := [.d (.sl bandT)]) (rs := [.sl bandT]) ([], ()) (by kernel_rfl) (fun c E _ => lam0_ok c 0) (fun x => by kernel_rfl)) _ _
  (fun _ _ x _ _ hok => clone_eq (by decide) hok)
theorem cloneI_ok : SoundCt Tryz.prog 128 (cClone i64) :=
 convF (fn_sound CI17_ok (Λ := lam0) (fn := Tryz.f128) (fr := frClone i64 8) (ps := [.d (.sl i64)]) (rs := [.sl i64]) ([], ()) (by kernel_rfl) (fun c E _ => lam0_ok c 0) (fun x => by kernel_rfl)) _ _
  (fun _ _ x _ _ hok => clone_eq (by decide) hok)
theorem cloneC_ok : SoundCt Tryz.prog 72 (cClone coverT) :=
 convF (fn_sound CI17_ok (Λ := lam0) (fn := Tryz.f72) (fr := frClone coverT 40) (ps := [.d (.sl coverT)]) (rs := [.sl coverT]) ([], ()) (by kernel_rfl) (fun c E _ => lam0_ok c 0) (fun x => by kernel_rfl)) _ _
  (fun _ _ x _ _ hok => clone_eq (by decide) hok)
def findI (g : Int -> Bool) : List Int -> Int -> Option Int
 | [], _ => none
 | x :: r, i => if g x = true then some i else findI g r (i + 1)
abbrev fnB : PT := .fn [i64] [.bool]
def MIx : LS := ⟨[(0, .d ints), (1, fnB), (7, .d i64), (8, .d i64)], []⟩
def ptIx : Pt := ⟨19, 0, MIx, ⟨[], []⟩, ⟨[(4, .d i64)], []⟩⟩
def fIx (x : MIx.X) : Fr ptIx.Out :=
 match x with
 | ((l, g, n, i, _), _) => Fr.br (decide (i < n))
  (Fr.need (0 <= i /\ i < l.length)
   (Fr.br (g (l.getD i.toNat i64.dflt, ())).1 (Fr.val (Rd.back ((i, ()), ())))
    (Fr.val (Rd.next ((l, g, n, IntKind.i64.wrap (i + 1), ()), ())))))
  (Fr.val (Rd.out ((), ())))
def InIx (l : List Int) (n i : Int) : Prop := 0 <= i /\ i <= n /\ n = l.length /\ n <= 9223372036854775807
def FIx (x : MIx.X) : Fr ptIx.Out :=
 Fr.need (InIx x.1.1 x.1.2.2.1 x.1.2.2.2.1) (Fr.br (findI (fun n => (x.1.2.1 (n, ())).1) (x.1.1.drop x.1.2.2.2.1.toNat) x.1.2.2.2.1).isSome
   (Fr.val (.back (((findI (fun n => (x.1.2.1 (n, ())).1) (x.1.1.drop x.1.2.2.2.1.toNat) x.1.2.2.2.1).getD (-1), ()), ()))) (Fr.val (.out ((), ()))))
theorem semIx : Does Tryz.prog (loopF Tryz.f170 0) MIx ptIx fIx := Does.of_run CI17_ok (bs := 0) rfl rfl rfl (fun _ => lam0_ok _ 0) (fun x => by kernel_rfl)
theorem lawIx (l : List Int) (g : denL [i64] -> denL [.bool]) (n i : Int) (hinv : InIx l n i) (Q : ptIx.Out -> Prop) (hq : (Fr.br (findI (fun n => (g (n, ())).1) (l.drop i.toNat) i).isSome (Fr.val (Rd.back (((findI (fun n => (g (n, ())).1) (l.drop i.toNat) i).getD (-1), ()), ()))) (Fr.val (Rd.out ((), ())))  : Fr ptIx.Out).satP Q) :
  (fIx ((l, g, n, i, ()), ())).satP fun
   | .next x' => InIx x'.1.1 x'.1.2.2.1 x'.1.2.2.2.1 /\ (x'.1.2.2.1 - x'.1.2.2.2.1).toNat < (n - i).toNat /\ (FIx x').satP Q
   | .out y => Q (.out y)
   | .back z => Q (.back z)
   | .pan p => Q (.pan p) := by
 obtain ⟨h1, h2, h3, h4⟩ := hinv
 subst h3
 refine ⟨fun hi => ?_, fun hi => ?_⟩
 ·have hi' : i < (l.length : Int) := of_decide_eq_true hi
  obtain ⟨k, rfl⟩ : ∃ k : Nat, i = k := ⟨i.toNat, by omega⟩
  have hl : k < l.length := by omega
  have g1 : l.getD (k : Int).toNat i64.dflt = l[k] := by
   rw [show (k : Int).toNat = k by omega, List.getD_eq_getElem?_getD, List.getElem?_eq_getElem hl]; rfl
  have hw : IntKind.i64.wrap ((k : Int) + 1) = k + 1 := IntWalk.i64_in _ (by omega)
  have hd : l.drop (k : Int).toNat = l[k] :: l.drop (k + 1) := by
   rw [show (k : Int).toNat = k by omega]
   exact (List.drop_eq_getElem_cons hl)
  rw [hd] at hq
  dsimp only [fIx, Fr.satP]
  rw [g1, hw]
  refine ⟨⟨by omega, by omega⟩, fun hb => ?_, fun hb => ?_⟩
  ·have : findI (fun n => (g (n, ())).1) (l[k] :: l.drop (k + 1)) k = some (k : Int) := if_pos hb
   rw [this] at hq
   exact hq.1 rfl
  ·have hb' : ¬ (g (l[k], ())).1 = true := by rw [hb]; decide
   have : findI (fun n => (g (n, ())).1) (l[k] :: l.drop (k + 1)) k = findI (fun n => (g (n, ())).1) (l.drop (k + 1)) (k + 1) := if_neg hb'
   rw [this] at hq
   have hI : InIx l l.length ((k : Int) + 1) := ⟨by omega, by omega, rfl, h4⟩
   refine ⟨hI, by omega, hI, ?_⟩
   rw [show ((k : Int) + 1).toNat = k + 1 by omega]
   exact hq
 ·have hi' : ¬ i < (l.length : Int) := of_decide_eq_false hi
  have e : l.drop i.toNat = [] := List.drop_eq_nil_of_le (by omega)
  rw [e] at hq
  exact hq.2 rfl
theorem loopIx : Does Tryz.prog (.loop (loopF Tryz.f170 0)) MIx ptIx FIx := by
 refine Does.loop (n := 19) (id := 0) semIx (inv := fun x => InIx x.1.1 x.1.2.2.1 x.1.2.2.2.1) (μ := fun x => (x.1.2.2.1 - x.1.2.2.2.1).toNat) ?_ (fun x Q h => h.1)
 rintro ⟨⟨l, g, n, i, _⟩, _⟩ hinv Q hq
 exact lawIx l g n i hinv Q hq.2
def cIdx : Ct := ⟨[.d ints, fnB], [i64], fun x => ((findI (fun n => (x.2.1 (n, ())).1) x.1 0).getD (-1), ()), fun _ => []⟩
theorem idx_ok : SoundCt Tryz.prog 170 cIdx :=
 convF (fn_sound CI17_ok (Λ := fun _ => ptIx.han CI17.Γ MIx FIx) (fn := Tryz.f170) (ps := [.d ints, fnB]) (rs := [i64])
  (fr := fun x => Fr.need (InIx x.1 x.1.length 0) (Fr.br (findI (fun n => (x.2.1 (n, ())).1) x.1 0).isSome (Fr.val ((findI (fun n => (x.2.1 (n, ())).1) x.1 0).getD (-1), ())) (Fr.val (-1, ())))) ([], fun _ => (false, ()), ()) (by kernel_rfl)
  (fun c E hc => lam1f hc (by kernel_rfl) (b := loopF Tryz.f170 0) (by kernel_rfl) (Does.han CI17_ok rfl loopIx)) (fun x => by kernel_rfl)) _ _ (fun w F x vs hr _ => by
  obtain ⟨l, g, _⟩ := x
  obtain ⟨v, vs', rfl, hv, _⟩ := hr
  have hlen : (l.length : Int) <= 9223372036854775807 := wf_len hv
  have hI : InIx l l.length 0 := ⟨by omega, by omega, rfl, hlen⟩
  refine Fr.need_ hI ?_
  cases hf : findI (fun n => (g (n, ())).1) l 0 with
  | some k => exact Fr.br_t rfl ⟨trivial, rfl⟩
  | none => exact Fr.br_f rfl ⟨trivial, rfl⟩)
theorem findI_some (g : Int -> Bool) : (l : List Int) -> (i : Int) -> 0 <= i -> decide ((findI g l i).getD (-1) ≥ 0) = l.any g
 | [], i, _ => rfl
 | x :: r, i, h => by
  unfold findI
  simp only [List.any_cons]
  split
  ·rename_i hg
   rw [hg]
   simpa using h
  ·rename_i hg
   rw [findI_some g r (i + 1) (by omega)]
   simp only [Bool.not_eq_true] at hg
   rw [hg]
   rfl
def cAny : Ct := ⟨[.d ints, fnB], [.bool], fun x => (x.1.any fun n => (x.2.1 (n, ())).1, ()), fun _ => []⟩
noncomputable def CI17b : Cx := cx [(170, cIdx)] []
theorem CI17b_ok : CxOK Tryz.prog CI17b := cx_ok mixed ⟨idx_ok, trivial⟩ trivial
theorem any_ok : SoundCt Tryz.prog 164 cAny :=
 convF (fn_sound CI17b_ok (Λ := lam0) (fn := Tryz.f164) (fr := fun x => Fr.val (decide ((cIdx.f (x.1, x.2.1, ())).1 ≥ 0), ())) (ps := [.d ints, fnB]) (rs := [.bool]) ([], fun _ => (false, ()), ()) (by kernel_rfl) (fun c E _ => lam0_ok c 0) (fun x => by kernel_rfl)) _ _
  (fun _ _ x _ _ _ => by
   obtain ⟨l, g, _⟩ := x
   exact ⟨trivial, Prod.ext (findI_some (fun n => (g (n, ())).1) l 0 (Int.le_refl 0)) rfl⟩)
def facBad (n : Int) : Bool := bif decide (n < 0) then true else decide (n > 100000)
def cFacBad : Ct := ⟨[.d i64], [.bool], fun x => (facBad x.1, ()), fun _ => []⟩
theorem facBad_ok : SoundCt Tryz.prog 165 cFacBad :=
 convF (fn_sound CI17_ok (Λ := lam0) (fn := Tryz.f165) (fr := fun x => Fr.val (facBad x.1, ())) (ps := [.d i64]) (rs := [.bool]) (0, ()) (by kernel_rfl) (fun c E _ => lam0_ok c 0) (fun x => by kernel_rfl)) _ _ (fun _ _ _ _ _ _ => ⟨trivial, rfl⟩)
theorem facs_eq (l : List Int) : (!l.any facBad) = factorsB l := by
 unfold factorsB
 rw [List.not_any_eq_all_not]
 congr 1
 funext n
 unfold facBad
 rw [Bool.eq_iff_iff]
 by_cases h : n < 0
 ·simp [h]; omega
 ·simp [h]; omega
noncomputable def CI17c : Cx := cx [(164, cAny), (165, cFacBad)] []
theorem CI17c_ok : CxOK Tryz.prog CI17c := cx_ok mixed ⟨any_ok, facBad_ok, trivial⟩ trivial
theorem facs_ok : SoundCt Tryz.prog 153 cFactors :=
 convF (fn_sound CI17c_ok (Λ := lam0) (fn := Tryz.f153) (fr := fun x => Fr.need (∀ (y : denL [i64]), WfL [i64] y -> True) (Fr.val (!(cAny.f (x.1, fun y => cFacBad.f (y.1, ()), ())).1, ()))) (ps := [.d ints]) (rs := [.bool]) ([], ()) (by kernel_rfl) (fun c E _ => lam0_ok c 0) (fun x => by kernel_rfl)) _ _
  (fun _ _ x _ _ _ => by
   obtain ⟨l, _⟩ := x
   exact ⟨⟨fun _ _ => trivial, trivial⟩, Prod.ext (facs_eq l) rfl⟩)
def verB (v : verT.den) : Bool :=
 decide (1 <= v.1 /\ v.1 <= 292194 /\ 0 <= v.2.2.2.2.2.1 /\ v.2.2.2.2.2.1 <= 1000000000000000 /\ v.2.2.1.length <= 100 /\ 1 <= v.2.2.2.1.length /\ v.2.2.2.1.length <= 100 /\ v.2.2.2.2.1.length = 8) &&
  (factorsB [v.2.1.1, v.2.1.2.1, v.2.1.2.2.1, v.2.1.2.2.2.1] && (factorsB v.2.2.2.1 && (factorsB v.2.2.2.2.1 && bandsL v.2.2.1)))
def cVer : Ct := ⟨[.d verT], [.bool], fun x => (verB x.1, ()), fun _ => []⟩
noncomputable def CI17d : Cx := cx [(153, cFactors), (154, cBands), (127, cClone bandT), (128, cClone i64)] []
theorem CI17d_ok : CxOK Tryz.prog CI17d := cx_ok mixed ⟨facs_ok, bands_ok, cloneB_ok, cloneI_ok, trivial⟩ trivial
def ver1 (a b : Int) : Bool := bif bif bif decide (a < 1) then true else decide (a > 292194) then true else decide (b < 0) then true else decide (b > 1000000000000000)
def ver2 (n z p : Nat) : Bool := bif bif bif decide ((n : Int) > 100) then true else decide ((z : Int) < 1) then true else decide ((z : Int) > 100) then true else (p : Int) != 8
def frVer (x : denP [.d verT]) : Fr (denL [.bool]) :=
 Fr.br (ver1 x.1.1 x.1.2.2.2.2.2.1) (Fr.val (false, ()))
  (Fr.br (ver2 x.1.2.2.1.length x.1.2.2.2.1.length x.1.2.2.2.2.1.length) (Fr.val (false, ()))
   (Fr.val (bif bif bif (cFactors.f ([x.1.2.1.1, x.1.2.1.2.1, x.1.2.1.2.2.1, x.1.2.1.2.2.2.1], ())).1 then (cFactors.f (x.1.2.2.2.1, ())).1 else false then (cFactors.f (x.1.2.2.2.2.1, ())).1 else false then (cBands.f (x.1.2.2.1, ())).1 else false, ())))
theorem ver_dec (a b : Int) (n z p : Nat) : (!(ver1 a b || ver2 n z p)) = decide (1 <= a /\ a <= 292194 /\ 0 <= b /\ b <= 1000000000000000 /\ n <= 100 /\ 1 <= z /\ z <= 100 /\ p = 8) := by
 have e1 : ver1 a b = decide (a < 1 ∨ a > 292194 ∨ b < 0 ∨ b > 1000000000000000) := by
  unfold ver1
  simp only [cond_eq_ite, Bool.decide_or]
  cases decide (a < 1) <;> cases decide (a > 292194) <;> cases decide (b < 0) <;> simp
 have e2 : ver2 n z p = decide ((n : Int) > 100 ∨ (z : Int) < 1 ∨ (z : Int) > 100 ∨ (p : Int) ≠ 8) := by
  unfold ver2
  simp only [cond_eq_ite, Bool.decide_or]
  cases decide ((n : Int) > 100) <;> cases decide ((z : Int) < 1) <;> cases decide ((z : Int) > 100) <;> simp [bne, Bool.beq_eq_decide_eq]
 rw [e1, e2, Bool.eq_iff_iff]
 simp only [Bool.not_eq_true', Bool.or_eq_false_iff, decide_eq_false_iff_not, decide_eq_true_eq]
 omega
theorem tVer_ok : SoundCt Tryz.prog 131 cVer :=
 convF (fn_sound CI17d_ok (Λ := lam0) (fn := Tryz.f131) (fr := frVer) (ps := [.d verT]) (rs := [.bool]) (verT.dflt, ()) (by kernel_rfl) (fun c E _ => lam0_ok c 0) (fun x => by kernel_rfl)) _ _
  (fun _ _ x _ _ _ => by
   obtain ⟨v, _⟩ := x
   show (frVer (v, ())).ok /\ (frVer (v, ())).get = (verB v, ())
   unfold verB
   rw [← ver_dec]
   unfold frVer
   cases h1 : ver1 v.1 v.2.2.2.2.2.1 with
   | true => exact Fr.br_t rfl ⟨trivial, rfl⟩
   | false =>
    refine Fr.br_f rfl ?_
    cases h2 : ver2 v.2.2.1.length v.2.2.2.1.length v.2.2.2.2.1.length with
    | true => exact Fr.br_t rfl ⟨trivial, rfl⟩
    | false =>
     refine Fr.br_f rfl ⟨trivial, Prod.ext ?_ rfl⟩
     show (bif bif bif factorsB _ then factorsB _ else false then factorsB _ else false then bandsL _ else false) = _
     cases factorsB [v.2.1.1, v.2.1.2.1, v.2.1.2.2.1, v.2.1.2.2.2.1] <;> cases factorsB v.2.2.2.1 <;> cases factorsB v.2.2.2.2.1 <;> rfl)
def verFew (v : verT.den) : Prop := v.2.2.1.length <= 1000000 /\ v.2.2.2.1.length <= 1000000 /\ v.2.2.2.2.1.length <= 1000000
def cOwn : Ct := ⟨[.d verT], [verT], fun x => (x.1, ()), fun x => [verFew x.1]⟩
theorem own_ok : SoundCt Tryz.prog 89 cOwn :=
 convF (fn_sound CI17d_ok (Λ := lam0) (fn := Tryz.f89) (fr := fun x => Fr.need (x.1.2.2.1.length <= 1000000) (Fr.need (x.1.2.2.2.1.length <= 1000000) (Fr.need (x.1.2.2.2.2.1.length <= 1000000) (Fr.val (x.1, ()))))) (ps := [.d verT]) (rs := [verT]) (verT.dflt, ()) (by kernel_rfl) (fun c E _ => lam0_ok c 0) (fun x => by kernel_rfl)) _ _
  (fun _ _ x _ _ hok => ⟨⟨hok.1, hok.2.1, hok.2.2, trivial⟩, rfl⟩)
end Go.Proofs.YtplkgghjldndkaaGreat
namespace Go.Proofs.YtplkgghjldndkaaGreat
open Go Go.Ab Go.RowKit Go.Proofs Go.Shelf
attribute [local go_sem] Oper.semAt_some
def firstN (f : Nat -> Nat) (k : Nat) : List Nat := (List.range k).map f
theorem firstN_succ (f : Nat -> Nat) (k : Nat) : firstN f (k + 1) = firstN f k ++ [f k] := by simp [firstN, List.range_succ]
theorem firstN_length (f : Nat -> Nat) (k : Nat) : (firstN f k).length = k := by simp [firstN]
def verV (c : Nat -> Nat -> Value) (k : Nat) : Value := .agg #[c k 0, c k 1, c k 2, c k 3, c k 4, c k 5, c k 6, c k 7, c k 8]
set_option maxRecDepth 100000 in
set_option maxHeartbeats 2000000 in
theorem back1_in (n : Nat) (hn : 1 <= n) (l Bs n₀ b off len cap : Nat) (c : Nat -> Nat -> Value) (hreach : len <= 1000000) (A : Option Addr) (hA : 0 < len -> A = some ⟨b, off, none⟩ /\ b < n₀) (J Jx : List (Fin len) -> World -> Prop)
  (hY : ∀ pre (k : Fin len) W, J pre W -> pre.length < len -> YieldAt Fence.wide (n - 1) Tryz.prog l #[.int .i64 ((k.1 : Nat) : Int), verV c k.1] W fun e W' =>
   (e = .returned (.bool true) /\ J (pre ++ [k]) W' /\ KpS n₀ Bs Bs W W') ∨ (e = .returned (.bool false) /\ Jx (pre ++ [k]) W'))
  (W : World) (hBs : W.heap[Bs]? = some (.cells #[.slice A len cap] 32 (0, 0))) (hc : ∀ k j, k < len -> j < 9 -> W.cell? ⟨b, off + (k * 9 + j), none⟩ = some (c k j)) (h0 : J [] W) :
  CallsIn Fence.wide n Tryz.prog 126 #[.func (.yield l) #[] #[], .pointer (some ⟨Bs, 0, none⟩)] W fun e W' => (∃ v, e = .returned v) /\
   ((∃ ys : List (Fin len), ys.map Fin.val = firstN (fun j => len - 1 - j) len /\ J ys W') ∨ (∃ pre : List (Fin len), (∃ k, k <= len /\ pre.map Fin.val = firstN (fun j => len - 1 - j) k) /\ Jx pre W')) := by
 have hro : Fence.wide.round = none := rfl
 refine callsIn_of_wp Tryz.func126 rfl trivial ?_ hro
 simp only [Tryz.ntmps126, List.size_toArray, List.length_cons, List.length_nil, Nat.reduceAdd, Nat.reduceSub, Array.replicate_succ, Array.replicate_zero, List.push_toArray, List.append_toArray, List.nil_append, List.cons_append]
 have c0 : W.cell? ⟨Bs, 0, none⟩ = some (.slice A len cap) := cell_of_block hBs 0
 gi_wp2
 gi_loopw [3] (fun i wr => ∃ (k : Nat) (pre : List (Fin len)), k <= len /\ i = .int .i64 ((len : Int) - 1 - k) /\ pre.map Fin.val = firstN (fun j => len - 1 - j) k /\ J pre wr /\ KpS n₀ Bs Bs W wr)
  (fun i _ => (intOf i + 1).toNat)
 case atStart => exact ⟨0, [], Nat.zero_le _, by simp, rfl, h0, KpS.refl _ _ _ _⟩
 case round =>
  obtain ⟨k, pre, hk, rfl, hpre, hJs, hnx⟩ := hrel
  have e0 : wr.cell? ⟨Bs, 0, none⟩ = some (.slice A len cap) := cell_of_block (hnx.2.1.trans hBs) 0
  by_cases hlt : k < len
  ·obtain ⟨rfl, hb⟩ := hA (by omega)
   obtain ⟨fn, tmps, assign, body, hy, hR⟩ := hY pre ⟨len - 1 - k, by omega⟩ wr hJs (by have := congrArg List.length hpre; rw [firstN_length, List.length_map] at this; omega)
   have hcx : ∀ j, j < 9 -> wr.cell? ⟨b, off + (len - 1 - k) * 9 + j, none⟩ = some (c (len - 1 - k) j) := fun j hj => by
    rw [Nat.add_assoc]
    exact (hnx.1.cell (p := ⟨b, off + ((len - 1 - k) * 9 + j), none⟩) hb).trans (hc _ j (by omega) hj)
   have x0 := hcx 0 (by omega)
   have x1 := hcx 1 (by omega)
   have x2 := hcx 2 (by omega)
   have x3 := hcx 3 (by omega)
   have x4 := hcx 4 (by omega)
   have x5 := hcx 5 (by omega)
   have x6 := hcx 6 (by omega)
   have x7 := hcx 7 (by omega)
   have x8 := hcx 8 (by omega)
   rw [Nat.add_zero] at x0
   have ek : ((len - 1 - k : Nat) : Int) = (len : Int) - 1 - k := by omega
   dsimp only at hy
   rw [ek] at hy
   unfold verV at hy
   clear hcx hc hBs
   gi_wp2
   refine hR.mono ?_
   rintro e W3 (⟨rfl, hJ3, hk3⟩ | ⟨rfl, hJx3⟩)
   ·gi_wp2
    go_roundw
    case rel => exact ⟨k + 1, pre ++ [⟨len - 1 - k, by omega⟩], by omega, by simp; omega, by rw [firstN_succ, List.map_append, hpre]; rfl, hJ3, hnx.trans hk3⟩
    case measure => simp [intOf]; omega
   ·gi_wp2
    refine bodyPost_ret (results_none rfl _ _ _) rfl ?_
    exact ⟨⟨_, rfl⟩, .inr ⟨_, ⟨k + 1, by omega, by rw [firstN_succ, List.map_append, hpre]; rfl⟩, hJx3⟩⟩
  ·obtain rfl : k = len := by omega
   gi_wp2
   go_end0
   exact ⟨⟨_, rfl⟩, .inl ⟨_, hpre, hJs⟩⟩
end Go.Proofs.YtplkgghjldndkaaGreat
namespace Go.Ab
open Go Go.RowKit
def Ty.plain : Ty -> Bool
 | .fm _ => false
 | .sl e => e.plain && decide (0 < e.size)
 | .pair a b => a.plain && b.plain
 | _ => true
theorem RepT.some_cell {w : World} {F : Nat -> Prop} : {t : Ty} -> {x : t.den} -> {g : Nat -> Value -> Prop} -> 0 < t.size -> RepT w F t x g -> ∃ j u, g j u
 | .int _, _, _, _, h => ⟨0, _, h.1⟩
 | .bool, _, _, _, h => ⟨0, _, h⟩
 | .str, _, _, _, h => ⟨0, _, h.1⟩
 | .sl _, _, _, _, h => by
  obtain ⟨A, c, h1, _⟩ := h
  exact ⟨0, _, h1⟩
 | .unit, _, _, h, _ => absurd h (by decide)
 | .pair a b, _, _, h, hr => by
  by_cases ha : 0 < a.size
  ·exact RepT.some_cell ha hr.1
  ·have hb : 0 < b.size := by simp only [Ty.size] at h; omega
   obtain ⟨j, u, hu⟩ := RepT.some_cell hb hr.2
   exact ⟨_, u, hu⟩
 | .fm _, _, _, _, h => by
  obtain ⟨r, arr, ck, h1, _⟩ := h
  exact ⟨0, _, h1⟩
theorem cell_cells {w : World} {a : Addr} {u : Value} (h : w.cell? a = some u) : ∃ arr ty p, w.heap[a.block]? = some (.cells arr ty p) := by
 unfold World.cell? at h
 split at h
 ·rename_i arr ty p he
  exact ⟨arr, ty, p, he⟩
 ·cases h
theorem RepT.only {w : World} {F G : Nat -> Prop} (hG : ∀ b, F b -> (∃ arr ty p, w.heap[b]? = some (.cells arr ty p)) -> G b) : {t : Ty} -> {x : t.den} -> {g : Nat -> Value -> Prop} -> t.plain = true -> RepT w F t x g -> RepT w G t x g
 | .int _, _, _, _, h => h
 | .bool, _, _, _, h => h
 | .str, _, _, _, h => h
 | .sl e, _, _, hp, h => by
  obtain ⟨A, c, h1, h2, h3, h4⟩ := h
  simp only [Ty.plain, Bool.and_eq_true, decide_eq_true_eq] at hp
  refine ⟨A, c, h1, h2, h3, fun i x hx => ?_⟩
  obtain ⟨ad, ha, hf, hr⟩ := h4 i x hx
  obtain ⟨j, u, hu⟩ := RepT.some_cell hp.2 hr
  have hc := cell_cells hu
  have hb : (ad.add (i * e.size + j)).block = ad.block := by unfold Addr.add; split <;> rfl
  rw [hb] at hc
  exact ⟨ad, ha, hG _ hf hc, RepT.only hG hp.1 hr⟩
 | .unit, _, _, _, _ => trivial
 | .pair a b, _, _, hp, h => by
  simp only [Ty.plain, Bool.and_eq_true] at hp
  exact ⟨RepT.only hG hp.1 h.1, RepT.only hG hp.2 h.2⟩
 | .fm _, _, _, hp, _ => by cases hp
theorem RepV.only {w : World} {F G : Nat -> Prop} (hG : ∀ b, F b -> (∃ arr ty p, w.heap[b]? = some (.cells arr ty p)) -> G b) {t : Ty} {x : t.den} {v : Value} (hp : t.plain = true) (h : RepV w F t x v) : RepV w G t x v :=
 ⟨h.1, h.2.1, h.2.2.only hG hp⟩
end Go.Ab
namespace Go.Proofs.YtplkgghjldndkaaGreat
open Go Go.Ab Go.RowKit Go.Proofs Go.Shelf
attribute [local go_sem] Oper.semAt_some
structure VC where
 p : Nat -> Int
 A : Nat -> Option Addr
 l : Nat -> Nat
 c : Nat -> Nat
def arr9 (d : VC) : Array Value := #[.int .i64 (d.p 0), .int .i64 (d.p 1), .int .i64 (d.p 2), .int .i64 (d.p 3), .int .i64 (d.p 4), .slice (d.A 0) (d.l 0) (d.c 0), .slice (d.A 1) (d.l 1) (d.c 1), .slice (d.A 2) (d.l 2) (d.c 2), .int .i64 (d.p 5)]
def agg9 (d : VC) : Value := .agg (arr9 d)
theorem ver_cells {w : World} {F : Nat -> Prop} {x : verT.den} {g : Nat -> Value -> Prop} (h : RepT w F verT x g) : ∃ d : VC, (∀ j u, (arr9 d)[j]? = some u -> g j u) /\ d.p 0 = x.1 := by
 obtain ⟨h0, ⟨b0, b1, b2, b3, _⟩, ⟨A1, c1, h1, _⟩, ⟨A2, c2, h2, _⟩, ⟨A3, c3, h3, _⟩, h4, _⟩ := h
 refine ⟨⟨fun j => match j with | 0 => x.1 | 1 => x.2.1.1 | 2 => x.2.1.2.1 | 3 => x.2.1.2.2.1 | 4 => x.2.1.2.2.2.1 | _ => x.2.2.2.2.2.1, fun j => match j with | 0 => A1 | 1 => A2 | _ => A3, fun j => match j with | 0 => x.2.2.1.length | 1 => x.2.2.2.1.length | _ => x.2.2.2.2.1.length, fun j => match j with | 0 => c1 | 1 => c2 | _ => c3⟩, fun j u hj => ?_, rfl⟩
 match j, hj with
 | 0, hj => cases hj; exact h0.1
 | 1, hj => cases hj; exact b0.1
 | 2, hj => cases hj; exact b1.1
 | 3, hj => cases hj; exact b2.1
 | 4, hj => cases hj; exact b3.1
 | 5, hj => cases hj; exact h1
 | 6, hj => cases hj; exact h2
 | 7, hj => cases hj; exact h3
 | 8, hj => cases hj; exact h4.1
 | j + 9, hj => simp [arr9] at hj
theorem ver_agg {w : World} {F : Nat -> Prop} {x : verT.den} {v : Value} (h : RepV w F verT x v) : ∃ d : VC, v = agg9 d /\ d.p 0 = x.1 := by
 obtain ⟨cs, rfl⟩ := h.2.1.1 rfl
 have hs : cs.size = 9 := h.1
 obtain ⟨d, hd, h0⟩ := ver_cells h.2.2
 refine ⟨d, ?_, h0⟩
 unfold agg9
 congr 1
 apply Array.ext
 ·exact hs
 ·intro i hi1 hi2
  have := hd i (arr9 d)[i] (Array.getElem?_eq_getElem hi2)
  have h2 : cs[i]? = some (arr9 d)[i] := this
  rw [Array.getElem?_eq_getElem hi1] at h2
  exact Option.some.inj h2
def zero9 : Array Value := #[.int .i64 0, .int .i64 0, .int .i64 0, .int .i64 0, .int .i64 0, .slice none 0 0, .slice none 0 0, .slice none 0 0, .int .i64 0]
def OwnRes (F : Nat -> Prop) (x : verT.den) (d : VC) (W w' : World) : Prop :=
 ∃ F', RepV w' F' verT x (agg9 d) /\ ∀ b, F' b -> (F b ∨ W.heap.size <= b) /\ ∃ arr ty p, w'.heap[b]? = some (.cells arr ty p)
theorem own_calls {w W : World} {F : Nat -> Prop} {x : verT.den} {v : Value} (hb : ∀ b, F b -> b < w.heap.size) (hW : Below w.heap.size w W) (hx : RepV w F verT x v) (hf : verFew x) :
  Calls Tryz.prog 89 #[v] W fun e w' => ∃ d, e = .returned (agg9 d) /\ Below W.heap.size W w' /\ OwnRes F x d W w' := by
 have hx' : RepV W F verT x v := hx.mono (fun _ h => h) (fun b h => hW.block b (hb b h))
 refine (own_ok.2 W F (x, ()) [v] (fun b h => Nat.lt_of_lt_of_le (hb b h) hW.size) ⟨v, [], rfl, hx', rfl⟩ hf).mono ?_
 rintro e w' ⟨u, F', rfl, hbel, h1, h2, h3⟩
 have h3' : RepV w' F' verT x u := h3
 obtain ⟨d, rfl, _⟩ := ver_agg h3'
 exact ⟨d, rfl, hbel, fun b => F' b /\ ∃ arr ty p, w'.heap[b]? = some (.cells arr ty p), h3'.only (fun b h hc => ⟨h, hc⟩) rfl, fun b h => ⟨(h2 b h.1).1, h.2⟩⟩
structure AtI (w : World) {len : Nat} (day : Int) (sv : Value) (fr : Nat -> Int) (pre : List (Fin len)) (W : World) : Prop where
 x3 : Boxed W (w.heap.size + 1) 3 (.int .i64 day)
 x4 : W.heap[w.heap.size + 2]? = some (.cells zero9 71 (0, 0))
 x5 : Boxed W (w.heap.size + 3) 41 (.int .i64 0)
 xs : Boxed W (w.heap.size + 4) 32 sv
 bel : Below w.heap.size w W
 sz : w.heap.size + 5 <= W.heap.size
 no : ∀ k ∈ pre, ¬ fr k.1 <= day
structure AtX (w : World) {len : Nat} (F : Nat -> Prop) (day : Int) (x : Nat -> verT.den) (fr : Nat -> Int) (c : Code) (pre : List (Fin len)) (W : World) : Prop where
 ret : c = .ret
 res : ∃ ini k d F', pre = ini ++ [k] /\ (∀ k ∈ ini, ¬ fr k.1 <= day) /\ fr k.1 <= day /\ W.heap[w.heap.size + 2]? = some (.cells (arr9 d) 71 (0, 0)) /\ RepV W F' verT (x k.1) (agg9 d) /\ (∀ b, F' b -> (F b ∨ w.heap.size <= b) /\ ∃ arr ty p, W.heap[b]? = some (.cells arr ty p))
 x5 : Boxed W (w.heap.size + 3) 41 (.int .i64 0)
 bel : Below w.heap.size w W
theorem block_abides {X Y : World} {row : Option Nat} {B b : Nat} {cs : Array Value} {t : TypeId} {p : Nat × Nat} (h : X.heap[b]? = some (.cells cs t p)) (hg : X.grownBy Y row) (hr : ∀ r, row = some r -> B <= r /\ ∃ o : Obj, X.heap[r]? = some o /\ o.isCells = false) : Y.heap[b]? = some (.cells cs t p) :=
 (hg.block b (Array.getElem?_eq_some_iff.1 h).1 (fun e => by
  obtain ⟨_, o, ho, hc⟩ := hr b e.symm
  rw [h] at ho
  cases ho
  cases hc)).trans h
theorem atI_own {w : World} {len : Nat} {day : Int} {sv : Value} {fr : Nat -> Int} {B : Nat} (hB : w.heap.size <= B) : OwnFrom B (fun (pre : List (Fin len)) W => AtI w day sv fr pre W) := fun pre X Y row h hg hr =>
 ⟨box_abides h.x3 hg hr, block_abides h.x4 hg hr, box_abides h.x5 hg hr, box_abides h.xs hg hr, h.bel.grown hg h.bel.size (fun k e => Nat.le_trans hB (hr k e).1), Nat.le_trans h.sz hg.size, h.no⟩
theorem atX_own {w : World} {len : Nat} {F : Nat -> Prop} {day : Int} {x : Nat -> verT.den} {fr : Nat -> Int} {B : Nat} (hB : w.heap.size <= B) (c : Code) : OwnFrom B (fun (pre : List (Fin len)) W => AtX w F day x fr c pre W) := fun pre X Y row h hg hr => by
 refine ⟨h.ret, ?_, box_abides h.x5 hg hr, h.bel.grown hg h.bel.size (fun k e => Nat.le_trans hB (hr k e).1)⟩
 obtain ⟨ini, k, d, F', e1, e2, e3, e4, e5, e6⟩ := h.res
 refine ⟨ini, k, d, F', e1, e2, e3, block_abides e4 hg hr, e5.mono (fun _ h => h) (fun b hb => ?_), fun b hb => ?_⟩
 ·obtain ⟨_, arr, ty, p, hc⟩ := e6 b hb
  rw [hc]
  exact block_abides hc hg hr
 ·obtain ⟨hh, arr, ty, p, hc⟩ := e6 b hb
  exact ⟨hh, arr, ty, p, block_abides hc hg hr⟩
def AtA (w0 : Nat) (c : Nat -> VC) (a : Nat -> Nat -> Act) (k : Nat) (a' : Act) (W : World) : Prop := ∃ Bx, w0 <= Bx /\ W.heap[Bx]? = some (.cells (arr9 (c k)) 71 (0, 0)) /\ a' = a k Bx
theorem atA_own {w0 B : Nat} {c : Nat -> VC} {a : Nat -> Nat -> Act} (k : Nat) (a' : Act) : OwnFrom B (fun (_ : Unit) W => AtA w0 c a k a' W) := fun _ X Y row hs hg hr => by
 obtain ⟨Bx, h1, h2, h3⟩ := hs
 exact ⟨Bx, h1, block_abides h2 hg hr, h3⟩
set_option maxRecDepth 100000 in
set_option maxHeartbeats 1000000 in
theorem back_in (n : Nat) (A : Option Addr) (len cap : Nat) (w : World) :
  CallsIn Fence.wide n Tryz.prog 88 #[.slice A len cap] w fun e w' => e = .returned (.func (.func 126) #[] #[.pointer (some ⟨w.heap.size, 0, none⟩)]) /\ w' = w.alloc (.cells #[.slice A len cap] 32) := by
 refine callsIn_of_wp Tryz.func88 rfl trivial ?_ rfl
 simp only [Tryz.ntmps88, List.size_toArray, List.length_cons, List.length_nil, Nat.reduceAdd, Nat.reduceSub, Array.replicate_succ, Array.replicate_zero, List.push_toArray, List.append_toArray, List.nil_append, List.cons_append]
 gi_wp2
 go_ret
 exact ⟨rfl, rfl⟩
end Go.Proofs.YtplkgghjldndkaaGreat
namespace Go.Proofs.YtplkgghjldndkaaGreat
open Go Go.Ab Go.RowKit Go.Proofs Go.Shelf
attribute [local go_sem] Oper.semAt_some
def AtEnd (w : World) (F : Nat -> Prop) (day : Int) (x : Nat -> verT.den) (fr : Nat -> Int) (len : Nat) (e : Ending) (w' : World) : Prop :=
 (e = .returned (.tuple #[.agg zero9, .int .i64 7]) /\ ∀ k, k < len -> ¬ fr k <= day) ∨
 ∃ k d F', k < len /\ fr k <= day /\ (∀ j, k < j -> j < len -> ¬ fr j <= day) /\ e = .returned (.tuple #[agg9 d, .int .i64 0]) /\ RepV w' F' verT (x k) (agg9 d) /\ (∀ b, F' b -> (F b ∨ w.heap.size <= b) /\ b < w'.heap.size)
theorem setCells9_same {W : World} {B : Nat} {a0 a1 a2 a3 a4 a5 a6 a7 a8 : Value} {t : TypeId} (h : W.heap[B]? = some (.cells #[a0, a1, a2, a3, a4, a5, a6, a7, a8] t (0, 0))) (v0 v1 v2 v3 v4 v5 v6 v7 v8 : Value) :
  (W.setCells B 0 [v0, v1, v2, v3, v4, v5, v6, v7, v8]).heap[B]? = some (.cells #[v0, v1, v2, v3, v4, v5, v6, v7, v8] t (0, 0)) := by
 have h0 := heap_setCell_same W B 0 _ t v0 h
 rw [show (#[a0, a1, a2, a3, a4, a5, a6, a7, a8] : Array Value).setIfInBounds 0 v0 = #[v0, a1, a2, a3, a4, a5, a6, a7, a8] from rfl] at h0
 have h1 := heap_setCell_same _ B 1 _ t v1 h0
 rw [show (#[v0, a1, a2, a3, a4, a5, a6, a7, a8] : Array Value).setIfInBounds 1 v1 = #[v0, v1, a2, a3, a4, a5, a6, a7, a8] from rfl] at h1
 have h2 := heap_setCell_same _ B 2 _ t v2 h1
 rw [show (#[v0, v1, a2, a3, a4, a5, a6, a7, a8] : Array Value).setIfInBounds 2 v2 = #[v0, v1, v2, a3, a4, a5, a6, a7, a8] from rfl] at h2
 have h3 := heap_setCell_same _ B 3 _ t v3 h2
 rw [show (#[v0, v1, v2, a3, a4, a5, a6, a7, a8] : Array Value).setIfInBounds 3 v3 = #[v0, v1, v2, v3, a4, a5, a6, a7, a8] from rfl] at h3
 have h4 := heap_setCell_same _ B 4 _ t v4 h3
 rw [show (#[v0, v1, v2, v3, a4, a5, a6, a7, a8] : Array Value).setIfInBounds 4 v4 = #[v0, v1, v2, v3, v4, a5, a6, a7, a8] from rfl] at h4
 have h5 := heap_setCell_same _ B 5 _ t v5 h4
 rw [show (#[v0, v1, v2, v3, v4, a5, a6, a7, a8] : Array Value).setIfInBounds 5 v5 = #[v0, v1, v2, v3, v4, v5, a6, a7, a8] from rfl] at h5
 have h6 := heap_setCell_same _ B 6 _ t v6 h5
 rw [show (#[v0, v1, v2, v3, v4, v5, a6, a7, a8] : Array Value).setIfInBounds 6 v6 = #[v0, v1, v2, v3, v4, v5, v6, a7, a8] from rfl] at h6
 have h7 := heap_setCell_same _ B 7 _ t v7 h6
 rw [show (#[v0, v1, v2, v3, v4, v5, v6, a7, a8] : Array Value).setIfInBounds 7 v7 = #[v0, v1, v2, v3, v4, v5, v6, v7, a8] from rfl] at h7
 have h8 := heap_setCell_same _ B 8 _ t v8 h7
 rw [show (#[v0, v1, v2, v3, v4, v5, v6, v7, a8] : Array Value).setIfInBounds 8 v8 = #[v0, v1, v2, v3, v4, v5, v6, v7, v8] from rfl] at h8
 exact h8
theorem setCells_other {B k : Nat} (h : k ≠ B) : (vs : List Value) -> (o : Nat) -> (W : World) -> (W.setCells B o vs).heap[k]? = W.heap[k]?
 | [], _, _ => rfl
 | v :: r, o, W => (setCells_other h r (o + 1) _).trans (heap_setCell_other W _ k v h)
theorem setCells_below {B n : Nat} (h : n <= B) : (vs : List Value) -> (o : Nat) -> (W : World) -> Below n W (W.setCells B o vs)
 | [], _, W => Below.refl n W
 | v :: r, o, W => ((Below.refl n W).setCell (p := ⟨B, o, none⟩) h v).trans (setCells_below h r (o + 1) _)
theorem setCells_keeps {B : Nat} : (vs : List Value) -> (o : Nat) -> (W : World) -> KeepsOthers W (W.setCells B o vs)
 | [], _, W => KeepsOthers.refl W
 | v :: r, o, W => (KeepsOthers.setCell W _ v).trans (setCells_keeps r (o + 1) _)
theorem keeps_below {B : Nat} {W W' : World} (h : Below W.heap.size W W') : KeepsFrom B W W' :=
 ⟨h.size, fun k o _ hk _ => (h.block k (Array.getElem?_eq_some_iff.1 hk).1).trans hk⟩
set_option maxRecDepth 100000 in
theorem at_ret {W : World} {R : Ending -> World -> Prop} {D z : Nat} {v0 v1 v2 v3 v4 v5 v6 v7 v8 a0 a1 a2 a3 a6 a7 a8 a9 a10 a11 a12 a13 a14 a15 a16 a17 a18 a19 : Value} {n : Int}
  (z4 : W.heap[z + 2]? = some (.cells #[v0, v1, v2, v3, v4, v5, v6, v7, v8] 71 (0, 0))) (z5 : Boxed W (z + 3) 41 (.int .i64 n)) (hK : W.heap[D]? = some (.deferred (some []))) (hD : z + 5 <= D)
  (hR : R (.returned (.tuple #[.agg #[v0, v1, v2, v3, v4, v5, v6, v7, v8], .int .i64 n])) (W.putObj D (.deferred none))) :
  bodyPostM Fence.wide 8 Tryz.prog Tryz.f53 R .ret { tmps := #[a0, a1, a2, a3, .pointer (some ⟨z + 1 + 1, 0, none⟩), .pointer (some ⟨z + 1 + 1 + 1, 0, none⟩), a6, a7, a8, a9, a10, a11, a12, a13, a14, a15, a16, a17, a18, a19], defers := [{ target := .collected D, args := #[] }] } W := by
 have k4 := (World.putObj_heap_other (w := W) (r := D) (k := z + 2) (o := .deferred none) (by omega)).trans z4
 have k5 : (W.putObj D (.deferred none)).heap[z + 3]? = _ := (World.putObj_heap_other (w := W) (r := D) (k := z + 3) (o := .deferred none) (by omega)).trans z5
 have u0 := cell_of_block k4 0
 have u1 := cell_of_block k4 1
 have u2 := cell_of_block k4 2
 have u3 := cell_of_block k4 3
 have u4 := cell_of_block k4 4
 have u5 := cell_of_block k4 5
 have u6 := cell_of_block k4 6
 have u7 := cell_of_block k4 7
 have u8 := cell_of_block k4 8
 simp at u0 u1 u2 u3 u4 u5 u6 u7 u8
 have g5 := cell_of_block k5 0
 simp at g5
 refine ⟨by simp, .inl ⟨_, _, rfl, run_takeDeferred hK, ?_⟩⟩
 refine ⟨.tuple #[.agg #[v0, v1, v2, v3, v4, v5, v6, v7, v8], .int .i64 n], ?_, hR⟩
 simp [results, Tryz.results53, go_sem, u0, u1, u2, u3, u4, u5, u6, u7, u8, g5]
set_option maxRecDepth 100000 in
set_option maxHeartbeats 4000000 in
theorem at_in (b off len cap : Nat) (day : Int) (c : Nat -> VC) (x : Nat -> verT.den) (F : Nat -> Prop) (w : World) (hlen : len <= 1000000) (A : Option Addr) (hA : 0 < len -> A = some ⟨b, off, none⟩ /\ b < w.heap.size) (hbF : ∀ q, F q -> q < w.heap.size)
  (hc : ∀ k j u, k < len -> (arr9 (c k))[j]? = some u -> w.cell? ⟨b, off + (k * 9 + j), none⟩ = some u)
  (hown : ∀ k W, k < len -> Below w.heap.size w W -> Calls Tryz.prog 89 #[agg9 (c k)] W fun e w' => ∃ d, e = .returned (agg9 d) /\ Below W.heap.size W w' /\ OwnRes F (x k) d W w') :
  CallsIn Fence.wide 8 Tryz.prog 53 #[.agg #[.slice A len cap], .int .i64 day] w fun e w' => AtEnd w F day x (fun k => (c k).p 0) len e w' /\ Below w.heap.size w w' := by
 refine callsIn_of_wp_marks Tryz.func53 rfl trivial ?_ rfl
 simp only [Tryz.ntmps53, List.size_toArray, List.length_cons, List.length_nil, Nat.reduceAdd, Nat.reduceSub, Array.replicate_succ, Array.replicate_zero, List.push_toArray, List.append_toArray, List.nil_append, List.cons_append]
 gi_wp2_with (refine ⟨trivial, ?_⟩; gi_at_call 88; refine (back_in _ _ _ _ _).mono ?_; rintro e w' ⟨rfl, rfl⟩)
 have q1 := World.alloc_heap_new (w.alloc (.cells #[.slice A len cap] 34)) (.cells #[.int .i64 day] 3)
 have q2 := World.alloc_heap_new ((w.alloc (.cells #[.slice A len cap] 34)).alloc (.cells #[.int .i64 day] 3)) (.cells zero9 71)
 have q3 := World.alloc_heap_new (((w.alloc (.cells #[.slice A len cap] 34)).alloc (.cells #[.int .i64 day] 3)).alloc (.cells zero9 71)) (.cells #[.int .i64 0] 41)
 have q4 := World.alloc_heap_new ((((w.alloc (.cells #[.slice A len cap] 34)).alloc (.cells #[.int .i64 day] 3)).alloc (.cells zero9 71)).alloc (.cells #[.int .i64 0] 41)) (.cells #[.slice A len cap] 32)
 have hbel : Below w.heap.size w (((((w.alloc (.cells #[.slice A len cap] 34)).alloc (.cells #[.int .i64 day] 3)).alloc (.cells zero9 71)).alloc (.cells #[.int .i64 0] 41)).alloc (.cells #[.slice A len cap] 32)) :=
  (((((Below.refl _ w).alloc (Nat.le_refl _) _).alloc (by simp) _).alloc (by simp; omega) _).alloc (by simp; omega) _).alloc (by simp; omega) _
 have hsz : (((((w.alloc (.cells #[.slice A len cap] 34)).alloc (.cells #[.int .i64 day] 3)).alloc (.cells zero9 71)).alloc (.cells #[.int .i64 0] 41)).alloc (.cells #[.slice A len cap] 32)).heap.size = w.heap.size + 5 := by simp
 simp only [World.size_alloc] at q1 q2 q3 q4
 have r1 := (Below.heap_alloc ((((w.alloc (.cells #[.slice A len cap] 34)).alloc (.cells #[.int .i64 day] 3)).alloc (.cells zero9 71)).alloc (.cells #[.int .i64 0] 41)) (.cells #[.slice A len cap] 32) (w.heap.size + 1) (by simp only [World.size_alloc]; omega)).trans ((Below.heap_alloc _ _ _ (by simp only [World.size_alloc]; omega)).trans ((Below.heap_alloc _ _ _ (by simp only [World.size_alloc]; omega)).trans q1))
 have r2 := (Below.heap_alloc ((((w.alloc (.cells #[.slice A len cap] 34)).alloc (.cells #[.int .i64 day] 3)).alloc (.cells zero9 71)).alloc (.cells #[.int .i64 0] 41)) (.cells #[.slice A len cap] 32) (w.heap.size + 1 + 1) (by simp only [World.size_alloc]; omega)).trans ((Below.heap_alloc _ _ _ (by simp only [World.size_alloc]; omega)).trans q2)
 have r3 := (Below.heap_alloc ((((w.alloc (.cells #[.slice A len cap] 34)).alloc (.cells #[.int .i64 day] 3)).alloc (.cells zero9 71)).alloc (.cells #[.int .i64 0] 41)) (.cells #[.slice A len cap] 32) (w.heap.size + 1 + 1 + 1) (by simp only [World.size_alloc]; omega)).trans q3
 unfold zero9 at hbel hsz r1 r2 r3 q4
 obtain ⟨W0, hW0⟩ : ∃ W0, ((((w.alloc (.cells #[.slice A len cap] 34)).alloc (.cells #[.int .i64 day] 3)).alloc (.cells #[.int .i64 0, .int .i64 0, .int .i64 0, .int .i64 0, .int .i64 0, .slice none 0 0, .slice none 0 0, .slice none 0 0, .int .i64 0] 71)).alloc (.cells #[.int .i64 0] 41)).alloc (.cells #[.slice A len cap] 32) = W0 := ⟨_, rfl⟩
 rw [hW0] at hbel hsz r1 r2 r3 q4 ⊢
 clear hW0 q1 q2 q3
 have hI0 : AtI w day (.slice A len cap) (fun k => (c k).p 0) ([] : List (Fin len)) W0 := ⟨r1, r2, r3, q4, hbel, by omega, fun k hk => by cases hk⟩
 refine wpIn_rangeFunc_ownH rfl (by omega) (gf := 126) (lb := #[.pointer (some ⟨w.heap.size + 1 + 1 + 1 + 1, 0, none⟩)]) rfl trivial (enters_of Tryz.func126 (by kernel_rfl) rfl)
  (α := Fin len) (encs := fun (k : Fin len) => #[.int .i64 ((k.1 : Nat) : Int), agg9 (c k.1)]) (Kp := KpS w.heap.size (w.heap.size + 4) (w.heap.size + 4)) (S := fun ys => ys.map Fin.val = firstN (fun j => len - 1 - j) len) (Sp := fun pre => ∃ k, k <= len /\ pre.map Fin.val = firstN (fun j => len - 1 - j) k) (N := len) (w0 := W0)
  (fun l J Jx W hW _ _ hY h0 => back1_in 7 (by omega) l (w.heap.size + 4) w.heap.size b off len cap (fun k j => (arr9 (c k)).getD j undef) hlen A hA J Jx hY W ((hW.block _ (by omega)).trans q4) (fun k j hk hj => have hb := (hA (by omega)).2; ((hW.mono (by omega)).cell (p := ⟨b, off + (k * 9 + j), none⟩) hb).trans ((hbel.cell (p := ⟨b, off + (k * 9 + j), none⟩) hb).trans (hc k j _ hk (by match j, hj with | 0, _ | 1, _ | 2, _ | 3, _ | 4, _ | 5, _ | 6, _ | 7, _ | 8, _ => rfl)))) h0)
  (fun h k => h.trans k) (fun W l o o' hl ho hoc how => ⟨belowK_b (w := w) (Nat.le_refl _) W l o o' (by omega) ho hoc how, World.putObj_heap_other (by omega), World.putObj_heap_other (by omega)⟩) (Below.refl _ _) (fun _ => rfl)
  (fun pre W => AtI w day (.slice A len cap) (fun k => (c k).p 0) pre W)
  (fun cd pre W => AtX w F day x (fun k => (c k).p 0) cd pre W)
  (atI_own (by omega)) (atX_own (by omega)) hI0
  (fun k a' W => AtA W0.heap.size c (fun k Bx => { tmps := #[.agg #[.slice A len cap], .int .i64 day, .pointer (some ⟨w.heap.size, 0, none⟩), .pointer (some ⟨w.heap.size + 1, 0, none⟩), .pointer (some ⟨w.heap.size + 1 + 1, 0, none⟩), .pointer (some ⟨w.heap.size + 1 + 1 + 1, 0, none⟩), undef, .pointer (some ⟨Bx, 0, none⟩),
   .pointer (some ⟨w.heap.size, 0, none⟩), .slice A len cap, .func (.func 126) #[] #[.pointer (some ⟨w.heap.size + 1 + 1 + 1 + 1, 0, none⟩)], .int .i64 (k : Int), agg9 (c k), undef, undef, undef, undef, undef, undef, undef], defers := [] }) k.1 a' W)
  (fun k a' => atA_own k.1 a') ?assign ?body ?done ?stop
 case assign =>
  rintro l pre ⟨k, hkl⟩ W K hi hK
  unfold agg9 arr9
  gi_wp2
  have hsz1 := hi.sz
  have hB := (Below.refl w.heap.size W).alloc (by have := hi.bel.size; omega) (.cells (arr9 (c k)) 71)
  exact hK _ _ ((KeepsOthers.alloc _ _).from _) (KpS.below ((Below.refl _ W).alloc (Nat.le_refl _) _) hi.bel.size (by omega) (by omega))
   ⟨hi.x3.alloc _, (Below.heap_alloc _ _ _ (by omega)).trans hi.x4, hi.x5.alloc _, hi.xs.alloc _, hi.bel.alloc hi.bel.size _, by simp; omega, hi.no⟩ ⟨W.heap.size, by omega, World.alloc_heap_new W _, rfl⟩
 case body =>
  rintro l pre ⟨k, hkl⟩ a' W hl ⟨r, hr⟩ hi ⟨Bx, hBx, bX, rfl⟩ hlt
  have bX' := bX
  unfold arr9 at bX'
  have y0 := cell_of_block bX' 0
  have y1 := cell_of_block bX' 1
  have y2 := cell_of_block bX' 2
  have y3 := cell_of_block bX' 3
  have y4 := cell_of_block bX' 4
  have y5 := cell_of_block bX' 5
  have y6 := cell_of_block bX' 6
  have y7 := cell_of_block bX' 7
  have y8 := cell_of_block bX' 8
  simp at y0 y1 y2 y3 y4 y5 y6 y7 y8
  have c3 := hi.x3.cell
  have hown' := hown k W hkl hi.bel
  unfold agg9 arr9 at hown'
  clear bX' hr hc hown
  gi_wp2
  ·refine ⟨trivial, ?_⟩
   refine (CallsIn.inRound l (callsIn_wide.2 hown')).mono ?_
   rintro e w1 ⟨d, rfl, hb1, hres⟩
   have hsz1 := hi.sz
   have z4 := (hb1.block (w.heap.size + 2) (by omega)).trans hi.x4
   have z5 : w1.heap[w.heap.size + 3]? = _ := (hb1.block (w.heap.size + 3) (by omega)).trans hi.x5
   unfold zero9 at z4
   have u0 := cell_of_block z4 0
   have u1 := cell_of_block z4 1
   have u2 := cell_of_block z4 2
   have u3 := cell_of_block z4 3
   have u4 := cell_of_block z4 4
   have u5 := cell_of_block z4 5
   have u6 := cell_of_block z4 6
   have u7 := cell_of_block z4 7
   have u8 := cell_of_block z4 8
   simp at u0 u1 u2 u3 u4 u5 u6 u7 u8
   have ff : ∀ j, w1.frozen? ⟨w.heap.size + 2, j, none⟩ = false := fun j => by simp [World.frozen?, z4]
   have g5 := cell_of_block z5 0
   have h5 : w1.frozen? ⟨w.heap.size + 3, 0, none⟩ = false := by simp [World.frozen?, z5]
   gi_wp2
   have hday : (c k).p 0 <= day := by assumption
   have s4 := setCells9_same z4 (.int .i64 (d.p 0)) (.int .i64 (d.p 1)) (.int .i64 (d.p 2)) (.int .i64 (d.p 3)) (.int .i64 (d.p 4)) (.slice (d.A 0) (d.l 0) (d.c 0)) (.slice (d.A 1) (d.l 1) (d.c 1)) (.slice (d.A 2) (d.l 2) (d.c 2)) (.int .i64 (d.p 5))
   have s5 : Boxed (w1.setCells (w.heap.size + 2) 0 [.int .i64 (d.p 0), .int .i64 (d.p 1), .int .i64 (d.p 2), .int .i64 (d.p 3), .int .i64 (d.p 4), .slice (d.A 0) (d.l 0) (d.c 0), .slice (d.A 1) (d.l 1) (d.c 1), .slice (d.A 2) (d.l 2) (d.c 2), .int .i64 (d.p 5)]) (w.heap.size + 3) 41 (.int .i64 0) := (setCells_other (by omega) _ _ _).trans z5
   have kk := setCells_keeps (B := w.heap.size + 2) [.int .i64 (d.p 0), .int .i64 (d.p 1), .int .i64 (d.p 2), .int .i64 (d.p 3), .int .i64 (d.p 4), .slice (d.A 0) (d.l 0) (d.c 0), .slice (d.A 1) (d.l 1) (d.c 1), .slice (d.A 2) (d.l 2) (d.c 2), .int .i64 (d.p 5)] 0 w1
   have bb := setCells_below (B := w.heap.size + 2) (n := w.heap.size) (by omega) [.int .i64 (d.p 0), .int .i64 (d.p 1), .int .i64 (d.p 2), .int .i64 (d.p 3), .int .i64 (d.p 4), .slice (d.A 0) (d.l 0) (d.c 0), .slice (d.A 1) (d.l 1) (d.c 1), .slice (d.A 2) (d.l 2) (d.c 2), .int .i64 (d.p 5)] 0 w1
   have oo : ∀ q, q ≠ w.heap.size + 2 -> (w1.setCells (w.heap.size + 2) 0 [.int .i64 (d.p 0), .int .i64 (d.p 1), .int .i64 (d.p 2), .int .i64 (d.p 3), .int .i64 (d.p 4), .slice (d.A 0) (d.l 0) (d.c 0), .slice (d.A 1) (d.l 1) (d.c 1), .slice (d.A 2) (d.l 2) (d.c 2), .int .i64 (d.p 5)]).heap[q]? = w1.heap[q]? := fun q hq => setCells_other hq _ _ _
   show KeepsFrom _ W ((w1.setCells (w.heap.size + 2) 0 [.int .i64 (d.p 0), .int .i64 (d.p 1), .int .i64 (d.p 2), .int .i64 (d.p 3), .int .i64 (d.p 4), .slice (d.A 0) (d.l 0) (d.c 0), .slice (d.A 1) (d.l 1) (d.c 1), .slice (d.A 2) (d.l 2) (d.c 2), .int .i64 (d.p 5)]).setCell ⟨w.heap.size + 3, 0, none⟩ (.int .i64 0)) /\ AtX w F day x (fun k => (c k).p 0) .ret (pre ++ [⟨k, hkl⟩]) ((w1.setCells (w.heap.size + 2) 0 [.int .i64 (d.p 0), .int .i64 (d.p 1), .int .i64 (d.p 2), .int .i64 (d.p 3), .int .i64 (d.p 4), .slice (d.A 0) (d.l 0) (d.c 0), .slice (d.A 1) (d.l 1) (d.c 1), .slice (d.A 2) (d.l 2) (d.c 2), .int .i64 (d.p 5)]).setCell ⟨w.heap.size + 3, 0, none⟩ (.int .i64 0))
   generalize w1.setCells (w.heap.size + 2) 0 [.int .i64 (d.p 0), .int .i64 (d.p 1), .int .i64 (d.p 2), .int .i64 (d.p 3), .int .i64 (d.p 4), .slice (d.A 0) (d.l 0) (d.c 0), .slice (d.A 1) (d.l 1) (d.c 1), .slice (d.A 2) (d.l 2) (d.c 2), .int .i64 (d.p 5)] = W2 at *
   obtain ⟨F', hF1, hF2⟩ := hres
   have bel2 : Below w.heap.size w W2 := (hi.bel.trans (hb1.mono hi.bel.size)).trans bb
   have hne : ∀ q, F' q -> q ≠ w.heap.size + 2 /\ q ≠ w.heap.size + 3 := fun q hq => by
    have hs0 := hi.sz
    rcases (hF2 q hq).1 with h | h
    ·have := hbF q h
     omega
    ·omega
   have hsame : ∀ q, F' q -> (W2.setCell ⟨w.heap.size + 3, 0, none⟩ (.int .i64 0)).heap[q]? = w1.heap[q]? := fun q hq => (heap_setCell_other _ _ q _ (hne q hq).2).trans (oo q (hne q hq).1)
   refine ⟨(keeps_below hb1).trans ((kk.trans (KeepsOthers.setCell _ _ _)).from _), rfl, ⟨pre, ⟨k, hkl⟩, d, F', rfl, hi.no, hday, (heap_setCell_other _ _ _ _ (by show w.heap.size + 2 ≠ w.heap.size + 3; omega)).trans s4, hF1.mono (fun _ h => h) hsame, fun q hq => ?_⟩, s5.set _, bel2.setCell (p := ⟨w.heap.size + 3, 0, none⟩) (by show w.heap.size <= w.heap.size + 3; omega) _⟩
   obtain ⟨q1, arr, ty, p, q2⟩ := hF2 q hq
   exact ⟨q1.elim .inl (fun h => .inr (Nat.le_trans hi.bel.size h)), arr, ty, p, (hsame q hq).trans q2⟩
  ·have hday : ¬ (c k).p 0 <= day := by simp_all
   exact ⟨KeepsFrom.refl _ _, KpS.refl _ _ _ _, hi.x3, hi.x4, hi.x5, hi.xs, hi.bel, hi.sz, fun q hq => (List.mem_append.1 hq).elim (hi.no q) (fun e => by simp at e; subst e; exact hday)⟩
 case done =>
  rintro D zs W hD hzs hi hK
  have z4 := hi.x4
  have z5 : W.heap[w.heap.size + 3]? = _ := hi.x5
  unfold zero9 at z4
  have u0 := cell_of_block z4 0
  have u1 := cell_of_block z4 1
  have u2 := cell_of_block z4 2
  have u3 := cell_of_block z4 3
  have u4 := cell_of_block z4 4
  have u5 := cell_of_block z4 5
  have u6 := cell_of_block z4 6
  have u7 := cell_of_block z4 7
  have u8 := cell_of_block z4 8
  simp at u0 u1 u2 u3 u4 u5 u6 u7 u8
  have ff : ∀ j, W.frozen? ⟨w.heap.size + 2, j, none⟩ = false := fun j => by simp [World.frozen?, z4]
  have g5 := cell_of_block z5 0
  have h5 : W.frozen? ⟨w.heap.size + 3, 0, none⟩ = false := by simp [World.frozen?, z5]
  clear hown hc
  gi_wp2
  have s4 := setCells9_same z4 (.int .i64 0) (.int .i64 0) (.int .i64 0) (.int .i64 0) (.int .i64 0) (.slice none 0 0) (.slice none 0 0) (.slice none 0 0) (.int .i64 0)
  have s5 : Boxed (W.setCells (w.heap.size + 2) 0 [.int .i64 0, .int .i64 0, .int .i64 0, .int .i64 0, .int .i64 0, .slice none 0 0, .slice none 0 0, .slice none 0 0, .int .i64 0]) (w.heap.size + 3) 41 (.int .i64 0) := (setCells_other (by omega) _ _ _).trans z5
  have kk := (setCells_keeps (B := w.heap.size + 2) [.int .i64 0, .int .i64 0, .int .i64 0, .int .i64 0, .int .i64 0, .slice none 0 0, .slice none 0 0, .slice none 0 0, .int .i64 0] 0 W).same D _ hK rfl
  have bb := hi.bel.trans (setCells_below (B := w.heap.size + 2) (n := w.heap.size) (by omega) [.int .i64 0, .int .i64 0, .int .i64 0, .int .i64 0, .int .i64 0, .slice none 0 0, .slice none 0 0, .slice none 0 0, .int .i64 0] 0 W)
  have kk' := (KeepsOthers.setCell (W.setCells (w.heap.size + 2) 0 [.int .i64 0, .int .i64 0, .int .i64 0, .int .i64 0, .int .i64 0, .slice none 0 0, .slice none 0 0, .slice none 0 0, .int .i64 0]) ⟨w.heap.size + 3, 0, none⟩ (.int .i64 7)).same D _ kk rfl
  have bb' := bb.setCell (p := ⟨w.heap.size + 3, 0, none⟩) (by show w.heap.size <= w.heap.size + 3; omega) (.int .i64 7)
  refine at_ret ((heap_setCell_other _ _ _ _ (by show w.heap.size + 2 ≠ w.heap.size + 3; omega)).trans s4) (s5.set (.int .i64 7)) kk' (by omega) ⟨.inl ⟨rfl, fun k hk => ?_⟩, bb'.trans (belowK_b (w := w) (Nat.le_refl _) _ D _ _ (by omega) kk' rfl rfl)⟩
  have hm : k ∈ zs.map Fin.val := by
   rw [hzs]
   exact List.mem_map.2 ⟨len - 1 - k, List.mem_range.2 (by omega), by show len - 1 - (len - 1 - k) = k; omega⟩
  obtain ⟨q, hq, rfl⟩ := List.mem_map.1 hm
  exact hi.no q hq
 case stop =>
  rintro D cd pre W hD ⟨m, hm, hpre⟩ h hK
  obtain rfl := h.ret
  gi_wp2
  obtain ⟨ini, k, d, F', e1, e2, e3, e4, e5, e6⟩ := h.res
  refine at_ret e4 h.x5 hK (by omega) ⟨.inr ⟨k.1, d, F', k.2, e3, fun j hj1 hj2 => ?_, rfl, ?_, fun q hq => ?_⟩, h.bel.trans (belowK_b (w := w) (Nat.le_refl _) _ D _ _ (by omega) hK rfl rfl)⟩
  ·subst e1
   have hl := congrArg List.length hpre
   rw [firstN_length, List.length_map, List.length_append] at hl
   obtain rfl : m = ini.length + 1 := by simpa using hl.symm
   rw [firstN_succ, List.map_append] at hpre
   obtain ⟨h2, h3⟩ := List.append_inj' hpre rfl
   have hlast : k.1 = len - 1 - ini.length := by simpa using h3
   have hin : j ∈ (ini.map Fin.val) := by
    rw [h2]
    exact List.mem_map.2 ⟨len - 1 - j, List.mem_range.2 (by omega), by show len - 1 - (len - 1 - j) = j; omega⟩
   obtain ⟨q, hq, rfl⟩ := List.mem_map.1 hin
   exact e2 q hq
  ·refine e5.mono (fun _ h => h) (fun q hq => ?_)
   obtain ⟨_, arr, ty, p, hc2⟩ := e6 q hq
   exact World.putObj_heap_other (fun e => by subst e; rw [hK] at hc2; cases hc2)
  ·obtain ⟨h1, arr, ty, p, hc2⟩ := e6 q hq
   refine ⟨h1, ?_⟩
   have := (Array.getElem?_eq_some_iff.1 hc2).1
   simpa [World.putObj] using this
end Go.Proofs.YtplkgghjldndkaaGreat
namespace Go.Ab
open Go Go.RowKit
structure Pan where
 bad : Bool
 pv : PV
 good : List Prop
section
variable {P : Program} {w w' : World} {E : Env} {F F' : Nat -> Prop} {b : Nat} {γ γ' γ0 : Nat -> Value} {ops : Array Oper} {es : List (Ef × Option Pan)} {C : Cx}
end
section
variable {P : Program} {w w' : World} {E : Env} {F F' : Nat -> Prop} {γ γ' : Nat -> Value}
end
end Go.Ab

namespace Go.Ab
open Go Go.RowKit
section
variable {P : Program} {E : Env}
end
end Go.Ab

namespace Go.Ab
open Go Go.RowKit
end Go.Ab

namespace Go.Ab
open Go Go.RowKit
section
variable {F : Fence} {n : Nat} {P : Program} {w : World}
def SeqE {α : Type} (F : Fence) (n : Nat) (P : Program) (gf : Nat) (lb : Array Value) (encs : α -> Array Value) (E : α -> World -> World -> Prop) (Kp : World -> World -> Prop) (S : List α -> Prop) (N : Nat) (w0 : World) : Prop :=
 ∀ (l : Nat) (J : List α -> World -> Prop) (W : World), Below w0.heap.size w0 W -> AbidesFrom W.heap.size J ->
  (∀ pre x W0 W1, J pre W0 -> Below W0.heap.size W0 W1 -> E x W0 W1 -> pre.length < N -> YieldAt F (n - 1) P l (encs x) W1 fun e W' => e = .returned (.bool true) /\ J (pre ++ [x]) W' /\ Kp W1 W') ->
  J [] W -> CallsIn F n P gf (#[.func (.yield l) #[] #[]] ++ lb) W fun e W' => (∃ v, e = .returned v) /\ ∃ xs, S xs /\ J xs W'
def roundPost {α : Type} (b : Nat) (Kp : World -> World -> Prop) (I : List α -> World -> Prop) (xs : List α) (W : World) (e : Exit) (_ : Act) (W' : World) : Prop :=
 e = .normal /\ KeepsFrom b W W' /\ Kp W W' /\ I xs W'
theorem wpIn_rangeE {α : Type} {g : Operand} {ps : Array Tmp} {assign body : Code} {Q : Exit -> Act -> World -> Prop} {a : Act}
  (hro : F.round = none) (h1 : 1 <= n) {gf : Nat} {lb : Array Value} (hg : a.eval g = .func (.func gf) #[] lb) (hFg : F.fn gf) (eg : ∀ args w, (callFunc gf args).run P w = .ok (.enter gf args) w)
  {encs : α -> Array Value} {E : α -> World -> World -> Prop} {Kp : World -> World -> Prop} {S : List α -> Prop} {N : Nat} (hseq : SeqE F (n - 1) P gf lb encs E Kp S N w)
  (hKt : ∀ {A B C : World}, Kp A B -> Kp B C -> Kp A C) (hKb : ∀ (W : World) (l : Nat) (o o' : Obj), w.heap.size <= l -> W.heap[l]? = some o -> o.isCells = false -> Kp W (W.putObj l o')) (hps : ∀ x, (encs x).size = ps.size)
  (I : List α -> World -> Prop) (hI : OwnFrom w.heap.size I) (h0 : I [] w) (A : List α -> α -> Act -> World -> Prop) (hA : ∀ pre x a', OwnFrom w.heap.size (fun (_ : Unit) W => A pre x a' W))
  (hassign : ∀ (l : Nat) (pre : List α) (x : α) (W0 W : World) (K : Act -> World -> Prop), I pre W0 -> Below W0.heap.size W0 W -> E x W0 W -> (∀ a' W', KeepsFrom w.heap.size W W' -> Kp W W' -> A pre x a' W' -> K a' W') ->
   assign.wpIn (F.inRound l) (n - 1 - 1) P (Exit.then K (fun _ _ _ => False)) { tmps := (ps.zip (encs x)).foldl (fun t (p, v) => t.setIfInBounds p v) a.tmps, defers := [] } W)
  (hbody : ∀ (l : Nat) (pre : List α) (x : α) (a' : Act) (W : World), A pre x a' W -> pre.length < N -> body.wpIn (F.inRound l) (n - 1 - 1) P (roundPost w.heap.size Kp I (pre ++ [x]) W) a' W)
  (hdone : ∀ (D : Nat) (xs : List α) (W : World), w.heap.size <= D -> S xs -> I xs W -> W.heap[D]? = some (.deferred (some [])) -> Q .normal { a with defers := { target := .collected D, args := #[] } :: a.defers } W) :
  (Code.rangeFunc g ps assign body).wpIn F n P Q a w := by
 refine wpIn_rangeFunc fun fn hfn => ?_
 rw [hro]
 let mk : LoopState -> Option Code -> Loop := fun st pe => { state := st, pending := pe, fn, tmps := a.tmps, params := ps, assign, body, defers := w.heap.size }
 let d0 : Obj := .deferred (some [])
 have hsz : (w.alloc d0).heap.size = w.heap.size + 1 := by simp
 have hL : ((w.alloc d0).alloc (.loop (mk .ready none))).heap[w.heap.size + 1]? = some (.loop (mk .ready none)) := by
  have := World.alloc_heap_new (w.alloc d0) (.loop (mk .ready none))
  rwa [hsz] at this
 have hD : ((w.alloc d0).alloc (.loop (mk .ready none))).heap[w.heap.size]? = some d0 :=
  (Below.heap_alloc _ _ _ (by rw [hsz]; omega)).trans (World.alloc_heap_new w _)
 have hbel : Below w.heap.size w ((w.alloc d0).alloc (.loop (mk .ready none))) := ((Below.refl _ w).alloc (Nat.le_refl _) _).alloc (by rw [hsz]; omega) _
 generalize hW1 : (w.alloc d0).alloc (.loop (mk .ready none)) = W1 at hL hD hbel
 have hI1 : I [] W1 := by rw [← hW1]; exact hI.alloc _ (hI.alloc _ h0)
 have hs1 : W1.heap.size = w.heap.size + 2 := by rw [← hW1]; simp
 refine ⟨w.heap.size + 1, [{ target := .collected w.heap.size, args := #[] }], W1, { target := .fn (.func gf) lb, args := #[.func (.yield (w.heap.size + 1)) #[] #[]] }, W1, gf,
  #[.func (.yield (w.heap.size + 1)) #[] #[]] ++ lb, W1, ?_, ?_, ?_, ?_, fun _ => h1, ?_⟩
 ·rw [← hW1]
  exact run_enterLoop_outer _ _ _ _ _
 ·simp only [resolve, hg]
  simp [go_sem]
 ·intro f' hf'
  simp [Target.leads] at hf'
  subst hf'
  exact hFg
 ·simp [invoke, go_sem, eg]
 have hwalk : ∀ {A : World} {row : Option Nat}, (∀ r, row = some r -> W1.heap.size <= r /\ ∃ o : Obj, A.heap[r]? = some o /\ o.isWalk = true) -> ∀ r, row = some r -> w.heap.size <= r /\ ∃ o : Obj, A.heap[r]? = some o /\ o.isCells = false := fun hr r e => by
  obtain ⟨hb, o, ho, hw⟩ := hr r e
  exact ⟨by omega, o, ho, Obj.not_cells_of_walk hw⟩
 refine (hseq (w.heap.size + 1) (fun pre W => I pre W /\ W.heap[w.heap.size + 1]? = some (.loop (mk .ready none)) /\ W.heap[w.heap.size]? = some d0) W1 hbel ?_ ?_ ⟨hI1, hL, hD⟩).mono ?_
 ·rintro s X Y row ⟨q1, q2, q3⟩ hgr hr
  exact ⟨hI s X Y row q1 hgr (hwalk hr), (grownBy_keeps hgr (fun r e => (hr r e).2) q2 rfl).trans q2, (grownBy_keeps hgr (fun r e => (hr r e).2) q3 rfl).trans q3⟩
 ·rintro pre x W0 W ⟨hi0, hl0, hd0⟩ hb0 hE hlen
  have hl := (hb0.block _ (Array.getElem?_eq_some_iff.1 hl0).1).trans hl0
  have hd := (hb0.block _ (Array.getElem?_eq_some_iff.1 hd0).1).trans hd0
  refine ⟨fn, _, assign, body, run_yield (P := P) (args := encs x) hl (hps x), roundIn_of_wpIn hfn (hassign _ pre x W0 W _ hi0 hb0 hE ?_)⟩
  intro a' Wa hka hkpa hax
  have hla := hka.same _ _ (by omega) hl rfl
  have hda := hka.same _ _ (Nat.le_refl _) hd rfl
  have hlt : w.heap.size + 1 < Wa.heap.size := (Array.getElem?_eq_some_iff.1 hla).1
  refine ⟨_, run_beginRound hla rfl, ?_⟩
  have hl2 : (Wa.putObj (w.heap.size + 1) (.loop { mk .ready none with state := .busy })).heap[w.heap.size + 1]? = some (.loop { mk .ready none with state := .busy }) := World.putObj_heap_same hlt
  have hd2 : (Wa.putObj (w.heap.size + 1) (.loop { mk .ready none with state := .busy })).heap[w.heap.size]? = some d0 := (World.putObj_heap_other (by omega)).trans hda
  have hk2 : Kp Wa (Wa.putObj (w.heap.size + 1) (.loop { mk .ready none with state := .busy })) := hKb _ _ _ _ (by omega) hla rfl
  refine wpIn_mono (hbody _ pre x a' _ ((hA pre x a').putObj (s := ()) _ hax (by omega) hla rfl) hlen) ?_
  rintro e a3 W3 ⟨rfl, hk3, hkp3, hi3⟩
  have hl3 := hk3.same _ _ (by omega) hl2 rfl
  have hd3 := hk3.same _ _ (Nat.le_refl _) hd2 rfl
  have hend := run_endRound (P := P) none hl3
  refine ⟨_, _, hend, rfl, ⟨hI.putObj _ hi3 (by omega) hl3 rfl, World.putObj_heap_same (Array.getElem?_eq_some_iff.1 hl3).1, (World.putObj_heap_other (by omega)).trans hd3⟩, hKt hkpa (hKt (hKt hk2 hkp3) (hKb _ _ _ _ (by omega) hl3 rfl))⟩
 ·rintro e W2 ⟨⟨v, rfl⟩, xs, hS, hi, hl, hd⟩
  exact ⟨none, _, run_endLoop (P := P) hl (by simp [mk]), hdone _ xs _ (Nat.le_refl _) hS (hI.putObj _ hi (by omega) hl rfl) ((World.putObj_heap_other (by omega)).trans hd)⟩
end
end Go.Ab

namespace Go.Ab
open Go Go.RowKit
def SameW (w' w : World) : Prop := w'.heap = w.heap /\ w'.os = w.os /\ w'.tape = w.tape /\ w'.output = w.output
structure ToldTwo (P : Program) (g : FuncId) (T : TypeId) (k : IntKind) (m : Nat) : Prop where
 enter : ∀ args w, (callFunc g args).run P w = .ok (.enter g args) w
 idle : ∀ (p q : Addr) (w : World), CallsD P g #[.pointer (some p), .pointer (some q)] .returning w fun e u' w' => (∃ v, e = .returned v) /\ u' = .returning /\ w' = w
 told : ∀ (b1 b2 : Nat) (t1 t2 : TypeId) (o1 o2 : Array Value) (n : Int) (w : World), b1 ≠ b2 -> w.heap[b1]? = some (.cells o1 t1 (0, 0)) -> o1.size = m -> w.heap[b2]? = some (.cells o2 t2 (0, 0)) -> o2.size = 1 ->
  CallsD P g #[.pointer (some ⟨b1, 0, none⟩), .pointer (some ⟨b2, 0, none⟩)] (.panicking [{ v := .iface T (.agg #[.int k n]), recovered := false }]) w fun e u' w' =>
   (∃ v, e = .returned v) /\ u' = .panicking [{ v := .iface T (.agg #[.int k n]), recovered := true }] /\ SameW w' ((w.setRow b1 (Array.replicate m (.int .i64 0))).setRow b2 #[.int k n])
def zerosA (m : Nat) : List AC := List.replicate m (.int .i64 0)
def toldT (T : TypeId) (k : IntKind) (m : Nat) (p : PV) (s : St) : Option St :=
 match s.gs 0, s.gs 1 with
 | .c (.ptr i 0), .c (.ptr j 0) => match s.mem i, s.mem j with
  | some (.box e cs), some (.box e2 [_]) => if p.ty = T + 1000000 /\ p.k = k /\ i ≠ j /\ cs.length = m then some ⟨s.n, s.sl, upd (upd s.mem i (.box e (zerosA m))) j (.box e2 [.int k p.n]), s.gs⟩ else none
  | _, _ => none
 | _, _ => none
def frT (P : Program) (T : TypeId) (k : IntKind) (m : Nat) (rv : List ResultVar) (rs : List Ty) : Tr -> Option (Fr (denL rs))
 | .leaf .ret s => endA P rv rs s
 | .leaf .normal s => endA P rv rs s
 | .leaf (.panic p) s => match toldT T k m p s with
  | some s' => match endA P rv rs s' with
   | some f => some (.need (inR k p.n) f)
   | none => none
  | none => none
 | .leaf _ _ => none
 | .br b x y => match frT P T k m rv rs x, frT P T k m rv rs y with
  | some x', some y' => some (.br b x' y')
  | _, _ => none
 | .need p x => match frT P T k m rv rs x with
  | some x' => some (.need p x')
  | none => none
 | .two p x y => match frT P T k m rv rs x, frT P T k m rv rs y with
  | some x', some y' => some (.need (p -> x'.ok /\ x'.get = y'.get) y')
  | _, _ => none
def deferT : List Oper -> Option (FuncId × Tmp × Tmp × Tmp)
 | [⟨some td, .makeFunc (.func f) first caps, _, _, _, none⟩, ⟨none, .defer ⟨.value (.tmp td'), args, _⟩, _, _, _, none⟩] => match first.toList, caps.toList, args.toList with
  | [], [.tmp ta, .tmp tb], [] => if td' = td then some (f, td, ta, tb) else none
  | _, _, _ => none
 | _ => none
def runDt (P : Program) (C : Cx) (run : St -> Option Tr) (T : TypeId) (k : IntKind) (m : Nat) (fn : Func) (A : Code) (td ta tb : Tmp) (ps : List PT) (rs : List Ty) (xs : denP ps) : Option (Fr (denL rs)) :=
 if (fn.name == "runtime.NumGoroutine") = false /\ ps.length <= fn.ntmps /\ td < fn.ntmps then match codeA P C 0 lam0 A 0 (startA fn.ntmps (encPs ps xs)) with
  | some (.leaf .normal s1) => match s1.sl ta, s1.sl tb with
   | .c (.ptr i 0), .c (.ptr j 0) => if s1.n = fn.ntmps then match run (clrS ⟨s1.n, setA s1.sl (some td) .dead, s1.mem, fun t => if t = 0 then .c (.ptr i 0) else if t = 1 then .c (.ptr j 0) else .dead⟩) with
    | some t => frT P T k m fn.results.toList rs t
    | none => none
    else none
   | _, _ => none
  | _ => none
 else none
section
variable {P : Program} {w w' : World} {E : Env} {F F' : Nat -> Prop} {γ γ' : Nat -> Value}
theorem frT_sat {T : TypeId} {k : IntKind} {m : Nat} {rv : List ResultVar} {rs : List Ty} : {t : Tr} -> {f : Fr (denL rs)} -> frT P T k m rv rs t = some f -> f.ok -> t.sat fun e s => match e with
  | .ret => ∃ n, endA P rv rs s = some (Fr.needL n (.val f.get)) /\ conj n
  | .normal => ∃ n, endA P rv rs s = some (Fr.needL n (.val f.get)) /\ conj n
  | .panic p => ∃ s' n, toldT T k m p s = some s' /\ inR k p.n /\ endA P rv rs s' = some (Fr.needL n (.val f.get)) /\ conj n
  | _ => False
 | .leaf e s, f, h, hok => by
  cases e with
  | exit i => simp [frT] at h
  | val i => simp [frT] at h
  | jump i => simp [frT] at h
  | normal => exact endA_get h hok
  | ret => exact endA_get h hok
  | panic p =>
   simp only [frT] at h
   split at h <;> try (cases h; done)
   rename_i s' hs'
   split at h <;> try (cases h; done)
   rename_i f' hf'
   simp only [Option.some.injEq] at h
   subst h
   obtain ⟨n, h1, h2⟩ := endA_get hf' hok.2
   exact ⟨s', n, hs', hok.1, h1, h2⟩
 | .br b x y, f, h, hok => by
  simp only [frT] at h
  split at h <;> try (cases h; done)
  rename_i x' y' hx hy
  simp only [Option.some.injEq] at h
  subst h
  refine ⟨fun hb => ?_, fun hb => ?_⟩
  ·have := frT_sat hx (hok.1 hb)
   simpa only [Fr.get, hb, if_true] using this
  ·have := frT_sat hy (hok.2 hb)
   simpa only [Fr.get, hb, Bool.false_eq_true, if_false] using this
 | .need p x, f, h, hok => by
  simp only [frT] at h
  split at h <;> try (cases h; done)
  rename_i x' hx
  simp only [Option.some.injEq] at h
  subst h
  have := frT_sat hx hok.2
  exact ⟨hok.1, this⟩
 | .two p x y, f, h, hok => by
  simp only [frT] at h
  split at h <;> try (cases h; done)
  rename_i x' y' hx hy
  simp only [Option.some.injEq] at h
  subst h
  have h2 := frT_sat hy hok.2
  refine ⟨fun hp => ?_, h2⟩
  have := frT_sat hx (hok.1 hp).1
  rwa [(hok.1 hp).2] at this
theorem inv_same {s : St} {a : Act} (hi : InvG P E s a w [] F γ) (h : SameW w' w) : InvG P E s a w' [] F γ := by
 obtain ⟨h1, h2, h3, h4⟩ := h
 have hh : ∀ b : Nat, w'.heap[b]? = w.heap[b]? := fun b => by rw [h1]
 have hs : Step E.B w F γ s.mem w' F γ s.mem := ⟨fun _ h => h, fun b _ => hh b, fun _ _ h => h, fun b _ => hh b, h2, h3, h4, by rw [h1]; exact Nat.le_refl _, fun b hb => by rw [h1]; exact inv_bd hi b hb, fun _ h => .inl h⟩
 refine ⟨hi.n, hi.df, ?_, hi.mem.keep (fun _ h => h) (fun b _ => hh b) (fun id o b ho he => ⟨hh b, (exB_lt (hi.mem.ob id o ho) he).2.1⟩), fun t => (hi.sl t).mono hs.hF hs.hw hs.hR, hi.hg, fun t => hs.repA (hi.gh t)⟩
 obtain ⟨γ0, h0⟩ := hi.step
 exact ⟨γ0, h0.trans hs⟩
theorem zeros_rep {w : World} {F : Nat -> Prop} {R : Nat -> Value -> Prop} : (m : Nat) -> {g : Nat -> Value -> Prop} -> (∀ j, j < m -> g j (.int .i64 0)) -> RepCL P w F R (zerosA m) g
 | 0, _, _ => trivial
 | m + 1, _, h => ⟨⟨.int .i64 0, h 0 (by omega), rfl, rfl, by decide, by decide⟩, zeros_rep m fun j hj => h (j + 1) (by omega)⟩
theorem overlay_all {old new : Array Value} (h : old.size = new.size) : overlay old 0 new.toList = new := by
 apply Array.ext
 ·rw [overlay_size (by simp; omega)]
  exact h
 ·intro i h1 h2
  simp only [overlay, List.take_zero, List.nil_append, List.getElem_toArray]
  rw [List.getElem_append_left (by simpa using h2)]
  simp
theorem told_inv2 {T : TypeId} {k : IntKind} {m : Nat} {p : PV} {s s' : St} {a : Act} (hi : InvG P E s a w [] F γ) (h : toldT T k m p s = some s') (hr : inR k p.n) :
  p.ty = T + 1000000 /\ p.k = k /\ ∃ b1 b2 t1 t2 o1 o2, E.G 0 = .pointer (some ⟨b1, 0, none⟩) /\ E.G 1 = .pointer (some ⟨b2, 0, none⟩) /\ b1 ≠ b2 /\ w.heap[b1]? = some (.cells o1 t1 (0, 0)) /\ o1.size = m /\ w.heap[b2]? = some (.cells o2 t2 (0, 0)) /\ o2.size = 1 /\
   InvG P E s' a ((w.setRow b1 (Array.replicate m (.int .i64 0))).setRow b2 #[.int k p.n]) [] F γ := by
 unfold toldT at h
 split at h <;> try (cases h; done)
 rename_i i j hg0 hg1
 split at h <;> try (cases h; done)
 rename_i e cs e2 c0 hM1 hM2
 split at h <;> try (cases h; done)
 rename_i hp
 simp only [Option.some.injEq] at h
 subst h
 obtain ⟨hp1, hp2, hij, hlen⟩ := hp
 have h0 := hi.gh 0
 rw [hg0] at h0
 have h1 := hi.gh 1
 rw [hg1] at h1
 obtain ⟨b1, o1, e11, e12, e13, e14, e15, e16, e17⟩ := box_at hi.mem hM1 h0.2
 obtain ⟨b2, o2, e21, e22, e23, e24, e25, e26, e27⟩ := box_at hi.mem hM2 h1.2
 have hne : b1 ≠ b2 := by
  rintro rfl
  exact hi.mem.apart i j _ _ b1 hij hM1 hM2 (by rw [e11]; rfl) (by rw [e21]; rfl)
 have ho1 : overlay o1 0 (Array.replicate m (.int .i64 0) : Array Value).toList = Array.replicate m (.int .i64 0) := overlay_all (by simp [e16, hlen])
 obtain ⟨s1, s2⟩ := set_box (off := 0) (cs' := zerosA m) (vs := (Array.replicate m (.int .i64 0) : Array Value).toList) hi.mem (inv_bd hi) hM1 e11 e13 e14 e15 (by simp [e16, hlen]) (by simp [zerosA, e16, hlen]) (by
  rw [ho1]
  exact zeros_rep m fun j hj => by simp [hj])
 rw [ho1] at s1 s2
 have hM2' : upd s.mem i (.box e (zerosA m)) j = some (.box e2 [c0]) := (upd_other _ _ (Ne.symm hij)).trans hM2
 obtain ⟨old, rfl⟩ := one_of_size (by simpa using e26)
 have hov : overlay #[old] 0 [.int k p.n] = #[.int k p.n] := by simp [overlay]
 have hb2 : (w.setRow b1 (Array.replicate m (.int .i64 0))).heap[b2]? = some (.cells #[old] e2 (0, 0)) := (setRow_other w b1 b2 _ (Ne.symm hne)).trans e23
 obtain ⟨s3, s4⟩ := set_box (off := 0) (cs' := [.int k p.n]) (vs := [.int k p.n]) s2 s1.bd hM2' e21 hb2 e24 e25 (by simp) rfl ⟨⟨.int k p.n, by rw [hov]; rfl, rfl, rfl, hr⟩, trivial⟩
 rw [hov] at s3 s4
 have hst := s1.trans s3
 refine ⟨hp1, hp2, b1, b2, e, e2, o1, #[old], e12, e22, hne, e13, e16.trans hlen, e23, rfl, ⟨hi.n, hi.df, ?_, s4, fun t => (hi.sl t).mono hst.hF hst.hw hst.hR, hi.hg, fun t => hst.repA (hi.gh t)⟩⟩
 obtain ⟨γ0, h0⟩ := hi.step
 exact ⟨γ0, h0.trans hst⟩
theorem dt_sound {C : Cx} (hC : CxOK P C) {run : St -> Option Tr} {f g : FuncId} {T : TypeId} {k : IntKind} {m : Nat} {fn : Func} {A c : Code} {rid : Nat} {ops : Array Oper} {td ta tb : Tmp} {ps : List PT} {rs : List Ty} {fr : denP ps -> Fr (denL rs)} (x0 : denP ps)
  (hf : P.funcs[f]? = some fn) (hb : fn.body = some (.seq A (.seq (.region rid ops false) c))) (hd : deferT ops.toList = some (g, td, ta, tb)) (hT : ToldTwo P g T k m) (hR : ∀ E, RunOK P E c run)
  (hrun : ∀ xs, runDt P C run T k m fn A td ta tb ps rs xs = some (fr xs)) : SoundCt P f ⟨ps, rs, fun xs => (fr xs).get, fun xs => [(fr xs).ok]⟩ := by
 have h0 := hrun x0
 unfold runDt at h0
 split at h0 <;> try (cases h0; done)
 rename_i hc
 refine ⟨enters hf hb hc.1, fun w F xs vs hbd hr hok => calls_of_wp_defers hf hb ?_⟩
 have hr' := hrun xs
 unfold runDt at hr'
 simp only [hc, and_self, if_true] at hr'
 split at hr' <;> try (cases hr'; done)
 rename_i s1 ht1
 split at hr' <;> try (cases hr'; done)
 rename_i i j hsl1 hsl2
 split at hr' <;> try (cases hr'; done)
 rename_i hsn
 split at hr' <;> try (cases hr'; done)
 rename_i t ht2
 have hlen : vs.length = ps.length := repPs_len hr
 have hstart := start_inv (D := []) (n := fn.ntmps) hbd (fun R => encPs_rep (R := R) hr) (by have := hc.2.1; omega)
 have hsz : (vs.toArray).size = vs.length := by simp
 rw [hsz]
 refine wp_seq (wp_mono (codeA_sound hC A 0 (lam0_ok A 0) ht1 (Q := fun e s => e = .normal /\ s = s1) ⟨rfl, rfl⟩ hstart) ?_)
 rintro e a1 w1 ⟨xe, s, rfl, ⟨F1, γ1, hi⟩, rfl, rfl⟩
 have hva := inv_rep hi ta
 rw [hsl1] at hva
 obtain ⟨_, b1, hR1, hva⟩ := hva
 have hvb := inv_rep hi tb
 rw [hsl2] at hvb
 obtain ⟨_, b2, hR2, hvb⟩ := hvb
 refine wp_seq (wp_region ?_)
 obtain ⟨ol⟩ := ops
 simp only at hd
 unfold deferT at hd
 split at hd <;> try (cases hd; done)
 rename_i td0 f0 first caps ty pos aft td1 args ats ty' pos' aft'
 split at hd <;> try (cases hd; done)
 rename_i ta0 tb0 hfirst hcaps hargs
 split at hd <;> try (cases hd; done)
 rename_i htd
 subst htd
 simp only [Option.some.injEq, Prod.mk.injEq] at hd
 obtain ⟨rfl, rfl, rfl, rfl⟩ := hd
 have h1' : first = #[] := by
  obtain ⟨l⟩ := first
  simp only at hfirst
  rw [hfirst]
 have h2' : caps = #[.tmp ta0, .tmp tb0] := by
  obtain ⟨l⟩ := caps
  simp only at hcaps
  rw [hcaps]
 have h3' : args = #[] := by
  obtain ⟨l⟩ := args
  simp only at hargs
  rw [hargs]
 subst h1'
 subst h2'
 subst h3'
 have hev1 : a1.eval (.tmp ta0) = .pointer (some ⟨b1, 0, none⟩) := hva
 have hev2 : a1.eval (.tmp tb0) = .pointer (some ⟨b2, 0, none⟩) := hvb
 let cl : Value := .func (.func f0) #[] #[.pointer (some ⟨b1, 0, none⟩), .pointer (some ⟨b2, 0, none⟩)]
 let o0 : Oper := ⟨some td1, .makeFunc (.func f0) #[] #[.tmp ta0, .tmp tb0], ty, pos, aft, none⟩
 let o1 : Oper := ⟨none, .defer ⟨.value (.tmp td1), #[], ats⟩, ty', pos', aft', none⟩
 have hx0 : (execOp a1.eval o0).run P w1 = .ok (.value cl) w1 := by
  have hmf : ∀ (fn : Fn) (first cap : Array Value) (w : World), (Instr.makeFunc fn first cap).run P w = .ok (.func fn first cap) w := fun _ _ _ _ => rfl
  simp [execOp, o0, hev1, hev2, hmf, cl]
 have hput : (a1.put (some td1) cl).eval (.tmp td1) = cl := by
  show (a1.put (some td1) cl).tmps.getD td1 undef = cl
  rw [put_getD _ _ _ _ (fun x hx => by cases hx; rw [hi.n, hsn]; exact hc.2.2), if_pos rfl]
 have hx1 : (execOp (a1.put (some td1) cl).eval o1).run P w1 = .ok (.defer { target := .fn (.func f0) #[.pointer (some ⟨b1, 0, none⟩), .pointer (some ⟨b2, 0, none⟩)], args := #[] }) w1 := by
  simp [execOp, resolve, o1, hput, cl, Deferred.ofValue]
 have hrange : List.range ((#[o0, o1] : Array Oper)).size = [0, 1] := rfl
 show wpOps P #[o0, o1] _ (List.range ((#[o0, o1] : Array Oper)).size) a1 w1
 rw [hrange]
 unfold wpOps
 simp only [List.getElem?_toArray, List.getElem?_cons_zero]
 rw [if_pos (show Region.wanted o0 (yielded #[o0, o1] a1.tmps) = true from rfl)]
 refine .inl ?_
 unfold Oper.wp
 rw [hx0, Oper.upon_value]
 unfold wpOps
 simp only [List.getElem?_toArray, List.getElem?_cons_succ, List.getElem?_cons_zero]
 rw [if_pos (show Region.wanted o1 (yielded #[o0, o1] (a1.put o0.dst cl).tmps) = true from rfl)]
 refine .inl ?_
 unfold Oper.wp
 rw [show o0.dst = some td1 from rfl, hx1, Oper.upon_defer]
 simp only [wpOps]
 have hip := inv_clr (inv_put (d := some td1) (v := .dead) (u := cl) (wr := []) hi (fun x hx => by cases hx; exact ⟨by rw [hsn]; exact hc.2.2, by simp⟩) (Step.refl (inv_bd hi)) hi.mem trivial (fun _ _ _ h => by cases h))
 show Code.wp P c (bodyPostD P fn (Post w F rs (fr xs).get)) { (a1.put (some td1) cl) with defers := { target := .fn (.func f0) #[.pointer (some ⟨b1, 0, none⟩), .pointer (some ⟨b2, 0, none⟩)], args := #[] } :: (a1.put (some td1) cl).defers } w1
 let D : List Deferred := [{ target := .fn (.func f0) #[.pointer (some ⟨b1, 0, none⟩), .pointer (some ⟨b2, 0, none⟩)], args := #[] }]
 let E2 : Env := ⟨w, F, fun t => if t = 0 then .pointer (some ⟨b1, 0, none⟩) else .pointer (some ⟨b2, 0, none⟩), D, w.heap.size, Nat.le_refl _⟩
 have hi' : InvG P E2 (clrS ⟨s.n, setA s.sl (some td1) .dead, s.mem, fun t => if t = 0 then .c (.ptr i 0) else if t = 1 then .c (.ptr j 0) else .dead⟩) { (a1.put (some td1) cl) with defers := { target := .fn (.func f0) #[.pointer (some ⟨b1, 0, none⟩), .pointer (some ⟨b2, 0, none⟩)], args := #[] } :: (a1.put (some td1) cl).defers } w1 [] F1 γ1 := by
  refine ⟨hip.n, ?_, hip.step, hip.mem, hip.sl, hip.hg, fun t => ?_⟩
  ·show _ :: (a1.put (some td1) cl).defers = D
   rw [show (a1.put (some td1) cl).defers = a1.defers from rfl, hi.df]
  ·show RepA P w1 F1 (refOK s.mem γ1) (if t = 0 then .c (.ptr i 0) else if t = 1 then .c (.ptr j 0) else .dead) (if t = 0 then .pointer (some ⟨b1, 0, none⟩) else .pointer (some ⟨b2, 0, none⟩))
   by_cases ht0 : t = 0
   ·rw [if_pos ht0, if_pos ht0]
    exact ⟨rfl, b1, hR1, rfl⟩
   ·rw [if_neg ht0, if_neg ht0]
    by_cases ht1' : t = 1
    ·rw [if_pos ht1']
     exact ⟨rfl, b2, hR2, rfl⟩
    ·rw [if_neg ht1']
     trivial
 have hwp := hR E2 _ _ ht2 _ (frT_sat hr' hok) _ _ ⟨F1, γ1, hi'⟩
 refine wp_mono hwp ?_
 rintro e a2 w2 ⟨xe, s2, rfl, ⟨F2, γ2, hi2⟩, hx⟩
 have hinv : ∀ W, (invoke (.fn (.func f0) #[.pointer (some ⟨b1, 0, none⟩), .pointer (some ⟨b2, 0, none⟩)]) #[]).run P W = .ok (.enter f0 #[.pointer (some ⟨b1, 0, none⟩), .pointer (some ⟨b2, 0, none⟩)]) W := fun W => by
  have := hT.enter #[.pointer (some ⟨b1, 0, none⟩), .pointer (some ⟨b2, 0, none⟩)] W
  simp [invoke, this]
 have hdf : a2.defers = [{ target := .fn (.func f0) #[.pointer (some ⟨b1, 0, none⟩), .pointer (some ⟨b2, 0, none⟩)], args := #[] }] := hi2.df
 have hfin : (∃ n, endA P fn.results.toList rs s2 = some (Fr.needL n (.val (fr xs).get)) /\ conj n) -> Leaves P fn a2.tmps (Post w F rs (fr xs).get) a2.defers .returning w2 := by
  rintro ⟨n, hend, hn⟩
  rw [hdf]
  refine leaves_cons (by simp) (hinv w2) ((hT.idle _ _ w2).mono ?_)
  rintro e u' w' ⟨⟨v, rfl⟩, rfl, rfl⟩
  exact endA_post hi2 rfl hend hn
 cases xe with
 | normal => exact hfin hx
 | ret => exact hfin hx
 | exit _ => exact hx.elim
 | val _ => exact hx.elim
 | jump _ => exact hx.elim
 | panic p =>
  obtain ⟨s', n, hs', hin, hend, hn⟩ := hx
  obtain ⟨hty, hk, c1, c2, t1, t2, o1, o2, hG1, hG2, hne, hh1, hs1, hh2, hs2, hi3⟩ := told_inv2 hi2 hs' hin
  have hG1' : (Value.pointer (some ⟨b1, 0, none⟩)) = .pointer (some ⟨c1, 0, none⟩) := hG1
  have hG2' : (Value.pointer (some ⟨b2, 0, none⟩)) = .pointer (some ⟨c2, 0, none⟩) := hG2
  simp only [Value.pointer.injEq, Option.some.injEq, Addr.mk.injEq, and_true] at hG1' hG2'
  subst hG1'
  subst hG2'
  show Leaves P fn a2.tmps _ a2.defers (.panicking [{ v := p.val, recovered := false }]) w2
  rw [PV.val_high hty, hdf, hk]
  refine leaves_cons (by simp) (hinv w2) ((hT.told b1 b2 t1 t2 o1 o2 p.n w2 hne hh1 hs1 hh2 hs2).mono ?_)
  rintro e u' w' ⟨⟨v, rfl⟩, rfl, hsw⟩
  exact endA_post (inv_same hi3 hsw) rfl hend hn
end
end Go.Ab
namespace Go.Proofs.YtplkgghjldndkaaGreat
open Go Go.Ab Go.RowKit Go.Proofs Go.Shelf
attribute [local go_sem] Oper.semAt_some
structure ChC where
 p : Nat -> Int
 A : Option Addr
 l : Nat
 c : Nat
def carr (d : ChC) : Array Value := #[.int .i64 (d.p 0), .int .i64 (d.p 1), .int .i64 (d.p 2), .int .i64 (d.p 3), .int .i64 (d.p 4), .int .i64 (d.p 5), .int .i64 (d.p 6), .slice d.A d.l d.c, .int .i64 (d.p 7)]
def cagg (d : ChC) : Value := .agg (carr d)
abbrev SlT : Type := Option Addr × Nat × Nat
def ChC.set (d : ChC) (s : SlT) : ChC := ⟨d.p, s.1, s.2.1, s.2.2⟩
theorem chg_cells {w : World} {F : Nat -> Prop} {x : changeT.den} {g : Nat -> Value -> Prop} (h : RepT w F changeT x g) :
  ∃ d : ChC, (∀ j u, (carr d)[j]? = some u -> g j u) /\ d.p 0 = x.1 /\ RepT w F (.sl coverT) x.2.2.2.2.1 (fun _ u => u = .slice d.A d.l d.c) /\
   ∀ (s : SlT) (Y : World) (F2 : Nat -> Prop), RepT Y F2 (.sl coverT) x.2.2.2.2.1 (fun _ u => u = .slice s.1 s.2.1 s.2.2) -> RepV Y F2 changeT x (cagg (d.set s)) := by
 obtain ⟨h0, h1, h2, ⟨b0, b1, b2, b3, _⟩, ⟨A, c, h3, h3'⟩, h4, _⟩ := h
 refine ⟨⟨fun j => match j with | 0 => x.1 | 1 => x.2.1 | 2 => x.2.2.1 | 3 => x.2.2.2.1.1 | 4 => x.2.2.2.1.2.1 | 5 => x.2.2.2.1.2.2.1 | 6 => x.2.2.2.1.2.2.2.1 | _ => x.2.2.2.2.2.1, A, x.2.2.2.2.1.length, c⟩, fun j u hj => ?_, rfl, ⟨A, c, rfl, h3'⟩, fun s Y F2 hs => ⟨rfl, ⟨fun _ => ⟨_, rfl⟩, fun _ => rfl⟩, ⟨rfl, h0.2⟩, ⟨rfl, h1.2⟩, ⟨rfl, h2.2⟩, ⟨⟨rfl, b0.2⟩, ⟨rfl, b1.2⟩, ⟨rfl, b2.2⟩, ⟨rfl, b3.2⟩, trivial⟩, ?_, ⟨rfl, h4.2⟩, trivial⟩⟩
 rotate_left
 ·obtain ⟨A2, c2, e, h⟩ := hs
  refine ⟨A2, c2, ?_, h⟩
  show some (Value.slice s.1 s.2.1 s.2.2) = _
  rw [e]
 match j, hj with
 | 0, hj => cases hj; exact h0.1
 | 1, hj => cases hj; exact h1.1
 | 2, hj => cases hj; exact h2.1
 | 3, hj => cases hj; exact b0.1
 | 4, hj => cases hj; exact b1.1
 | 5, hj => cases hj; exact b2.1
 | 6, hj => cases hj; exact b3.1
 | 7, hj => cases hj; exact h3
 | 8, hj => cases hj; exact h4.1
 | j + 9, hj => simp [carr] at hj
def comeN (c : Nat -> ChC) (day : Int) (k : Nat) : List Nat := (List.range k).filter fun i => decide ((c i).p 0 <= day)
theorem comeN_yes {c : Nat -> ChC} {day : Int} {k : Nat} (h : (c k).p 0 <= day) : comeN c day (k + 1) = comeN c day k ++ [k] := by simp [comeN, List.range_succ, List.filter_append, h]
theorem comeN_no {c : Nat -> ChC} {day : Int} {k : Nat} (h : ¬ (c k).p 0 <= day) : comeN c day (k + 1) = comeN c day k := by simp [comeN, List.range_succ, List.filter_append]; omega
theorem comeN_length (c : Nat -> ChC) (day : Int) (k : Nat) : (comeN c day k).length <= k := by
 have := List.length_filter_le (fun i => decide ((c i).p 0 <= day)) (List.range k)
 rw [List.length_range] at this
 exact this
def chgV (c : Nat -> ChC) {len : Nat} (x : Fin len × SlT) : Value := cagg ((c x.1.1).set x.2)
set_option maxRecDepth 100000 in
set_option maxHeartbeats 4000000 in
theorem upto1_in (n : Nat) (hn : 1 <= n) (l Bh oh Bd od n₀ b off len cap : Nat) (day : Int) (c : Nat -> ChC) (hreach : len <= 1000000) (A : Option Addr) (hA : 0 < len -> A = some ⟨b, off, none⟩ /\ b < n₀) (E : Fin len × SlT -> World -> World -> Prop) (J : List (Fin len × SlT) -> World -> Prop)
  (hJ : ∀ pre X Y, J pre X -> Below X.heap.size X Y -> J pre Y)
  (W : World) (hn₀ : n₀ <= W.heap.size)
  (hclone : ∀ (k : Fin len) X, KpS n₀ Bh Bd W X -> Calls Tryz.prog 72 #[.slice (c k.1).A (c k.1).l (c k.1).c] X fun e w' => ∃ s : SlT, e = .returned (.slice s.1 s.2.1 s.2.2) /\ Below X.heap.size X w' /\
   ∀ (Bx : Nat) (X0 Y : World), n₀ <= Bx -> Bx < X.heap.size -> X0.heap.size <= X.heap.size -> (∀ q, q ≠ Bx -> Y.heap[q]? = w'.heap[q]?) -> E (k, s) X0 Y)
  (hY : ∀ pre (x : Fin len × SlT) X0 X, J pre X0 -> Below X0.heap.size X0 X -> E x X0 X -> pre.length < len -> YieldAt Fence.wide (n - 1) Tryz.prog l #[chgV c x] X fun e W' => e = .returned (.bool true) /\ J (pre ++ [x]) W' /\ KpS n₀ Bh Bd X W')
  (hBh : W.cell? ⟨Bh, oh + 9, none⟩ = some (.slice A len cap)) (hBd : W.cell? ⟨Bd, od, none⟩ = some (.int .i64 day))
  (hc : ∀ k j u, k < len -> (carr (c k))[j]? = some u -> W.cell? ⟨b, off + (k * 9 + j), none⟩ = some u) (h0 : J [] W) :
  CallsIn Fence.wide n Tryz.prog 139 #[.func (.yield l) #[] #[], .pointer (some ⟨Bh, oh, none⟩), .pointer (some ⟨Bd, od, none⟩)] W fun e W' => (∃ v, e = .returned v) /\
   ∃ xs : List (Fin len × SlT), xs.map (fun x => x.1.1) = comeN c day len /\ J xs W' := by
 have hro : Fence.wide.round = none := rfl
 refine callsIn_of_wp Tryz.func139 rfl trivial ?_ hro
 simp only [Tryz.ntmps139, List.size_toArray, List.length_cons, List.length_nil, Nat.reduceAdd, Nat.reduceSub, Array.replicate_succ, Array.replicate_zero, List.push_toArray, List.append_toArray, List.nil_append, List.cons_append]
 have hl1 : Bh < W.heap.size := by
  obtain ⟨_, _, _, h⟩ := cell_cells hBh
  exact (Array.getElem?_eq_some_iff.1 h).1
 have hl2 : Bd < W.heap.size := by
  obtain ⟨_, _, _, h⟩ := cell_cells hBd
  exact (Array.getElem?_eq_some_iff.1 h).1
 gi_wp2
 gi_loopw [9] (fun i wr => ∃ (k : Nat) (pre : List (Fin len × SlT)), k <= len /\ i = .int .i64 (k : Int) /\ pre.map (fun x => x.1.1) = comeN c day k /\ J pre wr /\ KpS n₀ Bh Bd W wr)
  (fun i _ => ((len : Int) - intOf i).toNat)
 case atStart => exact ⟨0, [], Nat.zero_le _, by simp, rfl, h0, KpS.refl _ _ _ _⟩
 case round =>
  obtain ⟨k, pre, hk, rfl, hpre, hJs, hnx⟩ := hrel
  have e0 : wr.cell? ⟨Bd, od, none⟩ = some (.int .i64 day) := (World.cell?_of_block hnx.2.2).trans hBd
  by_cases hlt : k < len
  ·obtain ⟨rfl, hb⟩ := hA (by omega)
   have hlen : pre.length < len := by
    have := congrArg List.length hpre
    have h2 := comeN_length c day k
    rw [List.length_map] at this
    omega
   have hcx : ∀ j u, (carr (c k))[j]? = some u -> wr.cell? ⟨b, off + k * 9 + j, none⟩ = some u := fun j u hj => by
    rw [Nat.add_assoc]
    exact (hnx.1.cell (p := ⟨b, off + (k * 9 + j), none⟩) hb).trans (hc _ j u hlt hj)
   have x0 := hcx 0 (.int .i64 ((c k).p 0)) rfl
   have x1 := hcx 1 (.int .i64 ((c k).p 1)) rfl
   have x2 := hcx 2 (.int .i64 ((c k).p 2)) rfl
   have x3 := hcx 3 (.int .i64 ((c k).p 3)) rfl
   have x4 := hcx 4 (.int .i64 ((c k).p 4)) rfl
   have x5 := hcx 5 (.int .i64 ((c k).p 5)) rfl
   have x6 := hcx 6 (.int .i64 ((c k).p 6)) rfl
   have x7 := hcx 7 (.slice (c k).A (c k).l (c k).c) rfl
   have x8 := hcx 8 (.int .i64 ((c k).p 7)) rfl
   rw [Nat.add_zero] at x0
   have hBdl : Bd < wr.heap.size := Nat.lt_of_lt_of_le hl2 hnx.1.size
   have hBhl : Bh < wr.heap.size := Nat.lt_of_lt_of_le hl1 hnx.1.size
   have hBb : Below wr.heap.size wr (wr.alloc (.cells (carr (c k)) 53)) := (Below.refl _ wr).alloc (Nat.le_refl _) _
   have e1 := (hBb.cell (p := ⟨Bd, od, none⟩) hBdl).trans e0
   have hKb : KpS n₀ Bh Bd W (wr.alloc (.cells (carr (c k)) 53)) := hnx.trans (KpS.below hBb (Nat.le_trans hn₀ hnx.1.size) hBhl hBdl)
   unfold carr at e1
   have HK := Lib.hid hKb
   have HB := Lib.hid hBb
   clear hcx hc hBh hBd hKb hBb
   gi_wp2
   ·have hno' : day < (c k).p 0 := by assumption
    have hno : ¬ (c k).p 0 <= day := by omega
    exact ⟨⟨k + 1, pre, by omega, by simp, by rw [comeN_no hno, hpre], hJ _ _ _ hJs HB.out, HK.out⟩, by simp [intOf]; omega⟩
   ·have hyes : (c k).p 0 <= day := by assumption
    refine ⟨trivial, ?_⟩
    refine (callsIn_wide.2 (hclone ⟨k, hlt⟩ _ HK.out)).mono ?_
    rintro e w1 ⟨s, rfl, hb1, hE⟩
    have hszb : wr.heap.size < (wr.alloc (.cells (carr (c k)) 53)).heap.size := by simp
    have z4 := (hb1.block wr.heap.size hszb).trans (World.alloc_heap_new wr (.cells (carr (c k)) 53))
    unfold carr at z4
    have u0 := cell_of_block z4 0
    have u1 := cell_of_block z4 1
    have u2 := cell_of_block z4 2
    have u3 := cell_of_block z4 3
    have u4 := cell_of_block z4 4
    have u5 := cell_of_block z4 5
    have u6 := cell_of_block z4 6
    have u7 := cell_of_block z4 7
    have u8 := cell_of_block z4 8
    simp at u0 u1 u2 u3 u4 u5 u6 u7 u8
    have ff : ∀ j, w1.frozen? ⟨wr.heap.size, j, none⟩ = false := fun j => by simp [World.frozen?, z4]
    have f7 := ff 7
    have hW3 : Below wr.heap.size wr (w1.setCell ⟨wr.heap.size, 7, none⟩ (.slice s.1 s.2.1 s.2.2)) := (HB.out.trans (hb1.mono (Nat.le_of_lt hszb))).setCell (p := ⟨wr.heap.size, 7, none⟩) (Nat.le_refl _) _
    have hk3 : KpS n₀ Bh Bd wr (w1.setCell ⟨wr.heap.size, 7, none⟩ (.slice s.1 s.2.1 s.2.2)) := KpS.below hW3 (Nat.le_trans hn₀ hnx.1.size) hBhl hBdl
    have hE3 := hE wr.heap.size wr (w1.setCell ⟨wr.heap.size, 7, none⟩ (.slice s.1 s.2.1 s.2.2)) (Nat.le_trans hn₀ hnx.1.size) hszb (Nat.le_of_lt hszb) (fun q hq => heap_setCell_other _ _ q _ hq)
    obtain ⟨fn, tmps, assign, body, hy, hR⟩ := hY pre (⟨k, hlt⟩, s) wr _ hJs hW3 hE3 hlen
    dsimp only [chgV, cagg, carr, ChC.set] at hy
    clear hY hclone hJ
    gi_wp2
    refine hR.mono ?_
    rintro e W4 ⟨rfl, hJ4, hk4⟩
    gi_wp2
    go_roundw
    case rel => exact ⟨k + 1, pre ++ [(⟨k, hlt⟩, s)], by omega, by simp, by rw [comeN_yes hyes, List.map_append, hpre]; rfl, hJ4, hnx.trans (hk3.trans hk4)⟩
    case measure => simp [intOf]; omega
  ·obtain rfl : k = len := by omega
   gi_wp2
   go_end0
   exact ⟨⟨_, rfl⟩, _, hpre, hJs⟩
end Go.Proofs.YtplkgghjldndkaaGreat
namespace Go.Proofs.YtplkgghjldndkaaGreat
open Go Go.Ab Go.RowKit Go.Proofs Go.Shelf Go.Maps
attribute [local go_sem] Oper.semAt_some
def chgVs (c : Nat -> ChC) {len : Nat} : List (Fin len × SlT) -> List Value
 | [] => []
 | x :: l => (carr ((c x.1.1).set x.2)).toList ++ chgVs c l
theorem chgVs_app (c : Nat -> ChC) {len : Nat} : (a b : List (Fin len × SlT)) -> chgVs c (a ++ b) = chgVs c a ++ chgVs c b
 | [], _ => rfl
 | x :: a, b => by simp [chgVs, chgVs_app c a b]
theorem chgVs_len (c : Nat -> ChC) {len : Nat} : (a : List (Fin len × SlT)) -> (chgVs c a).length = a.length * 9
 | [] => rfl
 | x :: a => by simp [chgVs, carr, chgVs_len c a]; omega
def ComeE (c : Nat -> ChC) (F : Nat -> Prop) (y : Nat -> changeT.den) {len : Nat} (x : Fin len × SlT) (X Y : World) : Prop :=
 ∃ F', RepV Y F' changeT (y x.1.1) (chgV c x) /\ ∀ q, F' q -> (F q ∨ X.heap.size <= q) /\ ∃ arr ty p, Y.heap[q]? = some (.cells arr ty p)
def CoRow (w : World) (c : Nat -> ChC) (F : Nat -> Prop) (y : Nat -> changeT.den) {len : Nat} (els pre : List (Fin len × SlT)) (W : World) (v : Value) (F' : Nat -> Prop) : Prop :=
 W.heap[w.heap.size]? = some (.cells #[v] 29 (0, 0)) /\ W.ownsRow w.heap.size 53 9 v pre.length (chgVs c pre) /\ RowsL W F' changeT (els.map fun x => y x.1.1) (chgVs c els) /\
  ∀ q, F' q -> (F q ∨ w.heap.size <= q) /\ v.ownBlock ≠ some q /\ q ≠ w.heap.size /\ ∃ arr ty p, W.heap[q]? = some (.cells arr ty p)
structure CoI (w : World) (c : Nat -> ChC) (F : Nat -> Prop) (y : Nat -> changeT.den) {len : Nat} (els pre : List (Fin len × SlT)) (W : World) : Prop where
 row : ∃ v F', CoRow w c F y els pre W v F'
 bel : Below w.heap.size w W
theorem own_cells {W : World} {base : Nat} {e : TypeId} {size : Nat} {v : Value} {k : Nat} {xs : List Value} (h : W.ownsRow base e size v k xs) {j : Nat} (hj : v.ownBlock = some j) : base <= j /\ ∃ cur, W.heap[j]? = some (.cells cur e (0, 0)) := by
 rcases h.2 with ⟨rfl, _⟩ | ⟨g, cap, cur, rfl, hb, hgb, _⟩
 ·simp [Value.ownBlock] at hj
 ·have : g = j := by simpa [Value.ownBlock] using hj
  subst this
  exact ⟨hb, _, hgb⟩
theorem own_ne {W : World} {base : Nat} {e : TypeId} {size : Nat} {v : Value} {k : Nat} {xs : List Value} (h : W.ownsRow base e size v k xs) {j : Nat} {o : Obj} (hj : W.heap[j]? = some o) (hno : ∀ cur, o ≠ .cells cur e (0, 0)) : v.ownBlock = none ∨ v.ownBlock ≠ some j := by
 by_cases he : v.ownBlock = some j
 ·obtain ⟨_, cur, hc⟩ := own_cells h he
  rw [hj] at hc
  cases hc
  exact absurd rfl (hno cur)
 ·exact .inr he
theorem coRow_step {w : World} {c : Nat -> ChC} {F : Nat -> Prop} {y : Nat -> changeT.den} {len : Nat} {els pre : List (Fin len × SlT)} {W W' : World} {v : Value} {F' : Nat -> Prop} {row : Option Nat} (h : CoRow w c F y els pre W v F') (hg : W.grownBy W' row)
  (hr : ∀ r, row = some r -> ∃ o : Obj, W.heap[r]? = some o /\ o.isCells = false) : CoRow w c F y els pre W' v F' := by
 obtain ⟨h1, h2, h3, h4⟩ := h
 have hcells : ∀ q arr ty p, W.heap[q]? = some (Obj.cells arr ty p) -> W'.heap[q]? = W.heap[q]? := fun q arr ty p hq => hg.block q (Array.getElem?_eq_some_iff.1 hq).1 (fun e => by
  obtain ⟨o, ho, hc⟩ := hr q e.symm
  rw [hq] at ho
  cases ho
  cases hc)
 refine ⟨(hcells _ _ _ _ h1).trans h1, h2.kept hg ?_, h3.mono (fun _ h => h) (fun q hq => ?_), fun q hq => ?_⟩
 ·by_cases he : v.ownBlock = row
  ·cases hrow : row with
   | none => exact .inl (he.trans hrow)
   | some r =>
    obtain ⟨o, ho, hc⟩ := hr r hrow
    obtain ⟨_, cur, hcu⟩ := own_cells h2 (he.trans hrow)
    rw [ho] at hcu
    cases hcu
    cases hc
  ·exact .inr he
 ·obtain ⟨_, _, _, arr, ty, p, hc⟩ := h4 q hq
  exact hcells _ _ _ _ hc
 ·obtain ⟨a1, a2, a3, arr, ty, p, hc⟩ := h4 q hq
  exact ⟨a1, a2, a3, arr, ty, p, (hcells _ _ _ _ hc).trans hc⟩
theorem coI_own {w : World} {c : Nat -> ChC} {F : Nat -> Prop} {y : Nat -> changeT.den} {len : Nat} {B : Nat} (hB : w.heap.size <= B) (els pre : List (Fin len × SlT)) {X Y : World} {row : Option Nat} (h : CoI w c F y els pre X) (hg : X.grownBy Y row) (hr : ∀ r, row = some r -> B <= r /\ ∃ o : Obj, X.heap[r]? = some o /\ o.isCells = false) : CoI w c F y els pre Y := by
 obtain ⟨v, F', hrow⟩ := h.row
 exact ⟨⟨v, F', coRow_step hrow hg fun r e => (hr r e).2⟩, h.bel.grown hg h.bel.size (fun k e => Nat.le_trans hB (hr k e).1)⟩
theorem rowsL_one {W : World} {F : Nat -> Prop} {x : changeT.den} {d : ChC} (h : RepV W F changeT x (cagg d)) : RowsL W F changeT [x] (carr d).toList := fun i z hz => by
 cases i with
 | zero =>
  simp only [List.getElem?_cons_zero, Option.some.injEq] at hz
  subst hz
  refine h.2.2.mono (fun _ h => h) (fun _ _ => rfl) fun j u _ hu => ?_
  have : (carr d)[j]? = some u := hu
  simpa using this
 | succ i => simp at hz
theorem coRow_come {w : World} {c : Nat -> ChC} {F : Nat -> Prop} {y : Nat -> changeT.den} {len : Nat} {pre : List (Fin len × SlT)} {x : Fin len × SlT} {X Y : World} (h : CoI w c F y pre pre X) (hb : Below X.heap.size X Y) (hF : ∀ q, F q -> q < w.heap.size) (hE : ComeE c F y x X Y) : CoI w c F y (pre ++ [x]) pre Y := by
 obtain ⟨v, F', h1, h2, h3, h4⟩ := h.row
 obtain ⟨F2, hr, hF2⟩ := hE
 have hs : w.heap.size < X.heap.size := (Array.getElem?_eq_some_iff.1 h1).1
 have hblk : ∀ q o, X.heap[q]? = some o -> Y.heap[q]? = some o := fun q o hq => (hb.block q (Array.getElem?_eq_some_iff.1 hq).1).trans hq
 refine ⟨⟨v, fun q => F' q ∨ F2 q, hblk _ _ h1, h2.kept (row := none) ⟨hb.os, hb.tape, hb.output, hb.size, fun k hk _ => hb.block k hk⟩ ?_, ?_, fun q hq => ?_⟩, h.bel.trans (hb.mono (Nat.le_of_lt hs))⟩
 ·cases v.ownBlock with
  | none => exact .inl rfl
  | some g => exact .inr (by simp)
 ·rw [List.map_append, chgVs_app]
  refine RowsL.append (h3.mono (fun _ h => .inl h) fun q hq => ?_) ?_ ?_
  ·obtain ⟨_, _, _, arr, ty, p, hc⟩ := h4 q hq
   exact (hblk _ _ hc).trans hc.symm
  ·rw [chgVs_len, List.length_map]
   rfl
  ·have := rowsL_one hr
   simp only [chgVs, List.append_nil, List.map_cons, List.map_nil]
   exact this.mono (fun _ h => .inr h) (fun _ _ => rfl)
 ·rcases hq with hq | hq
  ·obtain ⟨a1, a2, a3, arr, ty, p, hc⟩ := h4 q hq
   exact ⟨a1, a2, a3, arr, ty, p, hblk _ _ hc⟩
  ·obtain ⟨a1, arr, ty, p, hc⟩ := hF2 q hq
   refine ⟨a1.elim .inl (fun h => .inr (by omega)), fun e => ?_, fun e => ?_, arr, ty, p, hc⟩
   ·obtain ⟨hge, cur, hcu⟩ := own_cells h2 e
    have hlt := (Array.getElem?_eq_some_iff.1 hcu).1
    rcases a1 with a1 | a1
    ·have := hF q a1
     omega
    ·omega
   ·rcases a1 with a1 | a1
    ·have := hF q a1
     omega
    ·omega
def CoA (w : World) (c : Nat -> ChC) (F : Nat -> Prop) (y : Nat -> changeT.den) {len : Nat} (a : Fin len × SlT -> Nat -> Act) (pre : List (Fin len × SlT)) (x : Fin len × SlT) (a' : Act) (W : World) : Prop :=
 CoI w c F y (pre ++ [x]) pre W /\ ∃ Bx, w.heap.size < Bx /\ W.heap[Bx]? = some (.cells (carr ((c x.1.1).set x.2)) 53 (0, 0)) /\ a' = a x Bx
theorem coA_own {w : World} {c : Nat -> ChC} {F : Nat -> Prop} {y : Nat -> changeT.den} {len : Nat} {a : Fin len × SlT -> Nat -> Act} {B : Nat} (hB : w.heap.size <= B) (pre : List (Fin len × SlT)) (x : Fin len × SlT) (a' : Act) : OwnFrom B (fun (_ : Unit) W => CoA w c F y a pre x a' W) := fun _ X Y row hs hg hr => by
 obtain ⟨h0, Bx, h1, h2, h3⟩ := hs
 exact ⟨coI_own hB _ _ h0 hg hr, Bx, h1, block_abides h2 hg hr, h3⟩
set_option maxRecDepth 100000 in
theorem chgInfo : (Tryz.prog.info? 53).map (fun i => (i.zero, i.size, i.bytes)) = some (some (.agg #[.int .i64 0, .int .i64 0, .int .i64 0, .int .i64 0, .int .i64 0, .int .i64 0, .int .i64 0, .slice none 0 0, .int .i64 0]), 9, 88) := by kernel_rfl
theorem cell_of_box {W : World} {B : Nat} {v : Value} {t : TypeId} (h : W.heap[B]? = some (.cells #[v] t (0, 0))) : W.cell? ⟨B, 0, none⟩ = some v /\ W.frozen? ⟨B, 0, none⟩ = false := by
 constructor <;> simp [World.cell?, World.frozen?, h]
theorem new_cells (W : World) (arr : Array Value) (t : TypeId) (j : Nat) (u : Value) (h : arr.toList[j]? = some u) : (W.alloc (.cells arr t)).cell? ((⟨W.heap.size, 0, none⟩ : Addr).add j) = some u := by
 have hb := cell_of_block (World.alloc_heap_new W (.cells arr t)) j
 have he : (⟨W.heap.size, 0, none⟩ : Addr).add j = ⟨W.heap.size, j, none⟩ := by unfold Addr.add; split <;> simp_all
 rw [he, hb]
 simpa using h
theorem grow_keeps {X Y : World} {row : Option Nat} (hg : X.grownBy Y row) (h : ∀ r, row = some r -> ∃ arr t p, X.heap[r]? = some (Obj.cells arr t p)) : KeepsOthers X Y :=
 ⟨hg.size, fun k o hk ho => (hg.block k (Array.getElem?_eq_some_iff.1 hk).1 (fun e => by
  obtain ⟨arr, t, p, hc⟩ := h k e.symm
  rw [hk] at hc
  cases hc
  cases ho)).trans hk⟩
theorem set_box {W : World} {B : Nat} {v : Value} {t : TypeId} (v' : Value) (h : W.heap[B]? = some (.cells #[v] t (0, 0))) : (W.setCell ⟨B, 0, none⟩ v').heap[B]? = some (.cells #[v'] t (0, 0)) := heap_setCell_same W B 0 _ t v' h
theorem own_data {W : World} {F : Nat -> Prop} {base : Nat} {e : TypeId} {t : Ty} {v : Value} {l : List t.den} {xs : List Value} (h : W.ownsRow base e t.size v l.length xs) (hr : RowsL W F t l xs) : RepT W (fun q => F q ∨ v.ownBlock = some q) (.sl t) l (fun _ u => u = v) := by
 rcases h.2 with ⟨rfl, hn⟩ | ⟨g, cap, cur, rfl, hb, hgb, h1, h2, h3, h4⟩
 ·exact ⟨none, 0, by rw [hn], by omega, Nat.zero_le _, fun i x hx => by have := (List.getElem?_eq_some_iff.1 hx).1; omega⟩
 ·refine ⟨some ⟨g, 0, none⟩, cap, rfl, h1, h2, fun i x hx => ⟨⟨g, 0, none⟩, rfl, .inr rfl, (hr i x hx).mono (fun _ h => .inl h) (fun _ _ => rfl) fun j u _ hu => ?_⟩⟩
  have he : (⟨g, 0, none⟩ : Addr).add (i * t.size + j) = ⟨g, i * t.size + j, none⟩ := by unfold Addr.add; split <;> simp_all
  show W.cell? _ = some u
  rw [he, cell_of_block hgb]
  have hu' : xs[i * t.size + j]? = some u := hu
  rw [← h4, List.getElem?_take] at hu'
  split at hu'
  ·simpa using hu'
  ·cases hu'
set_option maxRecDepth 100000 in
set_option maxHeartbeats 4000000 in
theorem appSeq_in (n : Nat) (hn : 2 <= n) (c : Nat -> ChC) (F : Nat -> Prop) (y : Nat -> changeT.den) (len : Nat) (hlen : len <= 1000000) (gf : Nat) (lb : Array Value) (eg : ∀ args w, (callFunc gf args).run Tryz.prog w = .ok (.enter gf args) w) (w : World) (hF : ∀ q, F q -> q < w.heap.size) (S : List (Fin len × SlT) -> Prop)
    (hseq : ∀ w0, Below w.heap.size w w0 -> SeqE Fence.wide (n - 1) Tryz.prog gf lb (fun x : Fin len × SlT => #[chgV c x]) (ComeE c F y) (Below w.heap.size) S len w0) :
    CallsIn Fence.wide n Tryz.prog 138 #[.slice none 0 0, .func (.func gf) #[] lb] w fun e w' => ∃ v xs F', e = .returned v /\ S xs /\ Below w.heap.size w w' /\
      RepT w' F' (.sl changeT) (xs.map fun x => y x.1.1) (fun _ u => u = v) /\ ∀ q, F' q -> (F q ∨ w.heap.size <= q) /\ q < w'.heap.size := by
  refine callsIn_of_wp_marks Tryz.func138 rfl trivial ?_ rfl
  simp only [Tryz.ntmps138, List.size_toArray, List.length_cons, List.length_nil, Nat.reduceAdd, Nat.reduceSub, Array.replicate_succ, Array.replicate_zero, List.push_toArray, List.append_toArray, List.nil_append, List.cons_append]
  gi_wp2
  have hbel : Below w.heap.size w (w.alloc (.cells #[.slice none 0 0] 29)) := (Below.refl _ w).alloc (Nat.le_refl _) _
  have hbx := World.alloc_heap_new w (.cells #[.slice none 0 0] 29)
  have hsz : (w.alloc (.cells #[.slice none 0 0] 29)).heap.size = w.heap.size + 1 := by simp
  obtain ⟨W0, hW0⟩ : ∃ W0, w.alloc (.cells #[.slice none 0 0] 29) = W0 := ⟨_, rfl⟩
  rw [hW0] at hbel hbx hsz ⊢
  clear hW0
  have hI0 : CoI w c F y ([] : List (Fin len × SlT)) [] W0 := ⟨⟨_, fun _ => False, hbx, ⟨rfl, .inl ⟨rfl, rfl⟩⟩, fun i z hz => by simp at hz, fun q hq => hq.elim⟩, hbel⟩
  refine wpIn_rangeE rfl (by omega) (gf := gf) (lb := lb) rfl trivial eg (α := Fin len × SlT) (encs := fun x => #[chgV c x]) (E := ComeE c F y) (Kp := Below w.heap.size) (S := S) (N := len) (hseq W0 hbel)
    (fun h k => h.trans k) (fun W l o o' hl ho hoc => ⟨rfl, rfl, rfl, by simp, fun k hk => World.putObj_heap_other (by omega)⟩) (fun _ => rfl)
    (fun pre W => CoI w c F y pre pre W) (fun pre X Y row h hg hr => coI_own (B := W0.heap.size) hbel.size _ _ h hg hr) hI0
    (fun pre x a' W => CoA w c F y (fun x Bx => { tmps := #[.slice none 0 0, .func (.func gf) #[] lb, .pointer (some ⟨w.heap.size, 0, none⟩), undef, .slice none 0 0, .pointer (some ⟨Bx, 0, none⟩), .func (.func gf) #[] lb, chgV c x, undef, undef, undef, undef, undef], defers := [] }) pre x a' W)
    (fun pre x a' => coA_own hbel.size pre x a') ?assign ?body ?done
  case assign =>
    rintro l pre x X W K hi hb hE hK
    have hi2 := coRow_come hi hb hF hE
    unfold chgV cagg carr
    gi_wp2
    obtain ⟨v, F', r1, _⟩ := hi2.row
    have hlt : w.heap.size < W.heap.size := (Array.getElem?_eq_some_iff.1 r1).1
    exact hK _ _ ((KeepsOthers.alloc _ _).from _) ((Below.refl _ W).alloc (Nat.le_of_lt hlt) _)
      ⟨coI_own (B := W0.heap.size) hbel.size _ _ hi2 (World.grownBy_alloc W _ none) (fun r e => nomatch e), W.heap.size, hlt, World.alloc_heap_new W _, rfl⟩
  case body =>
    rintro l pre x a' W ⟨hi, Bx, hBx, bX, rfl⟩ hlt
    obtain ⟨v, F', r1, r2, r3, r4⟩ := hi.row
    obtain ⟨i0, hi0, hz0, hz1, hz2⟩ := info_parts chgInfo
    have bX' := bX
    unfold carr at bX'
    have y0 := cell_of_block bX' 0
    have y1 := cell_of_block bX' 1
    have y2 := cell_of_block bX' 2
    have y3 := cell_of_block bX' 3
    have y4 := cell_of_block bX' 4
    have y5 := cell_of_block bX' 5
    have y6 := cell_of_block bX' 6
    have y7 := cell_of_block bX' 7
    have y8 := cell_of_block bX' 8
    simp at y0 y1 y2 y3 y4 y5 y6 y7 y8
    obtain ⟨hc1, hf1⟩ := cell_of_box r1
    have hlt0 : w.heap.size < W.heap.size := (Array.getElem?_eq_some_iff.1 r1).1
    have hnew := new_cells W (carr ((c x.1.1).set x.2)) 53
    have HR := Lib.hid r3
    have HF := Lib.hid r4
    have hbelI := hi.bel
    have hv3f : ∀ (arr : Array Value) (w3 : World), (W.alloc (.cells arr 53)).grownBy w3 v.ownBlock -> w3.heap[w.heap.size]? = some (.cells #[v] 29 (0, 0)) := fun arr w3 hg =>
      (hg.block _ (by simp; omega) (fun e => (own_ne r2 r1 (fun cur e => by cases e)).elim (fun h => by rw [h] at e; cases e) (fun h => h e.symm))).trans ((Below.heap_alloc _ _ _ hlt0).trans r1)
    unfold carr at hnew
    clear r3 r4 bX bX' hseq hi
    gi_wp2_with (first
      | (gi_at_builtin; refine wpListIn_append_own_at _ rfl _ _ 29 rfl w.heap.size 53 i0 _ 9 88 Tryz.underlying29 hi0 hz0 hz1 hz2 rfl (by decide) _ _ _ rfl (r2.alloc _) ⟨W.heap.size, 0, none⟩ 1 1 _ rfl rfl hnew (by simp [Value.oneCell']) (by simp only [maxLen]; omega) (by omega) (by simp; omega) ?_; intro v' w3 hown' hg3 hnil3 hat3
         have hv3 : w3.heap[w.heap.size]? = some (.cells #[v] 29 (0, 0)) := hv3f _ _ hg3
         obtain ⟨hc3, hf3⟩ := cell_of_box hv3
         obtain ⟨g', cap', cur', rfl, hbase', hgb', hr1, hr2, hr3, hr4⟩ : ∃ g' cap' cur', v' = .slice (some ⟨g', 0, none⟩) (pre.length + 1) cap' /\ w.heap.size <= g' /\ w3.heap[g']? = some (.cells cur' 53 (0, 0)) /\ pre.length + 1 <= cap' /\ cap' <= maxLen /\ cur'.size = cap' * 9 /\ cur'.toList.take ((pre.length + 1) * 9) = chgVs c pre ++ _ := by
           rcases hown'.2 with ⟨_, h0⟩ | h'
           · exact absurd h0 (by omega)
           · exact h'
         go_frame)
      | gi_in)
    have hownX := r2.alloc (.cells (carr ((c x.1.1).set x.2)) 53)
    have hgX : (W.alloc (.cells (carr ((c x.1.1).set x.2)) 53)).grownBy w3 v.ownBlock := hg3
    have hg4 := grownBy_setCell' w3 w.heap.size (.slice (some ⟨g', 0, none⟩) (pre.length + 1) cap')
    have hb3 : Below w.heap.size W w3 := ((Below.refl _ W).alloc (Nat.le_of_lt hlt0) _).grown hgX (by simp; omega) (fun k e => (own_cells hownX e).1)
    have hb4 := hb3.setCell (p := ⟨w.heap.size, 0, none⟩) (Nat.le_refl _) (.slice (some ⟨g', 0, none⟩) (pre.length + 1) cap')
    have hsame : ∀ q, F' q -> (w3.setCell ⟨w.heap.size, 0, none⟩ (.slice (some ⟨g', 0, none⟩) (pre.length + 1) cap')).heap[q]? = W.heap[q]? := fun q hq => by
      obtain ⟨_, a2, a3, arr, ty, p, hc⟩ := HF.out q hq
      have hq2 := (Array.getElem?_eq_some_iff.1 hc).1
      exact (heap_setCell_other _ _ q _ a3).trans ((hgX.block q (by simp; omega) (fun e => a2 e.symm)).trans (Below.heap_alloc _ _ _ hq2))
    refine ⟨rfl, (((KeepsOthers.alloc W _).trans (grow_keeps hgX fun r e => ?_)).trans (KeepsOthers.setCell w3 _ _)).from _, hb4, ⟨_, F', set_box _ hv3, ?_, HR.out.mono (fun _ h => h) hsame, fun q hq => ?_⟩, hbelI.trans hb4⟩
    · obtain ⟨_, cur, hc⟩ := own_cells hownX e
      exact ⟨_, _, _, hc⟩
    · have h5 := hown'.kept hg4 (own_ne hown' hv3 (fun cur e => by cases e))
      simpa [chgVs_app, chgVs, carr] using h5
    · obtain ⟨a1, a2, a3, arr, ty, p, hc⟩ := HF.out q hq
      refine ⟨a1, fun e => ?_, a3, arr, ty, p, (hsame q hq).trans hc⟩
      have hq2 := (Array.getElem?_eq_some_iff.1 hc).1
      rcases hat3 with h | h
      · exact a2 (h.symm.trans e)
      · rw [h] at e
        simp at e
        omega
  case done =>
    rintro D zs W hD hzs hi hK
    obtain ⟨v, F', r1, r2, r3, r4⟩ := hi.row
    obtain ⟨hc1, hf1⟩ := cell_of_box r1
    have HR := Lib.hid r3
    have HF := Lib.hid r4
    clear r3 r4 hseq
    gi_wp2
    refine ⟨by simp, .inl ⟨_, _, rfl, run_takeDeferred hK, ?_⟩⟩
    have hs : ∀ q arr ty p, W.heap[q]? = some (Obj.cells arr ty p) -> (W.putObj D (.deferred none)).heap[q]? = W.heap[q]? := fun q arr ty p hq => World.putObj_heap_other (fun e => by subst e; rw [hK] at hq; cases hq)
    have r2' : W.ownsRow w.heap.size 53 changeT.size v (zs.map fun x => y x.1.1).length (chgVs c zs) := by rw [List.length_map]; exact r2
    have hd := own_data r2' HR.out
    have hcl : ∀ q, (F' q ∨ v.ownBlock = some q) -> (F q ∨ w.heap.size <= q) /\ ∃ arr ty p, W.heap[q]? = some (Obj.cells arr ty p) := fun q hq => by
      rcases hq with hq | hq
      · obtain ⟨a1, _, _, a4⟩ := HF.out q hq
        exact ⟨a1, a4⟩
      · obtain ⟨b1, cur, b2⟩ := own_cells r2 hq
        exact ⟨.inr b1, _, _, _, b2⟩
    refine ⟨_, results_tmp rfl _ _ _, v, zs, _, rfl, hzs, ⟨hi.bel.os, hi.bel.tape, hi.bel.output, by simpa [World.putObj] using hi.bel.size, fun k hk => (World.putObj_heap_other (by have := hbel.size; omega)).trans (hi.bel.block k hk)⟩, RepT.mono (t := .sl changeT) (fun _ h => h) (fun q hq => ?_) (fun _ _ _ h => h) hd, fun q hq => ?_⟩
    · obtain ⟨_, arr, ty, p, hc⟩ := hcl q hq
      exact hs q arr ty p hc
    · obtain ⟨a1, arr, ty, p, hc⟩ := hcl q hq
      have := (Array.getElem?_eq_some_iff.1 hc).1
      exact ⟨a1, by simpa [World.putObj] using this⟩
end Go.Proofs.YtplkgghjldndkaaGreat
namespace Go.Proofs.YtplkgghjldndkaaGreat
open Go Go.Ab Go.RowKit Go.Proofs Go.Shelf Go.Maps
attribute [local go_sem] Oper.semAt_some
theorem clone_calls {w W : World} {F : Nat -> Prop} {l : List coverT.den} {v : Value} (hb : ∀ b, F b -> b < w.heap.size) (hW : Below w.heap.size w W) (hx : RepT w F (.sl coverT) l (fun _ u => u = v)) (hf : l.length <= 1000000) :
  Calls Tryz.prog 72 #[v] W fun e w' => ∃ s : SlT, e = .returned (.slice s.1 s.2.1 s.2.2) /\ Below W.heap.size W w' /\
   ∃ F', RepT w' F' (.sl coverT) l (fun _ u => u = .slice s.1 s.2.1 s.2.2) /\ ∀ q, F' q -> (F q ∨ W.heap.size <= q) /\ ∃ arr ty p, w'.heap[q]? = some (.cells arr ty p) := by
 obtain ⟨A, c, rfl, h2, h3, h4⟩ := hx
 have hv : RepV w F (.sl coverT) l (.slice A l.length c) := ⟨rfl, ⟨fun h => (by cases h), fun ⟨cs, h⟩ => (by cases h)⟩, A, c, rfl, h2, h3, h4⟩
 have hx' : RepV W F (.sl coverT) l (.slice A l.length c) := hv.mono (fun _ h => h) (fun b h => hW.block b (hb b h))
 refine (cloneC_ok.2 W F (l, ()) [.slice A l.length c] (fun b h => Nat.lt_of_lt_of_le (hb b h) hW.size) ⟨_, [], rfl, hx', rfl⟩ hf).mono ?_
 rintro e w' ⟨u, F', rfl, hbel, h1, h2, h3⟩
 have h3' : RepV w' F' (.sl coverT) l u := h3
 have h4' := h3'.only (G := fun b => F' b /\ ∃ arr ty p, w'.heap[b]? = some (.cells arr ty p)) (fun b h hc => ⟨h, hc⟩) rfl
 have h5 : RepA Tryz.prog w' (fun b => F' b /\ ∃ arr ty p, w'.heap[b]? = some (.cells arr ty p)) (fun _ _ => True) (encV (.sl coverT) l) u := encV_rep h4'
 have h6 : RepT w' (fun b => F' b /\ ∃ arr ty p, w'.heap[b]? = some (.cells arr ty p)) (.sl coverT) l (fun _ u' => u' = u) := h5.2
 obtain ⟨A2, c2, e2, h7⟩ := h6
 subst e2
 exact ⟨(A2, l.length, c2), rfl, hbel, (fun b => F' b /\ ∃ arr ty p, w'.heap[b]? = some (.cells arr ty p)), ⟨A2, c2, rfl, h7⟩, fun q hq => ⟨(h2 q hq.1).1, hq.2⟩⟩
theorem chgs_cells {w : World} {F : Nat -> Prop} {l : List changeT.den} {v : Value} (h : RepT w F (.sl changeT) l (fun _ u => u = v)) :
  ∃ (A : Option Addr) (cap : Nat) (b off : Nat) (c : Nat -> ChC), v = .slice A l.length cap /\ (0 < l.length -> A = some ⟨b, off, none⟩ /\ F b) /\
   (∀ k j u, k < l.length -> (carr (c k))[j]? = some u -> w.cell? ⟨b, off + (k * 9 + j), none⟩ = some u) /\
   ∀ k x, l[k]? = some x -> (c k).p 0 = x.1 /\ RepT w F (.sl coverT) x.2.2.2.2.1 (fun _ u => u = .slice (c k).A (c k).l (c k).c) /\
    ∀ (s : SlT) (Y : World) (F2 : Nat -> Prop), RepT Y F2 (.sl coverT) x.2.2.2.2.1 (fun _ u => u = .slice s.1 s.2.1 s.2.2) -> RepV Y F2 changeT x (cagg ((c k).set s)) := by
 obtain ⟨A, cap, h0, h1, h2, h3⟩ := h
 by_cases hp : 0 < l.length
 ·obtain ⟨ad, hA, hF, hc⟩ := h3 0 l[0] (List.getElem?_eq_getElem hp)
  have hsp : ad.spot = none := by
   have hc' : w.cell? (ad.add (0 * changeT.size + 0)) = some (.int .i64 l[0].1) := hc.1.1
   have he : ad.add (0 * changeT.size + 0) = ad := by simp [Addr.add]
   rw [he] at hc'
   unfold World.cell? at hc'
   split at hc'
   ·split at hc'
    ·cases hc'
    ·rename_i hsp
     cases hsp2 : ad.spot with
     | none => rfl
     | some _ => rw [hsp2] at hsp; exact absurd rfl hsp
   ·cases hc'
  obtain ⟨b, off, sp⟩ := ad
  simp only at hsp
  subst hsp
  have hall : ∀ k, ∃ d : ChC, ∀ x, l[k]? = some x -> (∀ j u, (carr d)[j]? = some u -> w.cell? ⟨b, off + (k * 9 + j), none⟩ = some u) /\ d.p 0 = x.1 /\ RepT w F (.sl coverT) x.2.2.2.2.1 (fun _ u => u = .slice d.A d.l d.c) /\
    ∀ (s : SlT) (Y : World) (F2 : Nat -> Prop), RepT Y F2 (.sl coverT) x.2.2.2.2.1 (fun _ u => u = .slice s.1 s.2.1 s.2.2) -> RepV Y F2 changeT x (cagg (d.set s)) := by
   intro k
   cases hk : l[k]? with
   | none => exact ⟨⟨fun _ => 0, none, 0, 0⟩, fun x hx => by cases hx⟩
   | some x =>
    obtain ⟨ad', hA', _, hr⟩ := h3 k x hk
    rw [hA] at hA'
    cases hA'
    obtain ⟨d, hd, hd0⟩ := chg_cells hr
    refine ⟨d, fun y hy => ?_⟩
    cases hy
    refine ⟨fun j u hj => ?_, hd0⟩
    have := hd j u hj
    rw [show changeT.size = 9 from rfl] at this
    have e : (⟨b, off, none⟩ : Addr).add (k * 9 + j) = ⟨b, off + (k * 9 + j), none⟩ := by unfold Addr.add; split <;> simp_all
    rw [e] at this
    exact this
  obtain ⟨c, hcc⟩ := Classical.axiomOfChoice hall
  exact ⟨A, cap, b, off, c, h0.symm, fun _ => ⟨hA, hF⟩, fun k j u hk hj => (hcc k l[k] (List.getElem?_eq_getElem hk)).1 j u hj, fun k x hx => (hcc k x hx).2⟩
 ·refine ⟨A, cap, 0, 0, fun _ => ⟨fun _ => 0, none, 0, 0⟩, h0.symm, fun h => absurd h hp, fun k j u hk => absurd hk (by omega), fun k x hx => ?_⟩
  have := (List.getElem?_eq_some_iff.1 hx).1
  omega
def uptoB (day : Int) (l : List changeT.den) : List changeT.den := l.filter fun x => decide (x.1 <= day)
theorem come_upto {c : Nat -> ChC} {day : Int} {l : List changeT.den} (hc : ∀ k x, l[k]? = some x -> (c k).p 0 = x.1) : (comeN c day l.length).map (fun k => l.getD k changeT.dflt) = uptoB day l := by
 have hl : l = (List.range l.length).map (fun k => l.getD k changeT.dflt) := by
  apply List.ext_getElem
  ·simp
  ·intro i h1 h2
   simp [List.getD_eq_getElem?_getD, List.getElem?_eq_getElem h1]
 unfold uptoB comeN
 conv => rhs; rw [hl]
 rw [List.filter_map]
 congr 1
 apply List.filter_congr
 intro k hk
 have hk' : k < l.length := List.mem_range.1 hk
 have h1 := hc k l[k] (List.getElem?_eq_getElem hk')
 simp only [Function.comp_apply, List.getD_eq_getElem?_getD, List.getElem?_eq_getElem hk', Option.getD_some]
 rw [h1]
set_option maxRecDepth 100000 in
set_option maxHeartbeats 1000000 in
theorem collect_in (n : Nat) (hn : 3 <= n) (c : Nat -> ChC) (F : Nat -> Prop) (y : Nat -> changeT.den) (len : Nat) (hlen : len <= 1000000) (gf : Nat) (lb : Array Value) (eg : ∀ args w, (callFunc gf args).run Tryz.prog w = .ok (.enter gf args) w) (w : World) (hF : ∀ q, F q -> q < w.heap.size) (S : List (Fin len × SlT) -> Prop)
  (hseq : ∀ w0, Below w.heap.size w w0 -> SeqE Fence.wide (n - 1 - 1) Tryz.prog gf lb (fun x : Fin len × SlT => #[chgV c x]) (ComeE c F y) (Below w.heap.size) S len w0) :
  CallsIn Fence.wide n Tryz.prog 101 #[.func (.func gf) #[] lb] w fun e w' => ∃ v xs F', e = .returned v /\ S xs /\ Below w.heap.size w w' /\
   RepT w' F' (.sl changeT) (xs.map fun x => y x.1.1) (fun _ u => u = v) /\ ∀ q, F' q -> (F q ∨ w.heap.size <= q) /\ q < w'.heap.size := by
 refine callsIn_of_wp Tryz.func101 rfl trivial ?_ rfl
 simp only [Tryz.ntmps101, List.size_toArray, List.length_cons, List.length_nil, Nat.reduceAdd, Nat.reduceSub, Array.replicate_succ, Array.replicate_zero, List.push_toArray, List.append_toArray, List.nil_append, List.cons_append]
 gi_wp2
 refine ⟨trivial, fun _ => by omega, ?_⟩
 refine (appSeq_in (n - 1) (by omega) c F y len hlen gf lb eg w hF S hseq).mono ?_
 rintro e w' ⟨v, xs, F', rfl, hS, hb, hr, hq⟩
 gi_wp2
 go_ret
 exact ⟨v, xs, F', rfl, hS, hb, hr, hq⟩
theorem upto1_seq (n : Nat) (hn : 1 <= n) {w : World} {F : Nat -> Prop} (hF : ∀ q, F q -> q < w.heap.size) {l : List changeT.den} {v : Value} {day : Int} {Bh oh Bd od : Nat} (hBh : Bh < w.heap.size) (hBd : Bd < w.heap.size) (hv : w.cell? ⟨Bh, oh + 9, none⟩ = some v) (hday : w.cell? ⟨Bd, od, none⟩ = some (.int .i64 day)) (hl : l.length <= 1000000) (hfew : ∀ x ∈ l, x.2.2.2.2.1.length <= 1000000)
  {A : Option Addr} {cap b off : Nat} {c : Nat -> ChC} (e0 : v = .slice A l.length cap) (hA : 0 < l.length -> A = some ⟨b, off, none⟩ /\ F b) (hc : ∀ k j u, k < l.length -> (carr (c k))[j]? = some u -> w.cell? ⟨b, off + (k * 9 + j), none⟩ = some u)
  (hx : ∀ k x, l[k]? = some x -> (c k).p 0 = x.1 /\ RepT w F (.sl coverT) x.2.2.2.2.1 (fun _ u => u = .slice (c k).A (c k).l (c k).c) /\
    ∀ (s : SlT) (Y : World) (F2 : Nat -> Prop), RepT Y F2 (.sl coverT) x.2.2.2.2.1 (fun _ u => u = .slice s.1 s.2.1 s.2.2) -> RepV Y F2 changeT x (cagg ((c k).set s)))
  (w0 : World) (hw0 : Below w.heap.size w w0) :
  SeqE Fence.wide n Tryz.prog 139 #[.pointer (some ⟨Bh, oh, none⟩), .pointer (some ⟨Bd, od, none⟩)] (fun x : Fin l.length × SlT => #[chgV c x]) (ComeE c F fun k => l.getD k changeT.dflt) (Below w.heap.size) (fun xs => xs.map (fun x => x.1.1) = comeN c day l.length) l.length w0 := by
 intro lp J W hW hJ hY h0
 have hwW : Below w.heap.size w W := hw0.trans (hW.mono hw0.size)
 refine upto1_in n hn lp Bh oh Bd od w.heap.size b off l.length cap day c hl A (fun h => ⟨(hA h).1, hF b (hA h).2⟩) (ComeE c F fun k => l.getD k changeT.dflt) J (fun pre X Y hj hb => abide_below hJ hj hb) W hwW.size ?_ ?_
  ((World.cell?_of_block (hwW.block Bh hBh)).trans (hv.trans (by rw [e0]))) ((World.cell?_of_block (hwW.block Bd hBd)).trans hday) (fun k j u hk hj => (World.cell?_of_block (hwW.block b (hF _ (hA (by omega)).2))).trans (hc k j u hk hj)) h0
 ·intro k X hX
  have hk : l[k.1]? = some l[k.1] := List.getElem?_eq_getElem k.2
  obtain ⟨_, hr, hset⟩ := hx k.1 _ hk
  refine (clone_calls hF (hwW.trans hX.1) hr (hfew _ (List.getElem_mem k.2))).mono ?_
  rintro e w' ⟨s, rfl, hb, F', hr2, hq⟩
  refine ⟨s, rfl, hb, fun Bx X0 Y h1 h2 h3 h4 => ⟨F', ?_, fun q hq' => ?_⟩⟩
  ·have hg : (l.getD k.1 changeT.dflt) = l[k.1] := by rw [List.getD_eq_getElem?_getD, hk]; rfl
   show RepV Y F' changeT (l.getD k.1 changeT.dflt) (chgV c (k, s))
   rw [hg]
   refine hset s Y F' (RepT.mono (t := .sl coverT) (fun _ h => h) (fun q hq' => h4 q fun e => ?_) (fun _ _ _ h => h) hr2)
   rcases (hq q hq').1 with h | h
   ·have := hF q h
    omega
   ·omega
  ·obtain ⟨a1, arr, ty, p, hcc⟩ := hq q hq'
   refine ⟨a1.elim .inl fun h => .inr (Nat.le_trans h3 h), arr, ty, p, (h4 q fun e => ?_).trans hcc⟩
   rcases a1 with h | h
   ·have := hF q h
    omega
   ·omega
 ·intro pre x X0 X hj hb hE hlt
  obtain ⟨fn, tmps, assign, body, hy, hR⟩ := hY pre x X0 X hj hb hE hlt
  refine ⟨fn, tmps, assign, body, hy, hR.mono ?_⟩
  rintro e W' ⟨rfl, hj2, hb2⟩
  exact ⟨rfl, hj2, hb2, hb2.block _ hBh, hb2.block _ hBd⟩
theorem collect_calls {w : World} {F : Nat -> Prop} (hF : ∀ q, F q -> q < w.heap.size) {l : List changeT.den} {v : Value} {day : Int} {Bh Bd : Nat} (hBh : Bh < w.heap.size) (hBd : Bd < w.heap.size) (hv : w.cell? ⟨Bh, 9, none⟩ = some v) (hr : RepT w F (.sl changeT) l (fun _ u => u = v)) (hday : w.cell? ⟨Bd, 0, none⟩ = some (.int .i64 day))
  (hl : l.length <= 1000000) (hfew : ∀ x ∈ l, x.2.2.2.2.1.length <= 1000000) :
  Calls Tryz.prog 101 #[.func (.func 139) #[] #[.pointer (some ⟨Bh, 0, none⟩), .pointer (some ⟨Bd, 0, none⟩)]] w fun e w' => ∃ u F', e = .returned u /\ Below w.heap.size w w' /\
   RepT w' F' (.sl changeT) (uptoB day l) (fun _ u' => u' = u) /\ ∀ q, F' q -> (F q ∨ w.heap.size <= q) /\ q < w'.heap.size := by
 obtain ⟨A, cap, b, off, c, e0, hA, hc, hx⟩ := chgs_cells hr
 refine (callsIn_wide.1 (collect_in 4 (by omega) c F (fun k => l.getD k changeT.dflt) l.length hl 139 _ (enters_of Tryz.func139 (by kernel_rfl) rfl) w hF (fun xs => xs.map (fun x => x.1.1) = comeN c day l.length)
  (fun w0 hw0 => upto1_seq 2 (by omega) hF hBh hBd (oh := 0) hv hday hl hfew e0 hA hc hx w0 hw0))).mono ?_
 rintro e w' ⟨u, xs, F', rfl, hS, hb, hr2, hq⟩
 refine ⟨u, F', rfl, hb, ?_, hq⟩
 have : (xs.map fun x => l.getD x.1.1 changeT.dflt) = uptoB day l := by
  rw [← come_upto (c := c) fun k x h => (hx k x h).1, ← hS, List.map_map]
  rfl
 rw [← this]
 exact hr2
end Go.Proofs.YtplkgghjldndkaaGreat
namespace Go.Proofs.YtplkgghjldndkaaGreat
open Go Go.Ab Go.RowKit Go.Proofs
abbrev cmpT : PT := .pf [i64, i64] [i64]
def ltOf (g : cmpT.den) (x y : Int) : Bool := decide ((g.1 (x, y, ())).1 < 0)
def DomOf (g : cmpT.den) (l : List Int) : Prop := ∀ x ∈ l, ∀ y ∈ l, g.2 (x, y, ())
theorem DomOf.sub {g : cmpT.den} {l s : List Int} (h : DomOf g l) (hs : ∀ x ∈ s, x ∈ l) : DomOf g s := fun x hx y hy => h x (hs x hx) y (hs y hy)
theorem half_nat {i j : Nat} (h : i + j <= 9223372036854775807) : IntKind.i64.wrap ((IntKind.u64.wrap (IntKind.i64.wrap ((i : Int) + j))).fdiv (2 ^ min (Int.toNat 1) IntKind.u64.bits)) = ((i + j) / 2 : Nat) := by
 have h1 : IntKind.i64.wrap ((i : Int) + j) = (i : Int) + j := IntWalk.i64_in _ (by omega)
 have h2 : IntKind.u64.wrap ((i : Int) + j) = (i : Int) + j := IntWalk.u64_in _ (by omega)
 have h3 : (2 : Int) ^ min (Int.toNat 1) IntKind.u64.bits = 2 := by decide
 rw [h1, h2, h3, Int.fdiv_eq_ediv_of_nonneg _ (by decide), IntWalk.i64_in _ (by omega)]
 omega
theorem add_nat {i j : Nat} (h : i + j <= 9223372036854775807) : IntKind.i64.wrap ((i : Int) + j) = (i + j : Nat) := by
 rw [IntWalk.i64_in _ (by omega)]
 omega
theorem succ_nat {i : Nat} (h : i + 1 <= 9223372036854775807) : IntKind.i64.wrap ((i : Int) + 1) = (i + 1 : Nat) := by
 rw [IntWalk.i64_in _ (by omega)]
 omega
theorem sub_nat {i j : Nat} (h : j <= i) (h2 : i <= 9223372036854775807) : IntKind.i64.wrap ((i : Int) - j) = (i - j : Nat) := by
 rw [IntWalk.i64_in _ (by omega)]
 omega
theorem pred_nat {i : Nat} (h : 1 <= i) (h2 : i <= 9223372036854775807) : IntKind.i64.wrap ((i : Int) - 1) = (i - 1 : Nat) := by
 rw [IntWalk.i64_in _ (by omega)]
 omega
theorem swapL_length {l : List Int} {i j : Nat} : (swapL l 0 i j).length = l.length := by simp [swapL]
theorem swapL_mem {l : List Int} {i j : Nat} (hi : i < l.length) (hj : j < l.length) {x : Int} (h : x ∈ swapL l 0 i j) : x ∈ l := by
 unfold swapL at h
 have h1 : l.getD i 0 ∈ l := getD_mem hi
 have h2 : l.getD j 0 ∈ l := getD_mem hj
 rcases List.mem_or_eq_of_mem_set h with h | rfl
 ·rcases List.mem_or_eq_of_mem_set h with h | rfl
  ·exact h
  ·exact h2
 ·exact h1
abbrev pt_insI : Pt := ⟨53, 2, ⟨[(1, .d i64), (2, .d i64), (3, cmpT), (8, .d i64), (9, .d i64)], [.al 10000 0, .o 0 3 i64]⟩, ⟨[(1, .d i64), (2, .d i64), (3, cmpT), (8, .d i64)], [.al 10000 0, .o 0 3 i64]⟩, ⟨[], []⟩⟩
noncomputable def insCode : Code := ((Go.Ab.loopB (loopF Tryz.f159 0) 0).getD .skip)
noncomputable def CI0 : Cx := cx [] []
theorem CI0_ok : CxOK Tryz.prog CI0 := cx_ok mixed trivial trivial
def fr_insI (x : pt_insI.M.X) : Fr pt_insI.Out :=
 let a := x.1.1; let j := x.1.2.2.2.2.1; let g := x.1.2.2.1; let l := x.2.1
 Fr.need (decide (j > a) = true -> 0 <= j /\ j < l.length)
  (Fr.need (decide (j > a) = true -> j.toNat < l.length)
   (Fr.need (decide (j > a) = true -> 0 <= IntKind.i64.wrap (j - 1) /\ IntKind.i64.wrap (j - 1) < l.length)
    (Fr.need (decide (j > a) = true -> (IntKind.i64.wrap (j - 1)).toNat < l.length)
     (Fr.need (decide (j > a) = true -> g.2 (l.getD j.toNat i64.dflt, l.getD (IntKind.i64.wrap (j - 1)).toNat i64.dflt, ()))
      (Fr.br (bif decide (j > a) then decide ((g.1 (l.getD j.toNat i64.dflt, l.getD (IntKind.i64.wrap (j - 1)).toNat i64.dflt, ())).1 < 0) else false)
       (Fr.need (0 <= IntKind.i64.wrap (j - 1) /\ IntKind.i64.wrap (j - 1) < l.length)
        (Fr.need ((IntKind.i64.wrap (j - 1)).toNat < l.length)
         (Fr.need (0 <= j /\ j < l.length)
          (Fr.need (j.toNat < l.length)
           (Fr.need (0 <= j /\ j < l.length)
            (Fr.need (j.toNat < l.length)
             (Fr.need (0 <= IntKind.i64.wrap (j - 1) /\ IntKind.i64.wrap (j - 1) < (l.set j.toNat (l.getD (IntKind.i64.wrap (j - 1)).toNat i64.dflt)).length)
              (Fr.need ((IntKind.i64.wrap (j - 1)).toNat < (l.set j.toNat (l.getD (IntKind.i64.wrap (j - 1)).toNat i64.dflt)).length)
               (Fr.val (Rd.next ((a, x.1.2.1, (g.1, g.2), x.1.2.2.2.1, IntKind.i64.wrap (j - 1), ()),
                ((l.set j.toNat (l.getD (IntKind.i64.wrap (j - 1)).toNat i64.dflt)).set (IntKind.i64.wrap (j - 1)).toNat (l.getD j.toNat i64.dflt), ()))))))))))))
       (Fr.val (Rd.out ((a, x.1.2.1, (g.1, g.2), x.1.2.2.2.1, ()), (l, ())))))))))
theorem sem_insI : Does Tryz.prog insCode pt_insI.M pt_insI fr_insI :=
 Does.of_run CI0_ok (bs := 0) (Λ := lam0) rfl rfl rfl (fun E => lam0_ok _ 0) (fun x => by kernel_rfl)
structure InvInsI (a j : Int) (g : cmpT.den) (l : List Int) : Prop where
 a0 : 0 <= a
 aj : a <= j
 jl : j < l.length
 big : (l.length : Int) <= 9223372036854775807
 dom : DomOf g l
def FInsI (x : pt_insI.M.X) : Fr pt_insI.Out :=
 Fr.need (InvInsI x.1.1 x.1.2.2.2.2.1 x.1.2.2.1 x.2.1) (Fr.val (Rd.out ((x.1.1, x.1.2.1, x.1.2.2.1, x.1.2.2.2.1, ()), (insDown (ltOf x.1.2.2.1) 0 x.1.1.toNat x.1.2.2.2.2.1.toNat x.2.1, ()))))
theorem lawInsI (a b i j : Int) (g : cmpT.den) (l : List Int) (hinv : InvInsI a j g l) (Q : pt_insI.Out -> Prop)
  (hq : Q (Rd.out ((a, b, g, i, ()), (insDown (ltOf g) 0 a.toNat j.toNat l, ())))) : (fr_insI ((a, b, g, i, j, ()), (l, ()))).satP fun
   | .next x' => InvInsI x'.1.1 x'.1.2.2.2.2.1 x'.1.2.2.1 x'.2.1 /\ x'.1.2.2.2.2.1.toNat < j.toNat /\ (FInsI x').satP Q
   | .out y => Q (.out y)
   | .back z => Q (.back z)
   | .pan p => Q (.pan p) := by
 obtain ⟨h0, h1, h2, h3, h4⟩ := hinv
 obtain ⟨a', rfl⟩ : ∃ n : Nat, a = n := ⟨a.toNat, by omega⟩
 obtain ⟨j', rfl⟩ : ∃ n : Nat, j = n := ⟨j.toNat, by omega⟩
 dsimp only [fr_insI, Fr.satP, Ty.den, PT.den]
 by_cases hj : a' < j'
 ·obtain ⟨k, rfl⟩ : ∃ k, j' = k + 1 := ⟨j' - 1, by omega⟩
  have hkl : k + 1 < l.length := by omega
  have hw : IntKind.i64.wrap (((k + 1 : Nat) : Int) - 1) = (k : Nat) := by rw [pred_nat (by omega) (by omega)]; rfl
  have hd : decide (((k + 1 : Nat) : Int) > (a' : Int)) = true := decide_eq_true (by omega)
  have t1 : ((k + 1 : Nat) : Int).toNat = k + 1 := rfl
  have t2 : ((k : Nat) : Int).toNat = k := rfl
  rw [hw, hd, t1, t2]
  simp only [List.length_set]
  refine ⟨fun _ => ⟨by omega, by omega⟩, fun _ => by omega, fun _ => ⟨by omega, by omega⟩, fun _ => by omega, fun _ => h4 _ (getD_mem hkl) _ (getD_mem (by omega)), fun hc => ?_, fun hc => ?_⟩
  ·refine ⟨⟨by omega, by omega⟩, by omega, ⟨by omega, by omega⟩, by omega, ⟨by omega, by omega⟩, by omega, ⟨by omega, by omega⟩, by omega, ?_⟩
   have hI : InvInsI a' k g (swapL l 0 (k + 1) k) := ⟨by omega, by omega, by rw [swapL_length]; omega, by rw [swapL_length]; omega, h4.sub fun x hx => swapL_mem hkl (by omega) hx⟩
   refine ⟨hI, by omega, hI, ?_⟩
   simp only [Int.toNat_natCast, insDown] at hq ⊢
   rw [if_pos (by omega)] at hq
   have hc' : ltOf g (l.getD (k + 1) 0) (l.getD k 0) = true := hc
   rw [hc'] at hq
   exact hq
  ·simp only [Int.toNat_natCast, insDown] at hq
   rw [if_pos (by omega)] at hq
   have hc' : ltOf g (l.getD (k + 1) 0) (l.getD k 0) = false := hc
   rw [hc'] at hq
   exact hq
 ·have hd : decide ((j' : Int) > (a' : Int)) = false := decide_eq_false (by omega)
  rw [hd]
  refine ⟨fun h => (by cases h), fun h => (by cases h), fun h => (by cases h), fun h => (by cases h), fun h => (by cases h), fun hc => (by cases hc), fun _ => ?_⟩
  have hx : insDown (ltOf g) 0 a' j' l = l := by
   cases j' with
   | zero => rfl
   | succ k => simp only [insDown]; rw [if_neg (by omega)]
  simp only [Int.toNat_natCast, hx] at hq
  exact hq
theorem loopInsI : Does Tryz.prog (.loop insCode) pt_insI.M pt_insI FInsI := by
 refine Does.loop (n := 53) (id := 2) sem_insI (inv := fun x => InvInsI x.1.1 x.1.2.2.2.2.1 x.1.2.2.1 x.2.1) (μ := fun x => x.1.2.2.2.2.1.toNat) ?_ (fun x Q h => h.1)
 rintro ⟨⟨a, b, g, i, j, _⟩, ⟨l, _⟩⟩ hinv Q hq
 exact lawInsI a b i j g l hinv Q hq.2
abbrev pt_insO : Pt := ⟨53, 0, ⟨[(1, .d i64), (2, .d i64), (3, cmpT), (8, .d i64)], [.al 10000 0, .o 0 3 i64]⟩, ⟨[], [.al 10000 0, .o 0 3 i64]⟩, ⟨[], []⟩⟩
noncomputable def ΛInsI : Nat -> St -> Option Tr := fun _ => pt_insI.han CI0.Γ pt_insI.M FInsI
def fr_insO (x : pt_insO.M.X) : Fr pt_insO.Out :=
 let a := x.1.1; let b := x.1.2.1; let g := x.1.2.2.1; let i := x.1.2.2.2.1; let l := x.2.1
 Fr.br (decide (i < b))
  (Fr.need (InvInsI a i (g.1, g.2) l) (Fr.val (Rd.next ((a, b, (g.1, g.2), IntKind.i64.wrap (i + 1), ()), (insDown (ltOf (g.1, g.2)) 0 a.toNat i.toNat l, ())))))
  (Fr.val (Rd.out ((), (l, ()))))
theorem lam_insI {E : Env} : LamOK Tryz.prog E ΛInsI (loopF Tryz.f159 0) 0 :=
 lam1 (b := insCode) (by kernel_rfl) (by kernel_rfl) (Does.han CI0_ok rfl loopInsI)
theorem sem_insO : Does Tryz.prog (loopF Tryz.f159 0) pt_insO.M pt_insO fr_insO :=
 Does.of_run CI0_ok (bs := 0) (Λ := ΛInsI) rfl rfl rfl (fun E => lam_insI) (fun x => by kernel_rfl)
theorem insDown_mem {lt : Int -> Int -> Bool} {a : Nat} : (j : Nat) -> {l : List Int} -> j < l.length -> ∀ x ∈ insDown lt 0 a j l, x ∈ l
 | 0, _, _, _, h => h
 | j + 1, l, hj, x, h => by
  simp only [insDown] at h
  split at h
  ·cases hc : lt (l.getD (j + 1) 0) (l.getD j 0) with
   | true =>
    rw [hc] at h
    exact swapL_mem hj (by omega) (insDown_mem j (by rw [swapL_length]; omega) x h)
   | false =>
    rw [hc] at h
    exact h
  ·exact h
theorem insDown_length {lt : Int -> Int -> Bool} {a : Nat} : (j : Nat) -> {l : List Int} -> (insDown lt 0 a j l).length = l.length
 | 0, _ => rfl
 | j + 1, l => by
  simp only [insDown]
  split
  ·cases lt (l.getD (j + 1) 0) (l.getD j 0) with
   | true => rw [cond_true, insDown_length j, swapL_length]
   | false => rfl
  ·rfl
structure InvInsO (a b i : Int) (g : cmpT.den) (l : List Int) : Prop where
 a0 : 0 <= a
 ai : a < i
 bl : b <= l.length
 il : i <= 9223372036854775807
 big : (l.length : Int) <= 9223372036854775807
 dom : DomOf g l
def FInsO (x : pt_insO.M.X) : Fr pt_insO.Out :=
 Fr.need (InvInsO x.1.1 x.1.2.1 x.1.2.2.2.1 x.1.2.2.1 x.2.1) (Fr.val (Rd.out ((), (insFrom (ltOf x.1.2.2.1) 0 x.1.1.toNat (x.1.2.1 - x.1.2.2.2.1).toNat x.1.2.2.2.1.toNat x.2.1, ()))))
theorem lawInsO (a b i : Int) (g : cmpT.den) (l : List Int) (hinv : InvInsO a b i g l) (Q : pt_insO.Out -> Prop)
  (hq : Q (Rd.out ((), (insFrom (ltOf g) 0 a.toNat (b - i).toNat i.toNat l, ())))) : (fr_insO ((a, b, g, i, ()), (l, ()))).satP fun
   | .next x' => InvInsO x'.1.1 x'.1.2.1 x'.1.2.2.2.1 x'.1.2.2.1 x'.2.1 /\ (x'.1.2.1 - x'.1.2.2.2.1).toNat < (b - i).toNat /\ (FInsO x').satP Q
   | .out y => Q (.out y)
   | .back z => Q (.back z)
   | .pan p => Q (.pan p) := by
 obtain ⟨h0, h1, h2, h3, h4, h5⟩ := hinv
 dsimp only [fr_insO, Fr.satP, Ty.den, PT.den]
 refine ⟨fun hi => ?_, fun hi => ?_⟩
 ·have hlt : i < b := of_decide_eq_true hi
  have hw : IntKind.i64.wrap (i + 1) = i + 1 := IntWalk.i64_in _ (by omega)
  have hI : InvInsO a b (i + 1) g (insDown (ltOf g) 0 a.toNat i.toNat l) := ⟨h0, by omega, by rw [insDown_length]; exact h2, by omega, by rw [insDown_length]; exact h4, h5.sub fun x hx => insDown_mem _ (by omega) x hx⟩
  refine ⟨⟨h0, by omega, by omega, h4, h5⟩, ?_⟩
  rw [hw]
  refine ⟨hI, by omega, hI, ?_⟩
  have e1 : (b - i).toNat = (b - (i + 1)).toNat + 1 := by omega
  have e2 : (i + 1).toNat = i.toNat + 1 := by omega
  rw [e1] at hq
  simp only [insFrom] at hq
  dsimp only
  rw [e2]
  exact hq
 ·have hge : ¬ i < b := of_decide_eq_false hi
  have e1 : (b - i).toNat = 0 := by omega
  rw [e1] at hq
  exact hq
theorem loopInsO : Does Tryz.prog (.loop (loopF Tryz.f159 0)) pt_insO.M pt_insO FInsO := by
 refine Does.loop (n := 53) (id := 0) sem_insO (inv := fun x => InvInsO x.1.1 x.1.2.1 x.1.2.2.2.1 x.1.2.2.1 x.2.1) (μ := fun x => (x.1.2.1 - x.1.2.2.2.1).toNat) ?_ (fun x Q h => h.1)
 rintro ⟨⟨a, b, g, i, _⟩, ⟨l, _⟩⟩ hinv Q hq
 exact lawInsO a b i g l hinv Q hq.2
noncomputable def ΛInsO : Nat -> St -> Option Tr := fun _ => pt_insO.han CI0.Γ pt_insO.M FInsO
def OrdOf (g : cmpT.den) (l : List Int) : Prop := DomOf g l /\ ∃ key : Int -> Int, LtK (ltOf g) key l
theorem OrdOf.sub {g : cmpT.den} {l s : List Int} (h : OrdOf g l) (hs : ∀ x ∈ s, x ∈ l) : OrdOf g s := by
 obtain ⟨h1, key, h2⟩ := h
 exact ⟨h1.sub hs, key, h2.sub hs⟩
noncomputable def mInsert : Mt := ⟨3, i64, [.d i64, .d i64, cmpT], [], fun l x => (partB (ltOf x.2.2.1) x.1.toNat x.2.1.toNat l, ()), fun l x => [0 <= x.1, x.1 <= x.2.1, x.2.1 <= l.length, (l.length : Int) <= 4611686018427387903, OrdOf x.2.2.1 l]⟩
def fr_insert (l : List Int) (x : denP [.d i64, .d i64, cmpT]) : Fr (List Int × denL []) :=
 Fr.need (InvInsO x.1 x.2.1 (IntKind.i64.wrap (x.1 + 1)) (x.2.2.1.1, x.2.2.1.2) l)
  (Fr.val (insFrom (ltOf (x.2.2.1.1, x.2.2.1.2)) 0 x.1.toNat (x.2.1 - IntKind.i64.wrap (x.1 + 1)).toNat (IntKind.i64.wrap (x.1 + 1)).toNat l, ()))
theorem insert_ok : SoundMt Tryz.prog 159 mInsert :=
 convMt (mt_sound CI0_ok (Λ := ΛInsO) (fn := Tryz.f159) (fr := fr_insert) (e := 3) (T := i64) (ps := [.d i64, .d i64, cmpT]) (rs := []) (0, 0, (fun _ => (0, ()), fun _ => True), ()) (by kernel_rfl) rfl rfl
  (fun c E hc => lam1f hc (by kernel_rfl) (b := loopF Tryz.f159 0) (by kernel_rfl) (Does.han CI0_ok rfl loopInsO)) (fun l x => by kernel_rfl)) _ _ fun w F l xs vs _ _ _ hok => by
  obtain ⟨a, b, g, rfl⟩ : ∃ (a b : Int) (g : cmpT.den), xs = (a, b, g, ()) := ⟨xs.1, xs.2.1, xs.2.2.1, rfl⟩
  have hok' : (0 : Int) <= a /\ (a : Int) <= b /\ (b : Int) <= (List.length (α := Int) l : Int) /\ (List.length (α := Int) l : Int) <= 4611686018427387903 /\ OrdOf g l := hok
  obtain ⟨h1, h2, h3, hlen, h4, key, h5⟩ := hok'
  have hw : IntKind.i64.wrap (a + 1) = a + 1 := IntWalk.i64_in _ (by omega)
  dsimp only [fr_insert, Fr.ok, Fr.get, Ty.den, PT.den]
  rw [hw]
  refine ⟨⟨⟨h1, by omega, h3, by omega, by omega, h4⟩, trivial⟩, ?_⟩
  have := insFrom_part (key := key) (lt := ltOf g) (d := (0 : Int)) (a := a.toNat) (b := b.toNat) (l := l) (by omega) (by omega) h5
  show (insFrom (ltOf g) 0 a.toNat (b - (a + 1)).toNat (a + 1).toNat l, ()) = (partB (ltOf g) a.toNat b.toNat l, ())
  rw [← this, show (b - (a + 1)).toNat = b.toNat - (a.toNat + 1) by omega, show (a + 1).toNat = a.toNat + 1 by omega]
abbrev pt_swp : Pt := ⟨38, 0, ⟨[(1, .d i64), (2, .d i64), (3, .d i64), (10, .d i64)], [.al 10000 0, .o 0 3 i64]⟩, ⟨[], [.al 10000 0, .o 0 3 i64]⟩, ⟨[], []⟩⟩
def fr_swp (x : pt_swp.M.X) : Fr pt_swp.Out :=
 let a := x.1.1; let b := x.1.2.1; let n := x.1.2.2.1; let i := x.1.2.2.2.1; let l := x.2.1
 Fr.br (decide (i < n))
  (Fr.need (0 <= IntKind.i64.wrap (b + i) /\ IntKind.i64.wrap (b + i) < l.length)
   (Fr.need ((IntKind.i64.wrap (b + i)).toNat < l.length)
    (Fr.need (0 <= IntKind.i64.wrap (a + i) /\ IntKind.i64.wrap (a + i) < l.length)
     (Fr.need ((IntKind.i64.wrap (a + i)).toNat < l.length)
      (Fr.need (0 <= IntKind.i64.wrap (a + i) /\ IntKind.i64.wrap (a + i) < l.length)
       (Fr.need ((IntKind.i64.wrap (a + i)).toNat < l.length)
        (Fr.need (0 <= IntKind.i64.wrap (b + i) /\ IntKind.i64.wrap (b + i) < (l.set (IntKind.i64.wrap (a + i)).toNat (l.getD (IntKind.i64.wrap (b + i)).toNat i64.dflt)).length)
         (Fr.need ((IntKind.i64.wrap (b + i)).toNat < (l.set (IntKind.i64.wrap (a + i)).toNat (l.getD (IntKind.i64.wrap (b + i)).toNat i64.dflt)).length)
          (Fr.val (Rd.next ((a, b, n, IntKind.i64.wrap (i + 1), ()),
           ((l.set (IntKind.i64.wrap (a + i)).toNat (l.getD (IntKind.i64.wrap (b + i)).toNat i64.dflt)).set (IntKind.i64.wrap (b + i)).toNat (l.getD (IntKind.i64.wrap (a + i)).toNat i64.dflt), ()))))))))))))
  (Fr.val (Rd.out ((), (l, ()))))
theorem sem_swp : Does Tryz.prog (loopF Tryz.f172 0) pt_swp.M pt_swp fr_swp :=
 Does.of_run CI0_ok (bs := 0) (Λ := lam0) rfl rfl rfl (fun E => lam0_ok _ 0) (fun x => by kernel_rfl)
structure InvSwp (a b n i : Int) (l : List Int) : Prop where
 a0 : 0 <= a
 b0 : 0 <= b
 i0 : 0 <= i
 al : a + n <= l.length
 bl : b + n <= l.length
 big : (l.length : Int) <= 9223372036854775807
def FSwp (x : pt_swp.M.X) : Fr pt_swp.Out :=
 Fr.need (InvSwp x.1.1 x.1.2.1 x.1.2.2.1 x.1.2.2.2.1 x.2.1) (Fr.val (Rd.out ((), (swapR 0 (x.1.2.2.1 - x.1.2.2.2.1).toNat (x.1.1 + x.1.2.2.2.1).toNat (x.1.2.1 + x.1.2.2.2.1).toNat x.2.1, ()))))
theorem lawSwp (a b n i : Int) (l : List Int) (hinv : InvSwp a b n i l) (Q : pt_swp.Out -> Prop)
  (hq : Q (Rd.out ((), (swapR 0 (n - i).toNat (a + i).toNat (b + i).toNat l, ())))) : (fr_swp ((a, b, n, i, ()), (l, ()))).satP fun
   | .next x' => InvSwp x'.1.1 x'.1.2.1 x'.1.2.2.1 x'.1.2.2.2.1 x'.2.1 /\ (x'.1.2.2.1 - x'.1.2.2.2.1).toNat < (n - i).toNat /\ (FSwp x').satP Q
   | .out y => Q (.out y)
   | .back z => Q (.back z)
   | .pan p => Q (.pan p) := by
 obtain ⟨h0, h1, h2, h3, h4, h5⟩ := hinv
 dsimp only [fr_swp, Fr.satP, Ty.den, PT.den]
 refine ⟨fun hi => ?_, fun hi => ?_⟩
 ·have hlt : i < n := of_decide_eq_true hi
  have w1 : IntKind.i64.wrap (b + i) = b + i := IntWalk.i64_in _ (by omega)
  have w2 : IntKind.i64.wrap (a + i) = a + i := IntWalk.i64_in _ (by omega)
  have w3 : IntKind.i64.wrap (i + 1) = i + 1 := IntWalk.i64_in _ (by omega)
  rw [w1, w2, w3]
  simp only [List.length_set]
  refine ⟨⟨by omega, by omega⟩, by omega, ⟨by omega, by omega⟩, by omega, ⟨by omega, by omega⟩, by omega, ⟨by omega, by omega⟩, by omega, ?_⟩
  have hI : InvSwp a b n (i + 1) (swapL l 0 (a + i).toNat (b + i).toNat) := ⟨h0, h1, by omega, by rw [swapL_length]; omega, by rw [swapL_length]; omega, by rw [swapL_length]; omega⟩
  refine ⟨hI, by omega, hI, ?_⟩
  rw [show (n - i).toNat = (n - (i + 1)).toNat + 1 by omega] at hq
  simp only [swapR] at hq
  dsimp only
  rw [show (a + (i + 1)).toNat = (a + i).toNat + 1 by omega, show (b + (i + 1)).toNat = (b + i).toNat + 1 by omega]
  exact hq
 ·have hge : ¬ i < n := of_decide_eq_false hi
  rw [show (n - i).toNat = 0 by omega] at hq
  exact hq
theorem loopSwp : Does Tryz.prog (.loop (loopF Tryz.f172 0)) pt_swp.M pt_swp FSwp := by
 refine Does.loop (n := 38) (id := 0) sem_swp (inv := fun x => InvSwp x.1.1 x.1.2.1 x.1.2.2.1 x.1.2.2.2.1 x.2.1) (μ := fun x => (x.1.2.2.1 - x.1.2.2.2.1).toNat) ?_ (fun x Q h => h.1)
 rintro ⟨⟨a, b, n, i, _⟩, ⟨l, _⟩⟩ hinv Q hq
 exact lawSwp a b n i l hinv Q hq.2
noncomputable def ΛSwp : Nat -> St -> Option Tr := fun _ => pt_swp.han CI0.Γ pt_swp.M FSwp
noncomputable def mSwap : Mt := ⟨3, i64, [.d i64, .d i64, .d i64, cmpT], [], fun l x => (swapR 0 x.2.2.1.toNat x.1.toNat x.2.1.toNat l, ()), fun l x => [0 <= x.1, 0 <= x.2.1, x.1 + x.2.2.1 <= l.length, x.2.1 + x.2.2.1 <= l.length]⟩
def fr_swap (l : List Int) (x : denP [.d i64, .d i64, .d i64, cmpT]) : Fr (List Int × denL []) :=
 Fr.need (InvSwp x.1 x.2.1 x.2.2.1 0 l) (Fr.val (swapR 0 (x.2.2.1 - 0).toNat (x.1 + 0).toNat (x.2.1 + 0).toNat l, ()))
theorem swap_ok : SoundMt Tryz.prog 172 mSwap :=
 convMt (mt_sound CI0_ok (Λ := ΛSwp) (fn := Tryz.f172) (fr := fr_swap) (e := 3) (T := i64) (ps := [.d i64, .d i64, .d i64, cmpT]) (rs := []) (0, 0, 0, (fun _ => (0, ()), fun _ => True), ()) (by kernel_rfl) rfl rfl
  (fun c E hc => lam1f hc (by kernel_rfl) (b := loopF Tryz.f172 0) (by kernel_rfl) (Does.han CI0_ok rfl loopSwp)) (fun l x => by kernel_rfl)) _ _ fun w F l xs vs _ hlen _ hok => by
  obtain ⟨a, b, n, g, rfl⟩ : ∃ (a b n : Int) (g : cmpT.den), xs = (a, b, n, g, ()) := ⟨xs.1, xs.2.1, xs.2.2.1, xs.2.2.2.1, rfl⟩
  have hok' : (0 : Int) <= a /\ (0 : Int) <= b /\ (a : Int) + n <= (List.length (α := Int) l : Int) /\ (b : Int) + n <= (List.length (α := Int) l : Int) := hok
  obtain ⟨h1, h2, h3, h4⟩ := hok'
  have hlen : List.length (α := Int) l <= maxLen := hlen
  simp only [maxLen] at hlen
  refine ⟨⟨⟨h1, h2, Int.le_refl _, h3, h4, by omega⟩, trivial⟩, ?_⟩
  show (swapR 0 (n - 0).toNat (a + 0).toNat (b + 0).toNat l, ()) = (swapR 0 n.toNat a.toNat b.toNat l, ())
  rw [Int.sub_zero, Int.add_zero, Int.add_zero]
end Go.Proofs.YtplkgghjldndkaaGreat
