/-
  An interpreter over the code of a program, proved sound: part F.
-/
import Derived.Test.YtbplccbjgfappaaAbE
import Derived.ScopeJumps
/-
  Sorting by keys, plain: sorted lists with the same elements of each key, in their order, are one; what swaps, insertions, rotations and merges of halves make.
-/
namespace Go.Ab

variable {α : Type} {key : α → Int}

/-- Sorted by keys. -/
def SortK (key : α → Int) (l : List α) : Prop := l.Pairwise fun x y => key x ≤ key y

/-- The same elements of each key, in their order. -/
def SameK (key : α → Int) (l s : List α) : Prop := ∀ k, s.filter (fun x => key x == k) = l.filter (fun x => key x == k)

theorem SameK.refl (l : List α) : SameK key l l := fun _ => rfl
theorem SameK.trans {a b c : List α} (h : SameK key a b) (k : SameK key b c) : SameK key a c := fun n => (k n).trans (h n)
theorem SameK.symm {a b : List α} (h : SameK key a b) : SameK key b a := fun n => (h n).symm
theorem SameK.app {a b c d : List α} (h : SameK key a b) (k : SameK key c d) : SameK key (a ++ c) (b ++ d) := fun n => by simp [h n, k n]

theorem SameK.mem {l s : List α} (h : SameK key l s) {x : α} : x ∈ s ↔ x ∈ l := by
  have := congrArg (x ∈ ·) (h (key x))
  simpa [List.mem_filter] using this

/-- Blocks of unlike keys change places. -/
theorem SameK.swap {a b : List α} (h : ∀ x ∈ a, ∀ y ∈ b, key x ≠ key y) : SameK key (a ++ b) (b ++ a) := fun n => by
  simp only [List.filter_append]
  by_cases ha : ∃ x ∈ a, key x = n
  · obtain ⟨x, hx, hk⟩ := ha
    have hb : b.filter (fun x => key x == n) = [] := by
      rw [List.filter_eq_nil_iff]
      intro y hy
      have := h x hx y hy
      simp
      omega
    rw [hb]
    simp
  · have ha' : a.filter (fun x => key x == n) = [] := by
      rw [List.filter_eq_nil_iff]
      intro y hy hk
      exact ha ⟨y, hy, by simpa using hk⟩
    rw [ha']
    simp

theorem SameK.eq : {s t : List α} → SortK key s → SortK key t → SameK key s t → s = t
  | [], t, _, _, h => by
    cases t with
    | nil => rfl
    | cons y t => have := (h.mem (x := y)).1 (by simp); simp at this
  | x :: s, [], _, _, h => by have := (h.mem (x := x)).2 (by simp); simp at this
  | x :: s, y :: t, hs, ht, h => by
    have hs' := List.pairwise_cons.1 hs
    have ht' := List.pairwise_cons.1 ht
    have hxy : key x ≤ key y := by
      rcases List.mem_cons.1 ((h.mem (x := y)).1 (by simp)) with e | e
      · exact Int.le_of_eq (by rw [e])
      · exact hs'.1 y e
    have hyx : key y ≤ key x := by
      rcases List.mem_cons.1 ((h.mem (x := x)).2 (by simp)) with e | e
      · exact Int.le_of_eq (by rw [e])
      · exact ht'.1 x e
    have hk : key x = key y := by omega
    have h0 := h (key x)
    simp only [List.filter_cons, hk, beq_self_eq_true, if_true, List.cons.injEq] at h0
    obtain ⟨rfl, h0⟩ := h0
    have : s = t := SameK.eq hs'.2 ht'.2 fun n => by
      have := h n
      simp only [List.filter_cons] at this
      split at this
      · simpa using this
      · exact this
    rw [this]

/-! The sorted list, by insertion; 'lt': the truth of 'less'. -/
def insB (lt : α → α → Bool) (x : α) : List α → List α
  | [] => [x]
  | y :: r => if lt y x then y :: insB lt x r else x :: y :: r
def sortB (lt : α → α → Bool) : List α → List α
  | [] => []
  | x :: r => insB lt x (sortB lt r)

theorem insB_perm {lt : α → α → Bool} {x : α} : (l : List α) → (insB lt x l).Perm (x :: l)
  | [] => List.Perm.refl _
  | y :: r => by
    simp only [insB]
    split
    · exact (List.Perm.cons y (insB_perm r)).trans (List.Perm.swap x y r)
    · exact List.Perm.refl _

theorem sortB_perm {lt : α → α → Bool} : (l : List α) → (sortB lt l).Perm l
  | [] => List.Perm.refl _
  | x :: r => (insB_perm _).trans (List.Perm.cons x (sortB_perm r))

theorem sortB_length {lt : α → α → Bool} (l : List α) : (sortB lt l).length = l.length := (sortB_perm l).length_eq
theorem sortB_mem {lt : α → α → Bool} {l : List α} {x : α} : x ∈ sortB lt l ↔ x ∈ l := (sortB_perm l).mem_iff

/-- 'lt' is 'less' by keys, among these. -/
def LtK (lt : α → α → Bool) (key : α → Int) (l : List α) : Prop := ∀ x ∈ l, ∀ y ∈ l, lt x y = decide (key x < key y)

theorem LtK.sub {lt : α → α → Bool} {l s : List α} (h : LtK lt key l) (hs : ∀ x ∈ s, x ∈ l) : LtK lt key s := fun x hx y hy => h x (hs x hx) y (hs y hy)

theorem insB_sort {lt : α → α → Bool} {x : α} : {l : List α} → LtK lt key (x :: l) → SortK key l → SortK key (insB lt x l) ∧ SameK key (x :: l) (insB lt x l)
  | [], _, _ => ⟨List.pairwise_singleton _ _, SameK.refl _⟩
  | y :: r, h, hs => by
    have hs' := List.pairwise_cons.1 hs
    have hl := h y (by simp) x (by simp)
    simp only [insB]
    split
    · rename_i hyx
      rw [hyx] at hl
      have hlt : key y < key x := by simpa using hl.symm
      obtain ⟨h1, h2⟩ := insB_sort (x := x) (h.sub (by intro z hz; simp at hz ⊢; rcases hz with rfl | hz <;> simp [*])) hs'.2
      refine ⟨List.pairwise_cons.2 ⟨fun z hz => ?_, h1⟩, ?_⟩
      · rcases List.mem_cons.1 ((h2.mem).1 hz) with rfl | hz
        · omega
        · exact hs'.1 z hz
      · have h3 : SameK key ([x] ++ [y]) ([y] ++ [x]) := SameK.swap fun a ha b hb => by simp at ha hb; subst ha; subst hb; omega
        have h4 : SameK key (([x] ++ [y]) ++ r) (([y] ++ [x]) ++ r) := h3.app (SameK.refl r)
        have h5 : SameK key ([y] ++ (x :: r)) ([y] ++ insB lt x r) := (SameK.refl [y]).app h2
        exact h4.trans h5
    · rename_i hyx
      have hf : lt y x = false := by simpa using hyx
      rw [hf] at hl
      have hle : key x ≤ key y := by simpa using hl.symm
      exact ⟨List.pairwise_cons.2 ⟨fun z hz => by
        rcases List.mem_cons.1 hz with rfl | hz
        · exact hle
        · exact Int.le_trans hle (hs'.1 z hz), hs⟩, SameK.refl _⟩

theorem sortB_sort {lt : α → α → Bool} : {l : List α} → LtK lt key l → SortK key (sortB lt l) ∧ SameK key l (sortB lt l)
  | [], _ => ⟨List.Pairwise.nil, SameK.refl _⟩
  | x :: r, h => by
    obtain ⟨h1, h2⟩ := sortB_sort (l := r) (h.sub (by intro z hz; simp [hz]))
    obtain ⟨h3, h4⟩ := insB_sort (x := x) (l := sortB lt r) (h.sub (by
      intro z hz
      rcases List.mem_cons.1 hz with rfl | hz
      · simp
      · simp [sortB_mem.1 hz])) h1
    exact ⟨h3, SameK.trans (SameK.app (SameK.refl [x]) h2) h4⟩

/-- What is sorted, and the same, is the sorted list. -/
theorem eq_sortB {lt : α → α → Bool} {l s : List α} (h : LtK lt key l) (hs : SortK key s) (hk : SameK key l s) : s = sortB lt l := by
  obtain ⟨h1, h2⟩ := sortB_sort h
  exact SameK.eq hs h1 (hk.symm.trans h2)

/-! ### Parts of a list -/

/-- A part is sorted in its place. -/
def partB (lt : α → α → Bool) (a b : Nat) (l : List α) : List α := l.take a ++ (sortB lt ((l.take b).drop a) ++ l.drop b)

theorem partB_eq {lt : α → α → Bool} {a b : Nat} {p s q : List α} (ha : p.length = a) (hb : (p ++ s).length = b) : partB lt a b (p ++ (s ++ q)) = p ++ (sortB lt s ++ q) := by
  subst ha hb
  have h1 : (p ++ (s ++ q)).take (p ++ s).length = p ++ s := by rw [← List.append_assoc]; exact List.take_left' rfl
  have h2 : (p ++ (s ++ q)).drop (p ++ s).length = q := by rw [← List.append_assoc]; exact List.drop_left' rfl
  unfold partB
  rw [h1, h2, List.take_left' rfl, List.drop_left' rfl]

theorem split3 {l : List α} {a b : Nat} (hab : a ≤ b) (hb : b ≤ l.length) : ∃ p s q, l = p ++ (s ++ q) ∧ p.length = a ∧ s.length = b - a ∧ q.length = l.length - b :=
  ⟨l.take a, (l.take b).drop a, l.drop b, by
    have h1 : (l.take b).take a = l.take a := by rw [List.take_take, Nat.min_eq_left hab]
    rw [← List.append_assoc, ← h1, List.take_append_drop, List.take_append_drop], by simp; omega, by simp; omega, by simp⟩

def swapL (l : List α) (d : α) (i j : Nat) : List α := (l.set i (l.getD j d)).set j (l.getD i d)

end Go.Ab

/-
  Sorting by keys, plain: the steps of a stable sort by insertions, rotations, and merges of halves.
-/
namespace Go.Ab

section
variable {α : Type} {key : α → Int} {d : α}

theorem getD_mid {p s q : List α} {i : Nat} (h : i < s.length) : (p ++ (s ++ q)).getD (p.length + i) d = s.getD i d := by
  simp [List.getD_eq_getElem?_getD, List.getElem?_append_right, List.getElem?_append_left h]

theorem swap_cons {p r q : List α} {x y : α} {i j : Nat} (hi : i = p.length) (hj : j = p.length + 1 + r.length) : swapL (p ++ (x :: (r ++ (y :: q)))) d i j = p ++ (y :: (r ++ (x :: q))) := by
  subst hi hj
  unfold swapL
  have h1 : (p ++ (x :: (r ++ (y :: q)))).getD (p.length + 1 + r.length) d = y := by
    rw [show p ++ (x :: (r ++ (y :: q))) = (p ++ [x] ++ r) ++ (y :: q) by simp]
    simp only [List.getD_eq_getElem?_getD]
    rw [List.getElem?_append_right (by simp; omega)]
    simp [show p.length + 1 + r.length - (p.length + (r.length + 1)) = 0 by omega]
  have h2 : (p ++ (x :: (r ++ (y :: q)))).getD p.length d = x := by simp [List.getD_eq_getElem?_getD]
  rw [h1, h2]
  have h3 : (p ++ (x :: (r ++ (y :: q)))).set p.length y = p ++ (y :: (r ++ (y :: q))) := by simp
  rw [h3]
  rw [show p ++ (y :: (r ++ (y :: q))) = (p ++ [y] ++ r) ++ (y :: q) by simp, List.set_append_right _ _ (by simp; omega)]
  simp [show p.length + 1 + r.length - (p.length + (r.length + 1)) = 0 by omega]

theorem swap_next {p q : List α} {x y : α} {i : Nat} (hi : i = p.length) : swapL (p ++ (x :: (y :: q))) d i (i + 1) = p ++ (y :: (x :: q)) :=
  swap_cons (r := []) hi (by simp [hi])

theorem swapL_comm {l : List α} {i j : Nat} (h : i ≠ j) : swapL l d j i = swapL l d i j := by
  unfold swapL
  rw [List.set_comm _ _ (by omega)]

theorem swap_prev {p q : List α} {x y : α} {i : Nat} (hi : i = p.length) : swapL (p ++ (x :: (y :: q))) d (i + 1) i = p ++ (y :: (x :: q)) := by
  rw [swapL_comm (by omega), swap_next hi]

/-! Insertion -/
def insDown (lt : α → α → Bool) (d : α) (a : Nat) : Nat → List α → List α
  | 0, l => l
  | j + 1, l => if a < j + 1 then bif lt (l.getD (j + 1) d) (l.getD j d) then insDown lt d a j (swapL l d (j + 1) j) else l else l

def insFrom (lt : α → α → Bool) (d : α) (a : Nat) : Nat → Nat → List α → List α
  | 0, _, l => l
  | n + 1, i, l => insFrom lt d a n (i + 1) (insDown lt d a i l)

theorem snoc_cases (s : List α) : s = [] ∨ ∃ t y, s = t ++ [y] := by
  cases h : s.reverse with
  | nil => exact .inl (by simpa using h)
  | cons y t => exact .inr ⟨t.reverse, y, by have := congrArg List.reverse h; simpa using this⟩

theorem insDown_eq {lt : α → α → Bool} {p : List α} {x : α} : (n : Nat) → (s q : List α) → s.length = n → LtK lt key (s ++ [x]) → SortK key s →
    ∃ t, insDown lt d p.length (p.length + n) (p ++ (s ++ (x :: q))) = p ++ (t ++ q) ∧ SortK key t ∧ SameK key (s ++ [x]) t
  | 0, s, q, hn, _, _ => by
    obtain rfl := List.length_eq_zero_iff.1 hn
    refine ⟨[x], ?_, List.pairwise_singleton _ _, SameK.refl _⟩
    cases hp : p.length with
    | zero => simp [insDown]
    | succ j => simp [insDown]
  | n + 1, s, q, hn, hl, hs => by
    rcases snoc_cases s with rfl | ⟨s', y, rfl⟩
    · simp at hn
    · have hn' : s'.length = n := by simpa using hn
      have hs' := List.pairwise_append.1 hs
      have e1 : p ++ ((s' ++ [y]) ++ (x :: q)) = (p ++ s') ++ (y :: (x :: q)) := by simp
      have hk : lt x y = decide (key x < key y) := hl x (by simp) y (by simp)
      have g1 : (p ++ ((s' ++ [y]) ++ (x :: q))).getD (p.length + n + 1) d = x := by
        rw [e1]
        simp only [List.getD_eq_getElem?_getD]
        rw [List.getElem?_append_right (by simp; omega)]
        simp [hn', show p.length + n + 1 - (p.length + n) = 1 by omega]
      have g2 : (p ++ ((s' ++ [y]) ++ (x :: q))).getD (p.length + n) d = y := by
        rw [e1]
        simp only [List.getD_eq_getElem?_getD]
        rw [List.getElem?_append_right (by simp; omega)]
        simp [hn']
      rw [show p.length + (n + 1) = (p.length + n) + 1 by omega]
      simp only [insDown, g1, g2]
      rw [if_pos (by omega), hk]
      by_cases hlt : key x < key y
      · simp only [hlt, decide_true, cond_true]
        rw [e1, swap_prev (by simp [hn'])]
        obtain ⟨t, h1, h2, h3⟩ := insDown_eq (p := p) (x := x) n s' (y :: q) hn' (hl.sub (by intro z hz; simp at hz ⊢; rcases hz with h | h <;> simp [h])) hs'.1
        have e2 : (p ++ s') ++ (x :: (y :: q)) = p ++ (s' ++ (x :: (y :: q))) := by simp
        rw [e2, h1]
        refine ⟨t ++ [y], by simp, ?_, ?_⟩
        · refine List.pairwise_append.2 ⟨h2, List.pairwise_singleton _ _, fun a ha b hb => ?_⟩
          simp at hb
          subst hb
          rcases List.mem_append.1 (h3.mem.1 ha) with h | h
          · exact hs'.2.2 a h _ (by simp)
          · simp at h
            subst h
            omega
        · have h4 : SameK key ((s' ++ [y]) ++ [x]) (s' ++ [x] ++ [y]) := by
            rw [List.append_assoc, List.append_assoc]
            exact (SameK.refl s').app (SameK.swap fun a ha b hb => by simp at ha hb; subst ha hb; omega)
          exact h4.trans (h3.app (SameK.refl [y]))
      · simp only [hlt, decide_false, cond_false]
        refine ⟨s' ++ [y] ++ [x], by simp, ?_, SameK.refl _⟩
        refine List.pairwise_append.2 ⟨hs, List.pairwise_singleton _ _, fun a ha b hb => ?_⟩
        simp at hb
        subst hb
        rcases List.mem_append.1 ha with h | h
        · have := hs'.2.2 a h y (by simp)
          omega
        · simp at h
          subst h
          omega

theorem insFrom_eq {lt : α → α → Bool} {p q : List α} : (u s : List α) → LtK lt key (s ++ u) → SortK key s → ∃ t, insFrom lt d p.length u.length (p.length + s.length) (p ++ (s ++ (u ++ q))) = p ++ (t ++ q) ∧ SortK key t ∧ SameK key (s ++ u) t
  | [], s, _, hs => ⟨s, by simp [insFrom], hs, by simpa using SameK.refl s⟩
  | x :: u, s, hl, hs => by
    obtain ⟨t, h1, h2, h3⟩ := insDown_eq (d := d) (p := p) (x := x) s.length s (u ++ q) rfl (hl.sub (by intro z hz; simp at hz ⊢; rcases hz with h | h <;> simp [h])) hs
    have hlen : t.length = s.length + 1 := by
      have := congrArg List.length h1
      have hd : ∀ (n : Nat) (l : List α), (insDown lt d p.length n l).length = l.length := by
        intro n
        induction n with
        | zero => intro l; rfl
        | succ n ih =>
          intro l
          simp only [insDown]
          split
          · cases lt (l.getD (n + 1) d) (l.getD n d)
            · rfl
            · simp [ih, swapL]
          · rfl
      rw [hd] at this
      simp at this
      omega
    obtain ⟨t', k1, k2, k3⟩ := insFrom_eq (p := p) (q := q) u t (hl.sub (by
      intro z hz
      rcases List.mem_append.1 hz with h | h
      · have := h3.mem.1 h
        simp at this ⊢
        rcases this with h | h <;> simp [h]
      · simp [h])) h2
    refine ⟨t', ?_, k2, ?_⟩
    · simp only [List.length_cons, insFrom, List.cons_append]
      rw [h1, show p.length + s.length + 1 = p.length + t.length by omega]
      exact k1
    · have : s ++ x :: u = (s ++ [x]) ++ u := by simp
      rw [this]
      exact (h3.app (SameK.refl u)).trans k3

/-- Insertions, one by one, sort a part. -/
theorem insFrom_part {lt : α → α → Bool} {a b : Nat} {l : List α} (hab : a ≤ b) (hb : b ≤ l.length) (hl : LtK lt key l) : insFrom lt d a (b - (a + 1)) (a + 1) l = partB lt a b l := by
  obtain ⟨p, s, q, rfl, hp, hs, _⟩ := split3 hab hb
  subst hp
  cases s with
  | nil =>
    have : b = p.length := by simp at hs; omega
    subst this
    rw [partB_eq rfl (by simp)]
    simp [insFrom, sortB, show p.length - (p.length + 1) = 0 by omega]
  | cons x u =>
    simp at hs
    have hb' : b = p.length + (1 + u.length) := by omega
    subst hb'
    rw [partB_eq rfl (by simp; omega)]
    have hl' : LtK lt key (x :: u) := hl.sub fun z hz => List.mem_append_right _ (List.mem_append_left _ hz)
    obtain ⟨t, h1, h2, h3⟩ := insFrom_eq (d := d) (p := p) (q := q) u [x] (by simpa using hl') (List.pairwise_singleton _ _)
    have e : t = sortB lt (x :: u) := eq_sortB hl' h2 (by simpa using h3)
    subst e
    rw [← h1]
    simp [show p.length + (1 + u.length) - (p.length + 1) = u.length by omega]

/-! Up and down -/
def upS (d : α) : Nat → Nat → List α → List α
  | 0, _, l => l
  | n + 1, k, l => upS d n (k + 1) (swapL l d k (k + 1))
def downS (d : α) : Nat → Nat → List α → List α
  | 0, _, l => l
  | n + 1, k, l => downS d n (k - 1) (swapL l d k (k - 1))

theorem upS_eq {x : α} : (s p q : List α) → upS d s.length p.length (p ++ (x :: (s ++ q))) = p ++ (s ++ (x :: q))
  | [], p, q => by simp [upS]
  | y :: s, p, q => by
    simp only [List.length_cons, upS, List.cons_append]
    rw [swap_next rfl]
    have := upS_eq (x := x) s (p ++ [y]) q
    simpa using this

theorem downS_eq {x : α} : (n : Nat) → (s p q : List α) → s.length = n → downS d n (p.length + n) (p ++ (s ++ (x :: q))) = p ++ (x :: (s ++ q))
  | 0, s, p, q, h => by
    obtain rfl := List.length_eq_zero_iff.1 h
    simp [downS]
  | n + 1, s, p, q, h => by
    rcases snoc_cases s with rfl | ⟨s', y, rfl⟩
    · simp at h
    · have hn : s'.length = n := by simpa using h
      rw [show p.length + (n + 1) = (p.length + n) + 1 by omega]
      simp only [downS, Nat.add_sub_cancel]
      have e1 : p ++ ((s' ++ [y]) ++ (x :: q)) = (p ++ s') ++ (y :: (x :: q)) := by simp
      rw [e1, swap_prev (by simp [hn])]
      have := downS_eq (x := x) n s' p (y :: q) hn
      simpa using this

/-! Blocks that change places -/
def swapR (d : α) : Nat → Nat → Nat → List α → List α
  | 0, _, _, l => l
  | n + 1, a, b, l => swapR d n (a + 1) (b + 1) (swapL l d a b)

theorem swapR_eq : (x z y p q : List α) → x.length = z.length → ∀ {b : Nat}, b = p.length + x.length + y.length → swapR d x.length p.length b (p ++ (x ++ (y ++ (z ++ q)))) = p ++ (z ++ (y ++ (x ++ q)))
  | [], z, y, p, q, h, b, hb => by
    obtain rfl := List.length_eq_zero_iff.1 h.symm
    simp [swapR]
  | u :: x, [], y, p, q, h, b, hb => by simp at h
  | u :: x, v :: z, y, p, q, h, b, hb => by
    simp only [List.length_cons, swapR, List.cons_append]
    have e1 : p ++ (u :: (x ++ (y ++ (v :: (z ++ q))))) = p ++ (u :: ((x ++ y) ++ (v :: (z ++ q)))) := by simp
    rw [e1, swap_cons rfl (by simp at hb ⊢; omega)]
    have := swapR_eq x z (y ++ [u]) (p ++ [v]) q (by simpa using h) (b := b + 1) (by simp at hb ⊢; omega)
    simpa using this

def rotG (d : α) (m : Nat) : Nat → Nat → Nat → List α → Nat × List α
  | 0, i, _, l => (i, l)
  | f + 1, i, j, l => if i = j then (i, l) else if i > j then rotG d m f (i - j) j (swapR d j (m - i) m l) else rotG d m f i (j - i) (swapR d i (m - i) (m + j - i) l)

def rotF (d : α) (a m b : Nat) (l : List α) : List α := let r := rotG d m (b - a) (m - a) (b - m) l; swapR d r.1 (m - r.1) m r.2

theorem rotG_eq {m : Nat} : (f : Nat) → (x y p q : List α) → x.length + y.length ≤ f → 0 < x.length → 0 < y.length → m = p.length + x.length →
    swapR d (rotG d m f x.length y.length (p ++ (x ++ (y ++ q)))).1 (m - (rotG d m f x.length y.length (p ++ (x ++ (y ++ q)))).1) m (rotG d m f x.length y.length (p ++ (x ++ (y ++ q)))).2 = p ++ (y ++ (x ++ q))
  | 0, x, y, p, q, h, h1, _, _ => by omega
  | f + 1, x, y, p, q, h, h1, h2, hm => by
    simp only [rotG]
    split
    · rename_i he
      subst hm
      have := swapR_eq (d := d) x y [] p q he (b := p.length + x.length) (by simp)
      simpa [show p.length + x.length - x.length = p.length by omega] using this
    · split
      · rename_i hne hgt
        -- x is longer
        obtain ⟨x1, x2, rfl, hx1⟩ : ∃ x1 x2, x = x1 ++ x2 ∧ x1.length = y.length := ⟨x.take y.length, x.drop y.length, by simp, by simp; omega⟩
        simp only [List.length_append] at hm h hgt h1 ⊢
        have e := swapR_eq (d := d) x1 y x2 p q hx1 (b := m) (by omega)
        have e0 : m - (x1.length + x2.length) = p.length := by omega
        rw [e0, ← hx1]
        rw [show p ++ (x1 ++ x2 ++ (y ++ q)) = p ++ (x1 ++ (x2 ++ (y ++ q))) by simp, e]
        have := rotG_eq (m := m) f x2 x1 (p ++ y) q (by omega) (by omega) (by omega) (by simp; omega)
        rw [show x1.length + x2.length - x1.length = x2.length by omega]
        simpa using this
      · rename_i hne hgt
        obtain ⟨y1, y2, rfl, hy2⟩ : ∃ y1 y2, y = y1 ++ y2 ∧ y2.length = x.length := ⟨y.take (y.length - x.length), y.drop (y.length - x.length), by simp, by simp; omega⟩
        simp only [List.length_append] at hm h hgt h2 hne ⊢
        have e := swapR_eq (d := d) x y2 y1 p q hy2.symm (b := m + (y1.length + y2.length) - x.length) (by omega)
        have e0 : m - x.length = p.length := by omega
        rw [e0]
        rw [show p ++ (x ++ (y1 ++ y2 ++ q)) = p ++ (x ++ (y1 ++ (y2 ++ q))) by simp, e]
        have := rotG_eq (m := m) f y2 y1 p (x ++ q) (by omega) (by omega) (by omega) (by omega)
        rw [show y1.length + y2.length - x.length = y1.length by omega, ← hy2]
        simpa using this

theorem rotF_eq {a m b : Nat} {x y p q : List α} (h1 : 0 < x.length) (h2 : 0 < y.length) (ha : a = p.length) (hm : m = a + x.length) (hb : b = m + y.length) : rotF d a m b (p ++ (x ++ (y ++ q))) = p ++ (y ++ (x ++ q)) := by
  have := rotG_eq (d := d) (m := m) (b - a) x y p q (by omega) h1 h2 (by omega)
  unfold rotF
  rw [show m - a = x.length by omega, show b - m = y.length by omega]
  exact this

/-! Search by halves -/
def bsG (Q : Nat → Bool) : Nat → Nat → Nat → Nat
  | 0, i, _ => i
  | f + 1, i, j => if i < j then bif Q ((i + j) / 2) then bsG Q f ((i + j) / 2 + 1) j else bsG Q f i ((i + j) / 2) else i

theorem bsG_spec {Q : Nat → Bool} : (f i j : Nat) → j - i ≤ f → i ≤ j → (∀ u v, i ≤ u → u ≤ v → v < j → Q v = true → Q u = true) →
    i ≤ bsG Q f i j ∧ bsG Q f i j ≤ j ∧ (∀ k, i ≤ k → k < bsG Q f i j → Q k = true) ∧ (∀ k, bsG Q f i j ≤ k → k < j → Q k = false)
  | 0, i, j, h, hij, _ => by
    simp only [bsG]
    exact ⟨Nat.le_refl _, hij, fun k h1 h2 => by omega, fun k h1 h2 => by omega⟩
  | f + 1, i, j, h, hij, hmono => by
    simp only [bsG]
    by_cases hlt : i < j
    · rw [if_pos hlt]
      cases hq : Q ((i + j) / 2) with
      | true =>
        simp only [cond_true]
        obtain ⟨a1, a2, a3, a4⟩ := bsG_spec (Q := Q) f ((i + j) / 2 + 1) j (by omega) (by omega) (fun u v hu huv hv => hmono u v (by omega) huv hv)
        refine ⟨by omega, a2, fun k h1 h2 => ?_, a4⟩
        by_cases hk : k ≤ (i + j) / 2
        · exact hmono k _ h1 hk (by omega) hq
        · exact a3 k (by omega) h2
      | false =>
        simp only [cond_false]
        obtain ⟨a1, a2, a3, a4⟩ := bsG_spec (Q := Q) f i ((i + j) / 2) (by omega) (by omega) (fun u v hu huv hv => hmono u v hu huv (by omega))
        refine ⟨a1, by omega, a3, fun k h1 h2 => ?_⟩
        by_cases hk : k < (i + j) / 2
        · exact a4 k h1 hk
        · cases hqk : Q k with
          | false => rfl
          | true => rw [hmono _ k (by omega) (by omega) h2 hqk] at hq; cases hq
    · rw [if_neg hlt]
      exact ⟨Nat.le_refl _, hij, fun k h1 h2 => by omega, fun k h1 h2 => by omega⟩
end

end Go.Ab

/-
  Sorting by keys, plain: two sorted halves are merged in their place.
-/
namespace Go.Ab

section
variable {α : Type} {key : α → Int} {d : α}

/-- A part of a list. -/
def seg (a b : Nat) (l : List α) : List α := (l.take b).drop a

theorem seg_eq {p s q : List α} {a b : Nat} (ha : p.length = a) (hb : a + s.length = b) : seg a b (p ++ (s ++ q)) = s := by
  subst ha hb
  unfold seg
  have h1 : (p ++ (s ++ q)).take (p.length + s.length) = p ++ s := by rw [← List.append_assoc]; exact List.take_left' (by simp)
  rw [h1, List.drop_left' rfl]

theorem seg_split {l : List α} {a m b : Nat} (h1 : a ≤ m) (h2 : m ≤ b) (h3 : b ≤ l.length) : ∃ p q, l = p ++ (seg a m l ++ (seg m b l ++ q)) ∧ p.length = a ∧ (seg a m l).length = m - a ∧ (seg m b l).length = b - m ∧ q.length = l.length - b := by
  obtain ⟨p, s, q, rfl, hp, hs, hq⟩ := split3 (Nat.le_trans h1 h2) h3
  obtain ⟨x, y, rfl, hx⟩ : ∃ x y, s = x ++ y ∧ x.length = m - a := ⟨s.take (m - a), s.drop (m - a), by simp, by simp; omega⟩
  have hy : y.length = b - m := by simp at hs; omega
  have e1 : seg a m (p ++ (x ++ y ++ q)) = x := by
    rw [List.append_assoc]
    exact seg_eq hp (by omega)
  have e2 : seg m b (p ++ (x ++ y ++ q)) = y := by
    rw [show p ++ (x ++ y ++ q) = (p ++ x) ++ (y ++ q) by simp]
    exact seg_eq (by simp; omega) (by omega)
  rw [e1, e2]
  exact ⟨p, q, by simp, hp, hx, hy, by omega⟩

theorem partB_length {lt : α → α → Bool} {a b : Nat} {l : List α} (h1 : a ≤ b) (h2 : b ≤ l.length) : (partB lt a b l).length = l.length := by
  unfold partB
  simp [sortB_length]
  omega

theorem sortB_self {lt : α → α → Bool} {l : List α} (h : LtK lt key l) (hs : SortK key l) : sortB lt l = l := (eq_sortB h hs (SameK.refl l)).symm

theorem partB_same {lt : α → α → Bool} {a b : Nat} {l : List α} (hab : a ≤ b) (hb : b ≤ l.length) (hl : LtK lt key l) : SameK key l (partB lt a b l) := by
  obtain ⟨p, s, q, rfl, hp, hs, _⟩ := split3 hab hb
  rw [partB_eq hp (by simp; omega)]
  have h := (sortB_sort (l := s) (hl.sub fun z hz => List.mem_append_right _ (List.mem_append_left _ hz))).2
  exact (SameK.refl p).app (h.app (SameK.refl q))

def symS (lt : α → α → Bool) (d : α) (a m b : Nat) (l : List α) : Nat :=
  bsG (fun c => !lt (l.getD ((a + b) / 2 + m - 1 - c) d) (l.getD c d)) ((if (a + b) / 2 < m then (a + b) / 2 else m) - (if (a + b) / 2 < m then (a + b) / 2 + m - b else a)) (if (a + b) / 2 < m then (a + b) / 2 + m - b else a) (if (a + b) / 2 < m then (a + b) / 2 else m)

def symR (d : α) (m st en : Nat) (l : List α) : List α := if st < m ∧ m < en then rotF d st m en l else l

/-- One step of the merge by halves; the halves' own merges are sorted parts. -/
def symX (lt : α → α → Bool) (d : α) (a m b : Nat) (l : List α) : List α :=
  if m - a = 1 then upS d (bsG (fun h => lt (l.getD h d) (l.getD a d)) (b - m) m b - 1 - a) a l
  else if b - m = 1 then downS d (m - bsG (fun h => !lt (l.getD m d) (l.getD h d)) (m - a) a m) m l
  else
    let st := symS lt d a m b l
    let mid := (a + b) / 2
    let en := mid + m - st
    let l1 := symR d m st en l
    let l2 := if a < st ∧ st < mid then partB lt a mid l1 else l1
    if mid < en ∧ en < b then partB lt mid b l2 else l2

theorem key_at {l : List α} {i j : Nat} (hs : SortK key l) (hij : i ≤ j) (hj : j < l.length) : key (l.getD i d) ≤ key (l.getD j d) := by
  rcases Nat.lt_or_ge i j with h | h
  · have := List.pairwise_iff_getElem.1 hs i j (by omega) hj h
    simpa [List.getD_eq_getElem?_getD, List.getElem?_eq_getElem hj, List.getElem?_eq_getElem (show i < l.length by omega)] using this
  · have : i = j := by omega
    subst this
    exact Int.le_refl _

theorem getD_mem {l : List α} {i : Nat} (h : i < l.length) : l.getD i d ∈ l := by
  simp [List.getD_eq_getElem?_getD, List.getElem?_eq_getElem h]

theorem ex_at {l : List α} {x : α} (h : x ∈ l) : ∃ i, i < l.length ∧ l.getD i d = x := by
  obtain ⟨i, hi, rfl⟩ := List.getElem_of_mem h
  exact ⟨i, hi, by simp [List.getD_eq_getElem?_getD, List.getElem?_eq_getElem hi]⟩

/-- How the middle part falls. -/
theorem sym_parts {lt : α → α → Bool} {a m b : Nat} {p A B q : List α} (hp : p.length = a) (hA : A.length = m - a) (hB : B.length = b - m) (h1 : a < m) (h2 : m < b)
    (hl : LtK lt key (A ++ B)) (sA : SortK key A) (sB : SortK key B) :
    ∃ A1 A2 B1 B2, A = A1 ++ A2 ∧ B = B1 ++ B2 ∧ a + A1.length = symS lt d a m b (p ++ (A ++ (B ++ q))) ∧ m + B1.length + symS lt d a m b (p ++ (A ++ (B ++ q))) = (a + b) / 2 + m ∧
      (∀ x ∈ A1, ∀ y ∈ B2, key x ≤ key y) ∧ (∀ y ∈ B1, ∀ x ∈ A2, key y < key x) := by
  have gA : ∀ i, i < A.length → (p ++ (A ++ (B ++ q))).getD (a + i) d = A.getD i d := fun i hi => by rw [← hp]; exact getD_mid hi
  have gB : ∀ i, i < B.length → (p ++ (A ++ (B ++ q))).getD (m + i) d = B.getD i d := fun i hi => by
    rw [show p ++ (A ++ (B ++ q)) = (p ++ A) ++ (B ++ q) by simp, show m = (p ++ A).length by simp; omega]
    exact getD_mid hi
  generalize hL : p ++ (A ++ (B ++ q)) = L at gA gB ⊢
  have hQ : ∀ c, a ≤ c → c < m → m ≤ (a + b) / 2 + m - 1 - c → (a + b) / 2 + m - 1 - c < b →
      (!lt (L.getD ((a + b) / 2 + m - 1 - c) d) (L.getD c d)) = decide (key (A.getD (c - a) d) ≤ key (B.getD ((a + b) / 2 + m - 1 - c - m) d)) := fun c c1 c2 c3 c4 => by
    have e1 := gA (c - a) (by omega)
    have e2 := gB ((a + b) / 2 + m - 1 - c - m) (by omega)
    rw [show a + (c - a) = c by omega] at e1
    rw [show m + ((a + b) / 2 + m - 1 - c - m) = (a + b) / 2 + m - 1 - c by omega] at e2
    rw [e1, e2, hl _ (List.mem_append_right _ (getD_mem (by omega))) _ (List.mem_append_left _ (getD_mem (by omega)))]
    rw [Bool.eq_iff_iff]
    simp
  generalize hs0 : (if (a + b) / 2 < m then (a + b) / 2 + m - b else a) = s0
  generalize hr0 : (if (a + b) / 2 < m then (a + b) / 2 else m) = r0
  have b1 : a ≤ s0 ∧ s0 ≤ r0 ∧ r0 ≤ m ∧ r0 ≤ (a + b) / 2 ∧ (a + b) / 2 + m ≤ b + s0 ∧ (s0 = a ∨ s0 + b = (a + b) / 2 + m) ∧ (r0 = m ∨ r0 = (a + b) / 2) := by
    subst hs0 hr0
    split <;> omega
  obtain ⟨c1, c2, c3, c4, c5, c6, c7⟩ := b1
  obtain ⟨r1, r2, r3, r4⟩ := bsG_spec (Q := fun c => !lt (L.getD ((a + b) / 2 + m - 1 - c) d) (L.getD c d)) (r0 - s0) s0 r0 (Nat.le_refl _) c2 (fun u v hu huv hv h => by
    rw [hQ v (by omega) (by omega) (by omega) (by omega)] at h
    rw [hQ u (by omega) (by omega) (by omega) (by omega)]
    simp only [decide_eq_true_eq] at h ⊢
    have k1 := key_at (d := d) sA (i := u - a) (j := v - a) (by omega) (by omega)
    have k2 := key_at (d := d) sB (i := (a + b) / 2 + m - 1 - v - m) (j := (a + b) / 2 + m - 1 - u - m) (by omega) (by omega)
    omega)
  have hS : symS lt d a m b L = bsG (fun c => !lt (L.getD ((a + b) / 2 + m - 1 - c) d) (L.getD c d)) (r0 - s0) s0 r0 := by
    unfold symS
    rw [hs0, hr0]
  rw [hS]
  generalize bsG (fun c => !lt (L.getD ((a + b) / 2 + m - 1 - c) d) (L.getD c d)) (r0 - s0) s0 r0 = st at r1 r2 r3 r4 ⊢
  refine ⟨A.take (st - a), A.drop (st - a), B.take ((a + b) / 2 - st), B.drop ((a + b) / 2 - st), by simp, by simp, ?_, ?_, ?_, ?_⟩
  · simp; omega
  · simp; omega
  · intro x hx y hy
    obtain ⟨i, hi, rfl⟩ := ex_at (d := d) hx
    obtain ⟨j, hj, rfl⟩ := ex_at (d := d) hy
    simp at hi hj
    have e1 : (A.take (st - a)).getD i d = A.getD i d := by simp [List.getD_eq_getElem?_getD, show i < st - a by omega]
    have e2 : (B.drop ((a + b) / 2 - st)).getD j d = B.getD ((a + b) / 2 - st + j) d := by simp [List.getD_eq_getElem?_getD]
    rw [e1, e2]
    have hq := r3 (st - 1) (by omega) (by omega)
    rw [hQ (st - 1) (by omega) (by omega) (by omega) (by omega)] at hq
    simp only [decide_eq_true_eq] at hq
    have k1 := key_at (d := d) sA (i := i) (j := st - 1 - a) (by omega) (by omega)
    have k2 := key_at (d := d) sB (i := (a + b) / 2 + m - 1 - (st - 1) - m) (j := (a + b) / 2 - st + j) (by omega) (by omega)
    omega
  · intro y hy x hx
    obtain ⟨i, hi, rfl⟩ := ex_at (d := d) hx
    obtain ⟨j, hj, rfl⟩ := ex_at (d := d) hy
    simp at hi hj
    have e1 : (A.drop (st - a)).getD i d = A.getD (st - a + i) d := by simp [List.getD_eq_getElem?_getD]
    have e2 : (B.take ((a + b) / 2 - st)).getD j d = B.getD j d := by simp [List.getD_eq_getElem?_getD, show j < (a + b) / 2 - st by omega]
    rw [e1, e2]
    have hq := r4 st (Nat.le_refl _) (by omega)
    rw [hQ st (by omega) (by omega) (by omega) (by omega)] at hq
    simp only [decide_eq_false_iff_not] at hq
    have k1 := key_at (d := d) sA (i := st - a) (j := st - a + i) (by omega) (by omega)
    have k2 := key_at (d := d) sB (i := j) (j := (a + b) / 2 + m - 1 - st - m) (by omega) (by omega)
    omega

/-- Two parts, one behind the other, of which the first is no greater, each sorted, are the sorted whole. -/
theorem sort_two {lt : α → α → Bool} {A1 A2 B1 B2 : List α} (hl : LtK lt key ((A1 ++ A2) ++ (B1 ++ B2))) (sA : SortK key (A1 ++ A2)) (sB : SortK key (B1 ++ B2)) (h1 : ∀ x ∈ A1, ∀ y ∈ B2, key x ≤ key y) (h2 : ∀ y ∈ B1, ∀ x ∈ A2, key y < key x) :
    sortB lt (A1 ++ B1) ++ sortB lt (A2 ++ B2) = sortB lt ((A1 ++ A2) ++ (B1 ++ B2)) := by
  have l1 : LtK lt key (A1 ++ B1) := hl.sub fun z hz => by simp at hz ⊢; rcases hz with h | h <;> simp [h]
  have l2 : LtK lt key (A2 ++ B2) := hl.sub fun z hz => by simp at hz ⊢; rcases hz with h | h <;> simp [h]
  obtain ⟨s1, k1⟩ := sortB_sort l1
  obtain ⟨s2, k2⟩ := sortB_sort l2
  have pA := List.pairwise_append.1 sA
  have pB := List.pairwise_append.1 sB
  refine eq_sortB hl (List.pairwise_append.2 ⟨s1, s2, fun x hx y hy => ?_⟩) ?_
  · rw [sortB_mem] at hx hy
    rcases List.mem_append.1 hx with hx | hx <;> rcases List.mem_append.1 hy with hy | hy
    · exact pA.2.2 x hx y hy
    · exact h1 x hx y hy
    · exact Int.le_of_lt (h2 x hx y hy)
    · exact pB.2.2 x hx y hy
  · have e1 : SameK key (A1 ++ (A2 ++ B1) ++ B2) (A1 ++ (B1 ++ A2) ++ B2) := ((SameK.refl A1).app (SameK.swap fun x hx y hy => by have := h2 y hy x hx; omega)).app (SameK.refl B2)
    have e2 := k1.app k2
    have e1' : SameK key ((A1 ++ A2) ++ (B1 ++ B2)) ((A1 ++ B1) ++ (A2 ++ B2)) := by simpa using e1
    exact e1'.trans e2

theorem symX_eq {lt : α → α → Bool} {a m b : Nat} {p A B q : List α} (hp : p.length = a) (hA : A.length = m - a) (hB : B.length = b - m) (h1 : a < m) (h2 : m < b)
    (hl : LtK lt key (A ++ B)) (sA : SortK key A) (sB : SortK key B) : symX lt d a m b (p ++ (A ++ (B ++ q))) = p ++ (sortB lt (A ++ B) ++ q) := by
  unfold symX
  split
  · -- one element ahead
    rename_i hm
    cases A with
    | nil => simp at hA; omega
    | cons x A =>
      obtain rfl : A = [] := by simp at hA; exact List.length_eq_zero_iff.1 (by omega)
      have gx : (p ++ ([x] ++ (B ++ q))).getD a d = x := by subst hp; simp [List.getD_eq_getElem?_getD]
      have gB : ∀ i, i < B.length → (p ++ ([x] ++ (B ++ q))).getD (m + i) d = B.getD i d := fun i hi => by
        rw [show p ++ ([x] ++ (B ++ q)) = (p ++ [x]) ++ (B ++ q) by simp, show m = (p ++ [x]).length by simp; omega]
        exact getD_mid hi
      have hQ : ∀ k, m ≤ k → k < b → lt ((p ++ ([x] ++ (B ++ q))).getD k d) ((p ++ ([x] ++ (B ++ q))).getD a d) = decide (key (B.getD (k - m) d) < key x) := fun k k1 k2 => by
        have := gB (k - m) (by omega)
        rw [show m + (k - m) = k by omega] at this
        rw [this, gx]
        exact hl _ (List.mem_append_right _ (getD_mem (by omega))) _ (by simp)
      obtain ⟨r1, r2, r3, r4⟩ := bsG_spec (Q := fun h => lt ((p ++ ([x] ++ (B ++ q))).getD h d) ((p ++ ([x] ++ (B ++ q))).getD a d)) (b - m) m b (Nat.le_refl _) (by omega) (fun u v hu huv hv h => by
        rw [hQ v (by omega) hv] at h
        rw [hQ u hu (by omega)]
        simp only [decide_eq_true_eq] at h ⊢
        have := key_at (d := d) sB (i := u - m) (j := v - m) (by omega) (by omega)
        omega)
      generalize bsG (fun h => lt ((p ++ ([x] ++ (B ++ q))).getD h d) ((p ++ ([x] ++ (B ++ q))).getD a d)) (b - m) m b = r at r1 r2 r3 r4 ⊢
      obtain ⟨B1, B2, rfl, hB1⟩ : ∃ B1 B2, B = B1 ++ B2 ∧ B1.length = r - m := ⟨B.take (r - m), B.drop (r - m), by simp, by simp; omega⟩
      have hB' : B1.length + B2.length = b - m := by simpa using hB
      have f1 : ∀ y ∈ B1, key y < key x := fun y hy => by
        obtain ⟨j, hj, rfl⟩ := ex_at (d := d) hy
        have := r3 (m + j) (by omega) (by omega)
        rw [hQ (m + j) (by omega) (by omega)] at this
        simp only [decide_eq_true_eq, Nat.add_sub_cancel_left] at this
        rwa [show (B1 ++ B2).getD j d = B1.getD j d by simp [List.getD_eq_getElem?_getD, List.getElem?_append_left hj]] at this
      have f2 : ∀ y ∈ B2, key x ≤ key y := fun y hy => by
        obtain ⟨j, hj, rfl⟩ := ex_at (d := d) hy
        have := r4 (r + j) (by omega) (by omega)
        rw [hQ (r + j) (by omega) (by omega)] at this
        simp only [decide_eq_false_iff_not] at this
        rw [show (B1 ++ B2).getD (r + j - m) d = B2.getD j d by
          simp only [List.getD_eq_getElem?_getD]
          rw [List.getElem?_append_right (by omega), show r + j - m - B1.length = j by omega]] at this
        omega
      rw [show r - 1 - a = B1.length by omega]
      have hup := upS_eq (d := d) (x := x) B1 p (B2 ++ q)
      rw [hp] at hup
      have e0 : p ++ ([x] ++ (B1 ++ B2 ++ q)) = p ++ (x :: (B1 ++ (B2 ++ q))) := by simp
      rw [e0, hup]
      have pB := List.pairwise_append.1 sB
      have hS : B1 ++ (x :: B2) = sortB lt ([x] ++ (B1 ++ B2)) := by
        refine eq_sortB hl (List.pairwise_append.2 ⟨pB.1, List.pairwise_cons.2 ⟨fun y hy => f2 y hy, pB.2.1⟩, fun y hy z hz => ?_⟩) ?_
        · rcases List.mem_cons.1 hz with rfl | hz
          · exact Int.le_of_lt (f1 y hy)
          · exact pB.2.2 y hy z hz
        · have e1 : SameK key (([x] ++ B1) ++ B2) ((B1 ++ [x]) ++ B2) := (SameK.swap fun u hu y hy => by simp at hu; subst hu; have := f1 y hy; omega).app (SameK.refl B2)
          simpa using e1
      rw [← hS]
      simp
  · split
    · -- one element behind
      rename_i _ hm
      cases B with
      | nil => simp at hB; omega
      | cons x B =>
        obtain rfl : B = [] := by simp at hB; exact List.length_eq_zero_iff.1 (by omega)
        have gx : (p ++ (A ++ ([x] ++ q))).getD m d = x := by
          rw [show p ++ (A ++ ([x] ++ q)) = (p ++ A) ++ (x :: q) by simp, show m = (p ++ A).length by simp; omega]
          simp only [List.getD_eq_getElem?_getD]
          rw [List.getElem?_append_right (Nat.le_refl _)]
          simp
        have gA : ∀ i, i < A.length → (p ++ (A ++ ([x] ++ q))).getD (a + i) d = A.getD i d := fun i hi => by rw [← hp]; exact getD_mid hi
        have hQ : ∀ k, a ≤ k → k < m → (!lt ((p ++ (A ++ ([x] ++ q))).getD m d) ((p ++ (A ++ ([x] ++ q))).getD k d)) = decide (key (A.getD (k - a) d) ≤ key x) := fun k k1 k2 => by
          have := gA (k - a) (by omega)
          rw [show a + (k - a) = k by omega] at this
          rw [this, gx, hl _ (List.mem_append_right _ (by simp)) _ (List.mem_append_left _ (getD_mem (by omega))), Bool.eq_iff_iff]
          simp
        obtain ⟨r1, r2, r3, r4⟩ := bsG_spec (Q := fun h => !lt ((p ++ (A ++ ([x] ++ q))).getD m d) ((p ++ (A ++ ([x] ++ q))).getD h d)) (m - a) a m (Nat.le_refl _) (by omega) (fun u v hu huv hv h => by
          rw [hQ v (by omega) hv] at h
          rw [hQ u hu (by omega)]
          simp only [decide_eq_true_eq] at h ⊢
          have := key_at (d := d) sA (i := u - a) (j := v - a) (by omega) (by omega)
          omega)
        generalize bsG (fun h => !lt ((p ++ (A ++ ([x] ++ q))).getD m d) ((p ++ (A ++ ([x] ++ q))).getD h d)) (m - a) a m = r at r1 r2 r3 r4 ⊢
        obtain ⟨A1, A2, rfl, hA1⟩ : ∃ A1 A2, A = A1 ++ A2 ∧ A1.length = r - a := ⟨A.take (r - a), A.drop (r - a), by simp, by simp; omega⟩
        have hA' : A1.length + A2.length = m - a := by simpa using hA
        have f1 : ∀ y ∈ A1, key y ≤ key x := fun y hy => by
          obtain ⟨j, hj, rfl⟩ := ex_at (d := d) hy
          have := r3 (a + j) (by omega) (by omega)
          rw [hQ (a + j) (by omega) (by omega)] at this
          simp only [decide_eq_true_eq, Nat.add_sub_cancel_left] at this
          rwa [show (A1 ++ A2).getD j d = A1.getD j d by simp [List.getD_eq_getElem?_getD, List.getElem?_append_left hj]] at this
        have f2 : ∀ y ∈ A2, key x < key y := fun y hy => by
          obtain ⟨j, hj, rfl⟩ := ex_at (d := d) hy
          have := r4 (r + j) (by omega) (by omega)
          rw [hQ (r + j) (by omega) (by omega)] at this
          simp only [decide_eq_false_iff_not] at this
          rw [show (A1 ++ A2).getD (r + j - a) d = A2.getD j d by
            simp only [List.getD_eq_getElem?_getD]
            rw [List.getElem?_append_right (by omega), show r + j - a - A1.length = j by omega]] at this
          omega
        have hdn := downS_eq (d := d) (x := x) A2.length A2 (p ++ A1) q rfl
        have e0 : p ++ (A1 ++ A2 ++ ([x] ++ q)) = (p ++ A1) ++ (A2 ++ (x :: q)) := by simp
        have e1 : m = (p ++ A1).length + A2.length := by simp; omega
        rw [e0, show m - r = A2.length by omega]
        rw [← e1] at hdn
        rw [hdn]
        have pA := List.pairwise_append.1 sA
        have hS : A1 ++ (x :: A2) = sortB lt ((A1 ++ A2) ++ [x]) := by
          refine eq_sortB hl (List.pairwise_append.2 ⟨pA.1, List.pairwise_cons.2 ⟨fun y hy => Int.le_of_lt (f2 y hy), pA.2.1⟩, fun y hy z hz => ?_⟩) ?_
          · rcases List.mem_cons.1 hz with rfl | hz
            · exact f1 y hy
            · exact pA.2.2 y hy z hz
          · have e1 : SameK key (A1 ++ (A2 ++ [x])) (A1 ++ ([x] ++ A2)) := (SameK.refl A1).app (SameK.swap fun u hu y hy => by simp at hy; subst hy; have := f2 u hu; omega)
            simpa using e1
        rw [← hS]
        simp
    · -- by halves
      obtain ⟨A1, A2, B1, B2, rfl, rfl, e1, e2, f1, f2⟩ := sym_parts (d := d) (q := q) hp hA hB h1 h2 hl sA sB
      simp only
      generalize symS lt d a m b (p ++ (A1 ++ A2 ++ (B1 ++ B2 ++ q))) = st at e1 e2 ⊢
      simp only [List.length_append] at hA hB
      have hen : (a + b) / 2 + m - st = m + B1.length := by omega
      rw [hen]
      have hR : symR d m st (m + B1.length) (p ++ (A1 ++ A2 ++ (B1 ++ B2 ++ q))) = p ++ (A1 ++ B1 ++ (A2 ++ B2 ++ q)) := by
        unfold symR
        split
        · rename_i hc
          have := rotF_eq (d := d) (a := st) (m := m) (b := m + B1.length) (x := A2) (y := B1) (p := p ++ A1) (q := B2 ++ q) (by omega) (by omega) (by simp; omega) (by omega) rfl
          simpa using this
        · rename_i hc
          by_cases hb1 : B1 = []
          · subst hb1; simp
          · have := List.length_pos_iff.2 hb1
            have : A2 = [] := List.length_eq_zero_iff.1 (by omega)
            subst this; simp
      rw [hR]
      have l1 : LtK lt key (A1 ++ B1) := hl.sub fun z hz => by simp at hz ⊢; rcases hz with h | h <;> simp [h]
      have l2 : LtK lt key (A2 ++ B2) := hl.sub fun z hz => by simp at hz ⊢; rcases hz with h | h <;> simp [h]
      have pA := List.pairwise_append.1 sA
      have pB := List.pairwise_append.1 sB
      have hmid : (a + b) / 2 = a + (A1.length + B1.length) := by omega
      have hL : (if a < st ∧ st < (a + b) / 2 then partB lt a ((a + b) / 2) (p ++ (A1 ++ B1 ++ (A2 ++ B2 ++ q))) else p ++ (A1 ++ B1 ++ (A2 ++ B2 ++ q))) = p ++ (sortB lt (A1 ++ B1) ++ (A2 ++ B2 ++ q)) := by
        split
        · exact partB_eq hp (by simp; omega)
        · rename_i hc
          have : sortB lt (A1 ++ B1) = A1 ++ B1 := by
            refine sortB_self l1 ?_
            by_cases ha1 : A1 = []
            · subst ha1; simpa [SortK] using pB.1
            · have := List.length_pos_iff.2 ha1
              have : B1 = [] := List.length_eq_zero_iff.1 (by omega)
              subst this
              simpa [SortK] using pA.1
          rw [this]
      rw [hL]
      have hRt : (if (a + b) / 2 < m + B1.length ∧ m + B1.length < b then partB lt ((a + b) / 2) b (p ++ (sortB lt (A1 ++ B1) ++ (A2 ++ B2 ++ q))) else p ++ (sortB lt (A1 ++ B1) ++ (A2 ++ B2 ++ q))) = p ++ (sortB lt (A1 ++ B1) ++ (sortB lt (A2 ++ B2) ++ q)) := by
        split
        · have := partB_eq (lt := lt) (a := (a + b) / 2) (b := b) (p := p ++ sortB lt (A1 ++ B1)) (s := A2 ++ B2) (q := q) (by simp [sortB_length]; omega) (by simp [sortB_length]; omega)
          simpa using this
        · rename_i hc
          have : sortB lt (A2 ++ B2) = A2 ++ B2 := by
            refine sortB_self l2 ?_
            by_cases ha1 : A2 = []
            · subst ha1; simpa [SortK] using pB.2.1
            · have := List.length_pos_iff.2 ha1
              have : B2 = [] := List.length_eq_zero_iff.1 (by omega)
              subst this
              simpa [SortK] using pA.2.1
          rw [this]
      rw [hRt, ← sort_two hl sA sB f1 f2]
      simp
end

end Go.Ab

/-
  Sorting by keys, plain: blocks that are sorted, and merged, until one is all.
-/
namespace Go.Ab

section
variable {α : Type} {key : α → Int}

theorem seg_before {lt : α → α → Bool} {a b a' b' : Nat} {l : List α} (h1 : b' ≤ a) (h2 : a ≤ l.length) : seg a' b' (partB lt a b l) = seg a' b' l := by
  unfold seg partB
  rw [List.take_append_of_le_length (by simp; omega), List.take_take, Nat.min_eq_left h1]

theorem seg_length {a b : Nat} {l : List α} : (seg a b l).length = min b l.length - a := by simp [seg]

theorem seg_same {lt : α → α → Bool} {a b : Nat} {l : List α} (h1 : a ≤ b) (h2 : b ≤ l.length) : seg a b (partB lt a b l) = sortB lt (seg a b l) := by
  unfold partB
  exact seg_eq (by simp; omega) (by rw [sortB_length]; simp; omega)

theorem drop_partB {lt : α → α → Bool} {a b c : Nat} {l : List α} (h1 : a ≤ b) (h2 : b ≤ l.length) (h3 : b ≤ c) : (partB lt a b l).drop c = l.drop c := by
  unfold partB
  rw [← List.append_assoc, List.drop_append, List.drop_eq_nil_of_le (by simp [sortB_length]; omega)]
  simp [sortB_length]
  congr 1
  omega

theorem seg_of_drop {a b c : Nat} {l s : List α} (h : l.drop c = s.drop c) (hc : c ≤ a) : seg a b l = seg a b s := by
  unfold seg
  rw [List.drop_take, List.drop_take]
  have : ∀ t : List α, t.drop a = (t.drop c).drop (a - c) := fun t => by rw [List.drop_drop]; congr 1; omega
  rw [this l, this s, h]

def BlkS (key : α → Int) (w : Nat) (l : List α) : Prop := ∀ k, SortK key (seg (k * w) (k * w + w) l)

def blkW (lt : α → α → Bool) (w n : Nat) : Nat → Nat → List α → Nat × List α
  | 0, a, l => (a, l)
  | f + 1, a, l => if a + w ≤ n then blkW lt w n f (a + w) (partB lt a (a + w) l) else (a, l)

structure BlkW (key : α → Int) (w n : Nat) (l : List α) (r : Nat × List α) : Prop where
  mul : ∃ c, r.1 = c * w
  le : r.1 ≤ n
  lt : n < r.1 + w
  len : r.2.length = n
  same : SameK key l r.2
  drop : r.2.drop r.1 = l.drop r.1
  done : ∀ k, k * w + w ≤ r.1 → SortK key (seg (k * w) (k * w + w) r.2)

theorem blkW_spec {lt : α → α → Bool} {w n : Nat} (hw : 0 < w) : (f a : Nat) → (l : List α) → n < f + a → a ≤ n → l.length = n → (∃ c, a = c * w) → LtK lt key l → (∀ k, k * w + w ≤ a → SortK key (seg (k * w) (k * w + w) l)) →
    BlkW key w n l (blkW lt w n f a l)
  | 0, a, l, h, ha, _, _, _, _ => by omega
  | f + 1, a, l, h, ha, hn, ⟨c, hc⟩, hl, hd => by
    simp only [blkW]
    split
    · rename_i hle
      have hsame := partB_same (key := key) (lt := lt) (a := a) (b := a + w) (by omega) (by omega) hl
      have hseg : SortK key (seg a (a + w) (partB lt a (a + w) l)) := by
        rw [seg_same (by omega) (by omega)]
        refine (sortB_sort (hl.sub fun z hz => ?_)).1
        exact List.mem_of_mem_take (List.mem_of_mem_drop hz)
      have r := blkW_spec hw f (a + w) (partB lt a (a + w) l) (by omega) hle (by rw [partB_length (by omega) (by omega)]; exact hn) ⟨c + 1, by rw [hc, Nat.succ_mul]⟩ (hl.sub fun z hz => hsame.mem.1 hz) (fun k hk => by
        rcases Nat.lt_trichotomy k c with h | h | h
        · have h1 : (k + 1) * w ≤ c * w := Nat.mul_le_mul_right _ h
          rw [Nat.succ_mul] at h1
          rw [seg_before (by omega) (by omega)]
          exact hd k (by omega)
        · subst h
          rw [← hc]
          exact hseg
        · have h1 : (c + 1) * w ≤ k * w := Nat.mul_le_mul_right _ h
          rw [Nat.succ_mul] at h1
          omega)
      refine ⟨r.mul, r.le, r.lt, r.len, hsame.trans r.same, ?_, r.done⟩
      rw [r.drop]
      obtain ⟨c', hc'⟩ := r.mul
      have : a + w ≤ (blkW lt w n f (a + w) (partB lt a (a + w) l)).1 := by
        clear r hc' c'
        have : ∀ (f a : Nat) (l : List α), a ≤ (blkW lt w n f a l).1 := by
          intro f
          induction f with
          | zero => intro a l; exact Nat.le_refl _
          | succ f ih =>
            intro a l
            simp only [blkW]
            split
            · exact Nat.le_trans (by omega) (ih _ _)
            · exact Nat.le_refl _
        exact this _ _ _
      exact drop_partB (by omega) (by omega) this
    · exact ⟨⟨c, hc⟩, ha, by omega, hn, SameK.refl _, rfl, fun k hk => hd k hk⟩

theorem BlkW.last {lt : α → α → Bool} {w n : Nat} {l : List α} {r : Nat × List α} (h : BlkW key w n l r) (hl : LtK lt key l) : BlkS key w (partB lt r.1 n r.2) ∧ SameK key l (partB lt r.1 n r.2) ∧ (partB lt r.1 n r.2).length = n := by
  have hlen := h.len
  have hl2 : LtK lt key r.2 := hl.sub fun z hz => h.same.mem.1 hz
  refine ⟨fun k => ?_, h.same.trans (partB_same h.le (by omega) hl2), by rw [partB_length h.le (by omega)]; exact hlen⟩
  obtain ⟨c, hc⟩ := h.mul
  have hle := h.le
  have hlt := h.lt
  rcases Nat.lt_trichotomy k c with hk | hk | hk
  · have h1 : (k + 1) * w ≤ c * w := Nat.mul_le_mul_right _ hk
    rw [Nat.succ_mul] at h1
    rw [seg_before (by omega) (by omega)]
    exact h.done k (by omega)
  · subst hk
    rw [← hc]
    have : seg r.1 (r.1 + w) (partB lt r.1 n r.2) = seg r.1 n (partB lt r.1 n r.2) := by
      have e := partB_length (lt := lt) h.le (Nat.le_of_eq hlen.symm)
      unfold seg
      rw [List.take_of_length_le (by omega), List.take_of_length_le (by omega)]
    rw [this, seg_same h.le (by omega)]
    exact (sortB_sort (hl2.sub fun z hz => List.mem_of_mem_take (List.mem_of_mem_drop hz))).1
  · have h1 : (c + 1) * w ≤ k * w := Nat.mul_le_mul_right _ hk
    rw [Nat.succ_mul] at h1
    have : seg (k * w) (k * w + w) (partB lt r.1 n r.2) = [] := by
      have e := partB_length (lt := lt) h.le (Nat.le_of_eq hlen.symm)
      apply List.eq_nil_of_length_eq_zero
      rw [seg_length]
      omega
    rw [this]
    exact List.Pairwise.nil

/-- What a pass of merges comes to. -/
def passB (lt : α → α → Bool) (w n : Nat) (l : List α) : List α :=
  let r := blkW lt (2 * w) n (n + 1) 0 l
  if r.1 + w < n then partB lt r.1 n r.2 else r.2

theorem passB_spec {lt : α → α → Bool} {w n : Nat} {l : List α} (hw : 0 < w) (hn : l.length = n) (hl : LtK lt key l) (hb : BlkS key w l) :
    BlkS key (2 * w) (passB lt w n l) ∧ SameK key l (passB lt w n l) ∧ (passB lt w n l).length = n := by
  have r := blkW_spec (key := key) (lt := lt) (w := 2 * w) (n := n) (by omega) (n + 1) 0 l (by omega) (by omega) hn ⟨0, by simp⟩ hl (fun k hk => by omega)
  unfold passB
  generalize blkW lt (2 * w) n (n + 1) 0 l = r0 at r ⊢
  simp only
  split
  · exact r.last hl
  · rename_i hc
    refine ⟨fun k => ?_, r.same, r.len⟩
    obtain ⟨c, hcc⟩ := r.mul
    have hle := r.le
    have hlt := r.lt
    have hlen := r.len
    rcases Nat.lt_trichotomy k c with hk | hk | hk
    · have h1 : (k + 1) * (2 * w) ≤ c * (2 * w) := Nat.mul_le_mul_right _ hk
      rw [Nat.succ_mul] at h1
      exact r.done k (by omega)
    · subst hk
      have h1 : k * (2 * w) = (2 * k) * w := by rw [Nat.mul_comm 2 k, Nat.mul_assoc]
      have h2 : seg (k * (2 * w)) (k * (2 * w) + 2 * w) r0.2 = seg ((2 * k) * w) ((2 * k) * w + w) r0.2 := by
        rw [← h1]
        unfold seg
        rw [List.take_of_length_le (by omega), List.take_of_length_le (by omega)]
      rw [h2, seg_of_drop (c := r0.1) r.drop (by omega)]
      exact hb (2 * k)
    · have h1 : (c + 1) * (2 * w) ≤ k * (2 * w) := Nat.mul_le_mul_right _ hk
      rw [Nat.succ_mul] at h1
      have : seg (k * (2 * w)) (k * (2 * w) + 2 * w) r0.2 = [] := by
        apply List.eq_nil_of_length_eq_zero
        rw [seg_length]
        omega
      rw [this]
      exact List.Pairwise.nil

def passes (lt : α → α → Bool) (n : Nat) : Nat → Nat → List α → List α
  | 0, _, l => l
  | f + 1, w, l => if w < n then passes lt n f (2 * w) (passB lt w n l) else l

theorem passes_spec {lt : α → α → Bool} {n : Nat} : (f w : Nat) → (l : List α) → 0 < w → n ≤ f + w → l.length = n → LtK lt key l → BlkS key w l → passes lt n f w l = sortB lt l
  | 0, w, l, hw, hf, hn, hl, hb => by
    simp only [passes]
    refine eq_sortB hl ?_ (SameK.refl l)
    have := hb 0
    unfold seg at this
    simpa [List.take_of_length_le (show l.length ≤ w by omega)] using this
  | f + 1, w, l, hw, hf, hn, hl, hb => by
    simp only [passes]
    split
    · obtain ⟨h1, h2, h3⟩ := passB_spec hw hn hl hb
      rw [passes_spec f (2 * w) _ (by omega) (by omega) h3 (hl.sub fun z hz => h2.mem.1 hz) h1]
      obtain ⟨k1, k2⟩ := sortB_sort (l := passB lt w n l) (hl.sub fun z hz => h2.mem.1 hz)
      exact eq_sortB hl k1 (h2.trans k2)
    · refine eq_sortB hl ?_ (SameK.refl l)
      have := hb 0
      unfold seg at this
      simpa [List.take_of_length_le (show l.length ≤ w by omega)] using this

/-- All of it: blocks of twenty, then merges. -/
def stableB (lt : α → α → Bool) (l : List α) : List α :=
  let r := blkW lt 20 l.length (l.length + 1) 0 l
  passes lt l.length l.length 20 (partB lt r.1 l.length r.2)

theorem stableB_eq {lt : α → α → Bool} {l : List α} (hl : LtK lt key l) : stableB lt l = sortB lt l := by
  have r := blkW_spec (key := key) (lt := lt) (w := 20) (n := l.length) (by omega) (l.length + 1) 0 l (by omega) (by omega) rfl ⟨0, by simp⟩ hl (fun k hk => by omega)
  unfold stableB
  obtain ⟨h1, h2, h3⟩ := r.last hl
  simp only
  rw [passes_spec _ 20 _ (by omega) (by omega) h3 (hl.sub fun z hz => h2.mem.1 hz) h1]
  obtain ⟨k1, k2⟩ := sortB_sort (hl.sub fun z hz => h2.mem.1 hz)
  exact eq_sortB hl k1 (h2.trans k2)
end

end Go.Ab

/-
  Scopes in which ways jump back to a label; functions whose bodies are carried out piece by piece.
-/
namespace Go.Ab
open Go Go.RowKit

/-- Ways back to a label, as ways on. -/
def Tr.jn (l : Nat) : Tr → Tr
  | .leaf (.jump i) s => if i = l then .leaf .normal s else .need False (.leaf .ret s)
  | .leaf .normal s => .need False (.leaf .ret s)
  | .leaf e s => .leaf e s
  | .br b x y => .br b (x.jn l) (y.jn l)
  | .need p x => .need p (x.jn l)
  | .two p x y => .two p (x.jn l) (y.jn l)

theorem Tr.sat_jn {l : Nat} {Q : XE → St → Prop} : {t : Tr} → (t.jn l).sat Q → t.sat fun e s => match e with
    | .jump i => i = l ∧ Q .normal s
    | .normal => False
    | e => Q e s
  | .leaf e s, hq => by
    cases e with
    | normal => exact hq.1
    | exit i => exact hq
    | ret => exact hq
    | panic p => exact hq
    | val v => exact hq
    | jump i =>
      simp only [Tr.jn] at hq
      split at hq
      · rename_i h
        exact ⟨h, hq⟩
      · exact hq.1.elim
  | .br b x y, hq => ⟨fun hb => Tr.sat_jn (hq.1 hb), fun hb => Tr.sat_jn (hq.2 hb)⟩
  | .need p x, hq => ⟨hq.1, Tr.sat_jn hq.2⟩
  | .two p x y, hq => ⟨fun hb => Tr.sat_jn (hq.1 hb), Tr.sat_jn hq.2⟩

/-- Behind a piece that ends at a jump. -/
def AfterJ (P : Program) (E : Env) (l : Nat) (p : Pt) (Q : p.Out → Prop) (e : Exit) (a : Act) (w : World) : Prop :=
  ∃ r, Q r ∧ match r with
    | .next m => e = .goto l ∧ I P E (p.M.tpl p.n m) a w
    | .out y => e = .exit p.id ∧ I P E (p.E.tpl p.n y) a w
    | .back z => e = .ret ∧ I P E (p.R.tpl p.n z) a w
    | .pan v => e = .panic [{ v := v.val, recovered := false }] ∧ ∃ s, s.n = p.n ∧ I P E s a w

def DoesJ (P : Program) (l : Nat) (c : Code) (L : LS) (p : Pt) (f : L.X → Fr p.Out) : Prop :=
  ∀ (E : Env) (a : Act) (w : World) (x : L.X) (Q : p.Out → Prop), I P E (L.tpl p.n x) a w → (f x).satP Q → c.wp P (AfterJ P E l p Q) a w

def runPieceJ (P : Program) (C : Cx) (bs : Nat) (Λ : Nat → St → Option Tr) (l : Nat) (c : Code) (L : LS) (p : Pt) (x : L.X) : Option (Fr p.Out) :=
  match codeA P C bs Λ c 0 (L.tpl p.n x) with
  | some t => p.lp.rdOf C.Γ (t.jn l)
  | none => none

/-- What carries a code out. -/
def RunOK (P : Program) (E : Env) (c : Code) (run : St → Option Tr) : Prop :=
  ∀ s t, run s = some t → ∀ Q : XE → St → Prop, t.sat Q → ∀ (a : Act) (w : World), I P E s a w → c.wp P (After P E Q) a w

/-- One code, and then another. -/
def thenA (r1 r2 : St → Option Tr) (s : St) : Option Tr :=
  match r1 s with
  | some t => t.bind r2
  | none => none

/-- A function whose body is carried out so. -/
def runFx (P : Program) (run : St → Option Tr) (fn : Func) (ps : List PT) (rs : List Ty) (xs : denP ps) : Option (Fr (denL rs)) :=
  if (fn.name == "runtime.NumGoroutine") = false ∧ ps.length ≤ fn.ntmps then match run (startA fn.ntmps (encPs ps xs)) with
    | some t => frOf P fn.results.toList rs t
    | none => none
  else none

section
variable {P : Program} {E : Env}

theorem DoesJ.of_run {C : Cx} (hC : CxOK P C) {bs l : Nat} {Λ : Nat → St → Option Tr} {c : Code} {L : LS} {p : Pt} (hM : p.M.low = true) (hE : p.E.low = true) (hR : p.R.low = true) (hΛ : ∀ E, LamOK P E Λ c 0) {f : L.X → Fr p.Out}
    (hr : ∀ x, runPieceJ P C bs Λ l c L p x = some (f x)) : DoesJ P l c L p f := by
  intro E a w x Q hi hq
  have hrx := hr x
  unfold runPieceJ at hrx
  split at hrx <;> try (cases hrx; done)
  rename_i t ht
  have hsat := Tr.sat_jn (p.lp.rd_sat hrx hq)
  refine wp_mono (codeA_sound hC c 0 (hΛ E) ht hsat hi) ?_
  rintro e a' w' ⟨xe, s', rfl, his, hqs⟩
  cases xe with
  | normal => exact hqs.elim
  | exit i =>
    obtain ⟨rfl, hn', y, n', hy, hn, hqy⟩ := hqs
    have := ext_sound hC.ct hE his hy hn
    rw [hn'] at this
    exact ⟨.out y, hqy, rfl, this⟩
  | ret =>
    obtain ⟨hn', y, n', hy, hn, hqy⟩ := hqs
    have := ext_sound hC.ct hR his hy hn
    rw [hn'] at this
    exact ⟨.back y, hqy, rfl, this⟩
  | panic v => exact ⟨.pan v, hqs.2, rfl, s', hqs.1, his⟩
  | val _ => exact hqs.elim
  | jump _ =>
    obtain ⟨rfl, hn', y, n', hy, hn, hqy⟩ := hqs
    have := ext_sound hC.ct hM his hy hn
    rw [hn'] at this
    exact ⟨.next y, hqy, rfl, this⟩

/-- A scope that begins anew at every jump. -/
theorem DoesJ.scope {c rest : Code} {L N Eo R : LS} {n id l : Nat} {f : L.X → Fr (Rd L.X Eo.X R.X)} (hf : findLabel c l = some rest) (h1 : DoesJ P l c L ⟨n, id, L, Eo, R⟩ f) (h2 : DoesJ P l rest L ⟨n, id, L, Eo, R⟩ f)
    {F : L.X → Fr (Rd N.X Eo.X R.X)} {inv : L.X → Prop} {μ : L.X → Nat}
    (hlaw : ∀ x, inv x → ∀ Q : Rd N.X Eo.X R.X → Prop, (F x).satP Q → (f x).satP fun
      | .next x' => inv x' ∧ μ x' < μ x ∧ (F x').satP Q
      | .out y => Q (.out y)
      | .back z => Q (.back z)
      | .pan p => Q (.pan p)) (hinv : ∀ x Q, (F x).satP Q → inv x) : Does P (.scope c) L ⟨n, id, N, Eo, R⟩ F := by
  intro E a w x Q hi hq
  have key : ∀ x a w (c' : Code) (J : Nat → Act → World → Prop), (∀ a w (x' : L.X), inv x' → μ x' < μ x → I P E (L.tpl n x') a w → (F x').satP Q → ∃ m, m < μ x ∧ J m a w) → DoesJ P l c' L ⟨n, id, L, Eo, R⟩ f → inv x → I P E (L.tpl n x) a w → (F x).satP Q →
      c'.wp P (Exit.jump l (fun a w => ∃ m, m < μ x ∧ J m a w) (AfterR P E ⟨n, id, N, Eo, R⟩ Q)) a w := by
    intro x a w c' J hJ h hx hix hFx
    refine wp_mono (h E a w x _ hix (hlaw x hx Q hFx)) ?_
    rintro e a' w' ⟨r, hr, hm⟩
    cases r with
    | next x' =>
      obtain ⟨rfl, hi'⟩ := hm
      exact ⟨rfl, hJ a' w' x' hr.1 hr.2.1 hi' hr.2.2⟩
    | out y =>
      obtain ⟨rfl, hi'⟩ := hm
      exact ⟨.out y, hr, rfl, hi'⟩
    | back z =>
      obtain ⟨rfl, hi'⟩ := hm
      exact ⟨.back z, hr, rfl, hi'⟩
    | pan v =>
      obtain ⟨rfl, hi'⟩ := hm
      exact ⟨.pan v, hr, rfl, hi'⟩
  have hmono : ∀ {J J' : Act → World → Prop} {c' : Code} {a : Act} {w : World}, (∀ a w, J a w → J' a w) → c'.wp P (Exit.jump l J (AfterR P E ⟨n, id, N, Eo, R⟩ Q)) a w → c'.wp P (Exit.jump l J' (AfterR P E ⟨n, id, N, Eo, R⟩ Q)) a w := by
    intro J J' c' a w hJ h
    refine wp_mono h fun e a' w' he => ?_
    cases e with
    | goto l' => exact ⟨he.1, hJ _ _ he.2⟩
    | _ => exact he
  refine wp_scope_jumps l (fun a w => ∃ m, ∃ x, inv x ∧ μ x = m ∧ I P E (L.tpl n x) a w ∧ (F x).satP Q) (fun a w => leastOf fun m => ∃ x, inv x ∧ μ x = m ∧ I P E (L.tpl n x) a w ∧ (F x).satP Q) hf ?_ ?_
  · exact hmono (fun a w ⟨m, _, h⟩ => ⟨m, h⟩) (key x a w c (fun m a w => ∃ x, inv x ∧ μ x = m ∧ I P E (L.tpl n x) a w ∧ (F x).satP Q) (fun a w x' q1 q2 q3 q4 => ⟨μ x', q2, x', q1, rfl, q3, q4⟩) h1 (hinv x Q hq) hi hq)
  · rintro a w ⟨m, hm⟩
    obtain ⟨⟨x', q1, q2, q3, q4⟩, _⟩ := leastOf_spec (p := fun m => ∃ x, inv x ∧ μ x = m ∧ I P E (L.tpl n x) a w ∧ (F x).satP Q) ⟨m, hm⟩
    refine hmono (fun a1 w1 ⟨m1, r1, r2⟩ => ⟨⟨m1, r2⟩, ?_⟩) (key x' a w rest (fun m a w => ∃ x, inv x ∧ μ x = m ∧ I P E (L.tpl n x) a w ∧ (F x).satP Q) (fun a w x' q1 q2 q3 q4 => ⟨μ x', q2, x', q1, rfl, q3, q4⟩) h2 q1 q3 q4)
    rw [← q2]
    exact Nat.lt_of_le_of_lt ((leastOf_spec (p := fun m => ∃ x, inv x ∧ μ x = m ∧ I P E (L.tpl n x) a1 w1 ∧ (F x).satP Q) ⟨m1, r2⟩).2 m1 r2) r1

theorem Does.run {C : Cx} (hC : CxOK P C) {c : Code} {L : LS} {p : Pt} {F : L.X → Fr p.Out} (hL : L.low = true) (h : Does P c L p F) : RunOK P E c (p.han C.Γ L F) := by
  intro s t hs Q hq a w hi
  unfold Pt.han at hs
  split at hs <;> try (cases hs; done)
  rename_i hsn
  split at hs <;> try (cases hs; done)
  rename_i x n hx
  simp only [Option.some.injEq] at hs
  subst hs
  obtain ⟨hq1, hq2⟩ := needL_sat _ hq
  have hi' := ext_sound hC.ct hL hi hx hq1
  rw [hsn] at hi'
  refine wp_mono (h E a w x _ hi' (p.toTr_sat hq2)) ?_
  rintro e a' w' ⟨r, hr, hm⟩
  cases r with
  | next m =>
    obtain ⟨rfl, hi'⟩ := hm
    exact ⟨.normal, _, rfl, hi', hr⟩
  | out y =>
    obtain ⟨rfl, hi'⟩ := hm
    exact ⟨.exit p.id, _, rfl, hi', hr⟩
  | back z =>
    obtain ⟨rfl, hi'⟩ := hm
    exact ⟨.ret, _, rfl, hi', hr⟩
  | pan v =>
    obtain ⟨rfl, s', hn', hi'⟩ := hm
    have hdead : I P E ⟨p.n, fun _ => .dead, fun _ => none, fun _ => .dead⟩ a' w' := by
      have := ext_sound hC.ct (L := ⟨[], []⟩) rfl hi' (x := ((), ())) (n := []) rfl trivial
      rw [hn'] at this
      obtain ⟨F', γ', h⟩ := this
      exact ⟨F', γ', h.n, h.df, h.step, h.mem, fun t => trivial, fun t g want v ht => (nomatch ht), fun t => trivial⟩
    exact ⟨.panic v, _, rfl, hdead, hr⟩

theorem codeA_run {C : Cx} (hC : CxOK P C) {bs : Nat} {Λ : Nat → St → Option Tr} {c : Code} (hΛ : LamOK P E Λ c 0) : RunOK P E c (codeA P C bs Λ c 0) :=
  fun _ _ h _ hq _ _ hi => codeA_sound hC c 0 hΛ h hq hi

theorem thenA_run {x y : Code} {r1 r2 : St → Option Tr} (h1 : RunOK P E x r1) (h2 : RunOK P E y r2) : RunOK P E (.seq x y) (thenA r1 r2) := by
  intro s t h Q hq a w hi
  unfold thenA at h
  split at h <;> try (cases h; done)
  rename_i t1 ht1
  refine wp_seq (wp_mono (h1 s t1 ht1 _ (Tr.sat_bind h hq) a w hi) ?_)
  rintro e a' w' ⟨xe, s', rfl, hi', hq'⟩
  cases xe with
  | normal =>
    obtain ⟨u, hu, hqu⟩ := hq'
    exact h2 _ u hu Q hqu a' w' hi'
  | exit i => exact ⟨.exit i, s', rfl, hi', hq'⟩
  | ret => exact ⟨.ret, s', rfl, hi', hq'⟩
  | panic p => exact ⟨.panic p, s', rfl, hi', hq'⟩
  | val v => exact ⟨.val v, s', rfl, hi', hq'⟩
  | jump l => exact ⟨.jump l, s', rfl, hi', hq'⟩

theorem fx_sound {f : FuncId} {fn : Func} {c : Code} {run : St → Option Tr} {ps : List PT} {rs : List Ty} {fr : denP ps → Fr (denL rs)} (x0 : denP ps)
    (hf : P.funcs[f]? = some fn) (hb : fn.body = some c) (hrn : ∀ E, RunOK P E c run) (hrun : ∀ xs, runFx P run fn ps rs xs = some (fr xs)) : SoundCt P f ⟨ps, rs, fun xs => (fr xs).get, fun xs => [(fr xs).ok]⟩ := by
  have h0 := hrun x0
  unfold runFx at h0
  split at h0 <;> try (cases h0; done)
  rename_i hc
  obtain ⟨hname, hn⟩ := hc
  refine ⟨enters hf hb hname, fun w F xs vs hbd hr hok => calls_of_wp hf hb ?_⟩
  have hr' := hrun xs
  unfold runFx at hr'
  rw [if_pos ⟨hname, hn⟩] at hr'
  split at hr' <;> try (cases hr'; done)
  rename_i t ht
  have hlen : vs.length = ps.length := by
    have : ∀ {ps : List PT} {xs : denP ps} {vs : List Value}, RepPs P w F ps xs vs → vs.length = ps.length := by
      intro ps
      induction ps with
      | nil => intro xs vs h; cases h; rfl
      | cons p r ih =>
        intro xs vs h
        obtain ⟨v, vs', rfl, _, h3⟩ := h
        simp [ih h3]
    exact this hr
  have hstart := start_inv (D := []) (n := fn.ntmps) hbd (fun R => encPs_rep (R := R) hr) (by omega)
  have hwp := hrn _ _ t ht _ (fr_sat hr' hok) _ _ hstart
  have hsz : (vs.toArray).size = vs.length := by simp
  rw [hsz]
  refine wp_mono hwp ?_
  rintro e a' w' ⟨xe, s, rfl, ⟨F', γ', hi⟩, hxe, n, hend, hnn⟩
  have hfin : a'.defers = [] ∧ ∃ v, (results fn a'.tmps).run P w' = .ok v w' ∧ Post w F rs (fr xs).get (.returned v) w' := by
    unfold endA at hend
    split at hend <;> try (cases hend; done)
    rename_i avs n' hres
    split at hend <;> try (cases hend; done)
    rename_i axs u hrs
    split at hend <;> try (cases hend; done)
    rename_i y hdec
    simp only [Option.some.injEq] at hend
    obtain ⟨hn', hy⟩ := needL_inj hend hnn
    subst hy
    obtain ⟨us, hran, hreps⟩ := res_run hi hres hn'
    obtain ⟨F'', hs, hm', _, hxs⟩ := rsAs_sound hi.mem (inv_bd hi) (SubM.of fun _ _ h => h) hrs hreps
    obtain ⟨γ0, h0⟩ := hi.step
    have hst := h0.trans hs
    refine ⟨hi.df, _, results_run hran, _, F'', rfl, ⟨hst.os, hst.tape, hst.output, hst.size, hst.old⟩, hst.hF, fun b hb => ⟨hst.new b hb, hst.bd b hb⟩, repR_of (decVs_rep hdec hxs)⟩
  rcases hxe with rfl | rfl
  · exact hfin
  · exact hfin

end
end Go.Ab
