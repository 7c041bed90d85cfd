/-
  step.Sum: what it says, plainly; how its pieces come.
-/
import Derived.Test.YtbfcnjddddjbbaaD2
namespace Go.Proofs.Ytbfcnjddddjbbaa
open Go Go.Ab Go.RowKit Go.Proofs Go.Shelf

attribute [local go_sem] Oper.semAt_some

theorem money_iff {v : Int} : money v = true ↔ -4000000000000000000 ≤ v ∧ v ≤ 4000000000000000000 := by simp [money]

/-- Steps that may be: their days rise, and are days; their values are amounts. -/
theorem rises_spec : {l r : List Int} → {d v : Int} → rises l r d v = true → l.length = r.length → l.Pairwise (· < ·) ∧ (∀ x ∈ l, d < x ∧ x ≤ 292194) ∧ ∀ y ∈ r, money y = true
  | [], [], _, _, _, _ => ⟨List.Pairwise.nil, by simp, by simp⟩
  | [], _ :: _, _, _, _, hl => by simp at hl
  | _ :: _, [], _, _, _, hl => by simp at hl
  | a :: l, b :: r, d, v, h, hl => by
    simp only [rises, Bool.and_eq_true, decide_eq_true_eq] at h
    obtain ⟨⟨h1, h2, h3, h4⟩, h5⟩ := h
    obtain ⟨i1, i2, i3⟩ := rises_spec h5 (by simpa using hl)
    refine ⟨List.pairwise_cons.2 ⟨fun x hx => (i2 x hx).1, i1⟩, fun x hx => ?_, fun y hy => ?_⟩
    · rcases List.mem_cons.1 hx with rfl | hx
      · exact ⟨h1, h2⟩
      · exact ⟨Int.lt_trans h1 (i2 x hx).1, (i2 x hx).2⟩
    · rcases List.mem_cons.1 hy with rfl | hy
      · exact h4
      · exact i3 y hy

theorem rightSt_spec {f : stepT.den} (h : rightSt f = true) : f.1.length = f.2.1.length ∧ f.1.Pairwise (· < ·) ∧ (∀ x ∈ f.1, 0 < x ∧ x ≤ 292194) ∧ ∀ y ∈ f.2.1, -4000000000000000000 ≤ y ∧ y ≤ 4000000000000000000 := by
  simp only [rightSt, Bool.and_eq_true, decide_eq_true_eq] at h
  obtain ⟨h1, h2, h3⟩ := rises_spec h.2 h.1
  exact ⟨h.1, h1, h2, fun y hy => money_iff.1 (h3 y hy)⟩

theorem valAt_bd {f : stepT.den} (h : ∀ y ∈ f.2.1, -4000000000000000000 ≤ y ∧ y ≤ 4000000000000000000) (d : Int) : -4000000000000000000 ≤ valAt f d ∧ valAt f d ≤ 4000000000000000000 := by
  unfold valAt
  split
  · omega
  · rename_i k _
    rw [List.getD_eq_getElem?_getD]
    cases hk : f.2.1[k]? with
    | none => simp
    | some y =>
      have := h y (List.mem_of_getElem? hk)
      simpa using this

/-- What each piece is. -/
def PieceOk (x : Int × Int × Int) : Prop := 1 ≤ x.1 ∧ x.1 < x.2.1 ∧ x.2.1 ≤ 292195 ∧ -4000000000000000000 ≤ x.2.2 ∧ x.2.2 ≤ 4000000000000000000

theorem piecesGo_ok {f : stepT.den} (h : ∀ y ∈ f.2.1, -4000000000000000000 ≤ y ∧ y ≤ 4000000000000000000) {e : Int} (he : e ≤ 292195) : (l : List Int) → (a : Int) → 1 ≤ a → a < e → ∀ x ∈ piecesGo f e l a, PieceOk x
  | [], a, h1, h2, x, hx => by
    simp only [piecesGo, List.mem_singleton] at hx
    subst hx
    exact ⟨h1, h2, he, valAt_bd h a⟩
  | d :: l, a, h1, h2, x, hx => by
    unfold piecesGo at hx
    split at hx
    · exact piecesGo_ok h he l a h1 h2 x hx
    · rename_i hc
      rcases List.mem_cons.1 hx with rfl | hx
      · exact ⟨h1, by show a < d; omega, by show d ≤ 292195; omega, valAt_bd h a⟩
      · exact piecesGo_ok h he l d (by omega) (by omega) x hx

abbrev PieceT : Type := { x : Int × Int × Int // PieceOk x }

def sumStep (q : Int × Int) (x : Int × Int × Int) : Option (Int × Int) :=
  if max x.2.2 (-x.2.2) > (4000000000000000000 - q.2) / (x.2.1 - x.1) then none else some (q.1 + (x.2.1 - x.1) * x.2.2, q.2 + (x.2.1 - x.1) * max x.2.2 (-x.2.2))
def sumGo : List (Int × Int × Int) → Int × Int → Option (Int × Int)
  | [], q => some q
  | x :: l, q => (sumStep q x).bind (sumGo l)

theorem sumGo_append (l m : List (Int × Int × Int)) (q : Int × Int) : sumGo (l ++ m) q = (sumGo l q).bind (sumGo m) := by
  induction l generalizing q with
  | nil => rfl
  | cons x l ih =>
    simp only [List.cons_append, sumGo]
    cases sumStep q x with
    | none => rfl
    | some q' => exact ih q'

def SumInv (q : Int × Int) : Prop := 0 ≤ q.2 ∧ q.2 ≤ 4000000000000000000 ∧ -q.2 ≤ q.1 ∧ q.1 ≤ q.2

theorem sumStep_inv {q q' : Int × Int} {x : Int × Int × Int} (hx : PieceOk x) (h : sumStep q x = some q') (hq : SumInv q) : SumInv q' ∧ (x.2.1 - x.1) * max x.2.2 (-x.2.2) ≤ 4000000000000000000 - q.2 ∧ 0 ≤ (x.2.1 - x.1) * max x.2.2 (-x.2.2) ∧ -((x.2.1 - x.1) * max x.2.2 (-x.2.2)) ≤ (x.2.1 - x.1) * x.2.2 ∧ (x.2.1 - x.1) * x.2.2 ≤ (x.2.1 - x.1) * max x.2.2 (-x.2.2) := by
  obtain ⟨h1, h2, h3, h4, h5⟩ := hx
  obtain ⟨a, b, v⟩ := x
  obtain ⟨s, t⟩ := q
  obtain ⟨g1, g2, g3, g4⟩ := hq
  simp only at *
  unfold sumStep at h
  split at h
  · cases h
  · rename_i hc
    simp only [Option.some.injEq] at h
    subst h
    simp only at *
    have hn : 0 < b - a := by omega
    have hle : max v (-v) ≤ (4000000000000000000 - t) / (b - a) := by omega
    have e1 : (b - a) * max v (-v) ≤ 4000000000000000000 - t := by
      have := (Int.le_ediv_iff_mul_le hn).1 hle
      rw [Int.mul_comm]
      exact this
    have e2 : 0 ≤ (b - a) * max v (-v) := Int.mul_nonneg (by omega) (by omega)
    have e3 : (b - a) * v ≤ (b - a) * max v (-v) := Int.mul_le_mul_of_nonneg_left (by omega) (by omega)
    have e4 : -((b - a) * max v (-v)) ≤ (b - a) * v := by
      rw [← Int.mul_neg]
      exact Int.mul_le_mul_of_nonneg_left (by omega) (by omega)
    generalize (b - a) * max v (-v) = m at *
    generalize (b - a) * v = k at *
    refine ⟨⟨?_, ?_, ?_, ?_⟩, e1, e2, e4, e3⟩ <;> simp only <;> omega

/-- What a step's values are together: and why not. -/
def sumSt (f : stepT.den) (s : spanT.den) : Int × Int :=
  if rightSt f = true ∧ fullS s = true then match sumGo (piecesGo f s.2.1 f.1 s.1) (0, 0) with
    | some q => (q.1, 0)
    | none => (0, 5)
  else (0, 1)

def cSum : Ct := ⟨[.d stepT, .d spanT], [i64, i64], fun x => ((sumSt x.1 x.2.1).1, (sumSt x.1 x.2.1).2, ()), fun _ => []⟩

set_option maxRecDepth 100000 in
set_option maxHeartbeats 1000000 in
theorem pieces_in (n : Nat) (A A' : Option Addr) (l1 c1 l2 c2 : Nat) (e0 e1 : Int) (w : World) :
    CallsIn Fence.wide n Try.prog 24 #[.agg #[.slice A l1 c1, .slice A' l2 c2], .agg #[.int .i64 e0, .int .i64 e1]] w fun e w' =>
      e = .returned (.func (.func 29) #[] #[.pointer (some ⟨w.heap.size + 1, 0, none⟩), .pointer (some ⟨w.heap.size, 0, none⟩)]) ∧
      w' = (w.alloc (.cells #[.slice A l1 c1, .slice A' l2 c2] 45)).alloc (.cells #[.int .i64 e0, .int .i64 e1] 31) := by
  refine callsIn_of_wp Try.func24 rfl trivial ?_ rfl
  simp only [Try.ntmps24, List.size_toArray, List.length_cons, List.length_nil, Nat.reduceAdd, Nat.reduceSub, Array.replicate_succ, Array.replicate_zero, List.push_toArray, List.append_toArray, List.nil_append, List.cons_append]
  gi_wp2
  go_ret
  exact ⟨rfl, rfl⟩

end Go.Proofs.Ytbfcnjddddjbbaa
