/-
  step.Sum: its contract.
-/
import Derived.Test.YtbfcnjddddjbbaaD4
namespace Go.Proofs.Ytbfcnjddddjbbaa
open Go Go.Ab Go.RowKit Go.Proofs Go.Shelf

theorem arr2 {cs : Array Value} {a b : Value} (hs : cs.size = 2) (h0 : cs[0]? = some a) (h1 : cs[1]? = some b) : cs = #[a, b] := by
  apply Array.ext
  · simp [hs]
  · intro i hi hj
    have h2 : i < 2 := by omega
    match i, h2 with
    | 0, _ =>
      have := Array.getElem?_eq_some_iff.1 h0
      simpa using this.2
    | 1, _ =>
      have := Array.getElem?_eq_some_iff.1 h1
      simpa using this.2

theorem step_val {w : World} {F : Nat → Prop} {f : stepT.den} {v : Value} (h : RepV w F stepT f v) : ∃ a b, v = .agg #[a, b] ∧ RepT w F ints f.1 (fun _ u => u = a) ∧ RepT w F ints f.2.1 (fun _ u => u = b) := by
  obtain ⟨cs, rfl⟩ := h.2.1.1 rfl
  have hs : cs.size = 2 := h.1
  refine ⟨cs[0]'(by omega), cs[1]'(by omega), ?_, ?_, ?_⟩
  · congr 1
    exact arr2 hs (Array.getElem?_eq_getElem (by omega)) (Array.getElem?_eq_getElem (by omega))
  · refine RepT.mono (fun _ h => h) (fun _ _ => rfl) ?_ h.2.2.1
    intro j u hj hu
    have : j = 0 := by have : j < 1 := hj; omega
    subst this
    have hu' : cs[0]? = some u := hu
    rw [Array.getElem?_eq_getElem (by omega)] at hu'
    simpa using hu'.symm
  · refine RepT.mono (fun _ h => h) (fun _ _ => rfl) ?_ h.2.2.2.1
    intro j u hj hu
    have : j = 0 := by have : j < 1 := hj; omega
    subst this
    have hu' : cs[1]? = some u := hu
    rw [Array.getElem?_eq_getElem (by omega)] at hu'
    simpa using hu'.symm

theorem span_val {w : World} {F : Nat → Prop} {s : spanT.den} {v : Value} (h : RepV w F spanT s v) : v = .agg #[.int .i64 s.1, .int .i64 s.2.1] ∧ (-9223372036854775808 ≤ s.1 ∧ s.1 ≤ 9223372036854775807) ∧ -9223372036854775808 ≤ s.2.1 ∧ s.2.1 ≤ 9223372036854775807 := by
  obtain ⟨cs, rfl⟩ := h.2.1.1 rfl
  have hs : cs.size = 2 := h.1
  have h0 : cs[0]? = some (.int .i64 s.1) := h.2.2.1.1
  have h1 : cs[1]? = some (.int .i64 s.2.1) := h.2.2.2.1.1
  exact ⟨by rw [arr2 hs h0 h1], h.2.2.1.2, h.2.2.2.1.2⟩

theorem sumGo_inv : {l : List (Int × Int × Int)} → (∀ x ∈ l, PieceOk x) → {q q' : Int × Int} → SumInv q → sumGo l q = some q' → SumInv q'
  | [], _, q, q', hq, h => by
    simp only [sumGo, Option.some.injEq] at h
    subst h
    exact hq
  | x :: l, hl, q, q', hq, h => by
    simp only [sumGo] at h
    cases hs : sumStep q x with
    | none => rw [hs] at h; cases h
    | some q1 =>
      rw [hs] at h
      exact sumGo_inv (fun y hy => hl y (by simp [hy])) (sumStep_inv (hl x (by simp)) hs hq).1 h

theorem fullS_iff {a b : Int} {u : Unit} : fullS (a, b, u) = true ↔ 1 ≤ a ∧ a < b ∧ b ≤ 292195 := by
  simp [fullS]

theorem tuple2 {w : World} {F : Nat → Prop} {a b : Int} (ha : -9223372036854775808 ≤ a ∧ a ≤ 9223372036854775807) (hb : -9223372036854775808 ≤ b ∧ b ≤ 9223372036854775807) : RepR w F [i64, i64] (a, b, ()) (.tuple #[.int .i64 a, .int .i64 b]) :=
  ⟨_, rfl, _, _, rfl, ⟨rfl, ⟨fun h => (by cases h), fun ⟨cs, h⟩ => (by cases h)⟩, rfl, ha⟩, _, _, rfl, ⟨rfl, ⟨fun h => (by cases h), fun ⟨cs, h⟩ => (by cases h)⟩, rfl, hb⟩, rfl⟩

theorem asPieces : {l : List (Int × Int × Int)} → (∀ x ∈ l, PieceOk x) → ∃ all : List PieceT, all.map Subtype.val = l
  | [], _ => ⟨[], rfl⟩
  | x :: l, h => by
    obtain ⟨all, ha⟩ := asPieces (l := l) (fun y hy => h y (by simp [hy]))
    exact ⟨⟨x, h x (by simp)⟩ :: all, by simp [ha]⟩

theorem sum_ok : SoundCt Try.prog 15 cSum := by
  refine ⟨enters (fn := Try.f15) (by kernel_rfl) rfl rfl, fun w F xs vs hbd hr _ => ?_⟩
  obtain ⟨f, ⟨e0, e1, u⟩, _⟩ := xs
  obtain ⟨va, vs', rfl, hva, vb, vs'', rfl, hvb, hn⟩ := hr
  cases hn
  have hva' : RepV w F stepT f va := hva
  have hvb' : RepV w F spanT (e0, e1, u) vb := hvb
  obtain ⟨rfl, he0, he1⟩ := span_val hvb'
  obtain ⟨sa, sb, rfl, ha, hb⟩ := step_val hva'
  obtain ⟨A, c1, rfl, hl1, hl2, hcells⟩ := sl_cells ha
  obtain ⟨A', c2, rfl, hl3, hl4, _⟩ := sl_cells hb
  have hmono : ∀ W, Below w.heap.size w W → RepV W F stepT f (.agg #[.slice A f.1.length c1, .slice A' f.2.1.length c2]) := fun W hW => hva'.mono (fun _ h => h) (fun b hb => hW.block b (hbd b hb))
  have hspan : ∀ (W : World) (F : Nat → Prop), RepV W F spanT (e0, e1, u) (.agg #[.int .i64 e0, .int .i64 e1]) := fun W F => ⟨rfl, ⟨fun _ => ⟨_, rfl⟩, fun _ => rfl⟩, ⟨rfl, he0⟩, ⟨rfl, he1⟩, trivial⟩
  have hR : ∀ W, Below w.heap.size w W → Calls Try.prog 16 #[.agg #[.slice A f.1.length c1, .slice A' f.2.1.length c2]] W fun e w' => e = .returned (.bool (rightSt f)) ∧ Below W.heap.size W w' := fun W hW =>
    boolCall (ps := [.d stepT]) (g := fun x => rightSt x.1) right_ok (F := F) (xs := (f, ())) (vs := [_]) (fun b hb => Nat.lt_of_lt_of_le (hbd b hb) hW.size) ⟨_, [], rfl, hmono W hW, rfl⟩ trivial
  have hF : ∀ W, Calls Try.prog 23 #[.agg #[.int .i64 e0, .int .i64 e1]] W fun e w' => e = .returned (.bool (fullS (e0, e1, ()))) ∧ Below W.heap.size W w' := fun W =>
    boolCall (ps := [.d spanT]) (g := fun x => fullS x.1) fullS_ok (F := fun _ => False) (xs := ((e0, e1, ()), ())) (vs := [_]) (fun b hb => hb.elim) ⟨_, [], rfl, hspan W _, rfl⟩ trivial
  by_cases hyes : rightSt f = true ∧ fullS (e0, e1, ()) = true
  · obtain ⟨hr1, hr2⟩ := hyes
    obtain ⟨hlen, hup, _, hval⟩ := rightSt_spec hr1
    have hok := piecesGo_ok (f := f) hval (e := e1) (fullS_iff.1 hr2).2.2 f.1 e0 (fullS_iff.1 hr2).1 (fullS_iff.1 hr2).2.1
    obtain ⟨all, hall⟩ := asPieces hok
    rw [hr1] at hR
    rw [hr2] at hF
    have hl0 : f.1.length ≤ 9223372036854775807 := by
      have := Nat.le_trans hl1 hl2
      unfold maxLen at this
      omega
    have key := sum_yes f A A' c1 f.2.1.length c2 e0 e1 w hR hF all hall hl0 he0 (fun W hW hp => by
      obtain ⟨b, off, h1, h2, h3⟩ := hcells hp
      exact ⟨b, off, h1, hbd b h2, fun i x hx => ⟨(hW.cell (p := ⟨b, off + i, none⟩) (hbd b h2)).trans (h3 i x hx).1, (h3 i x hx).2⟩⟩)
      (fun W hW => valCalls_of (fun b hb => Nat.lt_of_lt_of_le (hbd b hb) hW.size) (hmono W hW) hup hlen)
    refine (callsIn_wide.1 key).mono ?_
    rintro e w' ⟨he, hbel⟩
    rw [hall] at he
    have hS : sumSt f (e0, e1, u) = match sumGo (piecesGo f e1 f.1 e0) (0, 0) with
        | some q => (q.1, 0)
        | none => (0, 5) := by
      unfold sumSt
      rw [if_pos ⟨hr1, hr2⟩]
      rfl
    cases hq : sumGo (piecesGo f e1 f.1 e0) (0, 0) with
    | none =>
      rw [hq] at he hS
      have he' : e = .returned (.tuple #[.int .i64 0, .int .i64 5]) := he
      refine ⟨_, F, he', hbel, fun _ h => h, fun b hb => ⟨.inl hb, Nat.lt_of_lt_of_le (hbd b hb) hbel.size⟩, ?_⟩
      show RepR w' F [i64, i64] ((sumSt f (e0, e1, u)).1, (sumSt f (e0, e1, u)).2, ()) _
      rw [hS]
      exact tuple2 (by decide) (by decide)
    | some q =>
      rw [hq] at he hS
      have he' : e = .returned (.tuple #[.int .i64 q.1, .int .i64 0]) := he
      refine ⟨_, F, he', hbel, fun _ h => h, fun b hb => ⟨.inl hb, Nat.lt_of_lt_of_le (hbd b hb) hbel.size⟩, ?_⟩
      show RepR w' F [i64, i64] ((sumSt f (e0, e1, u)).1, (sumSt f (e0, e1, u)).2, ()) _
      rw [hS]
      obtain ⟨j1, j2, j3, j4⟩ := sumGo_inv hok (q := (0, 0)) ⟨by decide, by decide, by decide, by decide⟩ hq
      exact tuple2 ⟨by show _ ≤ q.1; omega, by show q.1 ≤ _; omega⟩ (b := 0) (by decide)
  · have key := sum_no f A A' f.1.length c1 f.2.1.length c2 e0 e1 w hR hF hyes
    refine (callsIn_wide.1 key).mono ?_
    rintro e w' ⟨rfl, hbel⟩
    refine ⟨_, F, rfl, hbel, fun _ h => h, fun b hb => ⟨.inl hb, Nat.lt_of_lt_of_le (hbd b hb) hbel.size⟩, ?_⟩
    show RepR w' F [i64, i64] ((sumSt f (e0, e1, u)).1, (sumSt f (e0, e1, u)).2, ()) _
    have hS : sumSt f (e0, e1, u) = (0, 1) := if_neg hyes
    rw [hS]
    exact tuple2 (by decide) (by decide)

end Go.Proofs.Ytbfcnjddddjbbaa
