/-
  step.pieces: what goes through the days of a span, by what holds on them.
-/
import Derived.RangeFuncNested
import Derived.RangeFuncBound
import Derived.RangeFuncCalls
import Derived.RangeFuncLeaves
import Derived.Shelf.Abstract
import Derived.Shelf.RegionOpen
import Derived.WalkKit
import Derived.OwnWalkIn
import Derived.TacticsInMore
import Derived.LoopNIn
import Derived.LoopIn
import Derived.Lib.Hide
import Derived.Test.YtbfcnjddddjbbaaB5
import Derived.Test.YtbfcnjddddjbbaaAbD
namespace Go.Proofs.Ytbfcnjddddjbbaa
open Go Go.Ab Go.RowKit Go.Proofs Go.Shelf

attribute [local go_sem] Oper.semAt_some

/-- A slice of numbers, by its cells. -/
theorem sl_cells {w : World} {F : Nat → Prop} {l : List Int} {v : Value} (h : RepT w F ints l (fun _ u => u = v)) :
    ∃ A c, v = .slice A l.length c ∧ l.length ≤ c ∧ c ≤ maxLen ∧ (0 < l.length → ∃ b off, A = some ⟨b, off, none⟩ ∧ F b ∧ ∀ (i : Nat) (x : Int), l[i]? = some x → w.cell? ⟨b, off + i, none⟩ = some (.int .i64 x) ∧ -9223372036854775808 ≤ x ∧ x ≤ 9223372036854775807) := by
  obtain ⟨A, c, rfl, h1, h2, h3⟩ := h
  refine ⟨A, c, rfl, h1, h2, fun hp => ?_⟩
  obtain ⟨ad, rfl, hF, hc, _⟩ := h3 0 l[0] (List.getElem?_eq_getElem hp)
  have hs : ad.spot = none := by
    have hc' : w.cell? (ad.add (0 * i64.size + 0)) = some (.int .i64 l[0]) := hc
    have he : ad.add (0 * i64.size + 0) = ad := by simp [Addr.add]
    rw [he] at hc'
    unfold World.cell? at hc'
    split at hc'
    · split at hc'
      · cases hc'
      · rename_i hsp
        cases hsp2 : ad.spot with
        | none => rfl
        | some _ => rw [hsp2] at hsp; exact absurd rfl hsp
    · cases hc'
  obtain ⟨b, off, sp⟩ := ad
  simp only at hs
  subst hs
  refine ⟨b, off, rfl, hF, fun i x hx => ?_⟩
  obtain ⟨ad, hA, _, hcx, hr⟩ := h3 i x hx
  simp only [Option.some.injEq] at hA
  subst hA
  have hcx' : w.cell? ((⟨b, off, none⟩ : Addr).add (i * 1 + 0)) = some (.int .i64 x) := hcx
  have he : (⟨b, off, none⟩ : Addr).add (i * 1 + 0) = ⟨b, off + i, none⟩ := by
    unfold Addr.add
    split
    · have : i = 0 := by omega
      subst this
      rfl
    · simp
  rw [he] at hcx'
  exact ⟨hcx', hr⟩

/-- The spans of one value each: from one day on, to another. -/
def piecesGo (f : stepT.den) (e : Int) : List Int → Int → List (Int × Int × Int)
  | [], a => [(a, e, valAt f a)]
  | d :: l, a => if d ≤ a ∨ e ≤ d then piecesGo f e l a else (a, d, valAt f a) :: piecesGo f e l d

theorem piecesGo_pos (f : stepT.den) (e : Int) : (l : List Int) → (a : Int) → 0 < (piecesGo f e l a).length
  | [], _ => by simp [piecesGo]
  | d :: l, a => by
    unfold piecesGo
    split
    · exact piecesGo_pos f e l a
    · simp

def KpS (n₀ B1 B2 : Nat) (W W' : World) : Prop := Below n₀ W W' ∧ W'.heap[B1]? = W.heap[B1]? ∧ W'.heap[B2]? = W.heap[B2]?
theorem KpS.refl (n₀ B1 B2 : Nat) (W : World) : KpS n₀ B1 B2 W W := ⟨Below.refl _ _, rfl, rfl⟩
theorem KpS.trans {n₀ B1 B2 : Nat} {A B C : World} (h : KpS n₀ B1 B2 A B) (k : KpS n₀ B1 B2 B C) : KpS n₀ B1 B2 A C := ⟨h.1.trans k.1, k.2.1.trans h.2.1, k.2.2.trans h.2.2⟩
theorem KpS.below {n₀ B1 B2 : Nat} {W W' : World} (h : Below W.heap.size W W') (h0 : n₀ ≤ W.heap.size) (h1 : B1 < W.heap.size) (h2 : B2 < W.heap.size) : KpS n₀ B1 B2 W W' := ⟨h.mono h0, h.block _ h1, h.block _ h2⟩

theorem abide_below {β : Type} {B : Nat} {J : β → World → Prop} (hJ : AbidesFrom B J) {s : β} {W W' : World} (h : J s W) (hb : Below W.heap.size W W') : J s W' :=
  hJ s W W' none h ⟨hb.os, hb.tape, hb.output, hb.size, fun k hk _ => hb.block k hk⟩ (fun r e => nomatch e)

abbrev pieceV (x : Int × Int × Int) : Array Value := #[.agg #[.int .i64 x.1, .int .i64 x.2.1], .int .i64 x.2.2]

/-- Calls of value: what the days say. -/
def ValCalls (f : stepT.den) (va : Value) (W : World) : Prop := ∀ d : Int, -9223372036854775808 ≤ d → d ≤ 9223372036854775807 → Calls Try.prog 30 #[va, .int .i64 d] W fun e W' => e = .returned (.int .i64 (valAt f d)) ∧ Below W.heap.size W W'

theorem valCalls_of {f : stepT.den} {va : Value} {W : World} {F : Nat → Prop} (hb : ∀ b, F b → b < W.heap.size) (hr : RepV W F stepT f va) (h1 : f.1.Pairwise (· < ·)) (h2 : f.1.length = f.2.1.length) : ValCalls f va W := fun d hd1 hd2 => by
  have hi : RepV W F i64 d (.int .i64 d) := ⟨rfl, ⟨fun h => (by cases h), fun ⟨cs, h⟩ => (by cases h)⟩, rfl, hd1, hd2⟩
  refine (value_ok.2 W F (f, d, ()) [va, .int .i64 d] hb ⟨va, _, rfl, hr, _, [], rfl, hi, rfl⟩ ⟨h1, h2⟩).mono ?_
  rintro e W' ⟨v, F', rfl, hbel, _, _, hv⟩
  have hv' : RepA Try.prog W' F' (fun _ _ => True) (encV i64 (valAt f d)) v := encV_rep hv
  have hv2 : v = .int .i64 (valAt f d) := hv'.2.1
  exact ⟨by rw [hv2], hbel⟩

end Go.Proofs.Ytbfcnjddddjbbaa
