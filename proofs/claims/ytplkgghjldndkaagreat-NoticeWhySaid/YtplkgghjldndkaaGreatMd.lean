/-
  Parts of the proof, one behind the other: B2, B4, B5, D1, D2, D3, D4, D5, C1, C4, C5, C2, E1, E2, AbE, H1, H2, H3, H4, H5, H6, H7, H8, H9, H10, H11, H12, H13, H14, H15, H16, H17, H18.
-/
import Derived.Test.YtplkgghjldndkaaGreatMc
import Derived.IntWalk
import Derived.RangeFuncNested
import Derived.RangeFuncBound
import Derived.RangeFuncCalls
import Derived.RangeFuncLeaves
import Derived.Shelf.Abstract
import Derived.Shelf.RegionOpen
import Derived.WalkKit
import Derived.OwnWalkIn
import Derived.TacticsInMore
import Derived.LoopNIn
import Derived.LoopIn
import Derived.Lib.Hide
namespace Go.Proofs.YtplkgghjldndkaaGreat
open Go Go.Ab Go.RowKit Go.Proofs
def bodyOf : Code -> Nat -> Option Code
 | .loop c, 0 => some c
 | .seq a b, k => if k < loopsIn a then bodyOf a k else bodyOf b (k - loopsIn a)
 | .cond _ a b, k => if k < loopsIn a then bodyOf a k else bodyOf b (k - loopsIn a)
 | .block _ c, k => bodyOf c k
 | .scope c, k => bodyOf c k
 | _, _ => none
def loopOf (f : Func) (k : Nat) : Code := (f.body.bind (bodyOf · k)).getD .skip
def Γ2 : FuncId -> Option Ct := fun f => if f = 171 then some cNaN else if f = 166 then some cLess else none
def C2 : Cx := ⟨Γ2, fun _ => none, fun _ _ _ _ => none⟩
theorem C2_ok : CxOK Tryz.prog C2 := onlyCt fun f ct h => by
 simp only [Γ2] at h
 split at h
 ·rename_i hf; subst hf; cases h; exact nan1_ok
 ·split at h
  ·rename_i hf; subst hf; cases h; exact less_ok
  ·cases h
def cnt (l : List Int) (x : Int) : Nat := l.countP fun y => decide (y < x)
theorem cnt_at {l : List Int} {x : Int} {i : Nat} (h1 : ∀ k y, k < i -> l[k]? = some y -> y < x) (h2 : ∀ k y, i <= k -> l[k]? = some y -> ¬ y < x) (hi : i <= l.length) : cnt l x = i := by
 unfold cnt
 rw [← List.take_append_drop i l, List.countP_append]
 have e1 : (l.take i).countP (fun y => decide (y < x)) = (l.take i).length := by
  rw [List.countP_eq_length]
  intro y hy
  obtain ⟨k, hk⟩ := List.mem_iff_getElem?.1 hy
  rw [List.getElem?_take] at hk
  split at hk
  ·rename_i hlt
   simpa using h1 k y hlt hk
  ·cases hk
 have e2 : (l.drop i).countP (fun y => decide (y < x)) = 0 := by
  rw [List.countP_eq_zero]
  intro y hy
  obtain ⟨k, hk⟩ := List.mem_iff_getElem?.1 hy
  rw [List.getElem?_drop] at hk
  simpa using h2 (i + k) y (by omega) hk
 rw [e1, e2, List.length_take]
 omega
abbrev ptB : Pt := ⟨54, 0, ⟨[(0, .d ints), (1, .d i64), (6, .d i64), (7, .d i64), (8, .d i64)], []⟩, ⟨[(0, .d ints), (1, .d i64), (6, .d i64), (7, .d i64)], []⟩, ⟨[], []⟩⟩
def mid (i j : Int) : Int := IntKind.i64.wrap ((IntKind.u64.wrap (IntKind.i64.wrap (i + j))).fdiv (2 ^ min (Int.toNat 1) IntKind.u64.bits))
def frB (x : ptB.M.X) : Fr ptB.Out :=
 Fr.br (decide (x.1.2.2.2.1 < x.1.2.2.2.2.1))
  (Fr.need (¬ (1 : Int) < 0)
   (Fr.need (0 <= mid x.1.2.2.2.1 x.1.2.2.2.2.1 /\ mid x.1.2.2.2.1 x.1.2.2.2.2.1 < x.1.1.length)
    (Fr.br (cLess.f (x.1.1.getD (mid x.1.2.2.2.1 x.1.2.2.2.2.1).toNat i64.dflt, x.1.2.1, ())).1
     (Fr.val (Rd.next ((x.1.1, x.1.2.1, x.1.2.2.1, IntKind.i64.wrap (mid x.1.2.2.2.1 x.1.2.2.2.2.1 + 1), x.1.2.2.2.2.1, ()), ())))
     (Fr.val (Rd.next ((x.1.1, x.1.2.1, x.1.2.2.1, x.1.2.2.2.1, mid x.1.2.2.2.1 x.1.2.2.2.2.1, ()), ()))))))
  (Fr.val (Rd.out ((x.1.1, x.1.2.1, x.1.2.2.1, x.1.2.2.2.1, ()), ())))
theorem semB : Does Tryz.prog (loopOf Tryz.f167 0) ptB.M ptB frB :=
 Does.of_run C2_ok (bs := 0) (Λ := noΛ) rfl rfl rfl (fun E => noΛ_ok _ 0) (fun x => by kernel_rfl)
theorem mid_eq {i j : Int} (hi : 0 <= i) (hij : i <= j) (hj : j <= 9223372036854775807) : mid i j = (i + j) / 2 := by
 unfold mid
 have h1 : IntKind.u64.wrap (IntKind.i64.wrap (i + j)) = i + j := by
  rw [IntKind.wrap_i64, IntKind.wrap_u64]
  omega
 have h2 : (2 : Int) ^ min (Int.toNat 1) IntKind.u64.bits = 2 := by decide
 rw [h1, h2, Int.fdiv_eq_ediv_of_nonneg _ (by decide), IntWalk.i64_in _ (by omega)]
structure InvB (l : List Int) (x i j : Int) : Prop where
 lo : 0 <= i
 le : i <= j
 hi : j <= l.length
 big : (l.length : Int) <= 9223372036854775807
 up : l.Pairwise (· < ·)
 below : ∀ (k : Nat) (y : Int), (k : Int) < i -> l[k]? = some y -> y < x
 above : ∀ (k : Nat) (y : Int), j <= k -> l[k]? = some y -> ¬ y < x
def FB (x : ptB.M.X) : Fr ptB.Out :=
 Fr.need (InvB x.1.1 x.1.2.1 x.1.2.2.2.1 x.1.2.2.2.2.1) (Fr.val (Rd.out ((x.1.1, x.1.2.1, x.1.2.2.1, (cnt x.1.1 x.1.2.1 : Int), ()), ())))
theorem up_get {l : List Int} (h : l.Pairwise (· < ·)) {a b : Nat} {y z : Int} (hab : a < b) (ha : l[a]? = some y) (hb : l[b]? = some z) : y < z := by
 obtain ⟨h1, rfl⟩ := List.getElem?_eq_some_iff.1 ha
 obtain ⟨h2, rfl⟩ := List.getElem?_eq_some_iff.1 hb
 exact (List.pairwise_iff_getElem.1 h) a b h1 h2 hab
theorem lawB (l : List Int) (x n i j : Int) (hinv : InvB l x i j) (Q : ptB.Out -> Prop) (hQ : Q (Rd.out ((l, x, n, (cnt l x : Int), ()), ()))) :
  (frB ((l, x, n, i, j, ()), ())).satP fun
   | .next x' => InvB x'.1.1 x'.1.2.1 x'.1.2.2.2.1 x'.1.2.2.2.2.1 /\ (x'.1.2.2.2.2.1 - x'.1.2.2.2.1).toNat < (j - i).toNat /\ (FB x').satP Q
   | .out y => Q (.out y)
   | .back z => Q (.back z)
   | .pan p => Q (.pan p) := by
 obtain ⟨h1, h2, h3, h4, h5, h6, h7⟩ := hinv
 simp only [frB, Fr.satP, decide_eq_true_eq, decide_eq_false_iff_not]
 refine ⟨fun hij => ?_, fun hij => ?_⟩
 ·have hij : i < j := hij
  have hm := mid_eq h1 h2 (by omega)
  have hmid : 0 <= (i + j) / 2 /\ (i + j) / 2 < l.length := by omega
  rw [hm]
  refine ⟨by omega, hmid, ?_⟩
  obtain ⟨y, hy⟩ : ∃ y, l[((i + j) / 2).toNat]? = some y := by
   have : ((i + j) / 2).toNat < l.length := by omega
   exact ⟨_, List.getElem?_eq_getElem this⟩
  have hget : l.getD ((i + j) / 2).toNat i64.dflt = y := by
   rw [List.getD_eq_getElem?_getD, hy]
   rfl
  rw [hget]
  show (decide (y < x) = true -> _) /\ (decide (y < x) = false -> _)
  simp only [decide_eq_true_eq, decide_eq_false_iff_not]
  refine ⟨fun hyx => ?_, fun hyx => ?_⟩
  ·have hyx : y < x := hyx
   have hw : IntKind.i64.wrap ((i + j) / 2 + 1) = (i + j) / 2 + 1 := IntWalk.i64_in _ (by omega)
   rw [hw]
   have hn : InvB l x ((i + j) / 2 + 1) j := ⟨by omega, by omega, h3, h4, h5, fun k z hk hz => by
    by_cases hk2 : k < ((i + j) / 2).toNat
    ·exact Int.lt_trans (up_get h5 hk2 hz hy) hyx
    ·have : k = ((i + j) / 2).toNat := by omega
     subst this
     rw [hy] at hz
     cases hz
     exact hyx, h7⟩
   exact ⟨hn, by show (j - ((i + j) / 2 + 1)).toNat < (j - i).toNat; omega, hn, hQ⟩
  ·have hyx : ¬ y < x := hyx
   have hn : InvB l x i ((i + j) / 2) := ⟨h1, by omega, by omega, h4, h5, h6, fun k z hk hz => by
    by_cases hk2 : ((i + j) / 2).toNat < k
    ·have := up_get h5 hk2 hy hz
     omega
    ·have : k = ((i + j) / 2).toNat := by omega
     subst this
     rw [hy] at hz
     cases hz
     exact hyx⟩
   exact ⟨hn, by show ((i + j) / 2 - i).toNat < (j - i).toNat; omega, hn, hQ⟩
 ·have hij : ¬ i < j := hij
  have hij' : i = j := by omega
  subst hij'
  have hc : cnt l x = i.toNat := cnt_at (fun k y hk hy => h6 k y (by omega) hy) (fun k y hk hy => h7 k y (by omega) hy) (by omega)
  rw [hc] at hQ
  have : ((i.toNat : Nat) : Int) = i := by omega
  rw [this] at hQ
  exact hQ
theorem loopB : Does Tryz.prog (.loop (loopOf Tryz.f167 0)) ptB.M ptB FB := by
 refine Does.loop (n := 54) (id := 0) semB (inv := fun x => InvB x.1.1 x.1.2.1 x.1.2.2.2.1 x.1.2.2.2.2.1) (μ := fun x => (x.1.2.2.2.2.1 - x.1.2.2.2.1).toNat) ?_ (fun x Q h => h.1)
 rintro ⟨⟨l, x, n, i, j, _⟩, _⟩ hinv Q hq
 exact lawB l x n i j hinv Q hq.2
def cntLe (l : List Int) (x : Int) : Nat := l.countP fun y => decide (y <= x)
def valAt (f : stepT.den) (d : Int) : Int := match cntLe f.1 d with
 | 0 => 0
 | k + 1 => f.2.1.getD k 0
def rises : List Int -> List Int -> Int -> Int -> Bool
 | d :: l, v :: r, day, last => (decide (day < d) && (decide (d <= 292194) && (!(v == last) && money v))) && rises l r d v
 | _, _, _, _ => true
def rightSt (f : stepT.den) : Bool := decide (f.1.length = f.2.1.length) && rises f.1 f.2.1 0 0
end Go.Proofs.YtplkgghjldndkaaGreat
namespace Go.Proofs.YtplkgghjldndkaaGreat
open Go Go.Ab Go.RowKit Go.Proofs Go.Shelf
attribute [local go_sem] Oper.semAt_some
def piecesGo (f : stepT.den) (e : Int) : List Int -> Int -> List (Int × Int × Int)
 | [], a => [(a, e, valAt f a)]
 | d :: l, a => if d <= a ∨ e <= d then piecesGo f e l a else (a, d, valAt f a) :: piecesGo f e l d
def KpS (n₀ B1 B2 : Nat) (W W' : World) : Prop := Below n₀ W W' /\ W'.heap[B1]? = W.heap[B1]? /\ W'.heap[B2]? = W.heap[B2]?
theorem KpS.refl (n₀ B1 B2 : Nat) (W : World) : KpS n₀ B1 B2 W W := ⟨Below.refl _ _, rfl, rfl⟩
theorem KpS.trans {n₀ B1 B2 : Nat} {A B C : World} (h : KpS n₀ B1 B2 A B) (k : KpS n₀ B1 B2 B C) : KpS n₀ B1 B2 A C := ⟨h.1.trans k.1, k.2.1.trans h.2.1, k.2.2.trans h.2.2⟩
theorem KpS.below {n₀ B1 B2 : Nat} {W W' : World} (h : Below W.heap.size W W') (h0 : n₀ <= W.heap.size) (h1 : B1 < W.heap.size) (h2 : B2 < W.heap.size) : KpS n₀ B1 B2 W W' := ⟨h.mono h0, h.block _ h1, h.block _ h2⟩
theorem abide_below {β : Type} {B : Nat} {J : β -> World -> Prop} (hJ : AbidesFrom B J) {s : β} {W W' : World} (h : J s W) (hb : Below W.heap.size W W') : J s W' :=
 hJ s W W' none h ⟨hb.os, hb.tape, hb.output, hb.size, fun k hk _ => hb.block k hk⟩ (fun r e => nomatch e)
end Go.Proofs.YtplkgghjldndkaaGreat
namespace Go.Proofs.YtplkgghjldndkaaGreat
open Go Go.Ab Go.RowKit Go.Proofs Go.Shelf
attribute [local go_sem] Oper.semAt_some
theorem cell_of_block {W : World} {b : Nat} {cs : Array Value} {t : TypeId} {x : Nat × Nat} (h : W.heap[b]? = some (.cells cs t x)) (i : Nat) : W.cell? ⟨b, i, none⟩ = cs[i]? := by
 simp [World.cell?, h]
section
variable {α : Type} {g : α -> Int × Int × Int}
theorem nextEl {β : Type} {g : α -> β} {all pre : List α} {y : β} {rest : List β} (h : pre.map g ++ y :: rest = all.map g) (hp : pre <+: all) : ∃ x, g x = y /\ pre ++ [x] <+: all := by
 obtain ⟨t, rfl⟩ := hp
 rw [List.map_append] at h
 have h' := List.append_cancel_left h
 cases t with
 | nil => cases h'
 | cons x t =>
  simp only [List.map_cons, List.cons.injEq] at h'
  exact ⟨x, h'.1.symm, t, by simp⟩
def PieceRel (g : α -> Int × Int × Int) (f : stepT.den) (e1 : Int) (at_ : List Int) (all : List α) (k : Nat) (cur : Int) (pre : List α) : Prop := pre <+: all /\ pre.map g ++ piecesGo f e1 (at_.drop k) cur = all.map g
theorem PieceRel.skip {f : stepT.den} {e1 : Int} {at_ : List Int} {all : List α} {k : Nat} {cur : Int} {pre : List α} (h : PieceRel g f e1 at_ all k cur pre) {d : Int} (hd : at_[k]? = some d) (hc : d <= cur ∨ e1 <= d) : PieceRel g f e1 at_ all (k + 1) cur pre := by
 obtain ⟨hk, rfl⟩ := List.getElem?_eq_some_iff.1 hd
 refine ⟨h.1, ?_⟩
 have h2 := h.2
 rw [List.drop_eq_getElem_cons hk] at h2
 rw [← h2]
 conv => rhs; unfold piecesGo
 rw [if_pos hc]
theorem PieceRel.step {f : stepT.den} {e1 : Int} {at_ : List Int} {all : List α} {k : Nat} {cur : Int} {pre : List α} (h : PieceRel g f e1 at_ all k cur pre) {d : Int} (hd : at_[k]? = some d) (hc : ¬ (d <= cur ∨ e1 <= d)) :
  ∃ x, g x = (cur, d, valAt f cur) /\ PieceRel g f e1 at_ all (k + 1) d (pre ++ [x]) /\ pre.length < all.length := by
 obtain ⟨hk, rfl⟩ := List.getElem?_eq_some_iff.1 hd
 have h2 := h.2
 rw [List.drop_eq_getElem_cons hk] at h2
 unfold piecesGo at h2
 rw [if_neg hc] at h2
 obtain ⟨x, hx, hp⟩ := nextEl h2 h.1
 refine ⟨x, hx, ⟨hp, ?_⟩, ?_⟩
 ·rw [← h2]
  simp [hx]
 ·have := hp.length_le
  simp at this
  omega
theorem PieceRel.last {f : stepT.den} {e1 : Int} {at_ : List Int} {all : List α} {k : Nat} {cur : Int} {pre : List α} (h : PieceRel g f e1 at_ all k cur pre) (hk : at_.length <= k) :
  ∃ x, g x = (cur, e1, valAt f cur) /\ pre ++ [x] = all /\ pre.length < all.length := by
 have h2 := h.2
 rw [List.drop_eq_nil_of_le hk] at h2
 obtain ⟨x, hx, hp⟩ := nextEl (y := (cur, e1, valAt f cur)) (rest := []) h2 h.1
 have hl := congrArg List.length h2
 simp [piecesGo] at hl
 refine ⟨x, hx, hp.eq_of_length (by simp; omega), by omega⟩
end
end Go.Proofs.YtplkgghjldndkaaGreat
namespace Go.Proofs.YtplkgghjldndkaaGreat
open Go Go.Ab Go.RowKit Go.Proofs Go.Shelf
attribute [local go_sem] Oper.semAt_some
theorem money_iff {v : Int} : money v = true ↔ -4000000000000000000 <= v /\ v <= 4000000000000000000 := by simp [money]
theorem rises_spec : {l r : List Int} -> {d v : Int} -> rises l r d v = true -> l.length = r.length -> l.Pairwise (· < ·) /\ (∀ x ∈ l, d < x /\ x <= 292194) /\ ∀ y ∈ r, money y = true
 | [], [], _, _, _, _ => ⟨List.Pairwise.nil, by simp, by simp⟩
 | [], _ :: _, _, _, _, hl => by simp at hl
 | _ :: _, [], _, _, _, hl => by simp at hl
 | a :: l, b :: r, d, v, h, hl => by
  simp only [rises, Bool.and_eq_true, decide_eq_true_eq] at h
  obtain ⟨⟨h1, h2, h3, h4⟩, h5⟩ := h
  obtain ⟨i1, i2, i3⟩ := rises_spec h5 (by simpa using hl)
  refine ⟨List.pairwise_cons.2 ⟨fun x hx => (i2 x hx).1, i1⟩, fun x hx => ?_, fun y hy => ?_⟩
  ·rcases List.mem_cons.1 hx with rfl | hx
   ·exact ⟨h1, h2⟩
   ·exact ⟨Int.lt_trans h1 (i2 x hx).1, (i2 x hx).2⟩
  ·rcases List.mem_cons.1 hy with rfl | hy
   ·exact h4
   ·exact i3 y hy
end Go.Proofs.YtplkgghjldndkaaGreat
namespace Go.Proofs.YtplkgghjldndkaaGreat
open Go Go.Ab Go.RowKit Go.Proofs Go.Shelf
attribute [local go_sem] Oper.semAt_some
structure Four (W : World) (z : Nat) (va vb x0 x1 x4 x5 : Value) : Prop where
 b0 : W.heap[z]? = some (.cells #[va, vb] 97 (0, 0))
 b1 : W.heap[z + 1]? = some (.cells #[x0, x1] 23 (0, 0))
 b2 : Boxed W (z + 1 + 1) 3 x4
 b3 : Boxed W (z + 1 + 1 + 1) 41 x5
theorem Four.below {W W' : World} {z m : Nat} {va vb x0 x1 x4 x5 : Value} (h : Four W z va vb x0 x1 x4 x5) (hb : Below m W W') (hm : z + 3 < m) : Four W' z va vb x0 x1 x4 x5 :=
 ⟨(hb.block _ (by omega)).trans h.b0, (hb.block _ (by omega)).trans h.b1, (hb.block _ (by omega)).trans h.b2, (hb.block _ (by omega)).trans h.b3⟩
theorem Four.cells {W : World} {z : Nat} {va vb x0 x1 x4 x5 : Value} (h : Four W z va vb x0 x1 x4 x5) :
  W.cell? ⟨z, 0, none⟩ = some va /\ W.cell? ⟨z, 1, none⟩ = some vb /\ W.cell? ⟨z + 1, 0, none⟩ = some x0 /\ W.cell? ⟨z + 1, 1, none⟩ = some x1 /\
   W.cell? ⟨z + 1 + 1, 0, none⟩ = some x4 /\ W.frozen? ⟨z + 1 + 1, 0, none⟩ = false /\ W.cell? ⟨z + 1 + 1 + 1, 0, none⟩ = some x5 /\ W.frozen? ⟨z + 1 + 1 + 1, 0, none⟩ = false :=
 ⟨cell_of_block h.b0 0, cell_of_block h.b0 1, cell_of_block h.b1 0, cell_of_block h.b1 1, h.b2.cell, h.b2.frozen, h.b3.cell, h.b3.frozen⟩
theorem box_abides {X Y : World} {row : Option Nat} {B b : Nat} {t : TypeId} {v : Value} (h : Boxed X b t v) (hg : X.grownBy Y row) (hr : ∀ r, row = some r -> B <= r /\ ∃ o : Obj, X.heap[r]? = some o /\ o.isCells = false) : Boxed Y b t v :=
 boxed_own b t (fun (_ : Unit) => v) () X Y row h hg (fun r e => (hr r e).2)
end Go.Proofs.YtplkgghjldndkaaGreat
namespace Go.Proofs.YtplkgghjldndkaaGreat
open Go Go.Ab Go.RowKit Go.Proofs Go.Shelf
theorem fullS_iff {a b : Int} {u : Unit} : fullS (a, b, u) = true ↔ 1 <= a /\ a < b /\ b <= 292195 := by
 simp [fullS]
end Go.Proofs.YtplkgghjldndkaaGreat
namespace Go.Proofs.YtplkgghjldndkaaGreat
open Go Go.Ab Go.RowKit Go.Proofs
abbrev slsT : Ty := .sl sliceT
theorem bif_and (a b : Bool) : (bif a then b else false) = (a && b) := by cases a <;> rfl
theorem bif_or (a b : Bool) : (bif a then true else b) = (a || b) := by cases a <;> rfl
theorem i64w {n : Int} (h : -9223372036854775808 <= n /\ n <= 9223372036854775807) : IntKind.i64.wrap n = n := IntWalk.i64_in _ h
def m32 (a : Int) : Int := IntKind.u64.wrap ((BitVec.ofInt IntKind.u64.bits a &&& BitVec.ofInt IntKind.u64.bits 4294967295).toNat : Int)
def h32 (a : Int) : Int := a.fdiv (2 ^ min (Int.toNat 32) IntKind.u64.bits)
theorem u64w {n : Int} (h : 0 <= n /\ n <= 18446744073709551615) : IntKind.u64.wrap n = n := IntWalk.u64_in _ h
theorem m32_eq {a : Int} (h : 0 <= a /\ a <= 18446744073709551615) : m32 a = a % 4294967296 := by
 obtain ⟨n, rfl⟩ : ∃ n : Nat, a = n := ⟨a.toNat, by omega⟩
 unfold m32
 have e1 : (BitVec.ofInt IntKind.u64.bits (n : Int) &&& BitVec.ofInt IntKind.u64.bits 4294967295).toNat = n % 4294967296 := by
  have h1 : (BitVec.ofInt IntKind.u64.bits (n : Int)).toNat = n := by
   rw [BitVec.toNat_ofInt]
   show ((n : Int) % ((2 ^ 64 : Nat) : Int)).toNat = n
   omega
  have h2 : (BitVec.ofInt IntKind.u64.bits (4294967295 : Int)).toNat = 2 ^ 32 - 1 := by decide
  rw [BitVec.toNat_and, h1, h2, Nat.and_two_pow_sub_one_eq_mod]
 rw [e1, u64w (by omega)]
 omega
theorem h32_eq {a : Int} : h32 a = a / 4294967296 := by
 unfold h32
 have : (2 : Int) ^ min (Int.toNat 32) IntKind.u64.bits = 4294967296 := by decide
 rw [this, Int.fdiv_eq_ediv_of_nonneg _ (by decide)]
def mulT (x y : Int) : Int := IntKind.u64.wrap (IntKind.u64.wrap (h32 x * m32 y) + h32 (IntKind.u64.wrap (m32 x * m32 y)))
def frMul (x : denP [.d u64, .d u64]) : Fr (denL [u64, u64]) :=
 Fr.need (¬ (32 : Int) < 0) (Fr.need (¬ (32 : Int) < 0) (Fr.need (¬ (32 : Int) < 0) (Fr.need (¬ (32 : Int) < 0) (Fr.need (¬ (32 : Int) < 0)
  (Fr.val (IntKind.u64.wrap (IntKind.u64.wrap (IntKind.u64.wrap (h32 x.1 * h32 x.2.1) + h32 (mulT x.1 x.2.1)) + h32 (IntKind.u64.wrap (m32 (mulT x.1 x.2.1) + IntKind.u64.wrap (m32 x.1 * h32 x.2.1)))),
   IntKind.u64.wrap (x.1 * x.2.1), ()))))))
def cMul : Ct := ⟨[.d u64, .d u64], [u64, u64], fun x => (x.1 * x.2.1 / 18446744073709551616, x.1 * x.2.1 % 18446744073709551616, ()), fun _ => []⟩
theorem prod_bd {a b n : Int} (ha : 0 <= a /\ a <= n) (hb : 0 <= b /\ b <= n) : 0 <= a * b /\ a * b <= n * n :=
 ⟨Int.mul_nonneg ha.1 hb.1, Int.mul_le_mul ha.2 hb.2 hb.1 (by omega)⟩
theorem mul_split (a1 a0 b1 b0 : Int) : (a1 * 4294967296 + a0) * (b1 * 4294967296 + b0) = a1 * b1 * 18446744073709551616 + (a1 * b0 + a0 * b1) * 4294967296 + a0 * b0 := by grind
theorem mul_plain {x y : Int} (hx : 0 <= x /\ x <= 18446744073709551615) (hy : 0 <= y /\ y <= 18446744073709551615) :
  IntKind.u64.wrap (IntKind.u64.wrap (IntKind.u64.wrap (h32 x * h32 y) + h32 (mulT x y)) + h32 (IntKind.u64.wrap (m32 (mulT x y) + IntKind.u64.wrap (m32 x * h32 y)))) = x * y / 18446744073709551616 := by
 have ex : x = x / 4294967296 * 4294967296 + x % 4294967296 := by omega
 have ey : y = y / 4294967296 * 4294967296 + y % 4294967296 := by omega
 have hs := mul_split (x / 4294967296) (x % 4294967296) (y / 4294967296) (y % 4294967296)
 rw [← ex, ← ey] at hs
 rw [hs]
 unfold mulT
 rw [m32_eq hx, m32_eq hy]
 simp only [h32_eq]
 have b1 : 0 <= x / 4294967296 /\ x / 4294967296 <= 4294967295 := by omega
 have b2 : 0 <= x % 4294967296 /\ x % 4294967296 <= 4294967295 := by omega
 have b3 : 0 <= y / 4294967296 /\ y / 4294967296 <= 4294967295 := by omega
 have b4 : 0 <= y % 4294967296 /\ y % 4294967296 <= 4294967295 := by omega
 have p11 := prod_bd b1 b3
 have p10 := prod_bd b1 b4
 have p01 := prod_bd b2 b3
 have p00 := prod_bd b2 b4
 clear hs ex ey b1 b2 b3 b4
 generalize x / 4294967296 * (y / 4294967296) = q11 at *
 generalize x / 4294967296 * (y % 4294967296) = q10 at *
 generalize x % 4294967296 * (y / 4294967296) = q01 at *
 generalize x % 4294967296 * (y % 4294967296) = q00 at *
 rw [u64w (n := q11) (by omega), u64w (n := q10) (by omega), u64w (n := q01) (by omega), u64w (n := q00) (by omega), u64w (n := q10 + q00 / 4294967296) (by omega), m32_eq (a := q10 + q00 / 4294967296) (by omega),
  u64w (n := (q10 + q00 / 4294967296) % 4294967296 + q01) (by omega)]
 rw [u64w (n := q11 + (q10 + q00 / 4294967296) / 4294967296) (by omega), u64w (by omega)]
 omega
theorem u64_of {w : World} {F : Nat -> Prop} {n : Int} {v : Value} (h : RepV w F u64 n v) : 0 <= n /\ n <= 18446744073709551615 := h.2.2.2
theorem i64_of {w : World} {F : Nat -> Prop} {n : Int} {v : Value} (h : RepV w F i64 n v) : -9223372036854775808 <= n /\ n <= 9223372036854775807 := h.2.2.2
theorem mul_ok : SoundCt Tryz.prog 147 cMul :=
 flat (ps := [.d u64, .d u64]) (rs := [u64, u64]) (cx_ok (cs := []) (ps := []) mixed trivial trivial) (fn := Tryz.f147) (fr := frMul) (0, 0, ()) (by kernel_rfl) (fun x => by kernel_rfl) _ _
  (fun w F x vs hr _ => by
   obtain ⟨a, b, u⟩ := x
   obtain ⟨v1, vs1, rfl, h1, v2, vs2, rfl, h2, _⟩ := hr
   have g1 := u64_of h1
   have g2 := u64_of h2
   refine ⟨⟨by decide, by decide, by decide, by decide, by decide, trivial⟩, ?_⟩
   show (IntKind.u64.wrap (IntKind.u64.wrap (IntKind.u64.wrap (h32 a * h32 b) + h32 (mulT a b)) + h32 (IntKind.u64.wrap (m32 (mulT a b) + IntKind.u64.wrap (m32 a * h32 b)))), IntKind.u64.wrap (a * b), ()) = (a * b / 18446744073709551616, a * b % 18446744073709551616, ())
   have hw : IntKind.u64.wrap (a * b) = a * b % 18446744073709551616 := by
    rw [IntKind.wrap_u64]
   rw [mul_plain g1 g2, hw])
noncomputable def XiN : FuncId -> Option (Func × (Nat -> St -> Option Tr)) := envF [(146, (Tryz.f146, lam0))]
noncomputable def XiO : FuncId -> Option (Func × (Nat -> St -> Option Tr)) := envF [(110, (Tryz.f110, lam0)), (109, (Tryz.f109, lam0))]
theorem XiN_ok : ∀ f fn Λ, XiN f = some (fn, Λ) -> Tryz.prog.funcs[f]? = some fn /\ ∀ c E', fn.body = some c -> LamOK Tryz.prog E' Λ c 0 := fun f fn Λ h => by
 simp only [XiN, envF] at h
 split at h
 ·rename_i hf
  subst hf
  cases h
  exact ⟨by kernel_rfl, fun c E' _ => lam0_ok c 0⟩
 ·cases h
theorem XiO_ok : ∀ f fn Λ, XiO f = some (fn, Λ) -> Tryz.prog.funcs[f]? = some fn /\ ∀ c E', fn.body = some c -> LamOK Tryz.prog E' Λ c 0 := fun f fn Λ h => by
 simp only [XiO, envF] at h
 split at h
 ·rename_i hf
  subst hf
  cases h
  exact ⟨by kernel_rfl, fun c E' _ => lam0_ok c 0⟩
 ·split at h
  ·rename_i hf
   subst hf
   cases h
   exact ⟨by kernel_rfl, fun c E' _ => lam0_ok c 0⟩
  ·cases h
def evFin (q : Int) : Fr (denL [i64, i64]) := Fr.br (decide (q > 4000000000000000000)) (Fr.val (0, 5, ())) (Fr.val (IntKind.i64.wrap q, 0, ()))
def evT (q r c : Int) : Fr (denL [i64, i64]) :=
 Fr.br (decide (q > 4000000000000000000)) (Fr.val (0, 5, ()))
  (Fr.need ((r == IntKind.u64.wrap (c - r)) = true -> decide (r > IntKind.u64.wrap (c - r)) = false -> (2 : Int) ≠ 0)
   (Fr.br (bif decide (r > IntKind.u64.wrap (c - r)) then true else bif r == IntKind.u64.wrap (c - r) then q.tmod 2 == 1 else false) (evFin (IntKind.u64.wrap (q + 1))) (evFin q)))
def evenQ (p c : Int) : Int := if p % c > c - p % c ∨ (p % c = c - p % c /\ p / c % 2 = 1) then p / c + 1 else p / c
def evenF (a b c : Int) : Int × Int := if a < 0 ∨ b < 0 ∨ c < 0 then (0, 1) else if c = 0 then (0, 6) else if evenQ (a * b) c > 4000000000000000000 then (0, 5) else (evenQ (a * b) c, 0)
theorem bif3 (a b c : Bool) : (bif bif a then true else b then true else c) = (a || (b || c)) := by cases a <;> cases b <;> rfl
theorem evFin_eq {q : Int} (h : 0 <= q) : (evFin q).ok /\ (evFin q).get = if q > 4000000000000000000 then (0, 5, ()) else (q, 0, ()) := by
 refine ⟨⟨fun _ => trivial, fun _ => trivial⟩, ?_⟩
 show (if decide (q > 4000000000000000000) = true then ((0 : Int), (5 : Int), ()) else (IntKind.i64.wrap q, (0 : Int), ())) = _
 by_cases hq : q > 4000000000000000000
 ·rw [if_pos (by simpa using hq), if_pos hq]
 ·have hw : IntKind.i64.wrap q = q := i64w (by omega)
  rw [if_neg (by simpa using hq), if_neg hq, hw]
theorem evT_eq {q r c : Int} (hr : 0 <= r /\ r < c) (hc : c <= 9223372036854775807) (hq : 0 <= q) :
  (evT q r c).ok /\ (evT q r c).get = if (if r > c - r ∨ (r = c - r /\ q % 2 = 1) then q + 1 else q) > 4000000000000000000 then (0, 5, ()) else ((if r > c - r ∨ (r = c - r /\ q % 2 = 1) then q + 1 else q), 0, ()) := by
 have hw : IntKind.u64.wrap (c - r) = c - r := u64w (by omega)
 have hm : q.tmod 2 = q % 2 := Int.tmod_eq_emod_of_nonneg hq
 unfold evT
 rw [hw, hm]
 by_cases h1 : q > 4000000000000000000
 ·have hd : decide (q > 4000000000000000000) = true := by simpa using h1
  refine ⟨⟨fun _ => trivial, fun hb => by rw [hd] at hb; cases hb⟩, ?_⟩
  show (if decide (q > 4000000000000000000) = true then ((0 : Int), (5 : Int), ()) else _) = _
  rw [hd, if_pos rfl, if_pos]
  split <;> omega
 ·have hd : decide (q > 4000000000000000000) = false := by simpa using h1
  have hcond : (bif decide (r > c - r) then true else bif r == c - r then q % 2 == 1 else false) = decide (r > c - r ∨ (r = c - r /\ q % 2 = 1)) := by
   rw [bif_or, bif_and]
   generalize c - r = d
   rw [Bool.eq_iff_iff]
   simp
  rw [hcond]
  have hw2 : IntKind.u64.wrap (q + 1) = q + 1 := u64w (by omega)
  rw [hw2]
  have f1 := evFin_eq (q := q + 1) (by omega)
  have f2 := evFin_eq (q := q) hq
  refine ⟨⟨fun _ => trivial, fun _ => ⟨fun _ _ => by decide, fun _ => f1.1, fun _ => f2.1⟩⟩, ?_⟩
  show (if decide (q > 4000000000000000000) = true then ((0 : Int), (5 : Int), ()) else if decide (r > c - r ∨ (r = c - r /\ q % 2 = 1)) = true then (evFin (q + 1)).get else (evFin q).get) = _
  rw [hd, if_neg (by decide), f1.2, f2.2]
  by_cases h2 : r > c - r ∨ (r = c - r /\ q % 2 = 1)
  ·simp only [h2, decide_true, if_true]
  ·simp only [h2, decide_false, if_false, Bool.false_eq_true]
def addAV (p : List Int × List Int) (day v : Int) : List Int × List Int :=
 let q := if p.1.getLast? = some day then (p.1.dropLast, p.2.dropLast) else p
 if v ≠ q.2.getLast?.getD 0 /\ day <= 292194 then (q.1 ++ [day], q.2 ++ [v]) else q
section
variable {α : Type}
end
end Go.Proofs.YtplkgghjldndkaaGreat
namespace Go.Proofs.YtplkgghjldndkaaGreat
open Go Go.Ab Go.RowKit Go.Proofs
theorem valAt_nonneg {f : stepT.den} (h : ∀ y ∈ f.2.1, 0 <= y) (d : Int) : 0 <= valAt f d := by
 unfold valAt
 split
 ·exact Int.le_refl _
 ·rename_i k _
  rw [List.getD_eq_getElem?_getD]
  cases hk : f.2.1[k]? with
  | none => simp
  | some y =>
   have := h y (List.mem_of_getElem? hk)
   simpa using this
structure Pos (f : stepT.den) : Prop where
 right : rightSt f = true
 pos : ∀ y ∈ f.2.1, 0 <= y
theorem Pos.val {f : stepT.den} (h : Pos f) (d : Int) : 0 <= valAt f d := valAt_nonneg h.pos d
theorem rises_snoc {d v : Int} : {l r : List Int} -> (d0 v0 : Int) -> l.length = r.length ->
  rises (l ++ [d]) (r ++ [v]) d0 v0 = (rises l r d0 v0 && (decide (l.getLast?.getD d0 < d) && (decide (d <= 292194) && (!(v == r.getLast?.getD v0) && money v))))
 | [], [], d0, v0, _ => by
  show (_ && true) = (true && _)
  rw [Bool.and_true, Bool.true_and]
  rfl
 | [], _ :: _, _, _, h => by simp at h
 | _ :: _, [], _, _, h => by simp at h
 | a :: l, b :: r, d0, v0, h => by
  have ih := rises_snoc (d := d) (v := v) (l := l) (r := r) a b (by simpa using h)
  simp only [List.cons_append, rises]
  rw [ih]
  have e1 : (a :: l).getLast?.getD d0 = l.getLast?.getD a := by
   rw [List.getLast?_cons]
   rfl
  have e2 : (b :: r).getLast?.getD v0 = r.getLast?.getD b := by
   rw [List.getLast?_cons]
   rfl
  rw [e1, e2]
  simp only [Bool.and_assoc]
structure Good (p : List Int × List Int) (m : Int) : Prop where
 len : p.1.length = p.2.length
 up : rises p.1 p.2 0 0 = true
 le : p.1.getLast?.getD 0 <= m
 pos : ∀ y ∈ p.2, 0 <= y
theorem getLast_le {l : List Int} {x : Int} (h : l.getLast? = some x) : l = l.dropLast ++ [x] := by
 cases l with
 | nil => simp at h
 | cons a l =>
  rw [List.getLast?_eq_some_getLast (by simp)] at h
  simp only [Option.some.injEq] at h
  rw [← h]
  exact (List.dropLast_concat_getLast (by simp)).symm
theorem Good.pop {p : List Int × List Int} {m day : Int} (h : Good p m) (hl : p.1.getLast? = some day) : Good (p.1.dropLast, p.2.dropLast) (day - 1) /\ day <= m := by
 obtain ⟨at_, val⟩ := p
 obtain ⟨h1, h2, h3, h4⟩ := h
 simp only at *
 have e1 := getLast_le hl
 cases hv : val.getLast? with
 | none =>
  have : val = [] := by simpa using hv
  subst this
  rw [e1] at h1
  simp at h1
 | some y =>
  have e2 := getLast_le hv
  have hlen : at_.dropLast.length = val.dropLast.length := by simp [h1]
  rw [e1, e2, rises_snoc 0 0 hlen] at h2
  simp only [Bool.and_eq_true, decide_eq_true_eq] at h2
  refine ⟨⟨hlen, h2.1, ?_, fun z hz => h4 z ?_⟩, ?_⟩
  ·have := h2.2.1
   show at_.dropLast.getLast?.getD 0 <= day - 1
   omega
  ·rw [e2]
   exact List.mem_append_left _ hz
  ·rw [hl] at h3
   exact h3
theorem Good.push {p : List Int × List Int} {m day v : Int} (h : Good p m) (hd : m < day) (hday : day <= 292194) (hv : 0 <= v /\ v <= 4000000000000000000) (hne : v ≠ p.2.getLast?.getD 0) : Good (p.1 ++ [day], p.2 ++ [v]) day := by
 obtain ⟨h1, h2, h3, h4⟩ := h
 refine ⟨by simp [h1], ?_, by simp, fun z hz => ?_⟩
 ·show rises (p.1 ++ [day]) (p.2 ++ [v]) 0 0 = true
  rw [rises_snoc 0 0 h1, h2]
  have hm : money v = true := money_iff.2 (by omega)
  have hb : (v == p.2.getLast?.getD 0) = false := by simpa using hne
  have hlt : p.1.getLast?.getD 0 < day := by omega
  simp [hm, hb, hlt, hday]
 ·rcases List.mem_append.1 hz with hz | hz
  ·exact h4 z hz
  ·simp only [List.mem_singleton] at hz
   subst hz
   exact hv.1
theorem Good.mono {p : List Int × List Int} {m m' : Int} (h : Good p m) (hm : m <= m') : Good p m' := ⟨h.len, h.up, Int.le_trans h.le hm, h.pos⟩
theorem Good.add {p : List Int × List Int} {m day v : Int} (h : Good p m) (hd : m <= day) (h1 : 1 <= day) (hv : 0 <= v /\ v <= 4000000000000000000) : Good (addAV p day v) day := by
 unfold addAV
 by_cases hl : p.1.getLast? = some day
 ·have hp := (h.pop hl).1
  simp only [hl, if_true]
  split
  ·rename_i hc
   exact hp.push (by omega) hc.2 hv hc.1
  ·exact hp.mono (by omega)
 ·simp only [hl, if_false]
  have hlt : p.1.getLast?.getD 0 <= day - 1 := by
   have hle := h.le
   cases hx : p.1.getLast? with
   | none => show (0 : Int) <= _; omega
   | some x =>
    rw [hx] at hle hl
    have hne : x ≠ day := fun he => hl (by rw [he])
    have hle' : x <= m := hle
    show x <= _
    omega
  have hg : Good p (day - 1) := ⟨h.len, h.up, hlt, h.pos⟩
  split
  ·rename_i hc
   exact hg.push (by omega) hc.2 hv hc.1
  ·exact hg.mono (by omega)
end Go.Proofs.YtplkgghjldndkaaGreat
namespace Go.Ab
open Go Go.RowKit
def Ty.flat : Ty -> Bool
 | .sl _ => false
 | .fm _ => false
 | .pair a b => a.flat && b.flat
 | _ => true
section
variable {P : Program} {B : Nat} {w w' : World} {E : Env} {F F' : Nat -> Prop} {γ γ' : Nat -> Value} {m : Mem}
theorem RepT.flat : {t : Ty} -> t.flat = true -> {x : t.den} -> {g : Nat -> Value -> Prop} -> RepT w F t x g -> RepT w' F' t x g
 | .int _, _, _, _, h => h
 | .bool, _, _, _, h => h
 | .str, _, _, _, h => h
 | .unit, _, _, _, h => h
 | .sl _, hf, _, _, _ => by simp [Ty.flat] at hf
 | .fm _, hf, _, _, _ => by simp [Ty.flat] at hf
 | .pair a b, hf, _, _, h => by
  simp only [Ty.flat, Bool.and_eq_true] at hf
  exact ⟨RepT.flat hf.1 h.1, RepT.flat hf.2 h.2⟩
theorem RepV.flat {t : Ty} (hf : t.flat = true) {x : t.den} {v : Value} (h : RepV w F t x v) : RepV w' F' t x v := ⟨h.1, h.2.1, h.2.2.flat hf⟩
theorem RepVs.flat : {ts : List Ty} -> ts.all Ty.flat = true -> {x : denL ts} -> {vs : List Value} -> RepVs w F ts x vs -> RepVs w' F' ts x vs
 | [], _, _, _, h => h
 | t :: r, hf, _, _, ⟨v, vs', h1, h2, h3⟩ => by
  simp only [List.all_cons, Bool.and_eq_true] at hf
  exact ⟨v, vs', h1, h2.flat hf.1, RepVs.flat hf.2 h3⟩
theorem RepR.flat : {ts : List Ty} -> ts.all Ty.flat = true -> {x : denL ts} -> {v : Value} -> RepR w F ts x v -> RepR w' F' ts x v
 | [], hf, _, _, ⟨vs, h1, h2⟩ => ⟨vs, h1, RepVs.flat hf h2⟩
 | [t], hf, _, _, h => by
  simp only [List.all_cons, Bool.and_eq_true] at hf
  exact RepV.flat hf.1 h
 | t :: t' :: r, hf, _, _, ⟨vs, h1, h2⟩ => ⟨vs, h1, RepVs.flat hf h2⟩
theorem RowsL.flat {t : Ty} (hf : t.flat = true) {l : List t.den} {xs : List Value} (h : RowsL w F t l xs) : RowsL w' F' t l xs := fun i x hi => (h i x hi).flat hf
theorem ownsRow_base {B B' : Nat} {e : TypeId} {size n : Nat} {v : Value} {xs : List Value} (h : w.ownsRow B e size v n xs) (hb : ∀ g, v.ownBlock = some g -> B' <= g) : w.ownsRow B' e size v n xs := by
 refine ⟨h.1, h.2.imp id ?_⟩
 rintro ⟨g, cap, cur, rfl, _, rest⟩
 exact ⟨g, cap, cur, rfl, hb g rfl, rest⟩
structure Mt where
 e : TypeId
 T : Ty
 ps : List PT
 rs : List Ty
 f : List T.den -> denP ps -> List T.den × denL rs
 ok : List T.den -> denP ps -> List Prop
def MtPost (w : World) (mt : Mt) (v : Value) (y : List mt.T.den × denL mt.rs) (e : Ending) (w' : World) : Prop :=
 ∃ u rows, e = .returned u /\ w.grownBy w' v.ownBlock /\ w'.ownsRow 0 mt.e mt.T.size v y.1.length rows /\ RowsL w' (fun _ => False) mt.T y.1 rows /\ (∀ u ∈ rows, u.oneCell' = true) /\ RepR w' (fun _ => False) mt.rs y.2 u
structure SoundMt (P : Program) (f : FuncId) (mt : Mt) : Prop where
 flat : mt.T.flat = true
 flats : mt.rs.all Ty.flat = true
 enters : ∀ args w, (callFunc f args).run P w = .ok (.enter f args) w
 calls : ∀ (w : World) (F : Nat -> Prop) (l : List mt.T.den) (xs : denP mt.ps) (v : Value) (vs rows : List Value), (∀ b, F b -> b < w.heap.size) -> w.ownsRow 0 mt.e mt.T.size v l.length rows -> (∀ g, v.ownBlock = some g -> ¬ F g) ->
  RowsL w F mt.T l rows -> (∀ u ∈ rows, u.oneCell' = true) -> v.oneCell' = true -> RepPs P w F mt.ps xs vs -> conj (mt.ok l xs) -> Calls P f (v :: vs).toArray w (MtPost w mt v (mt.f l xs))
def mtK (Γ : FuncId -> Option Ct) (f : FuncId) (mt : Mt) (_d : Nat) (g : FuncId) (args : List AV) (s : St) : Option Tr :=
 if g = f then match args with
  | .c (.own id) :: rest => match rsAs s.mem rest with
   | some (xs, u) => match upds s.mem u id with
    | some (.arr e t l) => if h : t = mt.T then if e = mt.e then match decPs Γ mt.ps xs with
      | some (x, n) => some (needL (n ++ mt.ok (castL h l) x) (.leaf (.val (encR mt.rs (mt.f (castL h l) x).2)) ⟨s.n, s.sl, upd (upds s.mem u) id (.arr mt.e mt.T (mt.f (castL h l) x).1), s.gs⟩))
      | none => none
     else none else none
    | _ => none
   | none => none
  | _ => none
 else none
theorem mtK_ok {Γ : FuncId -> Option Ct} (hΓ : ∀ f ct, Γ f = some ct -> SoundCt P f ct) {f : FuncId} {mt : Mt} (h : SoundMt P f mt) : InlOK P (mtK Γ f mt) := by
 intro d g args s t ht
 unfold mtK at ht
 split at ht <;> try (cases ht; done)
 rename_i hg
 subst hg
 split at ht <;> try (cases ht; done)
 rename_i id rest
 split at ht <;> try (cases ht; done)
 rename_i xs u hrs
 split at ht <;> try (cases ht; done)
 rename_i e ty l hm1
 split at ht <;> try (cases ht; done)
 rename_i hty
 split at ht <;> try (cases ht; done)
 rename_i hee
 split at ht <;> try (cases ht; done)
 rename_i x n hdec
 simp only [Option.some.injEq] at ht
 subst ht
 subst hty
 subst hee
 refine ⟨h.enters, fun E a w F γ vs Q hi hr hq => ?_⟩
 obtain ⟨hn, hqv⟩ := needL_sat _ hq
 obtain ⟨hn1, hn2⟩ := conj_append.1 hn
 cases vs with
 | nil => exact hr.elim
 | cons v vs =>
  obtain ⟨⟨hone, hv⟩, hr⟩ := hr
  obtain ⟨F1, s1, m1, _, r1⟩ := rsAs_sound hi.mem (inv_bd hi) (SubM.of fun _ _ h => h) hrs hr
  have hps := decPs_rep hΓ hdec hn1 r1
  have hv1 : v = γ id := by
   have h2 : refOK (upds s.mem u) γ id v := s1.hR id v hv
   simpa [refOK, hm1] using h2
  obtain ⟨rows, o1, o2, o3, o4⟩ := m1.ob id _ hm1
  rw [← hv1] at o1 o2
  have hblk : ∀ g, v.ownBlock = some g -> E.B <= g /\ g < w.heap.size := fun g hg => o1.lt g hg
  have hc := h.calls w F1 l x v vs rows s1.bd (ownsRow_base o1 (fun _ _ => Nat.zero_le _)) o2 o3 o4 hone hps hn2
  refine hc.mono fun en w2 hp => ?_
  obtain ⟨u2, rows2, rfl, hgr, p1, p2, p3, p4⟩ := hp
  have hkeep : ∀ b, b < w.heap.size -> v.ownBlock ≠ some b -> w2.heap[b]? = w.heap[b]? := fun b hb hne => hgr.block b hb (fun h => hne h.symm)
  have hBs := Step.size' hi
  have hR : ∀ i v', refOK (upds s.mem u) γ i v' -> refOK (upd (upds s.mem u) id (.arr mt.e mt.T (mt.f l x).1)) γ i v' := fun i v' hv' => by
   unfold refOK at hv' ⊢
   by_cases hii : i = id
   ·subst hii
    rw [hm1] at hv'
    simpa [upd] using hv'
   ·simpa [upd, hii] using hv'
  have s2 : Step E.B w F1 γ (upds s.mem u) w2 F1 γ (upd (upds s.mem u) id (.arr mt.e mt.T (mt.f l x).1)) :=
   ⟨fun _ h => h, fun b hb => hkeep b (s1.bd b hb) (fun h => o2 b h hb), hR, fun b hb => hkeep b (by omega) (fun h => by have := (hblk b h).1; omega),
    hgr.os, hgr.tape, hgr.output, hgr.size, fun b hb => Nat.lt_of_lt_of_le (s1.bd b hb) hgr.size, fun b hb => .inl hb⟩
  have hex : ∀ i o, upd (upds s.mem u) id (.arr mt.e mt.T (mt.f l x).1) i = some o -> ∃ o0, upds s.mem u i = some o0 /\ exB o0 (γ i) = exB o (γ i) := fun i o ho => by
   by_cases hii : i = id
   ·subst hii
    simp only [upd, if_true, Option.some.injEq] at ho
    subst ho
    exact ⟨_, hm1, rfl⟩
   ·simp only [upd, if_neg hii] at ho
    exact ⟨o, ho, rfl⟩
  have m2 : MemOK P E.B w2 F1 γ (upd (upds s.mem u) id (.arr mt.e mt.T (mt.f l x).1)) := by
   refine ⟨fun i o ho => ?_, fun i j oi oj b hij hoi hoj hb hb' => ?_⟩
   ·by_cases hii : i = id
    ·subst hii
     simp only [upd, if_true, Option.some.injEq] at ho
     subst ho
     rw [← hv1]
     exact ⟨rows2, ownsRow_base p1 (fun g hg => (hblk g hg).1), o2, p2.flat h.flat, p3⟩
    ·simp only [upd, if_neg hii] at ho
     refine (m1.ob i o ho).keep (fun _ h => h) (fun b hb => hkeep b (s1.bd b hb) (fun h => o2 b h hb)) hR fun b hb => ?_
     obtain ⟨l1, l2, _⟩ := exB_lt (m1.ob i o ho) hb
     refine ⟨hkeep b l1 (fun hvb => ?_), l2⟩
     exact m1.apart i id o _ b hii ho hm1 hb (by rw [← hv1]; exact hvb)
   ·obtain ⟨oi0, a1, a2⟩ := hex i oi hoi
    obtain ⟨oj0, b1, b2⟩ := hex j oj hoj
    exact m1.apart i j oi0 oj0 b hij a1 b1 (a2.trans hb) (b2.trans hb')
  have s3 := s1.trans s2
  have hinv : InvG P E ⟨s.n, s.sl, upd (upds s.mem u) id (.arr mt.e mt.T (mt.f l x).1), s.gs⟩ a w2 [] F1 γ := by
   refine ⟨hi.n, hi.df, ?_, m2, fun t => (hi.sl t).mono s3.hF s3.hw s3.hR, hi.hg, fun t => s3.repA (hi.gh t)⟩
   obtain ⟨γ0, h0⟩ := hi.step
   exact ⟨γ0, h0.trans s3⟩
  exact ⟨.val (encR mt.rs (mt.f l x).2), _, F1, γ, hqv, hinv, u2, rfl, encR_rep (p4.flat h.flats)⟩
def startMt (n : Nat) (e : TypeId) (T : Ty) (l : List T.den) (args : List AV) : St :=
 ⟨n, fun i => (AV.c (.own (oid 0)) :: args).getD i .dead, fun i => if i = oid 0 then some (.arr e T l) else none, fun i => if i = 0 then .c (.own (oid 0)) else .dead⟩
def endM (P : Program) (rv : List ResultVar) (e : TypeId) (T : Ty) (rs : List Ty) (s : St) : Option (Fr (List T.den × denL rs)) :=
 match s.gs 0 with
 | .c (.own k) => match s.mem k with
  | some (.arr e' t l) => if h : t = T then if e' = e then match resAs P s rv with
    | some (vs, n) => match rsAs s.mem vs with
     | some (xs, _) => match decVs rs xs with
      | some y => some (Fr.needL n (.val (castL h l, y)))
      | none => none
     | none => none
    | none => none
   else none else none
  | _ => none
 | _ => none
def frM (P : Program) (rv : List ResultVar) (e : TypeId) (T : Ty) (rs : List Ty) : Tr -> Option (Fr (List T.den × denL rs))
 | .leaf .ret s => endM P rv e T rs s
 | .leaf .normal s => endM P rv e T rs s
 | .leaf _ _ => none
 | .br b x y => match frM P rv e T rs x, frM P rv e T rs y with
  | some x', some y' => some (.br b x' y')
  | _, _ => none
 | .need p x => match frM P rv e T rs x with
  | some x' => some (.need p x')
  | none => none
 | .two p x y => match frM P rv e T rs x, frM P rv e T rs y with
  | some x', some y' => some (.need (p -> x'.ok /\ x'.get = y'.get) y')
  | _, _ => none
theorem frM_sat {rv : List ResultVar} {e : TypeId} {T : Ty} {rs : List Ty} : {t : Tr} -> {f : Fr (List T.den × denL rs)} -> frM P rv e T rs t = some f -> f.ok -> t.sat fun x s => (x = .ret ∨ x = .normal) /\ ∃ n, endM P rv e T rs s = some (Fr.needL n (.val f.get)) /\ conj n
 | .leaf x s, f, h, hok => by
  have key : endM P rv e T rs s = some f -> ∃ n, endM P rv e T rs s = some (Fr.needL n (.val f.get)) /\ conj n := fun h => by
   have h0 := h
   unfold endM at h
   split at h <;> try (cases h; done)
   split at h <;> try (cases h; done)
   split at h <;> try (cases h; done)
   split at h <;> try (cases h; done)
   split at h <;> try (cases h; done)
   split at h <;> try (cases h; done)
   split at h <;> try (cases h; done)
   simp only [Option.some.injEq] at h
   subst h
   refine ⟨_, ?_, (needL_ok _ hok).1⟩
   rw [needL_get]
   exact h0
  cases x with
  | exit i => simp [frM] at h
  | panic i => simp [frM] at h
  | val i => simp [frM] at h
  | jump i => simp [frM] at h
  | normal => exact ⟨.inr rfl, key h⟩
  | ret => exact ⟨.inl rfl, key h⟩
 | .br b x y, f, h, hok => by
  simp only [frM] at h
  split at h <;> try (cases h; done)
  rename_i x' y' hx hy
  simp only [Option.some.injEq] at h
  subst h
  refine ⟨fun hb => ?_, fun hb => ?_⟩
  ·have := frM_sat hx (hok.1 hb)
   simpa only [Fr.get, hb, if_true] using this
  ·have := frM_sat hy (hok.2 hb)
   simpa only [Fr.get, hb, Bool.false_eq_true, if_false] using this
 | .need p x, f, h, hok => by
  simp only [frM] at h
  split at h <;> try (cases h; done)
  rename_i x' hx
  simp only [Option.some.injEq] at h
  subst h
  have := frM_sat hx hok.2
  exact ⟨hok.1, this⟩
 | .two p x y, f, h, hok => by
  simp only [frM] at h
  split at h <;> try (cases h; done)
  rename_i x' y' hx hy
  simp only [Option.some.injEq] at h
  subst h
  have h2 := frM_sat hy hok.2
  refine ⟨fun hp => ?_, h2⟩
  have := frM_sat hx (hok.1 hp).1
  rwa [(hok.1 hp).2] at this
def runMt (P : Program) (C : Cx) (Λ : Nat -> St -> Option Tr) (fn : Func) (e : TypeId) (T : Ty) (ps : List PT) (rs : List Ty) (l : List T.den) (xs : denP ps) : Option (Fr (List T.den × denL rs)) :=
 match fn.body with
 | some c => if (fn.name == "runtime.NumGoroutine") = false /\ ps.length + 1 <= fn.ntmps then match codeA P C 0 Λ c 0 (startMt fn.ntmps e T l (encPs ps xs)) with
   | some t => frM P fn.results.toList e T rs t
   | none => none
  else none
 | none => none
theorem mt_sound {C : Cx} (hC : CxOK P C) {Λ : Nat -> St -> Option Tr} {f : FuncId} {fn : Func} {e : TypeId} {T : Ty} {ps : List PT} {rs : List Ty} {fr : List T.den -> denP ps -> Fr (List T.den × denL rs)} (x0 : denP ps)
  (hf : P.funcs[f]? = some fn) (hT : T.flat = true) (hTs : rs.all Ty.flat = true) (hΛ : ∀ c E, fn.body = some c -> LamOK P E Λ c 0) (hrun : ∀ l xs, runMt P C Λ fn e T ps rs l xs = some (fr l xs)) :
  SoundMt P f ⟨e, T, ps, rs, fun l xs => (fr l xs).get, fun l xs => [(fr l xs).ok]⟩ := by
 have h0 := hrun [] x0
 unfold runMt at h0
 split at h0 <;> try (cases h0; done)
 rename_i c hb
 split at h0 <;> try (cases h0; done)
 rename_i hc
 refine ⟨hT, hTs, enters hf hb hc.1, fun w F l xs v vs rows hbd hown hnF hrows hcell hone hr hok => calls_of_wp hf hb ?_⟩
 have hr' := hrun l xs
 unfold runMt at hr'
 simp only [hb, hc, and_self, if_true] at hr'
 split at hr' <;> try (cases hr'; done)
 rename_i t ht
 have hlen : vs.length = ps.length := repPs_len hr
 have hFb : ∀ b, F b -> (b < w.heap.size /\ v.ownBlock ≠ some b) := fun b hb => ⟨hbd b hb, fun h => hnF b h hb⟩
 have hps : RepPs P w (fun b => b < w.heap.size /\ v.ownBlock ≠ some b) ps xs vs := RepPs.mono hFb (fun _ _ => rfl) hr
 have hargs : ∀ R : Nat -> Value -> Prop, R (oid 0) v -> Reps P w (fun b => b < w.heap.size /\ v.ownBlock ≠ some b) R (AV.c (.own (oid 0)) :: encPs ps xs) (v :: vs) := fun R hR => ⟨⟨hone, hR⟩, encPs_rep hps⟩
 have hstart : I P ⟨w, fun b => b < w.heap.size /\ v.ownBlock ≠ some b, fun _ => v, [], 0, Nat.zero_le _⟩ (startMt fn.ntmps e T l (encPs ps xs)) { tmps := (v :: vs).toArray ++ Array.replicate (fn.ntmps - (v :: vs).length) undef, defers := [] } w := by
  refine ⟨_, fun _ => v, ?_, rfl, ⟨fun _ => undef, ⟨fun _ h => h, fun _ _ => rfl, fun _ _ h => h.elim, fun b hb => absurd hb (Nat.not_lt_zero b), rfl, rfl, rfl, Nat.le_refl _, fun b hb => hb.1, fun b hb => .inl hb⟩⟩, ⟨fun id o ho => ?_, fun i j oi oj b hij hi hj => ?_⟩, fun t => ?_, fun t g want v ht => ?_, fun t => ?_⟩
  ·show _ = fn.ntmps
   simp only [Array.size_append, List.size_toArray, Array.size_replicate, List.length_cons]
   omega
  ·have ho' : (if id = oid 0 then some (Ob.arr e T l) else none) = some o := ho
   split at ho'
   ·simp only [Option.some.injEq] at ho'
    subst ho'
    exact ⟨rows, hown, fun g hg h => h.2 hg, hrows.flat hT, hcell⟩
   ·cases ho'
  ·have hi' : (if i = oid 0 then some (Ob.arr e T l) else none) = some oi := hi
   have hj' : (if j = oid 0 then some (Ob.arr e T l) else none) = some oj := hj
   split at hi'
   ·split at hj'
    ·rename_i h1 h2
     exact absurd (h1.trans h2.symm) hij
    ·cases hj'
   ·cases hi'
  ·have hg : ((v :: vs).toArray ++ Array.replicate (fn.ntmps - (v :: vs).length) undef).getD t undef = (v :: vs).getD t undef := by
    simp only [Array.getD_eq_getD_getElem?, List.getD_eq_getElem?_getD]
    rcases Nat.lt_or_ge t (v :: vs).length with hlt | hge
    ·rw [Array.getElem?_append_left (by simpa using hlt)]
     simp
    ·rw [Array.getElem?_append_right (by simpa using hge), List.getElem?_eq_none hge]
     simp only [Array.getElem?_replicate]
     split <;> rfl
   show SlotOK P w _ _ _ ((AV.c (.own (oid 0)) :: encPs ps xs).getD t .dead) (((v :: vs).toArray ++ Array.replicate (fn.ntmps - (v :: vs).length) undef).getD t undef)
   rw [hg]
   exact repA_slot (reps_get (hargs _ (by simp [refOK, startMt])) t)
  ·exfalso
   have := reps_get (hargs (fun _ _ => True) trivial) t
   have ht' : (AV.c (.own (oid 0)) :: encPs ps xs).getD t .dead = .maybe g want v := ht
   rw [ht'] at this
   exact this
  ·show RepA P w _ _ (if t = 0 then .c (.own (oid 0)) else .dead) v
   split
   ·exact ⟨hone, by simp [RepC, refOK, startMt]⟩
   ·trivial
 have hwp := codeA_sound hC c 0 (hΛ c _ hb) ht (frM_sat hr' hok) hstart
 have hsz : ((v :: vs).toArray).size = (v :: vs).length := by simp
 rw [hsz]
 refine wp_mono hwp ?_
 rintro ex a' w' ⟨xe, s, rfl, ⟨F', γ', hi⟩, hxe, n, hend, hnn⟩
 have hfin : a'.defers = [] /\ ∃ u, (results fn a'.tmps).run P w' = .ok u w' /\ MtPost w ⟨e, T, ps, rs, fun l xs => (fr l xs).get, fun l xs => [(fr l xs).ok]⟩ v (fr l xs).get (.returned u) w' := by
  unfold endM at hend
  split at hend <;> try (cases hend; done)
  rename_i k hgs
  split at hend <;> try (cases hend; done)
  rename_i e' t' l' hmk
  split at hend <;> try (cases hend; done)
  rename_i hty
  split at hend <;> try (cases hend; done)
  rename_i hee
  split at hend <;> try (cases hend; done)
  rename_i avs n' hres
  split at hend <;> try (cases hend; done)
  rename_i axs u hrs
  split at hend <;> try (cases hend; done)
  rename_i y hdec
  simp only [Option.some.injEq] at hend
  obtain ⟨hn', hy⟩ := needL_inj hend hnn
  subst hty
  subst hee
  obtain ⟨us, hran, hreps⟩ := res_run hi hres hn'
  obtain ⟨F'', hs, hm', _, hxs⟩ := rsAs_sound hi.mem (inv_bd hi) (SubM.of fun _ _ h => h) hrs hreps
  obtain ⟨γ0, h1⟩ := hi.step
  have hgv : v = γ' k := by
   have h2 := hi.gh 0
   rw [hgs] at h2
   have h3 : refOK s.mem γ' k v := h2.2
   simpa [refOK, hmk] using h3
  obtain ⟨rows2, q1, q2, q3, q4⟩ := hi.mem.ob k _ hmk
  rw [← hgv] at q1
  refine ⟨hi.df, _, results_run hran, _, rows2, rfl, ⟨h1.os, h1.tape, h1.output, h1.size, fun b hb hne => h1.hw b ⟨hb, fun h => hne h.symm⟩⟩, ?_, ?_, q4, ?_⟩
  ·rw [← hy]
   exact q1
  ·rw [← hy]
   exact q3.flat hT
  ·rw [← hy]
   exact (repR_of (decVs_rep hdec hxs)).flat hTs
 rcases hxe with rfl | rfl
 ·exact hfin
 ·exact hfin
theorem rowsL_wf {t : Ty} {l : List t.den} {xs : List Value} (h : RowsL w F t l xs) : ∀ x ∈ l, Wf t x := fun x hx => by
 obtain ⟨i, hi, rfl⟩ := List.mem_iff_getElem.1 hx
 exact RepT.wf (h i _ (List.getElem?_eq_getElem hi))
theorem ownsRow_len {e : TypeId} {size n : Nat} {v : Value} {xs : List Value} (h : w.ownsRow B e size v n xs) : n <= maxLen := by
 rcases h.2 with ⟨_, rfl⟩ | ⟨g, cap, cur, _, _, _, h1, h2, _⟩
 ·exact Nat.zero_le _
 ·exact Nat.le_trans h1 h2
theorem convMt {f : FuncId} {mt : Mt} (h : SoundMt P f mt) (g : List mt.T.den -> denP mt.ps -> List mt.T.den × denL mt.rs) (ok : List mt.T.den -> denP mt.ps -> List Prop)
  (hg : ∀ w F l xs vs, RepPs P w F mt.ps xs vs -> l.length <= maxLen -> (∀ x ∈ l, Wf mt.T x) -> conj (ok l xs) -> conj (mt.ok l xs) /\ mt.f l xs = g l xs) : SoundMt P f ⟨mt.e, mt.T, mt.ps, mt.rs, g, ok⟩ := by
 refine ⟨h.flat, h.flats, h.enters, fun w F l xs v vs rows hb ho hn hr hc h1 hp hok => ?_⟩
 obtain ⟨h2, h3⟩ := hg w F l xs vs hp (ownsRow_len ho) (rowsL_wf hr) hok
 have := h.calls w F l xs v vs rows hb ho hn hr hc h1 hp h2
 rw [h3] at this
 exact this
end
end Go.Ab

namespace Go.Ab
open Go Go.RowKit
def goL {T σ ρ : Type} (step : T -> σ -> Fr (σ ⊕ ρ)) : List T -> σ -> σ ⊕ ρ
 | [], s => .inl s
 | x :: r, s => match (step x s).get with
  | .inl s' => goL step r s'
  | .inr y => .inr y
def okL {T σ ρ : Type} (step : T -> σ -> Fr (σ ⊕ ρ)) : List T -> σ -> Prop
 | [], _ => True
 | x :: r, s => (step x s).ok /\ match (step x s).get with
  | .inl s' => okL step r s'
  | .inr _ => True
def isL {σ ρ : Type} : σ ⊕ ρ -> Bool
 | .inl _ => true
 | .inr _ => false
def getL {σ ρ : Type} (d : σ) : σ ⊕ ρ -> σ
 | .inl s => s
 | .inr _ => d
def getR {σ ρ : Type} (d : ρ) : σ ⊕ ρ -> ρ
 | .inl _ => d
 | .inr y => y
def Rd.up {X Y Z : Type} : Rd Empty Y Z -> Rd X Y Z
 | .next x => nomatch x
 | .out y => .out y
 | .back z => .back z
 | .pan p => .pan p
def dfL : (ts : List Ty) -> denL ts
 | [] => ()
 | t :: r => (t.dflt, dfL r)
def dfP : (ps : List PT) -> denP ps
 | [] => ()
 | .d t :: r => (t.dflt, dfP r)
 | .ptr t :: r => (t.dflt, dfP r)
 | .fn _ rs :: r => (fun _ => dfL rs, dfP r)
 | .pf _ rs :: r => ((fun _ => dfL rs, fun _ => False), dfP r)
def dfY : (fs : List YF) -> denY fs
 | [] => ()
 | (some _, _) :: r => ([], dfY r)
 | (none, t) :: r => (t.dflt, dfY r)
def dfM : (ms : List MI) -> denM ms
 | [] => ()
 | .o _ _ _ :: r => ([], dfM r)
 | .x _ _ ty :: r => (ty.dflt, dfM r)
 | .r _ _ _ :: r => dfM (r)
 | .y _ _ fs :: r => (dfY fs, dfM r)
 | .g _ _ _ :: r => dfM (r)
 | .al _ _ :: r => dfM (r)
section
variable {P : Program} {c : Code} {L Eo R : LS} {n id : Nat} {T σ ρ : Type}
structure InL (good : Prop) (u : Int × List T × σ) : Prop where
 good : good
 lo : 0 <= u.1
 hi : u.1 <= u.2.1.length
 big : (u.2.1.length : Int) <= 9223372036854775807
def FL (step : T -> σ -> Fr (σ ⊕ ρ)) (un : L.X -> Int × List T × σ) (good : L.X -> Prop) (outO : σ -> Eo.X) (outR : ρ -> Rd Empty Eo.X R.X) (d : σ) (d2 : ρ) (x : L.X) : Fr (Rd L.X Eo.X R.X) :=
 Fr.need (InL (good x) (un x)) (Fr.need (okL step ((un x).2.1.drop (un x).1.toNat) (un x).2.2)
  (Fr.br (isL (goL step ((un x).2.1.drop (un x).1.toNat) (un x).2.2)) (Fr.val (Rd.out (outO (getL d (goL step ((un x).2.1.drop (un x).1.toNat) (un x).2.2)))))
   (Fr.val (Rd.up (outR (getR d2 (goL step ((un x).2.1.drop (un x).1.toNat) (un x).2.2)))))))
theorem Does.list {fr : L.X -> Fr (Rd L.X Eo.X R.X)} (h : Does P c L ⟨n, id, L, Eo, R⟩ fr) (step : T -> σ -> Fr (σ ⊕ ρ)) (un : L.X -> Int × List T × σ) (good : L.X -> Prop) (outO : σ -> Eo.X) (outR : ρ -> Rd Empty Eo.X R.X) (d : σ) (d2 : ρ)
  (hround : ∀ x, good x -> 0 <= (un x).1 -> (un x).1 < (un x).2.1.length -> ((un x).2.1.length : Int) <= 9223372036854775807 -> ∀ e, (un x).2.1[(un x).1.toNat]? = some e -> ∀ Q : Rd L.X Eo.X R.X -> Prop,
   (step e (un x).2.2).satP (fun
    | .inl s' => ∀ x', un x' = ((un x).1 + 1, (un x).2.1, s') -> good x' -> Q (.next x')
    | .inr y => Q (Rd.up (outR y))) -> (fr x).satP Q)
  (hend : ∀ x, good x -> ¬ (un x).1 < (un x).2.1.length -> ∀ Q : Rd L.X Eo.X R.X -> Prop, Q (.out (outO (un x).2.2)) -> (fr x).satP Q) :
  Does P (.loop c) L ⟨n, id, L, Eo, R⟩ (FL step un good outO outR d d2) := by
 refine Does.loop (n := n) (id := id) h (inv := fun x => InL (good x) (un x)) (μ := fun x => (((un x).2.1.length : Int) - (un x).1).toNat) ?_ (fun x Q hq => hq.1)
 intro x hx Q hq
 obtain ⟨_, hok, hq1, hq2⟩ := hq
 by_cases hi : (un x).1 < (un x).2.1.length
 ·have hlo := hx.lo
  have hbig := hx.big
  have hl : (un x).1.toNat < (un x).2.1.length := by omega
  have e1 : (un x).2.1.drop (un x).1.toNat = (un x).2.1[(un x).1.toNat] :: (un x).2.1.drop ((un x).1.toNat + 1) := List.drop_eq_getElem_cons hl
  have hn : ((un x).1 + 1).toNat = (un x).1.toNat + 1 := by omega
  rw [e1] at hok hq1 hq2
  generalize he : (un x).2.1[(un x).1.toNat] = e at hok hq1 hq2
  have he' : (un x).2.1[(un x).1.toNat]? = some e := by rw [List.getElem?_eq_getElem hl, he]
  refine hround x hx.good hlo hi hbig e he' _ (Fr.satP_of hok.1 ?_)
  have hok2 := hok.2
  simp only [goL] at hq1 hq2
  cases hg : (step e (un x).2.2).get with
  | inl s' =>
   simp only [hg] at hok2 hq1 hq2
   intro x' hun hgd
   have e2 : (un x').1 = (un x).1 + 1 := by rw [hun]
   have e3 : (un x').2.1 = (un x).2.1 := by rw [hun]
   have e4 : (un x').2.2 = s' := by rw [hun]
   have hin : InL (good x') (un x') := ⟨hgd, by rw [e2]; omega, by rw [e2, e3]; omega, by rw [e3]; exact hbig⟩
   refine ⟨hin, by rw [e2, e3]; omega, hin, ?_, ?_, ?_⟩
   ·rw [e2, e3, e4, hn]; exact hok2
   ·rw [e2, e3, e4, hn]; exact hq1
   ·rw [e2, e3, e4, hn]; exact hq2
  | inr y =>
   simp only [hg] at hq1 hq2
   have := hq2 rfl
   simp only [getR] at this
   cases ho : outR y with
   | next x => exact nomatch x
   | out y2 => rw [ho] at this; simp only [ho, Rd.up]; exact this
   | back z => rw [ho] at this; simp only [ho, Rd.up]; exact this
   | pan p => rw [ho] at this; simp only [ho, Rd.up]; exact this
 ·have hl : (un x).2.1.drop (un x).1.toNat = [] := List.drop_eq_nil_of_le (by have := hx.lo; omega)
  rw [hl] at hq1
  exact hend x hx.good hi _ (hq1 rfl)
theorem okL_of {step : T -> σ -> Fr (σ ⊕ ρ)} (h : ∀ e s, (step e s).ok) : (l : List T) -> (s : σ) -> okL step l s
 | [], _ => trivial
 | e :: r, s => by
  refine ⟨h e s, ?_⟩
  split
  ·exact okL_of h r _
  ·trivial
theorem goL_const {step : T -> σ -> Fr (σ ⊕ ρ)} {c d : ρ} (h : ∀ e s y, (step e s).get = .inr y -> y = c) : (l : List T) -> (s : σ) -> isL (goL step l s) = false -> getR d (goL step l s) = c
 | [], _, hh => by cases hh
 | e :: r, s, hh => by
  simp only [goL] at hh ⊢
  cases hg : (step e s).get with
  | inl s' =>
   simp only [hg] at hh ⊢
   exact goL_const h r s' hh
  | inr y => exact h e s y hg
theorem zip_lt {A B : Type} {l : List A} {l2 : List B} (hz : l.length = l2.length) {i : Int} (h : i < ((l.zip l2).length : Int)) : i < (l.length : Int) := by
 simp only [List.length_zip] at h
 omega
theorem zip_nlt {A B : Type} {l : List A} {l2 : List B} (hz : l.length = l2.length) {i : Int} (h : ¬ i < ((l.zip l2).length : Int)) : ¬ i < (l.length : Int) := by
 simp only [List.length_zip] at h
 omega
theorem zip_le {A B : Type} {l : List A} {l2 : List B} (hz : l.length = l2.length) {b : Int} (h : ((l.zip l2).length : Int) <= b) : (l.length : Int) <= b := by
 simp only [List.length_zip] at h
 omega
theorem zip_fst {A B : Type} {l : List A} {l2 : List B} {i : Nat} {e : A × B} (h : (l.zip l2)[i]? = some e) : l[i]? = some e.1 := by
 rw [List.getElem?_zip_eq_some] at h
 exact h.1
theorem zip_snd {A B : Type} {l : List A} {l2 : List B} {i : Nat} {e : A × B} (h : (l.zip l2)[i]? = some e) : l2[i]? = some e.2 := by
 rw [List.getElem?_zip_eq_some] at h
 exact h.2
theorem getD_of {T : Type} {l : List T} {i : Nat} {e d : T} (h : l[i]? = some e) : l.getD i d = e := by
 rw [List.getD_eq_getElem?_getD, h]
 rfl
theorem wrap_next {i : Int} {n : Nat} (h0 : 0 <= i) (h1 : i < n) (h2 : (n : Int) <= 9223372036854775807) : IntKind.i64.wrap (i + 1) = i + 1 := IntWalk.i64_in _ (by omega)
theorem prev_wrap {i : Int} {n : Nat} (h0 : 0 <= i) (h1 : i < n) (h2 : (n : Int) <= 9223372036854775807) : IntKind.i64.wrap (i - 1) = i - 1 := IntWalk.i64_in _ (by omega)
theorem prev_get {T : Type} {l : List T} {i : Int} {e d : T} (h : l.getD i.toNat d = e) : l.getD (i + 1 - 1).toNat d = e := by
 rw [show i + 1 - 1 = i by omega]
 exact h
theorem prev_in {i : Int} {n : Nat} {b : Bool} (h1 : i < n) (hb : b = decide (i > 0)) (h : b = true) : 0 <= i - 1 /\ i - 1 < n := by
 rw [hb] at h
 have := of_decide_eq_true h
 omega
end
end Go.Ab

namespace Go.Ab
open Go Go.RowKit
section
variable {P : Program} {c : Code} {L Eo R : LS} {n id : Nat} {T σ ρ : Type}
structure InD (good : Prop) (u : Int × List T × σ) : Prop where
 good : good
 lo : -1 <= u.1
 hi : u.1 < u.2.1.length
 big : (u.2.1.length : Int) <= 9223372036854775807
def FD (step : T -> σ -> Fr (σ ⊕ ρ)) (un : L.X -> Int × List T × σ) (good : L.X -> Prop) (outO : σ -> Eo.X) (outR : ρ -> Rd Empty Eo.X R.X) (d : σ) (d2 : ρ) (x : L.X) : Fr (Rd L.X Eo.X R.X) :=
 Fr.need (InD (good x) (un x)) (Fr.need (okL step ((un x).2.1.take ((un x).1 + 1).toNat).reverse (un x).2.2)
  (Fr.br (isL (goL step ((un x).2.1.take ((un x).1 + 1).toNat).reverse (un x).2.2)) (Fr.val (Rd.out (outO (getL d (goL step ((un x).2.1.take ((un x).1 + 1).toNat).reverse (un x).2.2)))))
   (Fr.val (Rd.up (outR (getR d2 (goL step ((un x).2.1.take ((un x).1 + 1).toNat).reverse (un x).2.2)))))))
theorem Does.down {fr : L.X -> Fr (Rd L.X Eo.X R.X)} (h : Does P c L ⟨n, id, L, Eo, R⟩ fr) (step : T -> σ -> Fr (σ ⊕ ρ)) (un : L.X -> Int × List T × σ) (good : L.X -> Prop) (outO : σ -> Eo.X) (outR : ρ -> Rd Empty Eo.X R.X) (d : σ) (d2 : ρ)
  (hround : ∀ x, good x -> 0 <= (un x).1 -> (un x).1 < (un x).2.1.length -> ((un x).2.1.length : Int) <= 9223372036854775807 -> ∀ e, (un x).2.1[(un x).1.toNat]? = some e -> ∀ Q : Rd L.X Eo.X R.X -> Prop,
   (step e (un x).2.2).satP (fun
    | .inl s' => ∀ x', un x' = ((un x).1 - 1, (un x).2.1, s') -> good x' -> Q (.next x')
    | .inr y => Q (Rd.up (outR y))) -> (fr x).satP Q)
  (hend : ∀ x, good x -> ¬ (un x).1 ≥ 0 -> ∀ Q : Rd L.X Eo.X R.X -> Prop, Q (.out (outO (un x).2.2)) -> (fr x).satP Q) :
  Does P (.loop c) L ⟨n, id, L, Eo, R⟩ (FD step un good outO outR d d2) := by
 refine Does.loop (n := n) (id := id) h (inv := fun x => InD (good x) (un x)) (μ := fun x => ((un x).1 + 1).toNat) ?_ (fun x Q hq => hq.1)
 intro x hx Q hq
 obtain ⟨_, hok, hq1, hq2⟩ := hq
 by_cases hi : (un x).1 ≥ 0
 ·have hhi := hx.hi
  have hbig := hx.big
  have hl : (un x).1.toNat < (un x).2.1.length := by omega
  have e1 : ((un x).2.1.take ((un x).1 + 1).toNat).reverse = (un x).2.1[(un x).1.toNat] :: ((un x).2.1.take (un x).1.toNat).reverse := by
   have e0 : ((un x).1 + 1).toNat = (un x).1.toNat + 1 := by omega
   rw [e0, ← List.take_append_getElem hl, List.reverse_append]
   rfl
  have hn : ((un x).1 - 1 + 1).toNat = (un x).1.toNat := by omega
  rw [e1] at hok hq1 hq2
  generalize he : (un x).2.1[(un x).1.toNat] = e at hok hq1 hq2
  have he' : (un x).2.1[(un x).1.toNat]? = some e := by rw [List.getElem?_eq_getElem hl, he]
  refine hround x hx.good hi hhi hbig e he' _ (Fr.satP_of hok.1 ?_)
  have hok2 := hok.2
  simp only [goL] at hq1 hq2
  cases hg : (step e (un x).2.2).get with
  | inl s' =>
   simp only [hg] at hok2 hq1 hq2
   intro x' hun hgd
   have e2 : (un x').1 = (un x).1 - 1 := by rw [hun]
   have e3 : (un x').2.1 = (un x).2.1 := by rw [hun]
   have e4 : (un x').2.2 = s' := by rw [hun]
   have hin : InD (good x') (un x') := ⟨hgd, by rw [e2]; omega, by rw [e2, e3]; omega, by rw [e3]; exact hbig⟩
   refine ⟨hin, by rw [e2]; omega, hin, ?_, ?_, ?_⟩
   ·rw [e2, e3, e4, hn]; exact hok2
   ·rw [e2, e3, e4, hn]; exact hq1
   ·rw [e2, e3, e4, hn]; exact hq2
  | inr y =>
   simp only [hg] at hq1 hq2
   have := hq2 rfl
   simp only [getR] at this
   cases ho : outR y with
   | next x => exact nomatch x
   | out y2 => rw [ho] at this; simp only [ho, Rd.up]; exact this
   | back z => rw [ho] at this; simp only [ho, Rd.up]; exact this
   | pan p => rw [ho] at this; simp only [ho, Rd.up]; exact this
 ·have hl : ((un x).2.1.take ((un x).1 + 1).toNat).reverse = [] := by
   rw [show ((un x).1 + 1).toNat = 0 by omega]
   rfl
  rw [hl] at hq1
  exact hend x hx.good hi _ (hq1 rfl)
end
end Go.Ab
namespace Go.Proofs.YtplkgghjldndkaaGreat
open Go Go.Ab Go.RowKit Go.Proofs
noncomputable def CH0 : Cx := cx [(83, cRightS), (58, cRightS)] []
theorem CH0_ok : CxOK Tryz.prog CH0 := cx_ok mixed ⟨right03_ok, rightS_ok, trivial⟩ trivial
def fr_riskR (x : denP [.d riskT]) : Fr (denL [.bool]) :=
 Fr.val (bif bif bif bif bif bif decide (x.1.1 ≥ 0) then decide (x.1.1 < 4) else false then bif decide (x.1.2.1 ≥ 1) then decide (x.1.2.1 <= 1000000000000000) else false else false then decide (x.1.2.2.1 ≥ 0) else false then decide (x.1.2.2.1 <= 200) else false then decide (x.1.2.2.2.1 ≥ 0) else false then decide (x.1.2.2.2.1 < 100) else false, ())
theorem fr_riskR_ok : SoundCt Tryz.prog 123 ⟨[.d riskT], [.bool], fun xs => (fr_riskR xs).get, fun xs => [(fr_riskR xs).ok]⟩ :=
 fn_sound CH0_ok (Λ := lam0) (fn := Tryz.f123) (dfP [.d riskT]) (by kernel_rfl) (fun c E _ => lam0_ok c 0) (fun x => by kernel_rfl)
def fr_riskR6 (x : denP [.d riskT]) : Fr (denL [.bool]) :=
 Fr.br (bif bif bif decide (x.1.1 < 0) then true else decide (x.1.1 > 3) then true else decide (x.1.2.1 < 1) then true else decide (x.1.2.1 > 1000000000000000)) (Fr.val (false, ())) (Fr.val (bif bif bif decide (x.1.2.2.1 ≥ 0) then decide (x.1.2.2.1 <= 200) else false then decide (x.1.2.2.2.1 ≥ 0) else false then decide (x.1.2.2.2.1 <= 99) else false, ()))
theorem fr_riskR6_ok : SoundCt Tryz.prog 116 ⟨[.d riskT], [.bool], fun xs => (fr_riskR6 xs).get, fun xs => [(fr_riskR6 xs).ok]⟩ :=
 fn_sound CH0_ok (Λ := lam0) (fn := Tryz.f116) (dfP [.d riskT]) (by kernel_rfl) (fun c E _ => lam0_ok c 0) (fun x => by kernel_rfl)
def fr_coverR8 (x : denP [.d coverT]) : Fr (denL [.bool]) :=
 Fr.br (bif bif bif decide (x.1.1 < 0) then true else decide (x.1.1 > 7) then true else decide (x.1.2.2.2.2.1 < 1) then true else decide (x.1.2.2.2.2.1 > 10000)) (Fr.val (false, ())) (Fr.val (bif bif bif decide (x.1.2.2.2.1 ≥ 0) then decide (x.1.2.2.2.1 < x.1.2.1) else false then decide (x.1.2.1 <= x.1.2.2.1) else false then decide (x.1.2.2.1 <= 1000000000000000) else false, ()))
theorem fr_coverR8_ok : SoundCt Tryz.prog 150 ⟨[.d coverT], [.bool], fun xs => (fr_coverR8 xs).get, fun xs => [(fr_coverR8 xs).ok]⟩ :=
 fn_sound CH0_ok (Λ := lam0) (fn := Tryz.f150) (dfP [.d coverT]) (by kernel_rfl) (fun c E _ => lam0_ok c 0) (fun x => by kernel_rfl)
def fr_dayC (x : denP [.d i64]) : Fr (denL [.bool]) :=
 Fr.val (bif decide (x.1 ≥ 1) then decide (x.1 <= 292194) else false, ())
theorem fr_dayC_ok : SoundCt Tryz.prog 105 ⟨[.d i64], [.bool], fun xs => (fr_dayC xs).get, fun xs => [(fr_dayC xs).ok]⟩ :=
 fn_sound CH0_ok (Λ := lam0) (fn := Tryz.f105) (dfP [.d i64]) (by kernel_rfl) (fun c E _ => lam0_ok c 0) (fun x => by kernel_rfl)
def fr_in3 (x : denP [.d spanT, .d i64]) : Fr (denL [.bool]) :=
 Fr.val (bif bif (cRightS.f ((x.1.1, x.1.2.1, ()), ())).1 then decide (x.1.1 <= x.2.1) else false then decide (x.2.1 < x.1.2.1) else false, ())
theorem fr_in3_ok : SoundCt Tryz.prog 70 ⟨[.d spanT, .d i64], [.bool], fun xs => (fr_in3 xs).get, fun xs => [(fr_in3 xs).ok]⟩ :=
 fn_sound CH0_ok (Λ := lam0) (fn := Tryz.f70) (dfP [.d spanT, .d i64]) (by kernel_rfl) (fun c E _ => lam0_ok c 0) (fun x => by kernel_rfl)
def fr_kept (x : denP [.d spanT]) : Fr (denL [spanT]) :=
 Fr.br (bif !(cRightS.f ((x.1.1, x.1.2.1, ()), ())).1 then true else x.1.1 == x.1.2.1) (Fr.val ((0, 0, ()), ())) (Fr.val ((x.1.1, x.1.2.1, ()), ()))
theorem fr_kept_ok : SoundCt Tryz.prog 103 ⟨[.d spanT], [spanT], fun xs => (fr_kept xs).get, fun xs => [(fr_kept xs).ok]⟩ :=
 fn_sound CH0_ok (Λ := lam0) (fn := Tryz.f103) (dfP [.d spanT]) (by kernel_rfl) (fun c E _ => lam0_ok c 0) (fun x => by kernel_rfl)
theorem ite_no (b v : Bool) : (if b = true then ((false, ()) : Bool × Unit) else (v, ())) = (!b && v, ()) := by cases b <;> rfl
def riskB (k v a z : Int) : Bool := decide (0 <= k /\ k < 4 /\ 1 <= v /\ v <= 1000000000000000 /\ 0 <= a /\ a <= 200 /\ 0 <= z /\ z < 100)
def cRisk : Ct := ⟨[.d riskT], [.bool], fun x => (riskB x.1.1 x.1.2.1 x.1.2.2.1 x.1.2.2.2.1, ()), fun _ => []⟩
theorem risk_ok : SoundCt Tryz.prog 123 cRisk :=
 conv fr_riskR_ok _ _ (fun _ _ x _ _ _ => by
  obtain ⟨⟨k, v, a, z, _⟩, _⟩ := x
  refine ⟨by simp [conj, Fr.ok, fr_riskR], ?_⟩
  dsimp only [fr_riskR, Fr.get, riskB, Ty.den, PT.den]
  simp only [Bool.cond_true_left, Bool.cond_false_right]
  congr 1
  rw [Bool.eq_iff_iff]
  simp only [Bool.and_eq_true, Bool.or_eq_true, decide_eq_true_eq]
  omega)
theorem risk6_ok : SoundCt Tryz.prog 116 cRisk :=
 conv fr_riskR6_ok _ _ (fun _ _ x _ _ _ => by
  obtain ⟨⟨k, v, a, z, _⟩, _⟩ := x
  refine ⟨by simp [conj, Fr.ok, fr_riskR6], ?_⟩
  dsimp only [fr_riskR6, Fr.get, riskB, Ty.den, PT.den]
  simp only [ite_no, Bool.cond_true_left, Bool.cond_false_right]
  congr 1
  rw [Bool.eq_iff_iff]
  simp only [Bool.and_eq_true, Bool.not_eq_true', Bool.or_eq_false_iff, decide_eq_true_eq, decide_eq_false_iff_not]
  omega)
def coverB (p l g d s : Int) : Bool := decide (0 <= p /\ p < 8 /\ 1 <= s /\ s <= 10000 /\ 0 <= d /\ d < l /\ l <= g /\ g <= 1000000000000000)
def cCover : Ct := ⟨[.d coverT], [.bool], fun x => (coverB x.1.1 x.1.2.1 x.1.2.2.1 x.1.2.2.2.1 x.1.2.2.2.2.1, ()), fun _ => []⟩
theorem cover8_ok : SoundCt Tryz.prog 150 cCover :=
 conv fr_coverR8_ok _ _ (fun _ _ x _ _ _ => by
  obtain ⟨⟨p, l, g, d, s, _⟩, _⟩ := x
  refine ⟨by simp [conj, Fr.ok, fr_coverR8], ?_⟩
  dsimp only [fr_coverR8, Fr.get, coverB, Ty.den, PT.den]
  simp only [ite_no, Bool.cond_true_left, Bool.cond_false_right]
  congr 1
  rw [Bool.eq_iff_iff]
  simp only [Bool.and_eq_true, Bool.not_eq_true', Bool.or_eq_false_iff, decide_eq_true_eq, decide_eq_false_iff_not]
  omega)
def dayB (d : Int) : Bool := decide (1 <= d /\ d <= 292194)
def cDay : Ct := ⟨[.d i64], [.bool], fun x => (dayB x.1, ()), fun _ => []⟩
theorem day_ok : SoundCt Tryz.prog 105 cDay :=
 conv fr_dayC_ok _ _ (fun _ _ x _ _ _ => by
  obtain ⟨d, _⟩ := x
  refine ⟨by simp [conj, Fr.ok, fr_dayC], ?_⟩
  dsimp only [fr_dayC, Fr.get, dayB, Ty.den, PT.den]
  simp only [Bool.cond_false_right]
  congr 1
  rw [Bool.eq_iff_iff]
  simp only [Bool.and_eq_true, decide_eq_true_eq, ge_iff_le])
def inB (a b d : Int) : Bool := decide (1 <= a /\ b <= 292195 /\ a <= d /\ d < b)
def cIn : Ct := ⟨[.d spanT, .d i64], [.bool], fun x => (inB x.1.1 x.1.2.1 x.2.1, ()), fun _ => []⟩
theorem in3_ok : SoundCt Tryz.prog 70 cIn :=
 conv fr_in3_ok _ _ (fun _ _ x _ _ _ => by
  obtain ⟨⟨a, b, _⟩, d, _⟩ := x
  refine ⟨by simp [conj, Fr.ok, fr_in3], ?_⟩
  dsimp only [fr_in3, Fr.get, inB, cRightS, rightS, Ty.den, PT.den]
  simp only [Bool.cond_true_left, Bool.cond_false_right]
  congr 1
  rw [Bool.eq_iff_iff]
  simp only [Bool.and_eq_true, decide_eq_true_eq]
  omega)
def keptS (s : spanT.den) : spanT.den := if fullS s = true then s else (0, 0, ())
def cKept : Ct := ⟨[.d spanT], [spanT], fun x => (keptS x.1, ()), fun _ => []⟩
theorem kept_p (a b : Int) : ((¬a ≥ 1 ∨ ¬a <= b ∨ ¬b <= 292195) ∨ a = b) ↔ (¬a ≥ 1 ∨ ¬a < b ∨ ¬b <= 292195) := by omega
theorem kept_b (a b : Int) : (bif !(rightS (a, b, ())) then true else a == b) = !(fullS (a, b, ())) := by
 dsimp only [rightS, fullS, Ty.den, PT.den]
 simp only [Bool.cond_true_left]
 rw [Bool.eq_iff_iff]
 simp only [Bool.and_eq_true, Bool.or_eq_true, Bool.not_eq_true', Bool.and_eq_false_iff, decide_eq_true_eq, decide_eq_false_iff_not, beq_iff_eq]
 exact kept_p a b
theorem kept_ok : SoundCt Tryz.prog 103 cKept :=
 conv fr_kept_ok _ _ (fun _ _ x _ _ _ => by
  obtain ⟨⟨a, b, _⟩, _⟩ := x
  refine ⟨by simp [conj, Fr.ok, fr_kept], ?_⟩
  show (if (bif !(rightS (a, b, ())) then true else a == b) = true then (((0, 0, ()), ()) : spanT.den × Unit) else ((a, b, ()), ())) = (if fullS (a, b, ()) = true then (a, b, ()) else (0, 0, ()), ())
  rw [kept_b]
  cases fullS (a, b, ()) <;> rfl)
noncomputable def CH1 : Cx := cx [(103, cKept)] []
theorem CH1_ok : CxOK Tryz.prog CH1 := cx_ok mixed ⟨kept_ok, trivial⟩ trivial
noncomputable def CH2 : Cx := cx [(166, cLess), (145, cNaN)] []
theorem CH2_ok : CxOK Tryz.prog CH2 := cx_ok mixed ⟨less_ok, nan2_ok, trivial⟩ trivial
def srt : List Int -> Bool
 | a :: b :: r => decide (a <= b) && srt (b :: r)
 | _ => true
theorem srt_push : (l : List Int) -> (a b : Int) -> srt (l ++ [a, b]) = (srt (l ++ [a]) && decide (a <= b))
 | [], a, b => by simp [srt]
 | [x], a, b => by simp [srt]
 | x :: y :: l, a, b => by
  have := srt_push (y :: l) a b
  simp only [List.cons_append, srt] at this ⊢
  rw [this, Bool.and_assoc]
abbrev pt_srt : Pt := ⟨21, 0, ⟨[(0, .d ints), (3, .d i64)], []⟩, ⟨[], []⟩, ⟨[(2, .d .bool)], []⟩⟩
def fr_srt (x : pt_srt.M.X) : Fr pt_srt.Out :=
 Fr.br (decide (x.1.2.1 > 0))
  (Fr.need (0 <= x.1.2.1 /\ x.1.2.1 < x.1.1.length)
   (Fr.need (0 <= IntKind.i64.wrap (x.1.2.1 - 1) /\ IntKind.i64.wrap (x.1.2.1 - 1) < x.1.1.length)
    (Fr.br (cLess.f (x.1.1.getD x.1.2.1.toNat i64.dflt, x.1.1.getD (IntKind.i64.wrap (x.1.2.1 - 1)).toNat i64.dflt, ())).1
     (Fr.val (Rd.back ((false, ()), ())))
     (Fr.val (Rd.next ((x.1.1, IntKind.i64.wrap (x.1.2.1 - 1), ()), ()))))))
  (Fr.val (Rd.out ((), ())))
theorem sem_srt : Does Tryz.prog (loopF Tryz.f155 0) pt_srt.M pt_srt fr_srt :=
 Does.of_run CH2_ok (bs := 0) (Λ := lam0) rfl rfl rfl (fun E => lam0_ok _ 0) (fun x => by kernel_rfl)
def InS (l : List Int) (i : Int) : Prop := -1 <= i /\ i < l.length /\ (l.length : Int) <= 9223372036854775807
def FSrt (x : pt_srt.M.X) : Fr pt_srt.Out :=
 Fr.need (InS x.1.1 x.1.2.1) (Fr.br (srt (x.1.1.take (x.1.2.1 + 1).toNat)) (Fr.val (Rd.out ((), ()))) (Fr.val (Rd.back ((false, ()), ()))))
theorem srt_take (l : List Int) (k : Nat) (h : k + 1 < l.length) : srt (l.take (k + 2)) = (srt (l.take (k + 1)) && decide (l[k] <= l[k + 1])) := by
 have e1 : l.take (k + 1) = l.take k ++ [l[k]] := (List.take_append_getElem (show k < l.length by omega)).symm
 have e2 : l.take (k + 2) = l.take k ++ [l[k], l[k + 1]] := by
  have e3 : l.take (k + 2) = l.take (k + 1) ++ [l[k + 1]] := (List.take_append_getElem h).symm
  rw [e3, e1, List.append_assoc]
  rfl
 rw [e2, e1, srt_push]
theorem lawSrt (l : List Int) (i : Int) (hinv : InS l i) (Q : pt_srt.Out -> Prop)
  (hq : (Fr.br (srt (l.take (i + 1).toNat)) (Fr.val (Rd.out ((), ()))) (Fr.val (Rd.back ((false, ()), ()))) : Fr pt_srt.Out).satP Q) :
  (fr_srt ((l, i, ()), ())).satP fun
   | .next x' => InS x'.1.1 x'.1.2.1 /\ x'.1.2.1.toNat < i.toNat /\ (FSrt x').satP Q
   | .out y => Q (.out y)
   | .back z => Q (.back z)
   | .pan p => Q (.pan p) := by
 obtain ⟨h1, h2, h3⟩ := hinv
 refine ⟨fun hi => ?_, fun hi => ?_⟩
 ·have hi' : i > 0 := of_decide_eq_true hi
  obtain ⟨k, hk⟩ : ∃ k : Nat, i = k + 1 := ⟨(i - 1).toNat, by omega⟩
  subst hk
  have hw : IntKind.i64.wrap ((k : Int) + 1 - 1) = k := by rw [show (k : Int) + 1 - 1 = k by omega]; exact IntWalk.i64_in _ (by omega)
  have hl : k + 1 < l.length := by omega
  have g1 : l.getD ((k : Int) + 1).toNat i64.dflt = l[k + 1] := by
   rw [show ((k : Int) + 1).toNat = k + 1 by omega, List.getD_eq_getElem?_getD, List.getElem?_eq_getElem hl]; rfl
  have g2 : l.getD (k : Int).toNat i64.dflt = l[k] := by
   rw [show (k : Int).toNat = k by omega, List.getD_eq_getElem?_getD, List.getElem?_eq_getElem (show k < l.length by omega)]; rfl
  have e1 : ((k : Int) + 1 + 1).toNat = k + 2 := by omega
  rw [e1, srt_take l k hl] at hq
  dsimp only [fr_srt, Fr.satP, cLess]
  rw [hw, g1, g2]
  have hI : InS l k := ⟨by omega, by omega, h3⟩
  refine ⟨⟨(show (0 : Int) <= (k : Int) + 1 by omega), h2⟩, ⟨(show (0 : Int) <= (k : Int) by omega), (show (k : Int) < (l.length : Int) by omega)⟩, fun hc => ?_, fun hc => ?_⟩
  ·have hc' : ¬ l[k] <= l[k + 1] := by have := of_decide_eq_true hc; exact Int.not_le.2 this
   rw [decide_eq_false hc', Bool.and_false] at hq
   exact hq.2 rfl
  ·have hc' : l[k] <= l[k + 1] := by have := of_decide_eq_false hc; exact Int.not_lt.1 this
   rw [decide_eq_true hc', Bool.and_true] at hq
   exact ⟨hI, by omega, hI, by rw [show ((k : Int) + 1).toNat = k + 1 by omega]; exact hq⟩
 ·have hi' : ¬ i > 0 := of_decide_eq_false hi
  have hle : (i + 1).toNat <= 1 := by omega
  have : srt (l.take (i + 1).toNat) = true := by
   rcases Nat.lt_or_ge (i + 1).toNat 1 with h | h
   ·rw [show (i + 1).toNat = 0 by omega]; rfl
   ·rw [show (i + 1).toNat = 1 by omega]
    cases l <;> rfl
  rw [this] at hq
  exact hq.1 rfl
theorem loopSrt : Does Tryz.prog (.loop (loopF Tryz.f155 0)) pt_srt.M pt_srt FSrt := by
 refine Does.loop (n := 21) (id := 0) sem_srt (inv := fun x => InS x.1.1 x.1.2.1) (μ := fun x => x.1.2.1.toNat) ?_ (fun x Q h => h.1)
 rintro ⟨⟨l, i, _⟩, _⟩ hinv Q hq
 exact lawSrt l i hinv Q hq.2
noncomputable def ΛSrt : Nat -> St -> Option Tr := fun _ => pt_srt.han CH2.Γ pt_srt.M FSrt
def cSorted : Ct := ⟨[.d ints], [.bool], fun x => (srt x.1, ()), fun _ => []⟩
def fr_sorted (x : denP [.d ints]) : Fr (denL [.bool]) :=
 Fr.need (InS x.1 (IntKind.i64.wrap (x.1.length - 1))) (Fr.br (srt (x.1.take (IntKind.i64.wrap (x.1.length - 1) + 1).toNat)) (Fr.val (true, ())) (Fr.val (false, ())))
theorem sorted_ok : SoundCt Tryz.prog 155 cSorted :=
 conv (fn_sound CH2_ok (Λ := ΛSrt) (fn := Tryz.f155) (fr := fr_sorted) (ps := [.d ints]) (rs := [.bool]) ([], ()) (by kernel_rfl)
  (fun c E hc => lam1f hc (by kernel_rfl) (b := loopF Tryz.f155 0) (by kernel_rfl) (Does.han CH2_ok rfl loopSrt)) (fun x => by kernel_rfl)) _ _ fun w F xs vs hr _ => by
  obtain ⟨l, _⟩ := xs
  obtain ⟨v, vs', rfl, hv, _⟩ := hr
  have hwf := RepT.wf hv.2.2
  have hlen : l.length <= maxLen := hwf.1
  have hw : IntKind.i64.wrap ((l.length : Int) - 1) = l.length - 1 := IntWalk.i64_in _ (by simp only [maxLen] at hlen; omega)
  have ht : l.take ((l.length : Int) - 1 + 1).toNat = l := List.take_of_length_le (by omega)
  refine ⟨⟨?_, fun _ => trivial, fun _ => trivial⟩, ?_⟩
  ·show InS l (IntKind.i64.wrap ((l.length : Int) - 1))
   rw [hw]
   simp only [maxLen] at hlen
   exact ⟨by omega, by omega, by omega⟩
  ·show (if srt (l.take (IntKind.i64.wrap ((l.length : Int) - 1) + 1).toNat) = true then (true, ()) else (false, ())) = (srt l, ())
   rw [hw, ht]
   cases srt l <;> rfl
noncomputable def CH3 : Cx := cx [(155, cSorted), (145, cNaN)] []
theorem CH3_ok : CxOK Tryz.prog CH3 := cx_ok mixed ⟨sorted_ok, nan2_ok, trivial⟩ trivial
def fr_coverR (x : denP [.d coverT]) : Fr (denL [.bool]) :=
 Fr.br (bif decide (x.1.1 ≥ 0) then decide (x.1.1 < 8) else false) (Fr.br (bif decide (x.1.2.2.2.2.1 ≥ 1) then decide (x.1.2.2.2.2.1 <= 10000) else false) (Fr.br (cSorted.f ([0, x.1.2.2.2.1, IntKind.i64.wrap (x.1.2.1 - 1), IntKind.i64.wrap (x.1.2.2.1 - 1), 999999999999999], ())).1 (Fr.val (decide (x.1.2.2.2.1 < x.1.2.1), ())) (Fr.val (false, ()))) (Fr.val (false, ()))) (Fr.val (false, ()))
theorem fr_coverR_ok : SoundCt Tryz.prog 132 ⟨[.d coverT], [.bool], fun xs => (fr_coverR xs).get, fun xs => [(fr_coverR xs).ok]⟩ :=
 fn_sound CH3_ok (Λ := lam0) (fn := Tryz.f132) (dfP [.d coverT]) (by kernel_rfl) (fun c E _ => lam0_ok c 0) (fun x => by kernel_rfl)
def fr_cmp (x : denP [.d i64, .d i64]) : Fr (denL [i64]) :=
 Fr.br (cNaN.f (x.1, ())).1 (Fr.br (cNaN.f (x.2.1, ())).1 (Fr.val (0, ())) (Fr.val (-1, ()))) (Fr.br (cNaN.f (x.2.1, ())).1 (Fr.val (1, ())) (Fr.br (decide (x.1 < x.2.1)) (Fr.val (-1, ())) (Fr.br (decide (x.1 > x.2.1)) (Fr.val (1, ())) (Fr.val (0, ())))))
theorem fr_cmp_ok : SoundCt Tryz.prog 108 ⟨[.d i64, .d i64], [i64], fun xs => (fr_cmp xs).get, fun xs => [(fr_cmp xs).ok]⟩ :=
 fn_sound CH3_ok (Λ := lam0) (fn := Tryz.f108) (dfP [.d i64, .d i64]) (by kernel_rfl) (fun c E _ => lam0_ok c 0) (fun x => by kernel_rfl)
def fr_inS (x : denP [.d spanT, .d i64]) : Fr (denL [.bool]) :=
 Fr.val (bif decide (x.2.1 ≥ (cKept.f ((x.1.1, x.1.2.1, ()), ())).1.1) then decide (x.2.1 < (cKept.f ((x.1.1, x.1.2.1, ()), ())).1.2.1) else false, ())
theorem fr_inS_ok : SoundCt Tryz.prog 67 ⟨[.d spanT, .d i64], [.bool], fun xs => (fr_inS xs).get, fun xs => [(fr_inS xs).ok]⟩ :=
 fn_sound CH1_ok (Λ := lam0) (fn := Tryz.f67) (dfP [.d spanT, .d i64]) (by kernel_rfl) (fun c E _ => lam0_ok c 0) (fun x => by kernel_rfl)
def fr_manyS (x : denP [.d spanT]) : Fr (denL [i64]) :=
 Fr.val (IntKind.i64.wrap ((cKept.f ((x.1.1, x.1.2.1, ()), ())).1.2.1 - (cKept.f ((x.1.1, x.1.2.1, ()), ())).1.1), ())
theorem fr_manyS_ok : SoundCt Tryz.prog 121 ⟨[.d spanT], [i64], fun xs => (fr_manyS xs).get, fun xs => [(fr_manyS xs).ok]⟩ :=
 fn_sound CH1_ok (Λ := lam0) (fn := Tryz.f121) (dfP [.d spanT]) (by kernel_rfl) (fun c E _ => lam0_ok c 0) (fun x => by kernel_rfl)
theorem i64wf {n : Int} (h : Wf i64 n) : -9223372036854775808 <= n /\ n <= 9223372036854775807 := h
theorem wrap_less {n : Int} (h : -9223372036854775808 <= n /\ n <= 9223372036854775807) : (n = -9223372036854775808 /\ IntKind.i64.wrap (n - 1) = 9223372036854775807) ∨ (-9223372036854775808 < n /\ IntKind.i64.wrap (n - 1) = n - 1) := by
 by_cases hn : n = -9223372036854775808
 ·left
  subst hn
  exact ⟨rfl, by kernel_rfl⟩
 ·right
  exact ⟨by omega, i64w (by omega)⟩
theorem coverR_b (p l g d s : Int) (hl : -9223372036854775808 <= l /\ l <= 9223372036854775807) (hg : -9223372036854775808 <= g /\ g <= 9223372036854775807) :
  (srt [0, d, IntKind.i64.wrap (l - 1), IntKind.i64.wrap (g - 1), 999999999999999] && decide (d < l)) = decide (0 <= d /\ d < l /\ l <= g /\ g <= 1000000000000000) := by
 rw [Bool.eq_iff_iff]
 simp only [srt, Bool.and_eq_true, decide_eq_true_eq]
 rcases wrap_less hl with ⟨h1, h2⟩ | ⟨h1, h2⟩ <;> rcases wrap_less hg with ⟨h3, h4⟩ | ⟨h3, h4⟩ <;> rw [h2, h4]
 ·omega
 ·omega
 ·omega
 ·constructor
  ·rintro ⟨⟨a1, a2, a3, a4, _⟩, a5⟩
   exact ⟨a1, a5, by omega, by omega⟩
  ·rintro ⟨a1, a2, a3, a4⟩
   exact ⟨⟨a1, by omega, by omega, by omega, trivial⟩, a2⟩
theorem cover_ok : SoundCt Tryz.prog 132 cCover :=
 conv fr_coverR_ok _ _ (fun w F x vs hr _ => by
  obtain ⟨⟨p, l, g, d, s, _⟩, _⟩ := x
  obtain ⟨v, vs', rfl, hv, _⟩ := hr
  have hwf := RepT.wf hv.2.2
  refine ⟨by simp [conj, Fr.ok, fr_coverR], ?_⟩
  have hb := coverR_b p l g d s (i64wf hwf.2.1) (i64wf hwf.2.2.1)
  show (if (bif decide (p ≥ 0) then decide (p < 8) else false) = true then (if (bif decide (s ≥ 1) then decide (s <= 10000) else false) = true then (if srt [0, d, IntKind.i64.wrap (l - 1), IntKind.i64.wrap (g - 1), 999999999999999] = true then (decide (d < l), ()) else (false, ())) else (false, ())) else (false, ())) = (coverB p l g d s, ())
  have h1 : (if srt [0, d, IntKind.i64.wrap (l - 1), IntKind.i64.wrap (g - 1), 999999999999999] = true then ((decide (d < l), ()) : Bool × Unit) else (false, ())) = (decide (0 <= d /\ d < l /\ l <= g /\ g <= 1000000000000000), ()) := by
   rw [← hb]
   cases srt [0, d, IntKind.i64.wrap (l - 1), IntKind.i64.wrap (g - 1), 999999999999999] <;> rfl
  rw [h1]
  have h2 : ∀ (a b c : Bool), (if a = true then (if b = true then ((c, ()) : Bool × Unit) else (false, ())) else (false, ())) = (a && (b && c), ()) := fun a b c => by cases a <;> cases b <;> rfl
  rw [h2]
  congr 1
  rw [Bool.eq_iff_iff]
  simp only [coverB, Bool.cond_false_right, Bool.and_eq_true, decide_eq_true_eq]
  exact ⟨fun ⟨⟨a1, a2⟩, ⟨a3, a4⟩, a5⟩ => ⟨a1, a2, a3, a4, a5⟩, fun ⟨a1, a2, a3, a4, a5⟩ => ⟨⟨a1, a2⟩, ⟨a3, a4⟩, a5⟩⟩)
def cmpZ (a b : Int) : Int := if a < b then -1 else if b < a then 1 else 0
def cCmp : Ct := ⟨[.d i64, .d i64], [i64], fun x => (cmpZ x.1 x.2.1, ()), fun _ => []⟩
theorem cmp_ok : SoundCt Tryz.prog 108 cCmp :=
 conv fr_cmp_ok _ _ (fun _ _ x _ _ _ => by
  obtain ⟨a, b, _⟩ := x
  refine ⟨by simp [conj, Fr.ok, fr_cmp], ?_⟩
  show (if decide (a < b) = true then ((-1 : Int), ()) else if decide (a > b) = true then (1, ()) else (0, ())) = (if a < b then -1 else if b < a then 1 else 0, ())
  by_cases h1 : a < b
  ·rw [if_pos (decide_eq_true h1), if_pos h1]
  ·rw [if_neg (by simp [h1]), if_neg h1]
   by_cases h2 : b < a
   ·rw [if_pos (decide_eq_true h2), if_pos h2]
   ·rw [if_neg (by simpa using h2), if_neg h2])
theorem inS_b (a b d : Int) : (bif decide (d ≥ (keptS (a, b, ())).1) then decide (d < (keptS (a, b, ())).2.1) else false) = inB a b d := by
 unfold keptS
 by_cases h : fullS (a, b, ()) = true
 ·rw [if_pos h]
  obtain ⟨h1, h2, h3⟩ := fullS_iff.1 h
  simp only [Bool.cond_false_right, inB]
  rw [Bool.eq_iff_iff]
  simp only [Bool.and_eq_true, decide_eq_true_eq, Ty.den, PT.den]
  constructor
  ·rintro ⟨a1, a2⟩; exact ⟨h1, h3, a1, a2⟩
  ·rintro ⟨_, _, a1, a2⟩; exact ⟨a1, a2⟩
 ·rw [if_neg h]
  have h' : ¬ (1 <= a /\ a < b /\ b <= 292195) := fun hh => h (fullS_iff.2 hh)
  simp only [Bool.cond_false_right, inB]
  rw [Bool.eq_iff_iff]
  simp only [Bool.and_eq_true, decide_eq_true_eq]
  constructor
  ·rintro ⟨a1, a2⟩
   have a1' : (0 : Int) <= d := a1
   have a2' : d < (0 : Int) := a2
   omega
  ·rintro ⟨a1, a2, a3, a4⟩
   exact absurd ⟨a1, by omega, a2⟩ h'
theorem inS_ok : SoundCt Tryz.prog 67 cIn :=
 conv fr_inS_ok _ _ (fun _ _ x _ _ _ => by
  obtain ⟨⟨a, b, _⟩, d, _⟩ := x
  refine ⟨by simp [conj, Fr.ok, fr_inS], ?_⟩
  exact congrArg (·, ()) (inS_b a b d))
def manyS (a b : Int) : Int := if fullS (a, b, ()) = true then b - a else 0
def cManyS : Ct := ⟨[.d spanT], [i64], fun x => (manyS x.1.1 x.1.2.1, ()), fun _ => []⟩
theorem manyS_ok : SoundCt Tryz.prog 121 cManyS :=
 conv fr_manyS_ok _ _ (fun _ _ x _ _ _ => by
  obtain ⟨⟨a, b, _⟩, _⟩ := x
  refine ⟨by simp [conj, Fr.ok, fr_manyS], ?_⟩
  show (IntKind.i64.wrap ((keptS (a, b, ())).2.1 - (keptS (a, b, ())).1), ()) = (manyS a b, ())
  unfold keptS manyS
  by_cases h : fullS (a, b, ()) = true
  ·rw [if_pos h, if_pos h]
   obtain ⟨h1, h2, h3⟩ := fullS_iff.1 h
   have hw : IntKind.i64.wrap (b - a) = b - a := i64w (by omega)
   exact congrArg (·, ()) hw
  ·rw [if_neg h, if_neg h]
   rfl)
abbrev bandT : Ty := .pair i64 (.pair i64 .unit)
noncomputable def CH4 : Cx := cx [(132, cCover), (150, cCover)] []
theorem CH4_ok : CxOK Tryz.prog CH4 := cx_ok mixed ⟨cover_ok, cover8_ok, trivial⟩ trivial
abbrev pt_r10_Same : Pt := ⟨26, 0, ⟨[(5, .d i64), (0, .d (.sl coverT)), (1, .d (.sl coverT))], []⟩, ⟨[], []⟩, ⟨[(4, .d .bool)], []⟩⟩
def fr_r10_Same (x : pt_r10_Same.M.X) : Fr pt_r10_Same.Out :=
 Fr.br (decide (x.1.1 < ↑(List.length x.1.2.1))) (Fr.need (0 <= x.1.1 /\ x.1.1 < ↑(List.length x.1.2.1)) (Fr.need (0 <= x.1.1 /\ x.1.1 < ↑(List.length x.1.2.2.1)) (Fr.br (!((List.getD x.1.2.1 (Int.toNat x.1.1) coverT.dflt).1 == (List.getD x.1.2.2.1 (Int.toNat x.1.1) coverT.dflt).1 && ((List.getD x.1.2.1 (Int.toNat x.1.1) coverT.dflt).2.1 == (List.getD x.1.2.2.1 (Int.toNat x.1.1) coverT.dflt).2.1 && ((List.getD x.1.2.1 (Int.toNat x.1.1) coverT.dflt).2.2.1 == (List.getD x.1.2.2.1 (Int.toNat x.1.1) coverT.dflt).2.2.1 && ((List.getD x.1.2.1 (Int.toNat x.1.1) coverT.dflt).2.2.2.1 == (List.getD x.1.2.2.1 (Int.toNat x.1.1) coverT.dflt).2.2.2.1 && ((List.getD x.1.2.1 (Int.toNat x.1.1) coverT.dflt).2.2.2.2.1 == (List.getD x.1.2.2.1 (Int.toNat x.1.1) coverT.dflt).2.2.2.2.1 && true)))))) (Fr.val (Rd.back ((false, ()), ()))) (Fr.val (Rd.next ((IntKind.i64.wrap (x.1.1 + 1), x.1.2.1, x.1.2.2.1, ()), ())))))) (Fr.val (Rd.out ((), ())))
theorem sem_r10_Same : Does Tryz.prog (loopF Tryz.f112 0) pt_r10_Same.M pt_r10_Same fr_r10_Same :=
 Does.of_run CH4_ok (bs := 0) (Λ := lam0) rfl rfl rfl (fun E => lam0_ok _ 0) (fun x => by kernel_rfl)
abbrev st_r10_Same : Type := denP [.d (.sl coverT)] × denM []
def step_r10_Same (e : (coverT.den × coverT.den)) (s : st_r10_Same) : Fr (st_r10_Same ⊕ pt_r10_Same.R.X) :=
 Fr.br (!(e.1.1 == e.2.1 && (e.1.2.1 == e.2.2.1 && (e.1.2.2.1 == e.2.2.2.1 && (e.1.2.2.2.1 == e.2.2.2.2.1 && (e.1.2.2.2.2.1 == e.2.2.2.2.2.1 && true)))))) (Fr.val (.inr ((false, ()), ()))) (Fr.val (.inl ((s.1.1, ()), ())))
def un_r10_Same (x : pt_r10_Same.M.X) : Int × List (coverT.den × coverT.den) × st_r10_Same := (x.1.1, x.1.2.1.zip x.1.2.2.1, x.1.2.2, x.2)
def good_r10_Same (x : pt_r10_Same.M.X) : Prop := x.1.2.1.length = x.1.2.2.1.length
def out_r10_Same (s : st_r10_Same) : pt_r10_Same.E.X := ((), ())
def dS_r10_Same : st_r10_Same := (dfP _, dfM _)
def dR_r10_Same : pt_r10_Same.R.X := (dfP _, dfM _)
theorem loop_r10_Same : Does Tryz.prog (.loop (loopF Tryz.f112 0)) pt_r10_Same.M pt_r10_Same (FL step_r10_Same un_r10_Same good_r10_Same out_r10_Same Rd.back dS_r10_Same dR_r10_Same) := by
 refine Does.list sem_r10_Same step_r10_Same un_r10_Same good_r10_Same out_r10_Same Rd.back dS_r10_Same dR_r10_Same ?_ ?_
 ·rintro ⟨⟨i, l, s⟩, m⟩ hg h0 h1 hb e he Q h
  have hz : l.length = s.1.length := hg
  have h0 : 0 <= i := h0
  have h1 : i < (l.length : Int) := zip_lt hz h1
  have hb : (l.length : Int) <= 9223372036854775807 := zip_le hz hb
  have h1z : i < (s.1.length : Int) := by rw [← hz]; exact h1
  have hd : l.getD i.toNat coverT.dflt = e.1 := getD_of (zip_fst he)
  have hdz : s.1.getD i.toNat coverT.dflt = e.2 := getD_of (zip_snd he)
  have hw := wrap_next h0 h1 hb
  dsimp only [un_r10_Same, step_r10_Same, fr_r10_Same, Fr.satP] at h ⊢
  simp only [hd, hw, hdz] at h ⊢
  refine ⟨fun _ => ?_, fun hn => absurd h1 (of_decide_eq_false hn)⟩
  repeat' first
   | exact h
   | exact ⟨h0, h1⟩
   | exact fun _ => ⟨h0, h1⟩
   | exact ⟨h0, h1z⟩
   | exact fun _ => ⟨h0, h1z⟩
   | exact h _ rfl hz
   | refine ⟨?_, ?_⟩
   | (intro (hc : _ = true); replace h := h.1 hc)
   | (intro (hc : _ = false); replace h := h.2 hc)
 ·rintro ⟨⟨i, l, s⟩, m⟩ hg h1 Q h
  have hz : l.length = s.1.length := hg
  exact ⟨fun hn => absurd (of_decide_eq_true hn) (zip_nlt hz h1), fun _ => h⟩
def Λ_r10_Same (Γ : FuncId -> Option Ct) : St -> Option Tr := pt_r10_Same.han Γ pt_r10_Same.M (FL step_r10_Same un_r10_Same good_r10_Same out_r10_Same Rd.back dS_r10_Same dR_r10_Same)
def res_r10_Same (y : pt_r10_Same.M.X) : st_r10_Same ⊕ pt_r10_Same.R.X := goL step_r10_Same ((un_r10_Same y).2.1.drop (un_r10_Same y).1.toNat) (un_r10_Same y).2.2
def okr_r10_Same (y : pt_r10_Same.M.X) : Prop := okL step_r10_Same ((un_r10_Same y).2.1.drop (un_r10_Same y).1.toNat) (un_r10_Same y).2.2
abbrev pt_alike : Pt := ⟨26, 0, ⟨[(14, .d i64), (13, .d i64), (12, .d (.sl coverT)), (1, .d (.sl coverT))], []⟩, ⟨[], []⟩, ⟨[(4, .d .bool)], []⟩⟩
def fr_alike (x : pt_alike.M.X) : Fr pt_alike.Out :=
 Fr.br (decide (x.1.1 < x.1.2.1)) (Fr.need (0 <= x.1.1 /\ x.1.1 < ↑(List.length x.1.2.2.1)) (Fr.need (0 <= x.1.1 /\ x.1.1 < ↑(List.length x.1.2.2.2.1)) (Fr.br (!((List.getD x.1.2.2.1 (Int.toNat x.1.1) coverT.dflt).1 == (List.getD x.1.2.2.2.1 (Int.toNat x.1.1) coverT.dflt).1 && ((List.getD x.1.2.2.1 (Int.toNat x.1.1) coverT.dflt).2.1 == (List.getD x.1.2.2.2.1 (Int.toNat x.1.1) coverT.dflt).2.1 && ((List.getD x.1.2.2.1 (Int.toNat x.1.1) coverT.dflt).2.2.1 == (List.getD x.1.2.2.2.1 (Int.toNat x.1.1) coverT.dflt).2.2.1 && ((List.getD x.1.2.2.1 (Int.toNat x.1.1) coverT.dflt).2.2.2.1 == (List.getD x.1.2.2.2.1 (Int.toNat x.1.1) coverT.dflt).2.2.2.1 && ((List.getD x.1.2.2.1 (Int.toNat x.1.1) coverT.dflt).2.2.2.2.1 == (List.getD x.1.2.2.2.1 (Int.toNat x.1.1) coverT.dflt).2.2.2.2.1 && true)))))) (Fr.val (Rd.back ((false, ()), ()))) (Fr.val (Rd.next ((IntKind.i64.wrap (x.1.1 + 1), x.1.2.1, x.1.2.2.1, x.1.2.2.2.1, ()), ())))))) (Fr.val (Rd.out ((), ())))
theorem sem_alike : Does Tryz.prog (loopF Tryz.f129 0) pt_alike.M pt_alike fr_alike :=
 Does.of_run CH4_ok (bs := 0) (Λ := lam0) rfl rfl rfl (fun E => lam0_ok _ 0) (fun x => by kernel_rfl)
abbrev st_alike : Type := denP [.d (.sl coverT)] × denM []
def step_alike (e : (coverT.den × coverT.den)) (s : st_alike) : Fr (st_alike ⊕ pt_alike.R.X) :=
 Fr.br (!(e.1.1 == e.2.1 && (e.1.2.1 == e.2.2.1 && (e.1.2.2.1 == e.2.2.2.1 && (e.1.2.2.2.1 == e.2.2.2.2.1 && (e.1.2.2.2.2.1 == e.2.2.2.2.2.1 && true)))))) (Fr.val (.inr ((false, ()), ()))) (Fr.val (.inl ((s.1.1, ()), ())))
def un_alike (x : pt_alike.M.X) : Int × List (coverT.den × coverT.den) × st_alike := (x.1.1, x.1.2.2.1.zip x.1.2.2.2.1, x.1.2.2.2, x.2)
def good_alike (x : pt_alike.M.X) : Prop := x.1.2.1 = (x.1.2.2.1.length : Int) /\ x.1.2.2.1.length = x.1.2.2.2.1.length
def out_alike (s : st_alike) : pt_alike.E.X := ((), ())
def dS_alike : st_alike := (dfP _, dfM _)
def dR_alike : pt_alike.R.X := (dfP _, dfM _)
theorem loop_alike : Does Tryz.prog (.loop (loopF Tryz.f129 0)) pt_alike.M pt_alike (FL step_alike un_alike good_alike out_alike Rd.back dS_alike dR_alike) := by
 refine Does.list sem_alike step_alike un_alike good_alike out_alike Rd.back dS_alike dR_alike ?_ ?_
 ·rintro ⟨⟨i, n, l, s⟩, m⟩ hg h0 h1 hb e he Q h
  obtain ⟨hg, hz⟩ : n = (l.length : Int) /\ l.length = s.1.length := hg
  subst hg
  have h0 : 0 <= i := h0
  have h1 : i < (l.length : Int) := zip_lt hz h1
  have hb : (l.length : Int) <= 9223372036854775807 := zip_le hz hb
  have h1z : i < (s.1.length : Int) := by rw [← hz]; exact h1
  have hd : l.getD i.toNat coverT.dflt = e.1 := getD_of (zip_fst he)
  have hdz : s.1.getD i.toNat coverT.dflt = e.2 := getD_of (zip_snd he)
  have hw := wrap_next h0 h1 hb
  dsimp only [un_alike, step_alike, fr_alike, Fr.satP] at h ⊢
  simp only [hd, hw, hdz] at h ⊢
  refine ⟨fun _ => ?_, fun hn => absurd h1 (of_decide_eq_false hn)⟩
  repeat' first
   | exact h
   | exact ⟨h0, h1⟩
   | exact fun _ => ⟨h0, h1⟩
   | exact ⟨h0, h1z⟩
   | exact fun _ => ⟨h0, h1z⟩
   | exact h _ rfl ⟨rfl, hz⟩
   | refine ⟨?_, ?_⟩
   | (intro (hc : _ = true); replace h := h.1 hc)
   | (intro (hc : _ = false); replace h := h.2 hc)
 ·rintro ⟨⟨i, n, l, s⟩, m⟩ hg h1 Q h
  obtain ⟨hg, hz⟩ : n = (l.length : Int) /\ l.length = s.1.length := hg
  subst hg
  exact ⟨fun hn => absurd (of_decide_eq_true hn) (zip_nlt hz h1), fun _ => h⟩
def Λ_alike (Γ : FuncId -> Option Ct) : St -> Option Tr := pt_alike.han Γ pt_alike.M (FL step_alike un_alike good_alike out_alike Rd.back dS_alike dR_alike)
def res_alike (y : pt_alike.M.X) : st_alike ⊕ pt_alike.R.X := goL step_alike ((un_alike y).2.1.drop (un_alike y).1.toNat) (un_alike y).2.2
def okr_alike (y : pt_alike.M.X) : Prop := okL step_alike ((un_alike y).2.1.drop (un_alike y).1.toNat) (un_alike y).2.2
abbrev pt_terms_Covers : Pt := ⟨32, 0, ⟨[(8, .d i64), (7, .d i64), (6, .d (.sl coverT)), (0, .d (.sl coverT)), (3, .d i64)], []⟩, ⟨[(0, .d (.sl coverT))], []⟩, ⟨[(2, .d .bool)], []⟩⟩
def fr_terms_Covers (x : pt_terms_Covers.M.X) : Fr pt_terms_Covers.Out :=
 Fr.br (decide (x.1.1 < x.1.2.1)) (Fr.need (0 <= x.1.1 /\ x.1.1 < ↑(List.length x.1.2.2.1)) (Fr.br (bif decide ((List.getD x.1.2.2.1 (Int.toNat x.1.1) coverT.dflt).1 <= x.1.2.2.2.2.1) then true else !(cCover.f (((List.getD x.1.2.2.1 (Int.toNat x.1.1) coverT.dflt).1, (List.getD x.1.2.2.1 (Int.toNat x.1.1) coverT.dflt).2.1, (List.getD x.1.2.2.1 (Int.toNat x.1.1) coverT.dflt).2.2.1, (List.getD x.1.2.2.1 (Int.toNat x.1.1) coverT.dflt).2.2.2.1, (List.getD x.1.2.2.1 (Int.toNat x.1.1) coverT.dflt).2.2.2.2.1, ()), ())).1) (Fr.val (Rd.back ((false, ()), ()))) (Fr.val (Rd.next ((IntKind.i64.wrap (x.1.1 + 1), x.1.2.1, x.1.2.2.1, x.1.2.2.2.1, (List.getD x.1.2.2.1 (Int.toNat x.1.1) coverT.dflt).1, ()), ()))))) (Fr.val (Rd.out ((x.1.2.2.2.1, ()), ())))
theorem sem_terms_Covers : Does Tryz.prog (loopF Tryz.f125 0) pt_terms_Covers.M pt_terms_Covers fr_terms_Covers :=
 Does.of_run CH4_ok (bs := 0) (Λ := lam0) rfl rfl rfl (fun E => lam0_ok _ 0) (fun x => by kernel_rfl)
abbrev st_terms_Covers : Type := denP [.d (.sl coverT), .d i64] × denM []
def step_terms_Covers (e : coverT.den) (s : st_terms_Covers) : Fr (st_terms_Covers ⊕ pt_terms_Covers.R.X) :=
 Fr.br (bif decide (e.1 <= s.1.2.1) then true else !(cCover.f ((e.1, e.2.1, e.2.2.1, e.2.2.2.1, e.2.2.2.2.1, ()), ())).1) (Fr.val (.inr ((false, ()), ()))) (Fr.val (.inl ((s.1.1, e.1, ()), ())))
def un_terms_Covers (x : pt_terms_Covers.M.X) : Int × List coverT.den × st_terms_Covers := (x.1.1, x.1.2.2.1, x.1.2.2.2, x.2)
def good_terms_Covers (x : pt_terms_Covers.M.X) : Prop := x.1.2.1 = (x.1.2.2.1.length : Int)
def out_terms_Covers (s : st_terms_Covers) : pt_terms_Covers.E.X := ((s.1.1, ()), ())
def dS_terms_Covers : st_terms_Covers := (dfP _, dfM _)
def dR_terms_Covers : pt_terms_Covers.R.X := (dfP _, dfM _)
theorem loop_terms_Covers : Does Tryz.prog (.loop (loopF Tryz.f125 0)) pt_terms_Covers.M pt_terms_Covers (FL step_terms_Covers un_terms_Covers good_terms_Covers out_terms_Covers Rd.back dS_terms_Covers dR_terms_Covers) := by
 refine Does.list sem_terms_Covers step_terms_Covers un_terms_Covers good_terms_Covers out_terms_Covers Rd.back dS_terms_Covers dR_terms_Covers ?_ ?_
 ·rintro ⟨⟨i, n, l, s⟩, m⟩ hg h0 h1 hb e he Q h
  have hg : n = (l.length : Int) := hg
  subst hg
  have h0 : 0 <= i := h0
  have h1 : i < (l.length : Int) := h1
  have hb : (l.length : Int) <= 9223372036854775807 := hb
  have hd : l.getD i.toNat coverT.dflt = e := getD_of he
  have hw := wrap_next h0 h1 hb
  dsimp only [un_terms_Covers, step_terms_Covers, fr_terms_Covers, Fr.satP] at h ⊢
  simp only [hd, hw] at h ⊢
  refine ⟨fun _ => ?_, fun hn => absurd h1 (of_decide_eq_false hn)⟩
  repeat' first
   | exact h
   | exact ⟨h0, h1⟩
   | exact fun _ => ⟨h0, h1⟩
   | exact h _ rfl rfl
   | refine ⟨?_, ?_⟩
   | (intro (hc : _ = true); replace h := h.1 hc)
   | (intro (hc : _ = false); replace h := h.2 hc)
 ·rintro ⟨⟨i, n, l, s⟩, m⟩ hg h1 Q h
  have hg : n = (l.length : Int) := hg
  subst hg
  exact ⟨fun hn => absurd (of_decide_eq_true hn) h1, fun _ => h⟩
def Λ_terms_Covers (Γ : FuncId -> Option Ct) : St -> Option Tr := pt_terms_Covers.han Γ pt_terms_Covers.M (FL step_terms_Covers un_terms_Covers good_terms_Covers out_terms_Covers Rd.back dS_terms_Covers dR_terms_Covers)
def res_terms_Covers (y : pt_terms_Covers.M.X) : st_terms_Covers ⊕ pt_terms_Covers.R.X := goL step_terms_Covers ((un_terms_Covers y).2.1.drop (un_terms_Covers y).1.toNat) (un_terms_Covers y).2.2
def okr_terms_Covers (y : pt_terms_Covers.M.X) : Prop := okL step_terms_Covers ((un_terms_Covers y).2.1.drop (un_terms_Covers y).1.toNat) (un_terms_Covers y).2.2
abbrev pt_r10_Covers : Pt := ⟨40, 0, ⟨[(3, .d i64), (0, .d (.sl coverT))], []⟩, ⟨[], []⟩, ⟨[(2, .d .bool)], []⟩⟩
def fr_r10_Covers (x : pt_r10_Covers.M.X) : Fr pt_r10_Covers.Out :=
 Fr.br (decide (x.1.1 < ↑(List.length x.1.2.1))) (Fr.need (0 <= x.1.1 /\ x.1.1 < ↑(List.length x.1.2.1)) (Fr.br (!(cCover.f (((List.getD x.1.2.1 (Int.toNat x.1.1) coverT.dflt).1, (List.getD x.1.2.1 (Int.toNat x.1.1) coverT.dflt).2.1, (List.getD x.1.2.1 (Int.toNat x.1.1) coverT.dflt).2.2.1, (List.getD x.1.2.1 (Int.toNat x.1.1) coverT.dflt).2.2.2.1, (List.getD x.1.2.1 (Int.toNat x.1.1) coverT.dflt).2.2.2.2.1, ()), ())).1) (Fr.val (Rd.back ((false, ()), ()))) (Fr.br (decide (x.1.1 > 0)) (Fr.need (0 <= x.1.1 /\ x.1.1 < ↑(List.length x.1.2.1)) (Fr.need (0 <= IntKind.i64.wrap (x.1.1 - 1) /\ IntKind.i64.wrap (x.1.1 - 1) < ↑(List.length x.1.2.1)) (Fr.br (decide ((List.getD x.1.2.1 (Int.toNat x.1.1) coverT.dflt).1 <= (List.getD x.1.2.1 (IntKind.i64.wrap (x.1.1 - 1)).toNat coverT.dflt).1)) (Fr.val (Rd.back ((false, ()), ()))) (Fr.val (Rd.next ((IntKind.i64.wrap (x.1.1 + 1), x.1.2.1, ()), ())))))) (Fr.val (Rd.next ((IntKind.i64.wrap (x.1.1 + 1), x.1.2.1, ()), ())))))) (Fr.val (Rd.out ((), ())))
theorem sem_r10_Covers : Does Tryz.prog (loopF Tryz.f117 0) pt_r10_Covers.M pt_r10_Covers fr_r10_Covers :=
 Does.of_run CH4_ok (bs := 0) (Λ := lam0) rfl rfl rfl (fun E => lam0_ok _ 0) (fun x => by kernel_rfl)
abbrev st_r10_Covers : Type := (denP [] × denM []) × Int × coverT.den
def step_r10_Covers (e : coverT.den) (s : st_r10_Covers) : Fr (st_r10_Covers ⊕ pt_r10_Covers.R.X) :=
 Fr.br (!(cCover.f ((e.1, e.2.1, e.2.2.1, e.2.2.2.1, e.2.2.2.2.1, ()), ())).1) (Fr.val (.inr ((false, ()), ()))) (Fr.br (decide (s.2.1 > 0)) (Fr.br (decide (e.1 <= s.2.2.1)) (Fr.val (.inr ((false, ()), ()))) (Fr.val (.inl (((), ()), s.2.1 + 1, e)))) (Fr.val (.inl (((), ()), s.2.1 + 1, e))))
def un_r10_Covers (x : pt_r10_Covers.M.X) : Int × List coverT.den × st_r10_Covers := (x.1.1, x.1.2.1, (x.1.2.2, x.2), x.1.1, x.1.2.1.getD (x.1.1 - 1).toNat coverT.dflt)
def good_r10_Covers (x : pt_r10_Covers.M.X) : Prop := True
def out_r10_Covers (s : st_r10_Covers) : pt_r10_Covers.E.X := ((), ())
def dS_r10_Covers : st_r10_Covers := ((dfP _, dfM _), 0, coverT.dflt)
def dR_r10_Covers : pt_r10_Covers.R.X := (dfP _, dfM _)
theorem loop_r10_Covers : Does Tryz.prog (.loop (loopF Tryz.f117 0)) pt_r10_Covers.M pt_r10_Covers (FL step_r10_Covers un_r10_Covers good_r10_Covers out_r10_Covers Rd.back dS_r10_Covers dR_r10_Covers) := by
 refine Does.list sem_r10_Covers step_r10_Covers un_r10_Covers good_r10_Covers out_r10_Covers Rd.back dS_r10_Covers dR_r10_Covers ?_ ?_
 ·rintro ⟨⟨i, l, s⟩, m⟩ hg h0 h1 hb e he Q h
  have h0 : 0 <= i := h0
  have h1 : i < (l.length : Int) := h1
  have hb : (l.length : Int) <= 9223372036854775807 := hb
  have hd : l.getD i.toNat coverT.dflt = e := getD_of he
  have hq1 := prev_wrap h0 h1 hb
  have hq2 := prev_get hd
  have hq3 : ∀ {b : Bool}, b = decide (i > 0) -> b = true -> 0 <= i - 1 /\ i - 1 < (l.length : Int) := fun hb1 hb2 => prev_in h1 hb1 hb2
  have hw := wrap_next h0 h1 hb
  dsimp only [un_r10_Covers, step_r10_Covers, fr_r10_Covers, Fr.satP] at h ⊢
  simp only [hd, hw, hq1] at h ⊢
  refine ⟨fun _ => ?_, fun hn => absurd h1 (of_decide_eq_false hn)⟩
  repeat' first
   | exact h
   | exact ⟨h0, h1⟩
   | exact fun _ => ⟨h0, h1⟩
   | exact hq3 rfl (by assumption)
   | (refine h _ ?_ trivial; simp only [un_r10_Covers, hq2])
   | refine ⟨?_, ?_⟩
   | (intro (hc : _ = true); replace h := h.1 hc)
   | (intro (hc : _ = false); replace h := h.2 hc)
 ·rintro ⟨⟨i, l, s⟩, m⟩ hg h1 Q h
  exact ⟨fun hn => absurd (of_decide_eq_true hn) h1, fun _ => h⟩
def Λ_r10_Covers (Γ : FuncId -> Option Ct) : St -> Option Tr := pt_r10_Covers.han Γ pt_r10_Covers.M (FL step_r10_Covers un_r10_Covers good_r10_Covers out_r10_Covers Rd.back dS_r10_Covers dR_r10_Covers)
def res_r10_Covers (y : pt_r10_Covers.M.X) : st_r10_Covers ⊕ pt_r10_Covers.R.X := goL step_r10_Covers ((un_r10_Covers y).2.1.drop (un_r10_Covers y).1.toNat) (un_r10_Covers y).2.2
def okr_r10_Covers (y : pt_r10_Covers.M.X) : Prop := okL step_r10_Covers ((un_r10_Covers y).2.1.drop (un_r10_Covers y).1.toNat) (un_r10_Covers y).2.2
abbrev pt_risk_Bands : Pt := ⟨37, 0, ⟨[(8, .d i64), (7, .d i64), (6, .d (.sl bandT)), (0, .d (.sl bandT)), (3, .d i64)], []⟩, ⟨[(0, .d (.sl bandT))], []⟩, ⟨[(2, .d .bool)], []⟩⟩
def fr_risk_Bands (x : pt_risk_Bands.M.X) : Fr pt_risk_Bands.Out :=
 Fr.br (decide (x.1.1 < x.1.2.1)) (Fr.need (0 <= x.1.1 /\ x.1.1 < ↑(List.length x.1.2.2.1)) (Fr.br (bif bif bif decide ((List.getD x.1.2.2.1 (Int.toNat x.1.1) bandT.dflt).1 <= x.1.2.2.2.2.1) then true else decide ((List.getD x.1.2.2.1 (Int.toNat x.1.1) bandT.dflt).1 > 200) then true else decide ((List.getD x.1.2.2.1 (Int.toNat x.1.1) bandT.dflt).2.1 < 0) then true else decide ((List.getD x.1.2.2.1 (Int.toNat x.1.1) bandT.dflt).2.1 > 100000)) (Fr.val (Rd.back ((false, ()), ()))) (Fr.val (Rd.next ((IntKind.i64.wrap (x.1.1 + 1), x.1.2.1, x.1.2.2.1, x.1.2.2.2.1, (List.getD x.1.2.2.1 (Int.toNat x.1.1) bandT.dflt).1, ()), ()))))) (Fr.val (Rd.out ((x.1.2.2.2.1, ()), ())))
theorem sem_risk_Bands : Does Tryz.prog (loopF Tryz.f154 0) pt_risk_Bands.M pt_risk_Bands fr_risk_Bands :=
 Does.of_run CH4_ok (bs := 0) (Λ := lam0) rfl rfl rfl (fun E => lam0_ok _ 0) (fun x => by kernel_rfl)
abbrev st_risk_Bands : Type := denP [.d (.sl bandT), .d i64] × denM []
def step_risk_Bands (e : bandT.den) (s : st_risk_Bands) : Fr (st_risk_Bands ⊕ pt_risk_Bands.R.X) :=
 Fr.br (bif bif bif decide (e.1 <= s.1.2.1) then true else decide (e.1 > 200) then true else decide (e.2.1 < 0) then true else decide (e.2.1 > 100000)) (Fr.val (.inr ((false, ()), ()))) (Fr.val (.inl ((s.1.1, e.1, ()), ())))
def un_risk_Bands (x : pt_risk_Bands.M.X) : Int × List bandT.den × st_risk_Bands := (x.1.1, x.1.2.2.1, x.1.2.2.2, x.2)
def good_risk_Bands (x : pt_risk_Bands.M.X) : Prop := x.1.2.1 = (x.1.2.2.1.length : Int)
def out_risk_Bands (s : st_risk_Bands) : pt_risk_Bands.E.X := ((s.1.1, ()), ())
def dS_risk_Bands : st_risk_Bands := (dfP _, dfM _)
def dR_risk_Bands : pt_risk_Bands.R.X := (dfP _, dfM _)
theorem loop_risk_Bands : Does Tryz.prog (.loop (loopF Tryz.f154 0)) pt_risk_Bands.M pt_risk_Bands (FL step_risk_Bands un_risk_Bands good_risk_Bands out_risk_Bands Rd.back dS_risk_Bands dR_risk_Bands) := by
 refine Does.list sem_risk_Bands step_risk_Bands un_risk_Bands good_risk_Bands out_risk_Bands Rd.back dS_risk_Bands dR_risk_Bands ?_ ?_
 ·rintro ⟨⟨i, n, l, s⟩, m⟩ hg h0 h1 hb e he Q h
  have hg : n = (l.length : Int) := hg
  subst hg
  have h0 : 0 <= i := h0
  have h1 : i < (l.length : Int) := h1
  have hb : (l.length : Int) <= 9223372036854775807 := hb
  have hd : l.getD i.toNat bandT.dflt = e := getD_of he
  have hw := wrap_next h0 h1 hb
  dsimp only [un_risk_Bands, step_risk_Bands, fr_risk_Bands, Fr.satP] at h ⊢
  simp only [hd, hw] at h ⊢
  refine ⟨fun _ => ?_, fun hn => absurd h1 (of_decide_eq_false hn)⟩
  repeat' first
   | exact h
   | exact ⟨h0, h1⟩
   | exact fun _ => ⟨h0, h1⟩
   | exact h _ rfl rfl
   | refine ⟨?_, ?_⟩
   | (intro (hc : _ = true); replace h := h.1 hc)
   | (intro (hc : _ = false); replace h := h.2 hc)
 ·rintro ⟨⟨i, n, l, s⟩, m⟩ hg h1 Q h
  have hg : n = (l.length : Int) := hg
  subst hg
  exact ⟨fun hn => absurd (of_decide_eq_true hn) h1, fun _ => h⟩
def Λ_risk_Bands (Γ : FuncId -> Option Ct) : St -> Option Tr := pt_risk_Bands.han Γ pt_risk_Bands.M (FL step_risk_Bands un_risk_Bands good_risk_Bands out_risk_Bands Rd.back dS_risk_Bands dR_risk_Bands)
def res_risk_Bands (y : pt_risk_Bands.M.X) : st_risk_Bands ⊕ pt_risk_Bands.R.X := goL step_risk_Bands ((un_risk_Bands y).2.1.drop (un_risk_Bands y).1.toNat) (un_risk_Bands y).2.2
def okr_risk_Bands (y : pt_risk_Bands.M.X) : Prop := okL step_risk_Bands ((un_risk_Bands y).2.1.drop (un_risk_Bands y).1.toNat) (un_risk_Bands y).2.2
abbrev pt_r06_Bands : Pt := ⟨57, 0, ⟨[(3, .d i64), (0, .d (.sl bandT))], []⟩, ⟨[], []⟩, ⟨[(2, .d .bool)], []⟩⟩
def fr_r06_Bands (x : pt_r06_Bands.M.X) : Fr pt_r06_Bands.Out :=
 Fr.br (decide (x.1.1 < ↑(List.length x.1.2.1))) (Fr.need (0 <= x.1.1 /\ x.1.1 < ↑(List.length x.1.2.1)) (Fr.need (decide ((List.getD x.1.2.1 (Int.toNat x.1.1) bandT.dflt).1 < 0) = false -> 0 <= x.1.1 /\ x.1.1 < ↑(List.length x.1.2.1)) (Fr.need ((bif decide ((List.getD x.1.2.1 (Int.toNat x.1.1) bandT.dflt).1 < 0) then true else decide ((List.getD x.1.2.1 (Int.toNat x.1.1) bandT.dflt).1 > 200)) = false -> 0 <= x.1.1 /\ x.1.1 < ↑(List.length x.1.2.1)) (Fr.need ((bif bif decide ((List.getD x.1.2.1 (Int.toNat x.1.1) bandT.dflt).1 < 0) then true else decide ((List.getD x.1.2.1 (Int.toNat x.1.1) bandT.dflt).1 > 200) then true else decide ((List.getD x.1.2.1 (Int.toNat x.1.1) bandT.dflt).2.1 < 0)) = false -> 0 <= x.1.1 /\ x.1.1 < ↑(List.length x.1.2.1)) (Fr.br (bif bif bif decide ((List.getD x.1.2.1 (Int.toNat x.1.1) bandT.dflt).1 < 0) then true else decide ((List.getD x.1.2.1 (Int.toNat x.1.1) bandT.dflt).1 > 200) then true else decide ((List.getD x.1.2.1 (Int.toNat x.1.1) bandT.dflt).2.1 < 0) then true else decide ((List.getD x.1.2.1 (Int.toNat x.1.1) bandT.dflt).2.1 > 100000)) (Fr.val (Rd.back ((false, ()), ()))) (Fr.br (decide (x.1.1 > 0)) (Fr.need (0 <= x.1.1 /\ x.1.1 < ↑(List.length x.1.2.1)) (Fr.need (0 <= IntKind.i64.wrap (x.1.1 - 1) /\ IntKind.i64.wrap (x.1.1 - 1) < ↑(List.length x.1.2.1)) (Fr.br (decide ((List.getD x.1.2.1 (Int.toNat x.1.1) bandT.dflt).1 <= (List.getD x.1.2.1 (IntKind.i64.wrap (x.1.1 - 1)).toNat bandT.dflt).1)) (Fr.val (Rd.back ((false, ()), ()))) (Fr.val (Rd.next ((IntKind.i64.wrap (x.1.1 + 1), x.1.2.1, ()), ())))))) (Fr.val (Rd.next ((IntKind.i64.wrap (x.1.1 + 1), x.1.2.1, ()), ()))))))))) (Fr.val (Rd.out ((), ())))
theorem sem_r06_Bands : Does Tryz.prog (loopF Tryz.f162 0) pt_r06_Bands.M pt_r06_Bands fr_r06_Bands :=
 Does.of_run CH4_ok (bs := 0) (Λ := lam0) rfl rfl rfl (fun E => lam0_ok _ 0) (fun x => by kernel_rfl)
abbrev st_r06_Bands : Type := (denP [] × denM []) × Int × bandT.den
def step_r06_Bands (e : bandT.den) (s : st_r06_Bands) : Fr (st_r06_Bands ⊕ pt_r06_Bands.R.X) :=
 Fr.br (bif bif bif decide (e.1 < 0) then true else decide (e.1 > 200) then true else decide (e.2.1 < 0) then true else decide (e.2.1 > 100000)) (Fr.val (.inr ((false, ()), ()))) (Fr.br (decide (s.2.1 > 0)) (Fr.br (decide (e.1 <= s.2.2.1)) (Fr.val (.inr ((false, ()), ()))) (Fr.val (.inl (((), ()), s.2.1 + 1, e)))) (Fr.val (.inl (((), ()), s.2.1 + 1, e))))
def un_r06_Bands (x : pt_r06_Bands.M.X) : Int × List bandT.den × st_r06_Bands := (x.1.1, x.1.2.1, (x.1.2.2, x.2), x.1.1, x.1.2.1.getD (x.1.1 - 1).toNat bandT.dflt)
def good_r06_Bands (x : pt_r06_Bands.M.X) : Prop := True
def out_r06_Bands (s : st_r06_Bands) : pt_r06_Bands.E.X := ((), ())
def dS_r06_Bands : st_r06_Bands := ((dfP _, dfM _), 0, bandT.dflt)
def dR_r06_Bands : pt_r06_Bands.R.X := (dfP _, dfM _)
theorem loop_r06_Bands : Does Tryz.prog (.loop (loopF Tryz.f162 0)) pt_r06_Bands.M pt_r06_Bands (FL step_r06_Bands un_r06_Bands good_r06_Bands out_r06_Bands Rd.back dS_r06_Bands dR_r06_Bands) := by
 refine Does.list sem_r06_Bands step_r06_Bands un_r06_Bands good_r06_Bands out_r06_Bands Rd.back dS_r06_Bands dR_r06_Bands ?_ ?_
 ·rintro ⟨⟨i, l, s⟩, m⟩ hg h0 h1 hb e he Q h
  have h0 : 0 <= i := h0
  have h1 : i < (l.length : Int) := h1
  have hb : (l.length : Int) <= 9223372036854775807 := hb
  have hd : l.getD i.toNat bandT.dflt = e := getD_of he
  have hq1 := prev_wrap h0 h1 hb
  have hq2 := prev_get hd
  have hq3 : ∀ {b : Bool}, b = decide (i > 0) -> b = true -> 0 <= i - 1 /\ i - 1 < (l.length : Int) := fun hb1 hb2 => prev_in h1 hb1 hb2
  have hw := wrap_next h0 h1 hb
  dsimp only [un_r06_Bands, step_r06_Bands, fr_r06_Bands, Fr.satP] at h ⊢
  simp only [hd, hw, hq1] at h ⊢
  refine ⟨fun _ => ?_, fun hn => absurd h1 (of_decide_eq_false hn)⟩
  repeat' first
   | exact h
   | exact ⟨h0, h1⟩
   | exact fun _ => ⟨h0, h1⟩
   | exact hq3 rfl (by assumption)
   | (refine h _ ?_ trivial; simp only [un_r06_Bands, hq2])
   | refine ⟨?_, ?_⟩
   | (intro (hc : _ = true); replace h := h.1 hc)
   | (intro (hc : _ = false); replace h := h.2 hc)
 ·rintro ⟨⟨i, l, s⟩, m⟩ hg h1 Q h
  exact ⟨fun hn => absurd (of_decide_eq_true hn) h1, fun _ => h⟩
def Λ_r06_Bands (Γ : FuncId -> Option Ct) : St -> Option Tr := pt_r06_Bands.han Γ pt_r06_Bands.M (FL step_r06_Bands un_r06_Bands good_r06_Bands out_r06_Bands Rd.back dS_r06_Bands dR_r06_Bands)
def res_r06_Bands (y : pt_r06_Bands.M.X) : st_r06_Bands ⊕ pt_r06_Bands.R.X := goL step_r06_Bands ((un_r06_Bands y).2.1.drop (un_r06_Bands y).1.toNat) (un_r06_Bands y).2.2
def okr_r06_Bands (y : pt_r06_Bands.M.X) : Prop := okL step_r06_Bands ((un_r06_Bands y).2.1.drop (un_r06_Bands y).1.toNat) (un_r06_Bands y).2.2
abbrev pt_r07_factors : Pt := ⟨22, 0, ⟨[(3, .d i64), (0, .d ints)], []⟩, ⟨[], []⟩, ⟨[(2, .d .bool)], []⟩⟩
def fr_r07_factors (x : pt_r07_factors.M.X) : Fr pt_r07_factors.Out :=
 Fr.br (decide (x.1.1 < ↑(List.length x.1.2.1))) (Fr.need (0 <= x.1.1 /\ x.1.1 < ↑(List.length x.1.2.1)) (Fr.need (decide (List.getD x.1.2.1 (Int.toNat x.1.1) i64.dflt < 0) = false -> 0 <= x.1.1 /\ x.1.1 < ↑(List.length x.1.2.1)) (Fr.br (bif decide (List.getD x.1.2.1 (Int.toNat x.1.1) i64.dflt < 0) then true else decide (List.getD x.1.2.1 (Int.toNat x.1.1) i64.dflt > 100000)) (Fr.val (Rd.back ((false, ()), ()))) (Fr.val (Rd.next ((IntKind.i64.wrap (x.1.1 + 1), x.1.2.1, ()), ())))))) (Fr.val (Rd.out ((), ())))
theorem sem_r07_factors : Does Tryz.prog (loopF Tryz.f163 0) pt_r07_factors.M pt_r07_factors fr_r07_factors :=
 Does.of_run CH4_ok (bs := 0) (Λ := lam0) rfl rfl rfl (fun E => lam0_ok _ 0) (fun x => by kernel_rfl)
abbrev st_r07_factors : Type := denP [] × denM []
def step_r07_factors (e : i64.den) (s : st_r07_factors) : Fr (st_r07_factors ⊕ pt_r07_factors.R.X) :=
 Fr.br (bif decide (e < 0) then true else decide (e > 100000)) (Fr.val (.inr ((false, ()), ()))) (Fr.val (.inl ((), ())))
def un_r07_factors (x : pt_r07_factors.M.X) : Int × List i64.den × st_r07_factors := (x.1.1, x.1.2.1, x.1.2.2, x.2)
def good_r07_factors (x : pt_r07_factors.M.X) : Prop := True
def out_r07_factors (s : st_r07_factors) : pt_r07_factors.E.X := ((), ())
def dS_r07_factors : st_r07_factors := (dfP _, dfM _)
def dR_r07_factors : pt_r07_factors.R.X := (dfP _, dfM _)
theorem loop_r07_factors : Does Tryz.prog (.loop (loopF Tryz.f163 0)) pt_r07_factors.M pt_r07_factors (FL step_r07_factors un_r07_factors good_r07_factors out_r07_factors Rd.back dS_r07_factors dR_r07_factors) := by
 refine Does.list sem_r07_factors step_r07_factors un_r07_factors good_r07_factors out_r07_factors Rd.back dS_r07_factors dR_r07_factors ?_ ?_
 ·rintro ⟨⟨i, l, s⟩, m⟩ hg h0 h1 hb e he Q h
  have h0 : 0 <= i := h0
  have h1 : i < (l.length : Int) := h1
  have hb : (l.length : Int) <= 9223372036854775807 := hb
  have hd : l.getD i.toNat i64.dflt = e := getD_of he
  have hw := wrap_next h0 h1 hb
  dsimp only [un_r07_factors, step_r07_factors, fr_r07_factors, Fr.satP] at h ⊢
  simp only [hd, hw] at h ⊢
  refine ⟨fun _ => ?_, fun hn => absurd h1 (of_decide_eq_false hn)⟩
  repeat' first
   | exact h
   | exact ⟨h0, h1⟩
   | exact fun _ => ⟨h0, h1⟩
   | exact h _ rfl trivial
   | refine ⟨?_, ?_⟩
   | (intro (hc : _ = true); replace h := h.1 hc)
   | (intro (hc : _ = false); replace h := h.2 hc)
 ·rintro ⟨⟨i, l, s⟩, m⟩ hg h1 Q h
  exact ⟨fun hn => absurd (of_decide_eq_true hn) h1, fun _ => h⟩
def Λ_r07_factors (Γ : FuncId -> Option Ct) : St -> Option Tr := pt_r07_factors.han Γ pt_r07_factors.M (FL step_r07_factors un_r07_factors good_r07_factors out_r07_factors Rd.back dS_r07_factors dR_r07_factors)
def res_r07_factors (y : pt_r07_factors.M.X) : st_r07_factors ⊕ pt_r07_factors.R.X := goL step_r07_factors ((un_r07_factors y).2.1.drop (un_r07_factors y).1.toNat) (un_r07_factors y).2.2
def okr_r07_factors (y : pt_r07_factors.M.X) : Prop := okL step_r07_factors ((un_r07_factors y).2.1.drop (un_r07_factors y).1.toNat) (un_r07_factors y).2.2
def ff_r10_Same (x : denP [.d (.sl coverT), .d (.sl coverT)]) : Fr (denL [.bool]) :=
 Fr.br (((List.length x.1) : Int) != ((List.length x.2.1) : Int)) (Fr.val (false, ())) (Fr.need (InL (good_r10_Same ((0, x.1, x.2.1, ()), ())) (un_r10_Same ((0, x.1, x.2.1, ()), ()))) (Fr.need (okr_r10_Same ((0, x.1, x.2.1, ()), ())) (Fr.br (isL (res_r10_Same ((0, x.1, x.2.1, ()), ()))) (Fr.val (true, ())) (Fr.val ((getR dR_r10_Same (res_r10_Same ((0, x.1, x.2.1, ()), ()))).1.1, ())))))
theorem ff_r10_Same_ok : SoundCt Tryz.prog 112 ⟨[.d (.sl coverT), .d (.sl coverT)], [.bool], fun xs => (ff_r10_Same xs).get, fun xs => [(ff_r10_Same xs).ok]⟩ :=
 fn_sound CH4_ok (Λ := (fun _ => Λ_r10_Same CH4.Γ)) (fn := Tryz.f112) (dfP [.d (.sl coverT), .d (.sl coverT)]) (by kernel_rfl) (fun c E hc => lam1f hc (by kernel_rfl) (b := loopF Tryz.f112 0) (by kernel_rfl) (Does.han CH4_ok rfl loop_r10_Same)) (fun x => by kernel_rfl)
def ff_alike (x : denP [.d (.sl coverT), .d (.sl coverT)]) : Fr (denL [.bool]) :=
 Fr.br (((List.length x.1) : Int) != ((List.length x.2.1) : Int)) (Fr.val (false, ())) (Fr.need (InL (good_alike ((0, ((List.length x.1) : Int), x.1, x.2.1, ()), ())) (un_alike ((0, ((List.length x.1) : Int), x.1, x.2.1, ()), ()))) (Fr.need (okr_alike ((0, ((List.length x.1) : Int), x.1, x.2.1, ()), ())) (Fr.br (isL (res_alike ((0, ((List.length x.1) : Int), x.1, x.2.1, ()), ()))) (Fr.val (true, ())) (Fr.val ((getR dR_alike (res_alike ((0, ((List.length x.1) : Int), x.1, x.2.1, ()), ()))).1.1, ())))))
theorem ff_alike_ok : SoundCt Tryz.prog 129 ⟨[.d (.sl coverT), .d (.sl coverT)], [.bool], fun xs => (ff_alike xs).get, fun xs => [(ff_alike xs).ok]⟩ :=
 fn_sound CH4_ok (Λ := (fun _ => Λ_alike CH4.Γ)) (fn := Tryz.f129) (dfP [.d (.sl coverT), .d (.sl coverT)]) (by kernel_rfl) (fun c E hc => lam1f hc (by kernel_rfl) (b := loopF Tryz.f129 0) (by kernel_rfl) (Does.han CH4_ok rfl loop_alike)) (fun x => by kernel_rfl)
def ff_terms_Covers (x : denP [.d (.sl coverT)]) : Fr (denL [.bool]) :=
 Fr.need (InL (good_terms_Covers ((0, ((List.length x.1) : Int), x.1, x.1, -1, ()), ())) (un_terms_Covers ((0, ((List.length x.1) : Int), x.1, x.1, -1, ()), ()))) (Fr.need (okr_terms_Covers ((0, ((List.length x.1) : Int), x.1, x.1, -1, ()), ())) (Fr.br (isL (res_terms_Covers ((0, ((List.length x.1) : Int), x.1, x.1, -1, ()), ()))) (Fr.val (bif decide (((List.length (out_terms_Covers (getL dS_terms_Covers (res_terms_Covers ((0, ((List.length x.1) : Int), x.1, x.1, -1, ()), ())))).1.1) : Int) ≥ 1) then decide (((List.length (out_terms_Covers (getL dS_terms_Covers (res_terms_Covers ((0, ((List.length x.1) : Int), x.1, x.1, -1, ()), ())))).1.1) : Int) <= 8) else false, ())) (Fr.val ((getR dR_terms_Covers (res_terms_Covers ((0, ((List.length x.1) : Int), x.1, x.1, -1, ()), ()))).1.1, ()))))
theorem ff_terms_Covers_ok : SoundCt Tryz.prog 125 ⟨[.d (.sl coverT)], [.bool], fun xs => (ff_terms_Covers xs).get, fun xs => [(ff_terms_Covers xs).ok]⟩ :=
 fn_sound CH4_ok (Λ := (fun _ => Λ_terms_Covers CH4.Γ)) (fn := Tryz.f125) (dfP [.d (.sl coverT)]) (by kernel_rfl) (fun c E hc => lam1f hc (by kernel_rfl) (b := loopF Tryz.f125 0) (by kernel_rfl) (Does.han CH4_ok rfl loop_terms_Covers)) (fun x => by kernel_rfl)
def ff_r10_Covers (x : denP [.d (.sl coverT)]) : Fr (denL [.bool]) :=
 Fr.br (bif decide (((List.length x.1) : Int) < 1) then true else decide (((List.length x.1) : Int) > 8)) (Fr.val (false, ())) (Fr.need (InL (good_r10_Covers ((0, x.1, ()), ())) (un_r10_Covers ((0, x.1, ()), ()))) (Fr.need (okr_r10_Covers ((0, x.1, ()), ())) (Fr.br (isL (res_r10_Covers ((0, x.1, ()), ()))) (Fr.val (true, ())) (Fr.val ((getR dR_r10_Covers (res_r10_Covers ((0, x.1, ()), ()))).1.1, ())))))
theorem ff_r10_Covers_ok : SoundCt Tryz.prog 117 ⟨[.d (.sl coverT)], [.bool], fun xs => (ff_r10_Covers xs).get, fun xs => [(ff_r10_Covers xs).ok]⟩ :=
 fn_sound CH4_ok (Λ := (fun _ => Λ_r10_Covers CH4.Γ)) (fn := Tryz.f117) (dfP [.d (.sl coverT)]) (by kernel_rfl) (fun c E hc => lam1f hc (by kernel_rfl) (b := loopF Tryz.f117 0) (by kernel_rfl) (Does.han CH4_ok rfl loop_r10_Covers)) (fun x => by kernel_rfl)
def ff_risk_Bands (x : denP [.d (.sl bandT)]) : Fr (denL [.bool]) :=
 Fr.need (InL (good_risk_Bands ((0, ((List.length x.1) : Int), x.1, x.1, -1, ()), ())) (un_risk_Bands ((0, ((List.length x.1) : Int), x.1, x.1, -1, ()), ()))) (Fr.need (okr_risk_Bands ((0, ((List.length x.1) : Int), x.1, x.1, -1, ()), ())) (Fr.br (isL (res_risk_Bands ((0, ((List.length x.1) : Int), x.1, x.1, -1, ()), ()))) (Fr.val (decide (((List.length (out_risk_Bands (getL dS_risk_Bands (res_risk_Bands ((0, ((List.length x.1) : Int), x.1, x.1, -1, ()), ())))).1.1) : Int) <= 100), ())) (Fr.val ((getR dR_risk_Bands (res_risk_Bands ((0, ((List.length x.1) : Int), x.1, x.1, -1, ()), ()))).1.1, ()))))
theorem ff_risk_Bands_ok : SoundCt Tryz.prog 154 ⟨[.d (.sl bandT)], [.bool], fun xs => (ff_risk_Bands xs).get, fun xs => [(ff_risk_Bands xs).ok]⟩ :=
 fn_sound CH4_ok (Λ := (fun _ => Λ_risk_Bands CH4.Γ)) (fn := Tryz.f154) (dfP [.d (.sl bandT)]) (by kernel_rfl) (fun c E hc => lam1f hc (by kernel_rfl) (b := loopF Tryz.f154 0) (by kernel_rfl) (Does.han CH4_ok rfl loop_risk_Bands)) (fun x => by kernel_rfl)
def ff_r06_Bands (x : denP [.d (.sl bandT)]) : Fr (denL [.bool]) :=
 Fr.br (decide (((List.length x.1) : Int) > 100)) (Fr.val (false, ())) (Fr.need (InL (good_r06_Bands ((0, x.1, ()), ())) (un_r06_Bands ((0, x.1, ()), ()))) (Fr.need (okr_r06_Bands ((0, x.1, ()), ())) (Fr.br (isL (res_r06_Bands ((0, x.1, ()), ()))) (Fr.val (true, ())) (Fr.val ((getR dR_r06_Bands (res_r06_Bands ((0, x.1, ()), ()))).1.1, ())))))
theorem ff_r06_Bands_ok : SoundCt Tryz.prog 162 ⟨[.d (.sl bandT)], [.bool], fun xs => (ff_r06_Bands xs).get, fun xs => [(ff_r06_Bands xs).ok]⟩ :=
 fn_sound CH4_ok (Λ := (fun _ => Λ_r06_Bands CH4.Γ)) (fn := Tryz.f162) (dfP [.d (.sl bandT)]) (by kernel_rfl) (fun c E hc => lam1f hc (by kernel_rfl) (b := loopF Tryz.f162 0) (by kernel_rfl) (Does.han CH4_ok rfl loop_r06_Bands)) (fun x => by kernel_rfl)
def ff_r07_factors (x : denP [.d ints]) : Fr (denL [.bool]) :=
 Fr.need (InL (good_r07_factors ((0, x.1, ()), ())) (un_r07_factors ((0, x.1, ()), ()))) (Fr.need (okr_r07_factors ((0, x.1, ()), ())) (Fr.br (isL (res_r07_factors ((0, x.1, ()), ()))) (Fr.val (true, ())) (Fr.val ((getR dR_r07_factors (res_r07_factors ((0, x.1, ()), ()))).1.1, ()))))
theorem ff_r07_factors_ok : SoundCt Tryz.prog 163 ⟨[.d ints], [.bool], fun xs => (ff_r07_factors xs).get, fun xs => [(ff_r07_factors xs).ok]⟩ :=
 fn_sound CH4_ok (Λ := (fun _ => Λ_r07_factors CH4.Γ)) (fn := Tryz.f163) (dfP [.d ints]) (by kernel_rfl) (fun c E hc => lam1f hc (by kernel_rfl) (b := loopF Tryz.f163 0) (by kernel_rfl) (Does.han CH4_ok rfl loop_r07_factors)) (fun x => by kernel_rfl)
theorem len_big {T : Type} {l : List T} (h : l.length <= maxLen) : (l.length : Int) <= 9223372036854775807 := by
 simp only [maxLen] at h
 omega
theorem wf_len {w : World} {F : Nat -> Prop} {t : Ty} {l : List t.den} {v : Value} (h : RepP Tryz.prog w F (.d (.sl t)) l v) : (l.length : Int) <= 9223372036854775807 := len_big (RepT.wf (t := .sl t) h.2.2).1
def factorsB (l : List Int) : Bool := l.all fun n => decide (0 <= n /\ n <= 100000)
def cFactors : Ct := ⟨[.d ints], [.bool], fun x => (factorsB x.1, ()), fun _ => []⟩
theorem factors_go (l : List Int) : isL (goL step_r07_factors l ((), ())) = factorsB l := by
 induction l with
 | nil => rfl
 | cons e r ih =>
  have e1 : factorsB (e :: r) = (decide (0 <= e /\ e <= 100000) && factorsB r) := rfl
  rw [e1, ← ih]
  by_cases h : (bif decide (e < 0) then true else decide (e > 100000)) = true
  ·have hg : (step_r07_factors e ((), ())).get = .inr ((false, ()), ()) := if_pos h
   simp only [goL, hg]
   have : decide (0 <= e /\ e <= 100000) = false := by
    simp only [Bool.cond_true_left, Bool.or_eq_true, decide_eq_true_eq] at h
    exact decide_eq_false (by omega)
   rw [this]
   rfl
  ·have hg : (step_r07_factors e ((), ())).get = .inl ((), ()) := if_neg h
   simp only [goL, hg]
   have : decide (0 <= e /\ e <= 100000) = true := by
    simp only [Bool.cond_true_left, Bool.or_eq_true, decide_eq_true_eq, not_or] at h
    exact decide_eq_true (by omega)
   rw [this, Bool.true_and]
theorem factors_ok : SoundCt Tryz.prog 163 cFactors :=
 conv ff_r07_factors_ok _ _ (fun w F x vs hr _ => by
  obtain ⟨l, _⟩ := x
  obtain ⟨v, vs', rfl, hv, _⟩ := hr
  have hlen := wf_len hv
  refine ⟨⟨⟨trivial, Int.le_refl _, Int.natCast_nonneg _, hlen⟩, okL_of (step := step_r07_factors) (fun e s => ⟨fun _ => trivial, fun _ => trivial⟩) _ _, fun _ => trivial, fun _ => trivial⟩, ?_⟩
  show (if isL (goL step_r07_factors l ((), ())) = true then ((true, ()) : Bool × Unit) else ((getR dR_r07_factors (goL step_r07_factors l ((), ()))).1.1, ())) = (factorsB l, ())
  by_cases h : isL (goL step_r07_factors l ((), ())) = true
  ·rw [if_pos h, ← factors_go, h]
  ·have h' : isL (goL step_r07_factors l ((), ())) = false := by simpa using h
   have hc := goL_const (d := dR_r07_factors) (c := ((false, ()), ())) (step := step_r07_factors) (fun e s y hy => by
    by_cases hb : (bif decide (e < 0) then true else decide (e > 100000)) = true
    ·have hg : (step_r07_factors e s).get = .inr ((false, ()), ()) := if_pos hb
     rw [hg] at hy
     exact (Sum.inr.inj hy).symm
    ·have hg : (step_r07_factors e s).get = .inl ((), ()) := if_neg hb
     rw [hg] at hy
     cases hy) l ((), ()) h'
   rw [if_neg h, hc, ← factors_go, h'])
def allF {T σ : Type} (p : T -> σ -> Bool) (f : T -> σ -> σ) : List T -> σ -> Bool
 | [], _ => true
 | e :: r, s => p e s && allF p f r (f e s)
def endF {T σ : Type} (f : T -> σ -> σ) : List T -> σ -> σ
 | [], s => s
 | e :: r, s => endF f r (f e s)
theorem bool_loop {T σ ρ : Type} {step : T -> σ -> Fr (σ ⊕ ρ)} {p : T -> σ -> Bool} {f : T -> σ -> σ} {c : ρ} (h : ∀ e s, (step e s).get = if p e s = true then .inl (f e s) else .inr c) :
  (l : List T) -> (s : σ) -> goL step l s = if allF p f l s = true then .inl (endF f l s) else .inr c
 | [], s => rfl
 | e :: r, s => by
  simp only [goL, allF, endF]
  by_cases hp : p e s = true
  ·have hg := h e s
   rw [if_pos hp] at hg
   simp only [hg, hp, Bool.true_and]
   exact bool_loop h r (f e s)
  ·have hg := h e s
   rw [if_neg hp] at hg
   have hp' : p e s = false := by simpa using hp
   simp only [hg, hp', Bool.false_and]
   rfl
def coverOf (c : coverT.den) : Bool := coverB c.1 c.2.1 c.2.2.1 c.2.2.2.1 c.2.2.2.2.1
def allC : List coverT.den -> Int -> Bool
 | [], _ => true
 | c :: r, last => (decide (last < c.1) && coverOf c) && allC r c.1
def coversL (l : List coverT.den) : Bool := decide (1 <= l.length /\ l.length <= 8) && allC l (-1)
def cCovers : Ct := ⟨[.d (.sl coverT)], [.bool], fun x => (coversL x.1, ()), fun _ => []⟩
theorem tc_step (e : coverT.den) (s : st_terms_Covers) : (step_terms_Covers e s).get = if (decide (s.1.2.1 < e.1) && coverOf e) = true then .inl ((s.1.1, e.1, ()), ()) else .inr ((false, ()), ()) := by
 show (if (bif decide (e.1 <= s.1.2.1) then true else !(coverOf e)) = true then _ else _) = _
 have hb : (bif decide (e.1 <= s.1.2.1) then true else !(coverOf e)) = !(decide (s.1.2.1 < e.1) && coverOf e) := by
  have : decide (e.1 <= s.1.2.1) = !decide (s.1.2.1 < e.1) := by
   rw [Bool.eq_iff_iff]
   simp only [Bool.not_eq_true', decide_eq_true_eq, decide_eq_false_iff_not]
   exact Int.not_lt.symm
  rw [this]
  cases decide (s.1.2.1 < e.1) <;> cases coverOf e <;> rfl
 rw [hb]
 cases (decide (s.1.2.1 < e.1) && coverOf e) <;> rfl
theorem tc_all (l l0 : List coverT.den) (last : Int) : allF (fun (e : coverT.den) (s : st_terms_Covers) => decide (s.1.2.1 < e.1) && coverOf e) (fun e s => ((s.1.1, e.1, ()), ())) l ((l0, last, ()), ()) = allC l last := by
 induction l generalizing last with
 | nil => rfl
 | cons c r ih =>
  show ((decide (last < c.1) && coverOf c) && _) = ((decide (last < c.1) && coverOf c) && _)
  rw [ih]
theorem tc_end (l l0 : List coverT.den) (last : Int) : (endF (fun (e : coverT.den) (s : st_terms_Covers) => (((s.1.1, e.1, ()), ()) : st_terms_Covers)) l ((l0, last, ()), ())).1.1 = l0 := by
 induction l generalizing last with
 | nil => rfl
 | cons c r ih => exact ih c.1
theorem len_b (n : Nat) : (bif decide ((n : Int) ≥ 1) then decide ((n : Int) <= 8) else false) = decide (1 <= n /\ n <= 8) := by
 rw [Bool.eq_iff_iff]
 simp only [Bool.cond_false_right, Bool.and_eq_true, decide_eq_true_eq]
 omega
theorem len_b2 (n : Nat) : (bif decide ((n : Int) < 1) then true else decide ((n : Int) > 8)) = !decide (1 <= n /\ n <= 8) := by
 rw [Bool.eq_iff_iff]
 simp only [Bool.cond_true_left, Bool.or_eq_true, Bool.not_eq_true', decide_eq_true_eq, decide_eq_false_iff_not]
 omega
theorem terms_Covers_ok : SoundCt Tryz.prog 125 cCovers :=
 conv ff_terms_Covers_ok _ _ (fun w F x vs hr _ => by
  obtain ⟨l, _⟩ := x
  obtain ⟨v, vs', rfl, hv, _⟩ := hr
  have hlen := wf_len hv
  refine ⟨⟨⟨rfl, Int.le_refl _, Int.natCast_nonneg _, hlen⟩, okL_of (step := step_terms_Covers) (fun e s => ⟨fun _ => trivial, fun _ => trivial⟩) _ _, fun _ => trivial, fun _ => trivial⟩, ?_⟩
  have hres := bool_loop tc_step l ((l, -1, ()), ())
  rw [tc_all] at hres
  have hres' : res_terms_Covers ((0, (l.length : Int), l, l, -1, ()), ()) = if allC l (-1) = true then .inl _ else .inr _ := hres
  show (if isL (res_terms_Covers ((0, (l.length : Int), l, l, -1, ()), ())) = true then ((bif decide (((out_terms_Covers (getL dS_terms_Covers (res_terms_Covers ((0, (l.length : Int), l, l, -1, ()), ())))).1.1.length : Int) ≥ 1) then decide (((out_terms_Covers (getL dS_terms_Covers (res_terms_Covers ((0, (l.length : Int), l, l, -1, ()), ())))).1.1.length : Int) <= 8) else false, ()) : Bool × Unit) else ((getR dR_terms_Covers (res_terms_Covers ((0, (l.length : Int), l, l, -1, ()), ()))).1.1, ())) = (coversL l, ())
  rw [hres']
  unfold coversL
  cases allC l (-1) with
  | true =>
   have he : (out_terms_Covers (getL dS_terms_Covers (Sum.inl (endF (fun (e : coverT.den) (s : st_terms_Covers) => (((s.1.1, e.1, ()), ()) : st_terms_Covers)) l ((l, -1, ()), ())) : st_terms_Covers ⊕ pt_terms_Covers.R.X))).1.1 = l := tc_end l l (-1)
   show ((bif decide (((out_terms_Covers (getL dS_terms_Covers (Sum.inl (endF (fun (e : coverT.den) (s : st_terms_Covers) => (((s.1.1, e.1, ()), ()) : st_terms_Covers)) l ((l, -1, ()), ())) : st_terms_Covers ⊕ pt_terms_Covers.R.X))).1.1.length : Int) ≥ 1) then decide (((out_terms_Covers (getL dS_terms_Covers (Sum.inl (endF (fun (e : coverT.den) (s : st_terms_Covers) => (((s.1.1, e.1, ()), ()) : st_terms_Covers)) l ((l, -1, ()), ())) : st_terms_Covers ⊕ pt_terms_Covers.R.X))).1.1.length : Int) <= 8) else false, ()) : Bool × Unit) = _
   rw [he]
   exact congrArg (·, ()) ((len_b l.length).trans (Bool.and_true _).symm)
  | false =>
   rw [Bool.and_false]
   rfl)
def allC2 : List coverT.den -> Int -> coverT.den -> Bool
 | [], _, _ => true
 | c :: r, i, p => (coverOf c && (!decide (i > 0) || decide (p.1 < c.1))) && allC2 r (i + 1) c
theorem coverOf_low {c : coverT.den} (h : coverOf c = true) : -1 < c.1 := by
 unfold coverOf coverB at h
 have h' := (of_decide_eq_true h).1
 exact Int.lt_of_lt_of_le (by decide) h'
theorem allC2_eq (l : List coverT.den) (i : Int) (p : coverT.den) (hi : 0 <= i) : allC2 l i p = allC l (if i > 0 then p.1 else -1) := by
 induction l generalizing i p with
 | nil => rfl
 | cons c r ih =>
  simp only [allC2, allC]
  rw [ih (i + 1) c (by omega), if_pos (by omega)]
  congr 1
  by_cases h : i > 0
  ·rw [if_pos h, decide_eq_true h, Bool.and_comm]
   rfl
  ·rw [if_neg h, decide_eq_false h]
   cases hc : coverOf c with
   | true =>
    rw [decide_eq_true (coverOf_low hc)]
    rfl
   | false => rw [Bool.and_false]; rfl
theorem rc_step (e : coverT.den) (s : st_r10_Covers) : (step_r10_Covers e s).get = if (coverOf e && (!decide (s.2.1 > 0) || decide (s.2.2.1 < e.1))) = true then .inl (((), ()), s.2.1 + 1, e) else .inr ((false, ()), ()) := by
 show (if (!(coverOf e)) = true then _ else if decide (s.2.1 > 0) = true then (if decide (e.1 <= s.2.2.1) = true then _ else _) else _) = _
 have : decide (e.1 <= s.2.2.1) = !decide (s.2.2.1 < e.1) := by
  rw [Bool.eq_iff_iff]
  simp only [Bool.not_eq_true', decide_eq_true_eq, decide_eq_false_iff_not]
  exact Int.not_lt.symm
 rw [this]
 cases coverOf e <;> cases decide (s.2.1 > 0) <;> cases decide (s.2.2.1 < e.1) <;> rfl
theorem rc_all (l : List coverT.den) (u : Unit × Unit) (i : Int) (p : coverT.den) : allF (fun (e : coverT.den) (s : st_r10_Covers) => coverOf e && (!decide (s.2.1 > 0) || decide (s.2.2.1 < e.1))) (fun e s => (((), ()), s.2.1 + 1, e)) l (u, i, p) = allC2 l i p := by
 induction l generalizing u i p with
 | nil => rfl
 | cons c r ih =>
  show ((coverOf c && (!decide (i > 0) || decide (p.1 < c.1))) && _) = ((coverOf c && (!decide (i > 0) || decide (p.1 < c.1))) && _)
  rw [ih]
theorem r10_Covers_ok : SoundCt Tryz.prog 117 cCovers :=
 conv ff_r10_Covers_ok _ _ (fun w F x vs hr _ => by
  obtain ⟨l, _⟩ := x
  obtain ⟨v, vs', rfl, hv, _⟩ := hr
  have hlen := wf_len hv
  refine ⟨⟨fun _ => trivial, fun _ => ⟨⟨trivial, Int.le_refl _, Int.natCast_nonneg _, hlen⟩, okL_of (step := step_r10_Covers) (fun e s => ⟨fun _ => trivial, fun _ => ⟨fun _ => ⟨fun _ => trivial, fun _ => trivial⟩, fun _ => trivial⟩⟩) _ _, fun _ => trivial, fun _ => trivial⟩⟩, ?_⟩
  have hres := bool_loop rc_step l (((), ()), 0, l.getD (0 - 1 : Int).toNat coverT.dflt)
  have hz : (if (0 : Int) > 0 then (l.getD (0 - 1 : Int).toNat coverT.dflt).1 else -1) = -1 := if_neg (by decide)
  rw [rc_all, allC2_eq _ _ _ (Int.le_refl _), hz] at hres
  have hres' : res_r10_Covers ((0, l, ()), ()) = if allC l (-1) = true then .inl _ else .inr _ := hres
  show (if (bif decide ((l.length : Int) < 1) then true else decide ((l.length : Int) > 8)) = true then ((false, ()) : Bool × Unit) else if isL (res_r10_Covers ((0, l, ()), ())) = true then (true, ()) else ((getR dR_r10_Covers (res_r10_Covers ((0, l, ()), ()))).1.1, ())) = (coversL l, ())
  rw [hres']
  unfold coversL
  rw [len_b2]
  cases decide (1 <= l.length /\ l.length <= 8) <;> cases allC l (-1) <;> rfl)
def bandB (u b : Int) : Bool := decide (u <= 200 /\ 0 <= b /\ b <= 100000)
def allB : List bandT.den -> Int -> Bool
 | [], _ => true
 | c :: r, last => (decide (last < c.1) && bandB c.1 c.2.1) && allB r c.1
def bandsL (l : List bandT.den) : Bool := decide (l.length <= 100) && allB l (-1)
def cBands : Ct := ⟨[.d (.sl bandT)], [.bool], fun x => (bandsL x.1, ()), fun _ => []⟩
theorem bandA_b (u b last : Int) : (bif bif bif decide (u <= last) then true else decide (u > 200) then true else decide (b < 0) then true else decide (b > 100000)) = !(decide (last < u) && bandB u b) := by
 rw [Bool.eq_iff_iff]
 simp only [bandB, Bool.cond_true_left, Bool.or_eq_true, Bool.not_eq_true', Bool.and_eq_false_iff, decide_eq_true_eq, decide_eq_false_iff_not]
 omega
theorem bandR_b (u b : Int) : (bif bif bif decide (u < 0) then true else decide (u > 200) then true else decide (b < 0) then true else decide (b > 100000)) = !(decide (-1 < u) && bandB u b) := by
 rw [Bool.eq_iff_iff]
 simp only [bandB, Bool.cond_true_left, Bool.or_eq_true, Bool.not_eq_true', Bool.and_eq_false_iff, decide_eq_true_eq, decide_eq_false_iff_not]
 omega
theorem rb_step (e : bandT.den) (s : st_risk_Bands) : (step_risk_Bands e s).get = if (decide (s.1.2.1 < e.1) && bandB e.1 e.2.1) = true then .inl ((s.1.1, e.1, ()), ()) else .inr ((false, ()), ()) := by
 show (if (bif bif bif decide (e.1 <= s.1.2.1) then true else decide (e.1 > 200) then true else decide (e.2.1 < 0) then true else decide (e.2.1 > 100000)) = true then _ else _) = _
 have hb := bandA_b e.1 e.2.1 s.1.2.1
 rw [hb]
 cases (decide (s.1.2.1 < e.1) && bandB e.1 e.2.1) <;> rfl
theorem rb_all (l l0 : List bandT.den) (last : Int) : allF (fun (e : bandT.den) (s : st_risk_Bands) => decide (s.1.2.1 < e.1) && bandB e.1 e.2.1) (fun e s => ((s.1.1, e.1, ()), ())) l ((l0, last, ()), ()) = allB l last := by
 induction l generalizing last with
 | nil => rfl
 | cons c r ih =>
  show ((decide (last < c.1) && bandB c.1 c.2.1) && _) = ((decide (last < c.1) && bandB c.1 c.2.1) && _)
  rw [ih]
theorem rb_end (l l0 : List bandT.den) (last : Int) : (endF (fun (e : bandT.den) (s : st_risk_Bands) => (((s.1.1, e.1, ()), ()) : st_risk_Bands)) l ((l0, last, ()), ())).1.1 = l0 := by
 induction l generalizing last with
 | nil => rfl
 | cons c r ih => exact ih c.1
theorem len_c (n : Nat) : decide ((n : Int) <= 100) = decide (n <= 100) := by
 rw [Bool.eq_iff_iff]
 simp only [decide_eq_true_eq]
 omega
theorem len_c2 (n : Nat) : decide ((n : Int) > 100) = !decide (n <= 100) := by
 rw [Bool.eq_iff_iff]
 simp only [Bool.not_eq_true', decide_eq_true_eq, decide_eq_false_iff_not]
 omega
theorem bands_ok : SoundCt Tryz.prog 154 cBands :=
 conv ff_risk_Bands_ok _ _ (fun w F x vs hr _ => by
  obtain ⟨l, _⟩ := x
  obtain ⟨v, vs', rfl, hv, _⟩ := hr
  have hlen := wf_len hv
  refine ⟨⟨⟨rfl, Int.le_refl _, Int.natCast_nonneg _, hlen⟩, okL_of (step := step_risk_Bands) (fun e s => ⟨fun _ => trivial, fun _ => trivial⟩) _ _, fun _ => trivial, fun _ => trivial⟩, ?_⟩
  have hres := bool_loop rb_step l ((l, -1, ()), ())
  rw [rb_all] at hres
  have hres' : res_risk_Bands ((0, (l.length : Int), l, l, -1, ()), ()) = if allB l (-1) = true then .inl _ else .inr _ := hres
  show (if isL (res_risk_Bands ((0, (l.length : Int), l, l, -1, ()), ())) = true then ((decide (((out_risk_Bands (getL dS_risk_Bands (res_risk_Bands ((0, (l.length : Int), l, l, -1, ()), ())))).1.1.length : Int) <= 100), ()) : Bool × Unit) else ((getR dR_risk_Bands (res_risk_Bands ((0, (l.length : Int), l, l, -1, ()), ()))).1.1, ())) = (bandsL l, ())
  rw [hres']
  unfold bandsL
  cases allB l (-1) with
  | true =>
   have he : (out_risk_Bands (getL dS_risk_Bands (Sum.inl (endF (fun (e : bandT.den) (s : st_risk_Bands) => (((s.1.1, e.1, ()), ()) : st_risk_Bands)) l ((l, -1, ()), ())) : st_risk_Bands ⊕ pt_risk_Bands.R.X))).1.1 = l := rb_end l l (-1)
   show ((decide (((out_risk_Bands (getL dS_risk_Bands (Sum.inl (endF (fun (e : bandT.den) (s : st_risk_Bands) => (((s.1.1, e.1, ()), ()) : st_risk_Bands)) l ((l, -1, ()), ())) : st_risk_Bands ⊕ pt_risk_Bands.R.X))).1.1.length : Int) <= 100), ()) : Bool × Unit) = _
   rw [he]
   exact congrArg (·, ()) ((len_c l.length).trans (Bool.and_true _).symm)
  | false =>
   rw [Bool.and_false]
   rfl)
def allB2 : List bandT.den -> Int -> bandT.den -> Bool
 | [], _, _ => true
 | c :: r, i, p => ((decide (-1 < c.1) && bandB c.1 c.2.1) && (!decide (i > 0) || decide (p.1 < c.1))) && allB2 r (i + 1) c
theorem allB2_eq (l : List bandT.den) (i : Int) (p : bandT.den) (hi : 0 <= i) (hp : i > 0 -> -1 < p.1) : allB2 l i p = allB l (if i > 0 then p.1 else -1) := by
 induction l generalizing i p with
 | nil => rfl
 | cons c r ih =>
  simp only [allB2, allB]
  by_cases hc : -1 < c.1
  ·rw [ih (i + 1) c (by omega) (fun _ => hc), if_pos (by omega)]
   congr 1
   rw [decide_eq_true hc, Bool.true_and]
   by_cases h : i > 0
   ·rw [if_pos h, decide_eq_true h, Bool.and_comm]
    rfl
   ·rw [if_neg h, decide_eq_false h, decide_eq_true hc]
    cases bandB c.1 c.2.1 <;> rfl
  ·have h1 : decide (-1 < c.1) = false := decide_eq_false hc
   have h2 : decide ((if i > 0 then p.1 else -1) < c.1) = false := by
    refine decide_eq_false fun h => hc ?_
    by_cases h' : i > 0
    ·rw [if_pos h'] at h
     exact Int.lt_trans (hp h') h
    ·rw [if_neg h'] at h
     exact h
   rw [h1, h2]
   rfl
theorem r6b_step (e : bandT.den) (s : st_r06_Bands) : (step_r06_Bands e s).get = if ((decide (-1 < e.1) && bandB e.1 e.2.1) && (!decide (s.2.1 > 0) || decide (s.2.2.1 < e.1))) = true then .inl (((), ()), s.2.1 + 1, e) else .inr ((false, ()), ()) := by
 show (if (bif bif bif decide (e.1 < 0) then true else decide (e.1 > 200) then true else decide (e.2.1 < 0) then true else decide (e.2.1 > 100000)) = true then _ else if decide (s.2.1 > 0) = true then (if decide (e.1 <= s.2.2.1) = true then _ else _) else _) = _
 have : decide (e.1 <= s.2.2.1) = !decide (s.2.2.1 < e.1) := by
  rw [Bool.eq_iff_iff]
  simp only [Bool.not_eq_true', decide_eq_true_eq, decide_eq_false_iff_not]
  exact Int.not_lt.symm
 have hb := bandR_b e.1 e.2.1
 rw [this, hb]
 cases (decide (-1 < e.1) && bandB e.1 e.2.1) <;> cases decide (s.2.1 > 0) <;> cases decide (s.2.2.1 < e.1) <;> rfl
theorem r6b_all (l : List bandT.den) (u : Unit × Unit) (i : Int) (p : bandT.den) : allF (fun (e : bandT.den) (s : st_r06_Bands) => (decide (-1 < e.1) && bandB e.1 e.2.1) && (!decide (s.2.1 > 0) || decide (s.2.2.1 < e.1))) (fun e s => (((), ()), s.2.1 + 1, e)) l (u, i, p) = allB2 l i p := by
 induction l generalizing u i p with
 | nil => rfl
 | cons c r ih =>
  show (((decide (-1 < c.1) && bandB c.1 c.2.1) && (!decide (i > 0) || decide (p.1 < c.1))) && _) = (((decide (-1 < c.1) && bandB c.1 c.2.1) && (!decide (i > 0) || decide (p.1 < c.1))) && _)
  rw [ih]
theorem r06_Bands_ok : SoundCt Tryz.prog 162 cBands :=
 conv ff_r06_Bands_ok _ _ (fun w F x vs hr _ => by
  obtain ⟨l, _⟩ := x
  obtain ⟨v, vs', rfl, hv, _⟩ := hr
  have hlen := wf_len hv
  refine ⟨⟨fun _ => trivial, fun _ => ⟨⟨trivial, Int.le_refl _, Int.natCast_nonneg _, hlen⟩, okL_of (step := step_r06_Bands) (fun e s => ⟨fun _ => trivial, fun _ => ⟨fun _ => ⟨fun _ => trivial, fun _ => trivial⟩, fun _ => trivial⟩⟩) _ _, fun _ => trivial, fun _ => trivial⟩⟩, ?_⟩
  have hres := bool_loop r6b_step l (((), ()), 0, l.getD (0 - 1 : Int).toNat bandT.dflt)
  have hz : (if (0 : Int) > 0 then (l.getD (0 - 1 : Int).toNat bandT.dflt).1 else -1) = -1 := if_neg (by decide)
  rw [r6b_all, allB2_eq _ _ _ (Int.le_refl _) (fun h => absurd h (by decide)), hz] at hres
  have hres' : res_r06_Bands ((0, l, ()), ()) = if allB l (-1) = true then .inl _ else .inr _ := hres
  show (if decide ((l.length : Int) > 100) = true then ((false, ()) : Bool × Unit) else if isL (res_r06_Bands ((0, l, ()), ())) = true then (true, ()) else ((getR dR_r06_Bands (res_r06_Bands ((0, l, ()), ()))).1.1, ())) = (bandsL l, ())
  rw [hres']
  unfold bandsL
  rw [len_c2]
  cases decide (l.length <= 100) <;> cases allB l (-1) <;> rfl)
def coverEq (a b : coverT.den) : Bool := (a.1 == b.1 && (a.2.1 == b.2.1 && (a.2.2.1 == b.2.2.1 && (a.2.2.2.1 == b.2.2.2.1 && (a.2.2.2.2.1 == b.2.2.2.2.1 && true)))))
theorem coverEq_iff {a b : coverT.den} : coverEq a b = true ↔ a = b := by
 obtain ⟨a1, a2, a3, a4, a5, _⟩ := a
 obtain ⟨b1, b2, b3, b4, b5, _⟩ := b
 simp only [coverEq, Bool.and_eq_true, beq_iff_eq, Prod.mk.injEq, and_true]
def sameC : List coverT.den -> List coverT.den -> Bool
 | [], [] => true
 | a :: l, b :: m => coverEq a b && sameC l m
 | _, _ => false
theorem sameC_iff : {l m : List coverT.den} -> (sameC l m = true ↔ l = m)
 | [], [] => by simp [sameC]
 | [], b :: m => by simp [sameC]
 | a :: l, [] => by simp [sameC]
 | a :: l, b :: m => by
  simp only [sameC, Bool.and_eq_true, List.cons.injEq]
  rw [coverEq_iff, sameC_iff]
def cSameC : Ct := ⟨[.d (.sl coverT), .d (.sl coverT)], [.bool], fun x => (sameC x.1 x.2.1, ()), fun _ => []⟩
theorem sameC_zip : {l m : List coverT.den} -> l.length = m.length -> sameC l m = (l.zip m).all fun e => coverEq e.1 e.2
 | [], [], _ => rfl
 | [], b :: m, h => by cases h
 | a :: l, [], h => by cases h
 | a :: l, b :: m, h => by
  simp only [sameC, List.zip_cons_cons, List.all_cons]
  rw [sameC_zip (by simpa using h)]
theorem sameC_len : {l m : List coverT.den} -> l.length ≠ m.length -> sameC l m = false := fun h => by
 cases hs : sameC _ _ with
 | true => exact absurd (congrArg List.length (sameC_iff.1 hs)) h
 | false => rfl
theorem allF_keep {T σ : Type} (p : T -> Bool) (l : List T) (s : σ) : allF (fun e _ => p e) (fun _ s => s) l s = l.all p := by
 induction l with
 | nil => rfl
 | cons e r ih => simp only [allF, List.all_cons]; rw [ih]
theorem s10_step (e : coverT.den × coverT.den) (s : st_r10_Same) : (step_r10_Same e s).get = if coverEq e.1 e.2 = true then .inl s else .inr ((false, ()), ()) := by
 show (if (!(coverEq e.1 e.2)) = true then _ else _) = _
 cases coverEq e.1 e.2 <;> rfl
theorem al_step (e : coverT.den × coverT.den) (s : st_alike) : (step_alike e s).get = if coverEq e.1 e.2 = true then .inl s else .inr ((false, ()), ()) := by
 show (if (!(coverEq e.1 e.2)) = true then _ else _) = _
 cases coverEq e.1 e.2 <;> rfl
theorem len_ne (a b : Nat) : ((a : Int) != (b : Int)) = !decide (a = b) := by
 rw [Bool.eq_iff_iff]
 simp only [bne_iff_ne, ne_eq, Bool.not_eq_true', decide_eq_false_iff_not]
 omega
theorem sameC10_ok : SoundCt Tryz.prog 112 cSameC :=
 conv ff_r10_Same_ok _ _ (fun w F x vs hr _ => by
  obtain ⟨l, m, _⟩ := x
  obtain ⟨v, vs', rfl, hv, _⟩ := hr
  have hlen : (l.length : Int) <= 9223372036854775807 := wf_len hv
  have hne := len_ne l.length m.length
  by_cases hlm : l.length = m.length
  ·have hne' : ((l.length : Int) != (m.length : Int)) = false := by rw [hne, decide_eq_true hlm]; rfl
   have hz : ((l.zip m).length : Int) <= 9223372036854775807 := by
    rw [List.length_zip]
    omega
   refine ⟨⟨fun _ => trivial, fun _ => ⟨⟨hlm, Int.le_refl _, Int.natCast_nonneg _, hz⟩, okL_of (step := step_r10_Same) (fun e s => ⟨fun _ => trivial, fun _ => trivial⟩) _ _, fun _ => trivial, fun _ => trivial⟩⟩, ?_⟩
   have hres := bool_loop (p := fun e _ => coverEq e.1 e.2) (f := fun _ s => s) s10_step (l.zip m) ((m, ()), ())
   rw [allF_keep, ← sameC_zip hlm] at hres
   have hres' : res_r10_Same ((0, l, m, ()), ()) = if sameC l m = true then .inl _ else .inr _ := hres
   show (if ((l.length : Int) != (m.length : Int)) = true then ((false, ()) : Bool × Unit) else if isL (res_r10_Same ((0, l, m, ()), ())) = true then (true, ()) else ((getR dR_r10_Same (res_r10_Same ((0, l, m, ()), ()))).1.1, ())) = (sameC l m, ())
   rw [hres', hne']
   cases sameC l m <;> rfl
  ·have hne' : ((l.length : Int) != (m.length : Int)) = true := by rw [hne, decide_eq_false hlm]; rfl
   refine ⟨⟨fun _ => trivial, fun hc => (by have hc' : ((l.length : Int) != (m.length : Int)) = false := hc; rw [hne'] at hc'; cases hc')⟩, ?_⟩
   show (if ((l.length : Int) != (m.length : Int)) = true then ((false, ()) : Bool × Unit) else _) = (sameC l m, ())
   rw [hne', sameC_len hlm]
   rfl)
theorem alike_ok : SoundCt Tryz.prog 129 cSameC :=
 conv ff_alike_ok _ _ (fun w F x vs hr _ => by
  obtain ⟨l, m, _⟩ := x
  obtain ⟨v, vs', rfl, hv, _⟩ := hr
  have hlen : (l.length : Int) <= 9223372036854775807 := wf_len hv
  have hne := len_ne l.length m.length
  by_cases hlm : l.length = m.length
  ·have hne' : ((l.length : Int) != (m.length : Int)) = false := by rw [hne, decide_eq_true hlm]; rfl
   have hz : ((l.zip m).length : Int) <= 9223372036854775807 := by
    rw [List.length_zip]
    omega
   refine ⟨⟨fun _ => trivial, fun _ => ⟨⟨⟨rfl, hlm⟩, Int.le_refl _, Int.natCast_nonneg _, hz⟩, okL_of (step := step_alike) (fun e s => ⟨fun _ => trivial, fun _ => trivial⟩) _ _, fun _ => trivial, fun _ => trivial⟩⟩, ?_⟩
   have hres := bool_loop (p := fun e _ => coverEq e.1 e.2) (f := fun _ s => s) al_step (l.zip m) ((m, ()), ())
   rw [allF_keep, ← sameC_zip hlm] at hres
   have hres' : res_alike ((0, (l.length : Int), l, m, ()), ()) = if sameC l m = true then .inl _ else .inr _ := hres
   show (if ((l.length : Int) != (m.length : Int)) = true then ((false, ()) : Bool × Unit) else if isL (res_alike ((0, (l.length : Int), l, m, ()), ())) = true then (true, ()) else ((getR dR_alike (res_alike ((0, (l.length : Int), l, m, ()), ()))).1.1, ())) = (sameC l m, ())
   rw [hres', hne']
   cases sameC l m <;> rfl
  ·have hne' : ((l.length : Int) != (m.length : Int)) = true := by rw [hne, decide_eq_false hlm]; rfl
   refine ⟨⟨fun _ => trivial, fun hc => (by have hc' : ((l.length : Int) != (m.length : Int)) = false := hc; rw [hne'] at hc'; cases hc')⟩, ?_⟩
   show (if ((l.length : Int) != (m.length : Int)) = true then ((false, ()) : Bool × Unit) else _) = (sameC l m, ())
   rw [hne', sameC_len hlm]
   rfl)
abbrev termsT : Ty := .pair spanT (.pair riskT (.pair (.sl coverT) .unit))
abbrev changeT : Ty := .pair i64 (.pair i64 (.pair i64 (.pair riskT (.pair (.sl coverT) (.pair i64 .unit)))))
abbrev histT : Ty := .pair i64 (.pair i64 (.pair termsT (.pair (.sl changeT) .unit)))
abbrev four : Ty := .pair i64 (.pair i64 (.pair i64 (.pair i64 .unit)))
abbrev verT : Ty := .pair i64 (.pair four (.pair (.sl bandT) (.pair ints (.pair ints (.pair i64 .unit)))))
abbrev tarT : Ty := .pair (.sl verT) .unit
noncomputable def CH9 : Cx := cx [(123, cRisk), (116, cRisk), (154, cBands), (162, cBands), (163, cFactors), (125, cCovers), (117, cCovers), (115, cFullS), (129, cSameC), (112, cSameC), (67, cIn), (70, cIn)] []
theorem CH9_ok : CxOK Tryz.prog CH9 := cx_ok mixed ⟨risk_ok, risk6_ok, bands_ok, r06_Bands_ok, factors_ok, terms_Covers_ok, r10_Covers_ok, full04_ok, alike_ok, sameC10_ok, inS_ok, in3_ok, trivial⟩ trivial
def ff_change_1 (x : denP [.d changeT]) : Fr (denL [.bool]) :=
 Fr.val (bif bif (cRisk.f ((x.1.2.2.2.1.1, x.1.2.2.2.1.2.1, x.1.2.2.2.1.2.2.1, x.1.2.2.2.1.2.2.2.1, ()), ())).1 then ((List.length x.1.2.2.2.2.1) : Int) == 0 else false then x.1.2.2.2.2.2.1 == 0 else false, ())
theorem ff_change_1_ok : SoundCt Tryz.prog 140 ⟨[.d changeT], [.bool], fun xs => (ff_change_1 xs).get, fun xs => [(ff_change_1 xs).ok]⟩ :=
 fn_sound CH9_ok (Λ := lam0) (fn := Tryz.f140) (dfP [.d changeT]) (by kernel_rfl) (fun c E _ => lam0_ok c 0) (fun x => by kernel_rfl)
def ff_change_2 (x : denP [.d changeT]) : Fr (denL [.bool]) :=
 Fr.val (bif bif (cCovers.f (x.1.2.2.2.2.1, ())).1 then x.1.2.2.2.1.1 == 0 && (x.1.2.2.2.1.2.1 == 0 && (x.1.2.2.2.1.2.2.1 == 0 && (x.1.2.2.2.1.2.2.2.1 == 0 && true))) else false then x.1.2.2.2.2.2.1 == 0 else false, ())
theorem ff_change_2_ok : SoundCt Tryz.prog 141 ⟨[.d changeT], [.bool], fun xs => (ff_change_2 xs).get, fun xs => [(ff_change_2 xs).ok]⟩ :=
 fn_sound CH9_ok (Λ := lam0) (fn := Tryz.f141) (dfP [.d changeT]) (by kernel_rfl) (fun c E _ => lam0_ok c 0) (fun x => by kernel_rfl)
def ff_change_3 (x : denP [.d changeT]) : Fr (denL [.bool]) :=
 Fr.val (bif bif bif x.1.2.2.2.2.2.1 == 0 then true else x.1.2.2.2.2.2.1 == 1 then ((List.length x.1.2.2.2.2.1) : Int) == 0 else false then x.1.2.2.2.1.1 == 0 && (x.1.2.2.2.1.2.1 == 0 && (x.1.2.2.2.1.2.2.1 == 0 && (x.1.2.2.2.1.2.2.2.1 == 0 && true))) else false, ())
theorem ff_change_3_ok : SoundCt Tryz.prog 142 ⟨[.d changeT], [.bool], fun xs => (ff_change_3 xs).get, fun xs => [(ff_change_3 xs).ok]⟩ :=
 fn_sound CH9_ok (Λ := lam0) (fn := Tryz.f142) (dfP [.d changeT]) (by kernel_rfl) (fun c E _ => lam0_ok c 0) (fun x => by kernel_rfl)
def ff_change_4 (x : denP [.d changeT]) : Fr (denL [.bool]) :=
 Fr.val (bif bif x.1.2.2.2.2.2.1 == 0 then ((List.length x.1.2.2.2.2.1) : Int) == 0 else false then x.1.2.2.2.1.1 == 0 && (x.1.2.2.2.1.2.1 == 0 && (x.1.2.2.2.1.2.2.1 == 0 && (x.1.2.2.2.1.2.2.2.1 == 0 && true))) else false, ())
theorem ff_change_4_ok : SoundCt Tryz.prog 143 ⟨[.d changeT], [.bool], fun xs => (ff_change_4 xs).get, fun xs => [(ff_change_4 xs).ok]⟩ :=
 fn_sound CH9_ok (Λ := lam0) (fn := Tryz.f143) (dfP [.d changeT]) (by kernel_rfl) (fun c E _ => lam0_ok c 0) (fun x => by kernel_rfl)
def ff_r11_Right (x : denP [.d changeT]) : Fr (denL [.bool]) :=
 Fr.br (bif bif bif decide (x.1.1 < 1) then true else decide (x.1.1 > 292194) then true else decide (x.1.2.1 < 1) then true else decide (x.1.2.1 > 292194)) (Fr.val (false, ())) (Fr.br (x.1.2.2.1 == 1) (Fr.val (bif bif (cRisk.f ((x.1.2.2.2.1.1, x.1.2.2.2.1.2.1, x.1.2.2.2.1.2.2.1, x.1.2.2.2.1.2.2.2.1, ()), ())).1 then ((List.length x.1.2.2.2.2.1) : Int) == 0 else false then x.1.2.2.2.2.2.1 == 0 else false, ())) (Fr.br (x.1.2.2.1 == 2) (Fr.val (bif bif (cCovers.f (x.1.2.2.2.2.1, ())).1 then x.1.2.2.2.1.1 == 0 && (x.1.2.2.2.1.2.1 == 0 && (x.1.2.2.2.1.2.2.1 == 0 && (x.1.2.2.2.1.2.2.2.1 == 0 && true))) else false then x.1.2.2.2.2.2.1 == 0 else false, ())) (Fr.br (x.1.2.2.1 == 3) (Fr.val (bif bif x.1.2.2.2.1.1 == 0 && (x.1.2.2.2.1.2.1 == 0 && (x.1.2.2.2.1.2.2.1 == 0 && (x.1.2.2.2.1.2.2.2.1 == 0 && true))) then ((List.length x.1.2.2.2.2.1) : Int) == 0 else false then bif x.1.2.2.2.2.2.1 == 0 then true else x.1.2.2.2.2.2.1 == 1 else false, ())) (Fr.br (x.1.2.2.1 == 4) (Fr.val (bif bif x.1.2.2.2.1.1 == 0 && (x.1.2.2.2.1.2.1 == 0 && (x.1.2.2.2.1.2.2.1 == 0 && (x.1.2.2.2.1.2.2.2.1 == 0 && true))) then ((List.length x.1.2.2.2.2.1) : Int) == 0 else false then x.1.2.2.2.2.2.1 == 0 else false, ())) (Fr.val (false, ()))))))
theorem ff_r11_Right_ok : SoundCt Tryz.prog 85 ⟨[.d changeT], [.bool], fun xs => (ff_r11_Right xs).get, fun xs => [(ff_r11_Right xs).ok]⟩ :=
 fn_sound CH9_ok (Λ := lam0) (fn := Tryz.f85) (dfP [.d changeT]) (by kernel_rfl) (fun c E _ => lam0_ok c 0) (fun x => by kernel_rfl)
def ff_r10_Right (x : denP [.d termsT]) : Fr (denL [.bool]) :=
 Fr.br (!(cFullS.f ((x.1.1.1, x.1.1.2.1, ()), ())).1) (Fr.val (false, ())) (Fr.val (bif bif decide (IntKind.i64.wrap (x.1.1.2.1 - x.1.1.1) <= 1100) then (cRisk.f ((x.1.2.1.1, x.1.2.1.2.1, x.1.2.1.2.2.1, x.1.2.1.2.2.2.1, ()), ())).1 else false then (cCovers.f (x.1.2.2.1, ())).1 else false, ()))
theorem ff_r10_Right_ok : SoundCt Tryz.prog 111 ⟨[.d termsT], [.bool], fun xs => (ff_r10_Right xs).get, fun xs => [(ff_r10_Right xs).ok]⟩ :=
 fn_sound CH9_ok (Λ := lam0) (fn := Tryz.f111) (dfP [.d termsT]) (by kernel_rfl) (fun c E _ => lam0_ok c 0) (fun x => by kernel_rfl)
def ff_holds (x : denP [.d sliceT, .d sliceT]) : Fr (denL [.bool]) :=
 Fr.val (bif bif x.1.2.1 == x.2.1.2.1 then x.1.2.2.1.1 == x.2.1.2.2.1.1 && (x.1.2.2.1.2.1 == x.2.1.2.2.1.2.1 && (x.1.2.2.1.2.2.1 == x.2.1.2.2.1.2.2.1 && (x.1.2.2.1.2.2.2.1 == x.2.1.2.2.1.2.2.2.1 && true))) else false then (cSameC.f (x.1.2.2.2.1, x.2.1.2.2.2.1, ())).1 else false, ())
theorem ff_holds_ok : SoundCt Tryz.prog 91 ⟨[.d sliceT, .d sliceT], [.bool], fun xs => (ff_holds xs).get, fun xs => [(ff_holds xs).ok]⟩ :=
 fn_sound CH9_ok (Λ := lam0) (fn := Tryz.f91) (dfP [.d sliceT, .d sliceT]) (by kernel_rfl) (fun c E _ => lam0_ok c 0) (fun x => by kernel_rfl)
def ff_r12_like (x : denP [.d sliceT, .d sliceT]) : Fr (denL [.bool]) :=
 Fr.val (bif bif x.1.2.1 == x.2.1.2.1 then x.1.2.2.1.1 == x.2.1.2.2.1.1 && (x.1.2.2.1.2.1 == x.2.1.2.2.1.2.1 && (x.1.2.2.1.2.2.1 == x.2.1.2.2.1.2.2.1 && (x.1.2.2.1.2.2.2.1 == x.2.1.2.2.1.2.2.2.1 && true))) else false then (cSameC.f (x.1.2.2.2.1, x.2.1.2.2.2.1, ())).1 else false, ())
theorem ff_r12_like_ok : SoundCt Tryz.prog 80 ⟨[.d sliceT, .d sliceT], [.bool], fun xs => (ff_r12_like xs).get, fun xs => [(ff_r12_like xs).ok]⟩ :=
 fn_sound CH9_ok (Λ := lam0) (fn := Tryz.f80) (dfP [.d sliceT, .d sliceT]) (by kernel_rfl) (fun c E _ => lam0_ok c 0) (fun x => by kernel_rfl)
def ck1 (c : changeT.den) : Bool := (ff_change_1 (c, ())).get.1
def ck2 (c : changeT.den) : Bool := (ff_change_2 (c, ())).get.1
def ck3 (c : changeT.den) : Bool := (ff_change_3 (c, ())).get.1
def ck4 (c : changeT.den) : Bool := (ff_change_4 (c, ())).get.1
def cCk1 : Ct := ⟨[.d changeT], [.bool], fun x => (ck1 x.1, ()), fun _ => []⟩
def cCk2 : Ct := ⟨[.d changeT], [.bool], fun x => (ck2 x.1, ()), fun _ => []⟩
def cCk3 : Ct := ⟨[.d changeT], [.bool], fun x => (ck3 x.1, ()), fun _ => []⟩
def cCk4 : Ct := ⟨[.d changeT], [.bool], fun x => (ck4 x.1, ()), fun _ => []⟩
theorem ck1_ok : SoundCt Tryz.prog 140 cCk1 := conv ff_change_1_ok _ _ (fun _ _ _ _ _ _ => ⟨trivial, rfl⟩)
theorem ck2_ok : SoundCt Tryz.prog 141 cCk2 := conv ff_change_2_ok _ _ (fun _ _ _ _ _ _ => ⟨trivial, rfl⟩)
theorem ck3_ok : SoundCt Tryz.prog 142 cCk3 := conv ff_change_3_ok _ _ (fun _ _ _ _ _ _ => ⟨trivial, rfl⟩)
theorem ck4_ok : SoundCt Tryz.prog 143 cCk4 := conv ff_change_4_ok _ _ (fun _ _ _ _ _ _ => ⟨trivial, rfl⟩)
def kindB (c : changeT.den) : Bool := if c.2.2.1 = 1 then ck1 c else if c.2.2.1 = 2 then ck2 c else if c.2.2.1 = 3 then ck3 c else if c.2.2.1 = 4 then ck4 c else false
def changeB (c : changeT.den) : Bool := dayB c.1 && (dayB c.2.1 && kindB c)
def cChange : Ct := ⟨[.d changeT], [.bool], fun x => (changeB x.1, ()), fun _ => []⟩
def termsB (t : termsT.den) : Bool := fullS t.1 && (decide (t.1.2.1 - t.1.1 <= 1100) && (riskB t.2.1.1 t.2.1.2.1 t.2.1.2.2.1 t.2.1.2.2.2.1 && coversL t.2.2.1))
def cTerms : Ct := ⟨[.d termsT], [.bool], fun x => (termsB x.1, ()), fun _ => []⟩
theorem r10_Right_ok : SoundCt Tryz.prog 111 cTerms :=
 conv ff_r10_Right_ok _ _ (fun _ _ x _ _ _ => by
  obtain ⟨⟨⟨a, b, _⟩, r, cs, _⟩, _⟩ := x
  refine ⟨⟨fun _ => trivial, fun _ => trivial⟩, ?_⟩
  show (if (!(fullS (a, b, ()))) = true then ((false, ()) : Bool × Unit) else (bif bif decide (IntKind.i64.wrap (b - a) <= 1100) then riskB r.1 r.2.1 r.2.2.1 r.2.2.2.1 else false then coversL cs else false, ())) =
   (fullS (a, b, ()) && (decide (b - a <= 1100) && (riskB r.1 r.2.1 r.2.2.1 r.2.2.2.1 && coversL cs)), ())
  cases hf : fullS (a, b, ()) with
  | false => rfl
  | true =>
   obtain ⟨h1, h2, h3⟩ := fullS_iff.1 hf
   have hw : IntKind.i64.wrap (b - a) = b - a := i64w (by omega)
   rw [hw, three]
   rfl)
def riskEq (a b : riskT.den) : Bool := (a.1 == b.1 && (a.2.1 == b.2.1 && (a.2.2.1 == b.2.2.1 && (a.2.2.2.1 == b.2.2.2.1 && true))))
def holdsB (a b : sliceT.den) : Bool := (a.2.1 == b.2.1) && (riskEq a.2.2.1 b.2.2.1 && sameC a.2.2.2.1 b.2.2.2.1)
def cHolds : Ct := ⟨[.d sliceT, .d sliceT], [.bool], fun x => (holdsB x.1 x.2.1, ()), fun _ => []⟩
theorem holds_ok : SoundCt Tryz.prog 91 cHolds := conv ff_holds_ok _ _ (fun _ _ x _ _ _ => by
 obtain ⟨a, b, _⟩ := x
 exact ⟨trivial, congrArg (·, ()) (three (a.2.1 == b.2.1) (riskEq a.2.2.1 b.2.2.1) (sameC a.2.2.2.1 b.2.2.2.1))⟩)
theorem like_ok : SoundCt Tryz.prog 80 cHolds := conv ff_r12_like_ok _ _ (fun _ _ x _ _ _ => by
 obtain ⟨a, b, _⟩ := x
 exact ⟨trivial, congrArg (·, ()) (three (a.2.1 == b.2.1) (riskEq a.2.2.1 b.2.2.1) (sameC a.2.2.2.1 b.2.2.2.1))⟩)
theorem day2_b (a b : Int) : (bif bif bif decide (a < 1) then true else decide (a > 292194) then true else decide (b < 1) then true else decide (b > 292194)) = !(dayB a && dayB b) := by
 rw [Bool.eq_iff_iff]
 simp only [dayB, Bool.cond_true_left, Bool.or_eq_true, Bool.not_eq_true', Bool.and_eq_false_iff, decide_eq_true_eq, decide_eq_false_iff_not]
 omega
def bareB (r : riskT.den) : Bool := r.1 == 0 && (r.2.1 == 0 && (r.2.2.1 == 0 && (r.2.2.2.1 == 0 && true)))
theorem r11_Right_ok : SoundCt Tryz.prog 85 cChange :=
 conv ff_r11_Right_ok _ _ (fun _ _ x _ _ _ => by
  obtain ⟨⟨b, d, k, r, cs, w, _⟩, _⟩ := x
  refine ⟨⟨fun _ => trivial, fun _ => ⟨fun _ => trivial, fun _ => ⟨fun _ => trivial, fun _ => ⟨fun _ => trivial, fun _ => ⟨fun _ => trivial, fun _ => trivial⟩⟩⟩⟩⟩, ?_⟩
  show (if (bif bif bif decide (b < 1) then true else decide (b > 292194) then true else decide (d < 1) then true else decide (d > 292194)) = true then ((false, ()) : Bool × Unit) else
   if (k == 1) = true then (ck1 (b, d, k, r, cs, w, ()), ()) else if (k == 2) = true then (ck2 (b, d, k, r, cs, w, ()), ()) else
   if (k == 3) = true then (bif bif bareB r then ((cs.length : Int) == 0) else false then bif w == 0 then true else w == 1 else false, ()) else
   if (k == 4) = true then (bif bif bareB r then ((cs.length : Int) == 0) else false then w == 0 else false, ()) else (false, ())) = (dayB b && (dayB d && kindB (b, d, k, r, cs, w, ())), ())
  have hb := day2_b b d
  rw [hb]
  have h3 : (bif bif bareB r then ((cs.length : Int) == 0) else false then bif w == 0 then true else w == 1 else false) = ck3 (b, d, k, r, cs, w, ()) := by
   show _ = (bif bif bif w == 0 then true else w == 1 then ((cs.length : Int) == 0) else false then bareB r else false)
   cases bareB r <;> cases ((cs.length : Int) == 0) <;> cases (w == 0) <;> cases (w == 1) <;> rfl
  have h4 : (bif bif bareB r then ((cs.length : Int) == 0) else false then w == 0 else false) = ck4 (b, d, k, r, cs, w, ()) := by
   show _ = (bif bif w == 0 then ((cs.length : Int) == 0) else false then bareB r else false)
   cases bareB r <;> cases ((cs.length : Int) == 0) <;> cases (w == 0) <;> rfl
  rw [h3, h4]
  have hk : kindB (b, d, k, r, cs, w, ()) = if (k == 1) = true then ck1 (b, d, k, r, cs, w, ()) else if (k == 2) = true then ck2 (b, d, k, r, cs, w, ()) else if (k == 3) = true then ck3 (b, d, k, r, cs, w, ()) else if (k == 4) = true then ck4 (b, d, k, r, cs, w, ()) else false := by
   simp only [beq_iff_eq]
   rfl
  rw [hk]
  cases dayB b <;> cases dayB d <;> cases (k == 1) <;> cases (k == 2) <;> cases (k == 3) <;> cases (k == 4) <;> rfl)
noncomputable def CHA : Cx := cx [(91, cHolds), (80, cHolds), (85, cChange), (111, cTerms), (67, cIn), (70, cIn)] []
theorem CHA_ok : CxOK Tryz.prog CHA := cx_ok mixed ⟨holds_ok, like_ok, r11_Right_ok, r10_Right_ok, inS_ok, in3_ok, trivial⟩ trivial
abbrev pt_slices_At : Pt := ⟨21, 0, ⟨[(10, .d i64), (9, .d i64), (8, .d slsT), (1, .d i64)], [.x 4 80 sliceT, .r 4 4 0]⟩, ⟨[], [.x 4 80 sliceT, .r 4 4 0]⟩, ⟨[(5, .d .bool)], [.x 4 80 sliceT, .r 4 4 0]⟩⟩
def fr_slices_At (x : pt_slices_At.M.X) : Fr pt_slices_At.Out :=
 Fr.br (decide (x.1.1 < x.1.2.1)) (Fr.need (0 <= x.1.1 /\ x.1.1 < ((List.length x.1.2.2.1) : Int)) (Fr.br (cIn.f (((List.getD x.1.2.2.1 (Int.toNat x.1.1) sliceT.dflt).1.1, (List.getD x.1.2.2.1 (Int.toNat x.1.1) sliceT.dflt).1.2.1, ()), x.1.2.2.2.1, ())).1 (Fr.val (Rd.back ((true, ()), (((List.getD x.1.2.2.1 (Int.toNat x.1.1) sliceT.dflt).1.1, (List.getD x.1.2.2.1 (Int.toNat x.1.1) sliceT.dflt).1.2.1, ()), (List.getD x.1.2.2.1 (Int.toNat x.1.1) sliceT.dflt).2.1, ((List.getD x.1.2.2.1 (Int.toNat x.1.1) sliceT.dflt).2.2.1.1, (List.getD x.1.2.2.1 (Int.toNat x.1.1) sliceT.dflt).2.2.1.2.1, (List.getD x.1.2.2.1 (Int.toNat x.1.1) sliceT.dflt).2.2.1.2.2.1, (List.getD x.1.2.2.1 (Int.toNat x.1.1) sliceT.dflt).2.2.1.2.2.2.1, ()), (List.getD x.1.2.2.1 (Int.toNat x.1.1) sliceT.dflt).2.2.2.1, (List.getD x.1.2.2.1 (Int.toNat x.1.1) sliceT.dflt).2.2.2.2.1, ()), ()))) (Fr.val (Rd.next ((IntKind.i64.wrap (x.1.1 + 1), x.1.2.1, x.1.2.2.1, x.1.2.2.2.1, ()), ((x.2.1.1.1, x.2.1.1.2.1, ()), x.2.1.2.1, (x.2.1.2.2.1.1, x.2.1.2.2.1.2.1, x.2.1.2.2.1.2.2.1, x.2.1.2.2.1.2.2.2.1, ()), x.2.1.2.2.2.1, x.2.1.2.2.2.2.1, ()), ()))))) (Fr.val (Rd.out ((), ((x.2.1.1.1, x.2.1.1.2.1, ()), x.2.1.2.1, (x.2.1.2.2.1.1, x.2.1.2.2.1.2.1, x.2.1.2.2.1.2.2.1, x.2.1.2.2.1.2.2.2.1, ()), x.2.1.2.2.2.1, x.2.1.2.2.2.2.1, ()), ())))
theorem sem_slices_At : Does Tryz.prog (loopF Tryz.f37 0) pt_slices_At.M pt_slices_At fr_slices_At :=
 Does.of_run CHA_ok (bs := 0) (Λ := lam0) rfl rfl rfl (fun E => lam0_ok _ 0) (fun x => by kernel_rfl)
abbrev st_slices_At : Type := denP [.d i64] × denM [.x 4 80 sliceT, .r 4 4 0]
def step_slices_At (e : sliceT.den) (s : st_slices_At) : Fr (st_slices_At ⊕ pt_slices_At.R.X) :=
 Fr.br (cIn.f ((e.1.1, e.1.2.1, ()), s.1.1, ())).1 (Fr.val (.inr ((true, ()), ((e.1.1, e.1.2.1, ()), e.2.1, (e.2.2.1.1, e.2.2.1.2.1, e.2.2.1.2.2.1, e.2.2.1.2.2.2.1, ()), e.2.2.2.1, e.2.2.2.2.1, ()), ()))) (Fr.val (.inl ((s.1.1, ()), ((s.2.1.1.1, s.2.1.1.2.1, ()), s.2.1.2.1, (s.2.1.2.2.1.1, s.2.1.2.2.1.2.1, s.2.1.2.2.1.2.2.1, s.2.1.2.2.1.2.2.2.1, ()), s.2.1.2.2.2.1, s.2.1.2.2.2.2.1, ()), ())))
def un_slices_At (x : pt_slices_At.M.X) : Int × List sliceT.den × st_slices_At := (x.1.1, x.1.2.2.1, x.1.2.2.2, x.2)
def good_slices_At (x : pt_slices_At.M.X) : Prop := x.1.2.1 = (x.1.2.2.1.length : Int)
def out_slices_At (s : st_slices_At) : pt_slices_At.E.X := ((), ((s.2.1.1.1, s.2.1.1.2.1, ()), s.2.1.2.1, (s.2.1.2.2.1.1, s.2.1.2.2.1.2.1, s.2.1.2.2.1.2.2.1, s.2.1.2.2.1.2.2.2.1, ()), s.2.1.2.2.2.1, s.2.1.2.2.2.2.1, ()), ())
def dS_slices_At : st_slices_At := (dfP _, dfM _)
def dR_slices_At : pt_slices_At.R.X := (dfP _, dfM _)
theorem loop_slices_At : Does Tryz.prog (.loop (loopF Tryz.f37 0)) pt_slices_At.M pt_slices_At (FL step_slices_At un_slices_At good_slices_At out_slices_At Rd.back dS_slices_At dR_slices_At) := by
 refine Does.list sem_slices_At step_slices_At un_slices_At good_slices_At out_slices_At Rd.back dS_slices_At dR_slices_At ?_ ?_
 ·rintro ⟨⟨i, n, l, s⟩, m⟩ hg h0 h1 hb e he Q h
  have hg : n = (l.length : Int) := hg
  subst hg
  have h0 : 0 <= i := h0
  have h1 : i < (l.length : Int) := h1
  have hb : (l.length : Int) <= 9223372036854775807 := hb
  have hd : l.getD i.toNat sliceT.dflt = e := getD_of he
  have hw := wrap_next h0 h1 hb
  dsimp only [un_slices_At, step_slices_At, fr_slices_At, Fr.satP] at h ⊢
  simp only [hd, hw] at h ⊢
  refine ⟨fun _ => ?_, fun hn => absurd h1 (of_decide_eq_false hn)⟩
  repeat' first
   | exact h
   | exact ⟨h0, h1⟩
   | exact fun _ => ⟨h0, h1⟩
   | exact h _ rfl rfl
   | refine ⟨?_, ?_⟩
   | (intro (hc : _ = true); replace h := h.1 hc)
   | (intro (hc : _ = false); replace h := h.2 hc)
 ·rintro ⟨⟨i, n, l, s⟩, m⟩ hg h1 Q h
  have hg : n = (l.length : Int) := hg
  subst hg
  exact ⟨fun hn => absurd (of_decide_eq_true hn) h1, fun _ => h⟩
def Λ_slices_At (Γ : FuncId -> Option Ct) : St -> Option Tr := pt_slices_At.han Γ pt_slices_At.M (FL step_slices_At un_slices_At good_slices_At out_slices_At Rd.back dS_slices_At dR_slices_At)
def res_slices_At (y : pt_slices_At.M.X) : st_slices_At ⊕ pt_slices_At.R.X := goL step_slices_At ((un_slices_At y).2.1.drop (un_slices_At y).1.toNat) (un_slices_At y).2.2
def okr_slices_At (y : pt_slices_At.M.X) : Prop := okL step_slices_At ((un_slices_At y).2.1.drop (un_slices_At y).1.toNat) (un_slices_At y).2.2
abbrev pt_r12_At : Pt := ⟨27, 0, ⟨[(6, .d i64), (0, .d slsT), (1, .d i64)], [.x 4 80 sliceT, .r 4 4 0]⟩, ⟨[], [.x 4 80 sliceT, .r 4 4 0]⟩, ⟨[(5, .d .bool)], [.x 4 80 sliceT, .r 4 4 0]⟩⟩
def fr_r12_At (x : pt_r12_At.M.X) : Fr pt_r12_At.Out :=
 Fr.br (decide (x.1.1 < ((List.length x.1.2.1) : Int))) (Fr.need (0 <= x.1.1 /\ x.1.1 < ((List.length x.1.2.1) : Int)) (Fr.br (cIn.f (((List.getD x.1.2.1 (Int.toNat x.1.1) sliceT.dflt).1.1, (List.getD x.1.2.1 (Int.toNat x.1.1) sliceT.dflt).1.2.1, ()), x.1.2.2.1, ())).1 (Fr.need (0 <= x.1.1 /\ x.1.1 < ((List.length x.1.2.1) : Int)) (Fr.val (Rd.back ((true, ()), (((List.getD x.1.2.1 (Int.toNat x.1.1) sliceT.dflt).1.1, (List.getD x.1.2.1 (Int.toNat x.1.1) sliceT.dflt).1.2.1, ()), (List.getD x.1.2.1 (Int.toNat x.1.1) sliceT.dflt).2.1, ((List.getD x.1.2.1 (Int.toNat x.1.1) sliceT.dflt).2.2.1.1, (List.getD x.1.2.1 (Int.toNat x.1.1) sliceT.dflt).2.2.1.2.1, (List.getD x.1.2.1 (Int.toNat x.1.1) sliceT.dflt).2.2.1.2.2.1, (List.getD x.1.2.1 (Int.toNat x.1.1) sliceT.dflt).2.2.1.2.2.2.1, ()), (List.getD x.1.2.1 (Int.toNat x.1.1) sliceT.dflt).2.2.2.1, (List.getD x.1.2.1 (Int.toNat x.1.1) sliceT.dflt).2.2.2.2.1, ()), ())))) (Fr.val (Rd.next ((IntKind.i64.wrap (x.1.1 + 1), x.1.2.1, x.1.2.2.1, ()), ((x.2.1.1.1, x.2.1.1.2.1, ()), x.2.1.2.1, (x.2.1.2.2.1.1, x.2.1.2.2.1.2.1, x.2.1.2.2.1.2.2.1, x.2.1.2.2.1.2.2.2.1, ()), x.2.1.2.2.2.1, x.2.1.2.2.2.2.1, ()), ()))))) (Fr.val (Rd.out ((), ((x.2.1.1.1, x.2.1.1.2.1, ()), x.2.1.2.1, (x.2.1.2.2.1.1, x.2.1.2.2.1.2.1, x.2.1.2.2.1.2.2.1, x.2.1.2.2.1.2.2.2.1, ()), x.2.1.2.2.2.1, x.2.1.2.2.2.2.1, ()), ())))
theorem sem_r12_At : Does Tryz.prog (loopF Tryz.f41 0) pt_r12_At.M pt_r12_At fr_r12_At :=
 Does.of_run CHA_ok (bs := 0) (Λ := lam0) rfl rfl rfl (fun E => lam0_ok _ 0) (fun x => by kernel_rfl)
abbrev st_r12_At : Type := denP [.d i64] × denM [.x 4 80 sliceT, .r 4 4 0]
def step_r12_At (e : sliceT.den) (s : st_r12_At) : Fr (st_r12_At ⊕ pt_r12_At.R.X) :=
 Fr.br (cIn.f ((e.1.1, e.1.2.1, ()), s.1.1, ())).1 (Fr.val (.inr ((true, ()), ((e.1.1, e.1.2.1, ()), e.2.1, (e.2.2.1.1, e.2.2.1.2.1, e.2.2.1.2.2.1, e.2.2.1.2.2.2.1, ()), e.2.2.2.1, e.2.2.2.2.1, ()), ()))) (Fr.val (.inl ((s.1.1, ()), ((s.2.1.1.1, s.2.1.1.2.1, ()), s.2.1.2.1, (s.2.1.2.2.1.1, s.2.1.2.2.1.2.1, s.2.1.2.2.1.2.2.1, s.2.1.2.2.1.2.2.2.1, ()), s.2.1.2.2.2.1, s.2.1.2.2.2.2.1, ()), ())))
def un_r12_At (x : pt_r12_At.M.X) : Int × List sliceT.den × st_r12_At := (x.1.1, x.1.2.1, x.1.2.2, x.2)
def good_r12_At (x : pt_r12_At.M.X) : Prop := True
def out_r12_At (s : st_r12_At) : pt_r12_At.E.X := ((), ((s.2.1.1.1, s.2.1.1.2.1, ()), s.2.1.2.1, (s.2.1.2.2.1.1, s.2.1.2.2.1.2.1, s.2.1.2.2.1.2.2.1, s.2.1.2.2.1.2.2.2.1, ()), s.2.1.2.2.2.1, s.2.1.2.2.2.2.1, ()), ())
def dS_r12_At : st_r12_At := (dfP _, dfM _)
def dR_r12_At : pt_r12_At.R.X := (dfP _, dfM _)
theorem loop_r12_At : Does Tryz.prog (.loop (loopF Tryz.f41 0)) pt_r12_At.M pt_r12_At (FL step_r12_At un_r12_At good_r12_At out_r12_At Rd.back dS_r12_At dR_r12_At) := by
 refine Does.list sem_r12_At step_r12_At un_r12_At good_r12_At out_r12_At Rd.back dS_r12_At dR_r12_At ?_ ?_
 ·rintro ⟨⟨i, l, s⟩, m⟩ hg h0 h1 hb e he Q h
  have h0 : 0 <= i := h0
  have h1 : i < (l.length : Int) := h1
  have hb : (l.length : Int) <= 9223372036854775807 := hb
  have hd : l.getD i.toNat sliceT.dflt = e := getD_of he
  have hw := wrap_next h0 h1 hb
  dsimp only [un_r12_At, step_r12_At, fr_r12_At, Fr.satP] at h ⊢
  simp only [hd, hw] at h ⊢
  refine ⟨fun _ => ?_, fun hn => absurd h1 (of_decide_eq_false hn)⟩
  repeat' first
   | exact h
   | exact ⟨h0, h1⟩
   | exact fun _ => ⟨h0, h1⟩
   | exact h _ rfl trivial
   | refine ⟨?_, ?_⟩
   | (intro (hc : _ = true); replace h := h.1 hc)
   | (intro (hc : _ = false); replace h := h.2 hc)
 ·rintro ⟨⟨i, l, s⟩, m⟩ hg h1 Q h
  exact ⟨fun hn => absurd (of_decide_eq_true hn) h1, fun _ => h⟩
def Λ_r12_At (Γ : FuncId -> Option Ct) : St -> Option Tr := pt_r12_At.han Γ pt_r12_At.M (FL step_r12_At un_r12_At good_r12_At out_r12_At Rd.back dS_r12_At dR_r12_At)
def res_r12_At (y : pt_r12_At.M.X) : st_r12_At ⊕ pt_r12_At.R.X := goL step_r12_At ((un_r12_At y).2.1.drop (un_r12_At y).1.toNat) (un_r12_At y).2.2
def okr_r12_At (y : pt_r12_At.M.X) : Prop := okL step_r12_At ((un_r12_At y).2.1.drop (un_r12_At y).1.toNat) (un_r12_At y).2.2
abbrev pt_r12_Right : Pt := ⟨47, 0, ⟨[(4, .d i64)], [.x 1 31 histT, .r 1 1 0]⟩, ⟨[], []⟩, ⟨[(2, .d .bool)], []⟩⟩
def fr_r12_Right (x : pt_r12_Right.M.X) : Fr pt_r12_Right.Out :=
 Fr.br (decide (x.1.1 < ((List.length x.2.1.2.2.2.1) : Int))) (Fr.need (0 <= x.1.1 /\ x.1.1 < ((List.length x.2.1.2.2.2.1) : Int)) (Fr.need (0 <= x.1.1 /\ x.1.1 < ((List.length x.2.1.2.2.2.1) : Int)) (Fr.br (bif !(cChange.f (((List.getD x.2.1.2.2.2.1 (Int.toNat x.1.1) changeT.dflt).1, (List.getD x.2.1.2.2.2.1 (Int.toNat x.1.1) changeT.dflt).2.1, (List.getD x.2.1.2.2.2.1 (Int.toNat x.1.1) changeT.dflt).2.2.1, ((List.getD x.2.1.2.2.2.1 (Int.toNat x.1.1) changeT.dflt).2.2.2.1.1, (List.getD x.2.1.2.2.2.1 (Int.toNat x.1.1) changeT.dflt).2.2.2.1.2.1, (List.getD x.2.1.2.2.2.1 (Int.toNat x.1.1) changeT.dflt).2.2.2.1.2.2.1, (List.getD x.2.1.2.2.2.1 (Int.toNat x.1.1) changeT.dflt).2.2.2.1.2.2.2.1, ()), (List.getD x.2.1.2.2.2.1 (Int.toNat x.1.1) changeT.dflt).2.2.2.2.1, (List.getD x.2.1.2.2.2.1 (Int.toNat x.1.1) changeT.dflt).2.2.2.2.2.1, ()), ())).1 then true else !(cIn.f ((x.2.1.2.2.1.1.1, x.2.1.2.2.1.1.2.1, ()), (List.getD x.2.1.2.2.2.1 (Int.toNat x.1.1) changeT.dflt).2.1, ())).1) (Fr.val (Rd.back ((false, ()), ()))) (Fr.val (Rd.next ((IntKind.i64.wrap (x.1.1 + 1), ()), (x.2.1.1, x.2.1.2.1, ((x.2.1.2.2.1.1.1, x.2.1.2.2.1.1.2.1, ()), (x.2.1.2.2.1.2.1.1, x.2.1.2.2.1.2.1.2.1, x.2.1.2.2.1.2.1.2.2.1, x.2.1.2.2.1.2.1.2.2.2.1, ()), x.2.1.2.2.1.2.2.1, ()), x.2.1.2.2.2.1, ()), ())))))) (Fr.val (Rd.out ((), ())))
theorem sem_r12_Right : Does Tryz.prog (loopF Tryz.f77 0) pt_r12_Right.M pt_r12_Right fr_r12_Right :=
 Does.of_run CHA_ok (bs := 0) (Λ := lam0) rfl rfl rfl (fun E => lam0_ok _ 0) (fun x => by kernel_rfl)
abbrev st_r12_Right : Type := denP [] × denM [.x 1 31 histT, .r 1 1 0]
def step_r12_Right (e : changeT.den) (s : st_r12_Right) : Fr (st_r12_Right ⊕ pt_r12_Right.R.X) :=
 Fr.br (bif !(cChange.f ((e.1, e.2.1, e.2.2.1, (e.2.2.2.1.1, e.2.2.2.1.2.1, e.2.2.2.1.2.2.1, e.2.2.2.1.2.2.2.1, ()), e.2.2.2.2.1, e.2.2.2.2.2.1, ()), ())).1 then true else !(cIn.f ((s.2.1.2.2.1.1.1, s.2.1.2.2.1.1.2.1, ()), e.2.1, ())).1) (Fr.val (.inr ((false, ()), ()))) (Fr.val (.inl ((), (s.2.1.1, s.2.1.2.1, ((s.2.1.2.2.1.1.1, s.2.1.2.2.1.1.2.1, ()), (s.2.1.2.2.1.2.1.1, s.2.1.2.2.1.2.1.2.1, s.2.1.2.2.1.2.1.2.2.1, s.2.1.2.2.1.2.1.2.2.2.1, ()), s.2.1.2.2.1.2.2.1, ()), s.2.1.2.2.2.1, ()), ())))
def un_r12_Right (x : pt_r12_Right.M.X) : Int × List changeT.den × st_r12_Right := (x.1.1, x.2.1.2.2.2.1, x.1.2, x.2)
def good_r12_Right (x : pt_r12_Right.M.X) : Prop := True
def out_r12_Right (s : st_r12_Right) : pt_r12_Right.E.X := ((), ())
def dS_r12_Right : st_r12_Right := (dfP _, dfM _)
def dR_r12_Right : pt_r12_Right.R.X := (dfP _, dfM _)
theorem loop_r12_Right : Does Tryz.prog (.loop (loopF Tryz.f77 0)) pt_r12_Right.M pt_r12_Right (FL step_r12_Right un_r12_Right good_r12_Right out_r12_Right Rd.back dS_r12_Right dR_r12_Right) := by
 refine Does.list sem_r12_Right step_r12_Right un_r12_Right good_r12_Right out_r12_Right Rd.back dS_r12_Right dR_r12_Right ?_ ?_
 ·rintro ⟨⟨i, s⟩, m⟩ hg h0 h1 hb e he Q h
  have h0 : 0 <= i := h0
  have h1 : i < (m.1.2.2.2.1.length : Int) := h1
  have hb : (m.1.2.2.2.1.length : Int) <= 9223372036854775807 := hb
  have hd : m.1.2.2.2.1.getD i.toNat changeT.dflt = e := getD_of he
  have hw := wrap_next h0 h1 hb
  dsimp only [un_r12_Right, step_r12_Right, fr_r12_Right, Fr.satP] at h ⊢
  simp only [hd, hw] at h ⊢
  refine ⟨fun _ => ?_, fun hn => absurd h1 (of_decide_eq_false hn)⟩
  repeat' first
   | exact h
   | exact ⟨h0, h1⟩
   | exact fun _ => ⟨h0, h1⟩
   | exact h _ rfl trivial
   | refine ⟨?_, ?_⟩
   | (intro (hc : _ = true); replace h := h.1 hc)
   | (intro (hc : _ = false); replace h := h.2 hc)
 ·rintro ⟨⟨i, s⟩, m⟩ hg h1 Q h
  exact ⟨fun hn => absurd (of_decide_eq_true hn) h1, fun _ => h⟩
def Λ_r12_Right (Γ : FuncId -> Option Ct) : St -> Option Tr := pt_r12_Right.han Γ pt_r12_Right.M (FL step_r12_Right un_r12_Right good_r12_Right out_r12_Right Rd.back dS_r12_Right dR_r12_Right)
def res_r12_Right (y : pt_r12_Right.M.X) : st_r12_Right ⊕ pt_r12_Right.R.X := goL step_r12_Right ((un_r12_Right y).2.1.drop (un_r12_Right y).1.toNat) (un_r12_Right y).2.2
def okr_r12_Right (y : pt_r12_Right.M.X) : Prop := okL step_r12_Right ((un_r12_Right y).2.1.drop (un_r12_Right y).1.toNat) (un_r12_Right y).2.2
def ff_slices_At (x : denP [.d slsT, .d i64]) : Fr (denL [sliceT, .bool]) :=
 Fr.need (InL (good_slices_At ((0, ((List.length x.1) : Int), x.1, x.2.1, ()), ((0, 0, ()), false, (0, 0, 0, 0, ()), [], 0, ()), ())) (un_slices_At ((0, ((List.length x.1) : Int), x.1, x.2.1, ()), ((0, 0, ()), false, (0, 0, 0, 0, ()), [], 0, ()), ()))) (Fr.need (okr_slices_At ((0, ((List.length x.1) : Int), x.1, x.2.1, ()), ((0, 0, ()), false, (0, 0, 0, 0, ()), [], 0, ()), ())) (Fr.br (isL (res_slices_At ((0, ((List.length x.1) : Int), x.1, x.2.1, ()), ((0, 0, ()), false, (0, 0, 0, 0, ()), [], 0, ()), ()))) (Fr.val (((0, 0, ()), false, (0, 0, 0, 0, ()), [], 0, ()), false, ())) (Fr.val ((((getR dR_slices_At (res_slices_At ((0, ((List.length x.1) : Int), x.1, x.2.1, ()), ((0, 0, ()), false, (0, 0, 0, 0, ()), [], 0, ()), ()))).2.1.1.1, (getR dR_slices_At (res_slices_At ((0, ((List.length x.1) : Int), x.1, x.2.1, ()), ((0, 0, ()), false, (0, 0, 0, 0, ()), [], 0, ()), ()))).2.1.1.2.1, ()), (getR dR_slices_At (res_slices_At ((0, ((List.length x.1) : Int), x.1, x.2.1, ()), ((0, 0, ()), false, (0, 0, 0, 0, ()), [], 0, ()), ()))).2.1.2.1, ((getR dR_slices_At (res_slices_At ((0, ((List.length x.1) : Int), x.1, x.2.1, ()), ((0, 0, ()), false, (0, 0, 0, 0, ()), [], 0, ()), ()))).2.1.2.2.1.1, (getR dR_slices_At (res_slices_At ((0, ((List.length x.1) : Int), x.1, x.2.1, ()), ((0, 0, ()), false, (0, 0, 0, 0, ()), [], 0, ()), ()))).2.1.2.2.1.2.1, (getR dR_slices_At (res_slices_At ((0, ((List.length x.1) : Int), x.1, x.2.1, ()), ((0, 0, ()), false, (0, 0, 0, 0, ()), [], 0, ()), ()))).2.1.2.2.1.2.2.1, (getR dR_slices_At (res_slices_At ((0, ((List.length x.1) : Int), x.1, x.2.1, ()), ((0, 0, ()), false, (0, 0, 0, 0, ()), [], 0, ()), ()))).2.1.2.2.1.2.2.2.1, ()), (getR dR_slices_At (res_slices_At ((0, ((List.length x.1) : Int), x.1, x.2.1, ()), ((0, 0, ()), false, (0, 0, 0, 0, ()), [], 0, ()), ()))).2.1.2.2.2.1, (getR dR_slices_At (res_slices_At ((0, ((List.length x.1) : Int), x.1, x.2.1, ()), ((0, 0, ()), false, (0, 0, 0, 0, ()), [], 0, ()), ()))).2.1.2.2.2.2.1, ()), (getR dR_slices_At (res_slices_At ((0, ((List.length x.1) : Int), x.1, x.2.1, ()), ((0, 0, ()), false, (0, 0, 0, 0, ()), [], 0, ()), ()))).1.1, ()))))
theorem ff_slices_At_ok : SoundCt Tryz.prog 37 ⟨[.d slsT, .d i64], [sliceT, .bool], fun xs => (ff_slices_At xs).get, fun xs => [(ff_slices_At xs).ok]⟩ :=
 fn_sound CHA_ok (Λ := (fun _ => Λ_slices_At CHA.Γ)) (fn := Tryz.f37) (dfP [.d slsT, .d i64]) (by kernel_rfl) (fun c E hc => lam1f hc (by kernel_rfl) (b := loopF Tryz.f37 0) (by kernel_rfl) (Does.han CHA_ok rfl loop_slices_At)) (fun x => by kernel_rfl)
def ff_r12_At (x : denP [.d slsT, .d i64]) : Fr (denL [sliceT, .bool]) :=
 Fr.need (InL (good_r12_At ((0, x.1, x.2.1, ()), ((0, 0, ()), false, (0, 0, 0, 0, ()), [], 0, ()), ())) (un_r12_At ((0, x.1, x.2.1, ()), ((0, 0, ()), false, (0, 0, 0, 0, ()), [], 0, ()), ()))) (Fr.need (okr_r12_At ((0, x.1, x.2.1, ()), ((0, 0, ()), false, (0, 0, 0, 0, ()), [], 0, ()), ())) (Fr.br (isL (res_r12_At ((0, x.1, x.2.1, ()), ((0, 0, ()), false, (0, 0, 0, 0, ()), [], 0, ()), ()))) (Fr.val (((0, 0, ()), false, (0, 0, 0, 0, ()), [], 0, ()), false, ())) (Fr.val ((((getR dR_r12_At (res_r12_At ((0, x.1, x.2.1, ()), ((0, 0, ()), false, (0, 0, 0, 0, ()), [], 0, ()), ()))).2.1.1.1, (getR dR_r12_At (res_r12_At ((0, x.1, x.2.1, ()), ((0, 0, ()), false, (0, 0, 0, 0, ()), [], 0, ()), ()))).2.1.1.2.1, ()), (getR dR_r12_At (res_r12_At ((0, x.1, x.2.1, ()), ((0, 0, ()), false, (0, 0, 0, 0, ()), [], 0, ()), ()))).2.1.2.1, ((getR dR_r12_At (res_r12_At ((0, x.1, x.2.1, ()), ((0, 0, ()), false, (0, 0, 0, 0, ()), [], 0, ()), ()))).2.1.2.2.1.1, (getR dR_r12_At (res_r12_At ((0, x.1, x.2.1, ()), ((0, 0, ()), false, (0, 0, 0, 0, ()), [], 0, ()), ()))).2.1.2.2.1.2.1, (getR dR_r12_At (res_r12_At ((0, x.1, x.2.1, ()), ((0, 0, ()), false, (0, 0, 0, 0, ()), [], 0, ()), ()))).2.1.2.2.1.2.2.1, (getR dR_r12_At (res_r12_At ((0, x.1, x.2.1, ()), ((0, 0, ()), false, (0, 0, 0, 0, ()), [], 0, ()), ()))).2.1.2.2.1.2.2.2.1, ()), (getR dR_r12_At (res_r12_At ((0, x.1, x.2.1, ()), ((0, 0, ()), false, (0, 0, 0, 0, ()), [], 0, ()), ()))).2.1.2.2.2.1, (getR dR_r12_At (res_r12_At ((0, x.1, x.2.1, ()), ((0, 0, ()), false, (0, 0, 0, 0, ()), [], 0, ()), ()))).2.1.2.2.2.2.1, ()), (getR dR_r12_At (res_r12_At ((0, x.1, x.2.1, ()), ((0, 0, ()), false, (0, 0, 0, 0, ()), [], 0, ()), ()))).1.1, ()))))
theorem ff_r12_At_ok : SoundCt Tryz.prog 41 ⟨[.d slsT, .d i64], [sliceT, .bool], fun xs => (ff_r12_At xs).get, fun xs => [(ff_r12_At xs).ok]⟩ :=
 fn_sound CHA_ok (Λ := (fun _ => Λ_r12_At CHA.Γ)) (fn := Tryz.f41) (dfP [.d slsT, .d i64]) (by kernel_rfl) (fun c E hc => lam1f hc (by kernel_rfl) (b := loopF Tryz.f41 0) (by kernel_rfl) (Does.han CHA_ok rfl loop_r12_At)) (fun x => by kernel_rfl)
def ff_r12_Right (x : denP [.d histT]) : Fr (denL [.bool]) :=
 Fr.br (bif !(cTerms.f (((x.1.2.2.1.1.1, x.1.2.2.1.1.2.1, ()), (x.1.2.2.1.2.1.1, x.1.2.2.1.2.1.2.1, x.1.2.2.1.2.1.2.2.1, x.1.2.2.1.2.1.2.2.2.1, ()), x.1.2.2.1.2.2.1, ()), ())).1 then true else decide (((List.length x.1.2.2.2.1) : Int) > 2000)) (Fr.val (false, ())) (Fr.need (InL (good_r12_Right ((0, ()), (x.1.1, x.1.2.1, ((x.1.2.2.1.1.1, x.1.2.2.1.1.2.1, ()), (x.1.2.2.1.2.1.1, x.1.2.2.1.2.1.2.1, x.1.2.2.1.2.1.2.2.1, x.1.2.2.1.2.1.2.2.2.1, ()), x.1.2.2.1.2.2.1, ()), x.1.2.2.2.1, ()), ())) (un_r12_Right ((0, ()), (x.1.1, x.1.2.1, ((x.1.2.2.1.1.1, x.1.2.2.1.1.2.1, ()), (x.1.2.2.1.2.1.1, x.1.2.2.1.2.1.2.1, x.1.2.2.1.2.1.2.2.1, x.1.2.2.1.2.1.2.2.2.1, ()), x.1.2.2.1.2.2.1, ()), x.1.2.2.2.1, ()), ()))) (Fr.need (okr_r12_Right ((0, ()), (x.1.1, x.1.2.1, ((x.1.2.2.1.1.1, x.1.2.2.1.1.2.1, ()), (x.1.2.2.1.2.1.1, x.1.2.2.1.2.1.2.1, x.1.2.2.1.2.1.2.2.1, x.1.2.2.1.2.1.2.2.2.1, ()), x.1.2.2.1.2.2.1, ()), x.1.2.2.2.1, ()), ())) (Fr.br (isL (res_r12_Right ((0, ()), (x.1.1, x.1.2.1, ((x.1.2.2.1.1.1, x.1.2.2.1.1.2.1, ()), (x.1.2.2.1.2.1.1, x.1.2.2.1.2.1.2.1, x.1.2.2.1.2.1.2.2.1, x.1.2.2.1.2.1.2.2.2.1, ()), x.1.2.2.1.2.2.1, ()), x.1.2.2.2.1, ()), ()))) (Fr.val (true, ())) (Fr.val ((getR dR_r12_Right (res_r12_Right ((0, ()), (x.1.1, x.1.2.1, ((x.1.2.2.1.1.1, x.1.2.2.1.1.2.1, ()), (x.1.2.2.1.2.1.1, x.1.2.2.1.2.1.2.1, x.1.2.2.1.2.1.2.2.1, x.1.2.2.1.2.1.2.2.2.1, ()), x.1.2.2.1.2.2.1, ()), x.1.2.2.2.1, ()), ()))).1.1, ())))))
theorem ff_r12_Right_ok : SoundCt Tryz.prog 77 ⟨[.d histT], [.bool], fun xs => (ff_r12_Right xs).get, fun xs => [(ff_r12_Right xs).ok]⟩ :=
 fn_sound CHA_ok (Λ := (fun _ => Λ_r12_Right CHA.Γ)) (fn := Tryz.f77) (dfP [.d histT]) (by kernel_rfl) (fun c E hc => lam1f hc (by kernel_rfl) (b := loopF Tryz.f77 0) (by kernel_rfl) (Does.han CHA_ok rfl loop_r12_Right)) (fun x => by kernel_rfl)
def noSlice : sliceT.den := ((0, 0, ()), false, (0, 0, 0, 0, ()), [], 0, ())
def atS : List sliceT.den -> Int -> sliceT.den × Bool
 | [], _ => (noSlice, false)
 | s :: r, d => if inB s.1.1 s.1.2.1 d = true then (s, true) else atS r d
def cAt : Ct := ⟨[.d slsT, .d i64], [sliceT, .bool], fun x => ((atS x.1 x.2.1).1, (atS x.1 x.2.1).2, ()), fun _ => []⟩
theorem atS_none : (l : List sliceT.den) -> (d : Int) -> (atS l d).2 = false -> (atS l d).1 = noSlice
 | [], _, _ => rfl
 | s :: r, d, h => by
  unfold atS at h ⊢
  by_cases hi : inB s.1.1 s.1.2.1 d = true
  ·rw [if_pos hi] at h
   cases h
  ·rw [if_neg hi] at h ⊢
   exact atS_none r d h
theorem at_go (l : List sliceT.den) (d : Int) (m : sliceT.den) : goL step_slices_At l ((d, ()), (m, ())) = if (atS l d).2 = true then .inr ((true, ()), ((atS l d).1, ())) else .inl ((d, ()), (m, ())) := by
 induction l with
 | nil => rfl
 | cons e r ih =>
  by_cases h : inB e.1.1 e.1.2.1 d = true
  ·have hg : (step_slices_At e ((d, ()), (m, ()))).get = .inr ((true, ()), (e, ())) := if_pos h
   simp only [goL, hg, atS, if_pos h, if_true]
  ·have hg : (step_slices_At e ((d, ()), (m, ()))).get = .inl ((d, ()), (m, ())) := if_neg h
   simp only [goL, hg, atS, if_neg h]
   exact ih
theorem at12_go (l : List sliceT.den) (d : Int) (m : sliceT.den) : goL step_r12_At l ((d, ()), (m, ())) = if (atS l d).2 = true then .inr ((true, ()), ((atS l d).1, ())) else .inl ((d, ()), (m, ())) := by
 induction l with
 | nil => rfl
 | cons e r ih =>
  by_cases h : inB e.1.1 e.1.2.1 d = true
  ·have hg : (step_r12_At e ((d, ()), (m, ()))).get = .inr ((true, ()), (e, ())) := if_pos h
   simp only [goL, hg, atS, if_pos h, if_true]
  ·have hg : (step_r12_At e ((d, ()), (m, ()))).get = .inl ((d, ()), (m, ())) := if_neg h
   simp only [goL, hg, atS, if_neg h]
   exact ih
theorem at_fin (l : List sliceT.den) (d : Int) {σ : Type} {a b : σ} {dr : denP [.d .bool] × sliceT.den × Unit} :
  (if isL (if (atS l d).2 = true then (.inr ((true, ()), ((atS l d).1, ())) : σ ⊕ (denP [.d .bool] × sliceT.den × Unit)) else .inl a) = true then ((noSlice, false, ()) : sliceT.den × Bool × Unit)
   else ((getR dr (if (atS l d).2 = true then (.inr ((true, ()), ((atS l d).1, ())) : σ ⊕ (denP [.d .bool] × sliceT.den × Unit)) else .inl a)).2.1, (getR dr (if (atS l d).2 = true then (.inr ((true, ()), ((atS l d).1, ())) : σ ⊕ (denP [.d .bool] × sliceT.den × Unit)) else .inl a)).1.1, ())) = ((atS l d).1, (atS l d).2, ()) := by
 cases h : (atS l d).2 with
 | true => rfl
 | false =>
  rw [atS_none l d h]
  rfl
theorem slices_At_ok : SoundCt Tryz.prog 37 cAt :=
 conv ff_slices_At_ok _ _ (fun w F x vs hr _ => by
  obtain ⟨l, d, _⟩ := x
  obtain ⟨v, vs', rfl, hv, _⟩ := hr
  have hlen : (l.length : Int) <= 9223372036854775807 := wf_len hv
  refine ⟨⟨⟨rfl, Int.le_refl _, Int.natCast_nonneg _, hlen⟩, okL_of (step := step_slices_At) (fun e s => ⟨fun _ => trivial, fun _ => trivial⟩) _ _, fun _ => trivial, fun _ => trivial⟩, ?_⟩
  have hres : res_slices_At ((0, (l.length : Int), l, d, ()), (noSlice, ())) = _ := at_go l d noSlice
  show (if isL (res_slices_At ((0, (l.length : Int), l, d, ()), (noSlice, ()))) = true then ((noSlice, false, ()) : sliceT.den × Bool × Unit) else ((getR dR_slices_At (res_slices_At ((0, (l.length : Int), l, d, ()), (noSlice, ())))).2.1, (getR dR_slices_At (res_slices_At ((0, (l.length : Int), l, d, ()), (noSlice, ())))).1.1, ())) = ((atS l d).1, (atS l d).2, ())
  rw [hres]
  exact at_fin l d (b := ((d, ()), (noSlice, ()))))
theorem r12_At_ok : SoundCt Tryz.prog 41 cAt :=
 conv ff_r12_At_ok _ _ (fun w F x vs hr _ => by
  obtain ⟨l, d, _⟩ := x
  obtain ⟨v, vs', rfl, hv, _⟩ := hr
  have hlen : (l.length : Int) <= 9223372036854775807 := wf_len hv
  refine ⟨⟨⟨trivial, Int.le_refl _, Int.natCast_nonneg _, hlen⟩, okL_of (step := step_r12_At) (fun e s => ⟨fun _ => trivial, fun _ => trivial⟩) _ _, fun _ => trivial, fun _ => trivial⟩, ?_⟩
  have hres : res_r12_At ((0, l, d, ()), (noSlice, ())) = _ := at12_go l d noSlice
  show (if isL (res_r12_At ((0, l, d, ()), (noSlice, ()))) = true then ((noSlice, false, ()) : sliceT.den × Bool × Unit) else ((getR dR_r12_At (res_r12_At ((0, l, d, ()), (noSlice, ())))).2.1, (getR dR_r12_At (res_r12_At ((0, l, d, ()), (noSlice, ())))).1.1, ())) = ((atS l d).1, (atS l d).2, ())
  rw [hres]
  exact at_fin l d (b := ((d, ()), (noSlice, ()))))
def histB (h : histT.den) : Bool := (termsB h.2.2.1 && decide (h.2.2.2.1.length <= 2000)) && h.2.2.2.1.all fun c => changeB c && inB h.2.2.1.1.1 h.2.2.1.1.2.1 c.2.1
def cHist : Ct := ⟨[.d histT], [.bool], fun x => (histB x.1, ()), fun _ => []⟩
theorem h12_step (e : changeT.den) (s : st_r12_Right) : (step_r12_Right e s).get = if (changeB e && inB s.2.1.2.2.1.1.1 s.2.1.2.2.1.1.2.1 e.2.1) = true then .inl s else .inr ((false, ()), ()) := by
 show (if (bif !(changeB e) then true else !(inB s.2.1.2.2.1.1.1 s.2.1.2.2.1.1.2.1 e.2.1)) = true then _ else _) = _
 cases changeB e <;> cases inB s.2.1.2.2.1.1.1 s.2.1.2.2.1.1.2.1 e.2.1 <;> rfl
theorem allF_keep2 {T σ : Type} (p : T -> σ -> Bool) (l : List T) (s : σ) : allF p (fun _ s => s) l s = l.all fun e => p e s := by
 induction l with
 | nil => rfl
 | cons e r ih => simp only [allF, List.all_cons]; rw [ih]
theorem len_h (n : Nat) : decide ((n : Int) > 2000) = !decide (n <= 2000) := by
 rw [Bool.eq_iff_iff]
 simp only [Bool.not_eq_true', decide_eq_true_eq, decide_eq_false_iff_not]
 omega
theorem r12_Right_ok : SoundCt Tryz.prog 77 cHist :=
 conv ff_r12_Right_ok _ _ (fun w F x vs hr _ => by
  obtain ⟨h, _⟩ := x
  obtain ⟨v, vs', rfl, hv, _⟩ := hr
  have hwf := RepT.wf hv.2.2
  have hlen : (h.2.2.2.1.length : Int) <= 9223372036854775807 := len_big hwf.2.2.2.1.1
  refine ⟨⟨fun _ => trivial, fun _ => ⟨⟨trivial, Int.le_refl _, Int.natCast_nonneg _, hlen⟩, okL_of (step := step_r12_Right) (fun e s => ⟨fun _ => trivial, fun _ => trivial⟩) _ _, fun _ => trivial, fun _ => trivial⟩⟩, ?_⟩
  have hres := bool_loop (f := fun _ s => s) h12_step h.2.2.2.1 ((), (h, ()))
  rw [allF_keep2] at hres
  have hres' : res_r12_Right ((0, ()), (h, ())) = if (h.2.2.2.1.all fun c => changeB c && inB h.2.2.1.1.1 h.2.2.1.1.2.1 c.2.1) = true then .inl _ else .inr _ := hres
  show (if (bif !(termsB h.2.2.1) then true else decide ((h.2.2.2.1.length : Int) > 2000)) = true then ((false, ()) : Bool × Unit) else if isL (res_r12_Right ((0, ()), (h, ()))) = true then (true, ()) else ((getR dR_r12_Right (res_r12_Right ((0, ()), (h, ())))).1.1, ())) = (histB h, ())
  rw [hres', len_h]
  unfold histB
  cases termsB h.2.2.1 <;> cases decide (h.2.2.2.1.length <= 2000) <;> cases (h.2.2.2.1.all fun c => changeB c && inB h.2.2.1.1.1 h.2.2.1.1.2.1 c.2.1) <;> rfl)
noncomputable def CHB0 : Cx := cx [] []
theorem CHB0_ok : CxOK Tryz.prog CHB0 := cx_ok (cs := []) (ps := []) mixed trivial trivial
abbrev pt_r12_Few : Pt := ⟨68, 0, ⟨[(5, .d i64)], [.x 2 31 histT, .r 2 2 0, .x 3 34 tarT, .r 3 3 0]⟩, ⟨[], [.x 3 34 tarT, .r 3 3 0]⟩, ⟨[(4, .d .bool)], []⟩⟩
def fr_r12_Few (x : pt_r12_Few.M.X) : Fr pt_r12_Few.Out :=
 Fr.br (decide (x.1.1 < ((List.length x.2.1.2.2.2.1) : Int))) (Fr.need (0 <= x.1.1 /\ x.1.1 < ((List.length x.2.1.2.2.2.1) : Int)) (Fr.br (decide (((List.length (List.getD x.2.1.2.2.2.1 (Int.toNat x.1.1) changeT.dflt).2.2.2.2.1) : Int) > 50)) (Fr.val (Rd.back ((false, ()), ()))) (Fr.val (Rd.next ((IntKind.i64.wrap (x.1.1 + 1), ()), (x.2.1.1, x.2.1.2.1, ((x.2.1.2.2.1.1.1, x.2.1.2.2.1.1.2.1, ()), (x.2.1.2.2.1.2.1.1, x.2.1.2.2.1.2.1.2.1, x.2.1.2.2.1.2.1.2.2.1, x.2.1.2.2.1.2.1.2.2.2.1, ()), x.2.1.2.2.1.2.2.1, ()), x.2.1.2.2.2.1, ()), (x.2.2.1.1, ()), ()))))) (Fr.val (Rd.out ((), (x.2.2.1.1, ()), ())))
theorem sem_r12_Few : Does Tryz.prog (loopF Tryz.f10 0) pt_r12_Few.M pt_r12_Few fr_r12_Few :=
 Does.of_run CHB0_ok (bs := 0) (Λ := lam0) rfl rfl rfl (fun E => lam0_ok _ 0) (fun x => by kernel_rfl)
abbrev st_r12_Few : Type := denP [] × denM [.x 2 31 histT, .r 2 2 0, .x 3 34 tarT, .r 3 3 0]
def step_r12_Few (e : changeT.den) (s : st_r12_Few) : Fr (st_r12_Few ⊕ pt_r12_Few.R.X) :=
 Fr.br (decide (((List.length e.2.2.2.2.1) : Int) > 50)) (Fr.val (.inr ((false, ()), ()))) (Fr.val (.inl ((), (s.2.1.1, s.2.1.2.1, ((s.2.1.2.2.1.1.1, s.2.1.2.2.1.1.2.1, ()), (s.2.1.2.2.1.2.1.1, s.2.1.2.2.1.2.1.2.1, s.2.1.2.2.1.2.1.2.2.1, s.2.1.2.2.1.2.1.2.2.2.1, ()), s.2.1.2.2.1.2.2.1, ()), s.2.1.2.2.2.1, ()), (s.2.2.1.1, ()), ())))
def un_r12_Few (x : pt_r12_Few.M.X) : Int × List changeT.den × st_r12_Few := (x.1.1, x.2.1.2.2.2.1, x.1.2, x.2)
def good_r12_Few (x : pt_r12_Few.M.X) : Prop := True
def out_r12_Few (s : st_r12_Few) : pt_r12_Few.E.X := ((), (s.2.2.1.1, ()), ())
def dS_r12_Few : st_r12_Few := (dfP _, dfM _)
def dR_r12_Few : pt_r12_Few.R.X := (dfP _, dfM _)
theorem loop_r12_Few : Does Tryz.prog (.loop (loopF Tryz.f10 0)) pt_r12_Few.M pt_r12_Few (FL step_r12_Few un_r12_Few good_r12_Few out_r12_Few Rd.back dS_r12_Few dR_r12_Few) := by
 refine Does.list sem_r12_Few step_r12_Few un_r12_Few good_r12_Few out_r12_Few Rd.back dS_r12_Few dR_r12_Few ?_ ?_
 ·rintro ⟨⟨i, s⟩, m⟩ hg h0 h1 hb e he Q h
  have h0 : 0 <= i := h0
  have h1 : i < (m.1.2.2.2.1.length : Int) := h1
  have hb : (m.1.2.2.2.1.length : Int) <= 9223372036854775807 := hb
  have hd : m.1.2.2.2.1.getD i.toNat changeT.dflt = e := getD_of he
  have hw := wrap_next h0 h1 hb
  dsimp only [un_r12_Few, step_r12_Few, fr_r12_Few, Fr.satP] at h ⊢
  simp only [hd, hw] at h ⊢
  refine ⟨fun _ => ?_, fun hn => absurd h1 (of_decide_eq_false hn)⟩
  repeat' first
   | exact h
   | exact ⟨h0, h1⟩
   | exact fun _ => ⟨h0, h1⟩
   | exact h _ rfl trivial
   | refine ⟨?_, ?_⟩
   | (intro (hc : _ = true); replace h := h.1 hc)
   | (intro (hc : _ = false); replace h := h.2 hc)
 ·rintro ⟨⟨i, s⟩, m⟩ hg h1 Q h
  exact ⟨fun hn => absurd (of_decide_eq_true hn) h1, fun _ => h⟩
def Λ_r12_Few (Γ : FuncId -> Option Ct) : St -> Option Tr := pt_r12_Few.han Γ pt_r12_Few.M (FL step_r12_Few un_r12_Few good_r12_Few out_r12_Few Rd.back dS_r12_Few dR_r12_Few)
def res_r12_Few (y : pt_r12_Few.M.X) : st_r12_Few ⊕ pt_r12_Few.R.X := goL step_r12_Few ((un_r12_Few y).2.1.drop (un_r12_Few y).1.toNat) (un_r12_Few y).2.2
def okr_r12_Few (y : pt_r12_Few.M.X) : Prop := okL step_r12_Few ((un_r12_Few y).2.1.drop (un_r12_Few y).1.toNat) (un_r12_Few y).2.2
abbrev pt_r12_Few1 : Pt := ⟨68, 2, ⟨[(6, .d i64)], [.x 3 34 tarT, .r 3 3 0]⟩, ⟨[], []⟩, ⟨[(4, .d .bool)], []⟩⟩
def fr_r12_Few1 (x : pt_r12_Few1.M.X) : Fr pt_r12_Few1.Out :=
 Fr.br (decide (x.1.1 < ((List.length x.2.1.1) : Int))) (Fr.need (0 <= x.1.1 /\ x.1.1 < ((List.length x.2.1.1) : Int)) (Fr.br (bif bif decide (((List.length (List.getD x.2.1.1 (Int.toNat x.1.1) verT.dflt).2.2.1) : Int) > 200) then true else decide (((List.length (List.getD x.2.1.1 (Int.toNat x.1.1) verT.dflt).2.2.2.1) : Int) > 200) then true else decide (((List.length (List.getD x.2.1.1 (Int.toNat x.1.1) verT.dflt).2.2.2.2.1) : Int) > 200)) (Fr.val (Rd.back ((false, ()), ()))) (Fr.val (Rd.next ((IntKind.i64.wrap (x.1.1 + 1), ()), (x.2.1.1, ()), ()))))) (Fr.val (Rd.out ((), ())))
theorem sem_r12_Few1 : Does Tryz.prog (loopF Tryz.f10 1) pt_r12_Few1.M pt_r12_Few1 fr_r12_Few1 :=
 Does.of_run CHB0_ok (bs := 0) (Λ := lam0) rfl rfl rfl (fun E => lam0_ok _ 0) (fun x => by kernel_rfl)
abbrev st_r12_Few1 : Type := denP [] × denM [.x 3 34 tarT, .r 3 3 0]
def step_r12_Few1 (e : verT.den) (s : st_r12_Few1) : Fr (st_r12_Few1 ⊕ pt_r12_Few1.R.X) :=
 Fr.br (bif bif decide (((List.length e.2.2.1) : Int) > 200) then true else decide (((List.length e.2.2.2.1) : Int) > 200) then true else decide (((List.length e.2.2.2.2.1) : Int) > 200)) (Fr.val (.inr ((false, ()), ()))) (Fr.val (.inl ((), (s.2.1.1, ()), ())))
def un_r12_Few1 (x : pt_r12_Few1.M.X) : Int × List verT.den × st_r12_Few1 := (x.1.1, x.2.1.1, x.1.2, x.2)
def good_r12_Few1 (x : pt_r12_Few1.M.X) : Prop := True
def out_r12_Few1 (s : st_r12_Few1) : pt_r12_Few1.E.X := ((), ())
def dS_r12_Few1 : st_r12_Few1 := (dfP _, dfM _)
def dR_r12_Few1 : pt_r12_Few1.R.X := (dfP _, dfM _)
theorem loop_r12_Few1 : Does Tryz.prog (.loop (loopF Tryz.f10 1)) pt_r12_Few1.M pt_r12_Few1 (FL step_r12_Few1 un_r12_Few1 good_r12_Few1 out_r12_Few1 Rd.back dS_r12_Few1 dR_r12_Few1) := by
 refine Does.list sem_r12_Few1 step_r12_Few1 un_r12_Few1 good_r12_Few1 out_r12_Few1 Rd.back dS_r12_Few1 dR_r12_Few1 ?_ ?_
 ·rintro ⟨⟨i, s⟩, m⟩ hg h0 h1 hb e he Q h
  have h0 : 0 <= i := h0
  have h1 : i < (m.1.1.length : Int) := h1
  have hb : (m.1.1.length : Int) <= 9223372036854775807 := hb
  have hd : m.1.1.getD i.toNat verT.dflt = e := getD_of he
  have hw := wrap_next h0 h1 hb
  dsimp only [un_r12_Few1, step_r12_Few1, fr_r12_Few1, Fr.satP] at h ⊢
  simp only [hd, hw] at h ⊢
  refine ⟨fun _ => ?_, fun hn => absurd h1 (of_decide_eq_false hn)⟩
  repeat' first
   | exact h
   | exact ⟨h0, h1⟩
   | exact fun _ => ⟨h0, h1⟩
   | exact h _ rfl trivial
   | refine ⟨?_, ?_⟩
   | (intro (hc : _ = true); replace h := h.1 hc)
   | (intro (hc : _ = false); replace h := h.2 hc)
 ·rintro ⟨⟨i, s⟩, m⟩ hg h1 Q h
  exact ⟨fun hn => absurd (of_decide_eq_true hn) h1, fun _ => h⟩
def Λ_r12_Few1 (Γ : FuncId -> Option Ct) : St -> Option Tr := pt_r12_Few1.han Γ pt_r12_Few1.M (FL step_r12_Few1 un_r12_Few1 good_r12_Few1 out_r12_Few1 Rd.back dS_r12_Few1 dR_r12_Few1)
def res_r12_Few1 (y : pt_r12_Few1.M.X) : st_r12_Few1 ⊕ pt_r12_Few1.R.X := goL step_r12_Few1 ((un_r12_Few1 y).2.1.drop (un_r12_Few1 y).1.toNat) (un_r12_Few1 y).2.2
def okr_r12_Few1 (y : pt_r12_Few1.M.X) : Prop := okL step_r12_Few1 ((un_r12_Few1 y).2.1.drop (un_r12_Few1 y).1.toNat) (un_r12_Few1 y).2.2
def ff_r12_Few (x : denP [.d histT, .d tarT]) : Fr (denL [.bool]) :=
 Fr.br (bif bif decide (((List.length x.1.2.2.2.1) : Int) > 60) then true else decide (((List.length x.2.1.1) : Int) > 100) then true else decide (((List.length x.1.2.2.1.2.2.1) : Int) > 50)) (Fr.val (false, ())) (Fr.need (InL (good_r12_Few ((0, ()), (x.1.1, x.1.2.1, ((x.1.2.2.1.1.1, x.1.2.2.1.1.2.1, ()), (x.1.2.2.1.2.1.1, x.1.2.2.1.2.1.2.1, x.1.2.2.1.2.1.2.2.1, x.1.2.2.1.2.1.2.2.2.1, ()), x.1.2.2.1.2.2.1, ()), x.1.2.2.2.1, ()), (x.2.1.1, ()), ())) (un_r12_Few ((0, ()), (x.1.1, x.1.2.1, ((x.1.2.2.1.1.1, x.1.2.2.1.1.2.1, ()), (x.1.2.2.1.2.1.1, x.1.2.2.1.2.1.2.1, x.1.2.2.1.2.1.2.2.1, x.1.2.2.1.2.1.2.2.2.1, ()), x.1.2.2.1.2.2.1, ()), x.1.2.2.2.1, ()), (x.2.1.1, ()), ()))) (Fr.need (okr_r12_Few ((0, ()), (x.1.1, x.1.2.1, ((x.1.2.2.1.1.1, x.1.2.2.1.1.2.1, ()), (x.1.2.2.1.2.1.1, x.1.2.2.1.2.1.2.1, x.1.2.2.1.2.1.2.2.1, x.1.2.2.1.2.1.2.2.2.1, ()), x.1.2.2.1.2.2.1, ()), x.1.2.2.2.1, ()), (x.2.1.1, ()), ())) (Fr.br (isL (res_r12_Few ((0, ()), (x.1.1, x.1.2.1, ((x.1.2.2.1.1.1, x.1.2.2.1.1.2.1, ()), (x.1.2.2.1.2.1.1, x.1.2.2.1.2.1.2.1, x.1.2.2.1.2.1.2.2.1, x.1.2.2.1.2.1.2.2.2.1, ()), x.1.2.2.1.2.2.1, ()), x.1.2.2.2.1, ()), (x.2.1.1, ()), ()))) (Fr.need (InL (good_r12_Few1 ((0, ()), ((out_r12_Few (getL dS_r12_Few (res_r12_Few ((0, ()), (x.1.1, x.1.2.1, ((x.1.2.2.1.1.1, x.1.2.2.1.1.2.1, ()), (x.1.2.2.1.2.1.1, x.1.2.2.1.2.1.2.1, x.1.2.2.1.2.1.2.2.1, x.1.2.2.1.2.1.2.2.2.1, ()), x.1.2.2.1.2.2.1, ()), x.1.2.2.2.1, ()), (x.2.1.1, ()), ())))).2.1.1, ()), ())) (un_r12_Few1 ((0, ()), ((out_r12_Few (getL dS_r12_Few (res_r12_Few ((0, ()), (x.1.1, x.1.2.1, ((x.1.2.2.1.1.1, x.1.2.2.1.1.2.1, ()), (x.1.2.2.1.2.1.1, x.1.2.2.1.2.1.2.1, x.1.2.2.1.2.1.2.2.1, x.1.2.2.1.2.1.2.2.2.1, ()), x.1.2.2.1.2.2.1, ()), x.1.2.2.2.1, ()), (x.2.1.1, ()), ())))).2.1.1, ()), ()))) (Fr.need (okr_r12_Few1 ((0, ()), ((out_r12_Few (getL dS_r12_Few (res_r12_Few ((0, ()), (x.1.1, x.1.2.1, ((x.1.2.2.1.1.1, x.1.2.2.1.1.2.1, ()), (x.1.2.2.1.2.1.1, x.1.2.2.1.2.1.2.1, x.1.2.2.1.2.1.2.2.1, x.1.2.2.1.2.1.2.2.2.1, ()), x.1.2.2.1.2.2.1, ()), x.1.2.2.2.1, ()), (x.2.1.1, ()), ())))).2.1.1, ()), ())) (Fr.br (isL (res_r12_Few1 ((0, ()), ((out_r12_Few (getL dS_r12_Few (goL step_r12_Few (List.drop (un_r12_Few ((0, ()), (x.1.1, x.1.2.1, ((x.1.2.2.1.1.1, x.1.2.2.1.1.2.1, ()), (x.1.2.2.1.2.1.1, x.1.2.2.1.2.1.2.1, x.1.2.2.1.2.1.2.2.1, x.1.2.2.1.2.1.2.2.2.1, ()), x.1.2.2.1.2.2.1, ()), x.1.2.2.2.1, ()), (x.2.1.1, ()), ())).1.toNat (un_r12_Few ((0, ()), (x.1.1, x.1.2.1, ((x.1.2.2.1.1.1, x.1.2.2.1.1.2.1, ()), (x.1.2.2.1.2.1.1, x.1.2.2.1.2.1.2.1, x.1.2.2.1.2.1.2.2.1, x.1.2.2.1.2.1.2.2.2.1, ()), x.1.2.2.1.2.2.1, ()), x.1.2.2.2.1, ()), (x.2.1.1, ()), ())).2.1) (un_r12_Few ((0, ()), (x.1.1, x.1.2.1, ((x.1.2.2.1.1.1, x.1.2.2.1.1.2.1, ()), (x.1.2.2.1.2.1.1, x.1.2.2.1.2.1.2.1, x.1.2.2.1.2.1.2.2.1, x.1.2.2.1.2.1.2.2.2.1, ()), x.1.2.2.1.2.2.1, ()), x.1.2.2.2.1, ()), (x.2.1.1, ()), ())).2.2))).2.1.1, ()), ()))) (Fr.val (true, ())) (Fr.val ((getR dR_r12_Few1 (res_r12_Few1 ((0, ()), ((out_r12_Few (getL dS_r12_Few (goL step_r12_Few (List.drop (un_r12_Few ((0, ()), (x.1.1, x.1.2.1, ((x.1.2.2.1.1.1, x.1.2.2.1.1.2.1, ()), (x.1.2.2.1.2.1.1, x.1.2.2.1.2.1.2.1, x.1.2.2.1.2.1.2.2.1, x.1.2.2.1.2.1.2.2.2.1, ()), x.1.2.2.1.2.2.1, ()), x.1.2.2.2.1, ()), (x.2.1.1, ()), ())).1.toNat (un_r12_Few ((0, ()), (x.1.1, x.1.2.1, ((x.1.2.2.1.1.1, x.1.2.2.1.1.2.1, ()), (x.1.2.2.1.2.1.1, x.1.2.2.1.2.1.2.1, x.1.2.2.1.2.1.2.2.1, x.1.2.2.1.2.1.2.2.2.1, ()), x.1.2.2.1.2.2.1, ()), x.1.2.2.2.1, ()), (x.2.1.1, ()), ())).2.1) (un_r12_Few ((0, ()), (x.1.1, x.1.2.1, ((x.1.2.2.1.1.1, x.1.2.2.1.1.2.1, ()), (x.1.2.2.1.2.1.1, x.1.2.2.1.2.1.2.1, x.1.2.2.1.2.1.2.2.1, x.1.2.2.1.2.1.2.2.2.1, ()), x.1.2.2.1.2.2.1, ()), x.1.2.2.2.1, ()), (x.2.1.1, ()), ())).2.2))).2.1.1, ()), ()))).1.1, ()))))) (Fr.val ((getR dR_r12_Few (res_r12_Few ((0, ()), (x.1.1, x.1.2.1, ((x.1.2.2.1.1.1, x.1.2.2.1.1.2.1, ()), (x.1.2.2.1.2.1.1, x.1.2.2.1.2.1.2.1, x.1.2.2.1.2.1.2.2.1, x.1.2.2.1.2.1.2.2.2.1, ()), x.1.2.2.1.2.2.1, ()), x.1.2.2.2.1, ()), (x.2.1.1, ()), ()))).1.1, ())))))
theorem ff_r12_Few_ok : SoundCt Tryz.prog 10 ⟨[.d histT, .d tarT], [.bool], fun xs => (ff_r12_Few xs).get, fun xs => [(ff_r12_Few xs).ok]⟩ :=
 fn_sound CHB0_ok (Λ := (fun k => if k = 0 then Λ_r12_Few CHB0.Γ else Λ_r12_Few1 CHB0.Γ)) (fn := Tryz.f10) (dfP [.d histT, .d tarT]) (by kernel_rfl) (fun c E hc => lam2f hc (by kernel_rfl) (b0 := loopF Tryz.f10 0) (b1 := loopF Tryz.f10 1) (by kernel_rfl) (by kernel_rfl) (Does.han CHB0_ok rfl loop_r12_Few) (Does.han CHB0_ok rfl loop_r12_Few1)) (fun x => by kernel_rfl)
def fewC (c : changeT.den) : Bool := decide (c.2.2.2.2.1.length <= 50)
def fewV (v : verT.den) : Bool := decide (v.2.2.1.length <= 200) && (decide (v.2.2.2.1.length <= 200) && decide (v.2.2.2.2.1.length <= 200))
def fewB (h : histT.den) (t : tarT.den) : Bool := (decide (h.2.2.2.1.length <= 60) && (decide (t.1.length <= 100) && decide (h.2.2.1.2.2.1.length <= 50))) && (h.2.2.2.1.all fewC && t.1.all fewV)
def cFew : Ct := ⟨[.d histT, .d tarT], [.bool], fun x => (fewB x.1 x.2.1, ()), fun _ => []⟩
theorem gt_b (n : Nat) (k : Nat) : decide ((n : Int) > (k : Int)) = !decide (n <= k) := by
 rw [Bool.eq_iff_iff]
 simp only [Bool.not_eq_true', decide_eq_true_eq, decide_eq_false_iff_not]
 omega
theorem fc_step (e : changeT.den) (s : st_r12_Few) : (step_r12_Few e s).get = if fewC e = true then .inl s else .inr ((false, ()), ()) := by
 show (if decide ((e.2.2.2.2.1.length : Int) > (50 : Nat)) = true then _ else _) = _
 rw [gt_b]
 unfold fewC
 cases decide (e.2.2.2.2.1.length <= 50) <;> rfl
theorem fv_step (e : verT.den) (s : st_r12_Few1) : (step_r12_Few1 e s).get = if fewV e = true then .inl s else .inr ((false, ()), ()) := by
 show (if (bif bif decide ((e.2.2.1.length : Int) > (200 : Nat)) then true else decide ((e.2.2.2.1.length : Int) > (200 : Nat)) then true else decide ((e.2.2.2.2.1.length : Int) > (200 : Nat))) = true then _ else _) = _
 rw [gt_b, gt_b, gt_b]
 unfold fewV
 cases decide (e.2.2.1.length <= 200) <;> cases decide (e.2.2.2.1.length <= 200) <;> cases decide (e.2.2.2.2.1.length <= 200) <;> rfl
theorem endF_keep {T σ : Type} (l : List T) (s : σ) : endF (fun _ s => s) l s = s := by
 induction l with
 | nil => rfl
 | cons e r ih => exact ih
theorem few_ok : SoundCt Tryz.prog 10 cFew :=
 conv ff_r12_Few_ok _ _ (fun w F x vs hr _ => by
  obtain ⟨h, t, _⟩ := x
  obtain ⟨v, vs', rfl, hv, v2, vs2, rfl, hv2, _⟩ := hr
  have hwf := RepT.wf hv.2.2
  have hwf2 := RepT.wf hv2.2.2
  have hlen : (h.2.2.2.1.length : Int) <= 9223372036854775807 := len_big hwf.2.2.2.1.1
  have hlen2 : (t.1.length : Int) <= 9223372036854775807 := len_big hwf2.1.1
  have hres := bool_loop (p := fun e _ => fewC e) (f := fun _ s => s) fc_step h.2.2.2.1 ((), (h, (t, ())))
  rw [allF_keep, endF_keep] at hres
  have hres' : res_r12_Few ((0, ()), (h, (t, ()))) = if h.2.2.2.1.all fewC = true then .inl ((), (h, (t, ()))) else .inr ((false, ()), ()) := hres
  have hres2 := bool_loop (p := fun e _ => fewV e) (f := fun _ s => s) fv_step t.1 ((), (t, ()))
  rw [allF_keep, endF_keep] at hres2
  have hres2' : res_r12_Few1 ((0, ()), (t, ())) = if t.1.all fewV = true then .inl ((), (t, ())) else .inr ((false, ()), ()) := hres2
  have ho : ∀ s, okr_r12_Few s := fun s => okL_of (step := step_r12_Few) (fun e s => ⟨fun _ => trivial, fun _ => trivial⟩) _ _
  have ho1 : ∀ s, okr_r12_Few1 s := fun s => okL_of (step := step_r12_Few1) (fun e s => ⟨fun _ => trivial, fun _ => trivial⟩) _ _
  have hcond : (bif bif decide ((h.2.2.2.1.length : Int) > (60 : Nat)) then true else decide ((t.1.length : Int) > (100 : Nat)) then true else decide ((h.2.2.1.2.2.1.length : Int) > (50 : Nat))) = !(decide (h.2.2.2.1.length <= 60) && (decide (t.1.length <= 100) && decide (h.2.2.1.2.2.1.length <= 50))) := by
   rw [gt_b, gt_b, gt_b]
   cases decide (h.2.2.2.1.length <= 60) <;> cases decide (t.1.length <= 100) <;> cases decide (h.2.2.1.2.2.1.length <= 50) <;> rfl
  have hin2 : isL (res_r12_Few ((0, ()), (h, (t, ())))) = true -> (out_r12_Few (getL dS_r12_Few (res_r12_Few ((0, ()), (h, (t, ())))))).2.1 = t := by
   rw [hres']
   cases h.2.2.2.1.all fewC with
   | true => exact fun _ => rfl
   | false => exact fun hh => (by cases hh)
  have hlen3 : isL (res_r12_Few ((0, ()), (h, (t, ())))) = true -> (((out_r12_Few (getL dS_r12_Few (res_r12_Few ((0, ()), (h, (t, ())))))).2.1.1.length : Int)) <= 9223372036854775807 := fun hh => by
   rw [hin2 hh]
   exact hlen2
  refine ⟨⟨fun _ => trivial, fun _ => ⟨⟨trivial, Int.le_refl _, Int.natCast_nonneg _, hlen⟩, ho _, fun hh => ⟨⟨trivial, Int.le_refl _, Int.natCast_nonneg _, hlen3 hh⟩, ho1 _, fun _ => trivial, fun _ => trivial⟩, fun _ => trivial⟩⟩, ?_⟩
  show (if (bif bif decide ((h.2.2.2.1.length : Int) > (60 : Nat)) then true else decide ((t.1.length : Int) > (100 : Nat)) then true else decide ((h.2.2.1.2.2.1.length : Int) > (50 : Nat))) = true then ((false, ()) : Bool × Unit) else
   if isL (res_r12_Few ((0, ()), (h, (t, ())))) = true then (if isL (res_r12_Few1 ((0, ()), ((out_r12_Few (getL dS_r12_Few (res_r12_Few ((0, ()), (h, (t, ())))))).2.1, ()))) = true then (true, ()) else ((getR dR_r12_Few1 (res_r12_Few1 ((0, ()), ((out_r12_Few (getL dS_r12_Few (res_r12_Few ((0, ()), (h, (t, ())))))).2.1, ())))).1.1, ()))
   else ((getR dR_r12_Few (res_r12_Few ((0, ()), (h, (t, ()))))).1.1, ())) = (fewB h t, ())
  rw [hcond]
  unfold fewB
  by_cases hall : h.2.2.2.1.all fewC = true
  ·rw [if_pos hall] at hres'
   rw [hin2 (by rw [hres']; rfl), hres', hres2', hall]
   cases (decide (h.2.2.2.1.length <= 60) && (decide (t.1.length <= 100) && decide (h.2.2.1.2.2.1.length <= 50))) <;> cases t.1.all fewV <;> rfl
  ·have hall' : h.2.2.2.1.all fewC = false := by simpa using hall
   rw [if_neg hall] at hres'
   rw [hres', hall']
   cases (decide (h.2.2.2.1.length <= 60) && (decide (t.1.length <= 100) && decide (h.2.2.1.2.2.1.length <= 50))) <;> rfl)
noncomputable def CHC : Cx := cx [] []
theorem CHC_ok : CxOK Tryz.prog CHC := cx_ok mixed trivial trivial
abbrev pt_r01_Sum : Pt := ⟨26, 0, ⟨[(5, .d i64), (0, .d ints), (4, .d i64)], []⟩, ⟨[(4, .d i64)], []⟩, ⟨[(2, .d i64), (3, .d .bool)], []⟩⟩
def fr_r01_Sum (x : pt_r01_Sum.M.X) : Fr pt_r01_Sum.Out :=
 Fr.br (decide (x.1.1 < ((List.length x.1.2.1) : Int))) (Fr.need (0 <= x.1.1 /\ x.1.1 < ((List.length x.1.2.1) : Int)) (Fr.br (decide (List.getD x.1.2.1 (Int.toNat x.1.1) i64.dflt > IntKind.i64.wrap (4000000000000000000 - x.1.2.2.1))) (Fr.val (Rd.back ((0, false, ()), ()))) (Fr.need (0 <= x.1.1 /\ x.1.1 < ((List.length x.1.2.1) : Int)) (Fr.val (Rd.next ((IntKind.i64.wrap (x.1.1 + 1), x.1.2.1, IntKind.i64.wrap (x.1.2.2.1 + List.getD x.1.2.1 (Int.toNat x.1.1) i64.dflt), ()), ())))))) (Fr.val (Rd.out ((x.1.2.2.1, ()), ())))
theorem sem_r01_Sum : Does Tryz.prog (loopF Tryz.f114 0) pt_r01_Sum.M pt_r01_Sum fr_r01_Sum :=
 Does.of_run CHC_ok (bs := 0) (Λ := lam0) rfl rfl rfl (fun E => lam0_ok _ 0) (fun x => by kernel_rfl)
abbrev st_r01_Sum : Type := denP [.d i64] × denM []
def step_r01_Sum (e : i64.den) (s : st_r01_Sum) : Fr (st_r01_Sum ⊕ pt_r01_Sum.R.X) :=
 Fr.br (decide (e > IntKind.i64.wrap (4000000000000000000 - s.1.1))) (Fr.val (.inr ((0, false, ()), ()))) (Fr.val (.inl ((IntKind.i64.wrap (s.1.1 + e), ()), ())))
def un_r01_Sum (x : pt_r01_Sum.M.X) : Int × List i64.den × st_r01_Sum := (x.1.1, x.1.2.1, x.1.2.2, x.2)
def good_r01_Sum (x : pt_r01_Sum.M.X) : Prop := True
def out_r01_Sum (s : st_r01_Sum) : pt_r01_Sum.E.X := ((s.1.1, ()), ())
def dS_r01_Sum : st_r01_Sum := (dfP _, dfM _)
def dR_r01_Sum : pt_r01_Sum.R.X := (dfP _, dfM _)
theorem loop_r01_Sum : Does Tryz.prog (.loop (loopF Tryz.f114 0)) pt_r01_Sum.M pt_r01_Sum (FL step_r01_Sum un_r01_Sum good_r01_Sum out_r01_Sum Rd.back dS_r01_Sum dR_r01_Sum) := by
 refine Does.list sem_r01_Sum step_r01_Sum un_r01_Sum good_r01_Sum out_r01_Sum Rd.back dS_r01_Sum dR_r01_Sum ?_ ?_
 ·rintro ⟨⟨i, l, s⟩, m⟩ hg h0 h1 hb e he Q h
  have h0 : 0 <= i := h0
  have h1 : i < (l.length : Int) := h1
  have hb : (l.length : Int) <= 9223372036854775807 := hb
  have hd : l.getD i.toNat i64.dflt = e := getD_of he
  have hw := wrap_next h0 h1 hb
  dsimp only [un_r01_Sum, step_r01_Sum, fr_r01_Sum, Fr.satP] at h ⊢
  simp only [hd, hw] at h ⊢
  refine ⟨fun _ => ?_, fun hn => absurd h1 (of_decide_eq_false hn)⟩
  repeat' first
   | exact h
   | exact ⟨h0, h1⟩
   | exact fun _ => ⟨h0, h1⟩
   | exact h _ rfl trivial
   | refine ⟨?_, ?_⟩
   | (intro (hc : _ = true); replace h := h.1 hc)
   | (intro (hc : _ = false); replace h := h.2 hc)
 ·rintro ⟨⟨i, l, s⟩, m⟩ hg h1 Q h
  exact ⟨fun hn => absurd (of_decide_eq_true hn) h1, fun _ => h⟩
def Λ_r01_Sum (Γ : FuncId -> Option Ct) : St -> Option Tr := pt_r01_Sum.han Γ pt_r01_Sum.M (FL step_r01_Sum un_r01_Sum good_r01_Sum out_r01_Sum Rd.back dS_r01_Sum dR_r01_Sum)
def res_r01_Sum (y : pt_r01_Sum.M.X) : st_r01_Sum ⊕ pt_r01_Sum.R.X := goL step_r01_Sum ((un_r01_Sum y).2.1.drop (un_r01_Sum y).1.toNat) (un_r01_Sum y).2.2
def okr_r01_Sum (y : pt_r01_Sum.M.X) : Prop := okL step_r01_Sum ((un_r01_Sum y).2.1.drop (un_r01_Sum y).1.toNat) (un_r01_Sum y).2.2
theorem r01s_go (l : List Int) (n : Int) (hn : 0 <= n /\ n <= 4000000000000000000) (hl : ∀ e ∈ l, 0 <= e /\ e <= 9223372036854775807) :
  goL step_r01_Sum l ((n, ()), ()) = if n + l.sum <= 4000000000000000000 then .inl ((n + l.sum, ()), ()) else .inr ((0, false, ()), ()) := by
 induction l generalizing n with
 | nil =>
  have : n + ([] : List Int).sum = n := by simp
  rw [this, if_pos hn.2]
  rfl
 | cons e r ih =>
  have he := hl e List.mem_cons_self
  have hr : ∀ x ∈ r, 0 <= x /\ x <= 9223372036854775807 := fun x hx => hl x (List.mem_cons_of_mem _ hx)
  have hs : 0 <= r.sum := by
   clear ih hl
   induction r with
   | nil => simp
   | cons x r ih =>
    have h1 := hr x List.mem_cons_self
    have h2 := ih (fun y hy => hr y (List.mem_cons_of_mem _ hy))
    simp only [List.sum_cons]
    omega
  have hw : IntKind.i64.wrap (4000000000000000000 - n) = 4000000000000000000 - n := i64w (by omega)
  rw [List.sum_cons]
  by_cases h : e > 4000000000000000000 - n
  ·have hg : (step_r01_Sum e ((n, ()), ())).get = .inr ((0, false, ()), ()) := by
    show (if decide (e > IntKind.i64.wrap (4000000000000000000 - n)) = true then _ else _) = _
    rw [hw, if_pos (decide_eq_true h)]
    rfl
   simp only [goL, hg]
   rw [if_neg (by omega)]
  ·have hw2 : IntKind.i64.wrap (n + e) = n + e := i64w (by omega)
   have hg : (step_r01_Sum e ((n, ()), ())).get = .inl ((n + e, ()), ()) := by
    show (if decide (e > IntKind.i64.wrap (4000000000000000000 - n)) = true then _ else (.inl ((IntKind.i64.wrap (n + e), ()), ()) : st_r01_Sum ⊕ pt_r01_Sum.R.X)) = _
    rw [hw, if_neg (by simpa using h), hw2]
   simp only [goL, hg]
   rw [ih (n + e) (by omega) hr, show n + e + r.sum = n + (e + r.sum) by omega]
def ff_r01_Sum (x : denP [.d ints]) : Fr (denL [i64, .bool]) :=
 Fr.need (InL (good_r01_Sum ((0, x.1, 0, ()), ())) (un_r01_Sum ((0, x.1, 0, ()), ()))) (Fr.need (okr_r01_Sum ((0, x.1, 0, ()), ())) (Fr.br (isL (res_r01_Sum ((0, x.1, 0, ()), ()))) (Fr.val ((out_r01_Sum (getL dS_r01_Sum (res_r01_Sum ((0, x.1, 0, ()), ())))).1.1, true, ())) (Fr.val ((getR dR_r01_Sum (res_r01_Sum ((0, x.1, 0, ()), ()))).1.1, (getR dR_r01_Sum (res_r01_Sum ((0, x.1, 0, ()), ()))).1.2.1, ()))))
theorem ff_r01_Sum_ok : SoundCt Tryz.prog 114 ⟨[.d ints], [i64, .bool], fun xs => (ff_r01_Sum xs).get, fun xs => [(ff_r01_Sum xs).ok]⟩ :=
 fn_sound CHC_ok (Λ := (fun _ => Λ_r01_Sum CHC.Γ)) (fn := Tryz.f114) (dfP [.d ints]) (by kernel_rfl) (fun c E hc => lam1f hc (by kernel_rfl) (b := loopF Tryz.f114 0) (by kernel_rfl) (Does.han CHC_ok rfl loop_r01_Sum)) (fun x => by kernel_rfl)
def sumM (l : List Int) : Int × Bool := if l.sum <= 4000000000000000000 then (l.sum, true) else (0, false)
def cSumM : Ct := ⟨[.d ints], [i64, .bool], fun x => ((sumM x.1).1, (sumM x.1).2, ()), fun x => [∀ e ∈ x.1, (0 : Int) <= e]⟩
theorem sumM_ok : SoundCt Tryz.prog 114 cSumM :=
 conv ff_r01_Sum_ok _ _ (fun w F x vs hr hok => by
  obtain ⟨l, _⟩ := x
  obtain ⟨v, vs', rfl, hv, _⟩ := hr
  have hlen : (l.length : Int) <= 9223372036854775807 := wf_len hv
  have hwf := RepT.wf (t := ints) hv.2.2
  have hok' : ∀ e ∈ l, (0 : Int) <= e := hok
  have hb : ∀ e ∈ l, (0 : Int) <= e /\ e <= 9223372036854775807 := fun e he => by
   obtain ⟨i, hi, rfl⟩ := List.mem_iff_getElem.1 he
   exact ⟨hok' _ he, (i64wf (hwf.2 i _ (List.getElem?_eq_getElem hi))).2⟩
  refine ⟨⟨⟨trivial, Int.le_refl _, Int.natCast_nonneg _, hlen⟩, okL_of (step := step_r01_Sum) (fun e s => ⟨fun _ => trivial, fun _ => trivial⟩) _ _, fun _ => trivial, fun _ => trivial⟩, ?_⟩
  have hres : res_r01_Sum ((0, l, 0, ()), ()) = _ := r01s_go l 0 ⟨Int.le_refl _, by decide⟩ hb
  rw [Int.zero_add] at hres
  show (if isL (res_r01_Sum ((0, l, 0, ()), ())) = true then (((out_r01_Sum (getL dS_r01_Sum (res_r01_Sum ((0, l, 0, ()), ())))).1.1, true, ()) : Int × Bool × Unit) else ((getR dR_r01_Sum (res_r01_Sum ((0, l, 0, ()), ()))).1.1, (getR dR_r01_Sum (res_r01_Sum ((0, l, 0, ()), ()))).1.2.1, ())) = ((sumM l).1, (sumM l).2, ())
  rw [hres]
  unfold sumM
  by_cases h : l.sum <= 4000000000000000000
  ·rw [if_pos h, if_pos h]
   rfl
  ·rw [if_neg h, if_neg h]
   rfl)
def bandD (age : Int) : List bandT.den -> Int -> Int
 | [], d => d
 | b :: r, d => if b.1 < age then bandD age r d else b.2.1
theorem bandD_push (age : Int) (x : bandT.den) (d : Int) : (l : List bandT.den) -> bandD age (l ++ [x]) d = bandD age l (if x.1 < age then d else x.2.1)
 | [] => rfl
 | b :: r => by
  simp only [List.cons_append, bandD]
  rw [bandD_push age x d r]
abbrev pt_bd : Pt := ⟨27, 0, ⟨[(0, .d (.sl bandT)), (1, .d i64), (5, .d i64), (6, .d i64)], []⟩, ⟨[(5, .d i64)], []⟩, ⟨[], []⟩⟩
def fr_bd (x : pt_bd.M.X) : Fr pt_bd.Out :=
 Fr.br (decide (x.1.2.2.2.1 ≥ 0))
  (Fr.need (0 <= x.1.2.2.2.1 /\ x.1.2.2.2.1 < x.1.1.length)
   (Fr.br (decide ((x.1.1.getD x.1.2.2.2.1.toNat bandT.dflt).1 ≥ x.1.2.1))
    (Fr.need (0 <= x.1.2.2.2.1 /\ x.1.2.2.2.1 < x.1.1.length)
     (Fr.val (Rd.next ((x.1.1, x.1.2.1, (x.1.1.getD x.1.2.2.2.1.toNat bandT.dflt).2.1, IntKind.i64.wrap (x.1.2.2.2.1 - 1), ()), ()))))
    (Fr.val (Rd.next ((x.1.1, x.1.2.1, x.1.2.2.1, IntKind.i64.wrap (x.1.2.2.2.1 - 1), ()), ())))))
  (Fr.val (Rd.out ((x.1.2.2.1, ()), ())))
theorem sem_bd : Does Tryz.prog (loopF Tryz.f151 0) pt_bd.M pt_bd fr_bd :=
 Does.of_run CHC_ok (bs := 0) (Λ := lam0) rfl rfl rfl (fun E => lam0_ok _ 0) (fun x => by kernel_rfl)
structure InBd (l : List bandT.den) (i : Int) : Prop where
 lo : -1 <= i
 hi : i < l.length
 big : (l.length : Int) <= 9223372036854775807
def FBd (x : pt_bd.M.X) : Fr pt_bd.Out :=
 Fr.need (InBd x.1.1 x.1.2.2.2.1) (Fr.val (Rd.out ((bandD x.1.2.1 (x.1.1.take (x.1.2.2.2.1 + 1).toNat) x.1.2.2.1, ()), ())))
theorem lawBd (l : List bandT.den) (age d i : Int) (hinv : InBd l i) (Q : pt_bd.Out -> Prop) (hq : Q (Rd.out ((bandD age (l.take (i + 1).toNat) d, ()), ()))) :
  (fr_bd ((l, age, d, i, ()), ())).satP fun
   | .next x' => InBd x'.1.1 x'.1.2.2.2.1 /\ (x'.1.2.2.2.1 + 1).toNat < (i + 1).toNat /\ (FBd x').satP Q
   | .out y => Q (.out y)
   | .back z => Q (.back z)
   | .pan p => Q (.pan p) := by
 obtain ⟨h1, h2, h3⟩ := hinv
 refine ⟨fun hi => ?_, fun hi => ?_⟩
 ·have hi' : i ≥ 0 := of_decide_eq_true hi
  obtain ⟨k, rfl⟩ : ∃ k : Nat, i = k := ⟨i.toNat, by omega⟩
  have hl : k < l.length := by omega
  have hw : IntKind.i64.wrap ((k : Int) - 1) = k - 1 := IntWalk.i64_in _ (by omega)
  have g1 : l.getD (k : Int).toNat bandT.dflt = l[k] := by
   rw [show (k : Int).toNat = k by omega, List.getD_eq_getElem?_getD, List.getElem?_eq_getElem hl]; rfl
  have ht : l.take ((k : Int) + 1).toNat = l.take k ++ [l[k]] := by
   rw [show ((k : Int) + 1).toNat = k + 1 by omega]
   exact (List.take_append_getElem hl).symm
  have hk : ((k : Int) - 1 + 1).toNat = k := by omega
  rw [ht, bandD_push] at hq
  dsimp only [fr_bd, Fr.satP]
  rw [hw, g1]
  have hI : InBd l ((k : Int) - 1) := ⟨by omega, by omega, h3⟩
  have hμ : ((k : Int) - 1 + 1).toNat < ((k : Int) + 1).toNat := by omega
  have hn : 0 <= (k : Int) /\ (k : Int) < l.length := ⟨by omega, by omega⟩
  refine ⟨hn, fun hc => ⟨hn, ?_⟩, fun hc => ?_⟩
  ·have hc' : ¬ l[k].1 < age := Int.not_lt.2 (of_decide_eq_true hc)
   rw [if_neg hc'] at hq
   exact ⟨hI, hμ, hI, by rw [hk]; exact hq⟩
  ·have hc' : l[k].1 < age := Int.not_le.1 (of_decide_eq_false hc)
   rw [if_pos hc'] at hq
   exact ⟨hI, hμ, hI, by rw [hk]; exact hq⟩
 ·have hi' : ¬ i ≥ 0 := of_decide_eq_false hi
  have e : (i + 1).toNat = 0 := by omega
  rw [e] at hq
  exact hq
theorem loopBd : Does Tryz.prog (.loop (loopF Tryz.f151 0)) pt_bd.M pt_bd FBd := by
 refine Does.loop (n := 27) (id := 0) sem_bd (inv := fun x => InBd x.1.1 x.1.2.2.2.1) (μ := fun x => (x.1.2.2.2.1 + 1).toNat) ?_ (fun x Q h => h.1)
 rintro ⟨⟨l, age, d, i, _⟩, _⟩ hinv Q hq
 exact lawBd l age d i hinv Q hq.2
def cBand : Ct := ⟨[.d (.sl bandT), .d i64], [i64], fun x => (bandD x.2.1 x.1 10000, ()), fun _ => []⟩
theorem band6_ok : SoundCt Tryz.prog 151 cBand :=
 conv (fn_sound CHC_ok (Λ := fun _ => pt_bd.han CHC.Γ pt_bd.M FBd) (fn := Tryz.f151) (ps := [.d (.sl bandT), .d i64]) (rs := [i64])
  (fr := fun x => Fr.need (InBd x.1 (IntKind.i64.wrap (x.1.length - 1))) (Fr.val (bandD x.2.1 (x.1.take (IntKind.i64.wrap (x.1.length - 1) + 1).toNat) 10000, ()))) ([], 0, ()) (by kernel_rfl)
  (fun c E hc => lam1f hc (by kernel_rfl) (b := loopF Tryz.f151 0) (by kernel_rfl) (Does.han CHC_ok rfl loopBd)) (fun x => by kernel_rfl)) _ _ (fun w F x vs hr _ => by
  obtain ⟨l, age, _⟩ := x
  obtain ⟨v, vs', rfl, hv, _⟩ := hr
  have hlen : (l.length : Int) <= 9223372036854775807 := wf_len hv
  have hw : IntKind.i64.wrap ((l.length : Int) - 1) = l.length - 1 := IntWalk.i64_in _ (by omega)
  have ht : l.take ((l.length : Int) - 1 + 1).toNat = l := List.take_of_length_le (by omega)
  refine ⟨⟨?_, trivial⟩, ?_⟩
  ·show InBd l (IntKind.i64.wrap ((l.length : Int) - 1))
   rw [hw]
   exact ⟨by omega, by omega, hlen⟩
  ·show (bandD age (l.take (IntKind.i64.wrap ((l.length : Int) - 1) + 1).toNat) 10000, ()) = (bandD age l 10000, ())
   rw [hw, ht])
end Go.Proofs.YtplkgghjldndkaaGreat
