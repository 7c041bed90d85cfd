/-
  step.pieces: its walk.
-/
import Derived.Test.YtbfcnjddddjbbaaD1
namespace Go.Proofs.Ytbfcnjddddjbbaa
open Go Go.Ab Go.RowKit Go.Proofs Go.Shelf

attribute [local go_sem] Oper.semAt_some

theorem cell_of_block {W : World} {b : Nat} {cs : Array Value} {t : TypeId} {x : Nat × Nat} (h : W.heap[b]? = some (.cells cs t x)) (i : Nat) : W.cell? ⟨b, i, none⟩ = cs[i]? := by
  simp [World.cell?, h]

/-- What the walk of a round knows. -/
structure RoundAt (n₀ B1 B2 : Nat) (A : Option Addr) (at_ : List Int) (va vb : Value) (e0 e1 : Int) (f : stepT.den) (W : World) : Prop where
  b1 : W.heap[B1]? = some (.cells #[va, vb] 45 (0, 0))
  b2 : W.heap[B2]? = some (.cells #[.int .i64 e0, .int .i64 e1] 31 (0, 0))
  cells : 0 < at_.length → ∃ b off, A = some ⟨b, off, none⟩ ∧ b < n₀ ∧ ∀ (i : Nat) (x : Int), at_[i]? = some x → W.cell? ⟨b, off + i, none⟩ = some (.int .i64 x) ∧ -9223372036854775808 ≤ x ∧ x ≤ 9223372036854775807
  vals : ValCalls f (.agg #[va, vb]) W

section
variable {α : Type} {g : α → Int × Int × Int}

theorem nextEl {β : Type} {g : α → β} {all pre : List α} {y : β} {rest : List β} (h : pre.map g ++ y :: rest = all.map g) (hp : pre <+: all) : ∃ x, g x = y ∧ pre ++ [x] <+: all := by
  obtain ⟨t, rfl⟩ := hp
  rw [List.map_append] at h
  have h' := List.append_cancel_left h
  cases t with
  | nil => cases h'
  | cons x t =>
    simp only [List.map_cons, List.cons.injEq] at h'
    exact ⟨x, h'.1.symm, t, by simp⟩

def PieceRel (g : α → Int × Int × Int) (f : stepT.den) (e1 : Int) (at_ : List Int) (all : List α) (k : Nat) (cur : Int) (pre : List α) : Prop := pre <+: all ∧ pre.map g ++ piecesGo f e1 (at_.drop k) cur = all.map g

theorem PieceRel.skip {f : stepT.den} {e1 : Int} {at_ : List Int} {all : List α} {k : Nat} {cur : Int} {pre : List α} (h : PieceRel g f e1 at_ all k cur pre) {d : Int} (hd : at_[k]? = some d) (hc : d ≤ cur ∨ e1 ≤ d) : PieceRel g f e1 at_ all (k + 1) cur pre := by
  obtain ⟨hk, rfl⟩ := List.getElem?_eq_some_iff.1 hd
  refine ⟨h.1, ?_⟩
  have h2 := h.2
  rw [List.drop_eq_getElem_cons hk] at h2
  rw [← h2]
  conv => rhs; unfold piecesGo
  rw [if_pos hc]

theorem PieceRel.step {f : stepT.den} {e1 : Int} {at_ : List Int} {all : List α} {k : Nat} {cur : Int} {pre : List α} (h : PieceRel g f e1 at_ all k cur pre) {d : Int} (hd : at_[k]? = some d) (hc : ¬ (d ≤ cur ∨ e1 ≤ d)) :
    ∃ x, g x = (cur, d, valAt f cur) ∧ PieceRel g f e1 at_ all (k + 1) d (pre ++ [x]) ∧ pre.length < all.length := by
  obtain ⟨hk, rfl⟩ := List.getElem?_eq_some_iff.1 hd
  have h2 := h.2
  rw [List.drop_eq_getElem_cons hk] at h2
  unfold piecesGo at h2
  rw [if_neg hc] at h2
  obtain ⟨x, hx, hp⟩ := nextEl h2 h.1
  refine ⟨x, hx, ⟨hp, ?_⟩, ?_⟩
  · rw [← h2]
    simp [hx]
  · have := hp.length_le
    simp at this
    omega

theorem PieceRel.last {f : stepT.den} {e1 : Int} {at_ : List Int} {all : List α} {k : Nat} {cur : Int} {pre : List α} (h : PieceRel g f e1 at_ all k cur pre) (hk : at_.length ≤ k) :
    ∃ x, g x = (cur, e1, valAt f cur) ∧ pre ++ [x] = all ∧ pre.length < all.length := by
  have h2 := h.2
  rw [List.drop_eq_nil_of_le hk] at h2
  obtain ⟨x, hx, hp⟩ := nextEl (y := (cur, e1, valAt f cur)) (rest := []) h2 h.1
  have hl := congrArg List.length h2
  simp [piecesGo] at hl
  refine ⟨x, hx, hp.eq_of_length (by simp; omega), by omega⟩
end

set_option maxRecDepth 100000 in
set_option maxHeartbeats 2000000 in
theorem pieces1_in {α : Type} (g : α → Int × Int × Int) (all : List α) (n : Nat) (hn : 1 ≤ n) (l B1 B2 n₀ : Nat) (A : Option Addr) (c : Nat) (at_ : List Int) (vb : Value) (hvb : ∃ A' n' c', vb = .slice A' n' c') (e0 e1 : Int) (f : stepT.den) (hlen : at_.length ≤ 9223372036854775807) (he0 : -9223372036854775808 ≤ e0 ∧ e0 ≤ 9223372036854775807)
    (hall : all.map g = piecesGo f e1 at_ e0) (J Jx : List α → World → Prop) (W : World) (hJ : AbidesFrom W.heap.size J) (hn0 : n₀ ≤ W.heap.size)
    (hY : ∀ pre x W1, J pre W1 → pre.length < all.length → YieldAt Fence.wide (n - 1) Try.prog l (pieceV (g x)) W1 fun e W' =>
      (e = .returned (.bool true) ∧ J (pre ++ [x]) W' ∧ KpS n₀ B1 B2 W1 W') ∨ (e = .returned (.bool false) ∧ Jx (pre ++ [x]) W'))
    (hat : ∀ W', KpS n₀ B1 B2 W W' → RoundAt n₀ B1 B2 A at_ (.slice A at_.length c) vb e0 e1 f W') (h0 : J [] W) :
    CallsIn Fence.wide n Try.prog 29 #[.func (.yield l) #[] #[], .pointer (some ⟨B2, 0, none⟩), .pointer (some ⟨B1, 0, none⟩)] W fun e W' => (∃ v, e = .returned v) ∧
      ((∃ xs, xs = all ∧ J xs W') ∨ (∃ pre, pre <+: all ∧ Jx pre W')) := by
  obtain ⟨A', n', c', rfl⟩ := hvb
  have hro : Fence.wide.round = none := rfl
  refine callsIn_of_wp Try.func29 rfl trivial ?_ hro
  simp only [Try.ntmps29, List.size_toArray, List.length_cons, List.length_nil, Nat.reduceAdd, Nat.reduceSub, Array.replicate_succ, Array.replicate_zero, List.push_toArray, List.append_toArray, List.nil_append, List.cons_append]
  have r0 := hat W (KpS.refl _ _ _ _)
  have c10 : W.cell? ⟨B1, 0, none⟩ = some (.slice A at_.length c) := cell_of_block r0.b1 0
  have c11 : W.cell? ⟨B1, 1, none⟩ = some (.slice A' n' c') := cell_of_block r0.b1 1
  have c20 : W.cell? ⟨B2, 0, none⟩ = some (.int .i64 e0) := cell_of_block r0.b2 0
  have c21 : W.cell? ⟨B2, 1, none⟩ = some (.int .i64 e1) := cell_of_block r0.b2 1
  have hlen' := hlen
  gi_wp2
  gi_loopw [4, 12] (fun u i wr => ∃ (k : Nat) (cur : Int) (pre : List α), k ≤ at_.length ∧ i = .int .i64 k ∧ u = .int .i64 cur ∧ (-9223372036854775808 ≤ cur ∧ cur ≤ 9223372036854775807) ∧ PieceRel g f e1 at_ all k cur pre ∧ J pre wr ∧ KpS n₀ B1 B2 W wr)
    (fun _ i _ => at_.length - (intOf i).toNat)
  case atStart => exact ⟨0, e0, [], Nat.zero_le _, rfl, rfl, he0, ⟨List.nil_prefix, hall.symm⟩, h0, KpS.refl _ _ _ _⟩
  case round =>
    obtain ⟨k, cur, pre, hk, rfl, rfl, hcur, hrel, hJs, hkp⟩ := hrel
    clear c10 c11 c20 c21 r0
    have rr := hat _ hkp
    have c10 : wr.cell? ⟨B1, 0, none⟩ = some (.slice A at_.length c) := cell_of_block rr.b1 0
    have c11 : wr.cell? ⟨B1, 1, none⟩ = some (.slice A' n' c') := cell_of_block rr.b1 1
    have c21 : wr.cell? ⟨B2, 1, none⟩ = some (.int .i64 e1) := cell_of_block rr.b2 1
    by_cases hlt : k < at_.length
    · obtain ⟨b, off, rfl, hb, hcx⟩ := rr.cells (by omega)
      obtain ⟨d, hd⟩ : ∃ d, at_[k]? = some d := ⟨_, List.getElem?_eq_getElem hlt⟩
      obtain ⟨hcd, hdr⟩ := hcx k d hd
      clear hcx
      have hb1 : B1 < wr.heap.size := (Array.getElem?_eq_some_iff.1 rr.b1).1
      have hb2 : B2 < wr.heap.size := (Array.getElem?_eq_some_iff.1 rr.b2).1
      have hn1 : n₀ ≤ wr.heap.size := Nat.le_trans hn0 hkp.1.size
      by_cases t1 : d ≤ cur
      · have ht1 : decide (d ≤ cur) = true := by simpa using t1
        have hn := hrel.skip hd (.inl t1)
        gi_wp2
        exact ⟨⟨k + 1, cur, pre, by omega, by simp, rfl, hcur, hn, hJs, hkp⟩, by simp [intOf]; omega⟩
      · have ht1 : decide (d ≤ cur) = false := by simpa using t1
        by_cases t2 : e1 ≤ d
        · have ht2 : decide (d ≥ e1) = true := by simpa using t2
          have hn := hrel.skip hd (.inr t2)
          gi_wp2
          exact ⟨⟨k + 1, cur, pre, by omega, by simp, rfl, hcur, hn, hJs, hkp⟩, by simp [intOf]; omega⟩
        · have ht2 : decide (d ≥ e1) = false := by simpa using t2
          obtain ⟨x, hgx, hst, hln⟩ := hrel.step hd (by omega)
          gi_wp2
          refine ⟨trivial, ?_⟩
          refine (callsIn_wide.2 (rr.vals cur hcur.1 hcur.2)).mono ?_
          rintro e w1 ⟨rfl, hbel⟩
          have hk1 := hkp.trans (KpS.below hbel hn1 hb1 hb2)
          obtain ⟨fn, tmps, assign, body, hy, hR⟩ := hY pre x w1 (abide_below hJ hJs hbel) hln
          rw [hgx] at hy
          gi_wp2
          refine hR.mono ?_
          rintro e W3 (⟨rfl, hJ3, hk3⟩ | ⟨rfl, hJx3⟩)
          · gi_wp2
            go_roundw
            case rel => exact ⟨k + 1, d, pre ++ [x], by omega, by simp, rfl, hdr, hst, hJ3, hk1.trans hk3⟩
            case measure => simp [intOf]; omega
          · gi_wp2
            refine bodyPost_ret (results_none rfl _ _ _) rfl ?_
            exact ⟨⟨_, rfl⟩, .inr ⟨_, hst.1, hJx3⟩⟩
    · obtain rfl : k = at_.length := by omega
      obtain ⟨x, hgx, hl, hln⟩ := hrel.last (Nat.le_refl _)
      have hb1 : B1 < wr.heap.size := (Array.getElem?_eq_some_iff.1 rr.b1).1
      have hb2 : B2 < wr.heap.size := (Array.getElem?_eq_some_iff.1 rr.b2).1
      have hn1 : n₀ ≤ wr.heap.size := Nat.le_trans hn0 hkp.1.size
      have hmx : Try.prog.follows .mixedOrders = true := by kernel_rfl
      have hkd : KpS n₀ B1 B2 W wr.drew := hkp.trans ⟨⟨rfl, rfl, rfl, Nat.le_refl _, fun _ _ => rfl⟩, rfl, rfl⟩
      have rd := hat _ hkd
      have hJd : J pre wr.drew := abide_below hJ hJs ⟨rfl, rfl, rfl, Nat.le_refl _, fun _ _ => rfl⟩
      gi_wp2
      gi_region_with_o (first
        | (refine ⟨trivial, ?_⟩; gi_at_call 30; refine (callsIn_wide.2 (rd.vals cur hcur.1 hcur.2)).mono ?_; rintro e w1 ⟨rfl, hbel⟩; have d21 : w1.cell? ⟨B2, 1, none⟩ = some (.int .i64 e1) := cell_of_block (hat _ (hkd.trans (KpS.below hbel hn1 hb1 hb2))).b2 1; obtain ⟨fn, tmps, assign, body, hy, hR⟩ := hY pre x w1 (abide_below hJ hJd hbel) hln; rw [hgx] at hy)
        | (refine (hR.mono (R' := fun e W' => ∃ bv, e = .returned (.bool bv) ∧ (if bv = true then J (pre ++ [x]) W' else Jx (pre ++ [x]) W')) (fun e W' h => h.elim (fun h => ⟨true, h.1, h.2.1⟩) (fun h => ⟨false, h.1, h.2⟩))).mono ?_; rintro e W3 ⟨bv, rfl, hJ3⟩))
      all_goals go_end0
      all_goals (refine ⟨⟨_, rfl⟩, ?_⟩; cases bv; exact .inr ⟨_, ⟨[], by rw [List.append_nil]; exact hl⟩, hJ3⟩; exact .inl ⟨_, hl, hJ3⟩)

end Go.Proofs.Ytbfcnjddddjbbaa
