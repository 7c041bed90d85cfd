/-
  step.Sum: its walk.
-/
import Derived.Test.YtbfcnjddddjbbaaD3
namespace Go.Proofs.Ytbfcnjddddjbbaa
open Go Go.Ab Go.RowKit Go.Proofs Go.Shelf

attribute [local go_sem] Oper.semAt_some

theorem boolCall {f : FuncId} {ps : List PT} {g : denP ps → Bool} {ok : denP ps → List Prop} (h : SoundCt Try.prog f ⟨ps, [.bool], fun x => (g x, ()), ok⟩) {w : World} {F : Nat → Prop} {xs : denP ps} {vs : List Value} (hb : ∀ b, F b → b < w.heap.size) (hr : RepPs Try.prog w F ps xs vs) (hok : conj (ok xs)) :
    Calls Try.prog f vs.toArray w fun e w' => e = .returned (.bool (g xs)) ∧ Below w.heap.size w w' := by
  refine (h.2 w F xs vs hb hr hok).mono ?_
  rintro e w' ⟨v, F', rfl, hbel, _, _, hv⟩
  have hv' : RepA Try.prog w' F' (fun _ _ => True) (encV .bool (g xs)) v := encV_rep hv
  have hv2 : v = .bool (g xs) := hv'.2
  exact ⟨by rw [hv2], hbel⟩

/-- Sum's four variables. -/
structure Four (W : World) (z : Nat) (va vb x0 x1 x4 x5 : Value) : Prop where
  b0 : W.heap[z]? = some (.cells #[va, vb] 45 (0, 0))
  b1 : W.heap[z + 1]? = some (.cells #[x0, x1] 31 (0, 0))
  b2 : Boxed W (z + 1 + 1) 3 x4
  b3 : Boxed W (z + 1 + 1 + 1) 24 x5

theorem Four.below {W W' : World} {z m : Nat} {va vb x0 x1 x4 x5 : Value} (h : Four W z va vb x0 x1 x4 x5) (hb : Below m W W') (hm : z + 3 < m) : Four W' z va vb x0 x1 x4 x5 :=
  ⟨(hb.block _ (by omega)).trans h.b0, (hb.block _ (by omega)).trans h.b1, (hb.block _ (by omega)).trans h.b2, (hb.block _ (by omega)).trans h.b3⟩

theorem Four.start (w : World) (va vb x0 x1 x4 x5 : Value) :
    Four ((((w.alloc (.cells #[va, vb] 45)).alloc (.cells #[x0, x1] 31)).alloc (.cells #[x4] 3)).alloc (.cells #[x5] 24)) w.heap.size va vb x0 x1 x4 x5 := by
  have h0 := World.alloc_heap_new w (.cells #[va, vb] 45)
  have h1 := World.alloc_heap_new (w.alloc (.cells #[va, vb] 45)) (.cells #[x0, x1] 31)
  have h2 := World.alloc_heap_new ((w.alloc (.cells #[va, vb] 45)).alloc (.cells #[x0, x1] 31)) (.cells #[x4] 3)
  have h3 := World.alloc_heap_new (((w.alloc (.cells #[va, vb] 45)).alloc (.cells #[x0, x1] 31)).alloc (.cells #[x4] 3)) (.cells #[x5] 24)
  simp only [World.size_alloc] at h1 h2 h3
  exact ⟨(Below.heap_alloc _ _ _ (by simp only [World.size_alloc]; omega)).trans ((Below.heap_alloc _ _ _ (by simp only [World.size_alloc]; omega)).trans ((Below.heap_alloc _ _ _ (by simp only [World.size_alloc]; omega)).trans h0)),
    (Below.heap_alloc _ _ _ (by simp only [World.size_alloc]; omega)).trans ((Below.heap_alloc _ _ _ (by simp only [World.size_alloc]; omega)).trans h1),
    (Below.heap_alloc _ _ _ (by simp only [World.size_alloc]; omega)).trans h2, h3⟩

theorem Four.cells {W : World} {z : Nat} {va vb x0 x1 x4 x5 : Value} (h : Four W z va vb x0 x1 x4 x5) :
    W.cell? ⟨z, 0, none⟩ = some va ∧ W.cell? ⟨z, 1, none⟩ = some vb ∧ W.cell? ⟨z + 1, 0, none⟩ = some x0 ∧ W.cell? ⟨z + 1, 1, none⟩ = some x1 ∧
      W.cell? ⟨z + 1 + 1, 0, none⟩ = some x4 ∧ W.frozen? ⟨z + 1 + 1, 0, none⟩ = false ∧ W.cell? ⟨z + 1 + 1 + 1, 0, none⟩ = some x5 ∧ W.frozen? ⟨z + 1 + 1 + 1, 0, none⟩ = false :=
  ⟨cell_of_block h.b0 0, cell_of_block h.b0 1, cell_of_block h.b1 0, cell_of_block h.b1 1, h.b2.cell, h.b2.frozen, h.b3.cell, h.b3.frozen⟩

set_option maxRecDepth 100000 in
set_option maxHeartbeats 4000000 in
theorem sum_no (f : stepT.den) (A A' : Option Addr) (l1 c1 l2 c2 : Nat) (e0 e1 : Int) (w : World)
    (hR : ∀ W, Below w.heap.size w W → Calls Try.prog 16 #[.agg #[.slice A l1 c1, .slice A' l2 c2]] W fun e w' => e = .returned (.bool (rightSt f)) ∧ Below W.heap.size W w')
    (hF : ∀ W, Calls Try.prog 23 #[.agg #[.int .i64 e0, .int .i64 e1]] W fun e w' => e = .returned (.bool (fullS (e0, e1, ()))) ∧ Below W.heap.size W w')
    (hno : ¬ (rightSt f = true ∧ fullS (e0, e1, ()) = true)) :
    CallsIn Fence.wide 8 Try.prog 15 #[.agg #[.slice A l1 c1, .slice A' l2 c2], .agg #[.int .i64 e0, .int .i64 e1]] w fun e w' => e = .returned (.tuple #[.int .i64 0, .int .i64 1]) ∧ Below w.heap.size w w' := by
  refine callsIn_of_wp Try.func15 rfl trivial ?_ rfl
  simp only [Try.ntmps15, List.size_toArray, List.length_cons, List.length_nil, Nat.reduceAdd, Nat.reduceSub, Array.replicate_succ, Array.replicate_zero, List.push_toArray, List.append_toArray, List.nil_append, List.cons_append]
  generalize hb1 : rightSt f = b1 at *
  generalize hb2 : fullS (e0, e1, ()) = b2 at *
  have hB4 : Below w.heap.size w ((((w.alloc (.cells #[.slice A l1 c1, .slice A' l2 c2] 45)).alloc (.cells #[.int .i64 e0, .int .i64 e1] 31)).alloc (.cells #[.int .i64 0] 3)).alloc (.cells #[.int .i64 0] 24)) :=
    ((((Below.refl _ w).alloc (Nat.le_refl _) _).alloc (by simp) _).alloc (by simp; omega) _).alloc (by simp; omega) _
  have hS := Four.start w (.slice A l1 c1) (.slice A' l2 c2) (.int .i64 e0) (.int .i64 e1) (.int .i64 0) (.int .i64 0)
  have hz : w.heap.size + 3 < ((((w.alloc (.cells #[.slice A l1 c1, .slice A' l2 c2] 45)).alloc (.cells #[.int .i64 e0, .int .i64 e1] 31)).alloc (.cells #[.int .i64 0] 3)).alloc (.cells #[.int .i64 0] 24)).heap.size := by simp
  have HS := Lib.hid hS
  have HZ := Lib.hid hz
  clear hS hz
  cases b1
  · gi_wp2_with (refine ⟨trivial, ?_⟩; gi_at_call 16; refine (callsIn_wide.2 (hR _ hB4)).mono ?_; rintro e w1 ⟨rfl, hb⟩; obtain ⟨k0, k1, k2, k3, k4, k5, k6, k7⟩ := (HS.out.below hb HZ.out).cells)
    refine ⟨trivial, ?_⟩
    gi_wp2
    refine bodyPost_ret (v := .tuple #[.int .i64 0, .int .i64 1]) (by simp [results, Try.results15, go_sem, k4, k6]) rfl ⟨rfl, ?_⟩
    exact (((hB4.trans (hb.mono (by simp; omega))).setCell (p := ⟨w.heap.size + 1 + 1, 0, none⟩) (by simp; omega) _).setCell (p := ⟨w.heap.size + 1 + 1 + 1, 0, none⟩) (by simp; omega) _)
  · cases b2
    · gi_wp2_with (first | (refine ⟨trivial, ?_⟩; gi_at_call 16; refine (callsIn_wide.2 (hR _ hB4)).mono ?_; rintro e w1 ⟨rfl, hb⟩; obtain ⟨k0, k1, k2, k3, k4, k5, k6, k7⟩ := (HS.out.below hb HZ.out).cells) | (refine ⟨trivial, ?_⟩; gi_at_call 23; refine (callsIn_wide.2 (hF _)).mono ?_; rintro e w2 ⟨rfl, hb2⟩; obtain ⟨m0, m1, m2, m3, m4, m5, m6, m7⟩ := ((HS.out.below hb HZ.out).below hb2 (Nat.lt_of_lt_of_le HZ.out hb.size)).cells))
      refine bodyPost_ret (v := .tuple #[.int .i64 0, .int .i64 1]) (by simp [results, Try.results15, go_sem, m4, m6]) rfl ⟨rfl, ?_⟩
      exact ((((hB4.trans (hb.mono (by simp; omega))).trans (hb2.mono (Nat.le_trans (hB4.trans (hb.mono (by simp; omega))).size (Nat.le_refl _)))).setCell (p := ⟨w.heap.size + 1 + 1, 0, none⟩) (by simp; omega) _).setCell (p := ⟨w.heap.size + 1 + 1 + 1, 0, none⟩) (by simp; omega) _)
    · exact absurd ⟨rfl, rfl⟩ hno

/-- The pieces, as what is gone through. -/
theorem pieces_stops (m : Nat) (hm : 1 ≤ m) (f : stepT.den) (A A' : Option Addr) (c1 l2 c2 : Nat) (e0 e1 : Int) (all : List PieceT) (hall : all.map Subtype.val = piecesGo f e1 f.1 e0) (hlen : f.1.length ≤ 9223372036854775807) (he0 : -9223372036854775808 ≤ e0 ∧ e0 ≤ 9223372036854775807) (w : World) (B1 B2 : Nat) (W0 : World) (h0 : Below w.heap.size w W0)
    (hb1 : W0.heap[B1]? = some (.cells #[.slice A f.1.length c1, .slice A' l2 c2] 45 (0, 0))) (hb2 : W0.heap[B2]? = some (.cells #[.int .i64 e0, .int .i64 e1] 31 (0, 0)))
    (hcells : ∀ W, Below w.heap.size w W → 0 < f.1.length → ∃ b off, A = some ⟨b, off, none⟩ ∧ b < w.heap.size ∧ ∀ (i : Nat) (x : Int), f.1[i]? = some x → W.cell? ⟨b, off + i, none⟩ = some (.int .i64 x) ∧ -9223372036854775808 ≤ x ∧ x ≤ 9223372036854775807)
    (hvals : ∀ W, Below w.heap.size w W → ValCalls f (.agg #[.slice A f.1.length c1, .slice A' l2 c2]) W) :
    SeqStopsK Fence.wide m Try.prog 29 #[.pointer (some ⟨B2, 0, none⟩), .pointer (some ⟨B1, 0, none⟩)] (fun x : PieceT => pieceV x.1) (KpS w.heap.size B1 B2) (fun xs => xs = all) (fun pre => pre <+: all) all.length W0 := fun l J Jx W hW hJ hJx hY hJ0 => by
  have g1 : B1 < W0.heap.size := (Array.getElem?_eq_some_iff.1 hb1).1
  have g2 : B2 < W0.heap.size := (Array.getElem?_eq_some_iff.1 hb2).1
  have hB : Below w.heap.size w W := h0.trans (hW.mono h0.size)
  refine pieces1_in Subtype.val all m hm l B1 B2 w.heap.size A c1 f.1 (.slice A' l2 c2) ⟨_, _, _, rfl⟩ e0 e1 f hlen he0 hall J Jx W hJ hB.size hY (fun W' hk => ?_) hJ0
  have hB' := hB.trans hk.1
  exact ⟨hk.2.1.trans ((hW.block _ g1).trans hb1), hk.2.2.trans ((hW.block _ g2).trans hb2), hcells W' hB', hvals W' hB'⟩

/-- How it ends. -/
def SumEnd (o : Option (Int × Int)) (e : Ending) : Prop := match o with
  | some q => e = .returned (.tuple #[.int .i64 q.1, .int .i64 0])
  | none => e = .returned (.tuple #[.int .i64 0, .int .i64 5])

/-- Between two rounds. -/
structure SumI (w : World) (z0 b4 b5 b6 b7 : Nat) (pre : List PieceT) (W : World) (q : Int × Int) : Prop where
  sum : sumGo (pre.map Subtype.val) (0, 0) = some q
  inv : SumInv q
  x6 : Boxed W b6 3 (.int .i64 q.1)
  x7 : Boxed W b7 3 (.int .i64 q.2)
  x4 : Boxed W b4 3 (.int .i64 0)
  x5 : Boxed W b5 24 (.int .i64 0)
  bel : Below w.heap.size w W
  sz : z0 ≤ W.heap.size

structure SumX (w : World) (b4 b5 : Nat) (c : Code) (pre : List PieceT) (W : World) : Prop where
  ret : c = .ret
  sum : sumGo (pre.map Subtype.val) (0, 0) = none
  x4 : Boxed W b4 3 (.int .i64 0)
  x5 : Boxed W b5 24 (.int .i64 5)
  bel : Below w.heap.size w W

theorem box_abides {X Y : World} {row : Option Nat} {B b : Nat} {t : TypeId} {v : Value} (h : Boxed X b t v) (hg : X.grownBy Y row) (hr : ∀ r, row = some r → B ≤ r ∧ ∃ o : Obj, X.heap[r]? = some o ∧ o.isCells = false) : Boxed Y b t v :=
  boxed_own b t (fun (_ : Unit) => v) () X Y row h hg (fun r e => (hr r e).2)

theorem sumI_own {w : World} {z0 b4 b5 b6 b7 B : Nat} (hB : w.heap.size ≤ B) : OwnFrom B (fun pre W => ∃ q, SumI w z0 b4 b5 b6 b7 pre W q) := fun pre X Y row hs hg hr => by
  obtain ⟨q, h⟩ := hs
  exact ⟨q, h.sum, h.inv, box_abides h.x6 hg hr, box_abides h.x7 hg hr, box_abides h.x4 hg hr, box_abides h.x5 hg hr, h.bel.grown hg h.bel.size (fun k e => Nat.le_trans hB (hr k e).1), Nat.le_trans h.sz hg.size⟩

theorem sumX_own {w : World} {b4 b5 B : Nat} (hB : w.heap.size ≤ B) (c : Code) : OwnFrom B (fun pre W => SumX w b4 b5 c pre W) := fun pre X Y row h hg hr =>
  ⟨h.ret, h.sum, box_abides h.x4 hg hr, box_abides h.x5 hg hr, h.bel.grown hg h.bel.size (fun k e => Nat.le_trans hB (hr k e).1)⟩

/-- The loop's variables. -/
def SumA (w0 : Nat) (a : Int × Int × Int → Nat → Act) (x : PieceT) (a' : Act) (W : World) : Prop := ∃ Bx, w0 ≤ Bx ∧ W.heap[Bx]? = some (.cells #[.int .i64 x.1.1, .int .i64 x.1.2.1] 31 (0, 0)) ∧ a' = a x.1 Bx

theorem sumA_own {w0 B : Nat} {a : Int × Int × Int → Nat → Act} (x : PieceT) (a' : Act) : OwnFrom B (fun (_ : Unit) W => SumA w0 a x a' W) := fun _ X Y row hs hg hr => by
  obtain ⟨Bx, h1, h2, h3⟩ := hs
  refine ⟨Bx, h1, (hg.block Bx (Array.getElem?_eq_some_iff.1 h2).1 (fun e => ?_)).trans h2, h3⟩
  obtain ⟨_, o, ho, hc⟩ := hr Bx e.symm
  rw [h2] at ho
  cases ho
  cases hc

theorem max_if (v : Int) : max v (-v) = if v < -v then -v else v := by split <;> omega

theorem sum_snoc {pre : List PieceT} {q : Int × Int} (h : sumGo (pre.map Subtype.val) (0, 0) = some q) (x : PieceT) : sumGo ((pre ++ [x]).map Subtype.val) (0, 0) = sumStep q x.1 := by
  rw [List.map_append, sumGo_append, h]
  show (sumStep q x.1).bind (sumGo []) = _
  cases sumStep q x.1 <;> rfl

theorem setCell_block (W : World) {b k : Nat} (v : Value) (h : k ≠ b) : (W.setCell ⟨b, 0, none⟩ v).heap[k]? = W.heap[k]? := by
  by_cases hk : k < W.heap.size
  · exact (grownBy_setCell' W b v).block k hk (fun e => h (by cases e; rfl))
  · rw [Array.getElem?_eq_none (by rw [World.size_setCell]; omega), Array.getElem?_eq_none (by omega)]

theorem sumBody_stop {w W : World} {z0 b4 b5 b6 b7 : Nat} {pre : List PieceT} {s a x0 x1 v : Int} (hi : SumI w z0 b4 b5 b6 b7 pre W (s, a)) (hx : PieceOk (x0, x1, v)) (hc : (4000000000000000000 - a) / (x1 - x0) < if v < -v then -v else v)
    (h45 : b4 ≠ b5) (h4 : w.heap.size ≤ b4) (h5 : w.heap.size ≤ b5) :
    SumX w b4 b5 .ret (pre ++ [⟨(x0, x1, v), hx⟩]) ((W.setCell ⟨b4, 0, none⟩ (.int .i64 0)).setCell ⟨b5, 0, none⟩ (.int .i64 5)) := by
  refine ⟨rfl, ?_, (hi.x4.set _).other h45 _, (hi.x5.other (Ne.symm h45) _).set _, (hi.bel.setCell (p := ⟨b4, 0, none⟩) h4 _).setCell (p := ⟨b5, 0, none⟩) h5 _⟩
  rw [sum_snoc hi.sum]
  unfold sumStep
  rw [if_pos]
  show max v (-v) > (4000000000000000000 - a) / (x1 - x0)
  rw [max_if]
  exact hc

theorem sumBody_next {w W : World} {z0 b4 b5 b6 b7 : Nat} {pre : List PieceT} {s a x0 x1 v m : Int} (hi : SumI w z0 b4 b5 b6 b7 pre W (s, a)) (hx : PieceOk (x0, x1, v)) (hc : (if v < -v then -v else v) ≤ (4000000000000000000 - a) / (x1 - x0)) (hm : m = if v < -v then -v else v)
    (h46 : b4 ≠ b6) (h47 : b4 ≠ b7) (h56 : b5 ≠ b6) (h57 : b5 ≠ b7) (h67 : b6 ≠ b7) (h6 : w.heap.size ≤ b6) (h7 : w.heap.size ≤ b7) :
    SumI w z0 b4 b5 b6 b7 (pre ++ [⟨(x0, x1, v), hx⟩]) ((W.setCell ⟨b6, 0, none⟩ (.int .i64 (wrap64 (s + wrap64 ((x1 - x0) * v))))).setCell ⟨b7, 0, none⟩ (.int .i64 (wrap64 (a + wrap64 ((x1 - x0) * m))))) (s + (x1 - x0) * v, a + (x1 - x0) * max v (-v)) := by
  have hs : sumStep (s, a) (x0, x1, v) = some (s + (x1 - x0) * v, a + (x1 - x0) * max v (-v)) := by
    unfold sumStep
    rw [if_neg]
    show ¬ max v (-v) > (4000000000000000000 - a) / (x1 - x0)
    rw [max_if]
    omega
  have hmm : m = max v (-v) := by rw [max_if]; exact hm
  obtain ⟨hinv, k1, k2, k3, k4⟩ := sumStep_inv hx hs hi.inv
  obtain ⟨j1, j2, j3, j4⟩ := hi.inv
  simp only at k1 k2 k3 k4 j1 j2 j3 j4
  subst hmm
  have e1 : wrap64 (s + wrap64 ((x1 - x0) * v)) = s + (x1 - x0) * v := by
    rw [IntWalk.wrap64_in ((x1 - x0) * v) (by omega), IntWalk.wrap64_in _ (by omega)]
  have e2 : wrap64 (a + wrap64 ((x1 - x0) * max v (-v))) = a + (x1 - x0) * max v (-v) := by
    rw [IntWalk.wrap64_in ((x1 - x0) * max v (-v)) (by omega), IntWalk.wrap64_in _ (by omega)]
  rw [e1, e2]
  exact ⟨by rw [sum_snoc hi.sum]; exact hs, hinv, (hi.x6.set _).other h67 _, (hi.x7.other (Ne.symm h67) _).set _, (hi.x4.other h46 _).other h47 _, (hi.x5.other h56 _).other h57 _,
    (hi.bel.setCell (p := ⟨b6, 0, none⟩) h6 _).setCell (p := ⟨b7, 0, none⟩) h7 _, by rw [World.size_setCell, World.size_setCell]; exact hi.sz⟩

theorem kp_set2 {n₀ B1 B2 b c : Nat} (W : World) (u v : Value) (hb : n₀ ≤ b) (hc : n₀ ≤ c) (h1 : B1 ≠ b) (h2 : B1 ≠ c) (h3 : B2 ≠ b) (h4 : B2 ≠ c) : KpS n₀ B1 B2 W ((W.setCell ⟨b, 0, none⟩ u).setCell ⟨c, 0, none⟩ v) :=
  ⟨((Below.refl n₀ W).setCell (p := ⟨b, 0, none⟩) hb _).setCell (p := ⟨c, 0, none⟩) hc _, (setCell_block _ _ h2).trans (setCell_block _ _ h1), (setCell_block _ _ h4).trans (setCell_block _ _ h3)⟩

set_option maxRecDepth 100000 in
set_option maxHeartbeats 4000000 in
theorem sum_yes (f : stepT.den) (A A' : Option Addr) (c1 l2 c2 : Nat) (e0 e1 : Int) (w : World)
    (hR : ∀ W, Below w.heap.size w W → Calls Try.prog 16 #[.agg #[.slice A f.1.length c1, .slice A' l2 c2]] W fun e w' => e = .returned (.bool true) ∧ Below W.heap.size W w')
    (hF : ∀ W, Calls Try.prog 23 #[.agg #[.int .i64 e0, .int .i64 e1]] W fun e w' => e = .returned (.bool true) ∧ Below W.heap.size W w')
    (all : List PieceT) (hall : all.map Subtype.val = piecesGo f e1 f.1 e0) (hlen : f.1.length ≤ 9223372036854775807) (he0 : -9223372036854775808 ≤ e0 ∧ e0 ≤ 9223372036854775807)
    (hcells : ∀ W, Below w.heap.size w W → 0 < f.1.length → ∃ b off, A = some ⟨b, off, none⟩ ∧ b < w.heap.size ∧ ∀ (i : Nat) (x : Int), f.1[i]? = some x → W.cell? ⟨b, off + i, none⟩ = some (.int .i64 x) ∧ -9223372036854775808 ≤ x ∧ x ≤ 9223372036854775807)
    (hvals : ∀ W, Below w.heap.size w W → ValCalls f (.agg #[.slice A f.1.length c1, .slice A' l2 c2]) W) :
    CallsIn Fence.wide 8 Try.prog 15 #[.agg #[.slice A f.1.length c1, .slice A' l2 c2], .agg #[.int .i64 e0, .int .i64 e1]] w fun e w' => SumEnd (sumGo (all.map Subtype.val) (0, 0)) e ∧ Below w.heap.size w w' := by
  refine callsIn_of_wp_marks Try.func15 rfl trivial ?_ rfl
  simp only [Try.ntmps15, List.size_toArray, List.length_cons, List.length_nil, Nat.reduceAdd, Nat.reduceSub, Array.replicate_succ, Array.replicate_zero, List.push_toArray, List.append_toArray, List.nil_append, List.cons_append]
  have hB4 : Below w.heap.size w ((((w.alloc (.cells #[.slice A f.1.length c1, .slice A' l2 c2] 45)).alloc (.cells #[.int .i64 e0, .int .i64 e1] 31)).alloc (.cells #[.int .i64 0] 3)).alloc (.cells #[.int .i64 0] 24)) :=
    ((((Below.refl _ w).alloc (Nat.le_refl _) _).alloc (by simp) _).alloc (by simp; omega) _).alloc (by simp; omega) _
  have hS := Four.start w (.slice A f.1.length c1) (.slice A' l2 c2) (.int .i64 e0) (.int .i64 e1) (.int .i64 0) (.int .i64 0)
  have hz : w.heap.size + 3 < ((((w.alloc (.cells #[.slice A f.1.length c1, .slice A' l2 c2] 45)).alloc (.cells #[.int .i64 e0, .int .i64 e1] 31)).alloc (.cells #[.int .i64 0] 3)).alloc (.cells #[.int .i64 0] 24)).heap.size := by simp
  have HS := Lib.hid hS
  have HZ := Lib.hid hz
  clear hS hz
  gi_wp2_with (first | (refine ⟨trivial, ?_⟩; gi_at_call 16; refine (callsIn_wide.2 (hR _ hB4)).mono ?_; rintro e w1 ⟨rfl, hb⟩; obtain ⟨k0, k1, k2, k3, k4, k5, k6, k7⟩ := (HS.out.below hb HZ.out).cells) | (refine ⟨trivial, ?_⟩; gi_at_call 23; refine (callsIn_wide.2 (hF _)).mono ?_; rintro e w2 ⟨rfl, hb2⟩; have HW2 := Lib.hid ((HS.out.below hb HZ.out).below hb2 (Nat.lt_of_lt_of_le HZ.out hb.size)); have HZ2 := Lib.hid (Nat.lt_of_lt_of_le (Nat.lt_of_lt_of_le HZ.out hb.size) hb2.size); have HW3 := Lib.hid (HW2.out.below (((Below.refl w2.heap.size w2).alloc (Nat.le_refl _) (.cells #[.int .i64 0] 3)).alloc (by simp) (.cells #[.int .i64 0] 3)) HZ2.out); obtain ⟨m0, m1, m2, m3, m4, m5, m6, m7⟩ := HW2.out.cells; obtain ⟨n0, n1, n2, n3, n4, n5, n6, n7⟩ := HW3.out.cells) | (refine ⟨trivial, ?_⟩; gi_at_call 24; refine (pieces_in _ _ _ _ _ _ _ _ _ _).mono ?_; rintro e w3 ⟨rfl, rfl⟩))
  obtain ⟨z2, hz2⟩ : ∃ z2, w2.heap.size = z2 := ⟨_, rfl⟩
  have hbel2 : Below w.heap.size w w2 := (hB4.trans (hb.mono (by simp; omega))).trans (hb2.mono (Nat.le_trans (by simp; omega) hb.size))
  have q0 := World.alloc_heap_new w2 (.cells #[.int .i64 0] 3)
  have q1 := World.alloc_heap_new (w2.alloc (.cells #[.int .i64 0] 3)) (.cells #[.int .i64 0] 3)
  have q2 := World.alloc_heap_new ((w2.alloc (.cells #[.int .i64 0] 3)).alloc (.cells #[.int .i64 0] 3)) (.cells #[.slice A f.1.length c1, .slice A' l2 c2] 45)
  have q3 := World.alloc_heap_new (((w2.alloc (.cells #[.int .i64 0] 3)).alloc (.cells #[.int .i64 0] 3)).alloc (.cells #[.slice A f.1.length c1, .slice A' l2 c2] 45)) (.cells #[.int .i64 e0, .int .i64 e1] 31)
  simp only [World.size_alloc] at q1 q2 q3
  have r0 := (Below.heap_alloc (((w2.alloc (.cells #[.int .i64 0] 3)).alloc (.cells #[.int .i64 0] 3)).alloc (.cells #[.slice A f.1.length c1, .slice A' l2 c2] 45)) (.cells #[.int .i64 e0, .int .i64 e1] 31) w2.heap.size (by simp only [World.size_alloc]; omega)).trans ((Below.heap_alloc _ _ _ (by simp only [World.size_alloc]; omega)).trans ((Below.heap_alloc _ _ _ (by simp only [World.size_alloc]; omega)).trans q0))
  have r1 := (Below.heap_alloc (((w2.alloc (.cells #[.int .i64 0] 3)).alloc (.cells #[.int .i64 0] 3)).alloc (.cells #[.slice A f.1.length c1, .slice A' l2 c2] 45)) (.cells #[.int .i64 e0, .int .i64 e1] 31) (w2.heap.size + 1) (by simp only [World.size_alloc]; omega)).trans ((Below.heap_alloc _ _ _ (by simp only [World.size_alloc]; omega)).trans q1)
  have r2 := (Below.heap_alloc (((w2.alloc (.cells #[.int .i64 0] 3)).alloc (.cells #[.int .i64 0] 3)).alloc (.cells #[.slice A f.1.length c1, .slice A' l2 c2] 45)) (.cells #[.int .i64 e0, .int .i64 e1] 31) (w2.heap.size + 1 + 1) (by simp only [World.size_alloc]; omega)).trans q2
  have hbW : Below w2.heap.size w2 ((((w2.alloc (.cells #[.int .i64 0] 3)).alloc (.cells #[.int .i64 0] 3)).alloc (.cells #[.slice A f.1.length c1, .slice A' l2 c2] 45)).alloc (.cells #[.int .i64 e0, .int .i64 e1] 31)) :=
    ((((Below.refl _ w2).alloc (Nat.le_refl _) _).alloc (by simp) _).alloc (by simp; omega) _).alloc (by simp; omega) _
  have hsz : ((((w2.alloc (.cells #[.int .i64 0] 3)).alloc (.cells #[.int .i64 0] 3)).alloc (.cells #[.slice A f.1.length c1, .slice A' l2 c2] 45)).alloc (.cells #[.int .i64 e0, .int .i64 e1] 31)).heap.size = w2.heap.size + 4 := by simp
  have hW4 := HW2.out.below hbW HZ2.out
  have hzz := HZ2.out
  obtain ⟨W0, hW0⟩ : ∃ W0, (((w2.alloc (.cells #[.int .i64 0] 3)).alloc (.cells #[.int .i64 0] 3)).alloc (.cells #[.slice A f.1.length c1, .slice A' l2 c2] 45)).alloc (.cells #[.int .i64 e0, .int .i64 e1] 31) = W0 := ⟨_, rfl⟩
  rw [hW0] at r0 r1 r2 q3 hbW hsz hW4 ⊢
  clear hW0 HW3 HW2 HZ2 HS HZ hB4 m0 m1 m2 m3 m4 m5 m6 m7 n0 n1 n2 n3 n4 n5 n6 n7 k0 k1 k2 k3 k4 k5 k6 k7 q0 q1 q2
  have hbel0 : Below w.heap.size w W0 := hbel2.trans (hbW.mono hbel2.size)
  clear hbW hb hb2 hz2 hbel2 hR hF
  have hzw : w.heap.size + 3 < W0.heap.size := by omega
  have hsz' : w2.heap.size + 4 ≤ W0.heap.size := by omega
  clear hsz
  refine wpIn_rangeFunc_ownH rfl (by omega) (gf := 29) (lb := #[.pointer (some ⟨w2.heap.size + 1 + 1 + 1, 0, none⟩), .pointer (some ⟨w2.heap.size + 1 + 1, 0, none⟩)]) rfl trivial (enters_of Try.func29 (by kernel_rfl) rfl)
    (pieces_stops 7 (by omega) f A A' c1 l2 c2 e0 e1 all hall hlen he0 w (w2.heap.size + 1 + 1) (w2.heap.size + 1 + 1 + 1) W0 hbel0 r2 q3 hcells hvals)
    (fun h k => h.trans k) (fun W l o o' hl ho hoc how => ⟨belowK_b (w := w) (Nat.le_refl _) W l o o' (by omega) ho hoc how, World.putObj_heap_other (by omega), World.putObj_heap_other (by omega)⟩) (Below.refl _ _) (fun _ => rfl)
    (fun pre W => ∃ q, SumI w W0.heap.size (w.heap.size + 1 + 1) (w.heap.size + 1 + 1 + 1) w2.heap.size (w2.heap.size + 1) pre W q)
    (fun c pre W => SumX w (w.heap.size + 1 + 1) (w.heap.size + 1 + 1 + 1) c pre W)
    (sumI_own (by omega)) (sumX_own (by omega)) ⟨(0, 0), rfl, ⟨by decide, by decide, by decide, by decide⟩, r0, r1, hW4.b2, hW4.b3, hbel0, Nat.le_refl _⟩
    (SumA W0.heap.size (fun x Bx => { tmps := #[.agg #[.slice A f.1.length c1, .slice A' l2 c2], .agg #[.int .i64 e0, .int .i64 e1], .pointer (some ⟨w.heap.size, 0, none⟩), .pointer (some ⟨w.heap.size + 1, 0, none⟩), .pointer (some ⟨w.heap.size + 1 + 1, 0, none⟩), .pointer (some ⟨w.heap.size + 1 + 1 + 1, 0, none⟩), .pointer (some ⟨w2.heap.size, 0, none⟩), .pointer (some ⟨w2.heap.size + 1, 0, none⟩), .pointer (some ⟨Bx, 0, none⟩), .int .i64 x.2.2, undef, undef,
      .agg #[.slice A f.1.length c1, .slice A' l2 c2], .bool true, .bool false, .bool false, .agg #[.int .i64 e0, .int .i64 e1], .bool true, .bool false, .bool false, .agg #[.slice A f.1.length c1, .slice A' l2 c2], .agg #[.int .i64 e0, .int .i64 e1], .func (.func 29) #[] #[.pointer (some ⟨w2.heap.size + 1 + 1 + 1, 0, none⟩), .pointer (some ⟨w2.heap.size + 1 + 1, 0, none⟩)],
      .agg #[.int .i64 x.1, .int .i64 x.2.1], .int .i64 x.2.2, undef, undef, undef, undef, undef, undef, undef, undef, undef, undef, undef, undef, undef, undef, undef, undef, undef, undef, undef, undef, undef, undef, undef, undef, undef, undef], defers := [] }))
    sumA_own ?assign ?body ?done ?stop
  case assign =>
    rintro l pre x W K ⟨q, hi⟩ hK
    obtain ⟨⟨x0, x1, v⟩, hx⟩ := x
    gi_wp2
    have hsz1 := hi.sz
    exact hK _ _ ((KeepsOthers.alloc _ _).from _) (KpS.below ((Below.refl _ W).alloc (Nat.le_refl _) _) hi.bel.size (by omega) (by omega))
      ⟨q, hi.sum, hi.inv, hi.x6.alloc _, hi.x7.alloc _, hi.x4.alloc _, hi.x5.alloc _, hi.bel.alloc hi.bel.size _, by simp; omega⟩ ⟨W.heap.size, hsz1, World.alloc_heap_new W _, rfl⟩
  case body =>
    rintro l pre x a' W hl ⟨r, hr⟩ ⟨q, hi⟩ ⟨Bx, hBx, bX, rfl⟩ hlt
    obtain ⟨⟨x0, x1, v⟩, hx⟩ := x
    obtain ⟨s, a⟩ := q
    have hx' : 1 ≤ x0 ∧ x0 < x1 ∧ x1 ≤ 292195 ∧ -4000000000000000000 ≤ v ∧ v ≤ 4000000000000000000 := hx
    obtain ⟨y1, y2, y3, y4, y5⟩ := hx'
    have hinv : 0 ≤ a ∧ a ≤ 4000000000000000000 ∧ -a ≤ s ∧ s ≤ a := hi.inv
    obtain ⟨i1, i2, i3, i4⟩ := hinv
    have bX' : W.heap[Bx]? = some (.cells #[.int .i64 x0, .int .i64 x1] 31 (0, 0)) := bX
    have cX0 : W.cell? ⟨Bx, 0, none⟩ = some (.int .i64 x0) := cell_of_block bX' 0
    have cX1 : W.cell? ⟨Bx, 1, none⟩ = some (.int .i64 x1) := cell_of_block bX' 1
    have c6 : W.cell? ⟨w2.heap.size, 0, none⟩ = some (.int .i64 s) := hi.x6.cell
    have c7 : W.cell? ⟨w2.heap.size + 1, 0, none⟩ = some (.int .i64 a) := hi.x7.cell
    have f6 := hi.x6.frozen
    have f7 := hi.x7.frozen
    have c4 := hi.x4.cell
    have f4 := hi.x4.frozen
    have c5 := hi.x5.cell
    have f5 := hi.x5.frozen
    have HB := Lib.hid bX'
    clear bX bX' hr
    gi_wp2
    · have hc : (4000000000000000000 - a) / (x1 - x0) < if v < -v then -v else v := by assumption
      exact ⟨((KeepsOthers.setCell _ _ _).trans (KeepsOthers.setCell _ _ _)).from _, sumBody_stop hi hx hc (by omega) (by omega) (by omega)⟩
    · have hc : (4000000000000000000 - a) / (x1 - x0) < if v < -v then -v else v := by assumption
      exact ⟨((KeepsOthers.setCell _ _ _).trans (KeepsOthers.setCell _ _ _)).from _, sumBody_stop hi hx hc (by omega) (by omega) (by omega)⟩
    · have hc : (if v < -v then -v else v) ≤ (4000000000000000000 - a) / (x1 - x0) := by assumption
      have hv : v < -v := by assumption
      exact ⟨((KeepsOthers.setCell _ _ _).trans (KeepsOthers.setCell _ _ _)).from _, kp_set2 W _ _ (by omega) (by omega) (by omega) (by omega) (by omega) (by omega), _, _,
        sumBody_next hi hx hc (by rw [if_pos hv]) (by omega) (by omega) (by omega) (by omega) (by omega) (by omega) (by omega)⟩
    · have hc : (if v < -v then -v else v) ≤ (4000000000000000000 - a) / (x1 - x0) := by assumption
      have hv : ¬ v < -v := by omega
      exact ⟨((KeepsOthers.setCell _ _ _).trans (KeepsOthers.setCell _ _ _)).from _, kp_set2 W _ _ (by omega) (by omega) (by omega) (by omega) (by omega) (by omega), _, _,
        sumBody_next hi hx hc (by rw [if_neg hv]) (by omega) (by omega) (by omega) (by omega) (by omega) (by omega) (by omega)⟩
  case done =>
    rintro D zs W hD rfl ⟨q, hi⟩ hK
    have c6 := hi.x6.cell
    have c4 := hi.x4.cell
    have f4 := hi.x4.frozen
    have c5 := hi.x5.cell
    have f5 := hi.x5.frozen
    gi_wp2
    have hK' := ((KeepsOthers.setCell W ⟨w.heap.size + 1 + 1, 0, none⟩ (.int .i64 q.1)).trans (KeepsOthers.setCell _ ⟨w.heap.size + 1 + 1 + 1, 0, none⟩ (.int .i64 0))).same D _ hK rfl
    have x4' := (hi.x4.set (.int .i64 q.1)).other (B' := w.heap.size + 1 + 1 + 1) (by omega) (.int .i64 0)
    have x5' := (hi.x5.other (B' := w.heap.size + 1 + 1) (by omega) (.int .i64 q.1)).set (.int .i64 0)
    have d4 := cell_kept x4'.cell (grownBy_putObj' _ D (.deferred none)) (fun r e => by cases e; exact ⟨_, hK', rfl⟩)
    have d5 := cell_kept x5'.cell (grownBy_putObj' _ D (.deferred none)) (fun r e => by cases e; exact ⟨_, hK', rfl⟩)
    have hbb := (hi.bel.setCell (p := ⟨w.heap.size + 1 + 1, 0, none⟩) (by show w.heap.size ≤ w.heap.size + 1 + 1; omega) (.int .i64 q.1)).setCell (p := ⟨w.heap.size + 1 + 1 + 1, 0, none⟩) (by show w.heap.size ≤ w.heap.size + 1 + 1 + 1; omega) (.int .i64 0)
    refine ⟨by simp, .inl ⟨_, _, rfl, run_takeDeferred hK', ?_⟩⟩
    refine ⟨.tuple #[.int .i64 q.1, .int .i64 0], ?_, ?_, hbb.trans (belowK_b (w := w) (Nat.le_refl _) _ D _ _ (by omega) hK' rfl rfl)⟩
    · simp [results, Try.results15, go_sem, d4, d5]
    · rw [hi.sum]
      rfl
  case stop =>
    rintro D c pre W hD ⟨r, rfl⟩ h hK
    obtain rfl := h.ret
    have c4 := h.x4.cell
    have f4 := h.x4.frozen
    have c5 := h.x5.cell
    have f5 := h.x5.frozen
    gi_wp2
    have d4 := cell_kept h.x4.cell (grownBy_putObj' _ D (.deferred none)) (fun r e => by cases e; exact ⟨_, hK, rfl⟩)
    have d5 := cell_kept h.x5.cell (grownBy_putObj' _ D (.deferred none)) (fun r e => by cases e; exact ⟨_, hK, rfl⟩)
    refine ⟨by simp, .inl ⟨_, _, rfl, run_takeDeferred hK, ?_⟩⟩
    refine ⟨.tuple #[.int .i64 0, .int .i64 5], ?_, ?_, h.bel.trans (belowK_b (w := w) (Nat.le_refl _) _ D _ _ (by omega) hK rfl rfl)⟩
    · simp [results, Try.results15, go_sem, d4, d5]
    · rw [List.map_append, sumGo_append, h.sum]
      rfl

end Go.Proofs.Ytbfcnjddddjbbaa
