/-
  Parts of the proof, one behind the other: I21, I22, I23, I12, I13, I24, I25, I15, I26, I27, I29, I30, N4, K1, K2, N5, I31, I32, I33, I35, L0, L1, N6, N7, N8, L2, N13, N14, N16, N15, N17, N18, N19.
-/
import Derived.Test.YtplkgghjldndkaaMe
import Derived.Defers
import Derived.MapKept
import Derived.Carry
import Derived.WalkKit
import Derived.RegionTactic
namespace Go.Proofs.Ytplkgghjldndkaa
open Go Go.Ab Go.RowKit Go.Proofs Go.Shelf
theorem vers_cells {w : World} {F : Nat -> Prop} {l : List verT.den} {v : Value} (h : RepT w F (.sl verT) l (fun _ u => u = v)) :
  ∃ (A : Option Addr) (cap : Nat) (b off : Nat) (c : Nat -> VC), v = .slice A l.length cap /\ (0 < l.length -> A = some ⟨b, off, none⟩ /\ F b) /\
   (∀ k j u, k < l.length -> (arr9 (c k))[j]? = some u -> w.cell? ⟨b, off + (k * 9 + j), none⟩ = some u) /\ ∀ k x, l[k]? = some x -> (c k).p 0 = x.1 /\ RepV w F verT x (agg9 (c k)) := by
 obtain ⟨A, cap, h0, h1, h2, h3⟩ := h
 by_cases hp : 0 < l.length
 ·obtain ⟨ad, hA, hF, hc⟩ := h3 0 l[0] (List.getElem?_eq_getElem hp)
  have hsp : ad.spot = none := by
   have hc' : w.cell? (ad.add (0 * verT.size + 0)) = some (.int .i64 l[0].1) := hc.1.1
   have he : ad.add (0 * verT.size + 0) = ad := by simp [Addr.add]
   rw [he] at hc'
   unfold World.cell? at hc'
   split at hc'
   ·split at hc'
    ·cases hc'
    ·rename_i hsp
     cases hsp2 : ad.spot with
     | none => rfl
     | some _ => rw [hsp2] at hsp; exact absurd rfl hsp
   ·cases hc'
  obtain ⟨b, off, sp⟩ := ad
  simp only at hsp
  subst hsp
  have hall : ∀ k, ∃ d : VC, ∀ x, l[k]? = some x -> (∀ j u, (arr9 d)[j]? = some u -> w.cell? ⟨b, off + (k * 9 + j), none⟩ = some u) /\ d.p 0 = x.1 /\ RepV w F verT x (agg9 d) := by
   intro k
   cases hk : l[k]? with
   | none => exact ⟨⟨fun _ => 0, fun _ => none, fun _ => 0, fun _ => 0⟩, fun x hx => by cases hx⟩
   | some x =>
    obtain ⟨ad', hA', _, hr⟩ := h3 k x hk
    rw [hA] at hA'
    cases hA'
    obtain ⟨d, hd, hd0⟩ := ver_cells hr
    refine ⟨d, fun y hy => ?_⟩
    cases hy
    have hcell : ∀ j u, (arr9 d)[j]? = some u -> w.cell? ⟨b, off + (k * 9 + j), none⟩ = some u := fun j u hj => by
     have := hd j u hj
     rw [show verT.size = 9 from rfl] at this
     have e : (⟨b, off, none⟩ : Addr).add (k * 9 + j) = ⟨b, off + (k * 9 + j), none⟩ := by unfold Addr.add; split <;> simp_all
     rw [e] at this
     exact this
    refine ⟨hcell, hd0, rfl, ⟨fun _ => ⟨_, rfl⟩, fun _ => rfl⟩, ?_⟩
    refine hr.mono (fun _ h => h) (fun _ _ => rfl) fun j u hj hu => ?_
    have hj9 : j < (arr9 d).size := hj
    have h2 := hd j (arr9 d)[j] (Array.getElem?_eq_getElem hj9)
    have h3 : some u = some (arr9 d)[j] := hu.symm.trans h2
    show (arr9 d)[j]? = some u
    rw [Array.getElem?_eq_getElem hj9]
    exact h3.symm
  obtain ⟨c, hcc⟩ := Classical.axiomOfChoice hall
  refine ⟨A, cap, b, off, c, h0.symm, fun _ => ⟨hA, hF⟩, fun k j u hk hj => (hcc k l[k] (List.getElem?_eq_getElem hk)).1 j u hj, fun k x hx => (hcc k x hx).2⟩
 ·refine ⟨A, cap, 0, 0, fun _ => ⟨fun _ => 0, fun _ => none, fun _ => 0, fun _ => 0⟩, h0.symm, fun h => absurd h hp, fun k j u hk => absurd hk (by omega), fun k x hx => ?_⟩
  have := (List.getElem?_eq_some_iff.1 hx).1
  omega
theorem verAt_app (day : Int) (b : List verT.den) : (a : List verT.den) -> (∀ v ∈ a, ¬ v.1 <= day) -> verAt day (a ++ b) = verAt day b
 | [], _ => rfl
 | v :: a, h => by
  have hv : ¬ v.1 <= day := h v (by simp)
  have : verAt day (v :: a ++ b) = verAt day (a ++ b) := if_neg hv
  rw [this]
  exact verAt_app day b a fun x hx => h x (by simp [hx])
theorem verAt_no {day : Int} {l : List verT.den} (h : ∀ v ∈ l, ¬ v.1 <= day) : verAt day l.reverse = (noVer, 7) := by
 have := verAt_app day [] l.reverse fun v hv => h v (List.mem_reverse.1 hv)
 rw [List.append_nil] at this
 exact this
theorem verAt_yes {day : Int} {l : List verT.den} {k : Nat} {x : verT.den} (hk : l[k]? = some x) (hx : x.1 <= day) (h : ∀ j y, k < j -> l[j]? = some y -> ¬ y.1 <= day) : verAt day l.reverse = (x, 0) := by
 obtain ⟨hlt, rfl⟩ := List.getElem?_eq_some_iff.1 hk
 have hsplit : l = l.take k ++ l[k] :: l.drop (k + 1) := by
  rw [← List.drop_eq_getElem_cons hlt, List.take_append_drop]
 have hr : l.reverse = (l.drop (k + 1)).reverse ++ (l[k] :: (l.take k).reverse) := by
  conv => lhs; rw [hsplit]
  simp
 rw [hr, verAt_app]
 ·exact if_pos hx
 ·intro v hv
  obtain ⟨j, hj⟩ := List.getElem?_of_mem (List.mem_reverse.1 hv)
  rw [List.getElem?_drop] at hj
  exact h _ v (by omega) hj
def fewT (t : tarT.den) : Prop := t.1.length <= 1000000 /\ ∀ v ∈ t.1, verFew v
def cTarAt : Ct := ⟨[.d tarT, .d i64], [verT, i64], fun x => ((verAt x.2.1 x.1.1.reverse).1, (verAt x.2.1 x.1.1.reverse).2, ()), fun x => [fewT x.1]⟩
theorem noVer_rep (w : World) (F : Nat -> Prop) : RepV w F verT noVer (.agg zero9) := by
 have h0 : inR .i64 0 := ⟨by decide, by decide⟩
 refine ⟨rfl, ⟨fun _ => ⟨_, rfl⟩, fun _ => rfl⟩, ⟨rfl, h0⟩, ⟨⟨rfl, h0⟩, ⟨rfl, h0⟩, ⟨rfl, h0⟩, ⟨rfl, h0⟩, trivial⟩, ?_, ?_, ?_, ⟨rfl, h0⟩, trivial⟩
 all_goals exact ⟨none, 0, rfl, Nat.le_refl _, Nat.zero_le _, fun i x hx => by simp [noVer] at hx⟩
theorem rep_pair2 {w : World} {F : Nat -> Prop} {x : verT.den} {n : Int} {u : Value} (h : RepV w F verT x u) (hn : -9223372036854775808 <= n /\ n <= 9223372036854775807) : RepR w F [verT, i64] (x, n, ()) (.tuple #[u, .int .i64 n]) :=
 ⟨_, rfl, _, _, rfl, h, _, _, rfl, ⟨rfl, ⟨fun h => (by cases h), fun ⟨cs, h⟩ => (by cases h)⟩, rfl, hn⟩, rfl⟩
theorem tarAt_ok : SoundCt Try.prog 20 cTarAt := by
 refine ⟨enters (fn := Try.f20) (by kernel_rfl) rfl rfl, fun w F xs vs hbd hr hok => ?_⟩
 obtain ⟨⟨l, ut⟩, day, _⟩ := xs
 obtain ⟨va, vs', rfl, hva, vb, vs'', rfl, hvb, hn⟩ := hr
 cases hn
 have hva' : RepV w F tarT (l, ut) va := hva
 have hvb' : RepV w F i64 day vb := hvb
 have hb2 : vb = .int .i64 day := by
  have h : RepA Try.prog w F (fun _ _ => True) (encV i64 day) vb := encV_rep hvb'
  exact h.2.1
 subst hb2
 obtain ⟨cs, rfl⟩ := hva'.2.1.1 rfl
 have hs : cs.size = 1 := hva'.1
 obtain ⟨hsl, _⟩ : RepT w F (.sl verT) l (fun j u => cs[j]? = some u) /\ True := ⟨hva'.2.2.1, trivial⟩
 have hcs : cs = #[cs.getD 0 undef] := by
  apply Array.ext
  ·simp [hs]
  ·intro i h1 h2
   have : i = 0 := by omega
   subst this
   simp [Array.getD, hs]
 rw [hcs]
 have hsl' : RepT w F (.sl verT) l (fun _ u => u = cs.getD 0 undef) := by
  obtain ⟨A, c, h1, h2⟩ := hsl
  refine ⟨A, c, ?_, h2⟩
  simp [Array.getD, hs]
  rw [Array.getElem?_eq_getElem (by omega)] at h1
  exact (Option.some.inj h1).symm
 obtain ⟨A, cap, b, off, c, e1, hA, hc, hx⟩ := vers_cells hsl'
 rw [e1]
 obtain ⟨hfew1, hfew2⟩ : fewT (l, ut) := hok
 have key := at_in b off l.length cap day c (fun k => l.getD k verT.dflt) F w hfew1 A (fun h => ⟨(hA h).1, hbd b (hA h).2⟩) hbd hc (fun k W hk hW => by
  obtain ⟨_, h2⟩ := hx k l[k] (List.getElem?_eq_getElem hk)
  have e : l.getD k verT.dflt = l[k] := by rw [List.getD_eq_getElem?_getD, List.getElem?_eq_getElem hk]; rfl
  rw [e]
  exact own_calls hbd hW h2 (hfew2 _ (List.getElem_mem hk)))
 refine (callsIn_wide.1 key).mono ?_
 rintro e w' ⟨he, hbel⟩
 rcases he with ⟨rfl, hno⟩ | ⟨k, d, F', hk, hday, hafter, rfl, hrep, hF'⟩
 ·have hv : verAt day l.reverse = (noVer, 7) := verAt_no fun v hv => by
   obtain ⟨j, hj⟩ := List.getElem?_of_mem hv
   have := hno j (List.getElem?_eq_some_iff.1 hj).1
   dsimp only at this
   rw [(hx j v hj).1] at this
   exact this
  refine ⟨_, F, rfl, hbel, fun _ h => h, fun b hb => ⟨.inl hb, Nat.lt_of_lt_of_le (hbd b hb) hbel.size⟩, ?_⟩
  show RepR w' F [verT, i64] ((verAt day l.reverse).1, (verAt day l.reverse).2, ()) _
  rw [hv]
  exact rep_pair2 (noVer_rep _ _) (n := 7) (by decide)
 ·have hlk : l[k]? = some l[k] := List.getElem?_eq_getElem hk
  have hv : verAt day l.reverse = (l[k], 0) := verAt_yes hlk (by dsimp only at hday; rw [(hx k _ hlk).1] at hday; exact hday) fun j y hj hy => by
   have := hafter j hj (List.getElem?_eq_some_iff.1 hy).1
   dsimp only at this
   rw [(hx j y hy).1] at this
   exact this
  have e : l.getD k verT.dflt = l[k] := by rw [List.getD_eq_getElem?_getD, hlk]; rfl
  dsimp only at hrep
  rw [e] at hrep
  refine ⟨_, fun b => F b ∨ F' b, rfl, hbel, fun _ h => .inl h, fun b hb => ?_, ?_⟩
  ·rcases hb with h | h
   ·exact ⟨.inl h, Nat.lt_of_lt_of_le (hbd b h) hbel.size⟩
   ·exact hF' b h
  ·show RepR w' _ [verT, i64] ((verAt day l.reverse).1, (verAt day l.reverse).2, ()) _
   rw [hv]
   exact rep_pair2 (hrep.mono (fun _ h => .inr h) (fun _ _ => rfl)) (n := 0) (by decide)
attribute [local go_sem] Oper.semAt_some
theorem all1_run (Bn Ba Bo : Nat) (k : Int) (A : Option Addr) (len cap : Nat) (w : World) (hn : Boxed w Bn 3 (.int .i64 k)) (ha : Boxed w Ba 179 (.slice A len cap)) (ho : Boxed w Bo 4 (.bool false)) :
  CallsD Try.prog 124 #[.pointer (some ⟨Bn, 0, none⟩), .pointer (some ⟨Ba, 0, none⟩), .pointer (some ⟨Bo, 0, none⟩)] .returning w fun e u' w' =>
   u' = .returning /\ (∃ v, e = .returned v) /\ w' = w.setCell ⟨Bo, 0, none⟩ (.bool (decide (k = len))) := by
 have c1 := hn.cell
 have c2 := ha.cell
 have c3 := ho.cell
 have f3 := ho.frozen
 go_enter_d Try.func124, Try.ntmps124
 go_wp2
 go_end0
 exact ⟨⟨_, rfl⟩, by rw [Bool.beq_eq_decide_eq]⟩
structure AllI (w : World) (b off cap : Nat) (bs : Nat -> Bool) (k : Nat) (W : World) : Prop where
 x0 : Boxed W w.heap.size 179 (.slice (some ⟨b, off, none⟩) 4 cap)
 x1 : Boxed W (w.heap.size + 1) 4 (.bool false)
 x2 : Boxed W (w.heap.size + 2) 3 (.int .i64 k)
 bel : Below w.heap.size w W
 sz : w.heap.size + 3 <= W.heap.size
 yes : ∀ j, j < k -> bs j = true
structure FourFn (w : World) (b off : Nat) (g : Nat -> Nat) (caps : Nat -> Array Value) (bs : Nat -> Bool) : Prop where
 blk : b < w.heap.size
 cell : ∀ k, k < 4 -> w.cell? ⟨b, off + k, none⟩ = some (.func (.func (g k)) #[] (caps k))
 enter : ∀ k, k < 4 -> ∀ args w, (callFunc (g k) args).run Try.prog w = .ok (.enter (g k) args) w
 call : ∀ k, k < 4 -> ∀ W, Below w.heap.size w W -> Calls Try.prog (g k) (caps k) W fun e W' => e = .returned (.bool (bs k)) /\ Below W.heap.size W W'
theorem all_end {w W : World} {b off cap : Nat} {bs : Nat -> Bool} {k : Nat} {r : Bool} {a0 a4 a5 a7 a8 a9 a10 a11 a12 a13 a14 a15 a16 a17 a18 : Value} (hi : AllI w b off cap bs k W) (hr : decide ((k : Int) = (4 : Nat)) = r) :
    bodyPostD Try.prog Try.f103 (fun e w' => e = .returned (.bool r) /\ Below w.heap.size w w') .ret
      { tmps := #[a0, .pointer (some ⟨w.heap.size, 0, none⟩), .pointer (some ⟨w.heap.size + 1, 0, none⟩), .pointer (some ⟨w.heap.size + 1 + 1, 0, none⟩), a4, a5, .func (.func 124) #[] #[.pointer (some ⟨w.heap.size + 1 + 1, 0, none⟩), .pointer (some ⟨w.heap.size, 0, none⟩), .pointer (some ⟨w.heap.size + 1, 0, none⟩)], a7, a8, a9, a10, a11, a12, a13, a14, a15, a16, a17, a18],
        defers := [{ target := .fn (.func 124) #[.pointer (some ⟨w.heap.size + 1 + 1, 0, none⟩), .pointer (some ⟨w.heap.size, 0, none⟩), .pointer (some ⟨w.heap.size + 1, 0, none⟩)], args := #[] }] } W := by
  refine leaves_cons (f := 124) (args := #[.pointer (some ⟨w.heap.size + 2, 0, none⟩), .pointer (some ⟨w.heap.size, 0, none⟩), .pointer (some ⟨w.heap.size + 1, 0, none⟩)]) (by simp) (by simp [go_sem]) ?_
  refine (all1_run (w.heap.size + 2) w.heap.size (w.heap.size + 1) k _ 4 cap W hi.x2 hi.x0 hi.x1).mono ?_
  rintro e u' w'' ⟨rfl, ⟨v, rfl⟩, rfl⟩
  have c := (hi.x1.set (.bool (decide ((k : Int) = (4 : Nat))))).cell
  have hb := hi.bel.setCell (p := ⟨w.heap.size + 1, 0, none⟩) (by show w.heap.size <= w.heap.size + 1; omega) (.bool (decide ((k : Int) = (4 : Nat))))
  rw [hr] at c hb ⊢
  refine ⟨.bool r, ?_, rfl, hb⟩
  simp [results, Try.results103, go_sem, c]
set_option maxRecDepth 100000 in
set_option maxHeartbeats 1000000 in
theorem all_run (b off cap : Nat) (g : Nat -> Nat) (caps : Nat -> Array Value) (bs : Nat -> Bool) (w : World) (h : FourFn w b off g caps bs) :
    Calls Try.prog 103 #[.slice (some ⟨b, off, none⟩) 4 cap] w fun e w' => e = .returned (.bool (bs 0 && (bs 1 && (bs 2 && bs 3)))) /\ Below w.heap.size w w' := by
  have hmf : ∀ (fn : Fn) (first cap : Array Value) (w : World), (Instr.makeFunc fn first cap).run Try.prog w = .ok (.func fn first cap) w := fun _ _ _ _ => rfl
  go_enter_defers Try.func103, Try.ntmps103
  go_wp2
  have z0 := (Below.heap_alloc ((w.alloc (.cells #[.slice (some ⟨b, off, none⟩) 4 cap] 179)).alloc (.cells #[.bool false] 4)) (.cells #[.int .i64 0] 3) w.heap.size (by simp only [World.size_alloc]; omega)).trans ((Below.heap_alloc _ _ _ (by simp only [World.size_alloc]; omega)).trans (World.alloc_heap_new w (.cells #[.slice (some ⟨b, off, none⟩) 4 cap] 179)))
  have z1' := World.alloc_heap_new (w.alloc (.cells #[.slice (some ⟨b, off, none⟩) 4 cap] 179)) (.cells #[.bool false] 4)
  rw [World.size_alloc] at z1'
  have z1 := (Below.heap_alloc ((w.alloc (.cells #[.slice (some ⟨b, off, none⟩) 4 cap] 179)).alloc (.cells #[.bool false] 4)) (.cells #[.int .i64 0] 3) (w.heap.size + 1) (by simp only [World.size_alloc]; omega)).trans z1'
  have z2 : (((w.alloc (.cells #[.slice (some ⟨b, off, none⟩) 4 cap] 179)).alloc (.cells #[.bool false] 4)).alloc (.cells #[.int .i64 0] 3)).heap[w.heap.size + 2]? = some (.cells #[.int .i64 0] 3 (0, 0)) := by
    have := World.alloc_heap_new ((w.alloc (.cells #[.slice (some ⟨b, off, none⟩) 4 cap] 179)).alloc (.cells #[.bool false] 4)) (.cells #[.int .i64 0] 3)
    rwa [World.size_alloc, World.size_alloc] at this
  have hbel : Below w.heap.size w (((w.alloc (.cells #[.slice (some ⟨b, off, none⟩) 4 cap] 179)).alloc (.cells #[.bool false] 4)).alloc (.cells #[.int .i64 0] 3)) := (((Below.refl _ w).alloc (Nat.le_refl _) _).alloc (by simp) _).alloc (by simp; omega) _
  have hsz : (((w.alloc (.cells #[.slice (some ⟨b, off, none⟩) 4 cap] 179)).alloc (.cells #[.bool false] 4)).alloc (.cells #[.int .i64 0] 3)).heap.size = w.heap.size + 3 := by simp
  have hI0 : AllI w b off cap bs 0 (((w.alloc (.cells #[.slice (some ⟨b, off, none⟩) 4 cap] 179)).alloc (.cells #[.bool false] 4)).alloc (.cells #[.int .i64 0] 3)) := ⟨z0, z1, z2, hbel, by omega, fun j hj => by omega⟩
  go_loopw [9] (fun i wr => ∃ k : Nat, k <= 4 /\ i = .int .i64 k /\ AllI w b off cap bs k wr)
    (fun i _ => 4 - (intOf i).toNat)
  case atStart => exact ⟨0, by omega, rfl, hI0⟩
  case round =>
    obtain ⟨k, hk, rfl, hi⟩ := hrel
    by_cases hlt : k < 4
    · have hc : wr.cell? ⟨b, off + k, none⟩ = some (.func (.func (g k)) #[] (caps k)) := (hi.bel.cell (p := ⟨b, off + k, none⟩) h.blk).trans (h.cell k hlt)
      have he := h.enter k hlt
      have c2 := hi.x2.cell
      have f2 := hi.x2.frozen
      go_wp2
      refine (h.call k hlt wr hi.bel).mono ?_
      rintro e w1 ⟨rfl, hb1⟩
      have hs := hi.sz
      have y0 : Boxed w1 _ _ _ := (hb1.block _ (by omega)).trans hi.x0
      have y1 : Boxed w1 _ _ _ := (hb1.block (w.heap.size + 1) (by omega)).trans hi.x1
      have y2 : Boxed w1 _ _ _ := (hb1.block (w.heap.size + 2) (by omega)).trans hi.x2
      have hi1 : AllI w b off cap bs k w1 := ⟨y0, y1, y2, hi.bel.trans (hb1.mono hi.bel.size), Nat.le_trans hi.sz hb1.size, hi.yes⟩
      have d2 := y2.cell
      have e2 := y2.frozen
      clear hc he c2 f2
      cases hbk : bs k with
      | false =>
        go_wp2
        refine all_end hi1 ?_
        have h4 : ¬ ((k : Int) = (4 : Nat)) := by omega
        rw [decide_eq_false h4]
        have : k = 0 ∨ k = 1 ∨ k = 2 ∨ k = 3 := by omega
        rcases this with rfl | rfl | rfl | rfl <;> rw [hbk] <;> simp
      | true =>
        go_wp2
        go_roundw
        case rel => exact ⟨k + 1, by omega, by simp, y0.other (by omega) _, y1.other (by omega) _, y2.set _, hi1.bel.setCell (p := ⟨w.heap.size + 2, 0, none⟩) (by show w.heap.size <= w.heap.size + 2; omega) _, by simp; exact hi1.sz, fun j hj => by
          by_cases hjk : j = k
          · rw [hjk]; exact hbk
          · exact hi.yes j (by omega)⟩
        case measure => simp [intOf]; omega
    · obtain rfl : k = 4 := by omega
      go_wp2
      refine all_end hi ?_
      rw [hi.yes 0 (by omega), hi.yes 1 (by omega), hi.yes 2 (by omega), hi.yes 3 (by omega)]
      rfl
end Go.Proofs.Ytplkgghjldndkaa
namespace Go.Proofs.Ytplkgghjldndkaa
open Go Go.Ab Go.RowKit Go.Proofs Go.Shelf
attribute [local go_sem] Oper.semAt_some
noncomputable def CI23 : Cx := cx [(92, cRightS), (106, cManyS), (78, cRisk), (100, cCovers)] []
theorem CI23_ok : CxOK Try.prog CI23 := cx_ok mixed ⟨rightS_ok, manyS_ok, risk_ok, terms_Covers_ok, trivial⟩ trivial
def tq (k : Nat) (t : termsT.den) : Bool := match k with
 | 0 => (cRightS.f (t.1, ())).1
 | 1 => bif decide ((cManyS.f (t.1, ())).1 ≥ 1) then decide ((cManyS.f (t.1, ())).1 <= 1100) else false
 | 2 => (cRisk.f (t.2.1, ())).1
 | _ => (cCovers.f (t.2.2.1, ())).1
def cTq (k : Nat) : Ct := ⟨[.ptr termsT], [.bool], fun x => (tq k x.1, ()), fun _ => []⟩
theorem tq0_ok : SoundCt Try.prog 104 (cTq 0) :=
 convF (fn_sound CI23_ok (Λ := lam0) (fn := Try.f104) (fr := fun x => Fr.val (tq 0 x.1, ())) (ps := [.ptr termsT]) (rs := [.bool]) (termsT.dflt, ()) (by kernel_rfl) (fun c E _ => lam0_ok c 0) (fun x => by kernel_rfl)) _ _ (fun _ _ _ _ _ _ => ⟨trivial, rfl⟩)
theorem tq1_ok : SoundCt Try.prog 105 (cTq 1) :=
 convF (fn_sound CI23_ok (Λ := lam0) (fn := Try.f105) (fr := fun x => Fr.val (tq 1 x.1, ())) (ps := [.ptr termsT]) (rs := [.bool]) (termsT.dflt, ()) (by kernel_rfl) (fun c E _ => lam0_ok c 0) (fun x => by kernel_rfl)) _ _ (fun _ _ _ _ _ _ => ⟨trivial, rfl⟩)
theorem tq2_ok : SoundCt Try.prog 107 (cTq 2) :=
 convF (fn_sound CI23_ok (Λ := lam0) (fn := Try.f107) (fr := fun x => Fr.val (tq 2 x.1, ())) (ps := [.ptr termsT]) (rs := [.bool]) (termsT.dflt, ()) (by kernel_rfl) (fun c E _ => lam0_ok c 0) (fun x => by kernel_rfl)) _ _ (fun _ _ _ _ _ _ => ⟨trivial, rfl⟩)
theorem tq3_ok : SoundCt Try.prog 108 (cTq 3) :=
 convF (fn_sound CI23_ok (Λ := lam0) (fn := Try.f108) (fr := fun x => Fr.val (tq 3 x.1, ())) (ps := [.ptr termsT]) (rs := [.bool]) (termsT.dflt, ()) (by kernel_rfl) (fun c E _ => lam0_ok c 0) (fun x => by kernel_rfl)) _ _ (fun _ _ _ _ _ _ => ⟨trivial, rfl⟩)
def tqF : Nat -> Nat
 | 0 => 104
 | 1 => 105
 | 2 => 107
 | _ => 108
theorem tqF_ok : (k : Nat) -> k < 4 -> SoundCt Try.prog (tqF k) (cTq k)
 | 0, _ => tq0_ok
 | 1, _ => tq1_ok
 | 2, _ => tq2_ok
 | 3, _ => tq3_ok
 | n + 4, h => absurd h (by omega)
theorem tq_span {a b : Int} (hf : fullS (a, b, ()) = true) : rightS (a, b, ()) = true /\ decide (b - a ≥ 1) = true := by
 obtain ⟨h1, h2, h3⟩ := fullS_iff.1 hf
 refine ⟨?_, ?_⟩
 ·have h2' : a <= b := Int.le_of_lt h2
  simp only [rightS, Bool.and_eq_true, decide_eq_true_eq]
  exact ⟨h1, h2', h3⟩
 ·simp; omega
theorem terms_tq (t : termsT.den) : (tq 0 t && (tq 1 t && (tq 2 t && tq 3 t))) = termsB t := by
 obtain ⟨⟨a, b, _⟩, r, cs, _⟩ := t
 show (rightS (a, b, ()) && ((bif decide (manyS a b ≥ 1) then decide (manyS a b <= 1100) else false) && (riskB r.1 r.2.1 r.2.2.1 r.2.2.2.1 && coversL cs))) = (fullS (a, b, ()) && (decide (b - a <= 1100) && (riskB r.1 r.2.1 r.2.2.1 r.2.2.2.1 && coversL cs)))
 by_cases hf : fullS (a, b, ()) = true
 ·have hm : manyS a b = b - a := if_pos hf
  obtain ⟨hr, hge⟩ := tq_span hf
  rw [hm, hr, hf, hge]
  rfl
 ·have hm : manyS a b = 0 := if_neg hf
  have hf' : fullS (a, b, ()) = false := by simpa using hf
  rw [hm, hf']
  simp
set_option maxRecDepth 100000 in
set_option maxHeartbeats 1000000 in
theorem terms_run (c0 c1 c2 c3 c4 c5 c6 : Value) (R : Ending -> World -> Prop) (w : World)
  (hall : ∀ cap, Calls Try.prog 103 #[.slice (some ⟨w.heap.size + 1, 0, none⟩) 4 cap] ((w.alloc (.cells #[c0, c1, c2, c3, c4, c5, c6] 32)).alloc (.cells #[.func (.func (tqF 0)) #[] #[.pointer (some ⟨w.heap.size, 0, none⟩)], .func (.func (tqF 1)) #[] #[.pointer (some ⟨w.heap.size, 0, none⟩)], .func (.func (tqF 2)) #[] #[.pointer (some ⟨w.heap.size, 0, none⟩)], .func (.func (tqF 3)) #[] #[.pointer (some ⟨w.heap.size, 0, none⟩)]] 24)) R)
  (hR : ∀ e w', R e w' -> ∃ r, e = .returned (.bool r)) :
  Calls Try.prog 69 #[.agg #[c0, c1, c2, c3, c4, c5, c6]] w R := by
 have hmf : ∀ (fn : Fn) (first cap : Array Value) (w : World), (Instr.makeFunc fn first cap).run Try.prog w = .ok (.func fn first cap) w := fun _ _ _ _ => rfl
 go_enter Try.func69, Try.ntmps69
 go_wp2_with (go_at_call 103; refine (hall 4).mono ?_; rintro e w' hRe; obtain ⟨r, rfl⟩ := hR e w' hRe)
 exact hRe
theorem tRight_ok : SoundCt Try.prog 69 cTerms := by
 refine ⟨enters (fn := Try.f69) (by kernel_rfl) rfl rfl, fun w F xs vs hbd hr _ => ?_⟩
 obtain ⟨t, _⟩ := xs
 obtain ⟨va, vs', rfl, hva, hn⟩ := hr
 cases hn
 have hva' : RepV w F termsT t va := hva
 obtain ⟨cs, rfl⟩ := hva'.2.1.1 rfl
 have hs : cs.size = 7 := hva'.1
 obtain ⟨c0, c1, c2, c3, c4, c5, c6, rfl⟩ : ∃ c0 c1 c2 c3 c4 c5 c6, cs = #[c0, c1, c2, c3, c4, c5, c6] := by
  refine ⟨cs[0], cs[1], cs[2], cs[3], cs[4], cs[5], cs[6], ?_⟩
  apply Array.ext
  ·simp [hs]
  ·intro i h1 h2
   have : i < 7 := by omega
   match i, this with
   | 0, _ | 1, _ | 2, _ | 3, _ | 4, _ | 5, _ | 6, _ => rfl
 have hsz : ((w.alloc (.cells #[c0, c1, c2, c3, c4, c5, c6] 32)).alloc (.cells #[.func (.func (tqF 0)) #[] #[.pointer (some ⟨w.heap.size, 0, none⟩)], .func (.func (tqF 1)) #[] #[.pointer (some ⟨w.heap.size, 0, none⟩)], .func (.func (tqF 2)) #[] #[.pointer (some ⟨w.heap.size, 0, none⟩)], .func (.func (tqF 3)) #[] #[.pointer (some ⟨w.heap.size, 0, none⟩)]] 24)).heap.size = w.heap.size + 2 := by simp
 have z0 := (Below.heap_alloc (w.alloc (.cells #[c0, c1, c2, c3, c4, c5, c6] 32)) (.cells #[.func (.func (tqF 0)) #[] #[.pointer (some ⟨w.heap.size, 0, none⟩)], .func (.func (tqF 1)) #[] #[.pointer (some ⟨w.heap.size, 0, none⟩)], .func (.func (tqF 2)) #[] #[.pointer (some ⟨w.heap.size, 0, none⟩)], .func (.func (tqF 3)) #[] #[.pointer (some ⟨w.heap.size, 0, none⟩)]] 24) w.heap.size (by simp only [World.size_alloc]; omega)).trans (World.alloc_heap_new w (.cells #[c0, c1, c2, c3, c4, c5, c6] 32))
 have z1 := World.alloc_heap_new (w.alloc (.cells #[c0, c1, c2, c3, c4, c5, c6] 32)) (.cells #[.func (.func (tqF 0)) #[] #[.pointer (some ⟨w.heap.size, 0, none⟩)], .func (.func (tqF 1)) #[] #[.pointer (some ⟨w.heap.size, 0, none⟩)], .func (.func (tqF 2)) #[] #[.pointer (some ⟨w.heap.size, 0, none⟩)], .func (.func (tqF 3)) #[] #[.pointer (some ⟨w.heap.size, 0, none⟩)]] 24)
 have hbel : Below w.heap.size w ((w.alloc (.cells #[c0, c1, c2, c3, c4, c5, c6] 32)).alloc (.cells #[.func (.func (tqF 0)) #[] #[.pointer (some ⟨w.heap.size, 0, none⟩)], .func (.func (tqF 1)) #[] #[.pointer (some ⟨w.heap.size, 0, none⟩)], .func (.func (tqF 2)) #[] #[.pointer (some ⟨w.heap.size, 0, none⟩)], .func (.func (tqF 3)) #[] #[.pointer (some ⟨w.heap.size, 0, none⟩)]] 24)) := ((Below.refl _ w).alloc (Nat.le_refl _) _).alloc (by simp) _
 refine (terms_run c0 c1 c2 c3 c4 c5 c6 (fun e w' => e = .returned (.bool (termsB t)) /\ Below w.heap.size w w') w (fun cap => ?_) (fun e w' h => ⟨_, h.1⟩)).mono ?_
 ·rw [World.size_alloc] at z1
  generalize ((w.alloc (.cells #[c0, c1, c2, c3, c4, c5, c6] 32)).alloc (.cells #[.func (.func (tqF 0)) #[] #[.pointer (some ⟨w.heap.size, 0, none⟩)], .func (.func (tqF 1)) #[] #[.pointer (some ⟨w.heap.size, 0, none⟩)], .func (.func (tqF 2)) #[] #[.pointer (some ⟨w.heap.size, 0, none⟩)], .func (.func (tqF 3)) #[] #[.pointer (some ⟨w.heap.size, 0, none⟩)]] 24)) = W0 at *
  have hf : FourFn W0 (w.heap.size + 1) 0 tqF (fun _ => #[.pointer (some ⟨w.heap.size, 0, none⟩)]) (fun k => tq k t) := by
   refine ⟨by omega, fun k hk => ?_, fun k hk => (tqF_ok k hk).1, fun k hk W hW => ?_⟩
   ·rw [Nat.zero_add, cell_of_block z1 k]
    match k, hk with
    | 0, _ | 1, _ | 2, _ | 3, _ => rfl
   ·have hz : W.heap[w.heap.size]? = _ := (hW.block _ (by omega)).trans z0
    have hrep : RepT W (fun b => F b ∨ b = w.heap.size) termsT t (fun j u => W.cell? ((⟨w.heap.size, 0, none⟩ : Addr).add j) = some u) := by
     refine hva'.2.2.mono (fun _ h => .inl h) (fun b hb => (hW.block b (by have := hbd b hb; omega)).trans (hbel.block b (hbd b hb))) fun j u _ hu => ?_
     have e : (⟨w.heap.size, 0, none⟩ : Addr).add j = ⟨w.heap.size, j, none⟩ := by unfold Addr.add; split <;> simp_all
     rw [e, cell_of_block hz j]
     exact hu
    refine ((tqF_ok k hk).2 W (fun b => F b ∨ b = w.heap.size) (t, ()) [.pointer (some ⟨w.heap.size, 0, none⟩)] (fun b hb => ?_) ⟨_, [], rfl, ⟨⟨w.heap.size, 0, none⟩, rfl, .inr rfl, hrep⟩, rfl⟩ trivial).mono ?_
    ·have := hW.size
     rcases hb with h | h
     ·have := hbd b h; omega
     ·omega
    ·rintro e W' ⟨v, F', rfl, hb', _, _, hv⟩
     have hv' : RepA Try.prog W' F' (fun _ _ => True) (encV .bool (tq k t)) v := encV_rep hv
     exact ⟨by rw [show v = .bool (tq k t) from hv'.2], hb'⟩
  refine (all_run (w.heap.size + 1) 0 cap tqF _ (fun k => tq k t) W0 hf).mono ?_
  rintro e w' ⟨rfl, hb⟩
  rw [terms_tq]
  exact ⟨rfl, hbel.trans (hb.mono (by omega))⟩
 ·rintro e w' ⟨rfl, hb⟩
  exact ⟨_, F, rfl, hb, fun _ h => h, fun b h => ⟨.inl h, Nat.lt_of_lt_of_le (hbd b h) hb.size⟩, rfl, ⟨fun h => (by cases h), fun ⟨cs, h⟩ => (by cases h)⟩, rfl⟩
end Go.Proofs.Ytplkgghjldndkaa
namespace Go.Proofs.Ytplkgghjldndkaa
open Go Go.Ab Go.RowKit Go.Proofs
attribute [local go_sem] Oper.semAt_some
abbrev chkL : List (Int × Nat) := [(1, 98), (2, 99), (3, 101), (4, 102)]
def FnMap (w : World) (r : Nat) (es : List (Int × Nat)) : Prop := ∃ arr ck, w.heap[r]? = some (.map arr ck) /\ arr.toList.map (fun e => (e.key, e.val)) = es.map (fun x => (Value.int .i64 x.1, Value.func (.func x.2) #[] #[]))
theorem insert_new {P : Program} {w : World} {t kt et : TypeId} {r f : Nat} {es : List (Int × Nat)} {n : Int} (ht : P.underlying t = some (.map kt et)) (hk : P.underlying kt = some (.int .i64))
  (h : FnMap w r es) (hn : es.find? (fun x => x.1 == n) = none) :
  ∃ w', (Instr.mapUpdate t (.map (some r)) (.int .i64 n) (.func (.func f) #[] #[])).run P w = .ok () w' /\ FnMap w' r (es ++ [(n, f)]) /\ w'.heap.size = w.heap.size /\ (∀ b, b ≠ r -> w'.heap[b]? = w.heap[b]?) /\ w'.os = w.os /\ w'.tape = w.tape /\ w'.output = w.output := by
 obtain ⟨arr, ck, hr, he⟩ := h
 obtain ⟨j, hj⟩ := findNow_run (n := n) arr.toList es 0 he
 rw [hn] at hj
 have hck : (Instr.checkKey false 10000 kt (.int .i64 n)).run P w = .ok () w := checkKey_int hk false 9999 n
 have hob : (getObj r).run P w = .ok (.map arr ck) w := by simp [getObj, Sem.run, hr]
 have hlt : r < w.heap.size := (Array.getElem?_eq_some_iff.1 hr).1
 refine ⟨{ w with heap := w.heap.setIfInBounds r (.map (arr.push { key := .int .i64 n, val := .func (.func f) #[] #[], born := ck }) (ck + 1)) }, ?_, ?_, ?_, ?_, rfl, rfl, rfl⟩
 ·simp [Instr.mapUpdate, run_underlying ht, hob, hck, Instr.findKey, run_underlying hk, hj, Go.MapKept.run_setObj_map _ hr]
 ·refine ⟨_, _, by simp [hlt]; exact ⟨rfl, rfl⟩, ?_⟩
  simp [he]
 ·simp
 ·intro b hb
  simp [Array.getElem?_setIfInBounds, Ne.symm hb]
theorem under_ck : Try.prog.underlying 127 = some (.map 3 95) := by kernel_rfl
theorem under_i : Try.prog.underlying 3 = some (.int .i64) := by kernel_rfl
set_option maxRecDepth 100000 in
set_option maxHeartbeats 1000000 in
theorem checks_run (w : World) : Calls Try.prog 67 #[] w fun e w' => e = .returned (.map (some w.heap.size)) /\ FnMap w' w.heap.size chkL /\ Below w.heap.size w w' /\ w'.heap.size = w.heap.size + 1 := by
 have hmm := @run_makeMap Try.prog
 have s0 : FnMap (w.alloc (.map #[] 0)) w.heap.size [] := ⟨#[], 0, by show (w.heap.push _)[w.heap.size]? = _; exact Array.getElem?_push_size, rfl⟩
 go_enter Try.func67, Try.ntmps67
 obtain ⟨w1, r1, m1, z1, o1, a1, b1, c1⟩ := insert_new (n := 1) (f := 98) under_ck under_i s0 rfl
 obtain ⟨w2, r2, m2, z2, o2, a2, b2, c2⟩ := insert_new (n := 2) (f := 99) under_ck under_i m1 rfl
 obtain ⟨w3, r3, m3, z3, o3, a3, b3, c3⟩ := insert_new (n := 3) (f := 101) under_ck under_i m2 rfl
 obtain ⟨w4, r4, m4, z4, o4, a4, b4, c4⟩ := insert_new (n := 4) (f := 102) under_ck under_i m3 rfl
 go_wp2
 go_ret
 refine ⟨rfl, m4, ⟨?_, ?_, ?_, ?_, ?_⟩, ?_⟩
 ·rw [a4, a3, a2, a1]; rfl
 ·rw [b4, b3, b2, b1]; rfl
 ·rw [c4, c3, c2, c1]; rfl
 ·rw [z4, z3, z2, z1, World.alloc, Array.size_push]; omega
 ·intro b hb
  rw [o4 b (by omega), o3 b (by omega), o2 b (by omega), o1 b (by omega), World.alloc]
  rw [Array.getElem?_push_lt hb, Array.getElem?_eq_getElem hb]
 ·rw [z4, z3, z2, z1, World.alloc, Array.size_push]
def cChecks : Ct := ⟨[], [.fm chkL], fun _ => ((), ()), fun _ => []⟩
theorem checks_ok : SoundCt Try.prog 67 cChecks := by
 refine ⟨enters (fn := Try.f67) (by kernel_rfl) rfl rfl, fun w F xs vs hb hr _ => ?_⟩
 have hv : vs = [] := hr
 subst hv
 refine (checks_run w).mono ?_
 rintro e w' ⟨rfl, ⟨arr, ck, hr, he⟩, hbel, hsz⟩
 refine ⟨_, fun b => F b ∨ b = w.heap.size, rfl, hbel, fun b h => .inl h, fun b h => ⟨h.elim .inl (fun h => .inr (by omega)), h.elim (fun h => by have := hb b h; omega) (fun h => by omega)⟩, ?_⟩
 refine ⟨rfl, ⟨fun h => (by cases h), fun ⟨cs, h⟩ => (by cases h)⟩, w.heap.size, arr, ck, rfl, .inr rfl, hr, he⟩
end Go.Proofs.Ytplkgghjldndkaa
namespace Go.Proofs.Ytplkgghjldndkaa
open Go Go.Ab Go.RowKit Go.Proofs
noncomputable def CI13 : Cx := cx [(67, cChecks), (68, cDay), (98, cCk1), (99, cCk2), (101, cCk3), (102, cCk4)] []
theorem CI13_ok : CxOK Try.prog CI13 := cx_ok mixed ⟨checks_ok, day_ok, ck1_ok, ck2_ok, ck3_ok, ck4_ok, trivial⟩ trivial
def chG (c : changeT.den) : Bool := bif bif (chkL.find? (fun x => x.1 == c.2.2.1)).isSome then (cDay.f (c.1, ())).1 else false then (cDay.f (c.2.1, ())).1 else false
def fr_chR (x : denP [.d changeT]) : Fr (denL [.bool]) :=
 Fr.need (chG x.1 = true -> x.1.2.2.1 = 1 -> True)
  (Fr.need (chG x.1 = true -> x.1.2.2.1 ≠ 1 -> (x.1.2.2.1 = 2 -> True) /\ (x.1.2.2.1 ≠ 2 -> (x.1.2.2.1 = 3 -> True) /\ (x.1.2.2.1 ≠ 3 -> x.1.2.2.1 = 4)))
   (Fr.val (bif chG x.1 then (bif x.1.2.2.1 == 1 then cCk1.f (x.1, ()) else bif x.1.2.2.1 == 2 then cCk2.f (x.1, ()) else bif x.1.2.2.1 == 3 then cCk3.f (x.1, ()) else cCk4.f (x.1, ())).1 else false, ())))
theorem chk_some (k : Int) : (chkL.find? (fun x => x.1 == k)).isSome = decide (k = 1 ∨ k = 2 ∨ k = 3 ∨ k = 4) := by
 rw [Bool.eq_iff_iff]
 simp only [List.find?_isSome, chkL, List.mem_cons, List.not_mem_nil, or_false, beq_iff_eq, decide_eq_true_eq]
 constructor
 ·rintro ⟨x, rfl | rfl | rfl | rfl, h⟩
  ·exact .inl h.symm
  ·exact .inr (.inl h.symm)
  ·exact .inr (.inr (.inl h.symm))
  ·exact .inr (.inr (.inr h.symm))
 ·rintro (h | h | h | h)
  ·exact ⟨(1, 98), .inl rfl, h.symm⟩
  ·exact ⟨(2, 99), .inr (.inl rfl), h.symm⟩
  ·exact ⟨(3, 101), .inr (.inr (.inl rfl)), h.symm⟩
  ·exact ⟨(4, 102), .inr (.inr (.inr rfl)), h.symm⟩
theorem chR_eq (c : changeT.den) : (fr_chR (c, ())).ok /\ (fr_chR (c, ())).get = (changeB c, ()) := by
 have hk := chk_some c.2.2.1
 have hg : chG c = true -> c.2.2.1 = 1 ∨ c.2.2.1 = 2 ∨ c.2.2.1 = 3 ∨ c.2.2.1 = 4 := by
  intro h
  unfold chG at h
  rw [hk] at h
  by_cases hd : c.2.2.1 = 1 ∨ c.2.2.1 = 2 ∨ c.2.2.1 = 3 ∨ c.2.2.1 = 4
  ·exact hd
  ·rw [decide_eq_false hd] at h
   cases h
 refine ⟨⟨fun _ _ => trivial, fun h hn => ⟨fun _ => trivial, fun h2 => ⟨fun _ => trivial, fun h3 => ?_⟩⟩, trivial⟩, ?_⟩
 ·rcases hg h with h1 | h1 | h1 | h1
  ·exact absurd h1 hn
  ·exact absurd h1 h2
  ·exact absurd h1 h3
  ·exact h1
 ·show (bif chG c then (bif c.2.2.1 == 1 then (ck1 c, ()) else bif c.2.2.1 == 2 then (ck2 c, ()) else bif c.2.2.1 == 3 then (ck3 c, ()) else (ck4 c, ())).1 else false, ()) = (changeB c, ())
  unfold chG changeB kindB
  rw [hk]
  show ((bif bif bif _ then dayB c.1 else false then dayB c.2.1 else false then _ else false), ()) = _
  by_cases h1 : c.2.2.1 = 1
  ·simp only [h1, true_or, decide_true, cond_true, beq_self_eq_true, if_true]
   cases dayB c.1 <;> cases dayB c.2.1 <;> rfl
  ·by_cases h2 : c.2.2.1 = 2
   ·simp [h2]
    cases dayB c.1 <;> cases dayB c.2.1 <;> rfl
   ·by_cases h3 : c.2.2.1 = 3
    ·simp [h3]
     cases dayB c.1 <;> cases dayB c.2.1 <;> rfl
    ·by_cases h4 : c.2.2.1 = 4
     ·simp [h4]
      cases dayB c.1 <;> cases dayB c.2.1 <;> rfl
     ·simp [h1, h2, h3, h4]
theorem chRight_ok : SoundCt Try.prog 41 cChange :=
 conv (fn_sound CI13_ok (Λ := lam0) (fn := Try.f41) (fr := fr_chR) (ps := [.d changeT]) (rs := [.bool]) ((changeT.dflt, ())) (by kernel_rfl) (fun c E _ => lam0_ok c 0) (fun x => by kernel_rfl)) _ _
  (fun _ _ x _ _ _ => by
   obtain ⟨c, _⟩ := x
   obtain ⟨h1, h2⟩ := chR_eq c
   exact ⟨h1, h2⟩)
noncomputable def CHR : Cx := cx [(41, cChange), (69, cTerms), (40, cIn)] []
theorem CHR_ok : CxOK Try.prog CHR := cx_ok mixed ⟨chRight_ok, tRight_ok, inS_ok, trivial⟩ trivial
abbrev pt_slices_right : Pt := ⟨34, 0, ⟨[(8, .d i64), (7, .d i64), (6, .d (.sl changeT))], [.x 1 35 histT, .r 1 1 0]⟩, ⟨[], [.x 1 35 histT, .r 1 1 0]⟩, ⟨[(2, .d .bool)], []⟩⟩
def fr_slices_right (x : pt_slices_right.M.X) : Fr pt_slices_right.Out :=
 Fr.br (decide (x.1.1 < x.1.2.1)) (Fr.need (0 <= x.1.1 /\ x.1.1 < ((List.length x.1.2.2.1) : Int)) (Fr.br (bif !(cChange.f (((List.getD x.1.2.2.1 (Int.toNat x.1.1) changeT.dflt).1, (List.getD x.1.2.2.1 (Int.toNat x.1.1) changeT.dflt).2.1, (List.getD x.1.2.2.1 (Int.toNat x.1.1) changeT.dflt).2.2.1, ((List.getD x.1.2.2.1 (Int.toNat x.1.1) changeT.dflt).2.2.2.1.1, (List.getD x.1.2.2.1 (Int.toNat x.1.1) changeT.dflt).2.2.2.1.2.1, (List.getD x.1.2.2.1 (Int.toNat x.1.1) changeT.dflt).2.2.2.1.2.2.1, (List.getD x.1.2.2.1 (Int.toNat x.1.1) changeT.dflt).2.2.2.1.2.2.2.1, ()), (List.getD x.1.2.2.1 (Int.toNat x.1.1) changeT.dflt).2.2.2.2.1, (List.getD x.1.2.2.1 (Int.toNat x.1.1) changeT.dflt).2.2.2.2.2.1, ()), ())).1 then true else !(cIn.f ((x.2.1.2.2.1.1.1, x.2.1.2.2.1.1.2.1, ()), (List.getD x.1.2.2.1 (Int.toNat x.1.1) changeT.dflt).2.1, ())).1) (Fr.val (Rd.back ((false, ()), ()))) (Fr.val (Rd.next ((IntKind.i64.wrap (x.1.1 + 1), x.1.2.1, x.1.2.2.1, ()), (x.2.1.1, x.2.1.2.1, ((x.2.1.2.2.1.1.1, x.2.1.2.2.1.1.2.1, ()), (x.2.1.2.2.1.2.1.1, x.2.1.2.2.1.2.1.2.1, x.2.1.2.2.1.2.1.2.2.1, x.2.1.2.2.1.2.1.2.2.2.1, ()), x.2.1.2.2.1.2.2.1, ()), x.2.1.2.2.2.1, ()), ()))))) (Fr.val (Rd.out ((), (x.2.1.1, x.2.1.2.1, ((x.2.1.2.2.1.1.1, x.2.1.2.2.1.1.2.1, ()), (x.2.1.2.2.1.2.1.1, x.2.1.2.2.1.2.1.2.1, x.2.1.2.2.1.2.1.2.2.1, x.2.1.2.2.1.2.1.2.2.2.1, ()), x.2.1.2.2.1.2.2.1, ()), x.2.1.2.2.2.1, ()), ())))
theorem sem_slices_right : Does Try.prog (loopF Try.f45 0) pt_slices_right.M pt_slices_right fr_slices_right :=
 Does.of_run CHR_ok (bs := 0) (Λ := lam0) rfl rfl rfl (fun E => lam0_ok _ 0) (fun x => by kernel_rfl)
abbrev st_slices_right : Type := denP [] × denM [.x 1 35 histT, .r 1 1 0]
def step_slices_right (e : changeT.den) (s : st_slices_right) : Fr (st_slices_right ⊕ pt_slices_right.R.X) :=
 Fr.br (bif !(cChange.f ((e.1, e.2.1, e.2.2.1, (e.2.2.2.1.1, e.2.2.2.1.2.1, e.2.2.2.1.2.2.1, e.2.2.2.1.2.2.2.1, ()), e.2.2.2.2.1, e.2.2.2.2.2.1, ()), ())).1 then true else !(cIn.f ((s.2.1.2.2.1.1.1, s.2.1.2.2.1.1.2.1, ()), e.2.1, ())).1) (Fr.val (.inr ((false, ()), ()))) (Fr.val (.inl ((), (s.2.1.1, s.2.1.2.1, ((s.2.1.2.2.1.1.1, s.2.1.2.2.1.1.2.1, ()), (s.2.1.2.2.1.2.1.1, s.2.1.2.2.1.2.1.2.1, s.2.1.2.2.1.2.1.2.2.1, s.2.1.2.2.1.2.1.2.2.2.1, ()), s.2.1.2.2.1.2.2.1, ()), s.2.1.2.2.2.1, ()), ())))
def un_slices_right (x : pt_slices_right.M.X) : Int × List changeT.den × st_slices_right := (x.1.1, x.1.2.2.1, x.1.2.2.2, x.2)
def good_slices_right (x : pt_slices_right.M.X) : Prop := x.1.2.1 = (x.1.2.2.1.length : Int)
def out_slices_right (s : st_slices_right) : pt_slices_right.E.X := ((), (s.2.1.1, s.2.1.2.1, ((s.2.1.2.2.1.1.1, s.2.1.2.2.1.1.2.1, ()), (s.2.1.2.2.1.2.1.1, s.2.1.2.2.1.2.1.2.1, s.2.1.2.2.1.2.1.2.2.1, s.2.1.2.2.1.2.1.2.2.2.1, ()), s.2.1.2.2.1.2.2.1, ()), s.2.1.2.2.2.1, ()), ())
def dS_slices_right : st_slices_right := (dfP _, dfM _)
def dR_slices_right : pt_slices_right.R.X := (dfP _, dfM _)
theorem loop_slices_right : Does Try.prog (.loop (loopF Try.f45 0)) pt_slices_right.M pt_slices_right (FL step_slices_right un_slices_right good_slices_right out_slices_right Rd.back dS_slices_right dR_slices_right) := by
 refine Does.list sem_slices_right step_slices_right un_slices_right good_slices_right out_slices_right Rd.back dS_slices_right dR_slices_right ?_ ?_
 ·rintro ⟨⟨i, n, l, s⟩, m⟩ hg h0 h1 hb e he Q h
  have hg : n = (l.length : Int) := hg
  subst hg
  have h0 : 0 <= i := h0
  have h1 : i < (l.length : Int) := h1
  have hb : (l.length : Int) <= 9223372036854775807 := hb
  have hd : l.getD i.toNat changeT.dflt = e := getD_of he
  have hw := wrap_next h0 h1 hb
  dsimp only [un_slices_right, step_slices_right, fr_slices_right, Fr.satP] at h ⊢
  simp only [hd, hw] at h ⊢
  refine ⟨fun _ => ?_, fun hn => absurd h1 (of_decide_eq_false hn)⟩
  repeat' first
   | exact h
   | exact ⟨h0, h1⟩
   | exact fun _ => ⟨h0, h1⟩
   | exact h _ rfl rfl
   | refine ⟨?_, ?_⟩
   | (intro (hc : _ = true); replace h := h.1 hc)
   | (intro (hc : _ = false); replace h := h.2 hc)
 ·rintro ⟨⟨i, n, l, s⟩, m⟩ hg h1 Q h
  have hg : n = (l.length : Int) := hg
  subst hg
  exact ⟨fun hn => absurd (of_decide_eq_true hn) h1, fun _ => h⟩
def Λ_slices_right (Γ : FuncId -> Option Ct) : St -> Option Tr := pt_slices_right.han Γ pt_slices_right.M (FL step_slices_right un_slices_right good_slices_right out_slices_right Rd.back dS_slices_right dR_slices_right)
def res_slices_right (y : pt_slices_right.M.X) : st_slices_right ⊕ pt_slices_right.R.X := goL step_slices_right ((un_slices_right y).2.1.drop (un_slices_right y).1.toNat) (un_slices_right y).2.2
def okr_slices_right (y : pt_slices_right.M.X) : Prop := okL step_slices_right ((un_slices_right y).2.1.drop (un_slices_right y).1.toNat) (un_slices_right y).2.2
def ff_slices_right (x : denP [.d histT]) : Fr (denL [.bool]) :=
 Fr.need (InL (good_slices_right ((0, ((List.length x.1.2.2.2.1) : Int), x.1.2.2.2.1, ()), (x.1.1, x.1.2.1, ((x.1.2.2.1.1.1, x.1.2.2.1.1.2.1, ()), (x.1.2.2.1.2.1.1, x.1.2.2.1.2.1.2.1, x.1.2.2.1.2.1.2.2.1, x.1.2.2.1.2.1.2.2.2.1, ()), x.1.2.2.1.2.2.1, ()), x.1.2.2.2.1, ()), ())) (un_slices_right ((0, ((List.length x.1.2.2.2.1) : Int), x.1.2.2.2.1, ()), (x.1.1, x.1.2.1, ((x.1.2.2.1.1.1, x.1.2.2.1.1.2.1, ()), (x.1.2.2.1.2.1.1, x.1.2.2.1.2.1.2.1, x.1.2.2.1.2.1.2.2.1, x.1.2.2.1.2.1.2.2.2.1, ()), x.1.2.2.1.2.2.1, ()), x.1.2.2.2.1, ()), ()))) (Fr.need (okr_slices_right ((0, ((List.length x.1.2.2.2.1) : Int), x.1.2.2.2.1, ()), (x.1.1, x.1.2.1, ((x.1.2.2.1.1.1, x.1.2.2.1.1.2.1, ()), (x.1.2.2.1.2.1.1, x.1.2.2.1.2.1.2.1, x.1.2.2.1.2.1.2.2.1, x.1.2.2.1.2.1.2.2.2.1, ()), x.1.2.2.1.2.2.1, ()), x.1.2.2.2.1, ()), ())) (Fr.br (isL (res_slices_right ((0, ((List.length x.1.2.2.2.1) : Int), x.1.2.2.2.1, ()), (x.1.1, x.1.2.1, ((x.1.2.2.1.1.1, x.1.2.2.1.1.2.1, ()), (x.1.2.2.1.2.1.1, x.1.2.2.1.2.1.2.1, x.1.2.2.1.2.1.2.2.1, x.1.2.2.1.2.1.2.2.2.1, ()), x.1.2.2.1.2.2.1, ()), x.1.2.2.2.1, ()), ()))) (Fr.val (bif (cTerms.f ((((out_slices_right (getL dS_slices_right (res_slices_right ((0, ((List.length x.1.2.2.2.1) : Int), x.1.2.2.2.1, ()), (x.1.1, x.1.2.1, ((x.1.2.2.1.1.1, x.1.2.2.1.1.2.1, ()), (x.1.2.2.1.2.1.1, x.1.2.2.1.2.1.2.1, x.1.2.2.1.2.1.2.2.1, x.1.2.2.1.2.1.2.2.2.1, ()), x.1.2.2.1.2.2.1, ()), x.1.2.2.2.1, ()), ())))).2.1.2.2.1.1.1, (out_slices_right (getL dS_slices_right (res_slices_right ((0, ((List.length x.1.2.2.2.1) : Int), x.1.2.2.2.1, ()), (x.1.1, x.1.2.1, ((x.1.2.2.1.1.1, x.1.2.2.1.1.2.1, ()), (x.1.2.2.1.2.1.1, x.1.2.2.1.2.1.2.1, x.1.2.2.1.2.1.2.2.1, x.1.2.2.1.2.1.2.2.2.1, ()), x.1.2.2.1.2.2.1, ()), x.1.2.2.2.1, ()), ())))).2.1.2.2.1.1.2.1, ()), ((out_slices_right (getL dS_slices_right (res_slices_right ((0, ((List.length x.1.2.2.2.1) : Int), x.1.2.2.2.1, ()), (x.1.1, x.1.2.1, ((x.1.2.2.1.1.1, x.1.2.2.1.1.2.1, ()), (x.1.2.2.1.2.1.1, x.1.2.2.1.2.1.2.1, x.1.2.2.1.2.1.2.2.1, x.1.2.2.1.2.1.2.2.2.1, ()), x.1.2.2.1.2.2.1, ()), x.1.2.2.2.1, ()), ())))).2.1.2.2.1.2.1.1, (out_slices_right (getL dS_slices_right (res_slices_right ((0, ((List.length x.1.2.2.2.1) : Int), x.1.2.2.2.1, ()), (x.1.1, x.1.2.1, ((x.1.2.2.1.1.1, x.1.2.2.1.1.2.1, ()), (x.1.2.2.1.2.1.1, x.1.2.2.1.2.1.2.1, x.1.2.2.1.2.1.2.2.1, x.1.2.2.1.2.1.2.2.2.1, ()), x.1.2.2.1.2.2.1, ()), x.1.2.2.2.1, ()), ())))).2.1.2.2.1.2.1.2.1, (out_slices_right (getL dS_slices_right (res_slices_right ((0, ((List.length x.1.2.2.2.1) : Int), x.1.2.2.2.1, ()), (x.1.1, x.1.2.1, ((x.1.2.2.1.1.1, x.1.2.2.1.1.2.1, ()), (x.1.2.2.1.2.1.1, x.1.2.2.1.2.1.2.1, x.1.2.2.1.2.1.2.2.1, x.1.2.2.1.2.1.2.2.2.1, ()), x.1.2.2.1.2.2.1, ()), x.1.2.2.2.1, ()), ())))).2.1.2.2.1.2.1.2.2.1, (out_slices_right (getL dS_slices_right (res_slices_right ((0, ((List.length x.1.2.2.2.1) : Int), x.1.2.2.2.1, ()), (x.1.1, x.1.2.1, ((x.1.2.2.1.1.1, x.1.2.2.1.1.2.1, ()), (x.1.2.2.1.2.1.1, x.1.2.2.1.2.1.2.1, x.1.2.2.1.2.1.2.2.1, x.1.2.2.1.2.1.2.2.2.1, ()), x.1.2.2.1.2.2.1, ()), x.1.2.2.2.1, ()), ())))).2.1.2.2.1.2.1.2.2.2.1, ()), (out_slices_right (getL dS_slices_right (res_slices_right ((0, ((List.length x.1.2.2.2.1) : Int), x.1.2.2.2.1, ()), (x.1.1, x.1.2.1, ((x.1.2.2.1.1.1, x.1.2.2.1.1.2.1, ()), (x.1.2.2.1.2.1.1, x.1.2.2.1.2.1.2.1, x.1.2.2.1.2.1.2.2.1, x.1.2.2.1.2.1.2.2.2.1, ()), x.1.2.2.1.2.2.1, ()), x.1.2.2.2.1, ()), ())))).2.1.2.2.1.2.2.1, ()), ())).1 then decide (((List.length (out_slices_right (getL dS_slices_right (res_slices_right ((0, ((List.length x.1.2.2.2.1) : Int), x.1.2.2.2.1, ()), (x.1.1, x.1.2.1, ((x.1.2.2.1.1.1, x.1.2.2.1.1.2.1, ()), (x.1.2.2.1.2.1.1, x.1.2.2.1.2.1.2.1, x.1.2.2.1.2.1.2.2.1, x.1.2.2.1.2.1.2.2.2.1, ()), x.1.2.2.1.2.2.1, ()), x.1.2.2.2.1, ()), ())))).2.1.2.2.2.1) : Int) <= 2000) else false, ())) (Fr.val ((getR dR_slices_right (res_slices_right ((0, ((List.length x.1.2.2.2.1) : Int), x.1.2.2.2.1, ()), (x.1.1, x.1.2.1, ((x.1.2.2.1.1.1, x.1.2.2.1.1.2.1, ()), (x.1.2.2.1.2.1.1, x.1.2.2.1.2.1.2.1, x.1.2.2.1.2.1.2.2.1, x.1.2.2.1.2.1.2.2.2.1, ()), x.1.2.2.1.2.2.1, ()), x.1.2.2.2.1, ()), ()))).1.1, ()))))
theorem ff_slices_right_ok : SoundCt Try.prog 45 ⟨[.d histT], [.bool], fun xs => (ff_slices_right xs).get, fun xs => [(ff_slices_right xs).ok]⟩ :=
 fn_sound CHR_ok (Λ := (fun _ => Λ_slices_right CHR.Γ)) (fn := Try.f45) (dfP [.d histT]) (by kernel_rfl) (fun c E hc => lam1f hc (by kernel_rfl) (b := loopF Try.f45 0) (by kernel_rfl) (Does.han CHR_ok rfl loop_slices_right)) (fun x => by kernel_rfl)
theorem sr_step (e : changeT.den) (s : st_slices_right) : (step_slices_right e s).get = if (changeB e && inB s.2.1.2.2.1.1.1 s.2.1.2.2.1.1.2.1 e.2.1) = true then .inl s else .inr ((false, ()), ()) := by
 show (if (bif !(changeB e) then true else !(inB s.2.1.2.2.1.1.1 s.2.1.2.2.1.1.2.1 e.2.1)) = true then _ else _) = _
 cases changeB e <;> cases inB s.2.1.2.2.1.1.1 s.2.1.2.2.1.1.2.1 e.2.1 <;> rfl
theorem endF_id {T σ : Type} (l : List T) (s : σ) : endF (fun (_ : T) (s : σ) => s) l s = s := by
 induction l with
 | nil => rfl
 | cons e r ih => exact ih
theorem sRight_ok : SoundCt Try.prog 45 cHist :=
 conv ff_slices_right_ok _ _ (fun w F x vs hr _ => by
  obtain ⟨h, _⟩ := x
  obtain ⟨v, vs', rfl, hv, _⟩ := hr
  have hwf := RepT.wf hv.2.2
  have hlen : (h.2.2.2.1.length : Int) <= 9223372036854775807 := len_big hwf.2.2.2.1.1
  refine ⟨⟨⟨rfl, Int.le_refl _, Int.natCast_nonneg _, hlen⟩, okL_of (step := step_slices_right) (fun e s => ⟨fun _ => trivial, fun _ => trivial⟩) _ _, fun _ => trivial, fun _ => trivial⟩, ?_⟩
  have hres := bool_loop (f := fun _ s => s) sr_step h.2.2.2.1 ((), (h, ()))
  rw [allF_keep2, endF_id] at hres
  have hres' : res_slices_right ((0, (h.2.2.2.1.length : Int), h.2.2.2.1, ()), (h, ())) = if (h.2.2.2.1.all fun c => changeB c && inB h.2.2.1.1.1 h.2.2.1.1.2.1 c.2.1) = true then .inl ((), (h, ())) else .inr ((false, ()), ()) := hres
  show (if isL (res_slices_right ((0, (h.2.2.2.1.length : Int), h.2.2.2.1, ()), (h, ()))) = true then
   ((bif termsB (out_slices_right (getL dS_slices_right (res_slices_right ((0, (h.2.2.2.1.length : Int), h.2.2.2.1, ()), (h, ()))))).2.1.2.2.1 then decide (((out_slices_right (getL dS_slices_right (res_slices_right ((0, (h.2.2.2.1.length : Int), h.2.2.2.1, ()), (h, ()))))).2.1.2.2.2.1.length : Int) <= 2000) else false, ()) : Bool × Unit)
   else ((getR dR_slices_right (res_slices_right ((0, (h.2.2.2.1.length : Int), h.2.2.2.1, ()), (h, ())))).1.1, ())) = (histB h, ())
  rw [hres']
  unfold histB
  cases ha : (h.2.2.2.1.all fun c => changeB c && inB h.2.2.1.1.1 h.2.2.1.1.2.1 c.2.1) with
  | false =>
   show ((false, ()) : Bool × Unit) = _
   rw [Bool.and_false]
  | true =>
   show ((bif termsB h.2.2.1 then decide ((h.2.2.2.1.length : Int) <= 2000) else false, ()) : Bool × Unit) = _
   rw [Bool.and_true]
   have : decide ((h.2.2.2.1.length : Int) <= 2000) = decide (h.2.2.2.1.length <= 2000) := by
    rw [Bool.eq_iff_iff]
    simp only [decide_eq_true_eq]
    omega
   rw [this]
   cases termsB h.2.2.1 <;> rfl)
abbrev bitsW : List (FuncId × Ct) := [(134, cMul), (135, cDivW)]
theorem bitsW_ok : AllCt Try.prog bitsW := ⟨mul_ok, divW_ok, trivial⟩
noncomputable def CW1 : Cx := cx bitsW []
noncomputable def CW2 : Cx := cxK bitsW [] (inlK Try.prog CW1 XiN)
noncomputable def CW3 : Cx := cxK bitsW [] (inlK Try.prog CW2 XiO)
theorem CW1_ok : CxOK Try.prog CW1 := cx_ok mixed bitsW_ok trivial
theorem CW2_ok : CxOK Try.prog CW2 := cxK_ok mixed bitsW_ok trivial (inlK_ok CW1_ok XiN_ok)
theorem CW3_ok : CxOK Try.prog CW3 := cxK_ok mixed bitsW_ok trivial (inlK_ok CW2_ok XiO_ok)
def evDW (h l c : Int) : Fr (denL [i64, i64]) :=
 Fr.br (decide (h ≥ c)) (Fr.val (0, 5, ())) (Fr.need ((h = 0 /\ 0 < c) ∨ (c = 10000 /\ h < 10000)) (evT (cDivW.f (h, l, c, ())).1 (cDivW.f (h, l, c, ())).2.1 c))
def frEvenW (x : denP [.d i64, .d i64, .d i64]) : Fr (denL [i64, i64]) :=
 Fr.br (bif bif decide (x.1 < 0) then true else decide (x.2.1 < 0) then true else decide (x.2.2.1 < 0)) (Fr.val (0, 1, ()))
  (Fr.br (x.2.2.1 == 0) (Fr.val (0, 6, ()))
   (evDW (cMul.f (IntKind.u64.wrap x.1, IntKind.u64.wrap x.2.1, ())).1 (cMul.f (IntKind.u64.wrap x.1, IntKind.u64.wrap x.2.1, ())).2.1 (IntKind.u64.wrap x.2.2.1)))
theorem evDW_eq {p c : Int} (hp : 0 <= p) (hc : 0 < c) (hc2 : c <= 9223372036854775807) (h : p < 18446744073709551616 ∨ c = 10000) :
  (evDW (p / 18446744073709551616) (p % 18446744073709551616) c).ok /\ (evDW (p / 18446744073709551616) (p % 18446744073709551616) c).get = if evenQ p c > 4000000000000000000 then (0, 5, ()) else (evenQ p c, 0, ()) := by
 have hsum : p / 18446744073709551616 * 18446744073709551616 + p % 18446744073709551616 = p := by omega
 have hr1 := Int.emod_nonneg p (b := c) (by omega)
 have hr2 := Int.emod_lt_of_pos p hc
 have hq := Int.ediv_nonneg hp (Int.le_of_lt hc)
 unfold evDW
 by_cases hge : p / 18446744073709551616 ≥ c
 ·refine Fr.br_t (decide_eq_true hge) ⟨trivial, ?_⟩
  rcases h with h | h
  ·omega
  ·subst h
   have : evenQ p 10000 > 4000000000000000000 := by
    unfold evenQ
    split <;> omega
   rw [if_pos this]
   rfl
 ·have hneed : (p / 18446744073709551616 = 0 /\ 0 < c) ∨ (c = 10000 /\ p / 18446744073709551616 < 10000) := by
   rcases h with h | h
   ·exact .inl ⟨by omega, hc⟩
   ·exact .inr ⟨h, by omega⟩
  refine Fr.br_f (decide_eq_false hge) (Fr.need_ hneed ?_)
  show (evT ((p / 18446744073709551616 * 18446744073709551616 + p % 18446744073709551616) / c) ((p / 18446744073709551616 * 18446744073709551616 + p % 18446744073709551616) % c) c).ok /\ (evT ((p / 18446744073709551616 * 18446744073709551616 + p % 18446744073709551616) / c) ((p / 18446744073709551616 * 18446744073709551616 + p % 18446744073709551616) % c) c).get = _
  rw [hsum]
  have key := evT_eq (q := p / c) (r := p % c) (c := c) ⟨hr1, hr2⟩ hc2 hq
  refine ⟨key.1, ?_⟩
  rw [key.2]
  rfl
theorem evenW_plain {a b c : Int} (ha : -9223372036854775808 <= a /\ a <= 9223372036854775807) (hb : -9223372036854775808 <= b /\ b <= 9223372036854775807) (hc : -9223372036854775808 <= c /\ c <= 9223372036854775807)
  (hp : 0 <= a -> 0 <= b -> a * b < 18446744073709551616 ∨ c = 10000) : (frEvenW (a, b, c, ())).ok /\ (frEvenW (a, b, c, ())).get = ((evenF a b c).1, (evenF a b c).2, ()) := by
 unfold frEvenW
 simp only [bif3]
 by_cases hn : a < 0 ∨ b < 0 ∨ c < 0
 ·have hd : (decide (a < 0) || (decide (b < 0) || decide (c < 0))) = true := by simpa using hn
  refine Fr.br_t hd ⟨trivial, ?_⟩
  unfold evenF
  rw [if_pos hn]
  rfl
 ·have hd : (decide (a < 0) || (decide (b < 0) || decide (c < 0))) = false := by simpa using hn
  have ha0 : 0 <= a := by omega
  have hb0 : 0 <= b := by omega
  have hc0 : 0 <= c := by omega
  have hab0 : 0 <= a * b := Int.mul_nonneg ha0 hb0
  refine Fr.br_f hd ?_
  rw [show IntKind.u64.wrap a = a from u64w (by omega), show IntKind.u64.wrap b = b from u64w (by omega), show IntKind.u64.wrap c = c from u64w (by omega)]
  unfold evenF
  rw [if_neg hn]
  by_cases hz : c = 0
  ·refine Fr.br_t (by simpa using hz) ⟨trivial, ?_⟩
   rw [if_pos hz]
   rfl
  ·refine Fr.br_f (by simpa using hz) ?_
   rw [if_neg hz]
   have key := evDW_eq (p := a * b) (c := c) hab0 (by omega) hc.2 (hp ha0 hb0)
   refine ⟨key.1, ?_⟩
   show (evDW (a * b / 18446744073709551616) (a * b % 18446744073709551616) c).get = _
   rw [key.2]
   split <;> rfl
def cEvenW : Ct := ⟨[.d i64, .d i64, .d i64], [i64, i64], fun x => ((evenF x.1 x.2.1 x.2.2.1).1, (evenF x.1 x.2.1 x.2.2.1).2, ()), fun x => [0 <= x.1 -> 0 <= x.2.1 -> x.1 * x.2.1 < 18446744073709551616 ∨ x.2.2.1 = 10000]⟩
theorem evenW_ok : SoundCt Try.prog 95 cEvenW :=
 flat (ps := [.d i64, .d i64, .d i64]) (rs := [i64, i64]) CW3_ok (fn := Try.f95) (fr := frEvenW) (0, 0, 0, ()) (by kernel_rfl) (fun x => by kernel_rfl) _ _
  (fun w F x vs hr hok => by
   obtain ⟨a, b, c, u⟩ := x
   obtain ⟨v1, vs1, rfl, h1, v2, vs2, rfl, h2, v3, vs3, rfl, h3, _⟩ := hr
   exact evenW_plain (i64_of h1) (i64_of h2) (i64_of h3) hok)
def bpF (m b : Int) : Int × Int := evenF m b 10000
def cBp : Ct := ⟨[.d i64, .d i64], [i64, i64], fun x => ((bpF x.1 x.2.1).1, (bpF x.1 x.2.1).2, ()), fun _ => []⟩
noncomputable def CW4 : Cx := cx [(95, cEvenW)] []
theorem CW4_ok : CxOK Try.prog CW4 := cx_ok mixed ⟨evenW_ok, trivial⟩ trivial
theorem bp_ok : SoundCt Try.prog 63 cBp :=
 flat (ps := [.d i64, .d i64]) (rs := [i64, i64]) CW4_ok (fn := Try.f63) (fr := fun x => Fr.need (0 <= x.1 -> 0 <= x.2.1 -> x.1 * x.2.1 < 18446744073709551616 ∨ (10000 : Int) = 10000) (Fr.val (cEvenW.f (x.1, x.2.1, 10000, ())))) (0, 0, ()) (by kernel_rfl) (fun x => by kernel_rfl) _ _
  (fun w F x vs hr hok => ⟨⟨fun _ _ => .inr rfl, trivial⟩, rfl⟩)
abbrev fiveT : Ty := .pair i64 (.pair i64 (.pair i64 (.pair i64 (.pair i64 .unit))))
def f5 (f : fiveT.den) : List Int := [f.1, f.2.1, f.2.2.1, f.2.2.2.1, f.2.2.2.2.1]
def bpGo : List Int -> Int -> Int × Int
 | [], m => (m, 0)
 | b :: r, m => if (bpF m b).2 = 0 then bpGo r (bpF m b).1 else bpF m b
noncomputable def CQ : Cx := cx [(52, cVer), (78, cRisk), (79, cCover), (80, cBand), (63, cBp)] []
theorem CQ_ok : CxOK Try.prog CQ := cx_ok mixed ⟨tVer_ok, risk_ok, cover_ok, band_ok, bp_ok, trivial⟩ trivial
def MQ : LS := ⟨[(8, .d i64), (9, .d i64), (59, .d fiveT), (60, .d i64)], [.x 3 62 verT, .r 3 3 0]⟩
def EQ : LS := ⟨[(8, .d i64), (9, .d i64)], [.x 3 62 verT, .r 3 3 0]⟩
def ptQ : Pt := ⟨79, 1, MQ, EQ, ⟨[], []⟩⟩
def fQ (x : MQ.X) : Fr ptQ.Out :=
 Fr.br (decide (x.1.2.2.2.1 < 5))
  (Fr.need (0 <= x.1.2.2.2.1 /\ x.1.2.2.2.1 < ((5 : Nat) : Int))
   (Fr.br ((cBp.f (x.1.1, (f5 x.1.2.2.1).getD x.1.2.2.2.1.toNat 0, ())).2.1 != 0)
    (Fr.val (Rd.out (((cBp.f (x.1.1, (f5 x.1.2.2.1).getD x.1.2.2.2.1.toNat 0, ())).1, (cBp.f (x.1.1, (f5 x.1.2.2.1).getD x.1.2.2.2.1.toNat 0, ())).2.1, ()), x.2)))
    (Fr.val (Rd.next (((cBp.f (x.1.1, (f5 x.1.2.2.1).getD x.1.2.2.2.1.toNat 0, ())).1, (cBp.f (x.1.1, (f5 x.1.2.2.1).getD x.1.2.2.2.1.toNat 0, ())).2.1, x.1.2.2.1, IntKind.i64.wrap (x.1.2.2.2.1 + 1), ()), x.2)))))
  (Fr.val (Rd.out ((x.1.1, x.1.2.1, ()), x.2)))
theorem semQ : Does Try.prog (loopF Try.f50 0) MQ ptQ fQ := Does.of_run CQ_ok (bs := 0) rfl rfl rfl (fun _ => lam0_ok _ 0) (fun x => by kernel_rfl)
def InQ (i e : Int) : Prop := 0 <= i /\ i <= 5 /\ e = 0
def FQ (x : MQ.X) : Fr ptQ.Out := Fr.need (InQ x.1.2.2.2.1 x.1.2.1) (Fr.val (.out (((bpGo ((f5 x.1.2.2.1).drop x.1.2.2.2.1.toNat) x.1.1).1, (bpGo ((f5 x.1.2.2.1).drop x.1.2.2.2.1.toNat) x.1.1).2, ()), x.2)))
theorem lawQ (m e i : Int) (f : fiveT.den) (y : denM [.x 3 62 verT, .r 3 3 0]) (hinv : InQ i e) (Q : ptQ.Out -> Prop) (hq : Q (.out (((bpGo ((f5 f).drop i.toNat) m).1, (bpGo ((f5 f).drop i.toNat) m).2, ()), y))) :
  (fQ ((m, e, f, i, ()), y)).satP fun
   | .next x' => InQ x'.1.2.2.2.1 x'.1.2.1 /\ (5 - x'.1.2.2.2.1).toNat < (5 - i).toNat /\ (FQ x').satP Q
   | .out y => Q (.out y)
   | .back z => Q (.back z)
   | .pan p => Q (.pan p) := by
 obtain ⟨h1, h2, rfl⟩ := hinv
 refine ⟨fun hi => ?_, fun hi => ?_⟩
 ·have hi' : i < 5 := of_decide_eq_true hi
  obtain ⟨k, rfl⟩ : ∃ k : Nat, i = k := ⟨i.toNat, by omega⟩
  have hl : k < (f5 f).length := by show k < 5; omega
  have hw : IntKind.i64.wrap ((k : Int) + 1) = k + 1 := IntWalk.i64_in _ (by omega)
  have g1 : (f5 f).getD (k : Int).toNat 0 = (f5 f)[k] := by
   rw [show (k : Int).toNat = k by omega, List.getD_eq_getElem?_getD, List.getElem?_eq_getElem hl]; rfl
  have hd : (f5 f).drop (k : Int).toNat = (f5 f)[k] :: (f5 f).drop (k + 1) := by
   rw [show (k : Int).toNat = k by omega]
   exact List.drop_eq_getElem_cons hl
  rw [hd] at hq
  dsimp only [fQ, Fr.satP]
  rw [g1, hw]
  show (0 <= (k : Int) /\ (k : Int) < ((5 : Nat) : Int)) /\ (((bpF m (f5 f)[k]).2 != 0) = true -> Q (.out (((bpF m (f5 f)[k]).1, (bpF m (f5 f)[k]).2, ()), y))) /\ (((bpF m (f5 f)[k]).2 != 0) = false -> InQ (k + 1) (bpF m (f5 f)[k]).2 /\ (5 - ((k : Int) + 1)).toNat < (5 - (k : Int)).toNat /\ (FQ (((bpF m (f5 f)[k]).1, (bpF m (f5 f)[k]).2, f, (k : Int) + 1, ()), y)).satP Q)
  refine ⟨⟨by omega, by omega⟩, fun hb => ?_, fun hb => ?_⟩
  ·have hb' : ¬ (bpF m (f5 f)[k]).2 = 0 := by simpa using hb
   have e : bpGo ((f5 f)[k] :: (f5 f).drop (k + 1)) m = bpF m (f5 f)[k] := if_neg hb'
   rw [e] at hq
   exact hq
  ·have hb' : (bpF m (f5 f)[k]).2 = 0 := by simpa using hb
   have e : bpGo ((f5 f)[k] :: (f5 f).drop (k + 1)) m = bpGo ((f5 f).drop (k + 1)) (bpF m (f5 f)[k]).1 := if_pos hb'
   rw [e] at hq
   have hI : InQ ((k : Int) + 1) (bpF m (f5 f)[k]).2 := ⟨by omega, by omega, hb'⟩
   refine ⟨hI, by omega, hI, ?_⟩
   have : ((k : Int) + 1).toNat = k + 1 := by omega
   show Q (.out (((bpGo ((f5 f).drop ((k : Int) + 1).toNat) (bpF m (f5 f)[k]).1).1, (bpGo ((f5 f).drop ((k : Int) + 1).toNat) (bpF m (f5 f)[k]).1).2, ()), y))
   rw [this]
   exact hq
 ·have hi' : ¬ i < 5 := of_decide_eq_false hi
  have : i = 5 := by omega
  subst this
  exact hq
theorem loopQ : Does Try.prog (.loop (loopF Try.f50 0)) MQ ptQ FQ := by
 refine Does.loop (n := 79) (id := 1) semQ (inv := fun x => InQ x.1.2.2.2.1 x.1.2.1) (μ := fun x => (5 - x.1.2.2.2.1).toNat) ?_ (fun x Q h => h.1)
 rintro ⟨⟨m, e, f, i, _⟩, y⟩ hinv Q hq
 exact lawQ m e i f y hinv Q hq.2
def oneL (v : verT.den) (r : riskT.den) (c : coverT.den) : List Int :=
 [([v.2.1.1, v.2.1.2.1, v.2.1.2.2.1, v.2.1.2.2.2.1] : List Int).getD r.1.toNat 0, bandD r.2.2.1 v.2.2.1 10000, v.2.2.2.1.getD r.2.2.2.1.toNat 0, v.2.2.2.2.1.getD c.1.toNat 0, c.2.2.2.2.1]
def oneF (v : verT.den) (r : riskT.den) (c : coverT.den) : Int × Int :=
 if (verB v && (riskB r.1 r.2.1 r.2.2.1 r.2.2.2.1 && coverB c.1 c.2.1 c.2.2.1 c.2.2.2.1 c.2.2.2.2.1)) = true then
  if r.2.2.2.1 ≥ v.2.2.2.1.length then (0, 7) else
   if (bpGo (oneL v r c) r.2.1).2 = 0 then (if (bpGo (oneL v r c) r.2.1).1 < v.2.2.2.2.2.1 then v.2.2.2.2.2.1 else (bpGo (oneL v r c) r.2.1).1, 0) else (0, (bpGo (oneL v r c) r.2.1).2)
 else (0, 1)
def cOne : Ct := ⟨[.d verT, .d riskT, .d coverT], [i64, i64], fun x => ((oneF x.1 x.2.1 x.2.2.1).1, (oneF x.1 x.2.1 x.2.2.1).2, ()), fun _ => []⟩
def frOne (x : denP [.d verT, .d riskT, .d coverT]) : Fr (denL [i64, i64]) :=
 Fr.br (bif bif !(cVer.f (x.1, ())).1 then true else !(cRisk.f (x.2.1, ())).1 then true else !(cCover.f (x.2.2.1, ())).1) (Fr.val (0, 1, ()))
  (Fr.br (decide (x.2.1.2.2.2.1 ≥ x.1.2.2.2.1.length)) (Fr.val (0, 7, ()))
   (Fr.need (0 <= x.2.1.1 /\ x.2.1.1 < ((4 : Nat) : Int))
    (Fr.need (0 <= x.2.1.2.2.2.1 /\ x.2.1.2.2.2.1 < x.1.2.2.2.1.length)
     (Fr.need (0 <= x.2.2.1.1 /\ x.2.2.1.1 < x.1.2.2.2.2.1.length)
      (Fr.need (InQ 0 0)
       (Fr.br ((bpGo (oneL x.1 x.2.1 x.2.2.1) x.2.1.2.1).2 != 0) (Fr.val (0, (bpGo (oneL x.1 x.2.1 x.2.2.1) x.2.1.2.1).2, ()))
        (Fr.val (if (bpGo (oneL x.1 x.2.1 x.2.2.1) x.2.1.2.1).1 < x.1.2.2.2.2.2.1 then x.1.2.2.2.2.2.1 else (bpGo (oneL x.1 x.2.1 x.2.2.1) x.2.1.2.1).1, 0, ()))))))))
theorem one_run : SoundCt Try.prog 50 ⟨[.d verT, .d riskT, .d coverT], [i64, i64], fun xs => (frOne xs).get, fun xs => [(frOne xs).ok]⟩ :=
 fn_sound CQ_ok (Λ := fun _ => ptQ.han CQ.Γ MQ FQ) (fn := Try.f50) (fr := frOne) (ps := [.d verT, .d riskT, .d coverT]) (rs := [i64, i64]) (verT.dflt, riskT.dflt, coverT.dflt, ()) (by kernel_rfl)
  (fun c E hc => lam1f hc (by kernel_rfl) (b := loopF Try.f50 0) (by kernel_rfl) (Does.han CQ_ok rfl loopQ)) (fun x => by kernel_rfl)
theorem not3 (a b c : Bool) : (bif bif !a then true else !b then true else !c) = !(a && (b && c)) := by cases a <;> cases b <;> cases c <;> rfl
theorem verB_peril {v : verT.den} (h : verB v = true) : v.2.2.2.2.1.length = 8 := by
 unfold verB at h
 rw [Bool.and_eq_true] at h
 have h1 := of_decide_eq_true h.1
 exact h1.2.2.2.2.2.2.2
theorem riskB_kind {k v a z : Int} (h : riskB k v a z = true) : 0 <= k /\ k < 4 /\ 0 <= z := by
 have h1 := of_decide_eq_true h
 exact ⟨h1.1, h1.2.1, h1.2.2.2.2.2.2.1⟩
theorem coverB_peril {p l g d s : Int} (h : coverB p l g d s = true) : 0 <= p /\ p < 8 := by
 have h1 := of_decide_eq_true h
 exact ⟨h1.1, h1.2.1⟩
theorem one_eq (v : verT.den) (k val a z : Int) (c : coverT.den) : (frOne (v, (k, val, a, z, ()), c, ())).ok /\ (frOne (v, (k, val, a, z, ()), c, ())).get = ((oneF v (k, val, a, z, ()) c).1, (oneF v (k, val, a, z, ()) c).2, ()) := by
 obtain ⟨p, l, g, d, s, _⟩ := c
 unfold frOne oneF
 have e0 : (bif bif !(cVer.f (v, ())).1 then true else !(cRisk.f ((k, val, a, z, ()), ())).1 then true else !(cCover.f ((p, l, g, d, s, ()), ())).1) = !(verB v && (riskB k val a z && coverB p l g d s)) := not3 _ _ _
 by_cases h : (verB v && (riskB k val a z && coverB p l g d s)) = true
 ·rw [if_pos h]
  refine Fr.br_f (by rw [e0, h]; rfl) ?_
  rw [Bool.and_eq_true, Bool.and_eq_true] at h
  obtain ⟨h1, h2, h3⟩ := h
  obtain ⟨r1, r2, r3⟩ := riskB_kind h2
  obtain ⟨c1, c2⟩ := coverB_peril h3
  have hp := verB_peril h1
  by_cases hz : z ≥ (v.2.2.2.1.length : Int)
  ·rw [if_pos hz]
   exact Fr.br_t (decide_eq_true hz) ⟨trivial, rfl⟩
  ·rw [if_neg hz]
   have hz' : z < (v.2.2.2.1.length : Int) := Int.not_le.1 hz
   refine Fr.br_f (decide_eq_false hz) (Fr.need_ ⟨r1, by omega⟩ (Fr.need_ ⟨r3, hz'⟩ (Fr.need_ ⟨c1, ?_⟩ (Fr.need_ ⟨by omega, by omega, rfl⟩ ?_))))
   ·show p < (v.2.2.2.2.1.length : Int)
    rw [hp]
    exact c2
   ·by_cases hb : (bpGo (oneL v (k, val, a, z, ()) (p, l, g, d, s, ())) val).2 = 0
    ·have hb' : ((bpGo (oneL v (k, val, a, z, ()) (p, l, g, d, s, ())) val).2 != 0) = false := by rw [hb]; rfl
     rw [if_pos hb]
     exact Fr.br_f hb' ⟨trivial, rfl⟩
    ·have hb' : ((bpGo (oneL v (k, val, a, z, ()) (p, l, g, d, s, ())) val).2 != 0) = true := bne_iff_ne.2 hb
     rw [if_neg hb]
     exact Fr.br_t hb' ⟨trivial, rfl⟩
 ·rw [if_neg h]
  simp only [Bool.not_eq_true] at h
  exact Fr.br_t (by rw [e0, h]; rfl) ⟨trivial, rfl⟩
theorem one_ok : SoundCt Try.prog 50 cOne :=
 convF one_run _ _ (fun _ _ x _ _ _ => by
  obtain ⟨v, ⟨k, val, a, z, _⟩, c, _⟩ := x
  exact one_eq v k val a z c)
noncomputable def CY1 : Cx := cx [] []
theorem CY1_ok : CxOK Try.prog CY1 := cx_ok (cs := []) (ps := []) mixed trivial trivial
noncomputable def XiY : FuncId -> Option (Func × (Nat -> St -> Option Tr)) := envF [(49, (Try.f49, lam0)), (77, (Try.f77, lam0))]
theorem XiY_ok : ∀ f fn Λ, XiY f = some (fn, Λ) -> Try.prog.funcs[f]? = some fn /\ ∀ c E', fn.body = some c -> LamOK Try.prog E' Λ c 0 := fun f fn Λ h => by
 simp only [XiY, envF] at h
 split at h
 ·rename_i hf
  subst hf
  cases h
  exact ⟨by kernel_rfl, fun c E' _ => lam0_ok c 0⟩
 ·split at h
  ·rename_i hf
   subst hf
   cases h
   exact ⟨by kernel_rfl, fun c E' _ => lam0_ok c 0⟩
  ·cases h
noncomputable def CY : Cx := cxK [(50, cOne)] [] (inlK Try.prog CY1 XiY)
theorem CY_ok : CxOK Try.prog CY := cxK_ok mixed ⟨one_ok, trivial⟩ trivial (inlK_ok CY1_ok XiY_ok)
def MY : LS := ⟨[(16, .d (.sl coverT)), (17, .d i64), (18, .d i64), (9, .d i64), (10, .d .bool)], [.x 3 62 verT, .r 3 3 0, .x 4 29 riskT, .r 4 4 0, .x 160001 3 i64, .g 8 77 [160001]]⟩
def EY : LS := ⟨[(9, .d i64), (10, .d .bool)], []⟩
def ptY : Pt := ⟨43, 0, MY, EY, ⟨[(6, .d i64), (7, .d i64)], []⟩⟩
def fY1 (v : verT.den) (r : riskT.den) (l : List coverT.den) (n i s : Int) (b : Bool) (q : Int) (c : coverT.den) : Fr ptY.Out :=
 Fr.br ((cOne.f (v, r, c, ())).2.1 != 0) (Fr.val (Rd.back ((0, (cOne.f (v, r, c, ())).2.1, ()), ())))
  (Fr.br b
   (Fr.br (decide ((cOne.f (v, r, c, ())).1 > IntKind.i64.wrap (4000000000000000000 - q)))
    (Fr.val (Rd.next ((l, n, IntKind.i64.wrap (i + 1), 0, false, ()), (v, r, q, ()))))
    (Fr.val (Rd.next ((l, n, IntKind.i64.wrap (i + 1), IntKind.i64.wrap (q + (cOne.f (v, r, c, ())).1), true, ()), (v, r, IntKind.i64.wrap (q + (cOne.f (v, r, c, ())).1), ())))))
   (Fr.val (Rd.next ((l, n, IntKind.i64.wrap (i + 1), s, b, ()), (v, r, q, ())))))
def fY (x : MY.X) : Fr ptY.Out :=
 Fr.br (decide (x.1.2.2.1 < x.1.2.1))
  (Fr.need (0 <= x.1.2.2.1 /\ x.1.2.2.1 < x.1.1.length) (fY1 x.2.1 x.2.2.1 x.1.1 x.1.2.1 x.1.2.2.1 x.1.2.2.2.1 x.1.2.2.2.2.1 x.2.2.2.1 (x.1.1.getD x.1.2.2.1.toNat coverT.dflt)))
  (Fr.val (Rd.out ((x.1.2.2.2.1, x.1.2.2.2.2.1, ()), ())))
theorem semY : Does Try.prog (loopF Try.f21 0) MY ptY fY := Does.of_run CY_ok (bs := 0) rfl rfl rfl (fun _ => lam0_ok _ 0) (fun x => by kernel_rfl)
def yrGo (v : verT.den) (r : riskT.den) : List coverT.den -> Int -> Bool -> Int × Bool × Int
 | [], q, b => (if b = true then q else 0, b, 0)
 | c :: l, q, b => if (oneF v r c).2 = 0 then
   (if b = true then (if (oneF v r c).1 > 4000000000000000000 - q then yrGo v r l q false else yrGo v r l (q + (oneF v r c).1) true) else yrGo v r l q false)
  else (0, false, (oneF v r c).2)
theorem oneF_pos {v : verT.den} {r : riskT.den} {c : coverT.den} (h : (oneF v r c).2 = 0) : 0 <= (oneF v r c).1 := by
 unfold oneF at h ⊢
 split
 ·rename_i h1
  rw [if_pos h1] at h
  split
  ·exact Int.le_refl 0
  ·rename_i h2
   rw [if_neg h2] at h
   split
   ·have hv : verB v = true := (Bool.and_eq_true_iff.1 h1).1
    have hmin : 0 <= v.2.2.2.2.2.1 := by
     unfold verB at hv
     rw [Bool.and_eq_true] at hv
     exact (of_decide_eq_true hv.1).2.2.1
    show 0 <= (if (bpGo (oneL v r c) r.2.1).1 < v.2.2.2.2.2.1 then v.2.2.2.2.2.1 else (bpGo (oneL v r c) r.2.1).1)
    split
    ·exact hmin
    ·rename_i h3
     exact Int.le_trans hmin (Int.not_lt.1 h3)
   ·exact Int.le_refl 0
 ·exact Int.le_refl 0
def InY (l : List coverT.den) (n i s : Int) (b : Bool) (q : Int) : Prop := 0 <= i /\ i <= n /\ n = l.length /\ n <= 9223372036854775807 /\ 0 <= q /\ q <= 4000000000000000000 /\ s = if b = true then q else 0
def outY (y : Int × Bool × Int) : Fr ptY.Out := Fr.br (y.2.2 != 0) (Fr.val (Rd.back ((0, y.2.2, ()), ()))) (Fr.val (Rd.out ((y.1, y.2.1, ()), ())))
def FY (x : MY.X) : Fr ptY.Out := Fr.need (InY x.1.1 x.1.2.1 x.1.2.2.1 x.1.2.2.2.1 x.1.2.2.2.2.1 x.2.2.2.1) (outY (yrGo x.2.1 x.2.2.1 (x.1.1.drop x.1.2.2.1.toNat) x.2.2.2.1 x.1.2.2.2.2.1))
theorem lawY (v : verT.den) (r : riskT.den) (l : List coverT.den) (n i s : Int) (b : Bool) (q : Int) (hinv : InY l n i s b q) (Q : ptY.Out -> Prop) (hq : (outY (yrGo v r (l.drop i.toNat) q b)).satP Q) :
  (fY ((l, n, i, s, b, ()), (v, r, q, ()))).satP fun
   | .next x' => InY x'.1.1 x'.1.2.1 x'.1.2.2.1 x'.1.2.2.2.1 x'.1.2.2.2.2.1 x'.2.2.2.1 /\ (x'.1.2.1 - x'.1.2.2.1).toNat < (n - i).toNat /\ (FY x').satP Q
   | .out y => Q (.out y)
   | .back z => Q (.back z)
   | .pan p => Q (.pan p) := by
 obtain ⟨h1, h2, rfl, h4, h5, h6, h7⟩ := hinv
 refine ⟨fun hi => ?_, fun hi => ?_⟩
 ·have hi' : i < (l.length : Int) := of_decide_eq_true hi
  obtain ⟨k, rfl⟩ : ∃ k : Nat, i = k := ⟨i.toNat, by omega⟩
  have hl : k < l.length := by omega
  have g1 : l.getD (k : Int).toNat coverT.dflt = l[k] := by
   rw [show (k : Int).toNat = k by omega, List.getD_eq_getElem?_getD, List.getElem?_eq_getElem hl]; rfl
  have hw : IntKind.i64.wrap ((k : Int) + 1) = k + 1 := IntWalk.i64_in _ (by omega)
  have hd : l.drop (k : Int).toNat = l[k] :: l.drop (k + 1) := by
   rw [show (k : Int).toNat = k by omega]
   exact List.drop_eq_getElem_cons hl
  have hn1 : ((k : Int) + 1).toNat = k + 1 := by omega
  rw [hd] at hq
  refine ⟨⟨by omega, hi'⟩, ?_⟩
  show (fY1 v r l l.length k s b q (l.getD (k : Int).toNat coverT.dflt)).satP _
  rw [g1]
  unfold fY1
  rw [hw]
  generalize l[k] = c at *
  have hμ : ((l.length : Int) - ((k : Int) + 1)).toNat < ((l.length : Int) - k).toNat := by omega
  refine ⟨fun he => ?_, fun he => ?_⟩
  ·have he' : ¬ (oneF v r c).2 = 0 := bne_iff_ne.1 he
   have e : yrGo v r (c :: l.drop (k + 1)) q b = (0, false, (oneF v r c).2) := if_neg he'
   rw [e] at hq
   exact hq.1 he
  ·have he' : (oneF v r c).2 = 0 := by
    have : ((oneF v r c).2 != 0) = false := he
    simpa using this
   have hpos := oneF_pos he'
   have e : yrGo v r (c :: l.drop (k + 1)) q b = (if b = true then (if (oneF v r c).1 > 4000000000000000000 - q then yrGo v r (l.drop (k + 1)) q false else yrGo v r (l.drop (k + 1)) (q + (oneF v r c).1) true) else yrGo v r (l.drop (k + 1)) q false) := if_pos he'
   rw [e] at hq
   have hw2 : IntKind.i64.wrap (4000000000000000000 - q) = 4000000000000000000 - q := IntWalk.i64_in _ (by omega)
   refine ⟨fun hb => ?_, fun hb => ?_⟩
   ·rw [if_pos hb] at hq
    rw [hw2]
    refine ⟨fun hg => ?_, fun hg => ?_⟩
    ·have hg' : (oneF v r c).1 > 4000000000000000000 - q := of_decide_eq_true hg
     rw [if_pos hg'] at hq
     have hI : InY l l.length ((k : Int) + 1) 0 false q := ⟨by omega, by omega, rfl, h4, h5, h6, rfl⟩
     refine ⟨hI, hμ, hI, ?_⟩
     show (outY (yrGo v r (l.drop ((k : Int) + 1).toNat) q false)).satP Q
     rw [hn1]
     exact hq
    ·have hg' : ¬ (oneF v r c).1 > 4000000000000000000 - q := of_decide_eq_false hg
     rw [if_neg hg'] at hq
     have hw3 : IntKind.i64.wrap (q + (cOne.f (v, r, c, ())).1) = q + (oneF v r c).1 := IntWalk.i64_in (q + (oneF v r c).1) (by omega)
     rw [hw3]
     have hI : InY l l.length ((k : Int) + 1) (q + (oneF v r c).1) true (q + (oneF v r c).1) := ⟨by omega, by omega, rfl, h4, by omega, by omega, rfl⟩
     refine ⟨hI, hμ, hI, ?_⟩
     show (outY (yrGo v r (l.drop ((k : Int) + 1).toNat) (q + (oneF v r c).1) true)).satP Q
     rw [hn1]
     exact hq
   ·subst hb
    rw [if_neg (by decide)] at hq
    have hI : InY l l.length ((k : Int) + 1) s false q := ⟨by omega, by omega, rfl, h4, h5, h6, h7⟩
    refine ⟨hI, hμ, hI, ?_⟩
    show (outY (yrGo v r (l.drop ((k : Int) + 1).toNat) q false)).satP Q
    rw [hn1]
    exact hq
 ·have hi' : ¬ i < (l.length : Int) := of_decide_eq_false hi
  have e : l.drop i.toNat = [] := List.drop_eq_nil_of_le (by omega)
  rw [e] at hq
  subst h7
  exact hq.2 rfl
theorem loopY : Does Try.prog (.loop (loopF Try.f21 0)) MY ptY FY := by
 refine Does.loop (n := 43) (id := 0) semY (inv := fun x => InY x.1.1 x.1.2.1 x.1.2.2.1 x.1.2.2.2.1 x.1.2.2.2.2.1 x.2.2.2.1) (μ := fun x => (x.1.2.1 - x.1.2.2.1).toNat) ?_ (fun x Q h => h.1)
 rintro ⟨⟨l, n, i, s, b, _⟩, v, r, q, _⟩ hinv Q hq
 exact lawY v r l n i s b q hinv Q hq.2
def yearF (v : verT.den) (r : riskT.den) (l : List coverT.den) : Int × Int :=
 if (yrGo v r l 0 true).2.2 = 0 then (if (yrGo v r l 0 true).2.1 = true then ((yrGo v r l 0 true).1, 0) else (0, 5)) else (0, (yrGo v r l 0 true).2.2)
def cYear : Ct := ⟨[.d verT, .d riskT, .d (.sl coverT)], [i64, i64], fun x => ((yearF x.1 x.2.1 x.2.2.1).1, (yearF x.1 x.2.1 x.2.2.1).2, ()), fun _ => []⟩
def frYear (x : denP [.d verT, .d riskT, .d (.sl coverT)]) : Fr (denL [i64, i64]) :=
 Fr.need (InY x.2.2.1 x.2.2.1.length 0 0 true 0)
  (Fr.br ((yrGo x.1 x.2.1 x.2.2.1 0 true).2.2 != 0) (Fr.val (0, (yrGo x.1 x.2.1 x.2.2.1 0 true).2.2, ()))
   (Fr.br (!(yrGo x.1 x.2.1 x.2.2.1 0 true).2.1) (Fr.val (0, 5, ())) (Fr.val ((yrGo x.1 x.2.1 x.2.2.1 0 true).1, 0, ()))))
theorem year_run : SoundCt Try.prog 21 ⟨[.d verT, .d riskT, .d (.sl coverT)], [i64, i64], fun xs => (frYear xs).get, fun xs => [(frYear xs).ok]⟩ :=
 fn_sound CY_ok (Λ := fun _ => ptY.han CY.Γ MY FY) (fn := Try.f21) (fr := frYear) (ps := [.d verT, .d riskT, .d (.sl coverT)]) (rs := [i64, i64]) (verT.dflt, riskT.dflt, [], ()) (by kernel_rfl)
  (fun c E hc => lam1f hc (by kernel_rfl) (b := loopF Try.f21 0) (by kernel_rfl) (Does.han CY_ok rfl loopY)) (fun x => by kernel_rfl)
theorem year_ok : SoundCt Try.prog 21 cYear :=
 convF year_run _ _ (fun w F x vs hr _ => by
  obtain ⟨v, r, l, _⟩ := x
  obtain ⟨v1, vs1, rfl, _, v2, vs2, rfl, _, v3, vs3, rfl, h3, _⟩ := hr
  have hlen : (l.length : Int) <= 9223372036854775807 := wf_len h3
  have hI : InY l l.length 0 0 true 0 := ⟨by omega, by omega, rfl, hlen, by decide, by decide, rfl⟩
  refine Fr.need_ hI ?_
  show (Fr.br ((yrGo v r l 0 true).2.2 != 0) (Fr.val (0, (yrGo v r l 0 true).2.2, ())) (Fr.br (!(yrGo v r l 0 true).2.1) (Fr.val (0, 5, ())) (Fr.val ((yrGo v r l 0 true).1, 0, ())))  : Fr (denL [i64, i64])).ok /\ (Fr.br ((yrGo v r l 0 true).2.2 != 0) (Fr.val (0, (yrGo v r l 0 true).2.2, ())) (Fr.br (!(yrGo v r l 0 true).2.1) (Fr.val (0, 5, ())) (Fr.val ((yrGo v r l 0 true).1, 0, ())))  : Fr (denL [i64, i64])).get = ((yearF v r l).1, (yearF v r l).2, ())
  unfold yearF
  generalize yrGo v r l 0 true = y
  obtain ⟨s, b, e⟩ := y
  by_cases he : e = 0
  ·subst he
   refine Fr.br_f rfl ?_
   cases b with
   | true => exact Fr.br_f rfl ⟨trivial, rfl⟩
   | false => exact Fr.br_t rfl ⟨trivial, rfl⟩
  ·rw [if_neg he]
   exact Fr.br_t (bne_iff_ne.2 he) ⟨trivial, rfl⟩)
noncomputable def CC1 : Cx := cx [(71, cHolds)] []
theorem CC1_ok : CxOK Try.prog CC1 := cx_ok (ps := []) mixed ⟨holds_ok, trivial⟩ trivial
noncomputable def XiC : FuncId -> Option (Func × (Nat -> St -> Option Tr)) := envF [(70, (Try.f70, lam0)), (73, (Try.f73, lam0))]
theorem XiC_ok : ∀ f fn Λ, XiC f = some (fn, Λ) -> Try.prog.funcs[f]? = some fn /\ ∀ c E', fn.body = some c -> LamOK Try.prog E' Λ c 0 := fun f fn Λ h => by
 simp only [XiC, envF] at h
 split at h
 ·rename_i hf
  subst hf
  cases h
  exact ⟨by kernel_rfl, fun c E' _ => lam0_ok c 0⟩
 ·split at h
  ·rename_i hf
   subst hf
   cases h
   exact ⟨by kernel_rfl, fun c E' _ => lam0_ok c 0⟩
  ·cases h
noncomputable def CC2 : Cx := cxK [(72, cOrder)] [] (inlK Try.prog CC1 XiC)
theorem CC2_ok : CxOK Try.prog CC2 := cxK_ok (ps := []) mixed ⟨order_ok, trivial⟩ trivial (inlK_ok CC1_ok XiC_ok)
abbrev msC : List MI := [.x 280001 35 histT, .r 1 280001 0, .x 280003 27 spanT, .r 3 280003 0, .x 280004 52 sliceT, .r 4 280004 0, .y 280005 48 [(some 52, sliceT)], .r 5 280005 0, .g 6 70 [280004, 280005], .x 6 62 verT, .r 10006 6 0]
def MC : LS := ⟨[(26, .d ints), (27, .d i64), (28, .d i64)], msC⟩
def EC : LS := ⟨[], msC⟩
def ptC5 : Pt := ⟨52, 0, MC, EC, ⟨[], []⟩⟩
def lastI (out : List sliceT.den) : Int := IntKind.i64.wrap ((out.length : Int) - 1)
def setTo (s : sliceT.den) (b : Int) : sliceT.den := ((s.1.1, b, ()), s.2)
def endT {α : Type} (s : sliceT.den) (out : List sliceT.den) (day : Int) (K : List sliceT.den -> Fr α) : Fr α :=
 Fr.br (s.1.1 == day) (K out)
  (Fr.need (decide (lastI out ≥ 0) = true -> 0 <= lastI out /\ lastI out < (out.length : Int))
   (Fr.need (decide (lastI out ≥ 0) = true -> (lastI out).toNat < out.length)
    (Fr.br (bif decide (lastI out ≥ 0) then (cHolds.f (out.getD (lastI out).toNat sliceT.dflt, setTo s day, ())).1 else false)
     (Fr.need (0 <= lastI out /\ lastI out < (out.length : Int)) (Fr.need ((lastI out).toNat < out.length) (K (out.set (lastI out).toNat (setTo (out.getD (lastI out).toNat sliceT.dflt) day)))))
     (Fr.need (out.length + [setTo s day].length <= maxLen /\ (out.length + [setTo s day].length) * 88 <= 140737488355328) (K (out ++ [setTo s day]))))))
def doesT {α : Type} (s : sliceT.den) (c : changeT.den) (K : sliceT.den -> Fr α) : Fr α :=
 Fr.br (c.2.2.1 == 1) (K (s.1, s.2.1, c.2.2.2.1, s.2.2.2.1, s.2.2.2.2.1, ()))
  (Fr.br (c.2.2.1 == 2) (Fr.need (([] : List coverT.den).length + c.2.2.2.2.1.length <= maxLen /\ (([] : List coverT.den).length + c.2.2.2.2.1.length) * 40 <= 140737488355328) (K (s.1, s.2.1, s.2.2.1, [] ++ c.2.2.2.2.1, s.2.2.2.2.1, ())))
   (Fr.br (c.2.2.1 == 3) (K (s.1, false, s.2.2.1, s.2.2.2.1, s.2.2.2.2.1, ()))
    (Fr.br (c.2.2.1 == 4) (K (s.1, true, s.2.2.1, s.2.2.2.1, s.2.2.2.2.1, ())) (K s))))
def frC5 (x : MC.X) : Fr ptC5.Out :=
 let l : List Int := x.1.1; let n : Int := x.1.2.1; let i : Int := x.1.2.2.1; let h : histT.den := x.2.1; let sp : spanT.den := x.2.2.1; let s : sliceT.den := x.2.2.2.1; let out : List sliceT.den := x.2.2.2.2.1.1; let v : verT.den := x.2.2.2.2.2.1
 let j : Int := l.getD i.toNat i64.dflt
 Fr.br (decide (i < n))
  (Fr.need (0 <= i /\ i < (l.length : Int))
   (Fr.need (0 <= j /\ j < ((chL h).length : Int))
    (endT s out (chAt h j).2.1 fun out' =>
     Fr.need (0 <= j /\ j < ((chL h).length : Int))
      (doesT (((chAt h j).2.1, s.1.2.1, ()), s.2) (chAt h j) fun s' => Fr.val (Rd.next ((l, n, IntKind.i64.wrap (i + 1), ()), (h, sp, s', (out', ()), v, ())))))))
  (Fr.val (Rd.out ((), (h, sp, s, (out, ()), v, ()))))
theorem semC5 : Does Try.prog (loopF Try.f46 0) MC ptC5 frC5 := Does.of_run CC2_ok (bs := 280000) rfl rfl rfl (fun _ => lam0_ok _ 0) (fun x => by kernel_rfl)
theorem pushR_eq (s : sliceT.den) : (out : List sliceT.den) -> 0 < out.length -> pushR out s = if holdsB (out.getD (out.length - 1) sliceT.dflt) s = true then out.set (out.length - 1) (setTo (out.getD (out.length - 1) sliceT.dflt) s.1.2.1) else out ++ [s]
 | [], h => absurd h (by decide)
 | [x], _ => rfl
 | x :: y :: r, _ => by
  have ih := pushR_eq s (y :: r) (by simp)
  have e1 : (x :: y :: r).length - 1 = ((y :: r).length - 1) + 1 := by simp
  have e2 : (x :: y :: r).getD ((x :: y :: r).length - 1) sliceT.dflt = (y :: r).getD ((y :: r).length - 1) sliceT.dflt := by
   rw [e1]
   rfl
  show x :: pushR (y :: r) s = _
  rw [ih, e2, e1]
  split
  ·rfl
  ·rfl
theorem pushR_length (s : sliceT.den) : (out : List sliceT.den) -> (pushR out s).length <= out.length + 1
 | [] => by simp [pushR]
 | [x] => by unfold pushR; split <;> simp
 | x :: y :: r => by
  have := pushR_length s (y :: r)
  simp only [pushR, List.length_cons] at this ⊢
  omega
theorem endS_length (s : sliceT.den) (out : List sliceT.den) (day : Int) : (endS s out day).length <= out.length + 1 := by
 unfold endS
 split
 ·omega
 ·exact pushR_length _ _
theorem lastI_eq {out : List sliceT.den} (h : out.length <= 1000000) : lastI out = (out.length : Int) - 1 := IntWalk.i64_in _ (by omega)
theorem endT_sat {α : Type} {s : sliceT.den} {out : List sliceT.den} {day : Int} {K : List sliceT.den -> Fr α} {Q : α -> Prop} (hl : out.length <= 1000000) (h : (K (endS s out day)).satP Q) : (endT s out day K).satP Q := by
 unfold endS at h
 have hw := lastI_eq hl
 have hm : out.length + 1 <= maxLen /\ (out.length + 1) * 88 <= 140737488355328 := ⟨by unfold maxLen; omega, by omega⟩
 refine ⟨fun hb => ?_, fun hb => ?_⟩
 ·have hb' : s.1.1 = day := eq_of_beq (α := Int) hb
  rw [if_pos hb'] at h
  exact h
 ·have hb' : ¬ s.1.1 = day := ne_of_beq_false (α := Int) hb
  rw [if_neg hb'] at h
  refine ⟨fun hd => ?_, fun hd => ?_, ?_⟩
  ·have := of_decide_eq_true hd
   omega
  ·have := of_decide_eq_true hd
   omega
  ·by_cases h0 : 0 < out.length
   ·have hge : decide (lastI out ≥ 0) = true := decide_eq_true (by omega)
    have ht : (lastI out).toNat = out.length - 1 := by omega
    have hp := pushR_eq (setTo s day) out h0
    rw [hge, ht]
    refine ⟨fun hh => ?_, fun hh => ?_⟩
    ·have hh' : holdsB (out.getD (out.length - 1) sliceT.dflt) (setTo s day) = true := hh
     rw [if_pos hh'] at hp
     refine ⟨⟨by omega, by omega⟩, by omega, ?_⟩
     have e : pushR out ((s.1.1, day, ()), s.2) = out.set (out.length - 1) (setTo (out.getD (out.length - 1) sliceT.dflt) day) := hp
     rw [e] at h
     exact h
    ·have hh' : ¬ holdsB (out.getD (out.length - 1) sliceT.dflt) (setTo s day) = true := by
      intro hx
      have : holdsB (out.getD (out.length - 1) sliceT.dflt) (setTo s day) = false := hh
      rw [hx] at this
      cases this
     rw [if_neg hh'] at hp
     have e : pushR out ((s.1.1, day, ()), s.2) = out ++ [setTo s day] := hp
     rw [e] at h
     exact ⟨hm, h⟩
   ·have h00 : out = [] := List.length_eq_zero_iff.1 (by omega)
    subst h00
    have hge : decide (lastI [] ≥ 0) = false := decide_eq_false (by rw [hw]; decide)
    rw [hge]
    exact ⟨fun hh => (by cases hh), fun _ => ⟨hm, h⟩⟩
theorem doesT_sat {α : Type} {s : sliceT.den} {c : changeT.den} {K : sliceT.den -> Fr α} {Q : α -> Prop} (hl : c.2.2.2.2.1.length <= 1000000) (h : (K (doesC s c)).satP Q) : (doesT s c K).satP Q := by
 unfold doesC at h
 have hm : ([] : List coverT.den).length + c.2.2.2.2.1.length <= maxLen /\ (([] : List coverT.den).length + c.2.2.2.2.1.length) * 40 <= 140737488355328 := by
  simp only [List.length_nil, Nat.zero_add]
  exact ⟨by unfold maxLen; omega, by omega⟩
 refine ⟨fun k => ?_, fun k => ⟨fun k2 => ?_, fun k2 => ⟨fun k3 => ?_, fun k3 => ⟨fun k4 => ?_, fun k4 => ?_⟩⟩⟩⟩
 ·have k' : c.2.2.1 = 1 := eq_of_beq (α := Int) k
  rw [if_pos k'] at h
  exact h
 ·have k' : ¬ c.2.2.1 = 1 := ne_of_beq_false (α := Int) k
  have k2' : c.2.2.1 = 2 := eq_of_beq (α := Int) k2
  rw [if_neg k', if_pos k2'] at h
  exact ⟨hm, h⟩
 ·have k' : ¬ c.2.2.1 = 1 := ne_of_beq_false (α := Int) k
  have k2' : ¬ c.2.2.1 = 2 := ne_of_beq_false (α := Int) k2
  have k3' : c.2.2.1 = 3 := eq_of_beq (α := Int) k3
  rw [if_neg k', if_neg k2', if_pos k3'] at h
  exact h
 ·have k' : ¬ c.2.2.1 = 1 := ne_of_beq_false (α := Int) k
  have k2' : ¬ c.2.2.1 = 2 := ne_of_beq_false (α := Int) k2
  have k3' : ¬ c.2.2.1 = 3 := ne_of_beq_false (α := Int) k3
  have k4' : c.2.2.1 = 4 := eq_of_beq (α := Int) k4
  rw [if_neg k', if_neg k2', if_neg k3', if_pos k4'] at h
  exact h
 ·have k' : ¬ c.2.2.1 = 1 := ne_of_beq_false (α := Int) k
  have k2' : ¬ c.2.2.1 = 2 := ne_of_beq_false (α := Int) k2
  have k3' : ¬ c.2.2.1 = 3 := ne_of_beq_false (α := Int) k3
  have k4' : ¬ c.2.2.1 = 4 := ne_of_beq_false (α := Int) k4
  rw [if_neg k', if_neg k2', if_neg k3', if_neg k4'] at h
  exact h
structure InvC5 (l : List Int) (n i : Int) (h : histT.den) (out : List sliceT.den) : Prop where
 i0 : 0 <= i
 il : i <= n
 nl : n = l.length
 few : l.length <= 500000
 inl : ∀ x ∈ l, 0 <= x /\ x < ((chL h).length : Int)
 cov : ∀ c ∈ chL h, c.2.2.2.2.1.length <= 1000000
 outs : (out.length : Int) <= i
def FC5 (x : MC.X) : Fr ptC5.Out :=
 let l : List Int := x.1.1; let n : Int := x.1.2.1; let i : Int := x.1.2.2.1; let h : histT.den := x.2.1; let sp : spanT.den := x.2.2.1; let s : sliceT.den := x.2.2.2.1; let out : List sliceT.den := x.2.2.2.2.1.1; let v : verT.den := x.2.2.2.2.2.1
 Fr.need (InvC5 l n i h out) (Fr.val (Rd.out ((), (h, sp, (goCut ((l.drop i.toNat).map (chAt h)) s out).1, ((goCut ((l.drop i.toNat).map (chAt h)) s out).2, ()), v, ()))))
theorem lawC5 (l : List Int) (n i : Int) (h : histT.den) (sp : spanT.den) (s : sliceT.den) (out : List sliceT.den) (v : verT.den) (hinv : InvC5 l n i h out) (Q : ptC5.Out -> Prop)
  (hq : Q (Rd.out ((), (h, sp, (goCut ((l.drop i.toNat).map (chAt h)) s out).1, ((goCut ((l.drop i.toNat).map (chAt h)) s out).2, ()), v, ())))) :
  (frC5 ((l, n, i, ()), (h, sp, s, (out, ()), v, ()))).satP fun
   | .next x' => InvC5 x'.1.1 x'.1.2.1 x'.1.2.2.1 x'.2.1 x'.2.2.2.2.1.1 /\ ((x'.1.2.1 : Int) - x'.1.2.2.1).toNat < (n - i).toNat /\ (FC5 x').satP Q
   | .out y => Q (.out y)
   | .back z => Q (.back z)
   | .pan p => Q (.pan p) := by
 obtain ⟨h0, h1, rfl, h2, h3, h4, h5⟩ := hinv
 obtain ⟨i', rfl⟩ : ∃ n : Nat, i = n := ⟨i.toNat, by omega⟩
 simp only [Int.toNat_natCast] at hq
 dsimp only [frC5, Fr.satP, Ty.den, PT.den]
 simp only [Int.toNat_natCast]
 refine ⟨fun hi => ?_, fun hi => ?_⟩
 ·have hlt : i' < l.length := by have : (i' : Int) < (l.length : Int) := of_decide_eq_true hi; omega
  have w : IntKind.i64.wrap ((i' : Int) + 1) = (i' + 1 : Nat) := succ_nat (by omega)
  rw [w]
  have hm := h3 _ (getD_mem (d := (0 : Int)) hlt)
  rw [drop_at hlt, List.map_cons] at hq
  have hcm : chAt h (l.getD i' 0) ∈ chL h := by
   unfold chAt
   exact getD_mem (by omega)
  have hE := endS_length s out (chAt h (l.getD i' 0)).2.1
  have hI : InvC5 l (l.length : Int) ((i' + 1 : Nat) : Int) h (endS s out (chAt h (l.getD i' 0)).2.1) := ⟨by omega, by omega, rfl, h2, h3, h4, by omega⟩
  have hμ : ((l.length : Int) - ((i' + 1 : Nat) : Int)).toNat < ((l.length : Int) - (i' : Int)).toNat := by omega
  refine ⟨⟨by omega, by omega⟩, hm, endT_sat (by omega) ⟨hm, doesT_sat (h4 _ hcm) ⟨hI, hμ, hI, hq⟩⟩⟩
 ·have hge : ¬ i' < l.length := by have : ¬ (i' : Int) < (l.length : Int) := of_decide_eq_false hi; omega
  rw [List.drop_eq_nil_of_le (by omega)] at hq
  exact hq
theorem loopC5 : Does Try.prog (.loop (loopF Try.f46 0)) MC ptC5 FC5 := by
 refine Does.loop (n := 52) (id := 0) semC5 (inv := fun x => InvC5 x.1.1 x.1.2.1 x.1.2.2.1 x.2.1 x.2.2.2.2.1.1) (μ := fun x => ((x.1.2.1 : Int) - x.1.2.2.1).toNat) ?_ (fun x Q h => h.1)
 rintro ⟨⟨l, n, i, _⟩, h, sp, s, ⟨out, _⟩, v, _⟩ hinv Q hq
 exact lawC5 l n i h sp s out v hinv Q hq.2
noncomputable def XiOf : FuncId -> Option (Func × (Nat -> St -> Option Tr)) := envF [(46, (Try.f46, fun _ => ptC5.han CC2.Γ MC FC5))]
theorem XiOf_ok : ∀ f fn Λ, XiOf f = some (fn, Λ) -> Try.prog.funcs[f]? = some fn /\ ∀ c E', fn.body = some c -> LamOK Try.prog E' Λ c 0 := fun f fn Λ h => by
 simp only [XiOf, envF] at h
 split at h
 ·rename_i hf
  subst hf
  cases h
  exact ⟨by kernel_rfl, fun c E' hc => lam1f hc (by kernel_rfl) (b := loopF Try.f46 0) (by kernel_rfl) (Does.han CC2_ok rfl loopC5)⟩
 ·cases h
noncomputable def COf : Cx := cxK [(45, cHist), (20, cTarAt), (21, cYear)] [] (inlK Try.prog CC2 XiOf)
theorem COf_ok : CxOK Try.prog COf := cxK_ok (ps := []) mixed ⟨sRight_ok, tarAt_ok, year_ok, trivial⟩ trivial (inlK_ok CC2_ok XiOf_ok)
def MO : LS := ⟨[(29, .d i64), (30, .d i64)], [.o 8 52 sliceT, .al 28 8, .x 6 62 verT, .r 6 6 0]⟩
def EO : LS := ⟨[], [.o 8 52 sliceT]⟩
def ptO : Pt := ⟨56, 0, MO, EO, ⟨[(4, .d slsT), (5, .d i64)], []⟩⟩
def yrS (v : verT.den) (s : sliceT.den) : Int × Int := yearF v s.2.2.1 s.2.2.2.1
def setY (s : sliceT.den) (y : Int) : sliceT.den := (s.1, s.2.1, s.2.2.1, s.2.2.2.1, y, ())
def fO (x : MO.X) : Fr ptO.Out :=
 let n : Int := x.1.1; let i : Int := x.1.2.1; let l : List sliceT.den := x.2.1; let v : verT.den := x.2.2.1
 let s : sliceT.den := l.getD i.toNat sliceT.dflt
 Fr.br (decide (i < n))
  (Fr.need (0 <= i /\ i < (l.length : Int)) (Fr.need (i.toNat < l.length)
   (Fr.br (!s.2.1) (Fr.val (Rd.next ((n, IntKind.i64.wrap (i + 1), ()), (l, v, ()))))
    (Fr.need (0 <= i /\ i < (l.length : Int)) (Fr.need (i.toNat < l.length)
     (Fr.br ((cYear.f (v, s.2.2.1, s.2.2.2.1, ())).2.1 != 0) (Fr.val (Rd.back (([], (cYear.f (v, s.2.2.1, s.2.2.2.1, ())).2.1, ()), ())))
      (Fr.val (Rd.next ((n, IntKind.i64.wrap (i + 1), ()), (l.set i.toNat (setY s (cYear.f (v, s.2.2.1, s.2.2.2.1, ())).1), v, ()))))))))))
  (Fr.val (Rd.out ((), (l, ()))))
theorem semO : Does Try.prog (loopF Try.f19 0) MO ptO fO := Does.of_run COf_ok (bs := 0) rfl rfl rfl (fun _ => lam0_ok _ 0) (fun x => by kernel_rfl)
def priceV (v : verT.den) (s : sliceT.den) : sliceT.den := if s.2.1 = true then setY s (yrS v s).1 else s
def errP (v : verT.den) : List sliceT.den -> Int
 | [] => 0
 | s :: l => if s.2.1 = true then (if (yrS v s).2 = 0 then errP v l else (yrS v s).2) else errP v l
structure InvO (n i : Int) (l : List sliceT.den) : Prop where
 i0 : 0 <= i
 il : i <= n
 nl : n = l.length
 few : l.length <= 1000000
def outO (l : List sliceT.den) (e : Int) : Fr ptO.Out := Fr.br (e != 0) (Fr.val (Rd.back (([], e, ()), ()))) (Fr.val (Rd.out ((), (l, ()))))
def FO (x : MO.X) : Fr ptO.Out :=
 let n : Int := x.1.1; let i : Int := x.1.2.1; let l : List sliceT.den := x.2.1; let v : verT.den := x.2.2.1
 Fr.need (InvO n i l) (outO (l.take i.toNat ++ (l.drop i.toNat).map (priceV v)) (errP v (l.drop i.toNat)))
theorem lawO (n i : Int) (l : List sliceT.den) (v : verT.den) (hinv : InvO n i l) (Q : ptO.Out -> Prop) (hq : (outO (l.take i.toNat ++ (l.drop i.toNat).map (priceV v)) (errP v (l.drop i.toNat))).satP Q) :
  (fO ((n, i, ()), (l, v, ()))).satP fun
   | .next x' => InvO x'.1.1 x'.1.2.1 x'.2.1 /\ ((x'.1.1 : Int) - x'.1.2.1).toNat < (n - i).toNat /\ (FO x').satP Q
   | .out y => Q (.out y)
   | .back z => Q (.back z)
   | .pan p => Q (.pan p) := by
 obtain ⟨h0, h1, rfl, h2⟩ := hinv
 obtain ⟨i', rfl⟩ : ∃ n : Nat, i = n := ⟨i.toNat, by omega⟩
 simp only [Int.toNat_natCast] at hq
 dsimp only [fO, Fr.satP, Ty.den, PT.den]
 simp only [Int.toNat_natCast]
 refine ⟨fun hi => ?_, fun hi => ?_⟩
 ·have hlt : i' < l.length := by have : (i' : Int) < (l.length : Int) := of_decide_eq_true hi; omega
  have w : IntKind.i64.wrap ((i' : Int) + 1) = (i' + 1 : Nat) := succ_nat (by omega)
  rw [w]
  have hg : l.getD i' sliceT.dflt = l[i'] := by rw [List.getD_eq_getElem?_getD, List.getElem?_eq_getElem hlt]; rfl
  have hd : l.drop i' = l.getD i' sliceT.dflt :: l.drop (i' + 1) := by rw [hg]; exact List.drop_eq_getElem_cons hlt
  have hμ : ((l.length : Int) - ((i' + 1 : Nat) : Int)).toNat < ((l.length : Int) - (i' : Int)).toNat := by omega
  have hb : 0 <= (i' : Int) /\ (i' : Int) < (l.length : Int) := ⟨by omega, by omega⟩
  rw [hd] at hq
  generalize hs : l.getD i' sliceT.dflt = s at *
  have htk : l.take (i' + 1) = l.take i' ++ [s] := by
   rw [hg]
   exact (List.take_append_getElem hlt).symm
  refine ⟨hb, hlt, fun hoff => ?_, fun hon => ⟨hb, hlt, fun he => ?_, fun he => ?_⟩⟩
  ·have hoff' : ¬ s.2.1 = true := by
    intro hx
    rw [hx] at hoff
    cases hoff
   have hI : InvO (l.length : Int) ((i' + 1 : Nat) : Int) l := ⟨by omega, by omega, rfl, h2⟩
   refine ⟨hI, hμ, hI, ?_⟩
   have e1 : errP v (s :: l.drop (i' + 1)) = errP v (l.drop (i' + 1)) := if_neg hoff'
   have e2 : priceV v s = s := if_neg hoff'
   rw [e1, List.map_cons, e2] at hq
   show (outO (l.take (i' + 1) ++ (l.drop (i' + 1)).map (priceV v)) (errP v (l.drop (i' + 1)))).satP Q
   rw [htk, List.append_assoc]
   exact hq
  ·have hon' : s.2.1 = true := by
    cases hx : s.2.1 with
    | true => rfl
    | false => rw [hx] at hon; cases hon
   have he' : ¬ (yrS v s).2 = 0 := bne_iff_ne.1 he
   have e1 : errP v (s :: l.drop (i' + 1)) = (yrS v s).2 := by
    unfold errP
    rw [if_pos hon', if_neg he']
   rw [e1] at hq
   exact hq.1 he
  ·have hon' : s.2.1 = true := by
    cases hx : s.2.1 with
    | true => rfl
    | false => rw [hx] at hon; cases hon
   have he' : (yrS v s).2 = 0 := by
    have : ((yrS v s).2 != 0) = false := he
    simpa using this
   have hlen : (l.set i' (setY s (yrS v s).1)).length = l.length := List.length_set
   have hI : InvO (l.length : Int) ((i' + 1 : Nat) : Int) (l.set i' (setY s (yrS v s).1)) := ⟨by omega, by omega, by rw [hlen], by rw [hlen]; exact h2⟩
   refine ⟨hI, hμ, hI, ?_⟩
   have e1 : errP v (s :: l.drop (i' + 1)) = errP v (l.drop (i' + 1)) := by
    conv => lhs; unfold errP
    rw [if_pos hon', if_pos he']
   have e2 : priceV v s = setY s (yrS v s).1 := if_pos hon'
   rw [e1, List.map_cons, e2] at hq
   show (outO ((l.set i' (setY s (yrS v s).1)).take (i' + 1) ++ ((l.set i' (setY s (yrS v s).1)).drop (i' + 1)).map (priceV v)) (errP v ((l.set i' (setY s (yrS v s).1)).drop (i' + 1)))).satP Q
   have e3 : (l.set i' (setY s (yrS v s).1)).drop (i' + 1) = l.drop (i' + 1) := List.drop_set_of_lt (by omega)
   have e4 : (l.set i' (setY s (yrS v s).1)).take (i' + 1) = l.take i' ++ [setY s (yrS v s).1] := by
    rw [List.take_add_one, List.take_set_of_le (by omega)]
    simp [hlt]
   rw [e3, e4, List.append_assoc]
   exact hq
 ·have hge : ¬ i' < l.length := by have : ¬ (i' : Int) < (l.length : Int) := of_decide_eq_false hi; omega
  rw [List.drop_eq_nil_of_le (by omega), List.take_of_length_le (by omega)] at hq
  have hq' := hq.2 rfl
  simp only [List.map_nil, List.append_nil] at hq'
  exact hq'
theorem loopO : Does Try.prog (.loop (loopF Try.f19 0)) MO ptO FO := by
 refine Does.loop (n := 56) (id := 0) semO (inv := fun x => InvO x.1.1 x.1.2.1 x.2.1) (μ := fun x => ((x.1.1 : Int) - x.1.2.1).toNat) ?_ (fun x Q h => h.1)
 rintro ⟨⟨n, i, _⟩, l, v, _⟩ hinv Q hq
 exact lawO n i l v hinv Q hq.2
def frOf1 (v : verT.den) (l : List sliceT.den) : Fr (denL [slsT, i64]) :=
 Fr.need (InvO l.length 0 l) (Fr.br (errP v (l.drop (0 : Int).toNat) != 0) (Fr.val ([], errP v (l.drop (0 : Int).toNat), ())) (Fr.val (l.take (0 : Int).toNat ++ (l.drop (0 : Int).toNat).map (priceV v), 0, ())))
def goH (h : histT.den) : sliceT.den × List sliceT.den := goCut (((orderL h).drop (0 : Int).toNat).map (chAt h)) ((h.2.2.1.1.1, 0, ()), true, h.2.2.1.2.1, [] ++ h.2.2.1.2.2.1, 0, ()) []
def frOfF (x : denP [.d histT, .d tarT]) : Fr (denL [slsT, i64]) :=
 Fr.br (!(cHist.f (x.1, ())).1) (Fr.val ([], 1, ()))
  (Fr.need (fewT x.2.1)
   (Fr.br ((cTarAt.f (x.2.1, x.1.2.2.1.1.1, ())).2.1 != 0) (Fr.val ([], (cTarAt.f (x.2.1, x.1.2.2.1.1.1, ())).2.1, ()))
    (Fr.need (([] : List coverT.den).length + x.1.2.2.1.2.2.1.length <= maxLen /\ (([] : List coverT.den).length + x.1.2.2.1.2.2.1.length) * 40 <= 140737488355328)
     (Fr.need (((chL x.1).length : Int) <= 1000000)
      (Fr.need (InvC5 (orderL x.1) ((orderL x.1).length : Int) 0 x.1 [])
       (endT (goH x.1).1 (goH x.1).2 x.1.2.2.1.1.2.1 (frOf1 (cTarAt.f (x.2.1, x.1.2.2.1.1.1, ())).1)))))))
theorem of_run : SoundCt Try.prog 19 ⟨[.d histT, .d tarT], [slsT, i64], fun xs => (frOfF xs).get, fun xs => [(frOfF xs).ok]⟩ :=
 fn_sound COf_ok (Λ := fun _ => ptO.han COf.Γ MO FO) (fn := Try.f19) (fr := frOfF) (ps := [.d histT, .d tarT]) (rs := [slsT, i64]) (histT.dflt, tarT.dflt, ()) (by kernel_rfl)
  (fun c E hc => lam1f hc (by kernel_rfl) (b := loopF Try.f19 0) (by kernel_rfl) (Does.han COf_ok rfl loopO)) (fun x => by kernel_rfl)
def fewH (h : histT.den) : Prop := (chL h).length <= 500000 /\ h.2.2.1.2.2.1.length <= 1000000 /\ ∀ c ∈ chL h, c.2.2.2.2.1.length <= 1000000
def ofF (h : histT.den) (t : tarT.den) : List sliceT.den × Int :=
 if histB h = true then
  (if (verAt h.2.2.1.1.1 t.1.reverse).2 = 0 then
   (if errP (verAt h.2.2.1.1.1 t.1.reverse).1 (cutL h) = 0 then ((cutL h).map (priceV (verAt h.2.2.1.1.1 t.1.reverse).1), 0) else ([], errP (verAt h.2.2.1.1.1 t.1.reverse).1 (cutL h)))
  else ([], (verAt h.2.2.1.1.1 t.1.reverse).2))
 else ([], 1)
def cOf : Ct := ⟨[.d histT, .d tarT], [slsT, i64], fun x => ((ofF x.1 x.2.1).1, (ofF x.1 x.2.1).2, ()), fun x => [fewH x.1, fewT x.2.1]⟩
theorem orderL_length (h : histT.den) : (orderL h).length = (chL h).length := by
 unfold orderL
 rw [sortB_length, rangeI_length]
theorem orderL_mem {h : histT.den} {x : Int} (hx : x ∈ orderL h) : 0 <= x /\ x < ((chL h).length : Int) := rangeI_mem (sortB_mem.1 hx)
theorem goCut_length : (l : List changeT.den) -> (s : sliceT.den) -> (out : List sliceT.den) -> (goCut l s out).2.length <= out.length + l.length
 | [], _, _ => Nat.le_refl _
 | c :: l, s, out => by
  have h1 := goCut_length l (doesC ((c.2.1, s.1.2.1, ()), s.2) c) (endS s out c.2.1)
  have h2 := endS_length s out c.2.1
  simp only [goCut, List.length_cons]
  omega
theorem of_ok : SoundCt Try.prog 19 cOf :=
 convF of_run _ _ (fun w F x vs hr hok => by
  obtain ⟨h, t, _⟩ := x
  obtain ⟨⟨f1, f2, f3⟩, f4⟩ : fewH h /\ fewT t := hok
  show (frOfF (h, t, ())).ok /\ (frOfF (h, t, ())).get = ((ofF h t).1, (ofF h t).2, ())
  unfold ofF
  cases hh : histB h with
  | false =>
   refine Fr.br_t ?_ ⟨trivial, rfl⟩
   show (!(histB h)) = true
   rw [hh]
   rfl
  | true =>
   rw [if_pos rfl]
   refine Fr.br_f ?_ (Fr.need_ f4 ?_)
   ·show (!(histB h)) = false
    rw [hh]
    rfl
   ·by_cases hv : (verAt h.2.2.1.1.1 t.1.reverse).2 = 0
    ·rw [if_pos hv]
     refine Fr.br_f ?_ (Fr.need_ ?_ (Fr.need_ ?_ (Fr.need_ ?_ ?_)))
     ·show ((verAt h.2.2.1.1.1 t.1.reverse).2 != 0) = false
      rw [hv]
      rfl
     ·show ([] : List coverT.den).length + h.2.2.1.2.2.1.length <= maxLen /\ (([] : List coverT.den).length + h.2.2.1.2.2.1.length) * 40 <= 140737488355328
      simp only [List.length_nil, Nat.zero_add]
      exact ⟨by unfold maxLen; omega, by omega⟩
     ·show ((chL h).length : Int) <= 1000000
      omega
     ·show InvC5 (orderL h) ((orderL h).length : Int) 0 h []
      exact ⟨Int.le_refl _, Int.natCast_nonneg _, rfl, by rw [orderL_length]; exact f1, fun x hx => orderL_mem hx, f3, Int.le_refl _⟩
     ·have hgo : (goH h).2.length <= 500000 := by
       have := goCut_length (((orderL h).drop (0 : Int).toNat).map (chAt h)) ((h.2.2.1.1.1, 0, ()), true, h.2.2.1.2.1, [] ++ h.2.2.1.2.2.1, 0, ()) []
       have e : (((orderL h).drop (0 : Int).toNat).map (chAt h)).length = (chL h).length := by
        rw [List.length_map]
        exact orderL_length h
       rw [e] at this
       have h2 : (goH h).2.length <= 0 + (chL h).length := this
       omega
      have hcut : endS (goH h).1 (goH h).2 h.2.2.1.1.2.1 = cutL h := rfl
      have hclen : (cutL h).length <= 1000000 := by
       rw [← hcut]
       have := endS_length (goH h).1 (goH h).2 h.2.2.1.1.2.1
       omega
      have hkey : (frOf1 (verAt h.2.2.1.1.1 t.1.reverse).1 (cutL h)).ok /\ (frOf1 (verAt h.2.2.1.1.1 t.1.reverse).1 (cutL h)).get = ((if errP (verAt h.2.2.1.1.1 t.1.reverse).1 (cutL h) = 0 then ((cutL h).map (priceV (verAt h.2.2.1.1.1 t.1.reverse).1), (0 : Int)) else ([], errP (verAt h.2.2.1.1.1 t.1.reverse).1 (cutL h))).1, (if errP (verAt h.2.2.1.1.1 t.1.reverse).1 (cutL h) = 0 then ((cutL h).map (priceV (verAt h.2.2.1.1.1 t.1.reverse).1), (0 : Int)) else ([], errP (verAt h.2.2.1.1.1 t.1.reverse).1 (cutL h))).2, ()) := by
       refine Fr.need_ ⟨Int.le_refl _, Int.natCast_nonneg _, rfl, hclen⟩ ?_
       by_cases he : errP (verAt h.2.2.1.1.1 t.1.reverse).1 (cutL h) = 0
       ·rw [if_pos he]
        refine Fr.br_f ?_ ⟨trivial, rfl⟩
        show (errP (verAt h.2.2.1.1.1 t.1.reverse).1 (cutL h) != 0) = false
        rw [he]
        rfl
       ·rw [if_neg he]
        exact Fr.br_t (bne_iff_ne.2 he) ⟨trivial, rfl⟩
      have hs := endT_sat (s := (goH h).1) (out := (goH h).2) (day := h.2.2.1.1.2.1) (K := frOf1 (verAt h.2.2.1.1.1 t.1.reverse).1) (Q := fun y => y = ((if errP (verAt h.2.2.1.1.1 t.1.reverse).1 (cutL h) = 0 then ((cutL h).map (priceV (verAt h.2.2.1.1.1 t.1.reverse).1), (0 : Int)) else ([], errP (verAt h.2.2.1.1.1 t.1.reverse).1 (cutL h))).1, (if errP (verAt h.2.2.1.1.1 t.1.reverse).1 (cutL h) = 0 then ((cutL h).map (priceV (verAt h.2.2.1.1.1 t.1.reverse).1), (0 : Int)) else ([], errP (verAt h.2.2.1.1.1 t.1.reverse).1 (cutL h))).2, ())) (by omega) (by
       rw [hcut]
       exact Fr.satP_of hkey.1 hkey.2)
      exact Fr.satP_get hs
    ·rw [if_neg hv]
     refine Fr.br_t ?_ ⟨trivial, rfl⟩
     show ((verAt h.2.2.1.1.1 t.1.reverse).2 != 0) = true
     exact bne_iff_ne.2 hv)
def fewChs (l : List changeT.den) : Prop := l.length <= 1000000 /\ ∀ x ∈ l, x.2.2.2.2.1.length <= 1000000
def colK (_ : Nat) (g : FuncId) (args : List AV) (s : St) : Option Tr :=
 if g = 64 then match args with
  | [.c (.fn f [.ptr i 0, .ptr k 0])] => match s.mem i, s.mem k with
   | some (.box _ [_, _, _, _, _, _, _, _, _, .sl t l]), some (.box _ [.int .i64 day]) =>
    if h : t = changeT then if f = 97 then some (needL [fewChs (castL h l)] (.leaf (.val (.c (.sl changeT (uptoB day (castL h l))))) s)) else none else none
   | _, _ => none
  | _ => none
 else none
theorem colK_ok : InlOK Try.prog colK := by
 intro d g args s t ht
 unfold colK at ht
 split at ht <;> try (cases ht; done)
 rename_i hg
 subst hg
 split at ht <;> try (cases ht; done)
 rename_i f i k
 split at ht <;> try (cases ht; done)
 rename_i ty1 c0 c1 c2 c3 c4 c5 c6 c7 c8 t l ty2 day hm1 hm2
 split at ht <;> try (cases ht; done)
 rename_i h
 subst h
 split at ht <;> try (cases ht; done)
 rename_i hf
 subst hf
 simp only [Option.some.injEq] at ht
 subst ht
 refine ⟨enters_of Try.func64 (by kernel_rfl) rfl, fun E a w F γ vs Q hi hr hq => ?_⟩
 obtain ⟨⟨hf1, hf2⟩, hqv⟩ := hq
 match vs, hr with
 | [v1], ⟨⟨_, hv1⟩, _⟩ =>
  obtain ⟨arr, rfl, hsz, hcaps⟩ := hv1
  obtain ⟨⟨u0, hu0, _, b1, hR1, rfl⟩, ⟨u1, hu1, _, b2, hR2, rfl⟩, _⟩ := hcaps
  have g1 : .pointer (some ⟨b1, 0, none⟩) = γ i := by
   have := hR1
   unfold refOK at this
   rw [hm1] at this
   exact this
  have g2 : .pointer (some ⟨b2, 0, none⟩) = γ k := by
   have := hR2
   unfold refOK at this
   rw [hm2] at this
   exact this
  have ha : arr = #[.pointer (some ⟨b1, 0, none⟩), .pointer (some ⟨b2, 0, none⟩)] := by
   apply Array.ext
   ·exact hsz
   ·intro i h1 h2
    have hu1' : arr[1]? = some (.pointer (some ⟨b2, 0, none⟩)) := hu1
    match i, h2 with
    | 0, _ =>
     rw [Array.getElem?_eq_getElem h1] at hu0
     exact Option.some.inj hu0
    | 1, _ =>
     rw [Array.getElem?_eq_getElem h1] at hu1'
     exact Option.some.inj hu1'
  subst ha
  obtain ⟨d1, ar1, e1, hb1, _, _, hs1, hcl⟩ := hi.mem.ob i _ hm1
  obtain ⟨d2, ar2, e2, hb2, _, _, hs2, hcl2⟩ := hi.mem.ob k _ hm2
  rw [← g1] at e1
  rw [← g2] at e2
  cases e1
  cases e2
  obtain ⟨_, _, _, _, _, _, _, _, _, ⟨x9, hx9, _, hr9⟩, _⟩ := hcl
  obtain ⟨⟨y0, hy0, _, hd0⟩, _⟩ := hcl2
  have hday : y0 = .int .i64 day := hd0.1
  subst hday
  refine (collect_calls (inv_bd hi) (Array.getElem?_eq_some_iff.1 hb1).1 (Array.getElem?_eq_some_iff.1 hb2).1 ((cell_of_block hb1 9).trans hx9) hr9 ((cell_of_block hb2 0).trans hy0) hf1 hf2).mono fun e w2 hp => ?_
  obtain ⟨u, F2, rfl, hb, hr2, hq2⟩ := hp
  have hBs := Step.size' hi
  obtain ⟨s1, m1⟩ := Step.below hi.mem hBs (inv_bd hi) (F' := fun q => F q ∨ F2 q) hb (fun _ h => .inl h) (fun b hb' => hb'.elim (fun h => ⟨.inl h, Nat.lt_of_lt_of_le (inv_bd hi b h) hb.size⟩) (fun h => hq2 b h))
  have hinv : InvG Try.prog E s a w2 [] (fun q => F q ∨ F2 q) γ := by
   refine ⟨hi.n, hi.df, ?_, m1, fun t => (hi.sl t).mono s1.hF s1.hw s1.hR, hi.hg, fun t => s1.repA (hi.gh t)⟩
   obtain ⟨γ0, h0⟩ := hi.step
   exact ⟨γ0, h0.trans s1⟩
  have hr3 : RepT w2 (fun q => F q ∨ F2 q) (.sl changeT) (uptoB day (castL rfl l)) (fun _ u' => u' = u) := RepT.mono (t := .sl changeT) (fun _ h => Or.inr h) (fun _ _ => rfl) (fun _ _ _ h => h) hr2
  refine ⟨_, _, _, γ, hqv, hinv, u, rfl, ?_, hr3⟩
  obtain ⟨A, c, e1, _⟩ := hr2
  rw [← e1]
  rfl
noncomputable def XiK : FuncId -> Option (Func × (Nat -> St -> Option Tr)) := envF [(65, (Try.f65, lam0))]
theorem XiK_ok : ∀ f fn Λ, XiK f = some (fn, Λ) -> Try.prog.funcs[f]? = some fn /\ ∀ c E', fn.body = some c -> LamOK Try.prog E' Λ c 0 := fun f fn Λ h => by
 simp only [XiK, envF] at h
 split at h
 ·rename_i hf
  subst hf
  cases h
  exact ⟨by kernel_rfl, fun c E' _ => lam0_ok c 0⟩
 ·cases h
noncomputable def CKn1 : Cx := cx [] []
theorem CKn1_ok : CxOK Try.prog CKn1 := cx_ok (cs := []) (ps := []) mixed trivial trivial
noncomputable def CKn : Cx := cxK [(42, cClone coverT)] [] (orK (inlK Try.prog CKn1 XiK) colK)
theorem CKn_ok : CxOK Try.prog CKn := cxK_ok (ps := []) mixed ⟨cloneC_ok, trivial⟩ trivial (orK_ok (inlK_ok CKn1_ok XiK_ok) colK_ok)
def noHist : histT.den := (0, 0, ((0, 0, ()), (0, 0, 0, 0, ()), [], ()), [], ())
def atH (h : histT.den) (d : Int) : histT.den × Int := if d < h.2.1 then (noHist, 7) else ((h.1, h.2.1, h.2.2.1, uptoB d h.2.2.2.1, ()), 0)
def cKAt : Ct := ⟨[.d histT, .d i64], [histT, i64], fun x => ((atH x.1 x.2.1).1, (atH x.1 x.2.1).2, ()), fun x => [fewH x.1]⟩
def frKAt (x : denP [.d histT, .d i64]) : Fr (denL [histT, i64]) :=
 let h : histT.den := x.1; let d : Int := x.2.1
 Fr.br (decide (h.2.1 > d)) (Fr.val (noHist, 7, ()))
  (Fr.need (List.length (α := coverT.den) h.2.2.1.2.2.1 <= 1000000)
   (Fr.need (fewChs h.2.2.2.1)
    (Fr.val ((h.1, h.2.1, ((h.2.2.1.1.1, h.2.2.1.1.2.1, ()), (h.2.2.1.2.1.1, h.2.2.1.2.1.2.1, h.2.2.1.2.1.2.2.1, h.2.2.1.2.1.2.2.2.1, ()), ((cClone coverT).f (h.2.2.1.2.2.1, ())).1, ()), uptoB d h.2.2.2.1, ()), 0, ()))))
theorem kAt_run : SoundCt Try.prog 39 ⟨[.d histT, .d i64], [histT, i64], fun xs => (frKAt xs).get, fun xs => [(frKAt xs).ok]⟩ :=
 fn_sound CKn_ok (Λ := lam0) (fn := Try.f39) (fr := frKAt) (ps := [.d histT, .d i64]) (rs := [histT, i64]) (histT.dflt, 0, ()) (by kernel_rfl) (fun c E _ => lam0_ok c 0) (fun x => by kernel_rfl)
theorem kAt_eq (h : histT.den) (d : Int) (hf : fewH h) : (frKAt (h, d, ())).ok /\ (frKAt (h, d, ())).get = ((atH h d).1, (atH h d).2, ()) := by
 unfold atH
 by_cases h1 : d < h.2.1
 ·rw [if_pos h1]
  exact Fr.br_t (by simpa using h1) ⟨trivial, rfl⟩
 ·rw [if_neg h1]
  exact Fr.br_f (by simpa using h1) (Fr.need_ hf.2.1 (Fr.need_ ⟨Nat.le_trans hf.1 (by decide), hf.2.2⟩ ⟨trivial, rfl⟩))
theorem kAt_ok : SoundCt Try.prog 39 cKAt :=
 convF kAt_run _ _ (fun w F x vs hr hok => by
  obtain ⟨h, d, _⟩ := x
  exact kAt_eq h d hok)
theorem atH_few {h : histT.den} (hf : fewH h) (d : Int) : fewH (atH h d).1 := by
 unfold atH
 split
 ·exact ⟨by decide, by decide, fun c hc => by cases hc⟩
 ·refine ⟨Nat.le_trans (List.length_filter_le _ _) hf.1, hf.2.1, fun c hc => hf.2.2 c (List.mem_filter.1 hc).1⟩
def knownS (h : histT.den) (t : tarT.den) (d : Int) : List sliceT.den × Int := if (atH h d).2 = 0 then ofF (atH h d).1 t else ([], (atH h d).2)
def cKSl : Ct := ⟨[.d histT, .d tarT, .d i64], [slsT, i64], fun x => ((knownS x.1 x.2.1 x.2.2.1).1, (knownS x.1 x.2.1 x.2.2.1).2, ()), fun x => [fewH x.1, fewT x.2.1]⟩
noncomputable def CKs : Cx := cx [(39, cKAt), (19, cOf)] []
theorem CKs_ok : CxOK Try.prog CKs := cx_ok (ps := []) mixed ⟨kAt_ok, of_ok, trivial⟩ trivial
abbrev claimT : Ty := .pair i64 (.pair i64 (.pair i64 (.pair i64 (.pair i64 (.pair i64 .unit)))))
def cIdN : Ct := ⟨[.d i64], [.bool], fun x => (decide (1 <= x.1 /\ x.1 <= 1000000000), ()), fun _ => []⟩
def cDayN : Ct := ⟨[.d i64], [.bool], fun x => (decide (1 <= x.1 /\ x.1 <= 292194), ()), fun _ => []⟩
theorem two_dec (n a b : Int) : (bif decide (n ≥ a) then decide (n <= b) else false) = decide (a <= n /\ n <= b) := by
 rw [Bool.eq_iff_iff]
 simp
theorem idN_ok : SoundCt Try.prog 33 cIdN :=
 flat (ps := [.d i64]) (rs := [.bool]) (cx_ok (cs := []) (ps := []) mixed trivial trivial) (fn := Try.f33) (fr := fun x => Fr.val (bif decide (x.1 ≥ 1) then decide (x.1 <= 1000000000) else false, ())) (0, ()) (by kernel_rfl) (fun x => by kernel_rfl) _ _
  (fun _ _ x _ _ _ => ⟨trivial, Prod.ext (two_dec x.1 1 1000000000) rfl⟩)
theorem dayN_ok : SoundCt Try.prog 34 cDayN :=
 flat (ps := [.d i64]) (rs := [.bool]) (cx_ok (cs := []) (ps := []) mixed trivial trivial) (fn := Try.f34) (fr := fun x => Fr.val (bif decide (x.1 ≥ 1) then decide (x.1 <= 292194) else false, ())) (0, ()) (by kernel_rfl) (fun x => by kernel_rfl) _ _
  (fun _ _ x _ _ _ => ⟨trivial, Prod.ext (two_dec x.1 1 292194) rfl⟩)
def claimB (i p k l b e : Int) : Bool := decide (1 <= i /\ i <= 1000000000) && (decide (1 <= p /\ p <= 1000000000) && (decide (0 <= e /\ e <= 1000000000) && (decide (0 <= k /\ k <= 7) && (decide (1 <= l /\ l <= 292194) && decide (1 <= b /\ b <= 292194)))))
def cClaim : Ct := ⟨[.d claimT], [.bool], fun x => (claimB x.1.1 x.1.2.1 x.1.2.2.1 x.1.2.2.2.1 x.1.2.2.2.2.1 x.1.2.2.2.2.2.1, ()), fun _ => []⟩
def cInN : Ct := ⟨[.d i64, .d i64, .d i64], [.bool], fun x => (decide (x.2.1 <= x.1 /\ x.1 <= x.2.2.1), ()), fun _ => []⟩
theorem inN_ok : SoundCt Try.prog 35 cInN :=
 flat (ps := [.d i64, .d i64, .d i64]) (rs := [.bool]) (cx_ok (cs := []) (ps := []) mixed trivial trivial) (fn := Try.f35) (fr := fun x => Fr.val (bif decide (x.1 ≥ x.2.1) then decide (x.1 <= x.2.2.1) else false, ())) (0, 0, 0, ()) (by kernel_rfl) (fun x => by kernel_rfl) _ _
  (fun _ _ x _ _ _ => ⟨trivial, Prod.ext (two_dec x.1 x.2.1 x.2.2.1) rfl⟩)
noncomputable def CK1 : Cx := cx [(33, cIdN), (34, cDayN), (35, cInN)] []
theorem CK1_ok : CxOK Try.prog CK1 := cx_ok mixed ⟨idN_ok, dayN_ok, inN_ok, trivial⟩ trivial
def frNR (x : denP [.d claimT]) : Fr (denL [.bool]) :=
 let c : claimT.den := x.1
 Fr.val (bif bif bif bif bif bif (cIdN.f (c.1, ())).1 then (cIdN.f (c.2.1, ())).1 else false then (bif c.2.2.2.2.2.1 == 0 then true else (cIdN.f (c.2.2.2.2.2.1, ())).1) else false then decide (c.2.2.1 ≥ 0) else false then decide (c.2.2.1 <= 7) else false then (cDayN.f (c.2.2.2.1, ())).1 else false then (cDayN.f (c.2.2.2.2.1, ())).1 else false, ())
theorem nr_eq (i p k l b e : Int) : (bif bif bif bif bif bif decide (1 <= i /\ i <= 1000000000) then decide (1 <= p /\ p <= 1000000000) else false then (bif e == 0 then true else decide (1 <= e /\ e <= 1000000000)) else false then decide (k ≥ 0) else false then decide (k <= 7) else false then decide (1 <= l /\ l <= 292194) else false then decide (1 <= b /\ b <= 292194) else false) = claimB i p k l b e := by
 have e1 : (bif e == 0 then true else decide (1 <= e /\ e <= 1000000000)) = decide (0 <= e /\ e <= 1000000000) := by
  rw [Bool.eq_iff_iff]
  simp
  omega
 have e2 : decide (0 <= k /\ k <= 7) = (decide (k ≥ 0) && decide (k <= 7)) := by
  rw [Bool.eq_iff_iff]
  simp
 unfold claimB
 rw [e1, e2]
 cases decide (1 <= i /\ i <= 1000000000) <;> cases decide (1 <= p /\ p <= 1000000000) <;> cases decide (0 <= e /\ e <= 1000000000) <;> cases decide (k ≥ 0) <;> cases decide (k <= 7) <;> cases decide (1 <= l /\ l <= 292194) <;> rfl
theorem nRight_ok : SoundCt Try.prog 11 cClaim :=
 flat (ps := [.d claimT]) (rs := [.bool]) CK1_ok (fn := Try.f11) (fr := frNR) (claimT.dflt, ()) (by kernel_rfl) (fun x => by kernel_rfl) _ _
  (fun _ _ x _ _ _ => by
   obtain ⟨⟨i, p, k, l, b, e, _⟩, _⟩ := x
   exact ⟨trivial, Prod.ext (nr_eq i p k l b e) rfl⟩)
noncomputable def CK2 : Cx := cx [] []
theorem CK2_ok : CxOK Try.prog CK2 := cx_ok (cs := []) (ps := []) mixed trivial trivial
abbrev pFi : Pt := ⟨21, 0, ⟨[(10, .d i64), (9, .d i64), (8, .d (.sl coverT)), (1, .d i64)], [.x 4 41 coverT, .r 4 4 0]⟩, ⟨[], [.x 4 41 coverT, .r 4 4 0]⟩, ⟨[(5, .d .bool)], [.x 4 41 coverT, .r 4 4 0]⟩⟩
def fFi (z : pFi.M.X) : Fr pFi.Out :=
 let i : Int := z.1.1; let n : Int := z.1.2.1; let l : List coverT.den := z.1.2.2.1; let p : Int := z.1.2.2.2.1; let o : coverT.den := z.2.1
 let e : coverT.den := l.getD i.toNat coverT.dflt
 Fr.br (decide (i < n))
  (Fr.need (0 <= i /\ i < (l.length : Int)) (Fr.br (e.1 == p) (Fr.val (Rd.back ((true, ()), (e, ())))) (Fr.val (Rd.next ((IntKind.i64.wrap (i + 1), n, l, p, ()), (o, ()))))))
  (Fr.val (Rd.out ((), (o, ()))))
theorem semFi : Does Try.prog (loopF Try.f38 0) pFi.M pFi fFi := Does.of_run CK2_ok (bs := 0) rfl rfl rfl (fun _ => lam0_ok _ 0) (fun x => by kernel_rfl)
def noCover : coverT.den := (0, 0, 0, 0, 0, ())
def findP (p : Int) : List coverT.den -> coverT.den × Bool
 | [] => (noCover, false)
 | c :: l => if c.1 = p then (c, true) else findP p l
theorem findP_none {p : Int} : {l : List coverT.den} -> (findP p l).2 = false -> (findP p l).1 = noCover
 | [], _ => rfl
 | c :: l, h => by
  unfold findP at h ⊢
  split at h
  ·cases h
  ·rename_i hn
   rw [if_neg hn]
   exact findP_none h
structure InFi (i n : Int) (l : List coverT.den) : Prop where
 i0 : 0 <= i
 il : i <= n
 nl : n = l.length
 big : n <= 9223372036854775807
def outFi (o : coverT.den) (r : coverT.den × Bool) : Fr pFi.Out := Fr.br r.2 (Fr.val (Rd.back ((true, ()), (r.1, ())))) (Fr.val (Rd.out ((), (o, ()))))
def FFi (z : pFi.M.X) : Fr pFi.Out := Fr.need (InFi z.1.1 z.1.2.1 z.1.2.2.1) (outFi z.2.1 (findP z.1.2.2.2.1 (z.1.2.2.1.drop z.1.1.toNat)))
theorem lawFi (i n : Int) (l : List coverT.den) (p : Int) (o : coverT.den) (hinv : InFi i n l) (Q : pFi.Out -> Prop) (hq : (outFi o (findP p (l.drop i.toNat))).satP Q) :
  (fFi ((i, n, l, p, ()), (o, ()))).satP fun
   | .next x' => InFi x'.1.1 x'.1.2.1 x'.1.2.2.1 /\ ((x'.1.2.1 : Int) - x'.1.1).toNat < (n - i).toNat /\ (FFi x').satP Q
   | .out y => Q (.out y)
   | .back z => Q (.back z)
   | .pan p => Q (.pan p) := by
 obtain ⟨h1, h2, rfl, h4⟩ := hinv
 refine ⟨fun hi => ?_, fun hi => ?_⟩
 ·have hi' : i < (l.length : Int) := of_decide_eq_true hi
  obtain ⟨k, rfl⟩ : ∃ n : Nat, i = n := ⟨i.toNat, by omega⟩
  have hl : k < l.length := by omega
  have hk : (k : Int).toNat = k := by omega
  have hk1 : ((k : Int) + 1).toNat = k + 1 := by omega
  rw [hk] at hq
  have hw : IntKind.i64.wrap ((k : Int) + 1) = k + 1 := IntWalk.i64_in _ (by omega)
  have g1 : l.getD (k : Int).toNat coverT.dflt = l[k] := by
   rw [hk, List.getD_eq_getElem?_getD, List.getElem?_eq_getElem hl]; rfl
  rw [List.drop_eq_getElem_cons hl] at hq
  dsimp only [fFi, Fr.satP]
  rw [g1, hw]
  refine ⟨⟨by omega, by omega⟩, fun hb => ?_, fun hb => ?_⟩
  ·have hb' : l[k].1 = p := beq_iff_eq.1 hb
   have e : findP p (l[k] :: l.drop (k + 1)) = (l[k], true) := if_pos hb'
   rw [e] at hq
   exact hq.1 rfl
  ·have hb' : ¬ l[k].1 = p := beq_eq_false_iff_ne.1 hb
   have e : findP p (l[k] :: l.drop (k + 1)) = findP p (l.drop (k + 1)) := if_neg hb'
   rw [e] at hq
   have hI : InFi ((k : Int) + 1) (l.length : Int) l := ⟨by omega, by omega, rfl, h4⟩
   refine ⟨hI, by show ((l.length : Int) - ((k : Int) + 1)).toNat < ((l.length : Int) - (k : Int)).toNat; omega, hI, ?_⟩
   show (outFi o (findP p (l.drop ((k : Int) + 1).toNat))).satP Q
   rw [hk1]
   exact hq
 ·have hi' : ¬ i < (l.length : Int) := of_decide_eq_false hi
  have : l.drop i.toNat = [] := List.drop_eq_nil_of_le (by omega)
  rw [this] at hq
  exact hq.2 rfl
theorem loopFi : Does Try.prog (.loop (loopF Try.f38 0)) pFi.M pFi FFi := by
 refine Does.loop (n := 21) (id := 0) semFi (inv := fun x => InFi x.1.1 x.1.2.1 x.1.2.2.1) (μ := fun x => ((x.1.2.1 : Int) - x.1.1).toNat) ?_ (fun x Q h => h.1)
 rintro ⟨⟨i, n, l, p, _⟩, o, _⟩ hinv Q hq
 exact lawFi i n l p o hinv Q hq.2
def cFind : Ct := ⟨[.d (.sl coverT), .d i64], [coverT, .bool], fun x => ((findP x.2.1 x.1).1, (findP x.2.1 x.1).2, ()), fun _ => []⟩
def frFi (x : denP [.d (.sl coverT), .d i64]) : Fr (denL [coverT, .bool]) :=
 let l : List coverT.den := x.1; let p : Int := x.2.1
 Fr.need (InFi 0 l.length l) (Fr.br (findP p (l.drop (0 : Int).toNat)).2 (Fr.val ((findP p (l.drop (0 : Int).toNat)).1, true, ())) (Fr.val (noCover, false, ())))
theorem find_ok : SoundCt Try.prog 38 cFind :=
 convF (fn_sound CK2_ok (Λ := fun _ => pFi.han CK2.Γ pFi.M FFi) (fn := Try.f38) (fr := frFi) (ps := [.d (.sl coverT), .d i64]) (rs := [coverT, .bool]) ([], 0, ()) (by kernel_rfl)
  (fun c E hc => lam1f hc (by kernel_rfl) (b := loopF Try.f38 0) (by kernel_rfl) (Does.han CK2_ok rfl loopFi)) (fun x => by kernel_rfl)) _ _
  (fun w F x vs hr _ => by
   obtain ⟨l, p, _⟩ := x
   obtain ⟨v1, vs1, rfl, h1, _⟩ := hr
   have hlen : (l.length : Int) <= 9223372036854775807 := wf_len h1
   have hI : InFi 0 (l.length : Int) l := ⟨Int.le_refl _, Int.natCast_nonneg _, rfl, hlen⟩
   refine Fr.need_ hI ?_
   show (Fr.br (findP p l).2 (Fr.val ((findP p l).1, true, ())) (Fr.val (noCover, false, ())) : Fr (denL [coverT, .bool])).ok /\ (Fr.br (findP p l).2 (Fr.val ((findP p l).1, true, ())) (Fr.val (noCover, false, ())) : Fr (denL [coverT, .bool])).get = ((findP p l).1, (findP p l).2, ())
   cases hf : (findP p l).2 with
   | true => exact Fr.br_t rfl ⟨trivial, rfl⟩
   | false =>
    rw [findP_none hf]
    exact Fr.br_f rfl ⟨trivial, rfl⟩)
def cUnless : Pc := ⟨[.d .bool, .d i64], [], fun _ => (), fun x => !x.1, fun x => ⟨89 + 1000000, .i64, x.2.1⟩, fun _ => []⟩
set_option maxRecDepth 100000 in
theorem unless_ok : SoundPc Try.prog 37 cUnless := by
 refine ⟨enters (fn := Try.f37) (by kernel_rfl) rfl rfl, fun w F xs vs hb hr _ => ?_⟩
 obtain ⟨v, vs', rfl, hv, v2, vs'', rfl, hv2, hn⟩ := hr
 cases hn
 obtain ⟨s, n, _⟩ := xs
 have hv' : v = .bool s := by
  have h : RepA Try.prog w F (fun _ _ => True) (encV .bool s) v := encV_rep hv
  exact h.2
 have hv2' : v2 = .int .i64 n := by
  have h : RepA Try.prog w F (fun _ _ => True) (encV i64 n) v2 := encV_rep hv2
  exact h.2.1
 subst hv'
 subst hv2'
 cases s
 ·go_enter Try.func37, Try.ntmps37
  go_wp2
  refine ⟨rfl, .inr ⟨rfl, ?_, Below.refl _ _⟩⟩
  show Ending.panicked _ = Ending.panicked [{ v := PV.val ⟨89 + 1000000, .i64, n⟩, recovered := false }]
  rw [PV.val_high (p := ⟨89 + 1000000, .i64, n⟩) (T := 89) rfl]
 ·go_enter Try.func37, Try.ntmps37
  go_wp2
  go_end0
  refine .inl ⟨rfl, .tuple #[], F, rfl, Below.refl _ _, fun _ h => h, fun b h => ⟨.inl h, hb b h⟩, #[], rfl, rfl⟩
theorem five_same {w : World} {b1 b2 : Nat} {t1 t2 : TypeId} {a0 a1 a2 a3 a4 c v0 v1 v2 v3 v4 u : Value} (hne : b1 ≠ b2) (h1 : w.heap[b1]? = some (.cells #[a0, a1, a2, a3, a4] t1 (0, 0))) (h2 : w.heap[b2]? = some (.cells #[c] t2 (0, 0))) :
  SameW (((((((w.setCell ⟨b1, 0, none⟩ v0).setCell ⟨b1, 1, none⟩ v1).setCell ⟨b1, 2, none⟩ v2).setCell ⟨b1, 3, none⟩ v3).setCell ⟨b1, 4, none⟩ v4).setCell ⟨b2, 0, none⟩ u).drew) ((w.setRow b1 #[v0, v1, v2, v3, v4]).setRow b2 #[u]) := by
 have d1 : ∀ X : World, X.drew.os = X.os /\ X.drew.tape = X.tape /\ X.drew.output = X.output /\ X.drew.heap = X.heap := fun _ => ⟨rfl, rfl, rfl, rfl⟩
 have d2 : ∀ (X : World) (a : Addr) (v : Value), (X.setCell a v).os = X.os /\ (X.setCell a v).tape = X.tape /\ (X.setCell a v).output = X.output := fun _ _ _ => ⟨rfl, rfl, rfl⟩
 have d3 : ∀ (X : World) (b : Nat) (v : Array Value), (X.setRow b v).os = X.os /\ (X.setRow b v).tape = X.tape /\ (X.setRow b v).output = X.output := fun _ _ _ => ⟨rfl, rfl, rfl⟩
 unfold SameW
 simp only [(d1 _).1, (d1 _).2.1, (d1 _).2.2.1, (d1 _).2.2.2, (d2 _ _ _).1, (d2 _ _ _).2.1, (d2 _ _ _).2.2, (d3 _ _ _).1, (d3 _ _ _).2.1, (d3 _ _ _).2.2, and_self, and_true]
 have g0 := heap_setCell_same w b1 0 _ t1 v0 h1
 rw [show (#[a0, a1, a2, a3, a4] : Array Value).setIfInBounds 0 v0 = #[v0, a1, a2, a3, a4] from rfl] at g0
 have g1 := heap_setCell_same _ b1 1 _ t1 v1 g0
 rw [show (#[v0, a1, a2, a3, a4] : Array Value).setIfInBounds 1 v1 = #[v0, v1, a2, a3, a4] from rfl] at g1
 have g2 := heap_setCell_same _ b1 2 _ t1 v2 g1
 rw [show (#[v0, v1, a2, a3, a4] : Array Value).setIfInBounds 2 v2 = #[v0, v1, v2, a3, a4] from rfl] at g2
 have g3 := heap_setCell_same _ b1 3 _ t1 v3 g2
 rw [show (#[v0, v1, v2, a3, a4] : Array Value).setIfInBounds 3 v3 = #[v0, v1, v2, v3, a4] from rfl] at g3
 have g4 := heap_setCell_same _ b1 4 _ t1 v4 g3
 rw [show (#[v0, v1, v2, v3, a4] : Array Value).setIfInBounds 4 v4 = #[v0, v1, v2, v3, v4] from rfl] at g4
 have oo : ∀ i, i ≠ b1 -> (((((w.setCell ⟨b1, 0, none⟩ v0).setCell ⟨b1, 1, none⟩ v1).setCell ⟨b1, 2, none⟩ v2).setCell ⟨b1, 3, none⟩ v3).setCell ⟨b1, 4, none⟩ v4).heap[i]? = w.heap[i]? := fun i hi =>
  (heap_setCell_other _ _ i _ hi).trans ((heap_setCell_other _ _ i _ hi).trans ((heap_setCell_other _ _ i _ hi).trans ((heap_setCell_other _ _ i _ hi).trans (heap_setCell_other _ _ i _ hi))))
 generalize ((((w.setCell ⟨b1, 0, none⟩ v0).setCell ⟨b1, 1, none⟩ v1).setCell ⟨b1, 2, none⟩ v2).setCell ⟨b1, 3, none⟩ v3).setCell ⟨b1, 4, none⟩ v4 = X at g4 oo
 have k2 := heap_setCell_same X b2 0 _ t2 u ((oo b2 (Ne.symm hne)).trans h2)
 have r1 := setRow_heap w b1 _ #[v0, v1, v2, v3, v4] t1 (0, 0) h1
 have r2 := setRow_heap (w.setRow b1 #[v0, v1, v2, v3, v4]) b2 _ #[u] t2 (0, 0) ((setRow_other w b1 b2 _ (Ne.symm hne)).trans h2)
 apply Array.ext_getElem?
 intro i
 by_cases i1 : i = b1
 ·subst i1
  exact ((heap_setCell_other _ _ i _ hne).trans g4).trans ((setRow_other _ b2 i _ hne).trans r1).symm
 ·by_cases i2 : i = b2
  ·subst i2
   exact k2.trans r2.symm
  ·exact ((heap_setCell_other _ _ i _ i2).trans (oo i i1)).trans ((setRow_other _ b2 i _ i2).trans (setRow_other _ b1 i _ i1)).symm
set_option maxRecDepth 100000 in
set_option maxHeartbeats 2000000 in
theorem toldTwo_ok : ToldTwo Try.prog 36 89 .i64 5 := by
 refine ⟨enters (fn := Try.f36) (by kernel_rfl) rfl rfl, fun p q w => ?_, fun b1 b2 t1 t2 o1 o2 n w hne h1 hs1 h2 hs2 => ?_⟩
 ·refine callsD_of_wpS Try.func36 rfl fun c₀ cs hu => ?_
  simp only [Try.ntmps36, List.size_toArray, List.length_cons, List.length_nil, Nat.reduceAdd, Nat.reduceSub, Array.replicate_succ, Array.replicate_zero, List.push_toArray, List.append_toArray, List.nil_append, List.cons_append]
  apply wpS_seq
  apply wpS_region
  simp [wpOpsS, go_sem, recoverD, hu, Exit.thenS]
  refine wpS_of_wp ?_
  go_wp2
  cases c₀
  simp_all [bodyPostS, results, Try.results36]
 ·have hta : ∀ w, (Instr.typeAssert (.iface 89 (.agg #[.int .i64 n])) 20 89 false).run Try.prog w = .ok (.agg #[.int .i64 n]) w := fun _ => by kernel_rfl
  have hfd : ∀ w, (Instr.field 89 (.agg #[.int .i64 n]) 0).run Try.prog w = .ok (.int .i64 n) w := fun _ => by kernel_rfl
  obtain ⟨a0, a1, a2, a3, a4, rfl⟩ : ∃ a0 a1 a2 a3 a4, o1 = #[a0, a1, a2, a3, a4] := ⟨o1[0], o1[1], o1[2], o1[3], o1[4], by
   apply Array.ext
   ·exact hs1
   ·intro i h1 h2
    match i, h2 with
    | 0, _ | 1, _ | 2, _ | 3, _ | 4, _ => rfl⟩
  obtain ⟨c0, rfl⟩ := one_of_size hs2
  have x0 := cell_of_block h1 0
  have x1 := cell_of_block h1 1
  have x2 := cell_of_block h1 2
  have x3 := cell_of_block h1 3
  have x4 := cell_of_block h1 4
  have y0 := cell_of_block h2 0
  simp at x0 x1 x2 x3 x4 y0
  have f1 : ∀ j, w.frozen? ⟨b1, j, none⟩ = false := fun j => by simp [World.frozen?, h1]
  have f2 : w.frozen? ⟨b2, 0, none⟩ = false := by simp [World.frozen?, h2]
  refine callsD_of_wpS Try.func36 rfl fun c₀ cs hu => ?_
  simp only [Try.ntmps36, List.size_toArray, List.length_cons, List.length_nil, Nat.reduceAdd, Nat.reduceSub, Array.replicate_succ, Array.replicate_zero, List.push_toArray, List.append_toArray, List.nil_append, List.cons_append]
  apply wpS_seq
  apply wpS_region
  simp [wpOpsS, go_sem, recoverD, hu, Exit.thenS]
  refine wpS_of_wp ?_
  go_wp2
  go_region
  go_wp2
  simp [bodyPostS, results, Try.results36]
  exact five_same hne h1 h2
def X0 : termsT.den := ((1, 101, ()), (0, 36500, 0, 0, ()), [(1, 1000, 1000, 0, 10000, ())], ())
theorem orderL_sorted (h : histT.den) : (orderL h).Pairwise fun x y => dayOf h x <= dayOf h y :=
 (sortB_sort (key := dayOf h) (lt := ltDay h) (fun _ _ _ _ => rfl)).1
theorem chsO_sorted (h : histT.den) : (chsO h).Pairwise fun x y => x.2.1 <= y.2.1 := by
 unfold chsO
 rw [List.pairwise_map]
 exact orderL_sorted h
theorem chAt_mem {h : histT.den} {i : Int} (hi : 0 <= i /\ i < ((chL h).length : Int)) : chAt h i ∈ chL h := by
 unfold chAt
 exact getD_mem (by omega)
theorem chsO_mem {h : histT.den} {c : changeT.den} (hc : c ∈ chsO h) : c ∈ chL h := by
 obtain ⟨i, hi, rfl⟩ := List.mem_map.1 hc
 exact chAt_mem (orderL_mem hi)
structure HistOk (h : histT.den) : Prop where
 terms : termsB h.2.2.1 = true
 a1 : 1 <= h.2.2.1.1.1
 ab : h.2.2.1.1.1 < h.2.2.1.1.2.1
 b1 : h.2.2.1.1.2.1 <= 292195
 wide : h.2.2.1.1.2.1 - h.2.2.1.1.1 <= 1100
 chs : ∀ c ∈ chL h, changeB c = true /\ h.2.2.1.1.1 <= c.2.1 /\ c.2.1 < h.2.2.1.1.2.1
theorem histB_iff {h : histT.den} : histB h = true ↔ termsB h.2.2.1 = true /\ h.2.2.2.1.length <= 2000 /\ ∀ c ∈ chL h, changeB c = true /\ inB h.2.2.1.1.1 h.2.2.1.1.2.1 c.2.1 = true := by
 unfold histB
 simp only [Bool.and_eq_true, decide_eq_true_eq, List.all_eq_true, and_assoc]
theorem terms_span {t : termsT.den} (h : termsB t = true) : 1 <= t.1.1 /\ t.1.1 < t.1.2.1 /\ t.1.2.1 <= 292195 /\ t.1.2.1 - t.1.1 <= 1100 := by
 obtain ⟨⟨a, b, _⟩, r, cs, _⟩ := t
 unfold termsB at h
 rw [Bool.and_eq_true, Bool.and_eq_true] at h
 obtain ⟨h1, h2, _⟩ := h
 obtain ⟨p1, p2, p3⟩ := fullS_iff.1 h1
 exact ⟨p1, p2, p3, of_decide_eq_true h2⟩
theorem histOk {h : histT.den} (hh : histB h = true) : HistOk h := by
 obtain ⟨h1, _, h3⟩ := histB_iff.1 hh
 obtain ⟨p1, p2, p3, p4⟩ := terms_span h1
 refine ⟨h1, p1, p2, p3, p4, fun c hc => ?_⟩
 obtain ⟨q1, q2⟩ := h3 c hc
 have q3 := of_decide_eq_true q2
 exact ⟨q1, q3.2.2.1, q3.2.2.2⟩
theorem cutL_runs {h : histT.den} (hh : histB h = true) : Runs (stOf h) h.2.2.1.1.2.1 h.2.2.1.1.1 (cutL h) := by
 have ho := histOk hh
 exact goCut_runs (k0 := (true, h.2.2.1.2.1, h.2.2.1.2.2.1)) (a := h.2.2.1.1.1) (b := h.2.2.1.1.2.1) (fun c hc => Int.le_of_lt (ho.chs c (chsO_mem hc)).2.2) (chsO h) [] rfl (chsO_sorted h) (nowS h) [] (fun c hc => (by cases hc)) (fun c hc => (ho.chs c (chsO_mem hc)).2.1)
  (Int.le_of_lt ho.ab) rfl rfl rfl
theorem atS_map {v : verT.den} (d : Int) : (l : List sliceT.den) -> (atS (l.map (priceV v)) d).2 = (atS l d).2 /\ ((atS l d).2 = true -> (atS (l.map (priceV v)) d).1 = priceV v (atS l d).1)
 | [] => ⟨rfl, fun h => (by cases h)⟩
 | s :: l => by
  have hs : (priceV v s).1 = s.1 := by
   unfold priceV
   split <;> rfl
  simp only [List.map_cons, atS]
  rw [hs]
  split
  ·exact ⟨rfl, fun _ => rfl⟩
  ·exact atS_map d l
theorem Runs.at_day {st : Int -> Core} {b : Int} (hb : b <= 292195) : {a : Int} -> {l : List sliceT.den} -> 1 <= a -> Runs st b a l -> (d : Int) -> ((atS l d).2 = decide (a <= d /\ d < b)) /\ ((atS l d).2 = true -> coreS (atS l d).1 = st d /\ (atS l d).1 ∈ l /\ (atS l d).1.1.1 <= d /\ d < (atS l d).1.1.2.1)
 | a, [], _, h, d => by
  have h0 : a = b := h
  refine ⟨?_, fun h => (by cases h)⟩
  show false = _
  symm
  rw [decide_eq_false_iff_not]
  rintro ⟨h1, h2⟩
  rw [h0] at h1
  exact absurd (Int.lt_of_lt_of_le h2 h1) (Int.lt_irrefl _)
 | a, s :: l, ha, h, d => by
  have hlt : a < s.1.2.1 := h.2.1
  have hle : s.1.2.1 <= b := Runs.le h.2.2.2.2.2
  have h1 : s.1.1 = a := h.1
  have ih := Runs.at_day hb (a := s.1.2.1) (l := l) (by omega) h.2.2.2.2.2 d
  have hin : inB s.1.1 s.1.2.1 d = decide (a <= d /\ d < s.1.2.1) := by
   unfold inB
   rw [h1]
   rw [Bool.eq_iff_iff, decide_eq_true_eq, decide_eq_true_eq]
   constructor
   ·rintro ⟨_, _, q1, q2⟩
    exact ⟨q1, q2⟩
   ·rintro ⟨q1, q2⟩
    exact ⟨ha, Int.le_trans hle hb, q1, q2⟩
  unfold atS
  by_cases hd : a <= d /\ d < s.1.2.1
  ·rw [hin, if_pos (decide_eq_true hd)]
   refine ⟨?_, fun _ => ⟨h.2.2.2.1 d hd.1 hd.2, by simp, ?_, hd.2⟩⟩
   ·symm
    rw [decide_eq_true_eq]
    exact ⟨hd.1, Int.lt_of_lt_of_le hd.2 hle⟩
   ·rw [h1]; exact hd.1
  ·rw [hin, if_neg (by rw [decide_eq_true_eq]; exact hd)]
   refine ⟨?_, fun hx => ?_⟩
   ·rw [ih.1, Bool.eq_iff_iff, decide_eq_true_eq, decide_eq_true_eq]
    constructor
    ·rintro ⟨q1, q2⟩
     exact ⟨Int.le_trans (Int.le_of_lt hlt) q1, q2⟩
    ·rintro ⟨q1, q2⟩
     refine ⟨Int.not_lt.1 fun q3 => hd ⟨q1, q3⟩, q2⟩
   ·obtain ⟨q1, q2, q3⟩ := ih.2 hx
    exact ⟨q1, by simp [q2], q3⟩
theorem SortK.filter {α : Type} {key : α -> Int} {l : List α} (h : SortK key l) (p : α -> Bool) : SortK key (l.filter p) := List.Pairwise.sublist List.filter_sublist h
theorem Good.all {p : List Int × List Int} {m : Int} (h : Good p m) : ∀ x ∈ p.1, x <= m := by
 intro x hx
 have hp := (rises_spec h.up h.len).1
 have hle := h.le
 have hne : p.1 ≠ [] := List.ne_nil_of_mem hx
 rw [List.getLast?_eq_some_getLast hne] at hle
 have hle' : p.1.getLast hne <= m := hle
 have hs : p.1 = p.1.dropLast ++ [p.1.getLast hne] := (List.dropLast_concat_getLast hne).symm
 rw [hs] at hx hp
 rcases List.mem_append.1 hx with hx | hx
 ·have := (List.pairwise_append.1 hp).2.2 x hx _ (List.mem_singleton.2 rfl)
  exact Int.le_of_lt (Int.lt_of_lt_of_le this hle')
 ·rw [List.mem_singleton.1 hx]
  exact hle'
theorem fewB_fewH {h : histT.den} {t : tarT.den} (hf : fewB h t = true) : fewH h /\ fewT t := by
 unfold fewB at hf
 simp only [Bool.and_eq_true, decide_eq_true_eq, List.all_eq_true] at hf
 obtain ⟨⟨h1, h2, h3⟩, h4, h5⟩ := hf
 refine ⟨⟨by show h.2.2.2.1.length <= 500000; omega, by omega, fun c hc => ?_⟩, by omega, fun v hv => ?_⟩
 ·have : c.2.2.2.2.1.length <= 50 := of_decide_eq_true (h4 c hc)
  omega
 ·have := h5 v hv
  unfold fewV at this
  simp only [Bool.and_eq_true, decide_eq_true_eq] at this
  exact ⟨by omega, by omega, by omega⟩
theorem price_core (v : verT.den) (s : sliceT.den) : coreS (priceV v s) = coreS s /\ (priceV v s).1 = s.1 := by
 unfold priceV
 split <;> exact ⟨rfl, rfl⟩
def verH (h : histT.den) (t : tarT.den) : verT.den × Int := verAt h.2.2.1.1.1 t.1.reverse
theorem ofF_good {h : histT.den} {t : tarT.den} (he : (ofF h t).2 = 0) : histB h = true /\ (verH h t).2 = 0 /\ errP (verH h t).1 (cutL h) = 0 /\ (ofF h t).1 = (cutL h).map (priceV (verH h t).1) := by
 unfold ofF at he ⊢
 by_cases h1 : histB h = true
 ·rw [if_pos h1] at he ⊢
  by_cases h2 : (verAt h.2.2.1.1.1 t.1.reverse).2 = 0
  ·rw [if_pos h2] at he ⊢
   by_cases h3 : errP (verAt h.2.2.1.1.1 t.1.reverse).1 (cutL h) = 0
   ·rw [if_pos h3]
    exact ⟨h1, h2, h3, rfl⟩
   ·rw [if_neg h3] at he
    exact absurd he h3
  ·rw [if_neg h2] at he
   exact absurd he h2
 ·rw [if_neg h1] at he
  cases he
def addCh (h : histT.den) (c : changeT.den) : histT.den := (h.1, h.2.1, h.2.2.1, ([] ++ h.2.2.2.1) ++ [c], ())
set_option maxRecDepth 100000 in
def roomC (n m : Nat) : Prop := n + m <= maxLen /\ (n + m) * Try.prog.types[46].bytes <= 140737488355328
set_option maxRecDepth 100000 in
theorem changeBytes : Try.prog.types[46].bytes <= 1000 := by decide
theorem Runs.mem {st : Int -> Core} {b : Int} : {a : Int} -> {l : List sliceT.den} -> Runs st b a l -> ∀ s ∈ l, a <= s.1.1 /\ s.1.1 < s.1.2.1 /\ s.1.2.1 <= b /\ ∀ d, s.1.1 <= d -> d < s.1.2.1 -> coreS s = st d
 | _, [], _, _, hs => by cases hs
 | a, t :: l, h, s, hs => by
  obtain ⟨h1, h2, h3, h4, h5, h6⟩ := h
  rcases List.mem_cons.1 hs with rfl | hs
  ·rw [h1]
   exact ⟨Int.le_refl _, h2, h6.le, h4⟩
  ·obtain ⟨q1, q2⟩ := Runs.mem h6 s hs
   exact ⟨Int.le_trans (Int.le_of_lt h2) q1, q2⟩
def tlC : Code -> Code
 | .seq _ c => c
 | _ => .skip
def hdC : Code -> Code
 | .seq c _ => c
 | _ => .skip
def opsC : Code -> Array Oper
 | .region _ ops _ => ops
 | _ => #[]
def frKSl (x : denP [.d histT, .d tarT, .d i64]) : Fr (denL [slsT, i64]) :=
 let h : histT.den := x.1; let t : tarT.den := x.2.1; let d : Int := x.2.2.1
 Fr.need (fewH h) (Fr.br ((cKAt.f (h, d, ())).2.1 != 0) (Fr.val ([], (cKAt.f (h, d, ())).2.1, ()))
  (Fr.need (fewH (cKAt.f (h, d, ())).1) (Fr.need (fewT t) (Fr.val ((cOf.f ((cKAt.f (h, d, ())).1, t, ())).1, (cOf.f ((cKAt.f (h, d, ())).1, t, ())).2.1, ())))))
theorem kSl_run : SoundCt Try.prog 15 ⟨[.d histT, .d tarT, .d i64], [slsT, i64], fun xs => (frKSl xs).get, fun xs => [(frKSl xs).ok]⟩ :=
 fn_sound CKs_ok (Λ := lam0) (fn := Try.f15) (fr := frKSl) (ps := [.d histT, .d tarT, .d i64]) (rs := [slsT, i64]) (histT.dflt, tarT.dflt, 0, ()) (by kernel_rfl) (fun c E _ => lam0_ok c 0) (fun x => by kernel_rfl)
theorem kSl_eq (h : histT.den) (t : tarT.den) (d : Int) (hf : fewH h) (ht : fewT t) : (frKSl (h, t, d, ())).ok /\ (frKSl (h, t, d, ())).get = ((knownS h t d).1, (knownS h t d).2, ()) := by
 refine Fr.need_ hf ?_
 unfold knownS
 by_cases h1 : (atH h d).2 = 0
 ·rw [if_pos h1]
  exact Fr.br_f (by show ((atH h d).2 != 0) = false; simp [h1]) (Fr.need_ (atH_few hf d) (Fr.need_ ht ⟨trivial, rfl⟩))
 ·rw [if_neg h1]
  exact Fr.br_t (by show ((atH h d).2 != 0) = true; simp [h1]) ⟨trivial, rfl⟩
theorem kSl_ok : SoundCt Try.prog 15 cKSl :=
 convF kSl_run _ _ (fun w F x vs hr hok => by
  obtain ⟨h, t, d, _⟩ := x
  exact kSl_eq h t d hok.1 hok.2)
def Er (e : Int) : Prop := 0 <= e /\ e <= 20
theorem er0 : Er 0 := ⟨by decide, by decide⟩
theorem er1 : Er 1 := ⟨by decide, by decide⟩
theorem er5 : Er 5 := ⟨by decide, by decide⟩
theorem er6 : Er 6 := ⟨by decide, by decide⟩
theorem er7 : Er 7 := ⟨by decide, by decide⟩
theorem evenF_er (a b c : Int) : Er (evenF a b c).2 := by
 unfold evenF
 split
 ·first | exact er0 | exact er1 | exact er5 | exact er6 | exact er7
 ·split
  ·first | exact er0 | exact er1 | exact er5 | exact er6 | exact er7
  ·split <;> first | exact er0 | exact er1 | exact er5 | exact er6 | exact er7
theorem bpGo_er : (l : List Int) -> (m : Int) -> Er (bpGo l m).2
 | [], _ => er0
 | b :: r, m => by
  unfold bpGo
  split
  ·exact bpGo_er r _
  ·exact evenF_er _ _ _
theorem oneF_er (v : verT.den) (r : riskT.den) (c : coverT.den) : Er (oneF v r c).2 := by
 unfold oneF
 split
 ·split
  ·first | exact er0 | exact er1 | exact er5 | exact er6 | exact er7
  ·split
   ·first | exact er0 | exact er1 | exact er5 | exact er6 | exact er7
   ·exact bpGo_er _ _
 ·first | exact er0 | exact er1 | exact er5 | exact er6 | exact er7
theorem yrGo_er (v : verT.den) (r : riskT.den) : (l : List coverT.den) -> (q : Int) -> (b : Bool) -> Er (yrGo v r l q b).2.2
 | [], _, _ => er0
 | c :: l, q, b => by
  unfold yrGo
  split
  ·split
   ·split
    ·exact yrGo_er v r l _ _
    ·exact yrGo_er v r l _ _
   ·exact yrGo_er v r l _ _
  ·exact oneF_er _ _ _
theorem yearF_er (v : verT.den) (r : riskT.den) (l : List coverT.den) : Er (yearF v r l).2 := by
 unfold yearF
 split
 ·split <;> first | exact er0 | exact er1 | exact er5 | exact er6 | exact er7
 ·exact yrGo_er _ _ _ _ _
theorem errP_er (v : verT.den) : (l : List sliceT.den) -> Er (errP v l)
 | [] => er0
 | s :: l => by
  unfold errP
  split
  ·split
   ·exact errP_er v l
   ·exact yearF_er _ _ _
  ·exact errP_er v l
theorem verAt_er (d : Int) : (l : List verT.den) -> Er (verAt d l).2
 | [] => er7
 | v :: r => by
  unfold verAt
  split
  ·first | exact er0 | exact er1 | exact er5 | exact er6 | exact er7
  ·exact verAt_er d r
theorem ofF_er (h : histT.den) (t : tarT.den) : Er (ofF h t).2 := by
 unfold ofF
 split
 ·split
  ·split
   ·first | exact er0 | exact er1 | exact er5 | exact er6 | exact er7
   ·exact errP_er _ _
  ·exact verAt_er _ _
 ·first | exact er0 | exact er1 | exact er5 | exact er6 | exact er7
theorem knownS_er (h : histT.den) (t : tarT.den) (d : Int) : Er (knownS h t d).2 := by
 unfold knownS
 split
 ·exact ofF_er _ _
 ·unfold atH
  split <;> first | exact er0 | exact er1 | exact er5 | exact er6 | exact er7
theorem Er.inR {e : Int} (h : Er e) : inR .i64 e := by
 obtain ⟨h1, h2⟩ := h
 have e1 : IntKind.i64.min = -9223372036854775808 := by decide
 have e2 : IntKind.i64.max = 9223372036854775807 := by decide
 unfold Go.Ab.inR
 rw [e1, e2]
 omega
def claimC (c : claimT.den) : Bool := claimB c.1 c.2.1 c.2.2.1 c.2.2.2.1 c.2.2.2.2.1 c.2.2.2.2.2.1
def cover1 (l : List sliceT.den) (c : claimT.den) : coverT.den × Int :=
 if ((atS l c.2.2.2.1).2 && (atS l c.2.2.2.1).1.2.1) = true then
  (if (findP c.2.2.1 (atS l c.2.2.2.1).1.2.2.2.1).2 = true then ((findP c.2.2.1 (atS l c.2.2.2.1).1.2.2.2.1).1, 0) else (noCover, 11))
 else (noCover, 11)
def covF (h : histT.den) (t : tarT.den) (c : claimT.den) : coverT.den × Int :=
 if claimC c = true then
  (if c.2.2.2.1 <= c.2.2.2.2.1 then
   (if c.2.1 = h.1 then (if (knownS h t c.2.2.2.2.1).2 = 0 then cover1 (knownS h t c.2.2.2.2.1).1 c else (noCover, (knownS h t c.2.2.2.2.1).2)) else (noCover, 7))
  else (noCover, 4))
 else (noCover, 1)
def cCov : Ct := ⟨[.d histT, .d tarT, .d claimT], [coverT, i64], fun x => ((covF x.1 x.2.1 x.2.2.1).1, (covF x.1 x.2.1 x.2.2.1).2, ()), fun x => [fewH x.1, fewT x.2.1]⟩
noncomputable def CCov : Cx := cx [(11, cClaim), (15, cKSl), (16, cAt), (38, cFind)] [(37, cUnless)]
theorem CCov_ok : CxOK Try.prog CCov := cx_ok mixed ⟨nRight_ok, kSl_ok, slices_At_ok, find_ok, trivial⟩ ⟨unless_ok, trivial⟩
def unl (b : Bool) (e : Int) (k : Fr (denL [coverT, i64])) : Fr (denL [coverT, i64]) :=
 Fr.br (cUnless.bad (b, e, ())) (Fr.need (inR .i64 (cUnless.pv (b, e, ())).n) (Fr.val ((0, 0, 0, 0, 0, ()), (cUnless.pv (b, e, ())).n, ()))) k
def frCov (x : denP [.d histT, .d tarT, .d claimT]) : Fr (denL [coverT, i64]) :=
 let h : histT.den := x.1; let t : tarT.den := x.2.1; let c : claimT.den := x.2.2.1
 unl (cClaim.f (c, ())).1 1 (unl (decide (c.2.2.2.2.1 ≥ c.2.2.2.1)) 4 (unl (c.2.1 == h.1) 7 (Fr.need (fewH h) (Fr.need (fewT t)
  (unl ((cKSl.f (h, t, c.2.2.2.2.1, ())).2.1 == 0) (cKSl.f (h, t, c.2.2.2.2.1, ())).2.1
   (unl (bif (cAt.f ((cKSl.f (h, t, c.2.2.2.2.1, ())).1, c.2.2.2.1, ())).2.1 then (cAt.f ((cKSl.f (h, t, c.2.2.2.2.1, ())).1, c.2.2.2.1, ())).1.2.1 else false) 11
    (unl (cFind.f ((cAt.f ((cKSl.f (h, t, c.2.2.2.2.1, ())).1, c.2.2.2.1, ())).1.2.2.2.1, c.2.2.1, ())).2.1 11
     (Fr.val ((cFind.f ((cAt.f ((cKSl.f (h, t, c.2.2.2.2.1, ())).1, c.2.2.2.1, ())).1.2.2.2.1, c.2.2.1, ())).1, 0, ())))))))))
noncomputable def covC : Code := (Try.f14.body.map fun c => tlC (tlC c)).getD .skip
theorem cov_run : SoundCt Try.prog 14 ⟨[.d histT, .d tarT, .d claimT], [coverT, i64], fun xs => (frCov xs).get, fun xs => [(frCov xs).ok]⟩ :=
 dt_sound CCov_ok (run := fun s => codeA Try.prog CCov 0 lam0 covC 0 s) (T := 89) (k := .i64) (m := 5) (fn := Try.f14) (A := hdC (Try.f14.body.getD .skip)) (c := covC) (rid := 1) (ops := opsC (hdC (tlC (Try.f14.body.getD .skip)))) (td := 12) (ta := 6) (tb := 7) (fr := frCov) (ps := [.d histT, .d tarT, .d claimT]) (rs := [coverT, i64]) (histT.dflt, tarT.dflt, claimT.dflt, ())
  (by kernel_rfl) (by kernel_rfl) (by kernel_rfl) toldTwo_ok (fun E => codeA_run CCov_ok (lam0_ok _ 0)) (fun x => by kernel_rfl)
theorem unl_t {b : Bool} {e : Int} {k : Fr (denL [coverT, i64])} {y : denL [coverT, i64]} (hb : b = true) (hk : k.ok /\ k.get = y) : (unl b e k).ok /\ (unl b e k).get = y := Fr.br_f (by show (!b) = false; rw [hb]; rfl) hk
theorem unl_f {b : Bool} {e : Int} {k : Fr (denL [coverT, i64])} (hb : b = false) (he : inR .i64 e) : (unl b e k).ok /\ (unl b e k).get = (noCover, e, ()) := Fr.br_t (by show (!b) = true; rw [hb]; rfl) (Fr.need_ he ⟨trivial, rfl⟩)
theorem cov_eq (h : histT.den) (t : tarT.den) (c : claimT.den) (hf : fewH h) (ht : fewT t) : (frCov (h, t, c, ())).ok /\ (frCov (h, t, c, ())).get = ((covF h t c).1, (covF h t c).2, ()) := by
 unfold covF
 by_cases h1 : claimC c = true
 ·rw [if_pos h1]
  refine unl_t h1 ?_
  by_cases h2 : c.2.2.2.1 <= c.2.2.2.2.1
  ·rw [if_pos h2]
   refine unl_t (by simpa using h2) ?_
   by_cases h3 : c.2.1 = h.1
   ·rw [if_pos h3]
    refine unl_t (by simpa using h3) (Fr.need_ hf (Fr.need_ ht ?_))
    by_cases h4 : (knownS h t c.2.2.2.2.1).2 = 0
    ·rw [if_pos h4]
     refine unl_t (by show ((knownS h t c.2.2.2.2.1).2 == 0) = true; simpa using h4) ?_
     unfold cover1
     by_cases h5 : ((atS (knownS h t c.2.2.2.2.1).1 c.2.2.2.1).2 && (atS (knownS h t c.2.2.2.2.1).1 c.2.2.2.1).1.2.1) = true
     ·rw [if_pos h5]
      refine unl_t ((bif_and _ _).trans h5) ?_
      by_cases h6 : (findP c.2.2.1 (atS (knownS h t c.2.2.2.2.1).1 c.2.2.2.1).1.2.2.2.1).2 = true
      ·rw [if_pos h6]
       exact unl_t h6 ⟨trivial, rfl⟩
      ·rw [if_neg h6]
       exact unl_f (Bool.eq_false_iff.2 h6) ⟨by decide, by decide⟩
     ·rw [if_neg h5]
      exact unl_f ((bif_and _ _).trans (Bool.eq_false_iff.2 h5)) ⟨by decide, by decide⟩
    ·rw [if_neg h4]
     exact unl_f (by show ((knownS h t c.2.2.2.2.1).2 == 0) = false; simpa using h4) (knownS_er h t _).inR
   ·rw [if_neg h3]
    exact unl_f (by simpa using h3) ⟨by decide, by decide⟩
  ·rw [if_neg h2]
   exact unl_f (by simpa using h2) ⟨by decide, by decide⟩
 ·rw [if_neg h1]
  exact unl_f (Bool.eq_false_iff.2 h1) ⟨by decide, by decide⟩
theorem cov_ok : SoundCt Try.prog 14 cCov :=
 convF cov_run _ _ (fun w F x vs hr hok => by
  obtain ⟨h, t, c, _⟩ := x
  exact cov_eq h t c hok.1 hok.2)
abbrev clsT : Ty := .sl claimT
noncomputable def CWy : Cx := cx [(14, cCov)] []
theorem CWy_ok : CxOK Try.prog CWy := cx_ok (ps := []) mixed ⟨cov_ok, trivial⟩ trivial
abbrev ptWy : Pt := ⟨31, 0, ⟨[(12, .d clsT), (13, .d i64), (14, .d i64)], [.x 3 35 histT, .r 3 3 0, .x 4 38 tarT, .r 4 4 0, .o 7 42 i64]⟩, ⟨[], [.o 7 42 i64]⟩, ⟨[], []⟩⟩
set_option maxRecDepth 100000 in
def roomE (n m : Nat) : Prop := n + m <= maxLen /\ (n + m) * Try.prog.types[42].bytes <= 140737488355328
set_option maxRecDepth 100000 in
theorem errBytes : Try.prog.types[42].bytes <= 1000 := by decide
theorem roomE_mil {n m : Nat} (h : n + m <= 1000000) : roomE n m := ⟨by unfold maxLen; omega, Nat.le_trans (Nat.mul_le_mul h errBytes) (by decide)⟩
def frWy (x : ptWy.M.X) : Fr ptWy.Out :=
 let l : List claimT.den := x.1.1; let n : Int := x.1.2.1; let i : Int := x.1.2.2.1; let h : histT.den := x.2.1; let t : tarT.den := x.2.2.1; let o : List Int := x.2.2.2.1
 let e : Int := (cCov.f (h, t, l.getD i.toNat claimT.dflt, ())).2.1
 Fr.br (decide (i < n))
  (Fr.need (0 <= i /\ i < (l.length : Int)) (Fr.need (fewH h) (Fr.need (fewT t) (Fr.need (roomE o.length (List.length [e]))
   (Fr.val (Rd.next ((l, n, IntKind.i64.wrap (i + 1), ()), (h, t, o ++ [e], ()))))))))
  (Fr.val (Rd.out ((), (o, ()))))
theorem semWy : Does Try.prog (loopF Try.f31 0) ptWy.M ptWy frWy :=
 Does.of_run CWy_ok (bs := 0) (Λ := lam0) rfl rfl rfl (fun E => lam0_ok _ 0) (fun x => by kernel_rfl)
def whyL (h : histT.den) (t : tarT.den) (l : List claimT.den) : List Int := l.map fun c => (covF h t c).2
structure InvWy (h : histT.den) (t : tarT.den) (l : List claimT.den) (n i : Int) (o : List Int) : Prop where
 fh : fewH h
 ft : fewT t
 i0 : 0 <= i
 il : i <= n
 nl : n = l.length
 few : l.length <= 1000000
 o0 : o = whyL h t (l.take i.toNat)
def FWy (x : ptWy.M.X) : Fr ptWy.Out := Fr.need (InvWy x.2.1 x.2.2.1 x.1.1 x.1.2.1 x.1.2.2.1 x.2.2.2.1) (Fr.val (Rd.out ((), (whyL x.2.1 x.2.2.1 x.1.1, ()))))
theorem lawWy (h : histT.den) (t : tarT.den) (l : List claimT.den) (n i : Int) (o : List Int) (hinv : InvWy h t l n i o) (Q : ptWy.Out -> Prop) (hq : Q (Rd.out ((), (whyL h t l, ())))) : (frWy ((l, n, i, ()), (h, t, o, ()))).satP fun
   | .next x' => InvWy x'.2.1 x'.2.2.1 x'.1.1 x'.1.2.1 x'.1.2.2.1 x'.2.2.2.1 /\ (x'.1.2.1 - x'.1.2.2.1).toNat < (n - i).toNat /\ (FWy x').satP Q
   | .out y => Q (.out y)
   | .back z => Q (.back z)
   | .pan p => Q (.pan p) := by
 obtain ⟨hf, ht, h0, h1, h2, h3, h5⟩ := hinv
 obtain ⟨k, rfl⟩ : ∃ k : Nat, i = k := ⟨i.toNat, by omega⟩
 subst h2
 dsimp only [frWy, Fr.satP]
 rw [Int.toNat_natCast] at h5 ⊢
 subst h5
 refine ⟨fun hi => ?_, fun hi => ?_⟩
 ·have hk : k < l.length := by have : (k : Int) < (l.length : Int) := of_decide_eq_true hi; omega
  have w1 : IntKind.i64.wrap ((k : Int) + 1) = ((k + 1 : Nat) : Int) := by rw [i64w (by omega)]; omega
  have hs : whyL h t (l.take k) ++ [(covF h t (l.getD k claimT.dflt)).2] = whyL h t (l.take (k + 1)) := by
   unfold whyL
   rw [List.take_add_one, List.map_append, List.getD_eq_getElem?_getD, List.getElem?_eq_getElem hk]
   rfl
  have hI : InvWy h t l l.length ((k + 1 : Nat) : Int) (whyL h t (l.take (k + 1))) := ⟨hf, ht, by omega, by omega, rfl, h3, by rw [Int.toNat_natCast]⟩
  have hl : (whyL h t (l.take k)).length = k := by unfold whyL; rw [List.length_map, List.length_take]; omega
  rw [w1]
  refine ⟨⟨by omega, by omega⟩, hf, ht, roomE_mil (by rw [hl]; show k + 1 <= 1000000; omega), ?_⟩
  have hs' : whyL h t (l.take k) ++ [(cCov.f (h, t, l.getD k claimT.dflt, ())).2.1] = whyL h t (l.take (k + 1)) := hs
  rw [hs']
  exact ⟨hI, by omega, hI, hq⟩
 ·have hk : ¬ (k : Int) < (l.length : Int) := of_decide_eq_false hi
  rw [List.take_of_length_le (by omega)]
  exact hq
theorem loopWy : Does Try.prog (.loop (loopF Try.f31 0)) ptWy.M ptWy FWy := by
 refine Does.loop (n := 31) (id := 0) semWy (inv := fun x => InvWy x.2.1 x.2.2.1 x.1.1 x.1.2.1 x.1.2.2.1 x.2.2.2.1) (μ := fun x => (x.1.2.1 - x.1.2.2.1).toNat) ?_ (fun x Q h => h.1)
 rintro ⟨⟨l, n, i, _⟩, h, t, o, _⟩ hinv Q hq
 exact lawWy h t l n i o hinv Q hq.2
def cWhy : Ct := ⟨[.d histT, .d tarT, .d clsT], [ints], fun x => (whyL x.1 x.2.1 x.2.2.1, ()), fun x => [fewH x.1, fewT x.2.1, List.length (α := claimT.den) x.2.2.1 <= 1000000]⟩
def frWhy (x : denP [.d histT, .d tarT, .d clsT]) : Fr (denL [ints]) :=
 let l : List claimT.den := x.2.2.1
 Fr.need (InvWy x.1 x.2.1 l l.length 0 []) (Fr.val (whyL x.1 x.2.1 l, ()))
theorem why_run : SoundCt Try.prog 31 ⟨[.d histT, .d tarT, .d clsT], [ints], fun xs => (frWhy xs).get, fun xs => [(frWhy xs).ok]⟩ :=
 fn_sound CWy_ok (Λ := fun _ => ptWy.han CWy.Γ ptWy.M FWy) (fn := Try.f31) (fr := frWhy) (ps := [.d histT, .d tarT, .d clsT]) (rs := [ints]) (histT.dflt, tarT.dflt, [], ()) (by kernel_rfl)
  (fun c E hc => lam1f hc (by kernel_rfl) (b := loopF Try.f31 0) (by kernel_rfl) (Does.han CWy_ok rfl loopWy)) (fun x => by kernel_rfl)
theorem why_ok : SoundCt Try.prog 31 cWhy :=
 convF why_run _ _ (fun w F x vs hr hok => by
  obtain ⟨h, t, l, _⟩ := x
  obtain ⟨h1, h2, h3⟩ := hok
  exact ⟨⟨⟨h1, h2, Int.le_refl _, by omega, rfl, h3, rfl⟩, trivial⟩, rfl⟩)
noncomputable def CSm : Cx := cx [] []
theorem CSm_ok : CxOK Try.prog CSm := cx_ok (cs := []) (ps := []) mixed trivial trivial
abbrev ptSm : Pt := ⟨26, 0, ⟨[(0, .d ints), (1, .d ints), (12, .d i64), (13, .d i64)], []⟩, ⟨[], []⟩, ⟨[(4, .d .bool)], []⟩⟩
def frSm (x : ptSm.M.X) : Fr ptSm.Out :=
 let a : List Int := x.1.1; let b : List Int := x.1.2.1; let n : Int := x.1.2.2.1; let i : Int := x.1.2.2.2.1
 Fr.br (decide (i < n))
  (Fr.need (0 <= i /\ i < (a.length : Int)) (Fr.need (0 <= i /\ i < (b.length : Int))
   (Fr.br (a.getD i.toNat i64.dflt != b.getD i.toNat i64.dflt) (Fr.val (Rd.back ((false, ()), ()))) (Fr.val (Rd.next ((a, b, n, IntKind.i64.wrap (i + 1), ()), ()))))))
  (Fr.val (Rd.out ((), ())))
theorem semSm : Does Try.prog (loopF Try.f32 0) ptSm.M ptSm frSm :=
 Does.of_run CSm_ok (bs := 0) (Λ := lam0) rfl rfl rfl (fun E => lam0_ok _ 0) (fun x => by kernel_rfl)
structure InvSm (a b : List Int) (n i : Int) : Prop where
 i0 : 0 <= i
 il : i <= n
 nl : n = a.length
 ab : a.length = b.length
 big : (a.length : Int) <= 9223372036854775807
def FSm (x : ptSm.M.X) : Fr ptSm.Out := Fr.need (InvSm x.1.1 x.1.2.1 x.1.2.2.1 x.1.2.2.2.1)
 (Fr.br (List.drop (α := Int) x.1.2.2.2.1.toNat x.1.1 == List.drop (α := Int) x.1.2.2.2.1.toNat x.1.2.1) (Fr.val (Rd.out ((), ()))) (Fr.val (Rd.back ((false, ()), ()))))
theorem lawSm (a b : List Int) (n i : Int) (hinv : InvSm a b n i) (Q : ptSm.Out -> Prop) (hq : (Fr.br (List.drop i.toNat a == List.drop i.toNat b) (Fr.val (Rd.out ((), ()))) (Fr.val (Rd.back ((false, ()), ()))) : Fr ptSm.Out).satP Q) : (frSm ((a, b, n, i, ()), ())).satP fun
   | .next x' => InvSm x'.1.1 x'.1.2.1 x'.1.2.2.1 x'.1.2.2.2.1 /\ (x'.1.2.2.1 - x'.1.2.2.2.1).toNat < (n - i).toNat /\ (FSm x').satP Q
   | .out y => Q (.out y)
   | .back z => Q (.back z)
   | .pan p => Q (.pan p) := by
 obtain ⟨h0, h1, h2, h3, h4⟩ := hinv
 obtain ⟨k, rfl⟩ : ∃ k : Nat, i = k := ⟨i.toNat, by omega⟩
 subst h2
 dsimp only [frSm, Fr.satP] at hq ⊢
 rw [Int.toNat_natCast] at hq ⊢
 refine ⟨fun hi => ?_, fun hi => ?_⟩
 ·have hk : k < a.length := by have : (k : Int) < (a.length : Int) := of_decide_eq_true hi; omega
  have hkb : k < b.length := by omega
  have ea : a.getD k i64.dflt = a[k] := by rw [List.getD_eq_getElem?_getD, List.getElem?_eq_getElem hk]; rfl
  have eb : b.getD k i64.dflt = b[k] := by rw [List.getD_eq_getElem?_getD, List.getElem?_eq_getElem hkb]; rfl
  have da := List.drop_eq_getElem_cons hk
  have db := List.drop_eq_getElem_cons hkb
  have w1 : IntKind.i64.wrap ((k : Int) + 1) = ((k + 1 : Nat) : Int) := by rw [i64w (by omega)]; omega
  rw [ea, eb, w1]
  rw [da, db] at hq
  refine ⟨⟨by omega, by omega⟩, ⟨by omega, by omega⟩, fun hne => ?_, fun he => ?_⟩
  ·have hne' : a[k] ≠ b[k] := by simpa using hne
   exact hq.2 (by rw [List.cons_beq_cons, beq_eq_false_iff_ne.2 hne', Bool.false_and])
  ·have he' : a[k] = b[k] := by simpa using he
   have hI : InvSm a b a.length ((k + 1 : Nat) : Int) := ⟨by omega, by omega, rfl, h3, h4⟩
   refine ⟨hI, by omega, hI, ?_⟩
   rw [he'] at hq
   have e : (b[k] :: List.drop (k + 1) a == b[k] :: List.drop (k + 1) b) = (List.drop (k + 1) a == List.drop (k + 1) b) := by rw [List.cons_beq_cons, beq_self_eq_true, Bool.true_and]
   rw [e] at hq
   exact hq
 ·have hk : ¬ (k : Int) < (a.length : Int) := of_decide_eq_false hi
  have da : List.drop k a = [] := List.drop_of_length_le (by omega)
  have db : List.drop k b = [] := List.drop_of_length_le (by omega)
  rw [da, db] at hq
  exact hq.1 rfl
theorem loopSm : Does Try.prog (.loop (loopF Try.f32 0)) ptSm.M ptSm FSm := by
 refine Does.loop (n := 26) (id := 0) semSm (inv := fun x => InvSm x.1.1 x.1.2.1 x.1.2.2.1 x.1.2.2.2.1) (μ := fun x => (x.1.2.2.1 - x.1.2.2.2.1).toNat) ?_ (fun x Q h => h.1)
 rintro ⟨⟨a, b, n, i, _⟩, _⟩ hinv Q hq
 exact lawSm a b n i hinv Q hq.2
def cSame17 : Ct := ⟨[.d ints, .d ints], [.bool], fun x => (List.beq (α := Int) x.1 x.2.1, ()), fun _ => []⟩
def frSame (x : denP [.d ints, .d ints]) : Fr (denL [.bool]) :=
 let a : List Int := x.1; let b : List Int := x.2.1
 Fr.br ((a.length : Int) != (b.length : Int)) (Fr.val (false, ()))
  (Fr.need (InvSm a b a.length 0) (Fr.br (List.drop (0 : Int).toNat a == List.drop (0 : Int).toNat b) (Fr.val (true, ())) (Fr.val (false, ()))))
theorem same17_run : SoundCt Try.prog 32 ⟨[.d ints, .d ints], [.bool], fun xs => (frSame xs).get, fun xs => [(frSame xs).ok]⟩ :=
 fn_sound CSm_ok (Λ := fun _ => ptSm.han CSm.Γ ptSm.M FSm) (fn := Try.f32) (fr := frSame) (ps := [.d ints, .d ints]) (rs := [.bool]) ([], [], ()) (by kernel_rfl)
  (fun c E hc => lam1f hc (by kernel_rfl) (b := loopF Try.f32 0) (by kernel_rfl) (Does.han CSm_ok rfl loopSm)) (fun x => by kernel_rfl)
theorem same17_eq (a b : List Int) (ha : (a.length : Int) <= 9223372036854775807) : (frSame (a, b, ())).ok /\ (frSame (a, b, ())).get = (List.beq a b, ()) := by
 have hb : List.beq a b = (a == b) := rfl
 rw [hb]
 by_cases h1 : a.length = b.length
 ·refine Fr.br_f (by simp [h1]) (Fr.need_ ⟨Int.le_refl _, by omega, rfl, h1, ha⟩ ?_)
  by_cases h2 : a = b
  ·subst h2
   exact Fr.br_t (by simp) ⟨trivial, by simp [Fr.get]⟩
  ·exact Fr.br_f (by simpa using h2) ⟨trivial, by simp [Fr.get, h2]⟩
 ·have h2 : a ≠ b := fun e => h1 (congrArg _ e)
  exact Fr.br_t (by simpa using fun e : (a.length : Int) = b.length => h1 (by omega)) ⟨trivial, by simp [Fr.get, h2]⟩
theorem same17_ok : SoundCt Try.prog 32 cSame17 :=
 convF same17_run _ _ (fun w F x vs hr hok => by
  obtain ⟨a, b, _⟩ := x
  obtain ⟨v, vs', rfl, hv, _⟩ := hr
  exact same17_eq a b (len_big (RepT.wf hv.2.2).1))
def Hn : histT.den := (1, 1, ((1, 101, ()), (0, 1000, 0, 0, ()), [(1, 10, 10, 0, 10000, ())], ()), [(60, 41, 3, (0, 0, 0, 0, ()), [], 0, ())], ())
def Tn : tarT.den := ([(1, (100, 100, 100, 100, ()), [], [10000], [10000, 10000, 10000, 10000, 10000, 10000, 10000, 10000], 1, ())], ())
noncomputable def CPn : Cx := cx [] []
theorem CPn_ok : CxOK Try.prog CPn := cx_ok (cs := []) (ps := []) mixed trivial trivial
def cPlain17 : Ct := ⟨[], [histT, tarT], fun _ => (Hn, Tn, ()), fun _ => []⟩
theorem plain17_ok : SoundCt Try.prog 30 cPlain17 :=
 convF (fn_sound CPn_ok (Λ := lam0) (fn := Try.f30) (fr := fun _ => Fr.val (Hn, Tn, ())) (ps := []) (rs := [histT, tarT]) () (by kernel_rfl) (fun c E _ => lam0_ok c 0) (fun x => by kernel_rfl)) _ _ (fun _ _ _ _ _ _ => ⟨trivial, rfl⟩)
noncomputable def CAl17 : Cx := cx [(30, cPlain17), (14, cCov), (11, cClaim), (32, cSame17), (31, cWhy)] []
theorem CAl17_ok : CxOK Try.prog CAl17 := cx_ok (ps := []) mixed ⟨plain17_ok, cov_ok, nRight_ok, same17_ok, why_ok, trivial⟩ trivial
def Cn : List claimT.den := [(1, 1, 1, 50, 61, 0, ()), (1, 1, 2, 50, 55, 0, ()), (1, 2, 1, 50, 55, 0, ()), (1, 1, 1, 50, 49, 0, ()), (0, 0, 0, 0, 0, 0, ())]
def no1 : Fr (denL [.bool]) := Fr.val (false, ())
def frAl17 (_ : denP []) : Fr (denL [.bool]) :=
 Fr.need (fewH Hn) (Fr.need (fewT Tn) (Fr.need (fewH Hn) (Fr.need (fewT Tn) (Fr.need (List.length (α := claimT.den) Cn <= 1000000)
  (Fr.br ((covF Hn Tn (1, 1, 1, 50, 55, 0, ())).1.2.1 == 10) (Fr.br ((covF Hn Tn (1, 1, 1, 50, 55, 0, ())).2 == 0) (Fr.br (List.beq (whyL Hn Tn Cn) [11, 11, 7, 4, 1])
   (Fr.br (claimB 1 1 0 1 1 0) (Fr.val (!(claimB 0 0 0 0 0 0), ())) no1) no1) no1) no1)))))
theorem al17_run : SoundCt Try.prog 10 ⟨[], [.bool], fun xs => (frAl17 xs).get, fun xs => [(frAl17 xs).ok]⟩ :=
 fn_sound CAl17_ok (Λ := lam0) (fn := Try.f10) (fr := frAl17) (ps := []) (rs := [.bool]) () (by kernel_rfl) (fun c E _ => lam0_ok c 0) (fun x => by kernel_rfl)
def cYes17 : Ct := ⟨[], [.bool], fun _ => (true, ()), fun _ => []⟩
def cLaw17 (ps : List PT) : Ct := ⟨ps, [.bool], fun _ => (true, ()), fun _ => []⟩
theorem fewHn : fewH Hn := ⟨by decide, by decide, fun c hc => by
 have e : chL Hn = [(60, 41, 3, (0, 0, 0, 0, ()), [], 0, ())] := rfl
 rw [e, List.mem_singleton] at hc
 subst hc
 exact Nat.zero_le _⟩
theorem fewTn : fewT Tn := by
 refine ⟨by decide, fun v hv => ?_⟩
 simp only [Tn, List.mem_cons, List.not_mem_nil, or_false] at hv
 subst hv
 exact ⟨by decide, by decide, by decide⟩
theorem val_c1 : covF Hn Tn (1, 1, 1, 50, 55, 0, ()) = ((1, 10, 10, 0, 10000, ()), 0) := by kernel_rfl
theorem val_w : whyL Hn Tn Cn = [11, 11, 7, 4, 1] := by kernel_rfl
theorem alive17_ok : SoundCt Try.prog 10 cYes17 :=
 convF al17_run _ _ (fun _ _ _ _ _ _ => by
  refine Fr.need_ fewHn (Fr.need_ fewTn (Fr.need_ fewHn (Fr.need_ fewTn (Fr.need_ (by decide) ?_))))
  rw [val_c1, val_w]
  exact Fr.br_t rfl (Fr.br_t rfl (Fr.br_t (by decide) (Fr.br_t (by decide) ⟨trivial, rfl⟩))))
noncomputable def CL2a : Cx := cx [(42, cClone coverT)] []
theorem CL2a_ok : CxOK Try.prog CL2a := cx_ok mixed ⟨cloneC_ok, trivial⟩ trivial
def cOwnT : Ct := ⟨[.d termsT], [termsT], fun x => (x.1, ()), fun x => [x.1.2.2.1.length <= 1000000]⟩
theorem ownT_ok : SoundCt Try.prog 43 cOwnT :=
 convF (fn_sound CL2a_ok (Λ := lam0) (fn := Try.f43) (fr := fun x => Fr.need (x.1.2.2.1.length <= 1000000) (Fr.val (x.1, ()))) (ps := [.d termsT]) (rs := [termsT]) (termsT.dflt, ()) (by kernel_rfl) (fun c E _ => lam0_ok c 0) (fun x => by kernel_rfl)) _ _
  (fun _ _ _ _ _ hok => Fr.need_ hok ⟨trivial, rfl⟩)
def h00 : histT.den := (0, 0, ((0, 0, ()), (0, 0, 0, 0, ()), [], ()), [], ())
def lastB (h : histT.den) : Int := if (chL h).length = 0 then h.2.1 else ((chL h).getD ((chL h).length - 1) changeT.dflt).1
def putF (h : histT.den) (c : changeT.den) : histT.den × Int :=
 if changeB c = true /\ inB h.2.2.1.1.1 h.2.2.1.1.2.1 c.2.1 = true then
  (if c.1 < lastB h then (h00, 4) else if 2000 <= (chL h).length then (h00, 2) else (addCh h c, 0))
 else (h00, 1)
def cPut : Ct := ⟨[.d histT, .d changeT], [histT, i64], fun x => ((putF x.1 x.2.1).1, (putF x.1 x.2.1).2, ()), fun x => [fewH x.1]⟩
noncomputable def CL2b : Cx := cx [(42, cClone coverT), (41, cChange), (40, cIn), (43, cOwnT)] []
theorem CL2b_ok : CxOK Try.prog CL2b := cx_ok mixed ⟨cloneC_ok, chRight_ok, inS_ok, ownT_ok, trivial⟩ trivial
def frPut1 (h : histT.den) (c : changeT.den) (last : Int) : Fr (denL [histT, i64]) :=
 Fr.br (bif !(cChange.f (c, ())).1 then true else !(cIn.f (h.2.2.1.1, c.2.1, ())).1) (Fr.val (h00, 1, ()))
  (Fr.br (decide (c.1 < last)) (Fr.val (h00, 4, ()))
   (Fr.br (decide (((chL h).length : Int) ≥ 2000)) (Fr.val (h00, 2, ()))
    (Fr.need (c.2.2.2.2.1.length <= 1000000) (Fr.need (h.2.2.1.2.2.1.length <= 1000000)
     (Fr.need (0 <= (none : Option Int).getD 0 /\ (none : Option Int).getD 0 <= ((chL h).length : Int) /\ ((chL h).length : Int) <= ((chL h).length : Int) /\ ((chL h).length : Int) = ((chL h).length : Int))
      (Fr.need (0 < [c].length /\ roomC (List.take (((chL h).length : Int) - (none : Option Int).getD 0).toNat (List.drop ((none : Option Int).getD 0).toNat (chL h))).length [c].length)
       (Fr.val ((h.1, h.2.1, h.2.2.1, List.take (((chL h).length : Int) - (none : Option Int).getD 0).toNat (List.drop ((none : Option Int).getD 0).toNat (chL h)) ++ [c], ()), 0, ()))))))))
def frPut (x : denP [.d histT, .d changeT]) : Fr (denL [histT, i64]) :=
 Fr.br (decide (((chL x.1).length : Int) > 0))
  (Fr.need (0 <= IntKind.i64.wrap (((chL x.1).length : Int) - 1) /\ IntKind.i64.wrap (((chL x.1).length : Int) - 1) < ((chL x.1).length : Int))
   (frPut1 x.1 x.2.1 (List.getD (chL x.1) (IntKind.i64.wrap (((chL x.1).length : Int) - 1)).toNat changeT.dflt).1))
  (frPut1 x.1 x.2.1 x.1.2.1)
theorem put_run : SoundCt Try.prog 17 ⟨[.d histT, .d changeT], [histT, i64], fun xs => (frPut xs).get, fun xs => [(frPut xs).ok]⟩ :=
 fn_sound CL2b_ok (Λ := lam0) (fn := Try.f17) (fr := frPut) (ps := [.d histT, .d changeT]) (rs := [histT, i64]) (histT.dflt, changeT.dflt, ()) (by kernel_rfl) (fun c E _ => lam0_ok c 0) (fun x => by kernel_rfl)
theorem room_big {n : Nat} (hn : n <= 2000) : roomC n 1 := by
 refine ⟨by unfold maxLen; omega, Nat.le_trans (Nat.mul_le_mul (show n + 1 <= 2001 by omega) changeBytes) (by decide)⟩
theorem bif_no2 {a b : Bool} : (bif !a then true else !b) = false ↔ a = true /\ b = true := by
 cases a <;> cases b <;> simp
theorem take_all (l : List changeT.den) : List.take ((l.length : Int) - (none : Option Int).getD 0).toNat (List.drop ((none : Option Int).getD 0).toNat l) = l := by
 show List.take ((l.length : Int) - 0).toNat l = l
 rw [Int.sub_zero, Int.toNat_natCast, List.take_length]
theorem bif_tf {a b : Bool} (h : (bif a then b else false) = true) : a = true /\ b = true := by
 cases a with
 | false => cases h
 | true => exact ⟨rfl, h⟩
theorem len_zero {n : Nat} (h : ((n : Int) == 0) = true) : n <= 1000000 := by
 have : (n : Int) = 0 := eq_of_beq h
 omega
theorem changeB_covers {c : changeT.den} (h : changeB c = true) : c.2.2.2.2.1.length <= 1000000 := by
 unfold changeB kindB at h
 rw [Bool.and_eq_true, Bool.and_eq_true] at h
 have h3 := h.2.2
 split at h3
 ·exact len_zero (bif_tf (bif_tf h3).1).2
 ·split at h3
  ·have hc : coversL c.2.2.2.2.1 = true := (bif_tf (bif_tf h3).1).1
   unfold coversL at hc
   rw [Bool.and_eq_true] at hc
   have := of_decide_eq_true hc.1
   exact Nat.le_trans this.2 (by decide)
  ·split at h3
   ·exact len_zero (bif_tf (bif_tf h3).1).2
   ·split at h3
    ·exact len_zero (bif_tf (bif_tf h3).1).2
    ·cases h3
theorem frPut1_eq {h : histT.den} {c : changeT.den} {last : Int} (hl : last = lastB h) (hf : fewH h) :
  (frPut1 h c last).ok /\ (frPut1 h c last).get = ((putF h c).1, (putF h c).2, ()) := by
 subst hl
 unfold putF
 cases h1 : (bif !(cChange.f (c, ())).1 then true else !(cIn.f (h.2.2.1.1, c.2.1, ())).1) with
 | true =>
  refine Fr.br_t h1 ⟨trivial, ?_⟩
  have h1' : ¬ (changeB c = true /\ inB h.2.2.1.1.1 h.2.2.1.1.2.1 c.2.1 = true) := fun hh => by
   have h2 : (bif !changeB c then true else !inB h.2.2.1.1.1 h.2.2.1.1.2.1 c.2.1) = true := h1
   rw [bif_no2.2 hh] at h2
   cases h2
  rw [if_neg h1']
  rfl
 | false =>
  refine Fr.br_f h1 ?_
  have h1' : changeB c = true /\ inB h.2.2.1.1.1 h.2.2.1.1.2.1 c.2.1 = true := bif_no2.1 h1
  rw [if_pos h1']
  by_cases h2 : c.1 < lastB h
  ·rw [if_pos h2]
   exact Fr.br_t (decide_eq_true h2) ⟨trivial, rfl⟩
  ·rw [if_neg h2]
   refine Fr.br_f (decide_eq_false h2) ?_
   by_cases h3 : 2000 <= (chL h).length
   ·rw [if_pos h3]
    exact Fr.br_t (decide_eq_true (by omega)) ⟨trivial, rfl⟩
   ·rw [if_neg h3]
    refine Fr.br_f (decide_eq_false (by omega)) (Fr.need_ (changeB_covers h1'.1) (Fr.need_ hf.2.1 (Fr.need_ ⟨Int.le_refl _, Int.natCast_nonneg _, Int.le_refl _, rfl⟩ ?_)))
    rw [take_all]
    have hr := room_big (n := (chL h).length) (by omega)
    refine Fr.need_ ⟨Nat.zero_lt_one, hr⟩ ⟨trivial, ?_⟩
    rfl
theorem put_ok : SoundCt Try.prog 17 cPut :=
 convF put_run _ _ (fun w F x vs hr hok => by
  obtain ⟨h, c, _⟩ := x
  obtain ⟨v, vs', rfl, hv, _⟩ := hr
  have hlen : ((chL h).length : Int) <= 9223372036854775807 := len_big (RepT.wf hv.2.2).2.2.2.1.1
  have hf : fewH h := hok
  by_cases h0 : (chL h).length = 0
  ·refine Fr.br_f (decide_eq_false (by show ¬ ((chL h).length : Int) > 0; omega)) (frPut1_eq ?_ hf)
   unfold lastB
   rw [if_pos h0]
  ·have hw : IntKind.i64.wrap (((chL h).length : Int) - 1) = ((chL h).length : Int) - 1 := i64w (by omega)
   refine Fr.br_t (decide_eq_true (by show ((chL h).length : Int) > 0; omega)) (Fr.need_ ?_ (frPut1_eq ?_ hf))
   ·show 0 <= IntKind.i64.wrap (((chL h).length : Int) - 1) /\ IntKind.i64.wrap (((chL h).length : Int) - 1) < ((chL h).length : Int)
    rw [hw]
    omega
   ·show (List.getD (chL h) (IntKind.i64.wrap (((chL h).length : Int) - 1)).toNat changeT.dflt).1 = lastB h
    unfold lastB
    rw [if_neg h0, hw, show (((chL h).length : Int) - 1).toNat = (chL h).length - 1 by omega])
def mayC (h : histT.den) (c : claimT.den) : Bool := claimC c && (decide (c.2.2.2.2.1 ≥ c.2.2.2.1) && c.2.1 == h.1)
theorem findP_any (p : Int) : (l : List coverT.den) -> (findP p l).2 = l.any fun x => x.1 == p
 | [] => rfl
 | c :: l => by
  unfold findP
  rw [List.any_cons]
  by_cases h : c.1 = p
  ·rw [if_pos h]
   simp [h]
  ·rw [if_neg h, findP_any p l]
   simp [h]
theorem covF_on {h : histT.den} {t : tarT.den} {c : claimT.den} (hf : (knownS h t c.2.2.2.2.1).2 = 0) (hi : (atS (knownS h t c.2.2.2.2.1).1 c.2.2.2.1).2 = true) (hon : (atS (knownS h t c.2.2.2.2.1).1 c.2.2.2.1).1.2.1 = true) :
  ((covF h t c).2 = 0 ↔ (mayC h c = true /\ (findP c.2.2.1 (atS (knownS h t c.2.2.2.2.1).1 c.2.2.2.1).1.2.2.2.1).2 = true)) /\ (mayC h c = true -> (findP c.2.2.1 (atS (knownS h t c.2.2.2.2.1).1 c.2.2.2.1).1.2.2.2.1).2 = false -> (covF h t c).2 = 11) := by
 have hm : mayC h c = true ↔ (claimC c = true /\ c.2.2.2.1 <= c.2.2.2.2.1 /\ c.2.1 = h.1) := by
  unfold mayC
  simp only [Bool.and_eq_true, decide_eq_true_eq, beq_iff_eq]
 rw [hm]
 unfold covF
 by_cases h1 : claimC c = true
 ·rw [if_pos h1]
  by_cases h2 : c.2.2.2.1 <= c.2.2.2.2.1
  ·rw [if_pos h2]
   by_cases h3 : c.2.1 = h.1
   ·rw [if_pos h3, if_pos hf]
    unfold cover1
    rw [hi, hon, if_pos (show (true && true) = true from rfl)]
    cases hp : (findP c.2.2.1 (atS (knownS h t c.2.2.2.2.1).1 c.2.2.2.1).1.2.2.2.1).2 with
    | true => exact ⟨⟨fun _ => ⟨⟨h1, h2, h3⟩, rfl⟩, fun _ => rfl⟩, fun _ h => by cases h⟩
    | false => exact ⟨⟨fun h => (by cases h), fun h => (by cases h.2)⟩, fun _ _ => rfl⟩
   ·rw [if_neg h3]
    exact ⟨⟨fun h => (by cases h), fun h => absurd h.1.2.2 h3⟩, fun h => absurd h.2.2 h3⟩
  ·rw [if_neg h2]
   exact ⟨⟨fun h => (by cases h), fun h => absurd h.1.2.1 h2⟩, fun h => absurd h.2.1 h2⟩
 ·rw [if_neg h1]
  exact ⟨⟨fun h => (by cases h), fun h => absurd h.1.1 h1⟩, fun h => absurd h.1 h1⟩
theorem covF_off {h : histT.den} {t : tarT.den} {c : claimT.den} (hn : ¬ ((knownS h t c.2.2.2.2.1).2 = 0 /\ (atS (knownS h t c.2.2.2.2.1).1 c.2.2.2.1).2 = true /\ (atS (knownS h t c.2.2.2.2.1).1 c.2.2.2.1).1.2.1 = true)) : (covF h t c).2 ≠ 0 := by
 unfold covF
 split
 ·split
  ·split
   ·split
    ·rename_i hf
     unfold cover1
     rw [if_neg (fun hh => hn ⟨hf, (Bool.and_eq_true _ _ ▸ hh).1, (Bool.and_eq_true _ _ ▸ hh).2⟩)]
     show (11 : Int) ≠ 0
     decide
    ·rename_i hf
     exact hf
   ·show (7 : Int) ≠ 0
    decide
  ·show (4 : Int) ≠ 0
   decide
 ·show (1 : Int) ≠ 0
  decide
noncomputable def CLs : Cx := cx [(10, cYes17), (13, cFew), (14, cCov), (17, cPut), (15, cKSl), (16, cAt), (11, cClaim)] []
theorem CLs_ok : CxOK Try.prog CLs := cx_ok (ps := []) mixed ⟨alive17_ok, few_ok, cov_ok, put_ok, kSl_ok, slices_At_ok, nRight_ok, trivial⟩ trivial
def eqCv (a b : coverT.den) : Bool := a.1 == b.1 && (a.2.1 == b.2.1 && (a.2.2.1 == b.2.2.1 && (a.2.2.2.1 == b.2.2.2.1 && (a.2.2.2.2.1 == b.2.2.2.2.1 && true))))
theorem eqCv_self (a : coverT.den) : eqCv a a = true := by simp [eqCv]
theorem doesK_cov (k : Core) (c : changeT.den) : (doesK k c).2.2 = k.2.2 ∨ (doesK k c).2.2 = c.2.2.2.2.1 := by
 unfold doesK
 split
 ·exact .inl rfl
 ·split
  ·exact .inr rfl
  ·split
   ·exact .inl rfl
   ·split
    ·exact .inl rfl
    ·exact .inl rfl
theorem holdK_cov (d : Int) : (l : List changeT.den) -> (k : Core) -> (holdK d l k).2.2 = k.2.2 ∨ ∃ c ∈ l, c.2.1 <= d /\ c.2.2.2.2.1 = (holdK d l k).2.2
 | [], _ => .inl rfl
 | c :: l, k => by
  have e : holdK d (c :: l) k = holdK d l (if c.2.1 > d then k else doesK k c) := rfl
  rw [e]
  rcases holdK_cov d l (if c.2.1 > d then k else doesK k c) with h | ⟨x, hx, h⟩
  ·rw [h]
   by_cases hc : c.2.1 > d
   ·rw [if_pos hc]
    exact .inl rfl
   ·rw [if_neg hc]
    rcases doesK_cov k c with h2 | h2
    ·exact .inl h2
    ·exact .inr ⟨c, by simp, Int.not_lt.1 hc, h2.symm⟩
  ·exact .inr ⟨x, List.mem_cons_of_mem _ hx, h⟩
theorem known_cov {h : histT.den} {t : tarT.den} {b d : Int} (he : (knownS h t b).2 = 0) (hi : (atS (knownS h t b).1 d).2 = true) :
  (atS (knownS h t b).1 d).1.2.2.2.1 = h.2.2.1.2.2.1 ∨ ∃ c ∈ chL h, c.1 <= b /\ c.2.1 <= d /\ c.2.2.2.2.1 = (atS (knownS h t b).1 d).1.2.2.2.1 := by
 unfold knownS at he hi ⊢
 by_cases h0 : (atH h b).2 = 0
 ·rw [if_pos h0] at he hi ⊢
  have hx : (atH h b).1.2.2.1 = h.2.2.1 /\ chL (atH h b).1 = uptoB b h.2.2.2.1 := by
   unfold atH at h0 ⊢
   split
   ·rename_i h1
    rw [if_pos h1] at h0
    cases h0
   ·exact ⟨rfl, rfl⟩
  generalize (atH h b).1 = x at hx he hi ⊢
  obtain ⟨hx1, hx2⟩ := hx
  obtain ⟨hh, _, _, hl⟩ := ofF_good he
  rw [hl] at hi ⊢
  obtain ⟨k1, k2⟩ := atS_map (v := (verH x t).1) d (cutL x)
  rw [k1] at hi
  rw [k2 hi]
  have hc := (price_core (verH x t).1 (atS (cutL x) d).1).1
  have ho := histOk hh
  have hr := ((cutL_runs hh).at_day ho.b1 ho.a1 d).2 hi
  have e : (priceV (verH x t).1 (atS (cutL x) d).1).2.2.2.1 = (stOf x d).2.2 := by
   have h1 := congrArg (fun k : Core => k.2.2) hc
   have h2 := congrArg (fun k : Core => k.2.2) hr.1
   exact h1.trans h2
  rw [e]
  rcases holdK_cov d (chsO x) (true, x.2.2.1.2.1, x.2.2.1.2.2.1) with h1 | ⟨c, hc1, hc2, hc3⟩
  ·left
   have : (stOf x d).2.2 = x.2.2.1.2.2.1 := h1
   rw [this, hx1]
  ·right
   have hm := chsO_mem hc1
   rw [hx2] at hm
   obtain ⟨m1, m2⟩ := List.mem_filter.1 hm
   exact ⟨c, m1, of_decide_eq_true m2, hc2, hc3⟩
 ·rw [if_neg h0] at he
  exact absurd he h0
abbrev ptOn : Pt := ⟨113, 0, ⟨[(61, .d (.sl coverT)), (62, .d i64), (63, .d i64), (13, .d .bool), (8, .d i64)], [.x 3 35 histT, .r 3 3 0, .x 5 23 claimT, .r 5 5 0]⟩, ⟨[(13, .d .bool), (8, .d i64)], [.x 3 35 histT, .r 3 3 0, .x 5 23 claimT, .r 5 5 0]⟩, ⟨[], []⟩⟩
def frOn (x : ptOn.M.X) : Fr ptOn.Out :=
 let l : List coverT.den := x.1.1; let n : Int := x.1.2.1; let i : Int := x.1.2.2.1; let b : Bool := x.1.2.2.2.1; let e : Int := x.1.2.2.2.2.1; let h : histT.den := x.2.1; let c : claimT.den := x.2.2.1
 Fr.br (decide (i < n)) (Fr.need (0 <= i /\ i < (l.length : Int))
   (Fr.val (Rd.next ((l, n, IntKind.i64.wrap (i + 1), (bif b then true else (l.getD i.toNat coverT.dflt).1 == c.2.2.1), e, ()), (h, c, ())))))
  (Fr.val (Rd.out ((b, e, ()), (h, c, ()))))
theorem semOn : Does Try.prog (loopF Try.f5 0) ptOn.M ptOn frOn :=
 Does.of_run CLs_ok (bs := 0) (Λ := lam0) rfl rfl rfl (fun E => lam0_ok _ 0) (fun x => by kernel_rfl)
structure InOn (l : List coverT.den) (n i : Int) : Prop where
 i0 : 0 <= i
 il : i <= n
 nl : n = l.length
 big : (l.length : Int) <= 9223372036854775807
def anyP (p : Int) (l : List coverT.den) : Bool := l.any fun x => x.1 == p
def FOn (x : ptOn.M.X) : Fr ptOn.Out := Fr.need (InOn x.1.1 x.1.2.1 x.1.2.2.1) (Fr.val (Rd.out ((x.1.2.2.2.1 || anyP x.2.2.1.2.2.1 (List.drop (α := coverT.den) x.1.2.2.1.toNat x.1.1), x.1.2.2.2.2.1, ()), (x.2.1, x.2.2.1, ()))))
theorem lawOn (l : List coverT.den) (n i : Int) (b : Bool) (e : Int) (h : histT.den) (c : claimT.den) (hinv : InOn l n i) (Q : ptOn.Out -> Prop) (hq : Q (Rd.out ((b || anyP c.2.2.1 (l.drop i.toNat), e, ()), (h, c, ())))) : (frOn ((l, n, i, b, e, ()), (h, c, ()))).satP fun
   | .next x' => InOn x'.1.1 x'.1.2.1 x'.1.2.2.1 /\ (x'.1.2.1 - x'.1.2.2.1).toNat < (n - i).toNat /\ (FOn x').satP Q
   | .out y => Q (.out y)
   | .back z => Q (.back z)
   | .pan p => Q (.pan p) := by
 obtain ⟨h0, h1, h2, h4⟩ := hinv
 obtain ⟨k, rfl⟩ : ∃ k : Nat, i = k := ⟨i.toNat, by omega⟩
 subst h2
 dsimp only [frOn, Fr.satP]
 rw [Int.toNat_natCast] at hq ⊢
 refine ⟨fun hi => ?_, fun hi => ?_⟩
 ·have hk : k < l.length := by have : (k : Int) < (l.length : Int) := of_decide_eq_true hi; omega
  have w1 : IntKind.i64.wrap ((k : Int) + 1) = ((k + 1 : Nat) : Int) := by rw [i64w (by omega)]; omega
  have ea : l.getD k coverT.dflt = l[k] := by rw [List.getD_eq_getElem?_getD, List.getElem?_eq_getElem hk]; rfl
  rw [List.drop_eq_getElem_cons hk] at hq
  have hI : InOn l l.length ((k + 1 : Nat) : Int) := ⟨by omega, by omega, rfl, h4⟩
  rw [w1, ea]
  refine ⟨⟨by omega, by omega⟩, hI, by omega, hI, ?_⟩
  have e1 : (b || anyP c.2.2.1 (l[k] :: l.drop (k + 1))) = ((bif b then true else l[k].1 == c.2.2.1) || anyP c.2.2.1 (l.drop (k + 1))) := by
   unfold anyP
   rw [List.any_cons]
   cases b <;> simp
  rw [e1] at hq
  exact hq
 ·have hk : ¬ (k : Int) < (l.length : Int) := of_decide_eq_false hi
  have : l.drop k = [] := List.drop_eq_nil_of_le (by omega)
  rw [this] at hq
  have e1 : (b || anyP c.2.2.1 []) = b := by simp [anyP]
  rw [e1] at hq
  exact hq
theorem loopOn : Does Try.prog (.loop (loopF Try.f5 0)) ptOn.M ptOn FOn := by
 refine Does.loop (n := 113) (id := 0) semOn (inv := fun x => InOn x.1.1 x.1.2.1 x.1.2.2.1) (μ := fun x => (x.1.2.1 - x.1.2.2.1).toNat) ?_ (fun x Q h => h.1)
 rintro ⟨⟨l, n, i, b, e, _⟩, h, c, _⟩ hinv Q hq
 exact lawOn l n i b e h c hinv Q hq.2
def frNOn (x : denP [.d histT, .d tarT, .d claimT]) : Fr (denL [.bool]) :=
 let h : histT.den := x.1; let t : tarT.den := x.2.1; let c : claimT.den := x.2.2.1
 let q : denL [slsT, i64] := cKSl.f (h, t, c.2.2.2.2.1, ()); let s : denL [sliceT, .bool] := cAt.f (q.1, c.2.2.2.1, ()); let a : denL [coverT, i64] := cCov.f (h, t, c, ())
 let may : Bool := bif bif (cClaim.f (c, ())).1 then decide (c.2.2.2.2.1 ≥ c.2.2.2.1) else false then c.2.1 == h.1 else false
 let has : Bool := false || anyP c.2.2.1 (List.drop (0 : Int).toNat s.1.2.2.2.1)
 Fr.br (!(cFew.f (h, t, ())).1) (Fr.val (true, ())) (Fr.need (fewH h) (Fr.need (fewT t) (Fr.need (fewH h) (Fr.need (fewT t)
  (Fr.br (bif bif q.2.1 != 0 then true else !s.2.1 then true else !s.1.2.1) (Fr.val (bif true then a.2.1 != 0 else false, ()))
   (Fr.need (InOn s.1.2.2.2.1 (List.length (α := coverT.den) s.1.2.2.2.1) 0)
    (Fr.val (bif bif true then (a.2.1 == 0) == (bif may then has else false) else false then (bif (bif !may then true else has) then true else a.2.1 == 11) else false, ()))))))))
theorem nOn_run : SoundCt Try.prog 5 ⟨[.d histT, .d tarT, .d claimT], [.bool], fun xs => (frNOn xs).get, fun xs => [(frNOn xs).ok]⟩ :=
 fn_sound CLs_ok (Λ := fun _ => ptOn.han CLs.Γ ptOn.M FOn) (fn := Try.f5) (fr := frNOn) (ps := [.d histT, .d tarT, .d claimT]) (rs := [.bool]) (histT.dflt, tarT.dflt, claimT.dflt, ()) (by kernel_rfl)
  (fun c E hc => lam1f hc (by kernel_rfl) (b := loopF Try.f5 0) (by kernel_rfl) (Does.han CLs_ok rfl loopOn)) (fun x => by kernel_rfl)
theorem on_eq {may has : Bool} {e : Int} (h1 : e = 0 ↔ (may = true /\ has = true)) (h2 : may = true -> has = false -> e = 11) :
  (bif bif true then (e == 0) == (bif may then has else false) else false then (bif (bif !may then true else has) then true else e == 11) else false) = true := by
 cases may with
 | false =>
  have : ¬ e = 0 := fun h => by have := h1.1 h; simp at this
  have hb : (e == 0) = false := by simpa using this
  rw [hb]
  rfl
 | true =>
  cases has with
  | false =>
   have := h2 rfl rfl
   subst this
   rfl
  | true =>
   have := h1.2 ⟨rfl, rfl⟩
   subst this
   rfl
theorem on_c {a : Int} {b c : Bool} (h : (bif bif a != 0 then true else !b then true else !c) = false) : a = 0 /\ b = true /\ c = true := by
 cases b <;> cases c <;> by_cases ha : a = 0 <;> simp_all
theorem off_c {a : Int} {b c : Bool} (h : (bif bif a != 0 then true else !b then true else !c) = true) : ¬ (a = 0 /\ b = true /\ c = true) := by
 rintro ⟨rfl, rfl, rfl⟩
 cases h
theorem may_eq (h : histT.den) (c : claimT.den) : (bif bif claimC c then decide (c.2.2.2.2.1 ≥ c.2.2.2.1) else false then c.2.1 == h.1 else false) = mayC h c := by
 unfold mayC
 cases claimC c <;> cases decide (c.2.2.2.2.1 ≥ c.2.2.2.1) <;> rfl
theorem lawNOn_ok : SoundCt Try.prog 5 (cLaw17 [.d histT, .d tarT, .d claimT]) :=
 convF nOn_run _ _ (fun _ _ x _ _ _ => by
  obtain ⟨h, t, c, _⟩ := x
  cases hf : fewB h t with
  | false => exact Fr.br_t (by show (!(fewB h t)) = true; rw [hf]; rfl) ⟨trivial, rfl⟩
  | true =>
   obtain ⟨f1, f2⟩ := fewB_fewH hf
   refine Fr.br_f (by show (!(fewB h t)) = false; rw [hf]; rfl) (Fr.need_ f1 (Fr.need_ f2 (Fr.need_ f1 (Fr.need_ f2 ?_))))
   cases hc : (bif bif (knownS h t c.2.2.2.2.1).2 != 0 then true else !(atS (knownS h t c.2.2.2.2.1).1 c.2.2.2.1).2 then true else !(atS (knownS h t c.2.2.2.2.1).1 c.2.2.2.1).1.2.1) with
   | true =>
    have hn := covF_off (c := c) (off_c hc)
    refine Fr.br_t hc ⟨trivial, ?_⟩
    show (bif true then (covF h t c).2 != 0 else false, ()) = (true, ())
    rw [show ((covF h t c).2 != 0) = true by simpa using hn]
    rfl
   | false =>
    obtain ⟨g1, g2, g3⟩ := on_c hc
    obtain ⟨r1, r2⟩ := covF_on g1 g2 g3
    have hlen : (List.length (α := coverT.den) (atS (knownS h t c.2.2.2.2.1).1 c.2.2.2.1).1.2.2.2.1) <= 1000000 := by
     rcases known_cov g1 g2 with hv | ⟨d, hd, _, _, hv⟩
     ·rw [hv]
      exact f1.2.1
     ·rw [← hv]
      exact f1.2.2 d hd
    refine Fr.br_f hc (Fr.need_ ⟨Int.le_refl _, Int.natCast_nonneg _, rfl, Int.le_trans (Int.ofNat_le.2 hlen) (by decide)⟩ ⟨trivial, ?_⟩)
    have hm := may_eq h c
    have ha : (findP c.2.2.1 (atS (knownS h t c.2.2.2.2.1).1 c.2.2.2.1).1.2.2.2.1).2 = (false || anyP c.2.2.1 (List.drop (0 : Int).toNat (atS (knownS h t c.2.2.2.2.1).1 c.2.2.2.1).1.2.2.2.1)) := by
     rw [findP_any, Bool.false_or]
     rfl
    rw [ha] at r1 r2
    rw [← hm] at r1 r2
    exact Prod.ext (on_eq r1 r2) rfl)
abbrev msOw : List MI := [.x 3 35 histT, .r 3 3 0, .x 5 23 claimT, .r 5 5 0, .x 7 41 coverT, .r 7 7 0]
abbrev msOv : List MI := [.x 3 35 histT, .r 3 3 0, .x 5 23 claimT, .r 5 5 0, .x 7 41 coverT, .r 7 7 0, .x 13 46 changeT, .r 13 13 0]
abbrev ptOa : Pt := ⟨98, 0, ⟨[(38, .d (.sl coverT)), (39, .d i64), (40, .d i64), (9, .d .bool)], msOw⟩, ⟨[(9, .d .bool)], msOw⟩, ⟨[], []⟩⟩
abbrev ptOi : Pt := ⟨98, 4, ⟨[(59, .d (.sl coverT)), (60, .d i64), (61, .d i64), (9, .d .bool), (52, .d (.sl changeT)), (53, .d i64), (54, .d i64)], msOv⟩, ⟨[(9, .d .bool), (52, .d (.sl changeT)), (53, .d i64), (54, .d i64)], msOw⟩, ⟨[], []⟩⟩
abbrev ptOc : Pt := ⟨98, 2, ⟨[(9, .d .bool), (52, .d (.sl changeT)), (53, .d i64), (54, .d i64)], msOw⟩, ⟨[(9, .d .bool)], msOw⟩, ⟨[], []⟩⟩
def frOa (x : ptOa.M.X) : Fr ptOa.Out :=
 let l : List coverT.den := x.1.1; let n : Int := x.1.2.1; let i : Int := x.1.2.2.1; let b : Bool := x.1.2.2.2.1; let a : coverT.den := x.2.2.2.1
 Fr.br (decide (i < n)) (Fr.need (0 <= i /\ i < (l.length : Int)) (Fr.val (Rd.next ((l, n, IntKind.i64.wrap (i + 1), (bif b then true else eqCv (l.getD i.toNat coverT.dflt) a), ()), x.2))))
  (Fr.val (Rd.out ((b, ()), x.2)))
theorem semOa : Does Try.prog (loopF Try.f4 0) ptOa.M ptOa frOa :=
 Does.of_run CLs_ok (bs := 0) (Λ := lam0) rfl rfl rfl (fun E => lam0_ok _ 0) (fun x => by kernel_rfl)
def ownB (c : claimT.den) (a : coverT.den) (d : changeT.den) (x : coverT.den) : Bool := bif bif eqCv x a then decide (d.1 <= c.2.2.2.2.1) else false then decide (d.2.1 <= c.2.2.2.1) else false
def frOi (x : ptOi.M.X) : Fr ptOi.Out :=
 let l : List coverT.den := x.1.1; let n : Int := x.1.2.1; let i : Int := x.1.2.2.1; let b : Bool := x.1.2.2.2.1; let m : List changeT.den := x.1.2.2.2.2.1; let q : Int := x.1.2.2.2.2.2.1; let r : Int := x.1.2.2.2.2.2.2.1
 let h : histT.den := x.2.1; let c : claimT.den := x.2.2.1; let a : coverT.den := x.2.2.2.1; let d : changeT.den := x.2.2.2.2.1
 Fr.br (decide (i < n)) (Fr.need (0 <= i /\ i < (l.length : Int)) (Fr.val (Rd.next ((l, n, IntKind.i64.wrap (i + 1), (bif b then true else ownB c a d (l.getD i.toNat coverT.dflt)), m, q, r, ()), x.2))))
  (Fr.val (Rd.out ((b, m, q, r, ()), (h, c, a, ()))))
noncomputable def innerOw : Code := (bodyOf (loopF Try.f4 1) 0).getD .skip
theorem semOi : Does Try.prog innerOw ptOi.M ptOi frOi := Does.of_run CLs_ok (bs := 0) (Λ := lam0) rfl rfl rfl (fun _ => lam0_ok _ 0) (fun x => by kernel_rfl)
structure InOwn (len : Nat) (n i : Int) : Prop where
 i0 : 0 <= i
 il : i <= n
 nl : n = len
 big : (len : Int) <= 9223372036854775807
def FOa (x : ptOa.M.X) : Fr ptOa.Out := Fr.need (InOwn (List.length (α := coverT.den) x.1.1) x.1.2.1 x.1.2.2.1) (Fr.val (Rd.out ((x.1.2.2.2.1 || List.any (α := coverT.den) (List.drop (α := coverT.den) x.1.2.2.1.toNat x.1.1) (fun y => eqCv y x.2.2.2.1), ()), x.2)))
def FOi (x : ptOi.M.X) : Fr ptOi.Out := Fr.need (InOwn (List.length (α := coverT.den) x.1.1) x.1.2.1 x.1.2.2.1)
 (Fr.val (Rd.out ((x.1.2.2.2.1 || List.any (α := coverT.den) (List.drop (α := coverT.den) x.1.2.2.1.toNat x.1.1) (ownB x.2.2.1 x.2.2.2.1 x.2.2.2.2.1), x.1.2.2.2.2.1, x.1.2.2.2.2.2.1, x.1.2.2.2.2.2.2.1, ()), (x.2.1, x.2.2.1, x.2.2.2.1, ()))))
theorem any_step {α : Type} (l : List α) (k : Nat) (hk : k < l.length) (b : Bool) (f : α -> Bool) : (b || (l.drop k).any f) = ((bif b then true else f l[k]) || (l.drop (k + 1)).any f) := by
 rw [List.drop_eq_getElem_cons hk, List.any_cons]
 cases b <;> simp
theorem any_end {α : Type} (l : List α) (k : Nat) (hk : ¬ k < l.length) (b : Bool) (f : α -> Bool) : (b || (l.drop k).any f) = b := by
 rw [List.drop_eq_nil_of_le (by omega)]
 simp
theorem lawOa (l : List coverT.den) (n i : Int) (b : Bool) (z : denM msOw) (hinv : InOwn l.length n i) (Q : ptOa.Out -> Prop) (hq : Q (Rd.out ((b || (l.drop i.toNat).any (fun y => eqCv y z.2.2.1), ()), z))) : (frOa ((l, n, i, b, ()), z)).satP fun
   | .next x' => InOwn (List.length (α := coverT.den) x'.1.1) x'.1.2.1 x'.1.2.2.1 /\ (x'.1.2.1 - x'.1.2.2.1).toNat < (n - i).toNat /\ (FOa x').satP Q
   | .out y => Q (.out y)
   | .back z => Q (.back z)
   | .pan p => Q (.pan p) := by
 obtain ⟨h0, h1, h2, h4⟩ := hinv
 obtain ⟨k, rfl⟩ : ∃ k : Nat, i = k := ⟨i.toNat, by omega⟩
 subst h2
 dsimp only [frOa, Fr.satP]
 rw [Int.toNat_natCast] at hq ⊢
 refine ⟨fun hi => ?_, fun hi => ?_⟩
 ·have hk : k < l.length := by have : (k : Int) < (l.length : Int) := of_decide_eq_true hi; omega
  have w1 : IntKind.i64.wrap ((k : Int) + 1) = ((k + 1 : Nat) : Int) := by rw [i64w (by omega)]; omega
  have ea : l.getD k coverT.dflt = l[k] := by rw [List.getD_eq_getElem?_getD, List.getElem?_eq_getElem hk]; rfl
  have hI : InOwn l.length l.length ((k + 1 : Nat) : Int) := ⟨by omega, by omega, rfl, h4⟩
  rw [w1, ea]
  rw [any_step l k hk] at hq
  exact ⟨⟨by omega, by omega⟩, hI, by omega, hI, hq⟩
 ·have hk : ¬ (k : Int) < (l.length : Int) := of_decide_eq_false hi
  rw [any_end l k (by omega)] at hq
  exact hq
theorem loopOa : Does Try.prog (.loop (loopF Try.f4 0)) ptOa.M ptOa FOa := by
 refine Does.loop (n := 98) (id := 0) semOa (inv := fun x => InOwn (List.length (α := coverT.den) x.1.1) x.1.2.1 x.1.2.2.1) (μ := fun x => (x.1.2.1 - x.1.2.2.1).toNat) ?_ (fun x Q h => h.1)
 rintro ⟨⟨l, n, i, b, _⟩, z⟩ hinv Q hq
 exact lawOa l n i b z hinv Q hq.2
theorem lawOi (l : List coverT.den) (n i : Int) (b : Bool) (m : List changeT.den) (q r : Int) (h : histT.den) (c : claimT.den) (a : coverT.den) (d : changeT.den) (hinv : InOwn l.length n i) (Q : ptOi.Out -> Prop) (hq : Q (Rd.out ((b || (l.drop i.toNat).any (ownB c a d), m, q, r, ()), (h, c, a, ())))) : (frOi ((l, n, i, b, m, q, r, ()), (h, c, a, d, ()))).satP fun
   | .next x' => InOwn (List.length (α := coverT.den) x'.1.1) x'.1.2.1 x'.1.2.2.1 /\ (x'.1.2.1 - x'.1.2.2.1).toNat < (n - i).toNat /\ (FOi x').satP Q
   | .out y => Q (.out y)
   | .back z => Q (.back z)
   | .pan p => Q (.pan p) := by
 obtain ⟨h0, h1, h2, h4⟩ := hinv
 obtain ⟨k, rfl⟩ : ∃ k : Nat, i = k := ⟨i.toNat, by omega⟩
 subst h2
 dsimp only [frOi, Fr.satP]
 rw [Int.toNat_natCast] at hq ⊢
 refine ⟨fun hi => ?_, fun hi => ?_⟩
 ·have hk : k < l.length := by have : (k : Int) < (l.length : Int) := of_decide_eq_true hi; omega
  have w1 : IntKind.i64.wrap ((k : Int) + 1) = ((k + 1 : Nat) : Int) := by rw [i64w (by omega)]; omega
  have ea : l.getD k coverT.dflt = l[k] := by rw [List.getD_eq_getElem?_getD, List.getElem?_eq_getElem hk]; rfl
  have hI : InOwn l.length l.length ((k + 1 : Nat) : Int) := ⟨by omega, by omega, rfl, h4⟩
  rw [w1, ea]
  rw [any_step l k hk] at hq
  exact ⟨⟨by omega, by omega⟩, hI, by omega, hI, hq⟩
 ·have hk : ¬ (k : Int) < (l.length : Int) := of_decide_eq_false hi
  rw [any_end l k (by omega)] at hq
  exact hq
theorem loopOi : Does Try.prog (.loop innerOw) ptOi.M ptOi FOi := by
 refine Does.loop (n := 98) (id := 4) semOi (inv := fun x => InOwn (List.length (α := coverT.den) x.1.1) x.1.2.1 x.1.2.2.1) (μ := fun x => (x.1.2.1 - x.1.2.2.1).toNat) ?_ (fun x Q h => h.1)
 rintro ⟨⟨l, n, i, b, m, q, r, _⟩, h, c, a, d, _⟩ hinv Q hq
 exact lawOi l n i b m q r h c a d hinv Q hq.2
def frOc (x : ptOc.M.X) : Fr ptOc.Out :=
 let b : Bool := x.1.1; let m : List changeT.den := x.1.2.1; let n : Int := x.1.2.2.1; let i : Int := x.1.2.2.2.1
 let c : claimT.den := x.2.2.1; let a : coverT.den := x.2.2.2.1; let d : changeT.den := m.getD i.toNat changeT.dflt
 Fr.br (decide (i < n)) (Fr.need (0 <= i /\ i < (m.length : Int)) (Fr.need (InOwn (List.length (α := coverT.den) d.2.2.2.2.1) (List.length (α := coverT.den) d.2.2.2.2.1) 0)
   (Fr.val (Rd.next (((b || List.any (α := coverT.den) (List.drop (α := coverT.den) (0 : Int).toNat d.2.2.2.2.1) (ownB c a d)), m, n, IntKind.i64.wrap (i + 1), ()), x.2)))))
  (Fr.val (Rd.out ((b, ()), x.2)))
theorem semOc : Does Try.prog (loopF Try.f4 1) ptOc.M ptOc frOc :=
 Does.of_run CLs_ok (bs := 0) (Λ := fun _ => ptOi.han CLs.Γ ptOi.M FOi) rfl rfl rfl (fun E => lam_of _ 0 fun i b hb => by
  match i, hb with
  | 0, hb =>
   have e : some innerOw = some b := by rw [← hb]; kernel_rfl
   cases e
   exact Does.han CLs_ok rfl loopOi
  | i + 1, hb => exact absurd (bodyOf_lt hb) (by
   have : loopsIn (loopF Try.f4 1) = 1 := by kernel_rfl
   omega)) (fun x => by kernel_rfl)
def ownC (c : claimT.den) (a : coverT.den) (d : changeT.den) : Bool := List.any (α := coverT.den) d.2.2.2.2.1 (ownB c a d)
structure InOc (m : List changeT.den) (n i : Int) : Prop where
 io : InOwn m.length n i
 few : ∀ d ∈ m, d.2.2.2.2.1.length <= 1000000
def FOc (x : ptOc.M.X) : Fr ptOc.Out := Fr.need (InOc x.1.2.1 x.1.2.2.1 x.1.2.2.2.1)
 (Fr.val (Rd.out ((x.1.1 || List.any (α := changeT.den) (List.drop (α := changeT.den) x.1.2.2.2.1.toNat x.1.2.1) (ownC x.2.2.1 x.2.2.2.1), ()), x.2)))
theorem lawOc (b : Bool) (m : List changeT.den) (n i : Int) (z : denM msOw) (hinv : InOc m n i) (Q : ptOc.Out -> Prop) (hq : Q (Rd.out ((b || (m.drop i.toNat).any (ownC z.2.1 z.2.2.1), ()), z))) : (frOc ((b, m, n, i, ()), z)).satP fun
   | .next x' => InOc x'.1.2.1 x'.1.2.2.1 x'.1.2.2.2.1 /\ (x'.1.2.2.1 - x'.1.2.2.2.1).toNat < (n - i).toNat /\ (FOc x').satP Q
   | .out y => Q (.out y)
   | .back z => Q (.back z)
   | .pan p => Q (.pan p) := by
 obtain ⟨⟨h0, h1, h2, h4⟩, hfew⟩ := hinv
 obtain ⟨k, rfl⟩ : ∃ k : Nat, i = k := ⟨i.toNat, by omega⟩
 subst h2
 dsimp only [frOc, Fr.satP]
 rw [Int.toNat_natCast] at hq ⊢
 refine ⟨fun hi => ?_, fun hi => ?_⟩
 ·have hk : k < m.length := by have : (k : Int) < (m.length : Int) := of_decide_eq_true hi; omega
  have w1 : IntKind.i64.wrap ((k : Int) + 1) = ((k + 1 : Nat) : Int) := by rw [i64w (by omega)]; omega
  have ea : m.getD k changeT.dflt = m[k] := by rw [List.getD_eq_getElem?_getD, List.getElem?_eq_getElem hk]; rfl
  have hI : InOc m m.length ((k + 1 : Nat) : Int) := ⟨⟨by omega, by omega, rfl, h4⟩, hfew⟩
  have hd := hfew m[k] (List.getElem_mem hk)
  rw [w1, ea]
  rw [any_step m k hk] at hq
  have hb : (bif b then true else ownC z.2.1 z.2.2.1 m[k]) = (b || ownC z.2.1 z.2.2.1 m[k]) := by cases b <;> rfl
  rw [hb] at hq
  exact ⟨⟨by omega, by omega⟩, ⟨Int.le_refl _, Int.natCast_nonneg _, rfl, Int.le_trans (Int.ofNat_le.2 hd) (by decide)⟩, hI, by omega, hI, hq⟩
 ·have hk : ¬ (k : Int) < (m.length : Int) := of_decide_eq_false hi
  rw [any_end m k (by omega)] at hq
  exact hq
theorem loopOc : Does Try.prog (.loop (loopF Try.f4 1)) ptOc.M ptOc FOc := by
 refine Does.loop (n := 98) (id := 2) semOc (inv := fun x => InOc x.1.2.1 x.1.2.2.1 x.1.2.2.2.1) (μ := fun x => (x.1.2.2.1 - x.1.2.2.2.1).toNat) ?_ (fun x Q h => h.1)
 rintro ⟨⟨b, m, n, i, _⟩, z⟩ hinv Q hq
 exact lawOc b m n i z hinv Q hq.2
def ownA (h : histT.den) (c : claimT.den) (a : coverT.den) : Bool :=
 (false || List.any (α := coverT.den) (List.drop (α := coverT.den) (0 : Int).toNat h.2.2.1.2.2.1) (fun y => eqCv y a)) || List.any (α := changeT.den) (List.drop (α := changeT.den) (0 : Int).toNat h.2.2.2.1) (ownC c a)
def frOw (x : denP [.d histT, .d tarT, .d claimT]) : Fr (denL [.bool]) :=
 let h : histT.den := x.1; let t : tarT.den := x.2.1; let c : claimT.den := x.2.2.1
 let a : denL [coverT, i64] := cCov.f (h, t, c, ())
 Fr.br (!(cFew.f (h, t, ())).1) (Fr.val (true, ())) (Fr.need (fewH h) (Fr.need (fewT t)
  (Fr.br (a.2.1 != 0) (Fr.val (bif true then eqCv a.1 noCover else false, ()))
   (Fr.need (InOwn (List.length (α := coverT.den) h.2.2.1.2.2.1) (List.length (α := coverT.den) h.2.2.1.2.2.1) 0)
    (Fr.need (InOc h.2.2.2.1 (List.length (α := changeT.den) h.2.2.2.1) 0)
     (Fr.val (bif bif true then ownA h c a.1 else false then a.1.1 == c.2.2.1 else false, ())))))))
set_option maxHeartbeats 2000000 in
theorem ow_run : SoundCt Try.prog 4 ⟨[.d histT, .d tarT, .d claimT], [.bool], fun xs => (frOw xs).get, fun xs => [(frOw xs).ok]⟩ :=
 fn_sound CLs_ok (Λ := (fun k => if k = 0 then ptOa.han CLs.Γ ptOa.M FOa else ptOc.han CLs.Γ ptOc.M FOc)) (fn := Try.f4) (fr := frOw) (ps := [.d histT, .d tarT, .d claimT]) (rs := [.bool]) (histT.dflt, tarT.dflt, claimT.dflt, ()) (by kernel_rfl)
  (fun c E hc => lam2f hc (by kernel_rfl) (b0 := loopF Try.f4 0) (b1 := loopF Try.f4 1) (by kernel_rfl) (by kernel_rfl) (Does.han CLs_ok rfl loopOa) (Does.han CLs_ok rfl loopOc)) (fun x => by kernel_rfl)
theorem findP_in {p : Int} : {l : List coverT.den} -> (findP p l).2 = true -> (findP p l).1 ∈ l /\ (findP p l).1.1 = p
 | [], h => by cases h
 | c :: l, h => by
  unfold findP at h ⊢
  by_cases hc : c.1 = p
  ·rw [if_pos hc]
   exact ⟨by simp, hc⟩
  ·rw [if_neg hc] at h ⊢
   obtain ⟨h1, h2⟩ := findP_in h
   exact ⟨List.mem_cons_of_mem _ h1, h2⟩
theorem covF_no' (h : histT.den) (t : tarT.den) (c : claimT.den) (he : (covF h t c).2 ≠ 0) : (covF h t c).1 = noCover := by
 unfold covF at he ⊢
 split
 ·rename_i h1
  rw [if_pos h1] at he
  split
  ·rename_i h2
   rw [if_pos h2] at he
   split
   ·rename_i h3
    rw [if_pos h3] at he
    split
    ·rename_i h4
     rw [if_pos h4] at he
     unfold cover1 at he ⊢
     split
     ·rename_i h5
      rw [if_pos h5] at he
      split
      ·rename_i h6
       rw [if_pos h6] at he
       exact absurd rfl he
      ·rfl
     ·rfl
    ·rfl
   ·rfl
  ·rfl
 ·rfl
theorem covF_yes {h : histT.den} {t : tarT.den} {c : claimT.den} (he : (covF h t c).2 = 0) :
  (knownS h t c.2.2.2.2.1).2 = 0 /\ (atS (knownS h t c.2.2.2.2.1).1 c.2.2.2.1).2 = true /\ (covF h t c).1 ∈ (atS (knownS h t c.2.2.2.2.1).1 c.2.2.2.1).1.2.2.2.1 /\ (covF h t c).1.1 = c.2.2.1 := by
 unfold covF at he ⊢
 by_cases h1 : claimC c = true
 ·rw [if_pos h1] at he ⊢
  by_cases h2 : c.2.2.2.1 <= c.2.2.2.2.1
  ·rw [if_pos h2] at he ⊢
   by_cases h3 : c.2.1 = h.1
   ·rw [if_pos h3] at he ⊢
    by_cases h4 : (knownS h t c.2.2.2.2.1).2 = 0
    ·rw [if_pos h4] at he ⊢
     unfold cover1 at he ⊢
     by_cases h5 : ((atS (knownS h t c.2.2.2.2.1).1 c.2.2.2.1).2 && (atS (knownS h t c.2.2.2.2.1).1 c.2.2.2.1).1.2.1) = true
     ·rw [if_pos h5] at he ⊢
      by_cases h6 : (findP c.2.2.1 (atS (knownS h t c.2.2.2.2.1).1 c.2.2.2.1).1.2.2.2.1).2 = true
      ·rw [if_pos h6] at he ⊢
       obtain ⟨m1, m2⟩ := findP_in h6
       exact ⟨h4, ((Bool.and_eq_true _ _).mp h5).1, m1, m2⟩
      ·rw [if_neg h6] at he
       cases he
     ·rw [if_neg h5] at he
      cases he
    ·rw [if_neg h4] at he
     exact absurd he h4
   ·rw [if_neg h3] at he
    cases he
  ·rw [if_neg h2] at he
   cases he
 ·rw [if_neg h1] at he
  cases he
theorem ownA_yes {h : histT.den} {t : tarT.den} {c : claimT.den} (he : (covF h t c).2 = 0) : ownA h c (covF h t c).1 = true := by
 obtain ⟨h1, h2, h3, _⟩ := covF_yes he
 unfold ownA
 rw [Bool.or_eq_true]
 rcases known_cov h1 h2 with hv | ⟨d, hd, hb, hday, hv⟩
 ·left
  rw [Bool.false_or]
  rw [hv] at h3
  exact List.any_eq_true.2 ⟨_, h3, eqCv_self _⟩
 ·right
  rw [← hv] at h3
  refine List.any_eq_true.2 ⟨d, hd, List.any_eq_true.2 ⟨_, h3, ?_⟩⟩
  unfold ownB
  rw [eqCv_self, decide_eq_true hb, decide_eq_true hday]
  rfl
theorem lawNOwn_ok : SoundCt Try.prog 4 (cLaw17 [.d histT, .d tarT, .d claimT]) :=
 convF ow_run _ _ (fun _ _ x _ _ _ => by
  obtain ⟨h, t, c, _⟩ := x
  cases hf : fewB h t with
  | false => exact Fr.br_t (by show (!(fewB h t)) = true; rw [hf]; rfl) ⟨trivial, rfl⟩
  | true =>
   obtain ⟨f1, f2⟩ := fewB_fewH hf
   refine Fr.br_f (by show (!(fewB h t)) = false; rw [hf]; rfl) (Fr.need_ f1 (Fr.need_ f2 ?_))
   by_cases he : (covF h t c).2 = 0
   ·obtain ⟨_, _, _, hp⟩ := covF_yes he
    refine Fr.br_f (by show ((covF h t c).2 != 0) = false; simp [he]) (Fr.need_ ⟨Int.le_refl _, Int.natCast_nonneg _, rfl, Int.le_trans (Int.ofNat_le.2 f1.2.1) (by decide)⟩ (Fr.need_ ⟨⟨Int.le_refl _, Int.natCast_nonneg _, rfl, Int.le_trans (Int.ofNat_le.2 f1.1) (by decide)⟩, f1.2.2⟩ ⟨trivial, ?_⟩))
    show (bif bif true then ownA h c (covF h t c).1 else false then (covF h t c).1.1 == c.2.2.1 else false, ()) = (true, ())
    rw [ownA_yes he, hp, beq_self_eq_true]
    rfl
   ·refine Fr.br_t (by show ((covF h t c).2 != 0) = true; simp [he]) ⟨trivial, ?_⟩
    show (bif true then eqCv (covF h t c).1 noCover else false, ()) = (true, ())
    rw [covF_no' h t c he, eqCv_self]
    rfl)
end Go.Proofs.Ytplkgghjldndkaa
