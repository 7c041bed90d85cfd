/-
  Parts of the proof, one behind the other: K1, K2, N5, I31, I32, I33, I35, L0, L1, N6, N7, N8, L2, L4, N10, I34, I37, I38, I39, I40, I41, N11, N12.
-/
import Derived.Test.YtplkgghjldndkaaGreatMf
import Derived.RegionTactic
namespace Go.Proofs.YtplkgghjldndkaaGreat
open Go Go.Ab Go.RowKit Go.Proofs
abbrev claimT : Ty := .pair i64 (.pair i64 (.pair i64 (.pair i64 (.pair i64 (.pair i64 .unit)))))
def cIdN : Ct := ⟨[.d i64], [.bool], fun x => (decide (1 <= x.1 /\ x.1 <= 1000000000), ()), fun _ => []⟩
def cDayN : Ct := ⟨[.d i64], [.bool], fun x => (decide (1 <= x.1 /\ x.1 <= 292194), ()), fun _ => []⟩
theorem two_dec (n a b : Int) : (bif decide (n ≥ a) then decide (n <= b) else false) = decide (a <= n /\ n <= b) := by
 rw [Bool.eq_iff_iff]
 simp
theorem idN_ok : SoundCt Tryz.prog 64 cIdN :=
 flat (ps := [.d i64]) (rs := [.bool]) (cx_ok (cs := []) (ps := []) mixed trivial trivial) (fn := Tryz.f64) (fr := fun x => Fr.val (bif decide (x.1 ≥ 1) then decide (x.1 <= 1000000000) else false, ())) (0, ()) (by kernel_rfl) (fun x => by kernel_rfl) _ _
  (fun _ _ x _ _ _ => ⟨trivial, Prod.ext (two_dec x.1 1 1000000000) rfl⟩)
theorem dayN_ok : SoundCt Tryz.prog 65 cDayN :=
 flat (ps := [.d i64]) (rs := [.bool]) (cx_ok (cs := []) (ps := []) mixed trivial trivial) (fn := Tryz.f65) (fr := fun x => Fr.val (bif decide (x.1 ≥ 1) then decide (x.1 <= 292194) else false, ())) (0, ()) (by kernel_rfl) (fun x => by kernel_rfl) _ _
  (fun _ _ x _ _ _ => ⟨trivial, Prod.ext (two_dec x.1 1 292194) rfl⟩)
def claimB (i p k l b e : Int) : Bool := decide (1 <= i /\ i <= 1000000000) && (decide (1 <= p /\ p <= 1000000000) && (decide (0 <= e /\ e <= 1000000000) && (decide (0 <= k /\ k <= 7) && (decide (1 <= l /\ l <= 292194) && decide (1 <= b /\ b <= 292194)))))
def cClaim : Ct := ⟨[.d claimT], [.bool], fun x => (claimB x.1.1 x.1.2.1 x.1.2.2.1 x.1.2.2.2.1 x.1.2.2.2.2.1 x.1.2.2.2.2.2.1, ()), fun _ => []⟩
def cInN : Ct := ⟨[.d i64, .d i64, .d i64], [.bool], fun x => (decide (x.2.1 <= x.1 /\ x.1 <= x.2.2.1), ()), fun _ => []⟩
theorem inN_ok : SoundCt Tryz.prog 68 cInN :=
 flat (ps := [.d i64, .d i64, .d i64]) (rs := [.bool]) (cx_ok (cs := []) (ps := []) mixed trivial trivial) (fn := Tryz.f68) (fr := fun x => Fr.val (bif decide (x.1 ≥ x.2.1) then decide (x.1 <= x.2.2.1) else false, ())) (0, 0, 0, ()) (by kernel_rfl) (fun x => by kernel_rfl) _ _
  (fun _ _ x _ _ _ => ⟨trivial, Prod.ext (two_dec x.1 x.2.1 x.2.2.1) rfl⟩)
noncomputable def CK1 : Cx := cx [(64, cIdN), (65, cDayN), (68, cInN)] []
theorem CK1_ok : CxOK Tryz.prog CK1 := cx_ok mixed ⟨idN_ok, dayN_ok, inN_ok, trivial⟩ trivial
def frNR (x : denP [.d claimT]) : Fr (denL [.bool]) :=
 let c : claimT.den := x.1
 Fr.val (bif bif bif bif bif bif (cIdN.f (c.1, ())).1 then (cIdN.f (c.2.1, ())).1 else false then (bif c.2.2.2.2.2.1 == 0 then true else (cIdN.f (c.2.2.2.2.2.1, ())).1) else false then decide (c.2.2.1 ≥ 0) else false then decide (c.2.2.1 <= 7) else false then (cDayN.f (c.2.2.2.1, ())).1 else false then (cDayN.f (c.2.2.2.2.1, ())).1 else false, ())
theorem nr_eq (i p k l b e : Int) : (bif bif bif bif bif bif decide (1 <= i /\ i <= 1000000000) then decide (1 <= p /\ p <= 1000000000) else false then (bif e == 0 then true else decide (1 <= e /\ e <= 1000000000)) else false then decide (k ≥ 0) else false then decide (k <= 7) else false then decide (1 <= l /\ l <= 292194) else false then decide (1 <= b /\ b <= 292194) else false) = claimB i p k l b e := by
 have e1 : (bif e == 0 then true else decide (1 <= e /\ e <= 1000000000)) = decide (0 <= e /\ e <= 1000000000) := by
  rw [Bool.eq_iff_iff]
  simp
  omega
 have e2 : decide (0 <= k /\ k <= 7) = (decide (k ≥ 0) && decide (k <= 7)) := by
  rw [Bool.eq_iff_iff]
  simp
 unfold claimB
 rw [e1, e2]
 cases decide (1 <= i /\ i <= 1000000000) <;> cases decide (1 <= p /\ p <= 1000000000) <;> cases decide (0 <= e /\ e <= 1000000000) <;> cases decide (k ≥ 0) <;> cases decide (k <= 7) <;> cases decide (1 <= l /\ l <= 292194) <;> rfl
theorem nRight_ok : SoundCt Tryz.prog 33 cClaim :=
 flat (ps := [.d claimT]) (rs := [.bool]) CK1_ok (fn := Tryz.f33) (fr := frNR) (claimT.dflt, ()) (by kernel_rfl) (fun x => by kernel_rfl) _ _
  (fun _ _ x _ _ _ => by
   obtain ⟨⟨i, p, k, l, b, e, _⟩, _⟩ := x
   exact ⟨trivial, Prod.ext (nr_eq i p k l b e) rfl⟩)
def frRR (x : denP [.d claimT]) : Fr (denL [.bool]) :=
 let c : claimT.den := x.1
 Fr.val (bif bif bif bif bif (cInN.f (c.1, 1, 1000000000, ())).1 then (cInN.f (c.2.1, 1, 1000000000, ())).1 else false then (cInN.f (c.2.2.2.2.2.1, 0, 1000000000, ())).1 else false then (cInN.f (c.2.2.1, 0, 7, ())).1 else false then (cInN.f (c.2.2.2.1, 1, 292194, ())).1 else false then (cInN.f (c.2.2.2.2.1, 1, 292194, ())).1 else false, ())
theorem rr_eq (i p k l b e : Int) : (bif bif bif bif bif decide (1 <= i /\ i <= 1000000000) then decide (1 <= p /\ p <= 1000000000) else false then decide (0 <= e /\ e <= 1000000000) else false then decide (0 <= k /\ k <= 7) else false then decide (1 <= l /\ l <= 292194) else false then decide (1 <= b /\ b <= 292194) else false) = claimB i p k l b e := by
 unfold claimB
 cases decide (1 <= i /\ i <= 1000000000) <;> cases decide (1 <= p /\ p <= 1000000000) <;> cases decide (0 <= e /\ e <= 1000000000) <;> cases decide (0 <= k /\ k <= 7) <;> cases decide (1 <= l /\ l <= 292194) <;> rfl
theorem rRight_ok : SoundCt Tryz.prog 39 cClaim :=
 flat (ps := [.d claimT]) (rs := [.bool]) CK1_ok (fn := Tryz.f39) (fr := frRR) (claimT.dflt, ()) (by kernel_rfl) (fun x => by kernel_rfl) _ _
  (fun _ _ x _ _ _ => by
   obtain ⟨⟨i, p, k, l, b, e, _⟩, _⟩ := x
   exact ⟨trivial, Prod.ext (rr_eq i p k l b e) rfl⟩)
noncomputable def CK2 : Cx := cx [] []
theorem CK2_ok : CxOK Tryz.prog CK2 := cx_ok (cs := []) (ps := []) mixed trivial trivial
abbrev pFi : Pt := ⟨21, 0, ⟨[(10, .d i64), (9, .d i64), (8, .d (.sl coverT)), (1, .d i64)], [.x 4 40 coverT, .r 4 4 0]⟩, ⟨[], [.x 4 40 coverT, .r 4 4 0]⟩, ⟨[(5, .d .bool)], [.x 4 40 coverT, .r 4 4 0]⟩⟩
def fFi (z : pFi.M.X) : Fr pFi.Out :=
 let i : Int := z.1.1; let n : Int := z.1.2.1; let l : List coverT.den := z.1.2.2.1; let p : Int := z.1.2.2.2.1; let o : coverT.den := z.2.1
 let e : coverT.den := l.getD i.toNat coverT.dflt
 Fr.br (decide (i < n))
  (Fr.need (0 <= i /\ i < (l.length : Int)) (Fr.br (e.1 == p) (Fr.val (Rd.back ((true, ()), (e, ())))) (Fr.val (Rd.next ((IntKind.i64.wrap (i + 1), n, l, p, ()), (o, ()))))))
  (Fr.val (Rd.out ((), (o, ()))))
theorem semFi : Does Tryz.prog (loopF Tryz.f38 0) pFi.M pFi fFi := Does.of_run CK2_ok (bs := 0) rfl rfl rfl (fun _ => lam0_ok _ 0) (fun x => by kernel_rfl)
def noCover : coverT.den := (0, 0, 0, 0, 0, ())
def findP (p : Int) : List coverT.den -> coverT.den × Bool
 | [] => (noCover, false)
 | c :: l => if c.1 = p then (c, true) else findP p l
theorem findP_none {p : Int} : {l : List coverT.den} -> (findP p l).2 = false -> (findP p l).1 = noCover
 | [], _ => rfl
 | c :: l, h => by
  unfold findP at h ⊢
  split at h
  ·cases h
  ·rename_i hn
   rw [if_neg hn]
   exact findP_none h
structure InFi (i n : Int) (l : List coverT.den) : Prop where
 i0 : 0 <= i
 il : i <= n
 nl : n = l.length
 big : n <= 9223372036854775807
def outFi (o : coverT.den) (r : coverT.den × Bool) : Fr pFi.Out := Fr.br r.2 (Fr.val (Rd.back ((true, ()), (r.1, ())))) (Fr.val (Rd.out ((), (o, ()))))
def FFi (z : pFi.M.X) : Fr pFi.Out := Fr.need (InFi z.1.1 z.1.2.1 z.1.2.2.1) (outFi z.2.1 (findP z.1.2.2.2.1 (z.1.2.2.1.drop z.1.1.toNat)))
theorem lawFi (i n : Int) (l : List coverT.den) (p : Int) (o : coverT.den) (hinv : InFi i n l) (Q : pFi.Out -> Prop) (hq : (outFi o (findP p (l.drop i.toNat))).satP Q) :
  (fFi ((i, n, l, p, ()), (o, ()))).satP fun
   | .next x' => InFi x'.1.1 x'.1.2.1 x'.1.2.2.1 /\ ((x'.1.2.1 : Int) - x'.1.1).toNat < (n - i).toNat /\ (FFi x').satP Q
   | .out y => Q (.out y)
   | .back z => Q (.back z)
   | .pan p => Q (.pan p) := by
 obtain ⟨h1, h2, rfl, h4⟩ := hinv
 refine ⟨fun hi => ?_, fun hi => ?_⟩
 ·have hi' : i < (l.length : Int) := of_decide_eq_true hi
  obtain ⟨k, rfl⟩ : ∃ n : Nat, i = n := ⟨i.toNat, by omega⟩
  have hl : k < l.length := by omega
  have hk : (k : Int).toNat = k := by omega
  have hk1 : ((k : Int) + 1).toNat = k + 1 := by omega
  rw [hk] at hq
  have hw : IntKind.i64.wrap ((k : Int) + 1) = k + 1 := IntWalk.i64_in _ (by omega)
  have g1 : l.getD (k : Int).toNat coverT.dflt = l[k] := by
   rw [hk, List.getD_eq_getElem?_getD, List.getElem?_eq_getElem hl]; rfl
  rw [List.drop_eq_getElem_cons hl] at hq
  dsimp only [fFi, Fr.satP]
  rw [g1, hw]
  refine ⟨⟨by omega, by omega⟩, fun hb => ?_, fun hb => ?_⟩
  ·have hb' : l[k].1 = p := beq_iff_eq.1 hb
   have e : findP p (l[k] :: l.drop (k + 1)) = (l[k], true) := if_pos hb'
   rw [e] at hq
   exact hq.1 rfl
  ·have hb' : ¬ l[k].1 = p := beq_eq_false_iff_ne.1 hb
   have e : findP p (l[k] :: l.drop (k + 1)) = findP p (l.drop (k + 1)) := if_neg hb'
   rw [e] at hq
   have hI : InFi ((k : Int) + 1) (l.length : Int) l := ⟨by omega, by omega, rfl, h4⟩
   refine ⟨hI, by show ((l.length : Int) - ((k : Int) + 1)).toNat < ((l.length : Int) - (k : Int)).toNat; omega, hI, ?_⟩
   show (outFi o (findP p (l.drop ((k : Int) + 1).toNat))).satP Q
   rw [hk1]
   exact hq
 ·have hi' : ¬ i < (l.length : Int) := of_decide_eq_false hi
  have : l.drop i.toNat = [] := List.drop_eq_nil_of_le (by omega)
  rw [this] at hq
  exact hq.2 rfl
theorem loopFi : Does Tryz.prog (.loop (loopF Tryz.f38 0)) pFi.M pFi FFi := by
 refine Does.loop (n := 21) (id := 0) semFi (inv := fun x => InFi x.1.1 x.1.2.1 x.1.2.2.1) (μ := fun x => ((x.1.2.1 : Int) - x.1.1).toNat) ?_ (fun x Q h => h.1)
 rintro ⟨⟨i, n, l, p, _⟩, o, _⟩ hinv Q hq
 exact lawFi i n l p o hinv Q hq.2
def cFind : Ct := ⟨[.d (.sl coverT), .d i64], [coverT, .bool], fun x => ((findP x.2.1 x.1).1, (findP x.2.1 x.1).2, ()), fun _ => []⟩
def frFi (x : denP [.d (.sl coverT), .d i64]) : Fr (denL [coverT, .bool]) :=
 let l : List coverT.den := x.1; let p : Int := x.2.1
 Fr.need (InFi 0 l.length l) (Fr.br (findP p (l.drop (0 : Int).toNat)).2 (Fr.val ((findP p (l.drop (0 : Int).toNat)).1, true, ())) (Fr.val (noCover, false, ())))
theorem find_ok : SoundCt Tryz.prog 38 cFind :=
 convF (fn_sound CK2_ok (Λ := fun _ => pFi.han CK2.Γ pFi.M FFi) (fn := Tryz.f38) (fr := frFi) (ps := [.d (.sl coverT), .d i64]) (rs := [coverT, .bool]) ([], 0, ()) (by kernel_rfl)
  (fun c E hc => lam1f hc (by kernel_rfl) (b := loopF Tryz.f38 0) (by kernel_rfl) (Does.han CK2_ok rfl loopFi)) (fun x => by kernel_rfl)) _ _
  (fun w F x vs hr _ => by
   obtain ⟨l, p, _⟩ := x
   obtain ⟨v1, vs1, rfl, h1, _⟩ := hr
   have hlen : (l.length : Int) <= 9223372036854775807 := wf_len h1
   have hI : InFi 0 (l.length : Int) l := ⟨Int.le_refl _, Int.natCast_nonneg _, rfl, hlen⟩
   refine Fr.need_ hI ?_
   show (Fr.br (findP p l).2 (Fr.val ((findP p l).1, true, ())) (Fr.val (noCover, false, ())) : Fr (denL [coverT, .bool])).ok /\ (Fr.br (findP p l).2 (Fr.val ((findP p l).1, true, ())) (Fr.val (noCover, false, ())) : Fr (denL [coverT, .bool])).get = ((findP p l).1, (findP p l).2, ())
   cases hf : (findP p l).2 with
   | true => exact Fr.br_t rfl ⟨trivial, rfl⟩
   | false =>
    rw [findP_none hf]
    exact Fr.br_f rfl ⟨trivial, rfl⟩)
def cUnless : Pc := ⟨[.d .bool, .d i64], [], fun _ => (), fun x => !x.1, fun x => ⟨76 + 1000000, .i64, x.2.1⟩, fun _ => []⟩
set_option maxRecDepth 100000 in
theorem unless_ok : SoundPc Tryz.prog 35 cUnless := by
 refine ⟨enters (fn := Tryz.f35) (by kernel_rfl) rfl rfl, fun w F xs vs hb hr _ => ?_⟩
 obtain ⟨v, vs', rfl, hv, v2, vs'', rfl, hv2, hn⟩ := hr
 cases hn
 obtain ⟨s, n, _⟩ := xs
 have hv' : v = .bool s := by
  have h : RepA Tryz.prog w F (fun _ _ => True) (encV .bool s) v := encV_rep hv
  exact h.2
 have hv2' : v2 = .int .i64 n := by
  have h : RepA Tryz.prog w F (fun _ _ => True) (encV i64 n) v2 := encV_rep hv2
  exact h.2.1
 subst hv'
 subst hv2'
 cases s
 ·go_enter Tryz.func35, Tryz.ntmps35
  go_wp2
  refine ⟨rfl, .inr ⟨rfl, ?_, Below.refl _ _⟩⟩
  show Ending.panicked _ = Ending.panicked [{ v := PV.val ⟨76 + 1000000, .i64, n⟩, recovered := false }]
  rw [PV.val_high (p := ⟨76 + 1000000, .i64, n⟩) (T := 76) rfl]
 ·go_enter Tryz.func35, Tryz.ntmps35
  go_wp2
  go_end0
  refine .inl ⟨rfl, .tuple #[], F, rfl, Below.refl _ _, fun _ h => h, fun b h => ⟨.inl h, hb b h⟩, #[], rfl, rfl⟩
theorem five_same {w : World} {b1 b2 : Nat} {t1 t2 : TypeId} {a0 a1 a2 a3 a4 c v0 v1 v2 v3 v4 u : Value} (hne : b1 ≠ b2) (h1 : w.heap[b1]? = some (.cells #[a0, a1, a2, a3, a4] t1 (0, 0))) (h2 : w.heap[b2]? = some (.cells #[c] t2 (0, 0))) :
  SameW (((((((w.setCell ⟨b1, 0, none⟩ v0).setCell ⟨b1, 1, none⟩ v1).setCell ⟨b1, 2, none⟩ v2).setCell ⟨b1, 3, none⟩ v3).setCell ⟨b1, 4, none⟩ v4).setCell ⟨b2, 0, none⟩ u).drew) ((w.setRow b1 #[v0, v1, v2, v3, v4]).setRow b2 #[u]) := by
 have d1 : ∀ X : World, X.drew.os = X.os /\ X.drew.tape = X.tape /\ X.drew.output = X.output /\ X.drew.heap = X.heap := fun _ => ⟨rfl, rfl, rfl, rfl⟩
 have d2 : ∀ (X : World) (a : Addr) (v : Value), (X.setCell a v).os = X.os /\ (X.setCell a v).tape = X.tape /\ (X.setCell a v).output = X.output := fun _ _ _ => ⟨rfl, rfl, rfl⟩
 have d3 : ∀ (X : World) (b : Nat) (v : Array Value), (X.setRow b v).os = X.os /\ (X.setRow b v).tape = X.tape /\ (X.setRow b v).output = X.output := fun _ _ _ => ⟨rfl, rfl, rfl⟩
 unfold SameW
 simp only [(d1 _).1, (d1 _).2.1, (d1 _).2.2.1, (d1 _).2.2.2, (d2 _ _ _).1, (d2 _ _ _).2.1, (d2 _ _ _).2.2, (d3 _ _ _).1, (d3 _ _ _).2.1, (d3 _ _ _).2.2, and_self, and_true]
 have g0 := heap_setCell_same w b1 0 _ t1 v0 h1
 rw [show (#[a0, a1, a2, a3, a4] : Array Value).setIfInBounds 0 v0 = #[v0, a1, a2, a3, a4] from rfl] at g0
 have g1 := heap_setCell_same _ b1 1 _ t1 v1 g0
 rw [show (#[v0, a1, a2, a3, a4] : Array Value).setIfInBounds 1 v1 = #[v0, v1, a2, a3, a4] from rfl] at g1
 have g2 := heap_setCell_same _ b1 2 _ t1 v2 g1
 rw [show (#[v0, v1, a2, a3, a4] : Array Value).setIfInBounds 2 v2 = #[v0, v1, v2, a3, a4] from rfl] at g2
 have g3 := heap_setCell_same _ b1 3 _ t1 v3 g2
 rw [show (#[v0, v1, v2, a3, a4] : Array Value).setIfInBounds 3 v3 = #[v0, v1, v2, v3, a4] from rfl] at g3
 have g4 := heap_setCell_same _ b1 4 _ t1 v4 g3
 rw [show (#[v0, v1, v2, v3, a4] : Array Value).setIfInBounds 4 v4 = #[v0, v1, v2, v3, v4] from rfl] at g4
 have oo : ∀ i, i ≠ b1 -> (((((w.setCell ⟨b1, 0, none⟩ v0).setCell ⟨b1, 1, none⟩ v1).setCell ⟨b1, 2, none⟩ v2).setCell ⟨b1, 3, none⟩ v3).setCell ⟨b1, 4, none⟩ v4).heap[i]? = w.heap[i]? := fun i hi =>
  (heap_setCell_other _ _ i _ hi).trans ((heap_setCell_other _ _ i _ hi).trans ((heap_setCell_other _ _ i _ hi).trans ((heap_setCell_other _ _ i _ hi).trans (heap_setCell_other _ _ i _ hi))))
 generalize ((((w.setCell ⟨b1, 0, none⟩ v0).setCell ⟨b1, 1, none⟩ v1).setCell ⟨b1, 2, none⟩ v2).setCell ⟨b1, 3, none⟩ v3).setCell ⟨b1, 4, none⟩ v4 = X at g4 oo
 have k2 := heap_setCell_same X b2 0 _ t2 u ((oo b2 (Ne.symm hne)).trans h2)
 have r1 := setRow_heap w b1 _ #[v0, v1, v2, v3, v4] t1 (0, 0) h1
 have r2 := setRow_heap (w.setRow b1 #[v0, v1, v2, v3, v4]) b2 _ #[u] t2 (0, 0) ((setRow_other w b1 b2 _ (Ne.symm hne)).trans h2)
 apply Array.ext_getElem?
 intro i
 by_cases i1 : i = b1
 ·subst i1
  exact ((heap_setCell_other _ _ i _ hne).trans g4).trans ((setRow_other _ b2 i _ hne).trans r1).symm
 ·by_cases i2 : i = b2
  ·subst i2
   exact k2.trans r2.symm
  ·exact ((heap_setCell_other _ _ i _ i2).trans (oo i i1)).trans ((setRow_other _ b2 i _ i2).trans (setRow_other _ b1 i _ i1)).symm
set_option maxRecDepth 100000 in
set_option maxHeartbeats 2000000 in
theorem toldTwo_ok : ToldTwo Tryz.prog 34 76 .i64 5 := by
 refine ⟨enters (fn := Tryz.f34) (by kernel_rfl) rfl rfl, fun p q w => ?_, fun b1 b2 t1 t2 o1 o2 n w hne h1 hs1 h2 hs2 => ?_⟩
 ·refine callsD_of_wpS Tryz.func34 rfl fun c₀ cs hu => ?_
  simp only [Tryz.ntmps34, List.size_toArray, List.length_cons, List.length_nil, Nat.reduceAdd, Nat.reduceSub, Array.replicate_succ, Array.replicate_zero, List.push_toArray, List.append_toArray, List.nil_append, List.cons_append]
  apply wpS_seq
  apply wpS_region
  simp [wpOpsS, go_sem, recoverD, hu, Exit.thenS]
  refine wpS_of_wp ?_
  go_wp2
  cases c₀
  simp_all [bodyPostS, results, Tryz.results34]
 ·have hta : ∀ w, (Instr.typeAssert (.iface 76 (.agg #[.int .i64 n])) 20 76 false).run Tryz.prog w = .ok (.agg #[.int .i64 n]) w := fun _ => by kernel_rfl
  have hfd : ∀ w, (Instr.field 76 (.agg #[.int .i64 n]) 0).run Tryz.prog w = .ok (.int .i64 n) w := fun _ => by kernel_rfl
  obtain ⟨a0, a1, a2, a3, a4, rfl⟩ : ∃ a0 a1 a2 a3 a4, o1 = #[a0, a1, a2, a3, a4] := ⟨o1[0], o1[1], o1[2], o1[3], o1[4], by
   apply Array.ext
   ·exact hs1
   ·intro i h1 h2
    match i, h2 with
    | 0, _ | 1, _ | 2, _ | 3, _ | 4, _ => rfl⟩
  obtain ⟨c0, rfl⟩ := one_of_size hs2
  have x0 := cell_of_block h1 0
  have x1 := cell_of_block h1 1
  have x2 := cell_of_block h1 2
  have x3 := cell_of_block h1 3
  have x4 := cell_of_block h1 4
  have y0 := cell_of_block h2 0
  simp at x0 x1 x2 x3 x4 y0
  have f1 : ∀ j, w.frozen? ⟨b1, j, none⟩ = false := fun j => by simp [World.frozen?, h1]
  have f2 : w.frozen? ⟨b2, 0, none⟩ = false := by simp [World.frozen?, h2]
  refine callsD_of_wpS Tryz.func34 rfl fun c₀ cs hu => ?_
  simp only [Tryz.ntmps34, List.size_toArray, List.length_cons, List.length_nil, Nat.reduceAdd, Nat.reduceSub, Array.replicate_succ, Array.replicate_zero, List.push_toArray, List.append_toArray, List.nil_append, List.cons_append]
  apply wpS_seq
  apply wpS_region
  simp [wpOpsS, go_sem, recoverD, hu, Exit.thenS]
  refine wpS_of_wp ?_
  go_wp2
  go_region
  go_wp2
  simp [bodyPostS, results, Tryz.results34]
  exact five_same hne h1 h2
def X0 : termsT.den := ((1, 101, ()), (0, 36500, 0, 0, ()), [(1, 1000, 1000, 0, 10000, ())], ())
theorem orderL_sorted (h : histT.den) : (orderL h).Pairwise fun x y => dayOf h x <= dayOf h y :=
 (sortB_sort (key := dayOf h) (lt := ltDay h) (fun _ _ _ _ => rfl)).1
theorem chsO_sorted (h : histT.den) : (chsO h).Pairwise fun x y => x.2.1 <= y.2.1 := by
 unfold chsO
 rw [List.pairwise_map]
 exact orderL_sorted h
theorem chAt_mem {h : histT.den} {i : Int} (hi : 0 <= i /\ i < ((chL h).length : Int)) : chAt h i ∈ chL h := by
 unfold chAt
 exact getD_mem (by omega)
theorem chsO_mem {h : histT.den} {c : changeT.den} (hc : c ∈ chsO h) : c ∈ chL h := by
 obtain ⟨i, hi, rfl⟩ := List.mem_map.1 hc
 exact chAt_mem (orderL_mem hi)
structure HistOk (h : histT.den) : Prop where
 terms : termsB h.2.2.1 = true
 a1 : 1 <= h.2.2.1.1.1
 ab : h.2.2.1.1.1 < h.2.2.1.1.2.1
 b1 : h.2.2.1.1.2.1 <= 292195
 wide : h.2.2.1.1.2.1 - h.2.2.1.1.1 <= 1100
 chs : ∀ c ∈ chL h, changeB c = true /\ h.2.2.1.1.1 <= c.2.1 /\ c.2.1 < h.2.2.1.1.2.1
theorem histB_iff {h : histT.den} : histB h = true ↔ termsB h.2.2.1 = true /\ h.2.2.2.1.length <= 2000 /\ ∀ c ∈ chL h, changeB c = true /\ inB h.2.2.1.1.1 h.2.2.1.1.2.1 c.2.1 = true := by
 unfold histB
 simp only [Bool.and_eq_true, decide_eq_true_eq, List.all_eq_true, and_assoc]
theorem terms_span {t : termsT.den} (h : termsB t = true) : 1 <= t.1.1 /\ t.1.1 < t.1.2.1 /\ t.1.2.1 <= 292195 /\ t.1.2.1 - t.1.1 <= 1100 := by
 obtain ⟨⟨a, b, _⟩, r, cs, _⟩ := t
 unfold termsB at h
 rw [Bool.and_eq_true, Bool.and_eq_true] at h
 obtain ⟨h1, h2, _⟩ := h
 obtain ⟨p1, p2, p3⟩ := fullS_iff.1 h1
 exact ⟨p1, p2, p3, of_decide_eq_true h2⟩
theorem histOk {h : histT.den} (hh : histB h = true) : HistOk h := by
 obtain ⟨h1, _, h3⟩ := histB_iff.1 hh
 obtain ⟨p1, p2, p3, p4⟩ := terms_span h1
 refine ⟨h1, p1, p2, p3, p4, fun c hc => ?_⟩
 obtain ⟨q1, q2⟩ := h3 c hc
 have q3 := of_decide_eq_true q2
 exact ⟨q1, q3.2.2.1, q3.2.2.2⟩
theorem cutL_runs {h : histT.den} (hh : histB h = true) : Runs (stOf h) h.2.2.1.1.2.1 h.2.2.1.1.1 (cutL h) := by
 have ho := histOk hh
 exact goCut_runs (k0 := (true, h.2.2.1.2.1, h.2.2.1.2.2.1)) (a := h.2.2.1.1.1) (b := h.2.2.1.1.2.1) (fun c hc => Int.le_of_lt (ho.chs c (chsO_mem hc)).2.2) (chsO h) [] rfl (chsO_sorted h) (nowS h) [] (fun c hc => (by cases hc)) (fun c hc => (ho.chs c (chsO_mem hc)).2.1)
  (Int.le_of_lt ho.ab) rfl rfl rfl
theorem holdK_filter (d : Int) : (l : List changeT.den) -> (k : Core) -> holdK d (l.filter fun c => decide (c.2.1 <= d)) k = holdK d l k
 | [], _ => rfl
 | c :: l, k => by
  by_cases hc : c.2.1 <= d
  ·rw [List.filter_cons_of_pos (by simpa using hc)]
   simp only [holdK]
   exact holdK_filter d l _
  ·rw [List.filter_cons_of_neg (by simpa using hc)]
   have hgt : c.2.1 > d := Int.not_le.1 hc
   simp only [holdK]
   rw [if_pos hgt]
   exact holdK_filter d l k
theorem SortK.filter {α : Type} {key : α -> Int} {l : List α} (h : SortK key l) (p : α -> Bool) : SortK key (l.filter p) := List.Pairwise.sublist List.filter_sublist h
theorem Good.all {p : List Int × List Int} {m : Int} (h : Good p m) : ∀ x ∈ p.1, x <= m := by
 intro x hx
 have hp := (rises_spec h.up h.len).1
 have hle := h.le
 have hne : p.1 ≠ [] := List.ne_nil_of_mem hx
 rw [List.getLast?_eq_some_getLast hne] at hle
 have hle' : p.1.getLast hne <= m := hle
 have hs : p.1 = p.1.dropLast ++ [p.1.getLast hne] := (List.dropLast_concat_getLast hne).symm
 rw [hs] at hx hp
 rcases List.mem_append.1 hx with hx | hx
 ·have := (List.pairwise_append.1 hp).2.2 x hx _ (List.mem_singleton.2 rfl)
  exact Int.le_of_lt (Int.lt_of_lt_of_le this hle')
 ·rw [List.mem_singleton.1 hx]
  exact hle'
theorem fewB_fewH {h : histT.den} {t : tarT.den} (hf : fewB h t = true) : fewH h /\ fewT t := by
 unfold fewB at hf
 simp only [Bool.and_eq_true, decide_eq_true_eq, List.all_eq_true] at hf
 obtain ⟨⟨h1, h2, h3⟩, h4, h5⟩ := hf
 refine ⟨⟨by show h.2.2.2.1.length <= 500000; omega, by omega, fun c hc => ?_⟩, by omega, fun v hv => ?_⟩
 ·have : c.2.2.2.2.1.length <= 50 := of_decide_eq_true (h4 c hc)
  omega
 ·have := h5 v hv
  unfold fewV at this
  simp only [Bool.and_eq_true, decide_eq_true_eq] at this
  exact ⟨by omega, by omega, by omega⟩
set_option maxRecDepth 100000 in
def roomC (n m : Nat) : Prop := n + m <= maxLen /\ (n + m) * Tryz.prog.types[53].bytes <= 140737488355328
set_option maxRecDepth 100000 in
theorem changeBytes : Tryz.prog.types[53].bytes <= 1000 := by decide
theorem Runs.mem {st : Int -> Core} {b : Int} : {a : Int} -> {l : List sliceT.den} -> Runs st b a l -> ∀ s ∈ l, a <= s.1.1 /\ s.1.1 < s.1.2.1 /\ s.1.2.1 <= b /\ ∀ d, s.1.1 <= d -> d < s.1.2.1 -> coreS s = st d
 | _, [], _, _, hs => by cases hs
 | a, t :: l, h, s, hs => by
  obtain ⟨h1, h2, h3, h4, h5, h6⟩ := h
  rcases List.mem_cons.1 hs with rfl | hs
  ·rw [h1]
   exact ⟨Int.le_refl _, h2, h6.le, h4⟩
  ·obtain ⟨q1, q2⟩ := Runs.mem h6 s hs
   exact ⟨Int.le_trans (Int.le_of_lt h2) q1, q2⟩
def tlC : Code -> Code
 | .seq _ c => c
 | _ => .skip
def hdC : Code -> Code
 | .seq c _ => c
 | _ => .skip
def opsC : Code -> Array Oper
 | .region _ ops _ => ops
 | _ => #[]
def frKSl (x : denP [.d histT, .d tarT, .d i64]) : Fr (denL [slsT, i64]) :=
 let h : histT.den := x.1; let t : tarT.den := x.2.1; let d : Int := x.2.2.1
 Fr.need (fewH h) (Fr.br ((cKAt.f (h, d, ())).2.1 != 0) (Fr.val ([], (cKAt.f (h, d, ())).2.1, ()))
  (Fr.need (fewH (cKAt.f (h, d, ())).1) (Fr.need (fewT t) (Fr.val ((cOf.f ((cKAt.f (h, d, ())).1, t, ())).1, (cOf.f ((cKAt.f (h, d, ())).1, t, ())).2.1, ())))))
theorem kSl_run : SoundCt Tryz.prog 36 ⟨[.d histT, .d tarT, .d i64], [slsT, i64], fun xs => (frKSl xs).get, fun xs => [(frKSl xs).ok]⟩ :=
 fn_sound CKs_ok (Λ := lam0) (fn := Tryz.f36) (fr := frKSl) (ps := [.d histT, .d tarT, .d i64]) (rs := [slsT, i64]) (histT.dflt, tarT.dflt, 0, ()) (by kernel_rfl) (fun c E _ => lam0_ok c 0) (fun x => by kernel_rfl)
theorem kSl_eq (h : histT.den) (t : tarT.den) (d : Int) (hf : fewH h) (ht : fewT t) : (frKSl (h, t, d, ())).ok /\ (frKSl (h, t, d, ())).get = ((knownS h t d).1, (knownS h t d).2, ()) := by
 refine Fr.need_ hf ?_
 unfold knownS
 by_cases h1 : (atH h d).2 = 0
 ·rw [if_pos h1]
  exact Fr.br_f (by show ((atH h d).2 != 0) = false; simp [h1]) (Fr.need_ (atH_few hf d) (Fr.need_ ht ⟨trivial, rfl⟩))
 ·rw [if_neg h1]
  exact Fr.br_t (by show ((atH h d).2 != 0) = true; simp [h1]) ⟨trivial, rfl⟩
theorem kSl_ok : SoundCt Tryz.prog 36 cKSl :=
 convF kSl_run _ _ (fun w F x vs hr hok => by
  obtain ⟨h, t, d, _⟩ := x
  exact kSl_eq h t d hok.1 hok.2)
def Er (e : Int) : Prop := 0 <= e /\ e <= 20
theorem er0 : Er 0 := ⟨by decide, by decide⟩
theorem er1 : Er 1 := ⟨by decide, by decide⟩
theorem er5 : Er 5 := ⟨by decide, by decide⟩
theorem er6 : Er 6 := ⟨by decide, by decide⟩
theorem er7 : Er 7 := ⟨by decide, by decide⟩
theorem evenF_er (a b c : Int) : Er (evenF a b c).2 := by
 unfold evenF
 split
 ·first | exact er0 | exact er1 | exact er5 | exact er6 | exact er7
 ·split
  ·first | exact er0 | exact er1 | exact er5 | exact er6 | exact er7
  ·split <;> first | exact er0 | exact er1 | exact er5 | exact er6 | exact er7
theorem bpGo_er : (l : List Int) -> (m : Int) -> Er (bpGo l m).2
 | [], _ => er0
 | b :: r, m => by
  unfold bpGo
  split
  ·exact bpGo_er r _
  ·exact evenF_er _ _ _
theorem oneF_er (v : verT.den) (r : riskT.den) (c : coverT.den) : Er (oneF v r c).2 := by
 unfold oneF
 split
 ·split
  ·first | exact er0 | exact er1 | exact er5 | exact er6 | exact er7
  ·split
   ·first | exact er0 | exact er1 | exact er5 | exact er6 | exact er7
   ·exact bpGo_er _ _
 ·first | exact er0 | exact er1 | exact er5 | exact er6 | exact er7
theorem yrGo_er (v : verT.den) (r : riskT.den) : (l : List coverT.den) -> (q : Int) -> (b : Bool) -> Er (yrGo v r l q b).2.2
 | [], _, _ => er0
 | c :: l, q, b => by
  unfold yrGo
  split
  ·split
   ·split
    ·exact yrGo_er v r l _ _
    ·exact yrGo_er v r l _ _
   ·exact yrGo_er v r l _ _
  ·exact oneF_er _ _ _
theorem yearF_er (v : verT.den) (r : riskT.den) (l : List coverT.den) : Er (yearF v r l).2 := by
 unfold yearF
 split
 ·split <;> first | exact er0 | exact er1 | exact er5 | exact er6 | exact er7
 ·exact yrGo_er _ _ _ _ _
theorem errP_er (v : verT.den) : (l : List sliceT.den) -> Er (errP v l)
 | [] => er0
 | s :: l => by
  unfold errP
  split
  ·split
   ·exact errP_er v l
   ·exact yearF_er _ _ _
  ·exact errP_er v l
theorem verAt_er (d : Int) : (l : List verT.den) -> Er (verAt d l).2
 | [] => er7
 | v :: r => by
  unfold verAt
  split
  ·first | exact er0 | exact er1 | exact er5 | exact er6 | exact er7
  ·exact verAt_er d r
theorem ofF_er (h : histT.den) (t : tarT.den) : Er (ofF h t).2 := by
 unfold ofF
 split
 ·split
  ·split
   ·first | exact er0 | exact er1 | exact er5 | exact er6 | exact er7
   ·exact errP_er _ _
  ·exact verAt_er _ _
 ·first | exact er0 | exact er1 | exact er5 | exact er6 | exact er7
theorem knownS_er (h : histT.den) (t : tarT.den) (d : Int) : Er (knownS h t d).2 := by
 unfold knownS
 split
 ·exact ofF_er _ _
 ·unfold atH
  split <;> first | exact er0 | exact er1 | exact er5 | exact er6 | exact er7
theorem Er.inR {e : Int} (h : Er e) : inR .i64 e := by
 obtain ⟨h1, h2⟩ := h
 have e1 : IntKind.i64.min = -9223372036854775808 := by decide
 have e2 : IntKind.i64.max = 9223372036854775807 := by decide
 unfold Go.Ab.inR
 rw [e1, e2]
 omega
def claimC (c : claimT.den) : Bool := claimB c.1 c.2.1 c.2.2.1 c.2.2.2.1 c.2.2.2.2.1 c.2.2.2.2.2.1
def cover1 (l : List sliceT.den) (c : claimT.den) : coverT.den × Int :=
 if ((atS l c.2.2.2.1).2 && (atS l c.2.2.2.1).1.2.1) = true then
  (if (findP c.2.2.1 (atS l c.2.2.2.1).1.2.2.2.1).2 = true then ((findP c.2.2.1 (atS l c.2.2.2.1).1.2.2.2.1).1, 0) else (noCover, 11))
 else (noCover, 11)
def covF (h : histT.den) (t : tarT.den) (c : claimT.den) : coverT.den × Int :=
 if claimC c = true then
  (if c.2.2.2.1 <= c.2.2.2.2.1 then
   (if c.2.1 = h.1 then (if (knownS h t c.2.2.2.2.1).2 = 0 then cover1 (knownS h t c.2.2.2.2.1).1 c else (noCover, (knownS h t c.2.2.2.2.1).2)) else (noCover, 7))
  else (noCover, 4))
 else (noCover, 1)
def cCov : Ct := ⟨[.d histT, .d tarT, .d claimT], [coverT, i64], fun x => ((covF x.1 x.2.1 x.2.2.1).1, (covF x.1 x.2.1 x.2.2.1).2, ()), fun x => [fewH x.1, fewT x.2.1]⟩
noncomputable def CCov : Cx := cx [(33, cClaim), (36, cKSl), (37, cAt), (38, cFind)] [(35, cUnless)]
theorem CCov_ok : CxOK Tryz.prog CCov := cx_ok mixed ⟨nRight_ok, kSl_ok, slices_At_ok, find_ok, trivial⟩ ⟨unless_ok, trivial⟩
def unl (b : Bool) (e : Int) (k : Fr (denL [coverT, i64])) : Fr (denL [coverT, i64]) :=
 Fr.br (cUnless.bad (b, e, ())) (Fr.need (inR .i64 (cUnless.pv (b, e, ())).n) (Fr.val ((0, 0, 0, 0, 0, ()), (cUnless.pv (b, e, ())).n, ()))) k
def frCov (x : denP [.d histT, .d tarT, .d claimT]) : Fr (denL [coverT, i64]) :=
 let h : histT.den := x.1; let t : tarT.den := x.2.1; let c : claimT.den := x.2.2.1
 unl (cClaim.f (c, ())).1 1 (unl (decide (c.2.2.2.2.1 ≥ c.2.2.2.1)) 4 (unl (c.2.1 == h.1) 7 (Fr.need (fewH h) (Fr.need (fewT t)
  (unl ((cKSl.f (h, t, c.2.2.2.2.1, ())).2.1 == 0) (cKSl.f (h, t, c.2.2.2.2.1, ())).2.1
   (unl (bif (cAt.f ((cKSl.f (h, t, c.2.2.2.2.1, ())).1, c.2.2.2.1, ())).2.1 then (cAt.f ((cKSl.f (h, t, c.2.2.2.2.1, ())).1, c.2.2.2.1, ())).1.2.1 else false) 11
    (unl (cFind.f ((cAt.f ((cKSl.f (h, t, c.2.2.2.2.1, ())).1, c.2.2.2.1, ())).1.2.2.2.1, c.2.2.1, ())).2.1 11
     (Fr.val ((cFind.f ((cAt.f ((cKSl.f (h, t, c.2.2.2.2.1, ())).1, c.2.2.2.1, ())).1.2.2.2.1, c.2.2.1, ())).1, 0, ())))))))))
noncomputable def covC : Code := (Tryz.f12.body.map fun c => tlC (tlC c)).getD .skip
theorem cov_run : SoundCt Tryz.prog 12 ⟨[.d histT, .d tarT, .d claimT], [coverT, i64], fun xs => (frCov xs).get, fun xs => [(frCov xs).ok]⟩ :=
 dt_sound CCov_ok (run := fun s => codeA Tryz.prog CCov 0 lam0 covC 0 s) (T := 76) (k := .i64) (m := 5) (fn := Tryz.f12) (A := hdC (Tryz.f12.body.getD .skip)) (c := covC) (rid := 1) (ops := opsC (hdC (tlC (Tryz.f12.body.getD .skip)))) (td := 12) (ta := 6) (tb := 7) (fr := frCov) (ps := [.d histT, .d tarT, .d claimT]) (rs := [coverT, i64]) (histT.dflt, tarT.dflt, claimT.dflt, ())
  (by kernel_rfl) (by kernel_rfl) (by kernel_rfl) toldTwo_ok (fun E => codeA_run CCov_ok (lam0_ok _ 0)) (fun x => by kernel_rfl)
theorem unl_t {b : Bool} {e : Int} {k : Fr (denL [coverT, i64])} {y : denL [coverT, i64]} (hb : b = true) (hk : k.ok /\ k.get = y) : (unl b e k).ok /\ (unl b e k).get = y := Fr.br_f (by show (!b) = false; rw [hb]; rfl) hk
theorem unl_f {b : Bool} {e : Int} {k : Fr (denL [coverT, i64])} (hb : b = false) (he : inR .i64 e) : (unl b e k).ok /\ (unl b e k).get = (noCover, e, ()) := Fr.br_t (by show (!b) = true; rw [hb]; rfl) (Fr.need_ he ⟨trivial, rfl⟩)
theorem cov_eq (h : histT.den) (t : tarT.den) (c : claimT.den) (hf : fewH h) (ht : fewT t) : (frCov (h, t, c, ())).ok /\ (frCov (h, t, c, ())).get = ((covF h t c).1, (covF h t c).2, ()) := by
 unfold covF
 by_cases h1 : claimC c = true
 ·rw [if_pos h1]
  refine unl_t h1 ?_
  by_cases h2 : c.2.2.2.1 <= c.2.2.2.2.1
  ·rw [if_pos h2]
   refine unl_t (by simpa using h2) ?_
   by_cases h3 : c.2.1 = h.1
   ·rw [if_pos h3]
    refine unl_t (by simpa using h3) (Fr.need_ hf (Fr.need_ ht ?_))
    by_cases h4 : (knownS h t c.2.2.2.2.1).2 = 0
    ·rw [if_pos h4]
     refine unl_t (by show ((knownS h t c.2.2.2.2.1).2 == 0) = true; simpa using h4) ?_
     unfold cover1
     by_cases h5 : ((atS (knownS h t c.2.2.2.2.1).1 c.2.2.2.1).2 && (atS (knownS h t c.2.2.2.2.1).1 c.2.2.2.1).1.2.1) = true
     ·rw [if_pos h5]
      refine unl_t ((bif_and _ _).trans h5) ?_
      by_cases h6 : (findP c.2.2.1 (atS (knownS h t c.2.2.2.2.1).1 c.2.2.2.1).1.2.2.2.1).2 = true
      ·rw [if_pos h6]
       exact unl_t h6 ⟨trivial, rfl⟩
      ·rw [if_neg h6]
       exact unl_f (Bool.eq_false_iff.2 h6) ⟨by decide, by decide⟩
     ·rw [if_neg h5]
      exact unl_f ((bif_and _ _).trans (Bool.eq_false_iff.2 h5)) ⟨by decide, by decide⟩
    ·rw [if_neg h4]
     exact unl_f (by show ((knownS h t c.2.2.2.2.1).2 == 0) = false; simpa using h4) (knownS_er h t _).inR
   ·rw [if_neg h3]
    exact unl_f (by simpa using h3) ⟨by decide, by decide⟩
  ·rw [if_neg h2]
   exact unl_f (by simpa using h2) ⟨by decide, by decide⟩
 ·rw [if_neg h1]
  exact unl_f (Bool.eq_false_iff.2 h1) ⟨by decide, by decide⟩
theorem cov_ok : SoundCt Tryz.prog 12 cCov :=
 convF cov_run _ _ (fun w F x vs hr hok => by
  obtain ⟨h, t, c, _⟩ := x
  exact cov_eq h t c hok.1 hok.2)
abbrev clsT : Ty := .sl claimT
noncomputable def CWy : Cx := cx [(12, cCov)] []
theorem CWy_ok : CxOK Tryz.prog CWy := cx_ok (ps := []) mixed ⟨cov_ok, trivial⟩ trivial
abbrev ptWy : Pt := ⟨31, 0, ⟨[(12, .d clsT), (13, .d i64), (14, .d i64)], [.x 3 31 histT, .r 3 3 0, .x 4 34 tarT, .r 4 4 0, .o 7 41 i64]⟩, ⟨[], [.o 7 41 i64]⟩, ⟨[], []⟩⟩
set_option maxRecDepth 100000 in
def roomE (n m : Nat) : Prop := n + m <= maxLen /\ (n + m) * Tryz.prog.types[41].bytes <= 140737488355328
set_option maxRecDepth 100000 in
theorem errBytes : Tryz.prog.types[41].bytes <= 1000 := by decide
theorem roomE_mil {n m : Nat} (h : n + m <= 1000000) : roomE n m := ⟨by unfold maxLen; omega, Nat.le_trans (Nat.mul_le_mul h errBytes) (by decide)⟩
def frWy (x : ptWy.M.X) : Fr ptWy.Out :=
 let l : List claimT.den := x.1.1; let n : Int := x.1.2.1; let i : Int := x.1.2.2.1; let h : histT.den := x.2.1; let t : tarT.den := x.2.2.1; let o : List Int := x.2.2.2.1
 let e : Int := (cCov.f (h, t, l.getD i.toNat claimT.dflt, ())).2.1
 Fr.br (decide (i < n))
  (Fr.need (0 <= i /\ i < (l.length : Int)) (Fr.need (fewH h) (Fr.need (fewT t) (Fr.need (roomE o.length (List.length [e]))
   (Fr.val (Rd.next ((l, n, IntKind.i64.wrap (i + 1), ()), (h, t, o ++ [e], ()))))))))
  (Fr.val (Rd.out ((), (o, ()))))
theorem semWy : Does Tryz.prog (loopF Tryz.f15 0) ptWy.M ptWy frWy :=
 Does.of_run CWy_ok (bs := 0) (Λ := lam0) rfl rfl rfl (fun E => lam0_ok _ 0) (fun x => by kernel_rfl)
def whyL (h : histT.den) (t : tarT.den) (l : List claimT.den) : List Int := l.map fun c => (covF h t c).2
structure InvWy (h : histT.den) (t : tarT.den) (l : List claimT.den) (n i : Int) (o : List Int) : Prop where
 fh : fewH h
 ft : fewT t
 i0 : 0 <= i
 il : i <= n
 nl : n = l.length
 few : l.length <= 1000000
 o0 : o = whyL h t (l.take i.toNat)
def FWy (x : ptWy.M.X) : Fr ptWy.Out := Fr.need (InvWy x.2.1 x.2.2.1 x.1.1 x.1.2.1 x.1.2.2.1 x.2.2.2.1) (Fr.val (Rd.out ((), (whyL x.2.1 x.2.2.1 x.1.1, ()))))
theorem lawWy (h : histT.den) (t : tarT.den) (l : List claimT.den) (n i : Int) (o : List Int) (hinv : InvWy h t l n i o) (Q : ptWy.Out -> Prop) (hq : Q (Rd.out ((), (whyL h t l, ())))) : (frWy ((l, n, i, ()), (h, t, o, ()))).satP fun
   | .next x' => InvWy x'.2.1 x'.2.2.1 x'.1.1 x'.1.2.1 x'.1.2.2.1 x'.2.2.2.1 /\ (x'.1.2.1 - x'.1.2.2.1).toNat < (n - i).toNat /\ (FWy x').satP Q
   | .out y => Q (.out y)
   | .back z => Q (.back z)
   | .pan p => Q (.pan p) := by
 obtain ⟨hf, ht, h0, h1, h2, h3, h5⟩ := hinv
 obtain ⟨k, rfl⟩ : ∃ k : Nat, i = k := ⟨i.toNat, by omega⟩
 subst h2
 dsimp only [frWy, Fr.satP]
 rw [Int.toNat_natCast] at h5 ⊢
 subst h5
 refine ⟨fun hi => ?_, fun hi => ?_⟩
 ·have hk : k < l.length := by have : (k : Int) < (l.length : Int) := of_decide_eq_true hi; omega
  have w1 : IntKind.i64.wrap ((k : Int) + 1) = ((k + 1 : Nat) : Int) := by rw [i64w (by omega)]; omega
  have hs : whyL h t (l.take k) ++ [(covF h t (l.getD k claimT.dflt)).2] = whyL h t (l.take (k + 1)) := by
   unfold whyL
   rw [List.take_add_one, List.map_append, List.getD_eq_getElem?_getD, List.getElem?_eq_getElem hk]
   rfl
  have hI : InvWy h t l l.length ((k + 1 : Nat) : Int) (whyL h t (l.take (k + 1))) := ⟨hf, ht, by omega, by omega, rfl, h3, by rw [Int.toNat_natCast]⟩
  have hl : (whyL h t (l.take k)).length = k := by unfold whyL; rw [List.length_map, List.length_take]; omega
  rw [w1]
  refine ⟨⟨by omega, by omega⟩, hf, ht, roomE_mil (by rw [hl]; show k + 1 <= 1000000; omega), ?_⟩
  have hs' : whyL h t (l.take k) ++ [(cCov.f (h, t, l.getD k claimT.dflt, ())).2.1] = whyL h t (l.take (k + 1)) := hs
  rw [hs']
  exact ⟨hI, by omega, hI, hq⟩
 ·have hk : ¬ (k : Int) < (l.length : Int) := of_decide_eq_false hi
  rw [List.take_of_length_le (by omega)]
  exact hq
theorem loopWy : Does Tryz.prog (.loop (loopF Tryz.f15 0)) ptWy.M ptWy FWy := by
 refine Does.loop (n := 31) (id := 0) semWy (inv := fun x => InvWy x.2.1 x.2.2.1 x.1.1 x.1.2.1 x.1.2.2.1 x.2.2.2.1) (μ := fun x => (x.1.2.1 - x.1.2.2.1).toNat) ?_ (fun x Q h => h.1)
 rintro ⟨⟨l, n, i, _⟩, h, t, o, _⟩ hinv Q hq
 exact lawWy h t l n i o hinv Q hq.2
def cWhy : Ct := ⟨[.d histT, .d tarT, .d clsT], [ints], fun x => (whyL x.1 x.2.1 x.2.2.1, ()), fun x => [fewH x.1, fewT x.2.1, List.length (α := claimT.den) x.2.2.1 <= 1000000]⟩
def frWhy (x : denP [.d histT, .d tarT, .d clsT]) : Fr (denL [ints]) :=
 let l : List claimT.den := x.2.2.1
 Fr.need (InvWy x.1 x.2.1 l l.length 0 []) (Fr.val (whyL x.1 x.2.1 l, ()))
theorem why_run : SoundCt Tryz.prog 15 ⟨[.d histT, .d tarT, .d clsT], [ints], fun xs => (frWhy xs).get, fun xs => [(frWhy xs).ok]⟩ :=
 fn_sound CWy_ok (Λ := fun _ => ptWy.han CWy.Γ ptWy.M FWy) (fn := Tryz.f15) (fr := frWhy) (ps := [.d histT, .d tarT, .d clsT]) (rs := [ints]) (histT.dflt, tarT.dflt, [], ()) (by kernel_rfl)
  (fun c E hc => lam1f hc (by kernel_rfl) (b := loopF Tryz.f15 0) (by kernel_rfl) (Does.han CWy_ok rfl loopWy)) (fun x => by kernel_rfl)
theorem why_ok : SoundCt Tryz.prog 15 cWhy :=
 convF why_run _ _ (fun w F x vs hr hok => by
  obtain ⟨h, t, l, _⟩ := x
  obtain ⟨h1, h2, h3⟩ := hok
  exact ⟨⟨⟨h1, h2, Int.le_refl _, by omega, rfl, h3, rfl⟩, trivial⟩, rfl⟩)
noncomputable def CSm : Cx := cx [] []
theorem CSm_ok : CxOK Tryz.prog CSm := cx_ok (cs := []) (ps := []) mixed trivial trivial
abbrev ptSm : Pt := ⟨26, 0, ⟨[(0, .d ints), (1, .d ints), (12, .d i64), (13, .d i64)], []⟩, ⟨[], []⟩, ⟨[(4, .d .bool)], []⟩⟩
def frSm (x : ptSm.M.X) : Fr ptSm.Out :=
 let a : List Int := x.1.1; let b : List Int := x.1.2.1; let n : Int := x.1.2.2.1; let i : Int := x.1.2.2.2.1
 Fr.br (decide (i < n))
  (Fr.need (0 <= i /\ i < (a.length : Int)) (Fr.need (0 <= i /\ i < (b.length : Int))
   (Fr.br (a.getD i.toNat i64.dflt != b.getD i.toNat i64.dflt) (Fr.val (Rd.back ((false, ()), ()))) (Fr.val (Rd.next ((a, b, n, IntKind.i64.wrap (i + 1), ()), ()))))))
  (Fr.val (Rd.out ((), ())))
theorem semSm : Does Tryz.prog (loopF Tryz.f14 0) ptSm.M ptSm frSm :=
 Does.of_run CSm_ok (bs := 0) (Λ := lam0) rfl rfl rfl (fun E => lam0_ok _ 0) (fun x => by kernel_rfl)
structure InvSm (a b : List Int) (n i : Int) : Prop where
 i0 : 0 <= i
 il : i <= n
 nl : n = a.length
 ab : a.length = b.length
 big : (a.length : Int) <= 9223372036854775807
def FSm (x : ptSm.M.X) : Fr ptSm.Out := Fr.need (InvSm x.1.1 x.1.2.1 x.1.2.2.1 x.1.2.2.2.1)
 (Fr.br (List.drop (α := Int) x.1.2.2.2.1.toNat x.1.1 == List.drop (α := Int) x.1.2.2.2.1.toNat x.1.2.1) (Fr.val (Rd.out ((), ()))) (Fr.val (Rd.back ((false, ()), ()))))
theorem lawSm (a b : List Int) (n i : Int) (hinv : InvSm a b n i) (Q : ptSm.Out -> Prop) (hq : (Fr.br (List.drop i.toNat a == List.drop i.toNat b) (Fr.val (Rd.out ((), ()))) (Fr.val (Rd.back ((false, ()), ()))) : Fr ptSm.Out).satP Q) : (frSm ((a, b, n, i, ()), ())).satP fun
   | .next x' => InvSm x'.1.1 x'.1.2.1 x'.1.2.2.1 x'.1.2.2.2.1 /\ (x'.1.2.2.1 - x'.1.2.2.2.1).toNat < (n - i).toNat /\ (FSm x').satP Q
   | .out y => Q (.out y)
   | .back z => Q (.back z)
   | .pan p => Q (.pan p) := by
 obtain ⟨h0, h1, h2, h3, h4⟩ := hinv
 obtain ⟨k, rfl⟩ : ∃ k : Nat, i = k := ⟨i.toNat, by omega⟩
 subst h2
 dsimp only [frSm, Fr.satP] at hq ⊢
 rw [Int.toNat_natCast] at hq ⊢
 refine ⟨fun hi => ?_, fun hi => ?_⟩
 ·have hk : k < a.length := by have : (k : Int) < (a.length : Int) := of_decide_eq_true hi; omega
  have hkb : k < b.length := by omega
  have ea : a.getD k i64.dflt = a[k] := by rw [List.getD_eq_getElem?_getD, List.getElem?_eq_getElem hk]; rfl
  have eb : b.getD k i64.dflt = b[k] := by rw [List.getD_eq_getElem?_getD, List.getElem?_eq_getElem hkb]; rfl
  have da := List.drop_eq_getElem_cons hk
  have db := List.drop_eq_getElem_cons hkb
  have w1 : IntKind.i64.wrap ((k : Int) + 1) = ((k + 1 : Nat) : Int) := by rw [i64w (by omega)]; omega
  rw [ea, eb, w1]
  rw [da, db] at hq
  refine ⟨⟨by omega, by omega⟩, ⟨by omega, by omega⟩, fun hne => ?_, fun he => ?_⟩
  ·have hne' : a[k] ≠ b[k] := by simpa using hne
   exact hq.2 (by rw [List.cons_beq_cons, beq_eq_false_iff_ne.2 hne', Bool.false_and])
  ·have he' : a[k] = b[k] := by simpa using he
   have hI : InvSm a b a.length ((k + 1 : Nat) : Int) := ⟨by omega, by omega, rfl, h3, h4⟩
   refine ⟨hI, by omega, hI, ?_⟩
   rw [he'] at hq
   have e : (b[k] :: List.drop (k + 1) a == b[k] :: List.drop (k + 1) b) = (List.drop (k + 1) a == List.drop (k + 1) b) := by rw [List.cons_beq_cons, beq_self_eq_true, Bool.true_and]
   rw [e] at hq
   exact hq
 ·have hk : ¬ (k : Int) < (a.length : Int) := of_decide_eq_false hi
  have da : List.drop k a = [] := List.drop_of_length_le (by omega)
  have db : List.drop k b = [] := List.drop_of_length_le (by omega)
  rw [da, db] at hq
  exact hq.1 rfl
theorem loopSm : Does Tryz.prog (.loop (loopF Tryz.f14 0)) ptSm.M ptSm FSm := by
 refine Does.loop (n := 26) (id := 0) semSm (inv := fun x => InvSm x.1.1 x.1.2.1 x.1.2.2.1 x.1.2.2.2.1) (μ := fun x => (x.1.2.2.1 - x.1.2.2.2.1).toNat) ?_ (fun x Q h => h.1)
 rintro ⟨⟨a, b, n, i, _⟩, _⟩ hinv Q hq
 exact lawSm a b n i hinv Q hq.2
def cSame17 : Ct := ⟨[.d ints, .d ints], [.bool], fun x => (List.beq (α := Int) x.1 x.2.1, ()), fun _ => []⟩
def frSame (x : denP [.d ints, .d ints]) : Fr (denL [.bool]) :=
 let a : List Int := x.1; let b : List Int := x.2.1
 Fr.br ((a.length : Int) != (b.length : Int)) (Fr.val (false, ()))
  (Fr.need (InvSm a b a.length 0) (Fr.br (List.drop (0 : Int).toNat a == List.drop (0 : Int).toNat b) (Fr.val (true, ())) (Fr.val (false, ()))))
theorem same17_run : SoundCt Tryz.prog 14 ⟨[.d ints, .d ints], [.bool], fun xs => (frSame xs).get, fun xs => [(frSame xs).ok]⟩ :=
 fn_sound CSm_ok (Λ := fun _ => ptSm.han CSm.Γ ptSm.M FSm) (fn := Tryz.f14) (fr := frSame) (ps := [.d ints, .d ints]) (rs := [.bool]) ([], [], ()) (by kernel_rfl)
  (fun c E hc => lam1f hc (by kernel_rfl) (b := loopF Tryz.f14 0) (by kernel_rfl) (Does.han CSm_ok rfl loopSm)) (fun x => by kernel_rfl)
theorem same17_eq (a b : List Int) (ha : (a.length : Int) <= 9223372036854775807) : (frSame (a, b, ())).ok /\ (frSame (a, b, ())).get = (List.beq a b, ()) := by
 have hb : List.beq a b = (a == b) := rfl
 rw [hb]
 by_cases h1 : a.length = b.length
 ·refine Fr.br_f (by simp [h1]) (Fr.need_ ⟨Int.le_refl _, by omega, rfl, h1, ha⟩ ?_)
  by_cases h2 : a = b
  ·subst h2
   exact Fr.br_t (by simp) ⟨trivial, by simp [Fr.get]⟩
  ·exact Fr.br_f (by simpa using h2) ⟨trivial, by simp [Fr.get, h2]⟩
 ·have h2 : a ≠ b := fun e => h1 (congrArg _ e)
  exact Fr.br_t (by simpa using fun e : (a.length : Int) = b.length => h1 (by omega)) ⟨trivial, by simp [Fr.get, h2]⟩
theorem same17_ok : SoundCt Tryz.prog 14 cSame17 :=
 convF same17_run _ _ (fun w F x vs hr hok => by
  obtain ⟨a, b, _⟩ := x
  obtain ⟨v, vs', rfl, hv, _⟩ := hr
  exact same17_eq a b (len_big (RepT.wf hv.2.2).1))
def Hn : histT.den := (1, 1, ((1, 101, ()), (0, 1000, 0, 0, ()), [(1, 10, 10, 0, 10000, ())], ()), [(60, 41, 3, (0, 0, 0, 0, ()), [], 0, ())], ())
def Tn : tarT.den := ([(1, (100, 100, 100, 100, ()), [], [10000], [10000, 10000, 10000, 10000, 10000, 10000, 10000, 10000], 1, ())], ())
noncomputable def CPn : Cx := cx [] []
theorem CPn_ok : CxOK Tryz.prog CPn := cx_ok (cs := []) (ps := []) mixed trivial trivial
def cPlain17 : Ct := ⟨[], [histT, tarT], fun _ => (Hn, Tn, ()), fun _ => []⟩
theorem plain17_ok : SoundCt Tryz.prog 32 cPlain17 :=
 convF (fn_sound CPn_ok (Λ := lam0) (fn := Tryz.f32) (fr := fun _ => Fr.val (Hn, Tn, ())) (ps := []) (rs := [histT, tarT]) () (by kernel_rfl) (fun c E _ => lam0_ok c 0) (fun x => by kernel_rfl)) _ _ (fun _ _ _ _ _ _ => ⟨trivial, rfl⟩)
noncomputable def CAl17 : Cx := cx [(32, cPlain17), (12, cCov), (33, cClaim), (14, cSame17), (15, cWhy)] []
theorem CAl17_ok : CxOK Tryz.prog CAl17 := cx_ok (ps := []) mixed ⟨plain17_ok, cov_ok, nRight_ok, same17_ok, why_ok, trivial⟩ trivial
def Cn : List claimT.den := [(1, 1, 1, 50, 61, 0, ()), (1, 1, 2, 50, 55, 0, ()), (1, 2, 1, 50, 55, 0, ()), (1, 1, 1, 50, 49, 0, ()), (0, 0, 0, 0, 0, 0, ())]
def no1 : Fr (denL [.bool]) := Fr.val (false, ())
def frAl17 (_ : denP []) : Fr (denL [.bool]) :=
 Fr.need (fewH Hn) (Fr.need (fewT Tn) (Fr.need (fewH Hn) (Fr.need (fewT Tn) (Fr.need (List.length (α := claimT.den) Cn <= 1000000)
  (Fr.br ((covF Hn Tn (1, 1, 1, 50, 55, 0, ())).1.2.1 == 10) (Fr.br ((covF Hn Tn (1, 1, 1, 50, 55, 0, ())).2 == 0) (Fr.br (List.beq (whyL Hn Tn Cn) [11, 11, 7, 4, 1])
   (Fr.br (claimB 1 1 0 1 1 0) (Fr.val (!(claimB 0 0 0 0 0 0), ())) no1) no1) no1) no1)))))
theorem al17_run : SoundCt Tryz.prog 11 ⟨[], [.bool], fun xs => (frAl17 xs).get, fun xs => [(frAl17 xs).ok]⟩ :=
 fn_sound CAl17_ok (Λ := lam0) (fn := Tryz.f11) (fr := frAl17) (ps := []) (rs := [.bool]) () (by kernel_rfl) (fun c E _ => lam0_ok c 0) (fun x => by kernel_rfl)
def cYes17 : Ct := ⟨[], [.bool], fun _ => (true, ()), fun _ => []⟩
def cLaw17 (ps : List PT) : Ct := ⟨ps, [.bool], fun _ => (true, ()), fun _ => []⟩
theorem fewHn : fewH Hn := ⟨by decide, by decide, fun c hc => by
 have e : chL Hn = [(60, 41, 3, (0, 0, 0, 0, ()), [], 0, ())] := rfl
 rw [e, List.mem_singleton] at hc
 subst hc
 exact Nat.zero_le _⟩
theorem fewTn : fewT Tn := by
 refine ⟨by decide, fun v hv => ?_⟩
 simp only [Tn, List.mem_cons, List.not_mem_nil, or_false] at hv
 subst hv
 exact ⟨by decide, by decide, by decide⟩
theorem val_c1 : covF Hn Tn (1, 1, 1, 50, 55, 0, ()) = ((1, 10, 10, 0, 10000, ()), 0) := by kernel_rfl
theorem val_w : whyL Hn Tn Cn = [11, 11, 7, 4, 1] := by kernel_rfl
theorem alive17_ok : SoundCt Tryz.prog 11 cYes17 :=
 convF al17_run _ _ (fun _ _ _ _ _ _ => by
  refine Fr.need_ fewHn (Fr.need_ fewTn (Fr.need_ fewHn (Fr.need_ fewTn (Fr.need_ (by decide) ?_))))
  rw [val_c1, val_w]
  exact Fr.br_t rfl (Fr.br_t rfl (Fr.br_t (by decide) (Fr.br_t (by decide) ⟨trivial, rfl⟩))))
def h00 : histT.den := (0, 0, ((0, 0, ()), (0, 0, 0, 0, ()), [], ()), [], ())
theorem room_mil {n m : Nat} (h : n + m <= 1000000) : roomC n m := by
 refine ⟨by unfold maxLen; omega, Nat.le_trans (Nat.mul_le_mul h changeBytes) (by decide)⟩
noncomputable def CR0 : Cx := cx [] []
theorem CR0_ok : CxOK Tryz.prog CR0 := cx_ok (cs := []) (ps := []) mixed trivial trivial
abbrev ptFR : Pt := ⟨25, 0, ⟨[(0, .d (.sl coverT)), (1, .d i64), (6, .d i64)], [.x 4 40 coverT, .r 4 4 0]⟩, ⟨[], [.x 4 40 coverT, .r 4 4 0]⟩, ⟨[(5, .d .bool)], [.x 4 40 coverT, .r 4 4 0]⟩⟩
def frFR (z : ptFR.M.X) : Fr ptFR.Out :=
 let l : List coverT.den := z.1.1; let p : Int := z.1.2.1; let i : Int := z.1.2.2.1; let o : coverT.den := z.2.1
 let e : coverT.den := l.getD i.toNat coverT.dflt
 Fr.br (decide (i < (l.length : Int)))
  (Fr.need (0 <= i /\ i < (l.length : Int)) (Fr.br (e.1 == p) (Fr.need (0 <= i /\ i < (l.length : Int)) (Fr.val (Rd.back ((true, ()), (e, ()))))) (Fr.val (Rd.next ((l, p, IntKind.i64.wrap (i + 1), ()), (o, ()))))))
  (Fr.val (Rd.out ((), (o, ()))))
theorem semFR : Does Tryz.prog (loopF Tryz.f42 0) ptFR.M ptFR frFR := Does.of_run CR0_ok (bs := 0) (Λ := lam0) rfl rfl rfl (fun _ => lam0_ok _ 0) (fun x => by kernel_rfl)
structure InFR (i : Int) (l : List coverT.den) : Prop where
 i0 : 0 <= i
 il : i <= l.length
 big : (l.length : Int) <= 9223372036854775807
def outFR (o : coverT.den) (r : coverT.den × Bool) : Fr ptFR.Out := Fr.br r.2 (Fr.val (Rd.back ((true, ()), (r.1, ())))) (Fr.val (Rd.out ((), (o, ()))))
def FFR (z : ptFR.M.X) : Fr ptFR.Out := Fr.need (InFR z.1.2.2.1 z.1.1) (outFR z.2.1 (findP z.1.2.1 (List.drop (α := coverT.den) z.1.2.2.1.toNat z.1.1)))
theorem lawFR (l : List coverT.den) (p i : Int) (o : coverT.den) (hinv : InFR i l) (Q : ptFR.Out -> Prop) (hq : (outFR o (findP p (l.drop i.toNat))).satP Q) : (frFR ((l, p, i, ()), (o, ()))).satP fun
   | .next x' => InFR x'.1.2.2.1 x'.1.1 /\ ((List.length (α := coverT.den) x'.1.1 : Int) - x'.1.2.2.1).toNat < ((l.length : Int) - i).toNat /\ (FFR x').satP Q
   | .out y => Q (.out y)
   | .back z => Q (.back z)
   | .pan p => Q (.pan p) := by
 obtain ⟨h0, h1, h4⟩ := hinv
 obtain ⟨k, rfl⟩ : ∃ k : Nat, i = k := ⟨i.toNat, by omega⟩
 dsimp only [frFR, Fr.satP]
 rw [Int.toNat_natCast] at hq ⊢
 refine ⟨fun hi => ?_, fun hi => ?_⟩
 ·have hk : k < l.length := by have : (k : Int) < (l.length : Int) := of_decide_eq_true hi; omega
  have w1 : IntKind.i64.wrap ((k : Int) + 1) = ((k + 1 : Nat) : Int) := by rw [i64w (by omega)]; omega
  have ea : l.getD k coverT.dflt = l[k] := by rw [List.getD_eq_getElem?_getD, List.getElem?_eq_getElem hk]; rfl
  rw [List.drop_eq_getElem_cons hk] at hq
  rw [ea, w1]
  refine ⟨⟨by omega, by omega⟩, fun hb => ?_, fun hb => ?_⟩
  ·have hb' : l[k].1 = p := beq_iff_eq.1 hb
   have e : findP p (l[k] :: l.drop (k + 1)) = (l[k], true) := if_pos hb'
   rw [e] at hq
   exact ⟨⟨by omega, by omega⟩, hq.1 rfl⟩
  ·have hb' : ¬ l[k].1 = p := beq_eq_false_iff_ne.1 hb
   have e : findP p (l[k] :: l.drop (k + 1)) = findP p (l.drop (k + 1)) := if_neg hb'
   rw [e] at hq
   have hI : InFR ((k + 1 : Nat) : Int) l := ⟨by omega, by omega, h4⟩
   exact ⟨hI, by omega, hI, hq⟩
 ·have hk : ¬ (k : Int) < (l.length : Int) := of_decide_eq_false hi
  have : l.drop k = [] := List.drop_eq_nil_of_le (by omega)
  rw [this] at hq
  exact hq.2 rfl
theorem loopFR : Does Tryz.prog (.loop (loopF Tryz.f42 0)) ptFR.M ptFR FFR := by
 refine Does.loop (n := 25) (id := 0) semFR (inv := fun x => InFR x.1.2.2.1 x.1.1) (μ := fun x => ((List.length (α := coverT.den) x.1.1 : Int) - x.1.2.2.1).toNat) ?_ (fun x Q h => h.1)
 rintro ⟨⟨l, p, i, _⟩, o, _⟩ hinv Q hq
 exact lawFR l p i o hinv Q hq.2
def frFindR (x : denP [.d (.sl coverT), .d i64]) : Fr (denL [coverT, .bool]) :=
 let l : List coverT.den := x.1; let p : Int := x.2.1
 Fr.need (InFR 0 l) (Fr.br (findP p (l.drop (0 : Int).toNat)).2 (Fr.val ((findP p (l.drop (0 : Int).toNat)).1, true, ())) (Fr.val (noCover, false, ())))
theorem findR_ok : SoundCt Tryz.prog 42 cFind :=
 convF (fn_sound CR0_ok (Λ := fun _ => ptFR.han CR0.Γ ptFR.M FFR) (fn := Tryz.f42) (fr := frFindR) (ps := [.d (.sl coverT), .d i64]) (rs := [coverT, .bool]) ([], 0, ()) (by kernel_rfl)
  (fun c E hc => lam1f hc (by kernel_rfl) (b := loopF Tryz.f42 0) (by kernel_rfl) (Does.han CR0_ok rfl loopFR)) (fun x => by kernel_rfl)) _ _
  (fun w F x vs hr _ => by
   obtain ⟨l, p, _⟩ := x
   obtain ⟨v1, vs1, rfl, h1, _⟩ := hr
   have hlen : (List.length (α := coverT.den) l : Int) <= 9223372036854775807 := (len_big (RepT.wf h1.2.2).1)
   have hI : InFR 0 l := ⟨Int.le_refl _, Int.natCast_nonneg _, hlen⟩
   refine Fr.need_ hI ?_
   show (Fr.br (findP p l).2 (Fr.val ((findP p l).1, true, ())) (Fr.val (noCover, false, ())) : Fr (denL [coverT, .bool])).ok /\ (Fr.br (findP p l).2 (Fr.val ((findP p l).1, true, ())) (Fr.val (noCover, false, ())) : Fr (denL [coverT, .bool])).get = ((findP p l).1, (findP p l).2, ())
   cases hf : (findP p l).2 with
   | true => exact Fr.br_t rfl ⟨trivial, rfl⟩
   | false =>
    rw [findP_none hf]
    exact Fr.br_f rfl ⟨trivial, rfl⟩)
abbrev fsK : List YF := [(none, i64), (none, i64), (none, i64), (none, i64), (none, i64), (none, i64), (none, i64), (none, i64), (none, .sl coverT), (some 53, changeT)]
def chsK (y : denY fsK) : List changeT.den := y.2.2.2.2.2.2.2.2.2.1
def setK (y : denY fsK) (l : List changeT.den) : denY fsK := (y.1, y.2.1, y.2.2.1, y.2.2.2.1, y.2.2.2.2.1, y.2.2.2.2.2.1, y.2.2.2.2.2.2.1, y.2.2.2.2.2.2.2.1, y.2.2.2.2.2.2.2.2.1, l, ())
abbrev ptAR : Pt := ⟨46, 0, ⟨[(1, .d i64), (7, .d i64)], [.x 2 31 histT, .r 2 2 0, .x 4 31 histT, .r 4 4 0, .y 6 31 fsK, .r 6 6 0]⟩, ⟨[], [.x 4 31 histT, .r 4 4 0, .y 6 31 fsK, .r 6 6 0]⟩, ⟨[], []⟩⟩
def frAR (x : ptAR.M.X) : Fr ptAR.Out :=
 let d : Int := x.1.1; let i : Int := x.1.2.1; let h : histT.den := x.2.1; let z : histT.den := x.2.2.1; let y : denY fsK := x.2.2.2.1
 let l : List changeT.den := h.2.2.2.1; let c : changeT.den := l.getD i.toNat changeT.dflt
 Fr.br (decide (i < (l.length : Int)))
  (Fr.need (0 <= i /\ i < (l.length : Int)) (Fr.br (decide (c.1 <= d))
   (Fr.need (0 <= i /\ i < (l.length : Int)) (Fr.need (roomC (chsK y).length (List.length [c])) (Fr.val (Rd.next ((d, IntKind.i64.wrap (i + 1), ()), (h, z, setK y (chsK y ++ [c]), ()))))))
   (Fr.val (Rd.next ((d, IntKind.i64.wrap (i + 1), ()), (h, z, y, ()))))))
  (Fr.val (Rd.out ((), (z, y, ()))))
theorem semAR : Does Tryz.prog (loopF Tryz.f69 0) ptAR.M ptAR frAR := Does.of_run CR0_ok (bs := 0) (Λ := lam0) rfl rfl rfl (fun _ => lam0_ok _ 0) (fun x => by kernel_rfl)
structure InAR (d i : Int) (l : List changeT.den) (y : denY fsK) : Prop where
 i0 : 0 <= i
 il : i <= l.length
 few : l.length <= 500000
 yy : chsK y = uptoB d (l.take i.toNat)
def FAR (x : ptAR.M.X) : Fr ptAR.Out := Fr.need (InAR x.1.1 x.1.2.1 x.2.1.2.2.2.1 x.2.2.2.1) (Fr.val (Rd.out ((), (x.2.2.1, setK x.2.2.2.1 (uptoB x.1.1 x.2.1.2.2.2.1), ()))))
theorem lawAR (d i : Int) (h z : histT.den) (y : denY fsK) (hinv : InAR d i h.2.2.2.1 y) (Q : ptAR.Out -> Prop) (hq : Q (Rd.out ((), (z, setK y (uptoB d h.2.2.2.1), ())))) : (frAR ((d, i, ()), (h, z, y, ()))).satP fun
   | .next x' => InAR x'.1.1 x'.1.2.1 x'.2.1.2.2.2.1 x'.2.2.2.1 /\ ((List.length (α := changeT.den) x'.2.1.2.2.2.1 : Int) - x'.1.2.1).toNat < ((List.length (α := changeT.den) h.2.2.2.1 : Int) - i).toNat /\ (FAR x').satP Q
   | .out y => Q (.out y)
   | .back z => Q (.back z)
   | .pan p => Q (.pan p) := by
 obtain ⟨h0, h1, h4, h5⟩ := hinv
 obtain ⟨k, rfl⟩ : ∃ k : Nat, i = k := ⟨i.toNat, by omega⟩
 dsimp only [frAR, Fr.satP]
 rw [Int.toNat_natCast] at h5 ⊢
 obtain ⟨l, hl⟩ : ∃ l : List changeT.den, h.2.2.2.1 = l := ⟨_, rfl⟩
 rw [hl] at h1 h4 h5 hq ⊢
 refine ⟨fun hi => ?_, fun hi => ?_⟩
 ·have hk : k < l.length := by have : (k : Int) < (l.length : Int) := of_decide_eq_true hi; omega
  have w1 : IntKind.i64.wrap ((k : Int) + 1) = ((k + 1 : Nat) : Int) := by rw [i64w (by omega)]; omega
  have ea : l.getD k changeT.dflt = l[k] := by rw [List.getD_eq_getElem?_getD, List.getElem?_eq_getElem hk]; rfl
  have ht : uptoB d (l.take (k + 1)) = uptoB d (l.take k) ++ (if l[k].1 <= d then [l[k]] else []) := by
   unfold uptoB
   rw [List.take_add_one, List.filter_append, List.getElem?_eq_getElem hk]
   by_cases hc : l[k].1 <= d <;> simp [hc]
  have hlen : (uptoB d (l.take k)).length <= 500000 := by
   have e1 := List.length_filter_le (fun x : changeT.den => decide (x.1 <= d)) (l.take k)
   have e2 : (l.take k).length <= l.length := by rw [List.length_take]; omega
   unfold uptoB
   omega
  rw [ea, w1]
  refine ⟨⟨by omega, by omega⟩, fun hb => ?_, fun hb => ?_⟩
  ·have hc : l[k].1 <= d := of_decide_eq_true hb
   rw [if_pos hc] at ht
   have hI : InAR d ((k + 1 : Nat) : Int) l (setK y (chsK y ++ [l[k]])) := ⟨by omega, by omega, h4, by rw [Int.toNat_natCast, ht, ← h5]; rfl⟩
   refine ⟨⟨by omega, by omega⟩, room_mil (by rw [h5]; show _ + 1 <= 1000000; omega), ?_⟩
   exact ⟨hI, by omega, by rw [hl]; exact hI, by rw [hl]; exact hq⟩
  ·have hc : ¬ l[k].1 <= d := of_decide_eq_false hb
   rw [if_neg hc, List.append_nil] at ht
   have hI : InAR d ((k + 1 : Nat) : Int) l y := ⟨by omega, by omega, h4, by rw [Int.toNat_natCast, ht, ← h5]⟩
   exact ⟨hI, by omega, by rw [hl]; exact hI, by rw [hl]; exact hq⟩
 ·have hk : ¬ (k : Int) < (l.length : Int) := of_decide_eq_false hi
  rw [List.take_of_length_le (by omega)] at h5
  have e : setK y (uptoB d l) = y := by rw [← h5]; rfl
  rw [e] at hq
  exact hq
theorem loopAR : Does Tryz.prog (.loop (loopF Tryz.f69 0)) ptAR.M ptAR FAR := by
 refine Does.loop (n := 46) (id := 0) semAR (inv := fun x => InAR x.1.1 x.1.2.1 x.2.1.2.2.2.1 x.2.2.2.1) (μ := fun x => ((List.length (α := changeT.den) x.2.1.2.2.2.1 : Int) - x.1.2.1).toNat) ?_ (fun x Q h => h.1)
 rintro ⟨⟨d, i, _⟩, h, z, y, _⟩ hinv Q hq
 exact lawAR d i h z y hinv Q hq.2
noncomputable def CT2 : Cx := cx [] []
theorem CT2_ok : CxOK Tryz.prog CT2 := cx_ok (cs := []) (ps := []) mixed trivial trivial
def MT2 : LS := ⟨[(0, .d i64), (9, .d u64), (10, .d u64), (11, .d u64), (12, .d u64), (13, .d u64), (14, .d i64)], []⟩
def ptT2 : Pt := ⟨66, 0, MT2, ⟨[(9, .d u64), (10, .d u64)], []⟩, ⟨[(6, .d i64), (7, .d i64), (8, .d .bool)], []⟩⟩
abbrev wU2 (n : Int) : Int := IntKind.u64.wrap n
def jT (a by_ wh re k q l : Int) : Fr ptT2.Out :=
 Fr.br (decide (q > 4000000000000000000)) (Fr.val (Rd.back ((0, 0, false, ()), ()))) (Fr.val (Rd.next ((a, q, l, by_, wh, re, IntKind.i64.wrap (k - 1), ()), ())))
def kT (a by_ wh re k q l : Int) : Fr ptT2.Out :=
 Fr.need (¬ k < 0) (Fr.need ((2 : Int) ≠ 0)
  (Fr.br ((a.fdiv (2 ^ min k.toNat IntKind.i64.bits)).tmod 2 == 1)
   (Fr.br (decide (wU2 (l + re) ≥ by_)) (jT a by_ wh re k (wU2 (wU2 (q + wh) + 1)) (wU2 (wU2 (l + re) - by_))) (jT a by_ wh re k (wU2 (q + wh)) (wU2 (l + re))))
   (jT a by_ wh re k q l)))
def fT2 (x : MT2.X) : Fr ptT2.Out :=
 let a : Int := x.1.1; let q : Int := x.1.2.1; let l : Int := x.1.2.2.1; let by_ : Int := x.1.2.2.2.1; let wh : Int := x.1.2.2.2.2.1; let re : Int := x.1.2.2.2.2.2.1; let k : Int := x.1.2.2.2.2.2.2.1
 Fr.br (decide (k ≥ 0))
  (Fr.br (decide (wU2 (2 * l) ≥ by_)) (kT a by_ wh re k (wU2 (wU2 (2 * q) + 1)) (wU2 (wU2 (2 * l) - by_))) (kT a by_ wh re k (wU2 (2 * q)) (wU2 (2 * l))))
  (Fr.val (Rd.out ((q, l, ()), ())))
theorem semT2 : Does Tryz.prog (loopF Tryz.f99 0) MT2 ptT2 fT2 := Does.of_run CT2_ok (bs := 0) rfl rfl rfl (fun _ => lam0_ok _ 0) (fun x => by kernel_rfl)
structure InvT (a q l by_ wh re k : Int) : Prop where
 a0 : 0 <= a /\ a <= 9223372036854775807
 c0 : 0 < by_ /\ by_ <= 9223372036854775807
 w0 : 0 <= wh /\ wh <= 9223372036854775807
 r0 : 0 <= re /\ re < by_
 k0 : -1 <= k /\ k <= 62
 l0 : 0 <= l /\ l < by_
 q0 : 0 <= q /\ q <= 4000000000000000000
 eq : q * by_ + l = (a / 2 ^ (k + 1).toNat) * (wh * by_ + re)
def twoF (a b c : Int) : Int × Int × Bool := if a * b / c > 4000000000000000000 then (0, 0, false) else (a * b / c, a * b % c, true)
def FT2 (x : MT2.X) : Fr ptT2.Out :=
 let a : Int := x.1.1; let q : Int := x.1.2.1; let l : Int := x.1.2.2.1; let by_ : Int := x.1.2.2.2.1; let wh : Int := x.1.2.2.2.2.1; let re : Int := x.1.2.2.2.2.2.1; let k : Int := x.1.2.2.2.2.2.2.1
 Fr.need (InvT a q l by_ wh re k) (Fr.br (decide (a * (wh * by_ + re) / by_ > 4000000000000000000)) (Fr.val (Rd.back ((0, 0, false, ()), ()))) (Fr.val (Rd.out ((a * (wh * by_ + re) / by_, a * (wh * by_ + re) % by_, ()), ()))))
theorem half_pow {a : Int} (ha : 0 <= a) (n : Nat) : a / 2 ^ n = 2 * (a / 2 ^ (n + 1)) + (a / 2 ^ n) % 2 := by
 have : a / 2 ^ (n + 1) = a / 2 ^ n / 2 := by
  rw [Int.pow_succ, Int.ediv_ediv_of_nonneg (by exact Int.pow_nonneg (by decide))]
 rw [this]
 omega
theorem div_uniq {p c q l : Int} (hc : 0 < c) (h : q * c + l = p) (hl : 0 <= l /\ l < c) : p / c = q /\ p % c = l := by
 subst h
 constructor
 ·rw [Int.add_comm, Int.add_mul_ediv_right _ _ (by omega), Int.ediv_eq_zero_of_lt hl.1 hl.2]
  omega
 ·rw [Int.add_comm, Int.add_mul_emod_self_right]
  exact Int.emod_eq_of_lt hl.1 hl.2
theorem two_step {q l c wh re m A bit q1 l1 : Int} (hm : m = 2 * A + bit) (heq : q * c + l = A * (wh * c + re)) (h1 : (l1 = 2 * l /\ q1 = 2 * q) ∨ (l1 = 2 * l - c /\ q1 = 2 * q + 1)) :
  (bit = 0 -> q1 * c + l1 = m * (wh * c + re)) /\ (bit = 1 -> (q1 + wh) * c + (l1 + re) = m * (wh * c + re) /\ (q1 + wh + 1) * c + (l1 + re - c) = m * (wh * c + re)) := by
 subst hm
 have e : q1 * c + l1 = 2 * (q * c + l) := by
  rcases h1 with ⟨rfl, rfl⟩ | ⟨rfl, rfl⟩ <;> grind
 rw [heq] at e
 refine ⟨fun hb => ?_, fun hb => ⟨?_, ?_⟩⟩
 ·subst hb
  grind
 ·subst hb
  grind
 ·subst hb
  grind
def PhiT (Q : ptT2.Out -> Prop) (k : Int) : Rd MT2.X ptT2.E.X ptT2.R.X -> Prop
 | .next x' => InvT x'.1.1 x'.1.2.1 x'.1.2.2.1 x'.1.2.2.2.1 x'.1.2.2.2.2.1 x'.1.2.2.2.2.2.1 x'.1.2.2.2.2.2.2.1 /\ ((x'.1.2.2.2.2.2.2.1 : Int) + 1).toNat < (k + 1).toNat /\ (FT2 x').satP Q
 | .out y => Q (.out y)
 | .back z => Q (.back z)
 | .pan p => Q (.pan p)
theorem jT_sat {a q l c wh re k : Int} {Q : ptT2.Out -> Prop} (ha : 0 <= a /\ a <= 9223372036854775807) (hc : 0 < c /\ c <= 9223372036854775807) (hw : 0 <= wh /\ wh <= 9223372036854775807) (hr : 0 <= re /\ re < c) (hk : 0 <= k /\ k <= 62) (hl : 0 <= l /\ l < c) (hq : 0 <= q)
  (heq : q * c + l = (a / 2 ^ k.toNat) * (wh * c + re)) (hQ : (Fr.br (decide (a * (wh * c + re) / c > 4000000000000000000)) (Fr.val (Rd.back ((0, 0, false, ()), ()))) (Fr.val (Rd.out ((a * (wh * c + re) / c, a * (wh * c + re) % c, ()), ()))) : Fr ptT2.Out).satP Q) :
  (jT a c wh re k q l).satP (PhiT Q k) := by
 have w : IntKind.i64.wrap (k - 1) = k - 1 := IntWalk.i64_in _ (by omega)
 have hB : 0 <= wh * c + re := Int.add_nonneg (Int.mul_nonneg hw.1 (Int.le_of_lt hc.1)) hr.1
 have hm : a / 2 ^ k.toNat <= a := Int.ediv_le_self _ ha.1
 have hp : (a / 2 ^ k.toNat) * (wh * c + re) <= a * (wh * c + re) := Int.mul_le_mul_of_nonneg_right hm hB
 unfold jT
 rw [w]
 refine ⟨fun h => ?_, fun h => ?_⟩
 ·have h' : q > 4000000000000000000 := of_decide_eq_true h
  have hge : q <= a * (wh * c + re) / c := by
   rw [Int.le_ediv_iff_mul_le hc.1]
   omega
  exact hQ.1 (decide_eq_true (by omega))
 ·have h' : q <= 4000000000000000000 := Int.not_lt.1 (of_decide_eq_false h)
  have hk1 : (k - 1 + 1).toNat = k.toNat := by omega
  have hI : InvT a q l c wh re (k - 1) := ⟨ha, hc, hw, hr, by omega, hl, ⟨hq, h'⟩, by rw [hk1]; exact heq⟩
  exact ⟨hI, (by show (k - 1 + 1).toNat < (k + 1).toNat; omega), hI, hQ⟩
theorem kT_sat {a q l c wh re k q1 l1 : Int} {Q : ptT2.Out -> Prop} (hinv : InvT a q l c wh re k) (hk : 0 <= k) (h1 : (l1 = 2 * l /\ q1 = 2 * q) ∨ (l1 = 2 * l - c /\ q1 = 2 * q + 1)) (hl1 : 0 <= l1 /\ l1 < c)
  (hQ : (Fr.br (decide (a * (wh * c + re) / c > 4000000000000000000)) (Fr.val (Rd.back ((0, 0, false, ()), ()))) (Fr.val (Rd.out ((a * (wh * c + re) / c, a * (wh * c + re) % c, ()), ()))) : Fr ptT2.Out).satP Q) :
  (kT a c wh re k q1 l1).satP (PhiT Q k) := by
 obtain ⟨ha, hc, hw, hr, hk0, hl, hq, heq⟩ := hinv
 have hq1 : 0 <= q1 /\ q1 <= 8000000000000000001 := by omega
 have hmin : min k.toNat IntKind.i64.bits = k.toNat := by
  have : IntKind.i64.bits = 64 := rfl
  omega
 have hm0 : 0 <= a / 2 ^ k.toNat := Int.ediv_nonneg ha.1 (Int.pow_nonneg (by decide))
 have hshr : (a.fdiv (2 ^ min k.toNat IntKind.i64.bits)).tmod 2 = (a / 2 ^ k.toNat) % 2 := by
  rw [hmin, Int.fdiv_eq_ediv_of_nonneg _ (Int.pow_nonneg (by decide)), Int.tmod_eq_emod_of_nonneg hm0]
 have hkk : (k + 1).toNat = k.toNat + 1 := by omega
 rw [hkk] at heq
 have hhalf := half_pow ha.1 k.toNat
 obtain ⟨s0, s1⟩ := two_step (m := a / 2 ^ k.toNat) (bit := (a / 2 ^ k.toNat) % 2) hhalf heq h1
 unfold kT
 rw [hshr]
 refine ⟨by omega, by decide, fun hb => ?_, fun hb => ?_⟩
 ·have hb' : (a / 2 ^ k.toNat) % 2 = 1 := eq_of_beq (α := Int) hb
  obtain ⟨t1, t2⟩ := s1 hb'
  have e1 : wU2 (l1 + re) = l1 + re := u64w (by omega)
  have e2 : wU2 (q1 + wh) = q1 + wh := u64w (by omega)
  have e3 : wU2 (q1 + wh + 1) = q1 + wh + 1 := u64w (by omega)
  rw [e1, e2, e3]
  refine ⟨fun hg => ?_, fun hg => ?_⟩
  ·have hg' : l1 + re ≥ c := of_decide_eq_true hg
   have e4 : wU2 (l1 + re - c) = l1 + re - c := u64w (by omega)
   rw [e4]
   exact jT_sat ha hc hw hr ⟨hk, hk0.2⟩ (by omega) (by omega) t2 hQ
  ·have hg' : l1 + re < c := Int.not_le.1 (of_decide_eq_false hg)
   exact jT_sat ha hc hw hr ⟨hk, hk0.2⟩ (by omega) (by omega) t1 hQ
 ·have hb' : ¬ (a / 2 ^ k.toNat) % 2 = 1 := ne_of_beq_false (α := Int) hb
  exact jT_sat ha hc hw hr ⟨hk, hk0.2⟩ hl1 hq1.1 (s0 (by omega)) hQ
theorem lawT2 {a q l c wh re k : Int} (hinv : InvT a q l c wh re k) (Q : ptT2.Out -> Prop)
  (hQ : (Fr.br (decide (a * (wh * c + re) / c > 4000000000000000000)) (Fr.val (Rd.back ((0, 0, false, ()), ()))) (Fr.val (Rd.out ((a * (wh * c + re) / c, a * (wh * c + re) % c, ()), ()))) : Fr ptT2.Out).satP Q) :
  (fT2 ((a, q, l, c, wh, re, k, ()), ())).satP (PhiT Q k) := by
 have hi := hinv
 obtain ⟨ha, hc, hw, hr, hk0, hl, hq, heq⟩ := hinv
 have e1 : wU2 (2 * l) = 2 * l := u64w (by omega)
 have e2 : wU2 (2 * q) = 2 * q := u64w (by omega)
 have e3 : wU2 (2 * q + 1) = 2 * q + 1 := u64w (by omega)
 dsimp only [fT2]
 rw [e1, e2, e3]
 refine ⟨fun hk => ?_, fun hk => ?_⟩
 ·have hk' : k ≥ 0 := of_decide_eq_true hk
  refine ⟨fun hg => ?_, fun hg => ?_⟩
  ·have hg' : 2 * l ≥ c := of_decide_eq_true hg
   have e4 : wU2 (2 * l - c) = 2 * l - c := u64w (by omega)
   rw [e4]
   exact kT_sat hi hk' (.inr ⟨rfl, rfl⟩) (by omega) hQ
  ·have hg' : 2 * l < c := Int.not_le.1 (of_decide_eq_false hg)
   exact kT_sat hi hk' (.inl ⟨rfl, rfl⟩) (by omega) hQ
 ·have hk' : ¬ k ≥ 0 := of_decide_eq_false hk
  have hk1 : (k + 1).toNat = 0 := by omega
  rw [hk1, Int.pow_zero, Int.ediv_one] at heq
  obtain ⟨d1, d2⟩ := div_uniq hc.1 heq hl
  rw [d1, d2] at hQ
  exact hQ.2 (decide_eq_false (by omega))
theorem loopT2 : Does Tryz.prog (.loop (loopF Tryz.f99 0)) MT2 ptT2 FT2 := by
 refine Does.loop (n := 66) (id := 0) semT2 (inv := fun x => InvT x.1.1 x.1.2.1 x.1.2.2.1 x.1.2.2.2.1 x.1.2.2.2.2.1 x.1.2.2.2.2.2.1 x.1.2.2.2.2.2.2.1) (μ := fun x => ((x.1.2.2.2.2.2.2.1 : Int) + 1).toNat) ?_ (fun x Q h => h.1)
 rintro ⟨⟨a, q, l, c, wh, re, k, _⟩, _⟩ hinv Q hq
 exact lawT2 hinv Q hq.2
def cTwo : Ct := ⟨[.d i64, .d i64, .d i64], [i64, i64, .bool], fun x => ((twoF x.1 x.2.1 x.2.2.1).1, (twoF x.1 x.2.1 x.2.2.1).2.1, (twoF x.1 x.2.1 x.2.2.1).2.2, ()), fun x => [0 <= x.1, 0 <= x.2.1, 0 < x.2.2.1]⟩
def frTwo (x : denP [.d i64, .d i64, .d i64]) : Fr (denL [i64, i64, .bool]) :=
 let a : Int := x.1; let b : Int := wU2 x.2.1; let c : Int := wU2 x.2.2.1
 Fr.need (c ≠ 0) (Fr.need (c ≠ 0)
  (Fr.need (InvT a 0 0 c (wU2 (b.tdiv c)) (b.tmod c) 62)
   (Fr.br (decide (a * (wU2 (b.tdiv c) * c + b.tmod c) / c > 4000000000000000000)) (Fr.val (0, 0, false, ()))
    (Fr.val (IntKind.i64.wrap (a * (wU2 (b.tdiv c) * c + b.tmod c) / c), IntKind.i64.wrap (a * (wU2 (b.tdiv c) * c + b.tmod c) % c), true, ())))))
theorem two_run : SoundCt Tryz.prog 99 ⟨[.d i64, .d i64, .d i64], [i64, i64, .bool], fun xs => (frTwo xs).get, fun xs => [(frTwo xs).ok]⟩ :=
 fn_sound CT2_ok (Λ := fun _ => ptT2.han CT2.Γ MT2 FT2) (fn := Tryz.f99) (fr := frTwo) (ps := [.d i64, .d i64, .d i64]) (rs := [i64, i64, .bool]) (0, 0, 0, ()) (by kernel_rfl)
  (fun c E hc => lam1f hc (by kernel_rfl) (b := loopF Tryz.f99 0) (by kernel_rfl) (Does.han CT2_ok rfl loopT2)) (fun x => by kernel_rfl)
theorem two_eq {a b c : Int} (ha : 0 <= a /\ a <= 9223372036854775807) (hb : 0 <= b /\ b <= 9223372036854775807) (hc : 0 < c /\ c <= 9223372036854775807) :
  (frTwo (a, b, c, ())).ok /\ (frTwo (a, b, c, ())).get = ((twoF a b c).1, (twoF a b c).2.1, (twoF a b c).2.2, ()) := by
 have e1 : wU2 b = b := u64w (by omega)
 have e2 : wU2 c = c := u64w (by omega)
 have hd0 : 0 <= b / c := Int.ediv_nonneg hb.1 (Int.le_of_lt hc.1)
 have hd1 : b / c <= b := Int.ediv_le_self _ hb.1
 have e3 : wU2 (b.tdiv c) = b / c := by rw [Int.tdiv_eq_ediv_of_nonneg hb.1]; exact u64w (by omega)
 have e4 : b.tmod c = b % c := Int.tmod_eq_emod_of_nonneg hb.1
 have hr0 := Int.emod_nonneg b (b := c) (by omega)
 have hr1 := Int.emod_lt_of_pos b hc.1
 have e5 : b / c * c + b % c = b := by rw [Int.mul_comm]; exact Int.mul_ediv_add_emod b c
 have hcz : c ≠ 0 := by omega
 have hm62 : a / 2 ^ (62 + 1 : Int).toNat = 0 := by
  have : (2 : Int) ^ (62 + 1 : Int).toNat = 9223372036854775808 := by decide
  rw [this]
  omega
 dsimp only [frTwo]
 rw [e1, e2, e3, e4]
 refine Fr.need_ hcz (Fr.need_ hcz (Fr.need_ ⟨ha, hc, ⟨hd0, by omega⟩, ⟨hr0, hr1⟩, by decide, ⟨Int.le_refl _, hc.1⟩, by decide, by rw [hm62]; simp⟩ ?_))
 rw [e5]
 unfold twoF
 by_cases hg : a * b / c > 4000000000000000000
 ·rw [if_pos hg]
  exact Fr.br_t (decide_eq_true hg) ⟨trivial, rfl⟩
 ·rw [if_neg hg]
  refine Fr.br_f (decide_eq_false hg) ⟨trivial, ?_⟩
  have p0 : 0 <= a * b := Int.mul_nonneg ha.1 hb.1
  have p1 := Int.ediv_nonneg p0 (Int.le_of_lt hc.1)
  have p2 := Int.emod_nonneg (a * b) (b := c) hcz
  have p3 := Int.emod_lt_of_pos (a * b) hc.1
  have w1 : IntKind.i64.wrap (a * b / c) = a * b / c := IntWalk.i64_in _ (by omega)
  have w2 : IntKind.i64.wrap (a * b % c) = a * b % c := IntWalk.i64_in _ (by omega)
  show (IntKind.i64.wrap (a * b / c), IntKind.i64.wrap (a * b % c), true, ()) = (a * b / c, a * b % c, true, ())
  rw [w1, w2]
theorem two_ok : SoundCt Tryz.prog 99 cTwo :=
 convF two_run _ _ (fun w F x vs hr hok => by
  obtain ⟨a, b, c, _⟩ := x
  obtain ⟨v1, vs1, rfl, h1, v2, vs2, rfl, h2, v3, vs3, rfl, h3, _⟩ := hr
  obtain ⟨q1, q2, q3⟩ := hok
  exact two_eq ⟨q1, (i64_of h1).2⟩ ⟨q2, (i64_of h2).2⟩ ⟨q3, (i64_of h3).2⟩)
def chkF (a b c : Int) : Int := if a < 0 ∨ b < 0 ∨ c < 0 then 1 else if c = 0 then 6 else 0
def cChk : Ct := ⟨[.d i64, .d i64, .d i64], [i64], fun x => (chkF x.1 x.2.1 x.2.2.1, ()), fun _ => []⟩
def frChk (x : denP [.d i64, .d i64, .d i64]) : Fr (denL [i64]) :=
 Fr.br (bif bif decide (x.1 < 0) then true else decide (x.2.1 < 0) then true else decide (x.2.2.1 < 0)) (Fr.val (1, ())) (Fr.br (x.2.2.1 == 0) (Fr.val (6, ())) (Fr.val (0, ())))
theorem chk_eq (a b c : Int) : (frChk (a, b, c, ())).ok /\ (frChk (a, b, c, ())).get = (chkF a b c, ()) := by
 unfold frChk chkF
 simp only [bif3]
 by_cases hn : a < 0 ∨ b < 0 ∨ c < 0
 ·rw [if_pos hn]
  exact Fr.br_t (by simpa using hn) ⟨trivial, rfl⟩
 ·rw [if_neg hn]
  refine Fr.br_f (by simpa using hn) ?_
  by_cases hc : c = 0
  ·rw [if_pos hc]
   exact Fr.br_t (beq_iff_eq.2 hc) ⟨trivial, rfl⟩
  ·rw [if_neg hc]
   exact Fr.br_f (beq_eq_false_iff_ne.2 hc) ⟨trivial, rfl⟩
theorem chk_ok : SoundCt Tryz.prog 98 cChk :=
 flat (ps := [.d i64, .d i64, .d i64]) (rs := [i64]) (cx_ok (cs := []) (ps := []) mixed trivial trivial) (fn := Tryz.f98) (fr := frChk) (0, 0, 0, ()) (by kernel_rfl) (fun x => by kernel_rfl) _ _
  (fun _ _ x _ _ _ => by
   obtain ⟨a, b, c, _⟩ := x
   exact chk_eq a b c)
noncomputable def CE1 : Cx := cx [(98, cChk), (99, cTwo)] []
theorem CE1_ok : CxOK Tryz.prog CE1 := cx_ok mixed ⟨chk_ok, two_ok, trivial⟩ trivial
def frE2 (q l : Int) (is : Bool) (c : Int) : Fr (denL [i64, i64]) :=
 Fr.need ((l == IntKind.i64.wrap (c - l)) = true -> decide (l > IntKind.i64.wrap (c - l)) = false -> is = true -> (2 : Int) ≠ 0)
  (Fr.br (bif is then bif decide (l > IntKind.i64.wrap (c - l)) then true else bif l == IntKind.i64.wrap (c - l) then Int.tmod q 2 == 1 else false else false)
   (Fr.br (bif !is then true else decide (IntKind.i64.wrap (q + 1) > 4000000000000000000)) (Fr.val (0, 5, ())) (Fr.val (IntKind.i64.wrap (q + 1), 0, ())))
   (Fr.br (bif !is then true else decide (q > 4000000000000000000)) (Fr.val (0, 5, ())) (Fr.val (q, 0, ()))))
def frE1 (x : denP [.d i64, .d i64, .d i64]) : Fr (denL [i64, i64]) :=
 Fr.br ((cChk.f (x.1, x.2.1, x.2.2.1, ())).1 != 0) (Fr.val (0, (cChk.f (x.1, x.2.1, x.2.2.1, ())).1, ()))
  (Fr.need (0 <= x.1) (Fr.need (0 <= x.2.1) (Fr.need (0 < x.2.2.1)
   (frE2 (cTwo.f (x.1, x.2.1, x.2.2.1, ())).1 (cTwo.f (x.1, x.2.1, x.2.2.1, ())).2.1 (cTwo.f (x.1, x.2.1, x.2.2.1, ())).2.2.1 x.2.2.1))))
def evq (q l c : Int) : Int := if l > c - l ∨ (l = c - l /\ q % 2 = 1) then q + 1 else q
theorem e2_told {q l c : Int} (hq : 0 <= q /\ q <= 4000000000000000000) (hl : 0 <= l /\ l < c) (hc : c <= 9223372036854775807) :
  (frE2 q l true c).ok /\ (frE2 q l true c).get = if evq q l c > 4000000000000000000 then (0, 5, ()) else (evq q l c, 0, ()) := by
 have w1 : IntKind.i64.wrap (c - l) = c - l := IntWalk.i64_in _ (by omega)
 have w2 : IntKind.i64.wrap (q + 1) = q + 1 := IntWalk.i64_in _ (by omega)
 have w3 : Int.tmod q 2 = q % 2 := Int.tmod_eq_emod_of_nonneg hq.1
 unfold frE2 evq
 rw [w1, w2, w3]
 refine Fr.need_ (fun _ _ _ => by decide) ?_
 by_cases h : l > c - l ∨ (l = c - l /\ q % 2 = 1)
 ·rw [if_pos h]
  refine Fr.br_t ?_ ?_
  ·show (bif decide (l > c - l) then true else bif l == c - l then q % 2 == 1 else false) = true
   rcases h with h | ⟨h, h'⟩
   ·rw [decide_eq_true h]
    rfl
   ·rw [beq_iff_eq.2 h, h']
    cases decide (l > c - l) <;> rfl
  ·by_cases hg : q + 1 > 4000000000000000000
   ·rw [if_pos hg]
    exact Fr.br_t (decide_eq_true hg) ⟨trivial, rfl⟩
   ·rw [if_neg hg]
    exact Fr.br_f (decide_eq_false hg) ⟨trivial, rfl⟩
 ·rw [if_neg h]
  refine Fr.br_f ?_ ?_
  ·show (bif decide (l > c - l) then true else bif l == c - l then q % 2 == 1 else false) = false
   have h1 : ¬ l > c - l := fun hh => h (.inl hh)
   rw [decide_eq_false h1]
   by_cases h2 : l = c - l
   ·have h3 : ¬ q % 2 = 1 := fun hh => h (.inr ⟨h2, hh⟩)
    show (bif l == c - l then q % 2 == 1 else false) = false
    rw [beq_eq_false_iff_ne.2 h3]
    cases l == c - l <;> rfl
   ·show (bif l == c - l then q % 2 == 1 else false) = false
    rw [beq_eq_false_iff_ne.2 h2]
    rfl
  ·have hg : ¬ q > 4000000000000000000 := by omega
   rw [if_neg hg]
   exact Fr.br_f (decide_eq_false hg) ⟨trivial, rfl⟩
theorem e2_over {c : Int} : (frE2 0 0 false c).ok /\ (frE2 0 0 false c).get = (0, 5, ()) := by
 unfold frE2
 exact Fr.need_ (fun _ _ h => by cases h) (Fr.br_f rfl (Fr.br_t rfl ⟨trivial, rfl⟩))
def cEvenR : Ct := ⟨[.d i64, .d i64, .d i64], [i64, i64], fun x => ((evenF x.1 x.2.1 x.2.2.1).1, (evenF x.1 x.2.1 x.2.2.1).2, ()), fun _ => []⟩
theorem e1_eq {a b c : Int} (hc : c <= 9223372036854775807) : (frE1 (a, b, c, ())).ok /\ (frE1 (a, b, c, ())).get = ((evenF a b c).1, (evenF a b c).2, ()) := by
 unfold frE1 evenF
 have e : (cChk.f (a, b, c, ())).1 = chkF a b c := rfl
 show (Fr.br ((chkF a b c) != 0) (Fr.val (0, chkF a b c, ())) _).ok /\ (Fr.br ((chkF a b c) != 0) (Fr.val (0, chkF a b c, ())) _).get = _
 by_cases hn : a < 0 ∨ b < 0 ∨ c < 0
 ·have h1 : chkF a b c = 1 := if_pos hn
  rw [h1, if_pos hn]
  exact Fr.br_t rfl ⟨trivial, rfl⟩
 ·by_cases hz : c = 0
  ·have h1 : chkF a b c = 6 := by unfold chkF; rw [if_neg hn, if_pos hz]
   rw [h1, if_neg hn, if_pos hz]
   exact Fr.br_t rfl ⟨trivial, rfl⟩
  ·have h1 : chkF a b c = 0 := by unfold chkF; rw [if_neg hn, if_neg hz]
   rw [h1, if_neg hn, if_neg hz]
   have ha : 0 <= a := by omega
   have hb : 0 <= b := by omega
   have hc0 : 0 < c := by omega
   refine Fr.br_f rfl (Fr.need_ ha (Fr.need_ hb (Fr.need_ hc0 ?_)))
   show (frE2 (twoF a b c).1 (twoF a b c).2.1 (twoF a b c).2.2 c).ok /\ (frE2 (twoF a b c).1 (twoF a b c).2.1 (twoF a b c).2.2 c).get = _
   have hp : 0 <= a * b := Int.mul_nonneg ha hb
   have hq := Int.ediv_nonneg hp (Int.le_of_lt hc0)
   have r1 := Int.emod_nonneg (a * b) (b := c) hz
   have r2 := Int.emod_lt_of_pos (a * b) hc0
   have hev : evenQ (a * b) c = evq (a * b / c) (a * b % c) c := rfl
   unfold twoF
   by_cases hg : a * b / c > 4000000000000000000
   ·rw [if_pos hg]
    have hbig : evenQ (a * b) c > 4000000000000000000 := by
     rw [hev]
     unfold evq
     split <;> omega
    rw [if_pos hbig]
    exact e2_over
   ·rw [if_neg hg]
    have := e2_told (q := a * b / c) (l := a * b % c) (c := c) ⟨hq, by omega⟩ ⟨r1, r2⟩ hc
    refine ⟨this.1, this.2.trans ?_⟩
    rw [← hev]
    split <;> rfl
theorem evenR_ok : SoundCt Tryz.prog 61 cEvenR :=
 convF (fn_sound CE1_ok (Λ := lam0) (fn := Tryz.f61) (fr := frE1) (ps := [.d i64, .d i64, .d i64]) (rs := [i64, i64]) (0, 0, 0, ()) (by kernel_rfl) (fun c E _ => lam0_ok c 0) (fun x => by kernel_rfl)) _ _
  (fun w F x vs hr _ => by
   obtain ⟨a, b, c, _⟩ := x
   obtain ⟨v1, vs1, rfl, h1, v2, vs2, rfl, h2, v3, vs3, rfl, h3, _⟩ := hr
   exact e1_eq (i64_of h3).2)
noncomputable def CE2 : Cx := cx [(61, cEvenR)] []
theorem CE2_ok : CxOK Tryz.prog CE2 := cx_ok mixed ⟨evenR_ok, trivial⟩ trivial
theorem bpR_ok : SoundCt Tryz.prog 28 cBp :=
 flat (ps := [.d i64, .d i64]) (rs := [i64, i64]) CE2_ok (fn := Tryz.f28) (fr := fun x => Fr.val ((cEvenR.f (x.1, x.2.1, 10000, ())).1, (cEvenR.f (x.1, x.2.1, 10000, ())).2.1, ())) (0, 0, ()) (by kernel_rfl) (fun x => by kernel_rfl) _ _
  (fun _ _ x _ _ _ => ⟨trivial, rfl⟩)
noncomputable def CR7 : Cx := cx [(163, cFactors), (162, cBands)] []
theorem CR7_ok : CxOK Tryz.prog CR7 := cx_ok mixed ⟨factors_ok, r06_Bands_ok, trivial⟩ trivial
abbrev p7 : Pt := ⟨73, 0, ⟨[(3, .d i64)], [.x 1 71 verT, .r 1 1 0]⟩, ⟨[], [.x 1 71 verT, .r 1 1 0]⟩, ⟨[(2, .d .bool)], []⟩⟩
def baseL (v : verT.den) : List Int := [v.2.1.1, v.2.1.2.1, v.2.1.2.2.1, v.2.1.2.2.2.1]
def f7 (x : p7.M.X) : Fr p7.Out :=
 let k : Int := x.1.1; let v : verT.den := x.2.1
 Fr.br (decide (k < 4))
  (Fr.need (0 <= k /\ k < ((4 : Nat) : Int)) (Fr.need (decide ((baseL v).getD k.toNat 0 < 0) = false -> 0 <= k /\ k < ((4 : Nat) : Int))
   (Fr.br (bif decide ((baseL v).getD k.toNat 0 < 0) then true else decide ((baseL v).getD k.toNat 0 > 100000)) (Fr.val (Rd.back ((false, ()), ()))) (Fr.val (Rd.next ((IntKind.i64.wrap (k + 1), ()), (v, ())))))))
  (Fr.val (Rd.out ((), (v, ()))))
theorem sem7 : Does Tryz.prog (loopF Tryz.f149 0) p7.M p7 f7 := Does.of_run CR7_ok (bs := 0) rfl rfl rfl (fun _ => lam0_ok _ 0) (fun x => by kernel_rfl)
def In7 (k : Int) : Prop := 0 <= k /\ k <= 4
def F7 (x : p7.M.X) : Fr p7.Out := Fr.need (In7 x.1.1) (Fr.br (factorsB ((baseL x.2.1).drop x.1.1.toNat)) (Fr.val (Rd.out ((), (x.2.1, ())))) (Fr.val (Rd.back ((false, ()), ()))))
theorem fac_cons (n : Int) (l : List Int) : factorsB (n :: l) = (!(bif decide (n < 0) then true else decide (n > 100000)) && factorsB l) := by
 have : decide (0 <= n /\ n <= 100000) = !(bif decide (n < 0) then true else decide (n > 100000)) := by
  rw [Bool.eq_iff_iff]
  simp
 unfold factorsB
 rw [List.all_cons, this]
theorem law7 (k : Int) (v : verT.den) (hinv : In7 k) (Q : p7.Out -> Prop) (hq : (Fr.br (factorsB ((baseL v).drop k.toNat)) (Fr.val (Rd.out ((), (v, ())))) (Fr.val (Rd.back ((false, ()), ()))) : Fr p7.Out).satP Q) :
  (f7 ((k, ()), (v, ()))).satP fun
   | .next x' => In7 x'.1.1 /\ (4 - x'.1.1).toNat < (4 - k).toNat /\ (F7 x').satP Q
   | .out y => Q (.out y)
   | .back z => Q (.back z)
   | .pan p => Q (.pan p) := by
 obtain ⟨h1, h2⟩ := hinv
 refine ⟨fun hi => ?_, fun hi => ?_⟩
 ·have hi' : k < 4 := of_decide_eq_true hi
  obtain ⟨k, rfl⟩ : ∃ n : Nat, k = n := ⟨k.toNat, by omega⟩
  have hl : k < (baseL v).length := by show k < 4; omega
  have hw : IntKind.i64.wrap ((k : Int) + 1) = k + 1 := IntWalk.i64_in _ (by omega)
  have g1 : (baseL v).getD (k : Int).toNat 0 = (baseL v)[k] := by
   rw [show (k : Int).toNat = k by omega, List.getD_eq_getElem?_getD, List.getElem?_eq_getElem hl]; rfl
  have hd : (baseL v).drop (k : Int).toNat = (baseL v)[k] :: (baseL v).drop (k + 1) := by
   rw [show (k : Int).toNat = k by omega]
   exact List.drop_eq_getElem_cons hl
  rw [hd] at hq
  dsimp only [f7, Fr.satP]
  rw [g1, hw]
  have hf : factorsB ((baseL v)[k] :: (baseL v).drop (k + 1)) = (!(bif decide ((baseL v)[k] < 0) then true else decide ((baseL v)[k] > 100000)) && factorsB ((baseL v).drop (k + 1))) := fac_cons _ _
  refine ⟨⟨by omega, by omega⟩, fun _ => ⟨by omega, by omega⟩, fun hb => ?_, fun hb => ?_⟩
  ·rw [hb] at hf
   exact hq.2 hf
  ·rw [hb] at hf
   have hf' : factorsB ((baseL v)[k] :: (baseL v).drop (k + 1)) = factorsB ((baseL v).drop (k + 1)) := hf
   rw [hf'] at hq
   have hI : In7 ((k : Int) + 1) := ⟨by omega, by omega⟩
   refine ⟨hI, by show (4 - ((k : Int) + 1)).toNat < (4 - (k : Int)).toNat; omega, hI, ?_⟩
   have : ((k : Int) + 1).toNat = k + 1 := by omega
   show (Fr.br (factorsB ((baseL v).drop ((k : Int) + 1).toNat)) (Fr.val (Rd.out ((), (v, ())))) (Fr.val (Rd.back ((false, ()), ()))) : Fr p7.Out).satP Q
   rw [this]
   exact hq
 ·have hi' : ¬ k < 4 := of_decide_eq_false hi
  have : k = 4 := by omega
  subst this
  exact hq.1 rfl
theorem loop7 : Does Tryz.prog (.loop (loopF Tryz.f149 0)) p7.M p7 F7 := by
 refine Does.loop (n := 73) (id := 0) sem7 (inv := fun x => In7 x.1.1) (μ := fun x => (4 - x.1.1).toNat) ?_ (fun x Q h => h.1)
 rintro ⟨⟨k, _⟩, v, _⟩ hinv Q hq
 exact law7 k v hinv Q hq.2
def frV7 (x : denP [.d verT]) : Fr (denL [.bool]) :=
 let v : verT.den := x.1
 Fr.need (In7 0) (Fr.br (factorsB ((baseL v).drop (0 : Int).toNat))
  (Fr.br (ver1 v.1 v.2.2.2.2.2.1) (Fr.val (false, ()))
   (Fr.br (ver2 v.2.2.1.length v.2.2.2.1.length v.2.2.2.2.1.length) (Fr.val (false, ()))
    (Fr.val (bif bif (cBands.f (v.2.2.1, ())).1 then (cFactors.f (v.2.2.2.1, ())).1 else false then (cFactors.f (v.2.2.2.2.1, ())).1 else false, ()))))
  (Fr.val (false, ())))
theorem ver7_ok : SoundCt Tryz.prog 149 cVer :=
 convF (fn_sound CR7_ok (Λ := fun _ => p7.han CR7.Γ p7.M F7) (fn := Tryz.f149) (fr := frV7) (ps := [.d verT]) (rs := [.bool]) (verT.dflt, ()) (by kernel_rfl)
  (fun c E hc => lam1f hc (by kernel_rfl) (b := loopF Tryz.f149 0) (by kernel_rfl) (Does.han CR7_ok rfl loop7)) (fun x => by kernel_rfl)) _ _
  (fun _ _ x _ _ _ => by
   obtain ⟨v, _⟩ := x
   show (frV7 (v, ())).ok /\ (frV7 (v, ())).get = (verB v, ())
   unfold verB
   rw [← ver_dec]
   refine Fr.need_ ⟨by decide, by decide⟩ ?_
   have eb : factorsB [v.2.1.1, v.2.1.2.1, v.2.1.2.2.1, v.2.1.2.2.2.1] = factorsB ((baseL v).drop (0 : Int).toNat) := rfl
   rw [eb]
   cases h0 : factorsB ((baseL v).drop (0 : Int).toNat) with
   | false =>
    refine Fr.br_f rfl ⟨trivial, Prod.ext ?_ rfl⟩
    show false = _
    cases (!(ver1 v.1 v.2.2.2.2.2.1 || ver2 v.2.2.1.length v.2.2.2.1.length v.2.2.2.2.1.length)) <;> rfl
   | true =>
    refine Fr.br_t rfl ?_
    cases h1 : ver1 v.1 v.2.2.2.2.2.1 with
    | true => exact Fr.br_t rfl ⟨trivial, rfl⟩
    | false =>
     refine Fr.br_f rfl ?_
     cases h2 : ver2 v.2.2.1.length v.2.2.2.1.length v.2.2.2.2.1.length with
     | true => exact Fr.br_t rfl ⟨trivial, rfl⟩
     | false =>
      refine Fr.br_f rfl ⟨trivial, Prod.ext ?_ rfl⟩
      show (bif bif bandsL v.2.2.1 then factorsB v.2.2.2.1 else false then factorsB v.2.2.2.2.1 else false) = (true && (true && (factorsB v.2.2.2.1 && (factorsB v.2.2.2.2.1 && bandsL v.2.2.1))))
      cases bandsL v.2.2.1 <;> cases factorsB v.2.2.2.1 <;> cases factorsB v.2.2.2.2.1 <;> rfl)
noncomputable def CR9 : Cx := cx [(149, cVer), (116, cRisk), (150, cCover), (151, cBand), (28, cBp)] []
theorem CR9_ok : CxOK Tryz.prog CR9 := cx_ok mixed ⟨ver7_ok, risk6_ok, cover8_ok, band6_ok, bpR_ok, trivial⟩ trivial
abbrev p9 : Pt := ⟨85, 0, ⟨[(10, .d i64), (8, .d ints), (9, .d i64)], [.x 3 71 verT, .r 3 3 0]⟩, ⟨[(9, .d i64)], [.x 3 71 verT, .r 3 3 0]⟩, ⟨[(6, .d i64), (7, .d i64)], []⟩⟩
def f9 (x : p9.M.X) : Fr p9.Out :=
 let k : Int := x.1.1; let l : List Int := x.1.2.1; let m : Int := x.1.2.2.1; let v : verT.den := x.2.1
 Fr.br (decide (k < (l.length : Int)))
  (Fr.need (0 <= k /\ k < (l.length : Int))
   (Fr.br ((cBp.f (m, l.getD k.toNat 0, ())).2.1 != 0) (Fr.val (Rd.back ((0, (cBp.f (m, l.getD k.toNat 0, ())).2.1, ()), ())))
    (Fr.val (Rd.next ((IntKind.i64.wrap (k + 1), l, (cBp.f (m, l.getD k.toNat 0, ())).1, ()), (v, ()))))))
  (Fr.val (Rd.out ((m, ()), (v, ()))))
theorem sem9 : Does Tryz.prog (loopF Tryz.f113 0) p9.M p9 f9 := Does.of_run CR9_ok (bs := 0) rfl rfl rfl (fun _ => lam0_ok _ 0) (fun x => by kernel_rfl)
def In9 (k : Int) (l : List Int) : Prop := 0 <= k /\ k <= l.length /\ (l.length : Int) <= 9223372036854775807
def out9 (v : verT.den) (r : Int × Int) : Fr p9.Out := Fr.br (r.2 != 0) (Fr.val (Rd.back ((0, r.2, ()), ()))) (Fr.val (Rd.out ((r.1, ()), (v, ()))))
def F9 (x : p9.M.X) : Fr p9.Out := Fr.need (In9 x.1.1 x.1.2.1) (out9 x.2.1 (bpGo (x.1.2.1.drop x.1.1.toNat) x.1.2.2.1))
theorem law9 (k : Int) (l : List Int) (m : Int) (v : verT.den) (hinv : In9 k l) (Q : p9.Out -> Prop) (hq : (out9 v (bpGo (l.drop k.toNat) m)).satP Q) :
  (f9 ((k, l, m, ()), (v, ()))).satP fun
   | .next x' => In9 x'.1.1 x'.1.2.1 /\ ((List.length (α := Int) x'.1.2.1 : Int) - x'.1.1).toNat < ((l.length : Int) - k).toNat /\ (F9 x').satP Q
   | .out y => Q (.out y)
   | .back z => Q (.back z)
   | .pan p => Q (.pan p) := by
 obtain ⟨h1, h2, h3⟩ := hinv
 refine ⟨fun hi => ?_, fun hi => ?_⟩
 ·have hi' : k < (l.length : Int) := of_decide_eq_true hi
  obtain ⟨k, rfl⟩ : ∃ n : Nat, k = n := ⟨k.toNat, by omega⟩
  have hl : k < l.length := by omega
  have hw : IntKind.i64.wrap ((k : Int) + 1) = k + 1 := IntWalk.i64_in _ (by omega)
  have g1 : l.getD (k : Int).toNat 0 = l[k] := by
   rw [show (k : Int).toNat = k by omega, List.getD_eq_getElem?_getD, List.getElem?_eq_getElem hl]; rfl
  have hd : l.drop (k : Int).toNat = l[k] :: l.drop (k + 1) := by
   rw [show (k : Int).toNat = k by omega]
   exact List.drop_eq_getElem_cons hl
  rw [hd] at hq
  dsimp only [f9, Fr.satP]
  rw [g1, hw]
  refine ⟨⟨by omega, by omega⟩, fun hb => ?_, fun hb => ?_⟩
  ·have hb' : ¬ (bpF m l[k]).2 = 0 := bne_iff_ne.1 hb
   have e : bpGo (l[k] :: l.drop (k + 1)) m = bpF m l[k] := if_neg hb'
   rw [e] at hq
   exact hq.1 hb
  ·have hb' : (bpF m l[k]).2 = 0 := by
    have : ((bpF m l[k]).2 != 0) = false := hb
    simpa using this
   have e : bpGo (l[k] :: l.drop (k + 1)) m = bpGo (l.drop (k + 1)) (bpF m l[k]).1 := if_pos hb'
   rw [e] at hq
   have hI : In9 ((k : Int) + 1) l := ⟨by omega, by omega, h3⟩
   refine ⟨hI, by show ((l.length : Int) - ((k : Int) + 1)).toNat < ((l.length : Int) - (k : Int)).toNat; omega, hI, ?_⟩
   have : ((k : Int) + 1).toNat = k + 1 := by omega
   show (out9 v (bpGo (l.drop ((k : Int) + 1).toNat) (bpF m l[k]).1)).satP Q
   rw [this]
   exact hq
 ·have hi' : ¬ k < (l.length : Int) := of_decide_eq_false hi
  have : l.drop k.toNat = [] := List.drop_eq_nil_of_le (by omega)
  rw [this] at hq
  exact hq.2 rfl
theorem loop9 : Does Tryz.prog (.loop (loopF Tryz.f113 0)) p9.M p9 F9 := by
 refine Does.loop (n := 85) (id := 0) sem9 (inv := fun x => In9 x.1.1 x.1.2.1) (μ := fun x => ((List.length (α := Int) x.1.2.1 : Int) - x.1.1).toNat) ?_ (fun x Q h => h.1)
 rintro ⟨⟨k, l, m, _⟩, v, _⟩ hinv Q hq
 exact law9 k l m v hinv Q hq.2
def frOneR (x : denP [.d verT, .d riskT, .d coverT]) : Fr (denL [i64, i64]) :=
 Fr.br (bif bif !(cVer.f (x.1, ())).1 then true else !(cRisk.f (x.2.1, ())).1 then true else !(cCover.f (x.2.2.1, ())).1) (Fr.val (0, 1, ()))
  (Fr.br (decide (x.2.1.2.2.2.1 ≥ x.1.2.2.2.1.length)) (Fr.val (0, 7, ()))
   (Fr.need (0 <= x.2.1.1 /\ x.2.1.1 < ((4 : Nat) : Int))
    (Fr.need (0 <= x.2.1.2.2.2.1 /\ x.2.1.2.2.2.1 < x.1.2.2.2.1.length)
     (Fr.need (0 <= x.2.2.1.1 /\ x.2.2.1.1 < x.1.2.2.2.2.1.length)
      (Fr.need (In9 0 (oneL x.1 x.2.1 x.2.2.1))
       (Fr.br ((bpGo ((oneL x.1 x.2.1 x.2.2.1).drop (0 : Int).toNat) x.2.1.2.1).2 != 0) (Fr.val (0, (bpGo ((oneL x.1 x.2.1 x.2.2.1).drop (0 : Int).toNat) x.2.1.2.1).2, ()))
        (Fr.br (decide ((bpGo ((oneL x.1 x.2.1 x.2.2.1).drop (0 : Int).toNat) x.2.1.2.1).1 < x.1.2.2.2.2.2.1)) (Fr.val (x.1.2.2.2.2.2.1, 0, ())) (Fr.val ((bpGo ((oneL x.1 x.2.1 x.2.2.1).drop (0 : Int).toNat) x.2.1.2.1).1, 0, ())))))))))
theorem oneR_run : SoundCt Tryz.prog 113 ⟨[.d verT, .d riskT, .d coverT], [i64, i64], fun xs => (frOneR xs).get, fun xs => [(frOneR xs).ok]⟩ :=
 fn_sound CR9_ok (Λ := fun _ => p9.han CR9.Γ p9.M F9) (fn := Tryz.f113) (fr := frOneR) (ps := [.d verT, .d riskT, .d coverT]) (rs := [i64, i64]) (verT.dflt, riskT.dflt, coverT.dflt, ()) (by kernel_rfl)
  (fun c E hc => lam1f hc (by kernel_rfl) (b := loopF Tryz.f113 0) (by kernel_rfl) (Does.han CR9_ok rfl loop9)) (fun x => by kernel_rfl)
theorem oneR_eq (v : verT.den) (k val a z : Int) (c : coverT.den) : (frOneR (v, (k, val, a, z, ()), c, ())).ok /\ (frOneR (v, (k, val, a, z, ()), c, ())).get = ((oneF v (k, val, a, z, ()) c).1, (oneF v (k, val, a, z, ()) c).2, ()) := by
 obtain ⟨p, l, g, d, s, _⟩ := c
 unfold frOneR oneF
 have e0 : (bif bif !(cVer.f (v, ())).1 then true else !(cRisk.f ((k, val, a, z, ()), ())).1 then true else !(cCover.f ((p, l, g, d, s, ()), ())).1) = !(verB v && (riskB k val a z && coverB p l g d s)) := not3 _ _ _
 by_cases h : (verB v && (riskB k val a z && coverB p l g d s)) = true
 ·rw [if_pos h]
  refine Fr.br_f (by rw [e0, h]; rfl) ?_
  rw [Bool.and_eq_true, Bool.and_eq_true] at h
  obtain ⟨h1, h2, h3⟩ := h
  obtain ⟨r1, r2, r3⟩ := riskB_kind h2
  obtain ⟨c1, c2⟩ := coverB_peril h3
  have hp := verB_peril h1
  by_cases hz : z ≥ (v.2.2.2.1.length : Int)
  ·rw [if_pos hz]
   exact Fr.br_t (decide_eq_true hz) ⟨trivial, rfl⟩
  ·rw [if_neg hz]
   have hz' : z < (v.2.2.2.1.length : Int) := Int.not_le.1 hz
   refine Fr.br_f (decide_eq_false hz) (Fr.need_ ⟨r1, by omega⟩ (Fr.need_ ⟨r3, hz'⟩ (Fr.need_ ⟨c1, ?_⟩ (Fr.need_ ⟨Int.le_refl _, Int.natCast_nonneg _, (by show (5 : Int) <= 9223372036854775807; decide)⟩ ?_))))
   ·show p < (v.2.2.2.2.1.length : Int)
    rw [hp]
    exact c2
   ·have ed : (oneL v (k, val, a, z, ()) (p, l, g, d, s, ())).drop (0 : Int).toNat = oneL v (k, val, a, z, ()) (p, l, g, d, s, ()) := rfl
    rw [ed]
    by_cases hb : (bpGo (oneL v (k, val, a, z, ()) (p, l, g, d, s, ())) val).2 = 0
    ·have hb' : ((bpGo (oneL v (k, val, a, z, ()) (p, l, g, d, s, ())) val).2 != 0) = false := by rw [hb]; rfl
     rw [if_pos hb]
     refine Fr.br_f hb' ?_
     by_cases hm : (bpGo (oneL v (k, val, a, z, ()) (p, l, g, d, s, ())) val).1 < v.2.2.2.2.2.1
     ·exact Fr.br_t (decide_eq_true hm) ⟨trivial, Prod.ext (if_pos hm).symm rfl⟩
     ·exact Fr.br_f (decide_eq_false hm) ⟨trivial, Prod.ext (if_neg hm).symm rfl⟩
    ·have hb' : ((bpGo (oneL v (k, val, a, z, ()) (p, l, g, d, s, ())) val).2 != 0) = true := bne_iff_ne.2 hb
     rw [if_neg hb]
     exact Fr.br_t hb' ⟨trivial, rfl⟩
 ·rw [if_neg h]
  simp only [Bool.not_eq_true] at h
  exact Fr.br_t (by rw [e0, h]; rfl) ⟨trivial, rfl⟩
theorem oneR_ok : SoundCt Tryz.prog 113 cOne :=
 convF oneR_run _ _ (fun _ _ x _ _ _ => by
  obtain ⟨v, ⟨k, val, a, z, _⟩, c, _⟩ := x
  exact oneR_eq v k val a z c)
noncomputable def CRY : Cx := cx [(113, cOne), (114, cSumM)] []
theorem CRY_ok : CxOK Tryz.prog CRY := cx_ok mixed ⟨oneR_ok, sumM_ok, trivial⟩ trivial
abbrev pYr : Pt := ⟨45, 0, ⟨[(9, .d i64), (2, .d (.sl coverT))], [.x 3 71 verT, .r 3 3 0, .x 4 25 riskT, .r 4 4 0, .o 8 3 i64]⟩, ⟨[], [.o 8 3 i64]⟩, ⟨[(6, .d i64), (7, .d i64)], []⟩⟩
set_option maxRecDepth 100000 in
def roomI (n m : Nat) : Prop := n + m <= maxLen /\ (n + m) * Tryz.prog.types[3].bytes <= 140737488355328
set_option maxRecDepth 100000 in
theorem bytesInt : Tryz.prog.types[3].bytes <= 8 := by decide
theorem room_int {n m : Nat} (h : n + m <= 1000000) : roomI n m := by
 refine ⟨?_, Nat.le_trans (Nat.mul_le_mul h bytesInt) (by decide)⟩
 unfold maxLen
 omega
def fYr (x : pYr.M.X) : Fr pYr.Out :=
 let k : Int := x.1.1; let l : List coverT.den := x.1.2.1; let v : verT.den := x.2.1; let r : riskT.den := x.2.2.1; let o : List Int := x.2.2.2.1
 Fr.br (decide (k < (l.length : Int)))
  (Fr.need (0 <= k /\ k < (l.length : Int))
   (Fr.br ((cOne.f (v, r, l.getD k.toNat coverT.dflt, ())).2.1 != 0) (Fr.val (Rd.back ((0, (cOne.f (v, r, l.getD k.toNat coverT.dflt, ())).2.1, ()), ())))
    (Fr.need (roomI o.length [(cOne.f (v, r, l.getD k.toNat coverT.dflt, ())).1].length)
     (Fr.val (Rd.next ((IntKind.i64.wrap (k + 1), l, ()), (v, r, o ++ [(cOne.f (v, r, l.getD k.toNat coverT.dflt, ())).1], ())))))))
  (Fr.val (Rd.out ((), (o, ()))))
theorem semYr : Does Tryz.prog (loopF Tryz.f81 0) pYr.M pYr fYr := Does.of_run CRY_ok (bs := 0) rfl rfl rfl (fun _ => lam0_ok _ 0) (fun x => by kernel_rfl)
def onesE (v : verT.den) (r : riskT.den) : List coverT.den -> Int
 | [] => 0
 | c :: l => if (oneF v r c).2 = 0 then onesE v r l else (oneF v r c).2
def onesL (v : verT.den) (r : riskT.den) (l : List coverT.den) : List Int := l.map fun c => (oneF v r c).1
structure InYr (k : Int) (l : List coverT.den) (o : List Int) : Prop where
 k0 : 0 <= k
 kl : k <= l.length
 room : o.length + (l.length - k.toNat) <= 1000000
 big : l.length <= 1000000
def outYr (e : Int) (o : List Int) : Fr pYr.Out := Fr.br (e != 0) (Fr.val (Rd.back ((0, e, ()), ()))) (Fr.val (Rd.out ((), (o, ()))))
def FYr (x : pYr.M.X) : Fr pYr.Out := Fr.need (InYr x.1.1 x.1.2.1 x.2.2.2.1) (outYr (onesE x.2.1 x.2.2.1 (x.1.2.1.drop x.1.1.toNat)) (x.2.2.2.1 ++ onesL x.2.1 x.2.2.1 (x.1.2.1.drop x.1.1.toNat)))
theorem lawYr (k : Int) (l : List coverT.den) (v : verT.den) (r : riskT.den) (o : List Int) (hinv : InYr k l o) (Q : pYr.Out -> Prop) (hq : (outYr (onesE v r (l.drop k.toNat)) (o ++ onesL v r (l.drop k.toNat))).satP Q) :
  (fYr ((k, l, ()), (v, r, o, ()))).satP fun
   | .next x' => InYr x'.1.1 x'.1.2.1 x'.2.2.2.1 /\ ((List.length (α := coverT.den) x'.1.2.1 : Int) - x'.1.1).toNat < ((l.length : Int) - k).toNat /\ (FYr x').satP Q
   | .out y => Q (.out y)
   | .back z => Q (.back z)
   | .pan p => Q (.pan p) := by
 obtain ⟨h1, h2, h3, h4⟩ := hinv
 refine ⟨fun hi => ?_, fun hi => ?_⟩
 ·have hi' : k < (l.length : Int) := of_decide_eq_true hi
  obtain ⟨k, rfl⟩ : ∃ n : Nat, k = n := ⟨k.toNat, by omega⟩
  have hl : k < l.length := by omega
  have hk : (k : Int).toNat = k := by omega
  rw [hk] at hq h3
  have hw : IntKind.i64.wrap ((k : Int) + 1) = k + 1 := IntWalk.i64_in _ (by omega)
  have g1 : l.getD (k : Int).toNat coverT.dflt = l[k] := by
   rw [hk, List.getD_eq_getElem?_getD, List.getElem?_eq_getElem hl]; rfl
  rw [List.drop_eq_getElem_cons hl] at hq
  dsimp only [fYr, Fr.satP]
  rw [g1, hw]
  refine ⟨⟨by omega, by omega⟩, fun hb => ?_, fun hb => ?_⟩
  ·have hb' : ¬ (oneF v r l[k]).2 = 0 := bne_iff_ne.1 hb
   have e : onesE v r (l[k] :: l.drop (k + 1)) = (oneF v r l[k]).2 := if_neg hb'
   rw [e] at hq
   exact hq.1 hb
  ·have hb' : (oneF v r l[k]).2 = 0 := by
    have : ((oneF v r l[k]).2 != 0) = false := hb
    simpa using this
   have e : onesE v r (l[k] :: l.drop (k + 1)) = onesE v r (l.drop (k + 1)) := if_pos hb'
   have e2 : o ++ onesL v r (l[k] :: l.drop (k + 1)) = (o ++ [(oneF v r l[k]).1]) ++ onesL v r (l.drop (k + 1)) := by
    rw [List.append_assoc]
    rfl
   rw [e, e2] at hq
   have hk1 : ((k : Int) + 1).toNat = k + 1 := by omega
   have hI : InYr ((k : Int) + 1) l (o ++ [(oneF v r l[k]).1]) := ⟨by omega, by omega, by rw [hk1, List.length_append, List.length_singleton]; omega, h4⟩
   refine ⟨room_int (by show o.length + 1 <= _; omega), hI, by show ((l.length : Int) - ((k : Int) + 1)).toNat < ((l.length : Int) - (k : Int)).toNat; omega, hI, ?_⟩
   show (outYr (onesE v r (l.drop ((k : Int) + 1).toNat)) ((o ++ [(oneF v r l[k]).1]) ++ onesL v r (l.drop ((k : Int) + 1).toNat))).satP Q
   rw [hk1]
   exact hq
 ·have hi' : ¬ k < (l.length : Int) := of_decide_eq_false hi
  have : l.drop k.toNat = [] := List.drop_eq_nil_of_le (by omega)
  rw [this] at hq
  have hq2 : Q (Rd.out ((), (o ++ [], ()))) := hq.2 rfl
  rw [List.append_nil] at hq2
  exact hq2
theorem loopYr : Does Tryz.prog (.loop (loopF Tryz.f81 0)) pYr.M pYr FYr := by
 refine Does.loop (n := 45) (id := 0) semYr (inv := fun x => InYr x.1.1 x.1.2.1 x.2.2.2.1) (μ := fun x => ((List.length (α := coverT.den) x.1.2.1 : Int) - x.1.1).toNat) ?_ (fun x Q h => h.1)
 rintro ⟨⟨k, l, _⟩, v, r, o, _⟩ hinv Q hq
 exact lawYr k l v r o hinv Q hq.2
def frYearR (x : denP [.d verT, .d riskT, .d (.sl coverT)]) : Fr (denL [i64, i64]) :=
 let v : verT.den := x.1; let r : riskT.den := x.2.1; let l : List coverT.den := x.2.2.1
 let o : List Int := [] ++ onesL v r (l.drop (0 : Int).toNat)
 Fr.need (InYr 0 l []) (Fr.br (onesE v r (l.drop (0 : Int).toNat) != 0) (Fr.val (0, onesE v r (l.drop (0 : Int).toNat), ()))
  (Fr.need (∀ e ∈ o, (0 : Int) <= e) (Fr.br (!(cSumM.f (o, ())).2.1) (Fr.val (0, 5, ())) (Fr.val ((cSumM.f (o, ())).1, 0, ())))))
theorem yearR_run : SoundCt Tryz.prog 81 ⟨[.d verT, .d riskT, .d (.sl coverT)], [i64, i64], fun xs => (frYearR xs).get, fun xs => [(frYearR xs).ok]⟩ :=
 fn_sound CRY_ok (Λ := fun _ => pYr.han CRY.Γ pYr.M FYr) (fn := Tryz.f81) (fr := frYearR) (ps := [.d verT, .d riskT, .d (.sl coverT)]) (rs := [i64, i64]) (verT.dflt, riskT.dflt, [], ()) (by kernel_rfl)
  (fun c E hc => lam1f hc (by kernel_rfl) (b := loopF Tryz.f81 0) (by kernel_rfl) (Does.han CRY_ok rfl loopYr)) (fun x => by kernel_rfl)
theorem yrGo_err (v : verT.den) (r : riskT.den) : (l : List coverT.den) -> (q : Int) -> (b : Bool) -> (yrGo v r l q b).2.2 = onesE v r l
 | [], _, _ => rfl
 | c :: l, q, b => by
  unfold yrGo onesE
  split
  ·split
   ·split
    ·exact yrGo_err v r l _ _
    ·exact yrGo_err v r l _ _
   ·exact yrGo_err v r l _ _
  ·rfl
theorem yrGo_off (v : verT.den) (r : riskT.den) : (l : List coverT.den) -> (q : Int) -> onesE v r l = 0 -> (yrGo v r l q false).2.1 = false
 | [], _, _ => rfl
 | c :: l, q, h => by
  unfold onesE at h
  unfold yrGo
  split
  ·rename_i h1
   rw [if_pos h1] at h
   rw [if_neg (by decide)]
   exact yrGo_off v r l q h
  ·rfl
theorem onesL_pos (v : verT.den) (r : riskT.den) : (l : List coverT.den) -> onesE v r l = 0 -> ∀ e ∈ onesL v r l, (0 : Int) <= e
 | [], _, _, he => by cases he
 | c :: l, h, e, he => by
  unfold onesE at h
  by_cases h1 : (oneF v r c).2 = 0
  ·rw [if_pos h1] at h
   rcases List.mem_cons.1 he with rfl | he
   ·exact oneF_pos h1
   ·exact onesL_pos v r l h e he
  ·rw [if_neg h1] at h
   exact absurd h h1
theorem sum_pos : (l : List Int) -> (∀ e ∈ l, (0 : Int) <= e) -> 0 <= l.sum
 | [], _ => Int.le_refl 0
 | a :: l, h => by
  rw [List.sum_cons]
  have := sum_pos l (fun e he => h e (List.mem_cons_of_mem _ he))
  have := h a (List.mem_cons_self ..)
  omega
theorem yrGo_sum (v : verT.den) (r : riskT.den) : (l : List coverT.den) -> (q : Int) -> 0 <= q -> q <= 4000000000000000000 -> onesE v r l = 0 ->
  (q + (onesL v r l).sum <= 4000000000000000000 -> (yrGo v r l q true).2.1 = true /\ (yrGo v r l q true).1 = q + (onesL v r l).sum) /\ (¬ q + (onesL v r l).sum <= 4000000000000000000 -> (yrGo v r l q true).2.1 = false)
 | [], q, _, h2, _ => by
  refine ⟨fun _ => ⟨rfl, ?_⟩, fun h => absurd ?_ h⟩
  ·show q = q + 0
   omega
  ·show q + 0 <= _
   omega
 | c :: l, q, h1, h2, h => by
  have hp := onesL_pos v r (c :: l) h
  unfold onesE at h
  by_cases h3 : (oneF v r c).2 = 0
  ·rw [if_pos h3] at h
   have hs : (onesL v r (c :: l)).sum = (oneF v r c).1 + (onesL v r l).sum := by
    show List.sum ((oneF v r c).1 :: onesL v r l) = _
    rw [List.sum_cons]
   have hsp := sum_pos (onesL v r l) (onesL_pos v r l h)
   have hc := oneF_pos h3
   unfold yrGo
   rw [if_pos h3, if_pos rfl, hs]
   by_cases h4 : (oneF v r c).1 > 4000000000000000000 - q
   ·rw [if_pos h4]
    exact ⟨fun hh => absurd hh (by omega), fun _ => yrGo_off v r l q h⟩
   ·rw [if_neg h4]
    obtain ⟨ih1, ih2⟩ := yrGo_sum v r l (q + (oneF v r c).1) (by omega) (by omega) h
    refine ⟨fun hh => ?_, fun hh => ih2 (by omega)⟩
    obtain ⟨j1, j2⟩ := ih1 (by omega)
    exact ⟨j1, by rw [j2]; omega⟩
  ·rw [if_neg h3] at h
   exact absurd h h3
def cYearR : Ct := ⟨[.d verT, .d riskT, .d (.sl coverT)], [i64, i64], fun x => ((yearF x.1 x.2.1 x.2.2.1).1, (yearF x.1 x.2.1 x.2.2.1).2, ()), fun x => [List.length (α := coverT.den) x.2.2.1 <= 1000000]⟩
theorem yearR_eq (v : verT.den) (r : riskT.den) (l : List coverT.den) (hl : l.length <= 1000000) : (frYearR (v, r, l, ())).ok /\ (frYearR (v, r, l, ())).get = ((yearF v r l).1, (yearF v r l).2, ()) := by
 refine Fr.need_ ⟨Int.le_refl _, Int.natCast_nonneg _, by show 0 + (l.length - 0) <= _; omega, hl⟩ ?_
 show (Fr.br (onesE v r l != 0) (Fr.val (0, onesE v r l, ())) (Fr.need (∀ e ∈ onesL v r l, (0 : Int) <= e) (Fr.br (!(sumM (onesL v r l)).2) (Fr.val (0, 5, ())) (Fr.val ((sumM (onesL v r l)).1, 0, ())))) : Fr (denL [i64, i64])).ok /\ (Fr.br (onesE v r l != 0) (Fr.val (0, onesE v r l, ())) (Fr.need (∀ e ∈ onesL v r l, (0 : Int) <= e) (Fr.br (!(sumM (onesL v r l)).2) (Fr.val (0, 5, ())) (Fr.val ((sumM (onesL v r l)).1, 0, ())))) : Fr (denL [i64, i64])).get = _
 unfold yearF
 rw [yrGo_err]
 by_cases he : onesE v r l = 0
 ·obtain ⟨s1, s2⟩ := yrGo_sum v r l 0 (Int.le_refl 0) (by decide) he
  rw [Int.zero_add] at s1 s2
  rw [if_pos he]
  refine Fr.br_f (by rw [he]; rfl) (Fr.need_ (onesL_pos v r l he) ?_)
  unfold sumM
  by_cases hs : (onesL v r l).sum <= 4000000000000000000
  ·obtain ⟨j1, j2⟩ := s1 hs
   rw [if_pos hs, if_pos j1, j2]
   exact Fr.br_f rfl ⟨trivial, rfl⟩
  ·rw [if_neg hs, if_neg (by rw [s2 hs]; decide)]
   exact Fr.br_t rfl ⟨trivial, rfl⟩
 ·rw [if_neg he]
  exact Fr.br_t (bne_iff_ne.2 he) ⟨trivial, rfl⟩
theorem yearR_ok : SoundCt Tryz.prog 81 cYearR :=
 convF yearR_run _ _ (fun w F x vs hr hok => by
  obtain ⟨v, r, l, _⟩ := x
  exact yearR_eq v r l hok)
noncomputable def CQ12 : Cx := cx [(77, cHist), (78, cVerAt), (63, cOrder11), (79, cHoldF), (80, cHolds), (81, cYearR)] []
theorem CQ12_ok : CxOK Tryz.prog CQ12 := cx_ok mixed ⟨r12_Right_ok, ref07_At_ok, order11_ok, holds12_ok, like_ok, yearR_ok, trivial⟩ trivial
abbrev pQA : Pt := ⟨124, 0, ⟨[(13, .d i64), (9, .d ints), (11, .d i64)], [.x 2 31 histT, .r 2 2 0, .x 7 71 verT, .r 7 7 0, .o 10 80 sliceT, .x 12 80 sliceT, .r 12 12 0]⟩, ⟨[(11, .d i64)], [.x 2 31 histT, .r 2 2 0, .x 7 71 verT, .r 7 7 0, .o 10 80 sliceT, .x 12 80 sliceT, .r 12 12 0]⟩, ⟨[], []⟩⟩
abbrev pQB : Pt := ⟨124, 2, ⟨[(16, .d i64)], [.o 10 80 sliceT, .x 7 71 verT, .r 7 7 0]⟩, ⟨[], [.o 10 80 sliceT]⟩, ⟨[(4, .d slsT), (5, .d i64)], []⟩⟩
set_option maxRecDepth 100000 in
def roomS (n m : Nat) : Prop := n + m <= maxLen /\ (n + m) * Tryz.prog.types[80].bytes <= 140737488355328
set_option maxRecDepth 100000 in
theorem bytesS : Tryz.prog.types[80].bytes <= 1000 := by decide
theorem room_s {n m : Nat} (h : n + m <= 1000000) : roomS n m := by
 refine ⟨?_, Nat.le_trans (Nat.mul_le_mul h bytesS) (by decide)⟩
 unfold maxLen
 omega
def fQA (x : pQA.M.X) : Fr pQA.Out :=
 let k : Int := x.1.1; let l : List Int := x.1.2.1; let a : Int := x.1.2.2.1; let h : histT.den := x.2.1; let v : verT.den := x.2.2.1; let o : List sliceT.den := x.2.2.2.1; let s : sliceT.den := x.2.2.2.2.1
 let C : changeT.den := h.2.2.2.1.getD (l.getD k.toNat 0).toNat changeT.dflt
 let N : sliceT.den := (cHoldF.f (h, l, C.2.1, ())).1
 Fr.br (decide (k < (l.length : Int)))
  (Fr.need (0 <= k /\ k < (l.length : Int))
   (Fr.need (0 <= l.getD k.toNat 0 /\ l.getD k.toNat 0 < ((List.length (α := changeT.den) h.2.2.2.1 : Nat) : Int))
    (Fr.need (∀ i ∈ l, 0 <= i /\ i < ((chL h).length : Int))
     (Fr.br ((cHolds.f (s, N, ())).1) (Fr.val (Rd.next ((IntKind.i64.wrap (k + 1), l, a, ()), (h, v, o, s, ()))))
      (Fr.need (roomS o.length [((((a, C.2.1, ()), s.2) : sliceT.den))].length)
       (Fr.val (Rd.next ((IntKind.i64.wrap (k + 1), l, C.2.1, ()), (h, v, o ++ [((((a, C.2.1, ()), s.2) : sliceT.den))], N, ())))))))))
  (Fr.val (Rd.out ((a, ()), (h, v, o, s, ()))))
theorem semQA : Does Tryz.prog (loopF Tryz.f48 0) pQA.M pQA fQA := Does.of_run CQ12_ok (bs := 0) rfl rfl rfl (fun _ => lam0_ok _ 0) (fun x => by kernel_rfl)
def goR (h : histT.den) : List changeT.den -> Int -> sliceT.den -> List sliceT.den -> Int × sliceT.den × List sliceT.den
 | [], a, s, o => (a, s, o)
 | c :: l, a, s, o => if holdsB s (holdF h c.2.1 (orderL h) (firstS h)) = true then goR h l a s o else goR h l c.2.1 (holdF h c.2.1 (orderL h) (firstS h)) (o ++ [((a, c.2.1, ()), s.2)])
structure InQA (k : Int) (l : List Int) (h : histT.den) (o : List sliceT.den) : Prop where
 k0 : 0 <= k
 kl : k <= l.length
 ord : l = orderL h
 room : o.length + (l.length - k.toNat) <= 1000000
 big : l.length <= 1000000
def endQ (h : histT.den) (v : verT.den) (r : Int × sliceT.den × List sliceT.den) : pQA.Out := Rd.out ((r.1, ()), (h, v, r.2.2, r.2.1, ()))
def FQA (x : pQA.M.X) : Fr pQA.Out :=
 let k : Int := x.1.1; let l : List Int := x.1.2.1; let a : Int := x.1.2.2.1; let h : histT.den := x.2.1; let v : verT.den := x.2.2.1; let o : List sliceT.den := x.2.2.2.1; let s : sliceT.den := x.2.2.2.2.1
 Fr.need (InQA k l h o) (Fr.val (endQ h v (goR h ((l.drop k.toNat).map (chAt h)) a s o)))
theorem lawQA (k : Int) (l : List Int) (a : Int) (h : histT.den) (v : verT.den) (o : List sliceT.den) (s : sliceT.den) (hinv : InQA k l h o) (Q : pQA.Out -> Prop)
  (hq : Q (endQ h v (goR h ((l.drop k.toNat).map (chAt h)) a s o))) :
  (fQA ((k, l, a, ()), (h, v, o, s, ()))).satP fun
   | .next x' => InQA x'.1.1 x'.1.2.1 x'.2.1 x'.2.2.2.1 /\ ((List.length (α := Int) x'.1.2.1 : Int) - x'.1.1).toNat < ((l.length : Int) - k).toNat /\ (FQA x').satP Q
   | .out y => Q (.out y)
   | .back z => Q (.back z)
   | .pan p => Q (.pan p) := by
 obtain ⟨h1, h2, h3, h4, h5⟩ := hinv
 refine ⟨fun hi => ?_, fun hi => ?_⟩
 ·have hi' : k < (l.length : Int) := of_decide_eq_true hi
  obtain ⟨k, rfl⟩ : ∃ n : Nat, k = n := ⟨k.toNat, by omega⟩
  have hl : k < l.length := by omega
  have hk : (k : Int).toNat = k := by omega
  rw [hk] at hq h4
  have hw : IntKind.i64.wrap ((k : Int) + 1) = k + 1 := IntWalk.i64_in _ (by omega)
  have g1 : l.getD (k : Int).toNat 0 = l[k] := by
   rw [hk, List.getD_eq_getElem?_getD, List.getElem?_eq_getElem hl]; rfl
  rw [List.drop_eq_getElem_cons hl, List.map_cons] at hq
  have hmem : ∀ i ∈ l, 0 <= i /\ i < ((chL h).length : Int) := fun i him => orderL_mem (by rw [← h3]; exact him)
  have hC : h.2.2.2.1.getD (l[k]).toNat changeT.dflt = chAt h l[k] := rfl
  dsimp only [fQA, Fr.satP]
  rw [g1, hw, hC]
  have hN : (cHoldF.f (h, l, (chAt h l[k]).2.1, ())).1 = holdF h (chAt h l[k]).2.1 (orderL h) (firstS h) := congrArg (fun m => holdF h (chAt h l[k]).2.1 m (firstS h)) h3
  rw [hN]
  have hk1 : ((k : Int) + 1).toNat = k + 1 := by omega
  have hμ : ((l.length : Int) - ((k : Int) + 1)).toNat < ((l.length : Int) - (k : Int)).toNat := by omega
  refine ⟨⟨by omega, by omega⟩, hmem _ (List.getElem_mem hl), hmem, fun hb => ?_, fun hb => ?_⟩
  ·have hb' : holdsB s (holdF h (chAt h l[k]).2.1 (orderL h) (firstS h)) = true := hb
   have e : goR h (chAt h l[k] :: (l.drop (k + 1)).map (chAt h)) a s o = goR h ((l.drop (k + 1)).map (chAt h)) a s o := if_pos hb'
   rw [e] at hq
   have hI : InQA ((k : Int) + 1) l h o := ⟨by omega, by omega, h3, by rw [hk1]; omega, h5⟩
   refine ⟨hI, hμ, hI, ?_⟩
   show Q (endQ h v (goR h ((l.drop ((k : Int) + 1).toNat).map (chAt h)) a s o))
   rw [hk1]
   exact hq
  ·have hb' : ¬ holdsB s (holdF h (chAt h l[k]).2.1 (orderL h) (firstS h)) = true := by
    have : holdsB s (holdF h (chAt h l[k]).2.1 (orderL h) (firstS h)) = false := hb
    rw [this]
    decide
   have e : goR h (chAt h l[k] :: (l.drop (k + 1)).map (chAt h)) a s o = goR h ((l.drop (k + 1)).map (chAt h)) (chAt h l[k]).2.1 (holdF h (chAt h l[k]).2.1 (orderL h) (firstS h)) (o ++ [((a, (chAt h l[k]).2.1, ()), s.2)]) := if_neg hb'
   rw [e] at hq
   have hI : InQA ((k : Int) + 1) l h (o ++ [((((a, (chAt h l[k]).2.1, ()), s.2) : sliceT.den))]) := ⟨by omega, by omega, h3, by rw [hk1, List.length_append, List.length_singleton]; omega, h5⟩
   refine ⟨room_s (by show o.length + 1 <= _; omega), hI, hμ, hI, ?_⟩
   show Q (endQ h v (goR h ((l.drop ((k : Int) + 1).toNat).map (chAt h)) (chAt h l[k]).2.1 (holdF h (chAt h l[k]).2.1 (orderL h) (firstS h)) (o ++ [((a, (chAt h l[k]).2.1, ()), s.2)])))
   rw [hk1]
   exact hq
 ·have hi' : ¬ k < (l.length : Int) := of_decide_eq_false hi
  have : l.drop k.toNat = [] := List.drop_eq_nil_of_le (by omega)
  rw [this] at hq
  exact hq
theorem loopA12 : Does Tryz.prog (.loop (loopF Tryz.f48 0)) pQA.M pQA FQA := by
 refine Does.loop (n := 124) (id := 0) semQA (inv := fun x => InQA x.1.1 x.1.2.1 x.2.1 x.2.2.2.1) (μ := fun x => ((List.length (α := Int) x.1.2.1 : Int) - x.1.1).toNat) ?_ (fun x Q h => h.1)
 rintro ⟨⟨k, l, a, _⟩, h, v, o, s, _⟩ hinv Q hq
 exact lawQA k l a h v o s hinv Q hq.2
def fQB (x : pQB.M.X) : Fr pQB.Out :=
 let k : Int := x.1.1; let o : List sliceT.den := x.2.1; let v : verT.den := x.2.2.1
 let s : sliceT.den := o.getD k.toNat sliceT.dflt
 Fr.br (decide (k < (o.length : Int)))
  (Fr.need (0 <= k /\ k < (o.length : Int)) (Fr.need (k.toNat < o.length)
   (Fr.br (!s.2.1) (Fr.val (Rd.next ((IntKind.i64.wrap (k + 1), ()), (o, v, ()))))
    (Fr.need (0 <= k /\ k < (o.length : Int)) (Fr.need (k.toNat < o.length) (Fr.need (0 <= k /\ k < (o.length : Int)) (Fr.need (k.toNat < o.length)
     (Fr.need (List.length (α := coverT.den) s.2.2.2.1 <= 1000000)
      (Fr.br ((cYearR.f (v, s.2.2.1, s.2.2.2.1, ())).2.1 != 0) (Fr.val (Rd.back (([], (cYearR.f (v, s.2.2.1, s.2.2.2.1, ())).2.1, ()), ())))
       (Fr.need (0 <= k /\ k < (o.length : Int)) (Fr.need (k.toNat < o.length)
        (Fr.val (Rd.next ((IntKind.i64.wrap (k + 1), ()), (o.set k.toNat (setY s (cYearR.f (v, s.2.2.1, s.2.2.2.1, ())).1), v, ())))))))))))))))
  (Fr.val (Rd.out ((), (o, ()))))
theorem semQB : Does Tryz.prog (loopF Tryz.f48 1) pQB.M pQB fQB := Does.of_run CQ12_ok (bs := 0) rfl rfl rfl (fun _ => lam0_ok _ 0) (fun x => by kernel_rfl)
structure InQB (k : Int) (o : List sliceT.den) : Prop where
 k0 : 0 <= k
 kl : k <= o.length
 big : o.length <= 1000002
 few : ∀ s ∈ o, s.2.2.2.1.length <= 1000000
def outQB (l : List sliceT.den) (e : Int) : Fr pQB.Out := Fr.br (e != 0) (Fr.val (Rd.back (([], e, ()), ()))) (Fr.val (Rd.out ((), (l, ()))))
def FQB (x : pQB.M.X) : Fr pQB.Out :=
 let k : Int := x.1.1; let o : List sliceT.den := x.2.1; let v : verT.den := x.2.2.1
 Fr.need (InQB k o) (outQB (o.take k.toNat ++ (o.drop k.toNat).map (priceV v)) (errP v (o.drop k.toNat)))
theorem lawQB (k : Int) (l : List sliceT.den) (v : verT.den) (hinv : InQB k l) (Q : pQB.Out -> Prop) (hq : (outQB (l.take k.toNat ++ (l.drop k.toNat).map (priceV v)) (errP v (l.drop k.toNat))).satP Q) :
  (fQB ((k, ()), (l, v, ()))).satP fun
   | .next x' => InQB x'.1.1 x'.2.1 /\ ((List.length (α := sliceT.den) x'.2.1 : Int) - x'.1.1).toNat < ((l.length : Int) - k).toNat /\ (FQB x').satP Q
   | .out y => Q (.out y)
   | .back z => Q (.back z)
   | .pan p => Q (.pan p) := by
 obtain ⟨h0, h1, h2, h3⟩ := hinv
 obtain ⟨i', rfl⟩ : ∃ n : Nat, k = n := ⟨k.toNat, by omega⟩
 simp only [Int.toNat_natCast] at hq
 dsimp only [fQB, Fr.satP, Ty.den, PT.den]
 simp only [Int.toNat_natCast]
 refine ⟨fun hi => ?_, fun hi => ?_⟩
 ·have hlt : i' < l.length := by have : (i' : Int) < (l.length : Int) := of_decide_eq_true hi; omega
  have w : IntKind.i64.wrap ((i' : Int) + 1) = (i' + 1 : Nat) := succ_nat (by omega)
  rw [w]
  have hg : l.getD i' sliceT.dflt = l[i'] := by rw [List.getD_eq_getElem?_getD, List.getElem?_eq_getElem hlt]; rfl
  have hd : l.drop i' = l.getD i' sliceT.dflt :: l.drop (i' + 1) := by rw [hg]; exact List.drop_eq_getElem_cons hlt
  have hμ : ((l.length : Int) - ((i' + 1 : Nat) : Int)).toNat < ((l.length : Int) - (i' : Int)).toNat := by omega
  have hb : 0 <= (i' : Int) /\ (i' : Int) < (l.length : Int) := ⟨by omega, by omega⟩
  have hmem : l.getD i' sliceT.dflt ∈ l := by rw [hg]; exact List.getElem_mem hlt
  have hfew := h3 _ hmem
  rw [hd] at hq
  generalize hs : l.getD i' sliceT.dflt = s at *
  have htk : l.take (i' + 1) = l.take i' ++ [s] := by
   rw [hg]
   exact (List.take_append_getElem hlt).symm
  refine ⟨hb, hlt, fun hoff => ?_, fun hon => ⟨hb, hlt, hb, hlt, hfew, fun he => ?_, fun he => ⟨hb, hlt, ?_⟩⟩⟩
  ·have hoff' : ¬ s.2.1 = true := by
    intro hx
    rw [hx] at hoff
    cases hoff
   have hI : InQB ((i' + 1 : Nat) : Int) l := ⟨by omega, by omega, h2, h3⟩
   refine ⟨hI, hμ, hI, ?_⟩
   have e1 : errP v (s :: l.drop (i' + 1)) = errP v (l.drop (i' + 1)) := if_neg hoff'
   have e2 : priceV v s = s := if_neg hoff'
   rw [e1, List.map_cons, e2] at hq
   show (outQB (l.take (i' + 1) ++ (l.drop (i' + 1)).map (priceV v)) (errP v (l.drop (i' + 1)))).satP Q
   rw [htk, List.append_assoc]
   exact hq
  ·have hon' : s.2.1 = true := by
    cases hx : s.2.1 with
    | true => rfl
    | false => rw [hx] at hon; cases hon
   have he' : ¬ (yrS v s).2 = 0 := bne_iff_ne.1 he
   have e1 : errP v (s :: l.drop (i' + 1)) = (yrS v s).2 := by
    unfold errP
    rw [if_pos hon', if_neg he']
   rw [e1] at hq
   exact hq.1 he
  ·have hon' : s.2.1 = true := by
    cases hx : s.2.1 with
    | true => rfl
    | false => rw [hx] at hon; cases hon
   have he' : (yrS v s).2 = 0 := by
    have : ((yrS v s).2 != 0) = false := he
    simpa using this
   have hlen : (l.set i' (setY s (yrS v s).1)).length = l.length := List.length_set
   have hI : InQB ((i' + 1 : Nat) : Int) (l.set i' (setY s (yrS v s).1)) := ⟨by omega, by rw [hlen]; omega, by rw [hlen]; exact h2, fun t ht => by
    rcases List.mem_or_eq_of_mem_set ht with ht | rfl
    ·exact h3 t ht
    ·exact hfew⟩
   refine ⟨hI, by show ((List.length (l.set i' (setY s (yrS v s).1)) : Int) - ((i' + 1 : Nat) : Int)).toNat < _; rw [hlen]; exact hμ, hI, ?_⟩
   have e1 : errP v (s :: l.drop (i' + 1)) = errP v (l.drop (i' + 1)) := by
    conv => lhs; unfold errP
    rw [if_pos hon', if_pos he']
   have e2 : priceV v s = setY s (yrS v s).1 := if_pos hon'
   rw [e1, List.map_cons, e2] at hq
   show (outQB ((l.set i' (setY s (yrS v s).1)).take (i' + 1) ++ ((l.set i' (setY s (yrS v s).1)).drop (i' + 1)).map (priceV v)) (errP v ((l.set i' (setY s (yrS v s).1)).drop (i' + 1)))).satP Q
   have e3 : (l.set i' (setY s (yrS v s).1)).drop (i' + 1) = l.drop (i' + 1) := List.drop_set_of_lt (by omega)
   have e4 : (l.set i' (setY s (yrS v s).1)).take (i' + 1) = l.take i' ++ [setY s (yrS v s).1] := by
    rw [List.take_add_one, List.take_set_of_le (by omega)]
    simp [hlt]
   rw [e3, e4, List.append_assoc]
   exact hq
 ·have hge : ¬ i' < l.length := by have : ¬ (i' : Int) < (l.length : Int) := of_decide_eq_false hi; omega
  rw [List.drop_eq_nil_of_le (by omega), List.take_of_length_le (by omega)] at hq
  have hq' := hq.2 rfl
  simp only [List.map_nil, List.append_nil] at hq'
  exact hq'
theorem loopB12 : Does Tryz.prog (.loop (loopF Tryz.f48 1)) pQB.M pQB FQB := by
 refine Does.loop (n := 124) (id := 2) semQB (inv := fun x => InQB x.1.1 x.2.1) (μ := fun x => ((List.length (α := sliceT.den) x.2.1 : Int) - x.1.1).toNat) ?_ (fun x Q h => h.1)
 rintro ⟨⟨k, _⟩, l, v, _⟩ hinv Q hq
 exact lawQB k l v hinv Q hq.2
def frQ2 (v : verT.den) (L : List sliceT.den) : Fr (denL [slsT, i64]) :=
 Fr.need (InQB 0 L) (Fr.br (errP v (L.drop (0 : Int).toNat) != 0) (Fr.val ([], errP v (L.drop (0 : Int).toNat), ())) (Fr.val (L.take (0 : Int).toNat ++ (L.drop (0 : Int).toNat).map (priceV v), 0, ())))
def lastQ (b : Int) (r : Int × sliceT.den × List sliceT.den) : sliceT.den := ((r.1, b, ()), r.2.1.2)
def frQ1 (v : verT.den) (b : Int) (r : Int × sliceT.den × List sliceT.den) : Fr (denL [slsT, i64]) :=
 Fr.need (roomS r.2.2.length [lastQ b r].length) (frQ2 v (r.2.2 ++ [lastQ b r]))
def runR (h : histT.den) : Int × sliceT.den × List sliceT.den := goR h (((orderL h).drop (0 : Int).toNat).map (chAt h)) h.2.2.1.1.1 (cHoldF.f (h, orderL h, h.2.2.1.1.1, ())).1 []
def frQ (x : denP [.d histT, .d tarT]) : Fr (denL [slsT, i64]) :=
 let h : histT.den := x.1; let t : tarT.den := x.2.1
 Fr.br (!(cHist.f (h, ())).1) (Fr.val ([], 1, ()))
  (Fr.br ((cVerAt.f (t, h.2.2.1.1.1, ())).2.1 != 0) (Fr.val ([], (cVerAt.f (t, h.2.2.1.1.1, ())).2.1, ()))
   (Fr.need (((chL h).length : Int) <= 1000000)
    (Fr.need (∀ i ∈ orderL h, 0 <= i /\ i < ((chL h).length : Int))
     (Fr.need (InQA 0 (orderL h) h [])
      (frQ1 (cVerAt.f (t, h.2.2.1.1.1, ())).1 h.2.2.1.1.2.1 (runR h))))))
theorem q_run : SoundCt Tryz.prog 48 ⟨[.d histT, .d tarT], [slsT, i64], fun xs => (frQ xs).get, fun xs => [(frQ xs).ok]⟩ :=
 fn_sound CQ12_ok (Λ := (fun k => if k = 0 then pQA.han CQ12.Γ pQA.M FQA else pQB.han CQ12.Γ pQB.M FQB)) (fn := Tryz.f48) (fr := frQ) (ps := [.d histT, .d tarT]) (rs := [slsT, i64]) (histT.dflt, tarT.dflt, ()) (by kernel_rfl)
  (fun c E hc => lam2f hc (by kernel_rfl) (b0 := loopF Tryz.f48 0) (b1 := loopF Tryz.f48 1) (by kernel_rfl) (by kernel_rfl) (Does.han CQ12_ok rfl loopA12) (Does.han CQ12_ok rfl loopB12)) (fun x => by kernel_rfl)
theorem holdF_span (h : histT.den) (d : Int) : (l : List Int) -> (s : sliceT.den) -> (holdF h d l s).2.2.2.2.1 = s.2.2.2.2.1
 | [], _ => rfl
 | i :: l, s => by
  unfold holdF
  rw [holdF_span h d l]
  split
  ·rfl
  ·exact (does_span s _).2
def nxQ (h : histT.den) (d : Int) : sliceT.den := holdF h d (orderL h) (firstS h)
theorem nxQ_core (h : histT.den) (d : Int) : coreS (nxQ h d) = stOf h d := holdF_core h d (orderL h) (firstS h)
theorem nxQ_yearly (h : histT.den) (d : Int) : (nxQ h d).2.2.2.2.1 = (0 : Int) := holdF_span h d (orderL h) (firstS h)
theorem Runs.snoc {st : Int -> Core} {m n : Int} {s : sliceT.den} (h1 : s.1.1 = m) (h2 : s.1.2.1 = n) (h3 : m < n) (h4 : s.2.2.2.2.1 = (0 : Int)) (h5 : ∀ d, m <= d -> d < n -> coreS s = st d) :
  {a : Int} -> {l : List sliceT.den} -> Runs st m a l -> (∀ t, l.getLast? = some t -> coreS t ≠ coreS s) -> Runs st n a (l ++ [s])
 | a, [], h, _ => by
  have h0 : a = m := h
  subst h0
  exact ⟨h1, by rw [h2]; exact h3, h4, by rw [h2]; exact h5, fun t ht => (by cases ht), h2⟩
 | a, t :: l, h, hl => by
  obtain ⟨k1, k2, k3, k4, k5, k6⟩ := h
  refine ⟨k1, k2, k3, k4, ?_, Runs.snoc h1 h2 h3 h4 h5 k6 (fun u hu => hl u ?_)⟩
  ·intro u hu
   cases l with
   | nil =>
    have hu' : some s = some u := hu
    cases hu'
    exact hl t rfl
   | cons x l => exact k5 u hu
  ·cases l with
   | nil => cases hu
   | cons x l => rw [List.getLast?_cons_cons]; exact hu
theorem st_same {h : histT.den} {a d : Int} (had : a <= d) (hn : ∀ c ∈ chsO h, c.2.1 <= a ∨ d < c.2.1) : stOf h d = stOf h a := by
 unfold stOf
 rw [← holdK_filter d (chsO h), ← holdK_filter a (chsO h)]
 have : ((chsO h).filter fun c => decide (c.2.1 <= d)) = (chsO h).filter fun c => decide (c.2.1 <= a) := by
  apply List.filter_congr
  intro c hc
  rw [decide_eq_decide]
  rcases hn c hc with q | q
  ·exact ⟨fun _ => q, fun _ => Int.le_trans q had⟩
  ·exact ⟨fun q2 => absurd q (Int.not_lt.2 q2), fun q2 => Int.le_trans q2 had⟩
 rw [this]
 refine holdK_all (fun c hc => ?_) (fun c hc => ?_) _
 ·have := of_decide_eq_true (List.mem_filter.1 hc).2
  exact Int.le_trans this had
 ·exact of_decide_eq_true (List.mem_filter.1 hc).2
def finQ (b : Int) (r : Int × sliceT.den × List sliceT.den) : List sliceT.den := r.2.2 ++ [lastQ b r]
theorem goR_runs {h : histT.den} {a0 b : Int} : (l p : List changeT.den) -> p ++ l = chsO h -> (a lo : Int) -> (s : sliceT.den) -> (o : List sliceT.den) -> (∀ x ∈ p, x.2.1 <= lo) -> a <= lo -> lo < b -> (∀ d, a <= d -> d <= lo -> stOf h d = coreS s) -> s.2.2.2.2.1 = (0 : Int) ->
  Runs (stOf h) a a0 o -> (∀ t, o.getLast? = some t -> coreS t ≠ coreS s) -> (∀ x ∈ l, lo <= x.2.1 /\ x.2.1 < b) -> l.Pairwise (fun x y => x.2.1 <= y.2.1) -> Runs (stOf h) b a0 (finQ b (goR h l a s o))
 | [], p, hp, a, lo, s, o, h1, h2, h3, h4, h5, h6, h7, _, _ => by
  rw [List.append_nil] at hp
  refine Runs.snoc (s := ((a, b, ()), s.2)) rfl rfl (Int.lt_of_le_of_lt h2 h3) h5 (fun d q1 q2 => ?_) h6 h7
  show coreS s = stOf h d
  by_cases hd : d <= lo
  ·exact (h4 d q1 hd).symm
  ·rw [st_same (a := lo) (d := d) (Int.le_of_lt (Int.not_le.1 hd)) (fun c hc => .inl (h1 c (by rw [hp]; exact hc)))]
   exact (h4 lo h2 (Int.le_refl _)).symm
 | c :: l, p, hp, a, lo, s, o, h1, h2, h3, h4, h5, h6, h7, h8, h9 => by
  obtain ⟨c1, c2⟩ := h8 c (List.mem_cons_self ..)
  have hpw := List.pairwise_cons.1 h9
  have hcut : ∀ x ∈ chsO h, x.2.1 <= lo ∨ c.2.1 <= x.2.1 := fun x hx => by
   rw [← hp, List.mem_append] at hx
   rcases hx with hx | hx
   ·exact .inl (h1 x hx)
   ·rcases List.mem_cons.1 hx with rfl | hx
    ·exact .inr (Int.le_refl _)
    ·exact .inr (hpw.1 x hx)
  have hmid : ∀ d, a <= d -> d < c.2.1 -> stOf h d = coreS s := fun d q1 q2 => by
   by_cases hd : d <= lo
   ·exact h4 d q1 hd
   ·rw [st_same (a := lo) (d := d) (Int.le_of_lt (Int.not_le.1 hd)) (fun x hx => (hcut x hx).imp_right fun q => Int.lt_of_lt_of_le q2 q)]
    exact h4 lo h2 (Int.le_refl _)
  have hp' : (p ++ [c]) ++ l = chsO h := by
   rw [List.append_assoc]
   exact hp
  have hpl : ∀ x ∈ p ++ [c], x.2.1 <= c.2.1 := fun x hx => by
   rcases List.mem_append.1 hx with hx | hx
   ·exact Int.le_trans (h1 x hx) c1
   ·rw [List.mem_singleton.1 hx]
    exact Int.le_refl _
  have hll : ∀ x ∈ l, c.2.1 <= x.2.1 /\ x.2.1 < b := fun x hx => ⟨hpw.1 x hx, (h8 x (List.mem_cons_of_mem _ hx)).2⟩
  unfold goR
  by_cases hlike : holdsB s (holdF h c.2.1 (orderL h) (firstS h)) = true
  ·rw [if_pos hlike]
   have hc : coreS s = stOf h c.2.1 := (holdsB_iff.1 hlike).trans (nxQ_core h c.2.1)
   refine goR_runs l (p ++ [c]) hp' a c.2.1 s o hpl (Int.le_trans h2 c1) c2 (fun d q1 q2 => ?_) h5 h6 h7 hll hpw.2
   by_cases hd : d < c.2.1
   ·exact hmid d q1 hd
   ·have : d = c.2.1 := Int.le_antisymm q2 (Int.not_lt.1 hd)
    rw [this]
    exact hc.symm
  ·rw [if_neg hlike]
   have hne : coreS s ≠ stOf h c.2.1 := fun hh => hlike (holdsB_iff.2 (hh.trans (nxQ_core h c.2.1).symm))
   have hlt : a < c.2.1 := by
    apply Classical.byContradiction
    intro hn
    have hge := Int.not_lt.1 hn
    have e : c.2.1 = a := Int.le_antisymm hge (Int.le_trans h2 c1)
    exact hne (by rw [e]; exact (h4 a (Int.le_refl _) h2).symm)
   refine goR_runs l (p ++ [c]) hp' c.2.1 c.2.1 (nxQ h c.2.1) (o ++ [((a, c.2.1, ()), s.2)]) hpl (Int.le_refl _) c2 (fun d q1 q2 => ?_) (nxQ_yearly h c.2.1) ?_ ?_ hll hpw.2
   ·have : d = c.2.1 := Int.le_antisymm q2 q1
    rw [this]
    exact (nxQ_core h c.2.1).symm
   ·exact Runs.snoc (s := ((a, c.2.1, ()), s.2)) rfl rfl hlt h5 (fun d q1 q2 => (hmid d q1 q2).symm) h6 h7
   ·intro t ht
    rw [List.getLast?_concat] at ht
    cases ht
    rw [nxQ_core]
    exact hne
theorem goR_length (h : histT.den) : (l : List changeT.den) -> (a : Int) -> (s : sliceT.den) -> (o : List sliceT.den) -> (goR h l a s o).2.2.length <= o.length + l.length
 | [], _, _, _ => Nat.le_refl _
 | c :: l, a, s, o => by
  unfold goR
  split
  ·have := goR_length h l a s o
   rw [List.length_cons]
   omega
  ·have := goR_length h l c.2.1 (holdF h c.2.1 (orderL h) (firstS h)) (o ++ [((a, c.2.1, ()), s.2)])
   rw [List.length_append, List.length_singleton] at this
   rw [List.length_cons]
   omega
theorem runR_cut {h : histT.den} (hh : histB h = true) : finQ h.2.2.1.1.2.1 (runR h) = cutL h := by
 have ho := histOk hh
 refine Runs.uniq ?_ (cutL_runs hh)
 refine goR_runs (h := h) (chsO h) [] rfl h.2.2.1.1.1 h.2.2.1.1.1 (nxQ h h.2.2.1.1.1) [] (fun x hx => (by cases hx)) (Int.le_refl _) ho.ab (fun d q1 q2 => ?_) (nxQ_yearly h _) rfl (fun t ht => (by cases ht)) (fun x hx => ?_) (chsO_sorted h)
 ·have : d = h.2.2.1.1.1 := Int.le_antisymm q2 q1
  rw [this]
  exact (nxQ_core h _).symm
 ·exact (ho.chs x (chsO_mem hx)).2
theorem Runs.memQ {st : Int -> Core} {b : Int} : {a : Int} -> {l : List sliceT.den} -> Runs st b a l -> ∀ s ∈ l, a <= s.1.1 /\ s.1.1 < s.1.2.1 /\ s.1.2.1 <= b /\ ∀ d, s.1.1 <= d -> d < s.1.2.1 -> coreS s = st d
 | _, [], _, _, hs => by cases hs
 | a, t :: l, h, s, hs => by
  obtain ⟨h1, h2, h3, h4, h5, h6⟩ := h
  rcases List.mem_cons.1 hs with rfl | hs
  ·rw [h1]
   exact ⟨Int.le_refl _, h2, h6.le, h4⟩
  ·obtain ⟨q1, q2⟩ := Runs.memQ h6 s hs
   exact ⟨Int.le_trans (Int.le_of_lt h2) q1, q2⟩
theorem holdK_few {d : Int} {n : Nat} : (l : List changeT.den) -> (k : Core) -> (∀ c ∈ l, c.2.2.2.2.1.length <= n) -> k.2.2.length <= n -> (holdK d l k).2.2.length <= n
 | [], _, _, hk => hk
 | c :: l, k, hl, hk => by
  unfold holdK
  refine holdK_few l _ (fun x hx => hl x (List.mem_cons_of_mem _ hx)) ?_
  split
  ·exact hk
  ·unfold doesK
   repeat' split
   all_goals first | exact hk | exact hl c (List.mem_cons_self ..)
theorem cutL_few {h : histT.den} (hh : histB h = true) (hf : fewH h) : ∀ s ∈ cutL h, s.2.2.2.1.length <= 1000000 := fun s hs => by
 obtain ⟨_, m2, _, m4⟩ := (cutL_runs hh).memQ s hs
 have hc := m4 s.1.1 (Int.le_refl _) m2
 have e : s.2.2.2.1 = (stOf h s.1.1).2.2 := congrArg (fun k : Core => k.2.2) hc
 rw [e]
 exact holdK_few (chsO h) _ (fun c hc => hf.2.2 c (chsO_mem hc)) hf.2.1
theorem q2_eq {v : verT.den} {L : List sliceT.den} (hl : L.length <= 1000002) (hf : ∀ s ∈ L, s.2.2.2.1.length <= 1000000) :
  (frQ2 v L).ok /\ (frQ2 v L).get = if errP v L = 0 then (L.map (priceV v), 0, ()) else ([], errP v L, ()) := by
 refine Fr.need_ ⟨Int.le_refl _, Int.natCast_nonneg _, hl, hf⟩ ?_
 by_cases he : errP v L = 0
 ·rw [if_pos he]
  exact Fr.br_f (by show (errP v L != 0) = false; rw [he]; rfl) ⟨trivial, rfl⟩
 ·rw [if_neg he]
  exact Fr.br_t (bne_iff_ne.2 he) ⟨trivial, rfl⟩
theorem of12_ok : SoundCt Tryz.prog 48 cOf :=
 convF q_run _ _ (fun w F x vs hr hok => by
  obtain ⟨h, t, _⟩ := x
  obtain ⟨hf, f4⟩ : fewH h /\ fewT t := hok
  show (frQ (h, t, ())).ok /\ (frQ (h, t, ())).get = ((ofF h t).1, (ofF h t).2, ())
  unfold ofF
  cases hh : histB h with
  | false =>
   refine Fr.br_t ?_ ⟨trivial, rfl⟩
   show (!(histB h)) = true
   rw [hh]
   rfl
  | true =>
   rw [if_pos rfl]
   refine Fr.br_f ?_ ?_
   ·show (!(histB h)) = false
    rw [hh]
    rfl
   ·by_cases hv : (verAt h.2.2.1.1.1 t.1.reverse).2 = 0
    ·rw [if_pos hv]
     have hlen := orderL_length h
     have hf1 := hf.1
     have hgo : (runR h).2.2.length <= (chL h).length := by
      have := goR_length h (((orderL h).drop (0 : Int).toNat).map (chAt h)) h.2.2.1.1.1 (cHoldF.f (h, orderL h, h.2.2.1.1.1, ())).1 []
      have e : (((orderL h).drop (0 : Int).toNat).map (chAt h)).length = (chL h).length := by
       rw [List.length_map]
       exact hlen
      rw [e] at this
      have h2 : (runR h).2.2.length <= 0 + (chL h).length := this
      omega
     refine Fr.br_f ?_ (Fr.need_ ?_ (Fr.need_ (fun i hi => orderL_mem hi) (Fr.need_ ⟨Int.le_refl _, Int.natCast_nonneg _, rfl, ?_, ?_⟩ (Fr.need_ (room_s ?_) ?_))))
     ·show ((verAt h.2.2.1.1.1 t.1.reverse).2 != 0) = false
      rw [hv]
      rfl
     ·show ((chL h).length : Int) <= 1000000
      omega
     ·show 0 + ((orderL h).length - 0) <= 1000000
      omega
     ·show (orderL h).length <= 1000000
      omega
     ·show (runR h).2.2.length + 1 <= 1000000
      omega
     ·have hfin : (runR h).2.2 ++ [lastQ h.2.2.1.1.2.1 (runR h)] = cutL h := runR_cut hh
      have hcl : (cutL h).length <= 1000002 := by
       rw [← hfin, List.length_append, List.length_singleton]
       omega
      show (frQ2 (verAt h.2.2.1.1.1 t.1.reverse).1 ((runR h).2.2 ++ [lastQ h.2.2.1.1.2.1 (runR h)])).ok /\ (frQ2 (verAt h.2.2.1.1.1 t.1.reverse).1 ((runR h).2.2 ++ [lastQ h.2.2.1.1.2.1 (runR h)])).get = _
      rw [hfin]
      have := q2_eq (v := (verAt h.2.2.1.1.1 t.1.reverse).1) hcl (cutL_few hh hf)
      refine ⟨this.1, this.2.trans ?_⟩
      split <;> rfl
    ·rw [if_neg hv]
     refine Fr.br_t ?_ ⟨trivial, rfl⟩
     show ((verAt h.2.2.1.1.1 t.1.reverse).2 != 0) = true
     exact bne_iff_ne.2 hv)
def y0 (h : histT.den) : denY fsK := (h.1, h.2.1, h.2.2.1.1.1, h.2.2.1.1.2.1, h.2.2.1.2.1.1, h.2.2.1.2.1.2.1, h.2.2.1.2.1.2.2.1, h.2.2.1.2.1.2.2.2.1, h.2.2.1.2.2.1, [], ())
def ofK (y : denY fsK) : histT.den := (y.1, y.2.1, ((y.2.2.1, y.2.2.2.1, ()), (y.2.2.2.2.1, y.2.2.2.2.2.1, y.2.2.2.2.2.2.1, y.2.2.2.2.2.2.2.1, ()), y.2.2.2.2.2.2.2.2.1, ()), y.2.2.2.2.2.2.2.2.2.1, ())
def frAtR (x : denP [.d histT, .d i64]) : Fr (denL [histT, i64]) :=
 let h : histT.den := x.1; let d : Int := x.2.1
 Fr.br (decide (h.2.1 > d)) (Fr.val (noHist, 7, ())) (Fr.need (InAR d 0 h.2.2.2.1 (y0 h)) (Fr.val (ofK (setK (y0 h) (uptoB d h.2.2.2.1)), 0, ())))
theorem atR_run : SoundCt Tryz.prog 69 ⟨[.d histT, .d i64], [histT, i64], fun xs => (frAtR xs).get, fun xs => [(frAtR xs).ok]⟩ :=
 fn_sound CR0_ok (Λ := fun _ => ptAR.han CR0.Γ ptAR.M FAR) (fn := Tryz.f69) (fr := frAtR) (ps := [.d histT, .d i64]) (rs := [histT, i64]) (histT.dflt, 0, ()) (by kernel_rfl)
  (fun c E hc => lam1f hc (by kernel_rfl) (b := loopF Tryz.f69 0) (by kernel_rfl) (Does.han CR0_ok rfl loopAR)) (fun x => by kernel_rfl)
theorem atR_eq (h : histT.den) (d : Int) (hf : fewH h) : (frAtR (h, d, ())).ok /\ (frAtR (h, d, ())).get = ((atH h d).1, (atH h d).2, ()) := by
 unfold atH
 by_cases h1 : d < h.2.1
 ·rw [if_pos h1]
  exact Fr.br_t (by simpa using h1) ⟨trivial, rfl⟩
 ·rw [if_neg h1]
  exact Fr.br_f (by simpa using h1) (Fr.need_ ⟨Int.le_refl _, Int.natCast_nonneg _, hf.1, rfl⟩ ⟨trivial, rfl⟩)
theorem atR_ok : SoundCt Tryz.prog 69 cKAt :=
 convF atR_run _ _ (fun w F x vs hr hok => by
  obtain ⟨h, d, _⟩ := x
  exact atR_eq h d hok)
noncomputable def CRs : Cx := cx [(69, cKAt), (48, cOf)] []
theorem CRs_ok : CxOK Tryz.prog CRs := cx_ok (ps := []) mixed ⟨atR_ok, of12_ok, trivial⟩ trivial
theorem slR_ok : SoundCt Tryz.prog 40 cKSl :=
 convF (fn_sound CRs_ok (Λ := lam0) (fn := Tryz.f40) (fr := frKSl) (ps := [.d histT, .d tarT, .d i64]) (rs := [slsT, i64]) (histT.dflt, tarT.dflt, 0, ()) (by kernel_rfl) (fun c E _ => lam0_ok c 0) (fun x => by kernel_rfl)) _ _
  (fun w F x vs hr hok => by
   obtain ⟨h, t, d, _⟩ := x
   exact kSl_eq h t d hok.1 hok.2)
noncomputable def CRc : Cx := cx [(39, cClaim), (40, cKSl), (41, cAt), (42, cFind)] []
theorem CRc_ok : CxOK Tryz.prog CRc := cx_ok (ps := []) mixed ⟨rRight_ok, slR_ok, r12_At_ok, findR_ok, trivial⟩ trivial
def isn (b : Bool) (e : Int) (k : Fr (denL [coverT, i64])) : Fr (denL [coverT, i64]) := Fr.br b (Fr.val ((0, 0, 0, 0, 0, ()), e, ())) k
def frCovR (x : denP [.d histT, .d tarT, .d claimT]) : Fr (denL [coverT, i64]) :=
 let h : histT.den := x.1; let t : tarT.den := x.2.1; let c : claimT.den := x.2.2.1
 let q : denL [slsT, i64] := cKSl.f (h, t, c.2.2.2.2.1, ()); let s : denL [sliceT, .bool] := cAt.f (q.1, c.2.2.2.1, ()); let f : denL [coverT, .bool] := cFind.f (s.1.2.2.2.1, c.2.2.1, ())
 isn (!(cClaim.f (c, ())).1) 1 (isn (decide (c.2.2.2.2.1 < c.2.2.2.1)) 4 (isn (c.2.1 != h.1) 7 (Fr.need (fewH h) (Fr.need (fewT t)
  (isn (q.2.1 != 0) q.2.1 (isn (bif !s.2.1 then true else !s.1.2.1) 11 (isn (!f.2.1) 11 (Fr.val (f.1, 0, ())))))))))
theorem covR_run : SoundCt Tryz.prog 13 ⟨[.d histT, .d tarT, .d claimT], [coverT, i64], fun xs => (frCovR xs).get, fun xs => [(frCovR xs).ok]⟩ :=
 fn_sound CRc_ok (Λ := lam0) (fn := Tryz.f13) (fr := frCovR) (ps := [.d histT, .d tarT, .d claimT]) (rs := [coverT, i64]) (histT.dflt, tarT.dflt, claimT.dflt, ()) (by kernel_rfl) (fun c E _ => lam0_ok c 0) (fun x => by kernel_rfl)
theorem isn_t {b : Bool} {e : Int} {k : Fr (denL [coverT, i64])} (hb : b = true) : (isn b e k).ok /\ (isn b e k).get = (noCover, e, ()) := Fr.br_t hb ⟨trivial, rfl⟩
theorem isn_f {b : Bool} {e : Int} {k : Fr (denL [coverT, i64])} {y : denL [coverT, i64]} (hb : b = false) (hk : k.ok /\ k.get = y) : (isn b e k).ok /\ (isn b e k).get = y := Fr.br_f hb hk
theorem covR_eq (h : histT.den) (t : tarT.den) (c : claimT.den) (hf : fewH h) (ht : fewT t) : (frCovR (h, t, c, ())).ok /\ (frCovR (h, t, c, ())).get = ((covF h t c).1, (covF h t c).2, ()) := by
 unfold covF
 by_cases h1 : claimC c = true
 ·rw [if_pos h1]
  refine isn_f (by show (!(claimC c)) = false; rw [h1]; rfl) ?_
  by_cases h2 : c.2.2.2.1 <= c.2.2.2.2.1
  ·rw [if_pos h2]
   refine isn_f (decide_eq_false (Int.not_lt.2 h2)) ?_
   by_cases h3 : c.2.1 = h.1
   ·rw [if_pos h3]
    refine isn_f (by simp [h3]) (Fr.need_ hf (Fr.need_ ht ?_))
    by_cases h4 : (knownS h t c.2.2.2.2.1).2 = 0
    ·rw [if_pos h4]
     refine isn_f (by show ((knownS h t c.2.2.2.2.1).2 != 0) = false; simp [h4]) ?_
     unfold cover1
     cases h5 : (atS (knownS h t c.2.2.2.2.1).1 c.2.2.2.1).2 with
     | false => exact isn_t (by show (bif !(atS (knownS h t c.2.2.2.2.1).1 c.2.2.2.1).2 then true else _) = true; rw [h5]; rfl)
     | true =>
      cases h6 : (atS (knownS h t c.2.2.2.2.1).1 c.2.2.2.1).1.2.1 with
      | false => exact isn_t (by show (bif !(atS (knownS h t c.2.2.2.2.1).1 c.2.2.2.1).2 then true else !(atS (knownS h t c.2.2.2.2.1).1 c.2.2.2.1).1.2.1) = true; rw [h5, h6]; rfl)
      | true =>
       refine isn_f (by show (bif !(atS (knownS h t c.2.2.2.2.1).1 c.2.2.2.1).2 then true else !(atS (knownS h t c.2.2.2.2.1).1 c.2.2.2.1).1.2.1) = false; rw [h5, h6]; rfl) ?_
       cases h7 : (findP c.2.2.1 (atS (knownS h t c.2.2.2.2.1).1 c.2.2.2.1).1.2.2.2.1).2 with
       | false => exact isn_t (by show (!(findP c.2.2.1 (atS (knownS h t c.2.2.2.2.1).1 c.2.2.2.1).1.2.2.2.1).2) = true; rw [h7]; rfl)
       | true => exact isn_f (by show (!(findP c.2.2.1 (atS (knownS h t c.2.2.2.2.1).1 c.2.2.2.1).1.2.2.2.1).2) = false; rw [h7]; rfl) ⟨trivial, rfl⟩
    ·rw [if_neg h4]
     exact isn_t (by show ((knownS h t c.2.2.2.2.1).2 != 0) = true; simp [h4])
   ·rw [if_neg h3]
    exact isn_t (by simpa using h3)
  ·rw [if_neg h2]
   exact isn_t (decide_eq_true (Int.not_le.1 h2))
 ·rw [if_neg h1]
  exact isn_t (by show (!(claimC c)) = true; rw [Bool.eq_false_iff.2 h1]; rfl)
theorem covR_ok : SoundCt Tryz.prog 13 cCov :=
 convF covR_run _ _ (fun w F x vs hr hok => by
  obtain ⟨h, t, c, _⟩ := x
  exact covR_eq h t c hok.1 hok.2)
noncomputable def CRy : Cx := cx [(13, cCov)] []
theorem CRy_ok : CxOK Tryz.prog CRy := cx_ok (ps := []) mixed ⟨covR_ok, trivial⟩ trivial
abbrev ptRy : Pt := ⟨32, 0, ⟨[(2, .d clsT), (8, .d i64)], [.x 3 31 histT, .r 3 3 0, .x 4 34 tarT, .r 4 4 0, .o 7 41 i64]⟩, ⟨[], [.o 7 41 i64]⟩, ⟨[], []⟩⟩
def frRy (x : ptRy.M.X) : Fr ptRy.Out :=
 let l : List claimT.den := x.1.1; let i : Int := x.1.2.1; let h : histT.den := x.2.1; let t : tarT.den := x.2.2.1; let o : List Int := x.2.2.2.1
 let e : Int := (cCov.f (h, t, l.getD i.toNat claimT.dflt, ())).2.1
 Fr.br (decide (i < (l.length : Int)))
  (Fr.need (0 <= i /\ i < (l.length : Int)) (Fr.need (fewH h) (Fr.need (fewT t) (Fr.need (roomE o.length (List.length [e]))
   (Fr.val (Rd.next ((l, IntKind.i64.wrap (i + 1), ()), (h, t, o ++ [e], ()))))))))
  (Fr.val (Rd.out ((), (o, ()))))
def FRy (x : ptRy.M.X) : Fr ptRy.Out := Fr.need (InvWy x.2.1 x.2.2.1 x.1.1 (List.length (α := claimT.den) x.1.1) x.1.2.1 x.2.2.2.1) (Fr.val (Rd.out ((), (whyL x.2.1 x.2.2.1 x.1.1, ()))))
theorem semRy : Does Tryz.prog (loopF Tryz.f16 0) ptRy.M ptRy frRy :=
 Does.of_run CRy_ok (bs := 0) (Λ := lam0) rfl rfl rfl (fun E => lam0_ok _ 0) (fun x => by kernel_rfl)
theorem lawRy (h : histT.den) (t : tarT.den) (l : List claimT.den) (i : Int) (o : List Int) (hinv : InvWy h t l l.length i o) (Q : ptRy.Out -> Prop) (hq : Q (Rd.out ((), (whyL h t l, ())))) : (frRy ((l, i, ()), (h, t, o, ()))).satP fun
   | .next x' => InvWy x'.2.1 x'.2.2.1 x'.1.1 (List.length (α := claimT.den) x'.1.1) x'.1.2.1 x'.2.2.2.1 /\ ((List.length (α := claimT.den) x'.1.1 : Int) - x'.1.2.1).toNat < ((l.length : Int) - i).toNat /\ (FRy x').satP Q
   | .out y => Q (.out y)
   | .back z => Q (.back z)
   | .pan p => Q (.pan p) := by
 obtain ⟨hf, ht, h0, h1, h2, h3, h5⟩ := hinv
 obtain ⟨k, rfl⟩ : ∃ k : Nat, i = k := ⟨i.toNat, by omega⟩
 dsimp only [frRy, Fr.satP]
 rw [Int.toNat_natCast] at h5 ⊢
 subst h5
 refine ⟨fun hi => ?_, fun hi => ?_⟩
 ·have hk : k < l.length := by have : (k : Int) < (l.length : Int) := of_decide_eq_true hi; omega
  have w1 : IntKind.i64.wrap ((k : Int) + 1) = ((k + 1 : Nat) : Int) := by rw [i64w (by omega)]; omega
  have hs : whyL h t (l.take k) ++ [(covF h t (l.getD k claimT.dflt)).2] = whyL h t (l.take (k + 1)) := by
   unfold whyL
   rw [List.take_add_one, List.map_append, List.getD_eq_getElem?_getD, List.getElem?_eq_getElem hk]
   rfl
  have hI : InvWy h t l l.length ((k + 1 : Nat) : Int) (whyL h t (l.take (k + 1))) := ⟨hf, ht, by omega, by omega, rfl, h3, by rw [Int.toNat_natCast]⟩
  have hl : (whyL h t (l.take k)).length = k := by unfold whyL; rw [List.length_map, List.length_take]; omega
  rw [w1]
  refine ⟨⟨by omega, by omega⟩, hf, ht, roomE_mil (by rw [hl]; show k + 1 <= 1000000; omega), ?_⟩
  have hs' : whyL h t (l.take k) ++ [(cCov.f (h, t, l.getD k claimT.dflt, ())).2.1] = whyL h t (l.take (k + 1)) := hs
  rw [hs']
  exact ⟨hI, by omega, hI, hq⟩
 ·have hk : ¬ (k : Int) < (l.length : Int) := of_decide_eq_false hi
  rw [List.take_of_length_le (by omega)]
  exact hq
theorem loopRy : Does Tryz.prog (.loop (loopF Tryz.f16 0)) ptRy.M ptRy FRy := by
 refine Does.loop (n := 32) (id := 0) semRy (inv := fun x => InvWy x.2.1 x.2.2.1 x.1.1 (List.length (α := claimT.den) x.1.1) x.1.2.1 x.2.2.2.1) (μ := fun x => ((List.length (α := claimT.den) x.1.1 : Int) - x.1.2.1).toNat) ?_ (fun x Q h => h.1)
 rintro ⟨⟨l, i, _⟩, h, t, o, _⟩ hinv Q hq
 exact lawRy h t l i o hinv Q hq.2
theorem whyR_run : SoundCt Tryz.prog 16 ⟨[.d histT, .d tarT, .d clsT], [ints], fun xs => (frWhy xs).get, fun xs => [(frWhy xs).ok]⟩ :=
 fn_sound CRy_ok (Λ := fun _ => ptRy.han CRy.Γ ptRy.M FRy) (fn := Tryz.f16) (fr := frWhy) (ps := [.d histT, .d tarT, .d clsT]) (rs := [ints]) (histT.dflt, tarT.dflt, [], ()) (by kernel_rfl)
  (fun c E hc => lam1f hc (by kernel_rfl) (b := loopF Tryz.f16 0) (by kernel_rfl) (Does.han CRy_ok rfl loopRy)) (fun x => by kernel_rfl)
theorem whyR_ok : SoundCt Tryz.prog 16 cWhy :=
 convF whyR_run _ _ (fun w F x vs hr hok => by
  obtain ⟨h, t, l, _⟩ := x
  obtain ⟨h1, h2, h3⟩ := hok
  exact ⟨⟨⟨h1, h2, Int.le_refl _, by omega, rfl, h3, rfl⟩, trivial⟩, rfl⟩)
noncomputable def CLc : Cx := cx [(11, cYes17), (10, cFew), (12, cCov), (13, cCov), (15, cWhy), (16, cWhy), (14, cSame17)] []
theorem CLc_ok : CxOK Tryz.prog CLc := cx_ok (ps := []) mixed ⟨alive17_ok, few_ok, cov_ok, covR_ok, why_ok, whyR_ok, same17_ok, trivial⟩ trivial
theorem cover1_no (l : List sliceT.den) (c : claimT.den) : (cover1 l c).2 = 0 ∨ (cover1 l c).1 = noCover := by
 unfold cover1
 split
 ·split
  ·exact .inl rfl
  ·exact .inr rfl
 ·exact .inr rfl
theorem covF_no (h : histT.den) (t : tarT.den) (c : claimT.den) : (covF h t c).2 = 0 ∨ (covF h t c).1 = noCover := by
 unfold covF
 split
 ·split
  ·split
   ·split
    ·exact cover1_no _ _
    ·exact .inr rfl
   ·exact .inr rfl
  ·exact .inr rfl
 ·exact .inr rfl
def eqCov (a b : coverT.den) : Bool := a.1 == b.1 && (a.2.1 == b.2.1 && (a.2.2.1 == b.2.2.1 && (a.2.2.2.1 == b.2.2.2.1 && (a.2.2.2.2.1 == b.2.2.2.2.1 && true))))
theorem eqCov_self (a : coverT.den) : eqCov a a = true := by simp [eqCov]
def frLC (x : denP [.d histT, .d tarT, .d claimT]) : Fr (denL [.bool]) :=
 let h : histT.den := x.1; let t : tarT.den := x.2.1; let c : claimT.den := x.2.2.1
 let a : coverT.den := (covF h t c).1; let e : Int := (covF h t c).2
 Fr.br (!(cFew.f (h, t, ())).1) (Fr.val (true, ())) (Fr.need (fewH h) (Fr.need (fewT t) (Fr.need (fewH h) (Fr.need (fewT t)
  (Fr.val (bif bif bif true then eqCov a a else false then e == e else false then (bif e == 0 then true else eqCov a noCover) else false, ()))))))
theorem lC_run : SoundCt Tryz.prog 3 ⟨[.d histT, .d tarT, .d claimT], [.bool], fun xs => (frLC xs).get, fun xs => [(frLC xs).ok]⟩ :=
 fn_sound CLc_ok (Λ := lam0) (fn := Tryz.f3) (fr := frLC) (ps := [.d histT, .d tarT, .d claimT]) (rs := [.bool]) (histT.dflt, tarT.dflt, claimT.dflt, ()) (by kernel_rfl) (fun c E _ => lam0_ok c 0) (fun x => by kernel_rfl)
theorem lC_eq (a : coverT.den) (e : Int) (h : e = 0 ∨ a = noCover) : (bif bif bif true then eqCov a a else false then e == e else false then (bif e == 0 then true else eqCov a noCover) else false) = true := by
 rw [eqCov_self, beq_self_eq_true]
 rcases h with h | h
 ·subst h
  rfl
 ·subst h
  rw [eqCov_self]
  cases e == 0 <;> rfl
theorem lawNCov_ok : SoundCt Tryz.prog 3 (cLaw17 [.d histT, .d tarT, .d claimT]) :=
 convF lC_run _ _ (fun _ _ x _ _ _ => by
  obtain ⟨h, t, c, _⟩ := x
  cases hf : fewB h t with
  | false => exact Fr.br_t (by show (!(fewB h t)) = true; rw [hf]; rfl) ⟨trivial, rfl⟩
  | true =>
   obtain ⟨f1, f2⟩ := fewB_fewH hf
   refine Fr.br_f (by show (!(fewB h t)) = false; rw [hf]; rfl) (Fr.need_ f1 (Fr.need_ f2 (Fr.need_ f1 (Fr.need_ f2 ⟨trivial, ?_⟩))))
   exact Prod.ext (lC_eq _ _ (covF_no h t c)) rfl)
def frLW (x : denP [.d histT, .d tarT, .d clsT]) : Fr (denL [.bool]) :=
 let h : histT.den := x.1; let t : tarT.den := x.2.1; let l : List claimT.den := x.2.2.1
 Fr.br (bif !(cFew.f (h, t, ())).1 then true else decide ((l.length : Int) > 20)) (Fr.val (true, ()))
  (Fr.need (true = true -> fewH h) (Fr.need (true = true -> fewT t) (Fr.need (true = true -> l.length <= 1000000) (Fr.need (true = true -> fewH h) (Fr.need (true = true -> fewT t) (Fr.need (true = true -> l.length <= 1000000)
   (Fr.val (bif true then List.beq (whyL h t l) (whyL h t l) else false, ()))))))))
theorem lW_run : SoundCt Tryz.prog 4 ⟨[.d histT, .d tarT, .d clsT], [.bool], fun xs => (frLW xs).get, fun xs => [(frLW xs).ok]⟩ :=
 fn_sound CLc_ok (Λ := lam0) (fn := Tryz.f4) (fr := frLW) (ps := [.d histT, .d tarT, .d clsT]) (rs := [.bool]) (histT.dflt, tarT.dflt, [], ()) (by kernel_rfl) (fun c E _ => lam0_ok c 0) (fun x => by kernel_rfl)
theorem few_20 {b : Bool} {n : Int} (h : (bif !b then true else decide (n > 20)) = false) : b = true /\ n <= 20 := by
 cases b with
 | false => cases h
 | true => exact ⟨rfl, Int.not_lt.1 (of_decide_eq_false h)⟩
theorem beq_self17 (l : List Int) : List.beq l l = true := beq_self_eq_true l
theorem lawNWhy_ok : SoundCt Tryz.prog 4 (cLaw17 [.d histT, .d tarT, .d clsT]) :=
 convF lW_run _ _ (fun _ _ x _ _ _ => by
  obtain ⟨h, t, l, _⟩ := x
  cases hc : (bif !(fewB h t) then true else decide ((List.length (α := claimT.den) l : Int) > 20)) with
  | true => exact Fr.br_t hc ⟨trivial, rfl⟩
  | false =>
   obtain ⟨hf, hn⟩ := few_20 hc
   obtain ⟨f1, f2⟩ := fewB_fewH hf
   have hl : List.length (α := claimT.den) l <= 1000000 := by omega
   refine Fr.br_f hc (Fr.need_ (fun _ => f1) (Fr.need_ (fun _ => f2) (Fr.need_ (fun _ => hl) (Fr.need_ (fun _ => f1) (Fr.need_ (fun _ => f2) (Fr.need_ (fun _ => hl) ⟨trivial, ?_⟩))))))
   exact Prod.ext (beq_self17 (whyL h t l)) rfl)
end Go.Proofs.YtplkgghjldndkaaGreat
