/-
  Parts of the proof, one behind the other: R1, R2, R3, R4, R5, R6, R7, R8, R9, R10, R11, R12, R13, R14, R15.
-/
import Derived.Test.YthpdhhejonjipaaGreatMc
import Derived.Test.YthpdhhejonjipaaGreatProg
import Derived.WalkKit
namespace Go.Proofs.YthpdhhejonjipaaGreat
open Go Go.Ab Go.RowKit Go.Proofs
abbrev i64 : Ty := .int .i64
abbrev u64 : Ty := .int .u64
abbrev u8t : Ty := .int .u8
abbrev ints : Ty := .sl i64
abbrev lineT : Ty := .pair i64 (.pair i64 .unit)
abbrev entT : Ty := .pair i64 (.pair i64 (.pair (.sl lineT) .unit))
abbrev bookT : Ty := .pair (.sl entT) .unit
theorem mixed : Tryz.prog.follows .mixedOrders = true := by kernel_rfl
theorem i64w {n : Int} (h : -9223372036854775808 <= n /\ n <= 9223372036854775807) : IntKind.i64.wrap n = n := IntWalk.i64_in _ h
def mx (c n : Int) : Int := IntKind.u64.wrap (IntKind.u64.wrap (BitVec.ofInt IntKind.u64.bits c ^^^ BitVec.ofInt IntKind.u64.bits (IntKind.u64.wrap n)).toNat * 1099511628211)
def bodyOf : Code -> Nat -> Option Code
 | .loop c, 0 => some c
 | .seq a b, k => if k < loopsIn a then bodyOf a k else bodyOf b (k - loopsIn a)
 | .cond _ a b, k => if k < loopsIn a then bodyOf a k else bodyOf b (k - loopsIn a)
 | .block _ c, k => bodyOf c k
 | .scope c, k => bodyOf c k
 | _, _ => none
theorem bodyOf_lt : {c : Code} -> {k : Nat} -> {b : Code} -> bodyOf c k = some b -> k < loopsIn c
 | .loop _, 0, _, _ => Nat.zero_lt_one
 | .loop _, _ + 1, _, h => by simp [bodyOf] at h
 | .seq x y, k, b, h => by
  simp only [bodyOf] at h
  simp only [loopsIn]
  split at h
  ·omega
  ·have := bodyOf_lt h
   omega
 | .cond _ x y, k, b, h => by
  simp only [bodyOf] at h
  simp only [loopsIn]
  split at h
  ·omega
  ·have := bodyOf_lt h
   omega
 | .block _ c, k, b, h => bodyOf_lt (c := c) h
 | .scope c, k, b, h => bodyOf_lt (c := c) h
 | .skip, _, _, h => by simp [bodyOf] at h
 | .region _ _ _, _, _, h => by simp [bodyOf] at h
 | .ret, _, _, h => by simp [bodyOf] at h
 | .exit _, _, _, h => by simp [bodyOf] at h
 | .label _, _, _, h => by simp [bodyOf] at h
 | .goto _, _, _, h => by simp [bodyOf] at h
 | .rangeFunc _ _ _ _, _, _, h => by simp [bodyOf] at h
 | .refuse _, _, _, h => by simp [bodyOf] at h
theorem lam_of {E : Env} {Λ : Nat -> St -> Option Tr} : (c : Code) -> (k : Nat) -> (∀ i b, bodyOf c i = some b -> LoopOK Tryz.prog E b (Λ (k + i))) -> LamOK Tryz.prog E Λ c k
 | .loop b, k, h => h 0 b rfl
 | .seq x y, k, h => ⟨lam_of x k fun i b hb => h i b (by simp only [bodyOf]; rw [if_pos (bodyOf_lt hb)]; exact hb), lam_of y _ fun i b hb => by
   have := h (loopsIn x + i) b (by simp only [bodyOf]; rw [if_neg (by omega), Nat.add_sub_cancel_left]; exact hb)
   rwa [← Nat.add_assoc] at this⟩
 | .cond _ x y, k, h => ⟨lam_of x k fun i b hb => h i b (by simp only [bodyOf]; rw [if_pos (bodyOf_lt hb)]; exact hb), lam_of y _ fun i b hb => by
   have := h (loopsIn x + i) b (by simp only [bodyOf]; rw [if_neg (by omega), Nat.add_sub_cancel_left]; exact hb)
   rwa [← Nat.add_assoc] at this⟩
 | .block _ c, k, h => lam_of c k h
 | .skip, _, _ => trivial
 | .ret, _, _ => trivial
 | .exit _, _, _ => trivial
 | .region _ _ _, _, _ => trivial
 | .label _, _, _ => trivial
 | .goto _, _, _ => trivial
 | .scope c, k, h => lam_of c k h
 | .rangeFunc _ _ _ _, _, _ => trivial
 | .refuse _, _, _ => trivial
noncomputable def C0 : Cx := cx [] []
theorem C0_ok : CxOK Tryz.prog C0 := cx_ok (cs := []) (ps := []) mixed trivial trivial
abbrev pt_mixL : Pt := ⟨20, 0, ⟨[(9, .d i64), (8, .d i64), (7, .d ints), (0, .d u64)], []⟩, ⟨[(0, .d u64)], []⟩, ⟨[], []⟩⟩
def fr_mixL (x : pt_mixL.M.X) : Fr pt_mixL.Out :=
 Fr.br (decide (x.1.1 < x.1.2.1)) (Fr.need (0 <= x.1.1 /\ x.1.1 < ((List.length x.1.2.2.1) : Int)) (Fr.val (Rd.next ((IntKind.i64.wrap (x.1.1 + 1), x.1.2.1, x.1.2.2.1, IntKind.u64.wrap (IntKind.u64.wrap ((BitVec.ofInt IntKind.u64.bits x.1.2.2.2.1 ^^^ BitVec.ofInt IntKind.u64.bits (IntKind.u64.wrap (List.getD x.1.2.2.1 (Int.toNat x.1.1) i64.dflt))).toNat : Int) * 1099511628211), ()), ())))) (Fr.val (Rd.out ((x.1.2.2.2.1, ()), ())))
theorem sem_mixL : Does Tryz.prog (loopF Tryz.f14 0) pt_mixL.M pt_mixL fr_mixL :=
 Does.of_run C0_ok (bs := 0) (Λ := lam0) rfl rfl rfl (fun E => lam0_ok _ 0) (fun x => by kernel_rfl)
abbrev st_mixL : Type := denP [.d u64] × denM []
def step_mixL (e : i64.den) (s : st_mixL) : Fr st_mixL :=
 Fr.val ((IntKind.u64.wrap (IntKind.u64.wrap ((BitVec.ofInt IntKind.u64.bits s.1.1 ^^^ BitVec.ofInt IntKind.u64.bits (IntKind.u64.wrap e)).toNat : Int) * 1099511628211), ()), ())
def un_mixL (x : pt_mixL.M.X) : Int × List i64.den × st_mixL := (x.1.1, x.1.2.2.1, x.1.2.2.2, x.2)
def good_mixL (x : pt_mixL.M.X) : Prop := x.1.2.1 = (x.1.2.2.1.length : Int)
def out_mixL (s : st_mixL) : pt_mixL.E.X := ((s.1.1, ()), ())
theorem loop_mixL : Does Tryz.prog (.loop (loopF Tryz.f14 0)) pt_mixL.M pt_mixL (FF step_mixL un_mixL good_mixL out_mixL) := by
 refine Does.fold sem_mixL step_mixL un_mixL good_mixL out_mixL ?_ ?_
 ·rintro ⟨⟨i, n, l, s⟩, m⟩ hg h0 h1 hb e he Q h
  have hg : n = (l.length : Int) := hg
  subst hg
  have h0 : 0 <= i := h0
  have h1 : i < (l.length : Int) := h1
  have hb : (l.length : Int) <= 9223372036854775807 := hb
  have hd : l.getD i.toNat i64.dflt = e := getD_of he
  have hw := wrap_next h0 h1 hb
  dsimp only [un_mixL, step_mixL, fr_mixL, Fr.satP] at h ⊢
  simp only [hd, hw] at h ⊢
  refine ⟨fun _ => ?_, fun hn => absurd h1 (of_decide_eq_false hn)⟩
  repeat' first
   | exact h
   | exact ⟨h0, h1⟩
   | exact fun _ => ⟨h0, h1⟩
   | exact h _ rfl rfl
   | refine ⟨?_, ?_⟩
   | (intro (hc : _ = true); replace h := h.1 hc)
   | (intro (hc : _ = false); replace h := h.2 hc)
 ·rintro ⟨⟨i, n, l, s⟩, m⟩ hg h1 Q h
  have hg : n = (l.length : Int) := hg
  subst hg
  exact ⟨fun hn => absurd (of_decide_eq_true hn) h1, fun _ => h⟩
def Λ_mixL (Γ : FuncId -> Option Ct) : St -> Option Tr := pt_mixL.han Γ pt_mixL.M (FF step_mixL un_mixL good_mixL out_mixL)
def res_mixL (y : pt_mixL.M.X) : st_mixL := goF step_mixL ((un_mixL y).2.1.drop (un_mixL y).1.toNat) (un_mixL y).2.2
def okr_mixL (y : pt_mixL.M.X) : Prop := okF step_mixL ((un_mixL y).2.1.drop (un_mixL y).1.toNat) (un_mixL y).2.2
theorem okF_all {T σ : Type} {step : T -> σ -> Fr σ} (h : ∀ e s, (step e s).ok) : (l : List T) -> (s : σ) -> okF step l s
 | [], _ => trivial
 | e :: l, s => ⟨h e s, okF_all h l _⟩
theorem mixL_go : (l : List Int) -> (c : Int) -> goF step_mixL l ((c, ()), ()) = ((l.foldl mx c, ()), ())
 | [], _ => rfl
 | n :: l, c => mixL_go l (mx c n)
def cMixL : Ct := ⟨[.d u64, .d ints], [u64], fun x => (x.2.1.foldl mx x.1, ()), fun _ => []⟩
def cMx : Ct := ⟨[.d u64, .d i64], [u64], fun x => (mx x.1 x.2.1, ()), fun _ => []⟩
def ff_mixL (x : denP [.d u64, .d ints]) : Fr (denL [u64]) :=
 Fr.need (InL (good_mixL ((0, ((List.length x.2.1) : Int), x.2.1, x.1, ()), ())) (un_mixL ((0, ((List.length x.2.1) : Int), x.2.1, x.1, ()), ()))) (Fr.need (okr_mixL ((0, ((List.length x.2.1) : Int), x.2.1, x.1, ()), ())) (Fr.val ((out_mixL (res_mixL ((0, ((List.length x.2.1) : Int), x.2.1, x.1, ()), ()))).1.1, ())))
theorem ff_mixL_ok : SoundCt Tryz.prog 14 ⟨[.d u64, .d ints], [u64], fun xs => (ff_mixL xs).get, fun xs => [(ff_mixL xs).ok]⟩ :=
 fn_sound C0_ok (Λ := (fun _ => Λ_mixL C0.Γ)) (fn := Tryz.f14) (dfP [.d u64, .d ints]) (by kernel_rfl) (fun c E hc => lam1f hc (by kernel_rfl) (b := loopF Tryz.f14 0) (by kernel_rfl) (Does.han C0_ok rfl loop_mixL)) (fun x => by kernel_rfl)
def ff_mix30 (x : denP [.d u64, .d i64]) : Fr (denL [u64]) :=
 Fr.val (IntKind.u64.wrap (IntKind.u64.wrap ((BitVec.ofInt IntKind.u64.bits (IntKind.u64.wrap ((BitVec.ofInt IntKind.u64.bits x.1 &&& ~~~BitVec.ofInt IntKind.u64.bits (IntKind.u64.wrap x.2.1)).toNat : Int)) ||| BitVec.ofInt IntKind.u64.bits (IntKind.u64.wrap ((BitVec.ofInt IntKind.u64.bits (IntKind.u64.wrap x.2.1) &&& ~~~BitVec.ofInt IntKind.u64.bits x.1).toNat : Int))).toNat : Int) * 1099511628211), ())
theorem ff_mix30_ok : SoundCt Tryz.prog 15 ⟨[.d u64, .d i64], [u64], fun xs => (ff_mix30 xs).get, fun xs => [(ff_mix30 xs).ok]⟩ :=
 fn_sound C0_ok (Λ := lam0) (fn := Tryz.f15) (dfP [.d u64, .d i64]) (by kernel_rfl) (fun c E _ => lam0_ok c 0) (fun x => by kernel_rfl)
theorem convF {P : Program} {f : FuncId} {ps : List PT} {rs : List Ty} {fr : denP ps -> Fr (denL rs)} (h : SoundCt P f ⟨ps, rs, fun xs => (fr xs).get, fun xs => [(fr xs).ok]⟩) (g : denP ps -> denL rs) (ok : denP ps -> List Prop)
  (hg : ∀ w F xs vs, RepPs P w F ps xs vs -> conj (ok xs) -> (fr xs).ok /\ (fr xs).get = g xs) : SoundCt P f ⟨ps, rs, g, ok⟩ :=
 conv h g ok hg
theorem Fr.br_f {α : Type} {b : Bool} {x y : Fr α} {v : α} (hb : b = false) (h : y.ok /\ y.get = v) : (Fr.br b x y).ok /\ (Fr.br b x y).get = v := by
 subst hb
 exact ⟨⟨fun h => (by cases h), fun _ => h.1⟩, h.2⟩
theorem Fr.br_t {α : Type} {b : Bool} {x y : Fr α} {v : α} (hb : b = true) (h : x.ok /\ x.get = v) : (Fr.br b x y).ok /\ (Fr.br b x y).get = v := by
 subst hb
 exact ⟨⟨fun _ => h.1, fun h => (by cases h)⟩, h.2⟩
theorem Fr.need_ {α : Type} {p : Prop} {x : Fr α} {v : α} (hp : p) (h : x.ok /\ x.get = v) : (Fr.need p x).ok /\ (Fr.need p x).get = v := ⟨⟨hp, h.1⟩, h.2⟩
theorem len_big {n : Nat} (h : n <= maxLen) : (n : Int) <= 9223372036854775807 := by
 unfold maxLen at h
 omega
theorem wf_len {w : World} {F : Nat -> Prop} {t : Ty} {l : List t.den} {v : Value} (h : RepP Tryz.prog w F (.d (.sl t)) l v) : (l.length : Int) <= 9223372036854775807 := len_big (RepT.wf (t := .sl t) h.2.2).1
theorem mixL_ok : SoundCt Tryz.prog 14 cMixL :=
 convF ff_mixL_ok _ _ (fun w F x vs hr _ => by
  obtain ⟨c, l, _⟩ := x
  obtain ⟨v, vs', rfl, hv, v2, vs2, rfl, hv2, _⟩ := hr
  refine ⟨⟨⟨rfl, Int.le_refl _, Int.natCast_nonneg _, wf_len hv2⟩, okF_all (step := step_mixL) (fun _ _ => trivial) _ _, trivial⟩, ?_⟩
  show ((goF step_mixL (List.drop (α := Int) 0 l) ((c, ()), ())).1.1, ()) = (l.foldl mx c, ())
  rw [List.drop_zero, mixL_go])
abbrev bv (n : Int) : BitVec 64 := BitVec.ofInt 64 n
theorem wrap_bv (n : Int) : IntKind.u64.wrap n = ((bv n).toNat : Int) := by
 rw [IntKind.wrap_u64, BitVec.toNat_ofInt]
 omega
theorem bv_toNat (z : BitVec 64) : bv (z.toNat : Int) = z := by
 have h := z.isLt
 apply BitVec.eq_of_toNat_eq
 rw [BitVec.toNat_ofInt]
 omega
theorem bv_wrap (n : Int) : bv (IntKind.u64.wrap n) = bv n := by
 rw [wrap_bv, bv_toNat]
def mxB (a b : BitVec 64) : BitVec 64 := (a ^^^ b) * 1099511628211#64
theorem mul_bv (a : BitVec 64) : IntKind.u64.wrap (IntKind.u64.wrap (a.toNat : Int) * 1099511628211) = ((a * 1099511628211#64).toNat : Int) := by
 have h := a.isLt
 rw [IntKind.wrap_u64, IntKind.wrap_u64, BitVec.toNat_mul]
 have e : (1099511628211#64).toNat = 1099511628211 := by rfl
 rw [e]
 omega
theorem mx_bv (c n : Int) : mx c n = ((mxB (bv c) (bv n)).toNat : Int) := by
 have e : BitVec.ofInt IntKind.u64.bits (IntKind.u64.wrap n) = bv n := bv_wrap n
 unfold mx mxB
 rw [e]
 exact mul_bv _
theorem bv_mx (c n : Int) : bv (mx c n) = mxB (bv c) (bv n) := by
 rw [mx_bv, bv_toNat]
theorem xor_or (a b : BitVec 64) : (a &&& ~~~b) ||| (b &&& ~~~a) = a ^^^ b := by
 apply BitVec.eq_of_getLsbD_eq
 intro i hi
 simp only [BitVec.getLsbD_or, BitVec.getLsbD_and, BitVec.getLsbD_not, BitVec.getLsbD_xor, hi, decide_true, Bool.true_and]
 cases a.getLsbD i <;> cases b.getLsbD i <;> rfl
theorem mix30_ok : SoundCt Tryz.prog 15 cMx :=
 convF ff_mix30_ok _ _ (fun w F x vs hr _ => by
  obtain ⟨c, n, _⟩ := x
  refine ⟨trivial, ?_⟩
  have e2 : ∀ z : BitVec 64, BitVec.ofInt 64 (IntKind.u64.wrap (z.toNat : Int)) = z := fun z => (bv_wrap _).trans (bv_toNat z)
  have e1 : BitVec.ofInt 64 (IntKind.u64.wrap n) = bv n := bv_wrap n
  show (IntKind.u64.wrap (IntKind.u64.wrap ((BitVec.ofInt 64 (IntKind.u64.wrap ((bv c &&& ~~~BitVec.ofInt 64 (IntKind.u64.wrap n)).toNat : Int)) ||| BitVec.ofInt 64 (IntKind.u64.wrap ((BitVec.ofInt 64 (IntKind.u64.wrap n) &&& ~~~bv c).toNat : Int))).toNat : Int) * 1099511628211), ()) = (mx c n, ())
  rw [e2, e2, e1, xor_or, mx_bv]
  exact congrArg (fun z => (z, ())) (mul_bv _))
noncomputable def C1 : Cx := cx [(14, cMixL)] []
theorem C1_ok : CxOK Tryz.prog C1 := cx_ok (ps := []) mixed ⟨mixL_ok, trivial⟩ trivial
noncomputable def C2 : Cx := cx [(15, cMx)] []
theorem C2_ok : CxOK Tryz.prog C2 := cx_ok (ps := []) mixed ⟨mix30_ok, trivial⟩ trivial
abbrev pt_mixI : Pt := ⟨48, 2, ⟨[(34, .d i64), (33, .d i64), (32, .d (.sl lineT)), (5, .d u64), (13, .d i64), (12, .d i64), (11, .d (.sl entT)), (1, .d i64)], []⟩, ⟨[(5, .d u64), (13, .d i64), (12, .d i64), (11, .d (.sl entT)), (1, .d i64)], []⟩, ⟨[], []⟩⟩
def fr_mixI (x : pt_mixI.M.X) : Fr pt_mixI.Out :=
 Fr.br (decide (x.1.1 < x.1.2.1)) (Fr.need (0 <= x.1.1 /\ x.1.1 < ((List.length x.1.2.2.1) : Int)) (Fr.val (Rd.next ((IntKind.i64.wrap (x.1.1 + 1), x.1.2.1, x.1.2.2.1, (cMixL.f (x.1.2.2.2.1, [(List.getD x.1.2.2.1 (Int.toNat x.1.1) lineT.dflt).1, (List.getD x.1.2.2.1 (Int.toNat x.1.1) lineT.dflt).2.1], ())).1, x.1.2.2.2.2.1, x.1.2.2.2.2.2.1, x.1.2.2.2.2.2.2.1, x.1.2.2.2.2.2.2.2.1, ()), ())))) (Fr.val (Rd.out ((x.1.2.2.2.1, x.1.2.2.2.2.1, x.1.2.2.2.2.2.1, x.1.2.2.2.2.2.2.1, x.1.2.2.2.2.2.2.2.1, ()), ())))
noncomputable def inner_mixI : Code := ((bodyOf (loopF Tryz.f8 0) 0).getD .skip)
theorem sem_mixI : Does Tryz.prog inner_mixI pt_mixI.M pt_mixI fr_mixI :=
 Does.of_run C1_ok (bs := 0) (Λ := lam0) rfl rfl rfl (fun E => lam0_ok _ 0) (fun x => by kernel_rfl)
abbrev st_mixI : Type := denP [.d u64, .d i64, .d i64, .d (.sl entT), .d i64] × denM []
def step_mixI (e : lineT.den) (s : st_mixI) : Fr st_mixI :=
 Fr.val (((cMixL.f (s.1.1, [e.1, e.2.1], ())).1, s.1.2.1, s.1.2.2.1, s.1.2.2.2.1, s.1.2.2.2.2.1, ()), ())
def un_mixI (x : pt_mixI.M.X) : Int × List lineT.den × st_mixI := (x.1.1, x.1.2.2.1, x.1.2.2.2, x.2)
def good_mixI (x : pt_mixI.M.X) : Prop := x.1.2.1 = (x.1.2.2.1.length : Int)
def out_mixI (s : st_mixI) : pt_mixI.E.X := ((s.1.1, s.1.2.1, s.1.2.2.1, s.1.2.2.2.1, s.1.2.2.2.2.1, ()), ())
theorem loop_mixI : Does Tryz.prog (.loop inner_mixI) pt_mixI.M pt_mixI (FF step_mixI un_mixI good_mixI out_mixI) := by
 refine Does.fold sem_mixI step_mixI un_mixI good_mixI out_mixI ?_ ?_
 ·rintro ⟨⟨i, n, l, s⟩, m⟩ hg h0 h1 hb e he Q h
  have hg : n = (l.length : Int) := hg
  subst hg
  have h0 : 0 <= i := h0
  have h1 : i < (l.length : Int) := h1
  have hb : (l.length : Int) <= 9223372036854775807 := hb
  have hd : l.getD i.toNat lineT.dflt = e := getD_of he
  have hw := wrap_next h0 h1 hb
  dsimp only [un_mixI, step_mixI, fr_mixI, Fr.satP] at h ⊢
  simp only [hd, hw] at h ⊢
  refine ⟨fun _ => ?_, fun hn => absurd h1 (of_decide_eq_false hn)⟩
  repeat' first
   | exact h
   | exact ⟨h0, h1⟩
   | exact fun _ => ⟨h0, h1⟩
   | exact h _ rfl rfl
   | refine ⟨?_, ?_⟩
   | (intro (hc : _ = true); replace h := h.1 hc)
   | (intro (hc : _ = false); replace h := h.2 hc)
 ·rintro ⟨⟨i, n, l, s⟩, m⟩ hg h1 Q h
  have hg : n = (l.length : Int) := hg
  subst hg
  exact ⟨fun hn => absurd (of_decide_eq_true hn) h1, fun _ => h⟩
abbrev pt_refI : Pt := ⟨59, 2, ⟨[(8, .d i64), (5, .d u64), (6, .d i64), (1, .d i64)], [.x 2 24 bookT, .r 2 2 0, .x 7 32 entT, .r 7 7 0]⟩, ⟨[(5, .d u64), (6, .d i64), (1, .d i64)], [.x 2 24 bookT, .r 2 2 0]⟩, ⟨[], []⟩⟩
def fr_refI (x : pt_refI.M.X) : Fr pt_refI.Out :=
 Fr.br (decide (x.1.1 < ((List.length x.2.2.1.2.2.1) : Int))) (Fr.need (0 <= x.1.1 /\ x.1.1 < ((List.length x.2.2.1.2.2.1) : Int)) (Fr.need (0 <= x.1.1 /\ x.1.1 < ((List.length x.2.2.1.2.2.1) : Int)) (Fr.val (Rd.next ((IntKind.i64.wrap (x.1.1 + 1), (cMx.f ((cMx.f (x.1.2.1, (List.getD x.2.2.1.2.2.1 (Int.toNat x.1.1) lineT.dflt).1, ())).1, (List.getD x.2.2.1.2.2.1 (Int.toNat x.1.1) lineT.dflt).2.1, ())).1, x.1.2.2.1, x.1.2.2.2.1, ()), (x.2.1.1, ()), (x.2.2.1.1, x.2.2.1.2.1, x.2.2.1.2.2.1, ()), ()))))) (Fr.val (Rd.out ((x.1.2.1, x.1.2.2.1, x.1.2.2.2.1, ()), (x.2.1.1, ()), ())))
noncomputable def inner_refI : Code := ((bodyOf (loopF Tryz.f9 0) 0).getD .skip)
theorem sem_refI : Does Tryz.prog inner_refI pt_refI.M pt_refI fr_refI :=
 Does.of_run C2_ok (bs := 0) (Λ := lam0) rfl rfl rfl (fun E => lam0_ok _ 0) (fun x => by kernel_rfl)
abbrev st_refI : Type := denP [.d u64, .d i64, .d i64] × denM [.x 2 24 bookT, .r 2 2 0, .x 7 32 entT, .r 7 7 0]
def step_refI (e : lineT.den) (s : st_refI) : Fr st_refI :=
 Fr.val (((cMx.f ((cMx.f (s.1.1, e.1, ())).1, e.2.1, ())).1, s.1.2.1, s.1.2.2.1, ()), (s.2.1.1, ()), (s.2.2.1.1, s.2.2.1.2.1, s.2.2.1.2.2.1, ()), ())
def un_refI (x : pt_refI.M.X) : Int × List lineT.den × st_refI := (x.1.1, x.2.2.1.2.2.1, x.1.2, x.2)
def good_refI (x : pt_refI.M.X) : Prop := True
def out_refI (s : st_refI) : pt_refI.E.X := ((s.1.1, s.1.2.1, s.1.2.2.1, ()), (s.2.1.1, ()), ())
theorem loop_refI : Does Tryz.prog (.loop inner_refI) pt_refI.M pt_refI (FF step_refI un_refI good_refI out_refI) := by
 refine Does.fold sem_refI step_refI un_refI good_refI out_refI ?_ ?_
 ·rintro ⟨⟨i, s⟩, m⟩ hg h0 h1 hb e he Q h
  have h0 : 0 <= i := h0
  have h1 : i < (m.2.1.2.2.1.length : Int) := h1
  have hb : (m.2.1.2.2.1.length : Int) <= 9223372036854775807 := hb
  have hd : m.2.1.2.2.1.getD i.toNat lineT.dflt = e := getD_of he
  have hw := wrap_next h0 h1 hb
  dsimp only [un_refI, step_refI, fr_refI, Fr.satP] at h ⊢
  simp only [hd, hw] at h ⊢
  refine ⟨fun _ => ?_, fun hn => absurd h1 (of_decide_eq_false hn)⟩
  repeat' first
   | exact h
   | exact ⟨h0, h1⟩
   | exact fun _ => ⟨h0, h1⟩
   | exact h _ rfl trivial
   | refine ⟨?_, ?_⟩
   | (intro (hc : _ = true); replace h := h.1 hc)
   | (intro (hc : _ = false); replace h := h.2 hc)
 ·rintro ⟨⟨i, s⟩, m⟩ hg h1 Q h
  exact ⟨fun hn => absurd (of_decide_eq_true hn) h1, fun _ => h⟩
abbrev pt_few : Pt := ⟨23, 0, ⟨[(3, .d i64)], [.x 1 24 bookT, .r 1 1 0]⟩, ⟨[], []⟩, ⟨[(2, .d .bool)], []⟩⟩
def fr_few (x : pt_few.M.X) : Fr pt_few.Out :=
 Fr.br (decide (x.1.1 < ((List.length x.2.1.1) : Int))) (Fr.need (0 <= x.1.1 /\ x.1.1 < ((List.length x.2.1.1) : Int)) (Fr.br (decide (((List.length (List.getD x.2.1.1 (Int.toNat x.1.1) entT.dflt).2.2.1) : Int) > 20)) (Fr.val (Rd.back ((false, ()), ()))) (Fr.val (Rd.next ((IntKind.i64.wrap (x.1.1 + 1), ()), (x.2.1.1, ()), ()))))) (Fr.val (Rd.out ((), ())))
theorem sem_few : Does Tryz.prog (loopF Tryz.f7 0) pt_few.M pt_few fr_few :=
 Does.of_run C0_ok (bs := 0) (Λ := lam0) rfl rfl rfl (fun E => lam0_ok _ 0) (fun x => by kernel_rfl)
abbrev st_few : Type := denP [] × denM [.x 1 24 bookT, .r 1 1 0]
def step_few (e : entT.den) (s : st_few) : Fr (st_few ⊕ pt_few.R.X) :=
 Fr.br (decide (((List.length e.2.2.1) : Int) > 20)) (Fr.val (.inr ((false, ()), ()))) (Fr.val (.inl ((), (s.2.1.1, ()), ())))
def un_few (x : pt_few.M.X) : Int × List entT.den × st_few := (x.1.1, x.2.1.1, x.1.2, x.2)
def good_few (x : pt_few.M.X) : Prop := True
def out_few (s : st_few) : pt_few.E.X := ((), ())
def dS_few : st_few := (dfP _, dfM _)
def dR_few : pt_few.R.X := (dfP _, dfM _)
theorem loop_few : Does Tryz.prog (.loop (loopF Tryz.f7 0)) pt_few.M pt_few (FL step_few un_few good_few out_few Rd.back dS_few dR_few) := by
 refine Does.list sem_few step_few un_few good_few out_few Rd.back dS_few dR_few ?_ ?_
 ·rintro ⟨⟨i, s⟩, m⟩ hg h0 h1 hb e he Q h
  have h0 : 0 <= i := h0
  have h1 : i < (m.1.1.length : Int) := h1
  have hb : (m.1.1.length : Int) <= 9223372036854775807 := hb
  have hd : m.1.1.getD i.toNat entT.dflt = e := getD_of he
  have hw := wrap_next h0 h1 hb
  dsimp only [un_few, step_few, fr_few, Fr.satP] at h ⊢
  simp only [hd, hw] at h ⊢
  refine ⟨fun _ => ?_, fun hn => absurd h1 (of_decide_eq_false hn)⟩
  repeat' first
   | exact h
   | exact ⟨h0, h1⟩
   | exact fun _ => ⟨h0, h1⟩
   | exact h _ rfl trivial
   | refine ⟨?_, ?_⟩
   | (intro (hc : _ = true); replace h := h.1 hc)
   | (intro (hc : _ = false); replace h := h.2 hc)
 ·rintro ⟨⟨i, s⟩, m⟩ hg h1 Q h
  exact ⟨fun hn => absurd (of_decide_eq_true hn) h1, fun _ => h⟩
def Λ_few (Γ : FuncId -> Option Ct) : St -> Option Tr := pt_few.han Γ pt_few.M (FL step_few un_few good_few out_few Rd.back dS_few dR_few)
def res_few (y : pt_few.M.X) : st_few ⊕ pt_few.R.X := goL step_few ((un_few y).2.1.drop (un_few y).1.toNat) (un_few y).2.2
def okr_few (y : pt_few.M.X) : Prop := okL step_few ((un_few y).2.1.drop (un_few y).1.toNat) (un_few y).2.2
abbrev pt_same : Pt := ⟨45, 0, ⟨[(5, .d i64)], [.x 2 32 entT, .r 2 2 0, .x 3 32 entT, .r 3 3 0]⟩, ⟨[], []⟩, ⟨[(4, .d .bool)], []⟩⟩
def fr_same (x : pt_same.M.X) : Fr pt_same.Out :=
 Fr.br (decide (x.1.1 < ((List.length x.2.1.2.2.1) : Int))) (Fr.need (0 <= x.1.1 /\ x.1.1 < ((List.length x.2.1.2.2.1) : Int)) (Fr.need (0 <= x.1.1 /\ x.1.1 < ((List.length x.2.2.1.2.2.1) : Int)) (Fr.br (!((List.getD x.2.1.2.2.1 (Int.toNat x.1.1) lineT.dflt).1 == (List.getD x.2.2.1.2.2.1 (Int.toNat x.1.1) lineT.dflt).1 && ((List.getD x.2.1.2.2.1 (Int.toNat x.1.1) lineT.dflt).2.1 == (List.getD x.2.2.1.2.2.1 (Int.toNat x.1.1) lineT.dflt).2.1 && true))) (Fr.val (Rd.back ((false, ()), ()))) (Fr.val (Rd.next ((IntKind.i64.wrap (x.1.1 + 1), ()), (x.2.1.1, x.2.1.2.1, x.2.1.2.2.1, ()), (x.2.2.1.1, x.2.2.1.2.1, x.2.2.1.2.2.1, ()), ())))))) (Fr.val (Rd.out ((), ())))
theorem sem_same : Does Tryz.prog (loopF Tryz.f16 0) pt_same.M pt_same fr_same :=
 Does.of_run C0_ok (bs := 0) (Λ := lam0) rfl rfl rfl (fun E => lam0_ok _ 0) (fun x => by kernel_rfl)
abbrev st_same : Type := denP [] × denM [.x 2 32 entT, .r 2 2 0, .x 3 32 entT, .r 3 3 0]
def step_same (e : (lineT.den × lineT.den)) (s : st_same) : Fr (st_same ⊕ pt_same.R.X) :=
 Fr.br (!(e.1.1 == e.2.1 && (e.1.2.1 == e.2.2.1 && true))) (Fr.val (.inr ((false, ()), ()))) (Fr.val (.inl ((), (s.2.1.1, s.2.1.2.1, s.2.1.2.2.1, ()), (s.2.2.1.1, s.2.2.1.2.1, s.2.2.1.2.2.1, ()), ())))
def un_same (x : pt_same.M.X) : Int × List (lineT.den × lineT.den) × st_same := (x.1.1, x.2.1.2.2.1.zip x.2.2.1.2.2.1, x.1.2, x.2)
def good_same (x : pt_same.M.X) : Prop := x.2.1.2.2.1.length = x.2.2.1.2.2.1.length
def out_same (s : st_same) : pt_same.E.X := ((), ())
def dS_same : st_same := (dfP _, dfM _)
def dR_same : pt_same.R.X := (dfP _, dfM _)
theorem loop_same : Does Tryz.prog (.loop (loopF Tryz.f16 0)) pt_same.M pt_same (FL step_same un_same good_same out_same Rd.back dS_same dR_same) := by
 refine Does.list sem_same step_same un_same good_same out_same Rd.back dS_same dR_same ?_ ?_
 ·rintro ⟨⟨i, s⟩, m⟩ hg h0 h1 hb e he Q h
  have hz : m.1.2.2.1.length = m.2.1.2.2.1.length := hg
  have h0 : 0 <= i := h0
  have h1 : i < (m.1.2.2.1.length : Int) := zip_lt hz h1
  have hb : (m.1.2.2.1.length : Int) <= 9223372036854775807 := zip_le hz hb
  have h1z : i < (m.2.1.2.2.1.length : Int) := by rw [← hz]; exact h1
  have hd : m.1.2.2.1.getD i.toNat lineT.dflt = e.1 := getD_of (zip_fst he)
  have hdz : m.2.1.2.2.1.getD i.toNat lineT.dflt = e.2 := getD_of (zip_snd he)
  have hw := wrap_next h0 h1 hb
  dsimp only [un_same, step_same, fr_same, Fr.satP] at h ⊢
  simp only [hd, hw, hdz] at h ⊢
  refine ⟨fun _ => ?_, fun hn => absurd h1 (of_decide_eq_false hn)⟩
  repeat' first
   | exact h
   | exact ⟨h0, h1⟩
   | exact fun _ => ⟨h0, h1⟩
   | exact ⟨h0, h1z⟩
   | exact fun _ => ⟨h0, h1z⟩
   | exact h _ rfl hz
   | refine ⟨?_, ?_⟩
   | (intro (hc : _ = true); replace h := h.1 hc)
   | (intro (hc : _ = false); replace h := h.2 hc)
 ·rintro ⟨⟨i, s⟩, m⟩ hg h1 Q h
  have hz : m.1.2.2.1.length = m.2.1.2.2.1.length := hg
  exact ⟨fun hn => absurd (of_decide_eq_true hn) (zip_nlt hz h1), fun _ => h⟩
def Λ_same (Γ : FuncId -> Option Ct) : St -> Option Tr := pt_same.han Γ pt_same.M (FL step_same un_same good_same out_same Rd.back dS_same dR_same)
def res_same (y : pt_same.M.X) : st_same ⊕ pt_same.R.X := goL step_same ((un_same y).2.1.drop (un_same y).1.toNat) (un_same y).2.2
def okr_same (y : pt_same.M.X) : Prop := okL step_same ((un_same y).2.1.drop (un_same y).1.toNat) (un_same y).2.2
def mxL (c : Int) (l : lineT.den) : Int := mx (mx c l.1) l.2.1
structure InJ (i n : Int) (len : Nat) : Prop where
 i0 : i = 0
 nl : n = len
 big : (len : Int) <= 9223372036854775807
theorem mixI_go : (l : List lineT.den) -> (c : Int) -> (r : denP [.d i64, .d i64, .d (.sl entT), .d i64]) -> goF step_mixI l ((c, r), ()) = ((l.foldl mxL c, r), ())
 | [], _, _ => rfl
 | e :: l, c, r => mixI_go l (mxL c e) r
def FmixJ (x : pt_mixI.M.X) : Fr pt_mixI.Out := Fr.need (InJ x.1.1 x.1.2.1 (List.length (α := lineT.den) x.1.2.2.1))
 (Fr.val (Rd.out ((List.foldl mxL x.1.2.2.2.1 x.1.2.2.1, x.1.2.2.2.2), ())))
noncomputable abbrev inner_mixJ : Code := inner_mixI
theorem loop_mixJ : Does Tryz.prog (.loop inner_mixJ) pt_mixI.M pt_mixI FmixJ := Does.conv loop_mixI fun x Q h => by
 obtain ⟨⟨i, n, l, c, r⟩, z⟩ := x
 obtain ⟨⟨h1, h2, h3⟩, hq⟩ := h
 have h1 : i = (0 : Int) := h1
 subst h1
 refine ⟨⟨h2, Int.le_refl _, Int.natCast_nonneg _, h3⟩, okF_all (step := step_mixI) (fun _ _ => trivial) _ _, ?_⟩
 show Q (Rd.out (out_mixI (goF step_mixI (List.drop (α := lineT.den) 0 l) ((c, r), ()))))
 rw [List.drop_zero, mixI_go]
 exact hq
def Λ_mixJ (Γ : FuncId -> Option Ct) : St -> Option Tr := pt_mixI.han Γ pt_mixI.M FmixJ
theorem refI_go : (l : List lineT.den) -> (c : Int) -> (r : denP [.d i64, .d i64]) -> (z : denM [.x 2 24 bookT, .r 2 2 0, .x 7 32 entT, .r 7 7 0]) -> goF step_refI l ((c, r), z) = ((l.foldl mxL c, r), z)
 | [], _, _, _ => rfl
 | e :: l, c, r, z => refI_go l (mxL c e) r z
def FrefJ (x : pt_refI.M.X) : Fr pt_refI.Out := Fr.need (InJ x.1.1 (List.length (α := lineT.den) x.2.2.1.2.2.1 : Nat) (List.length (α := lineT.den) x.2.2.1.2.2.1))
 (Fr.val (Rd.out ((List.foldl mxL x.1.2.1 x.2.2.1.2.2.1, x.1.2.2), (x.2.1, ()))))
noncomputable abbrev inner_refJ : Code := inner_refI
theorem loop_refJ : Does Tryz.prog (.loop inner_refJ) pt_refI.M pt_refI FrefJ := Does.conv loop_refI fun x Q h => by
 obtain ⟨⟨i, c, r⟩, b, e, z⟩ := x
 obtain ⟨⟨h1, _, h3⟩, hq⟩ := h
 have h1 : i = (0 : Int) := h1
 subst h1
 refine ⟨⟨trivial, Int.le_refl _, Int.natCast_nonneg _, h3⟩, okF_all (step := step_refI) (fun _ _ => trivial) _ _, ?_⟩
 show Q (Rd.out (out_refI (goF step_refI (List.drop (α := lineT.den) 0 e.2.2.1) ((c, r), (b, e, z)))))
 rw [List.drop_zero, refI_go]
 exact hq
def Λ_refJ (Γ : FuncId -> Option Ct) : St -> Option Tr := pt_refI.han Γ pt_refI.M FrefJ
abbrev pt_mixO : Pt := ⟨48, 0, ⟨[(13, .d i64), (12, .d i64), (11, .d (.sl entT)), (5, .d u64), (1, .d i64)], []⟩, ⟨[(5, .d u64)], []⟩, ⟨[], []⟩⟩
def fr_mixO (x : pt_mixO.M.X) : Fr pt_mixO.Out :=
 Fr.br (decide (x.1.1 < x.1.2.1)) (Fr.need (0 <= x.1.1 /\ x.1.1 < ((List.length x.1.2.2.1) : Int)) (Fr.br (decide ((List.getD x.1.2.2.1 (Int.toNat x.1.1) entT.dflt).1 > x.1.2.2.2.2.1)) (Fr.val (Rd.next ((IntKind.i64.wrap (x.1.1 + 1), x.1.2.1, x.1.2.2.1, x.1.2.2.2.1, x.1.2.2.2.2.1, ()), ()))) (Fr.need (InJ 0 (((List.length (List.getD x.1.2.2.1 (Int.toNat x.1.1) entT.dflt).2.2.1) : Int)) (List.length (List.getD x.1.2.2.1 (Int.toNat x.1.1) entT.dflt).2.2.1)) (Fr.val (Rd.next ((IntKind.i64.wrap (x.1.1 + 1), x.1.2.1, x.1.2.2.1, List.foldl mxL (cMixL.f (x.1.2.2.2.1, [(List.getD x.1.2.2.1 (Int.toNat x.1.1) entT.dflt).1, (List.getD x.1.2.2.1 (Int.toNat x.1.1) entT.dflt).2.1, ((List.length (List.getD x.1.2.2.1 (Int.toNat x.1.1) entT.dflt).2.2.1) : Int)], ())).1 (List.getD x.1.2.2.1 (Int.toNat x.1.1) entT.dflt).2.2.1, x.1.2.2.2.2.1, ()), ())))))) (Fr.val (Rd.out ((x.1.2.2.2.1, ()), ())))
theorem sem_mixO : Does Tryz.prog (loopF Tryz.f8 0) pt_mixO.M pt_mixO fr_mixO :=
 Does.of_run C1_ok (bs := 0) (Λ := fun _ => Λ_mixJ C1.Γ) rfl rfl rfl (fun E => lam_of _ 0 fun i b hb => by
  match i, hb with
  | 0, hb =>
   have e : some inner_mixJ = some b := by rw [← hb]; kernel_rfl
   cases e
   exact Does.han C1_ok rfl loop_mixJ
  | i + 1, hb => exact absurd (bodyOf_lt hb) (by
   have : loopsIn (loopF Tryz.f8 0) = 1 := by kernel_rfl
   omega)) (fun x => by kernel_rfl)
abbrev st_mixO : Type := denP [.d u64, .d i64] × denM []
def step_mixO (e : entT.den) (s : st_mixO) : Fr st_mixO :=
 Fr.br (decide (e.1 > s.1.2.1)) (Fr.val ((s.1.1, s.1.2.1, ()), ())) (Fr.need (InJ 0 (((List.length e.2.2.1) : Int)) (List.length e.2.2.1)) (Fr.val ((List.foldl mxL (cMixL.f (s.1.1, [e.1, e.2.1, ((List.length e.2.2.1) : Int)], ())).1 e.2.2.1, s.1.2.1, ()), ())))
def un_mixO (x : pt_mixO.M.X) : Int × List entT.den × st_mixO := (x.1.1, x.1.2.2.1, x.1.2.2.2, x.2)
def good_mixO (x : pt_mixO.M.X) : Prop := x.1.2.1 = (x.1.2.2.1.length : Int)
def out_mixO (s : st_mixO) : pt_mixO.E.X := ((s.1.1, ()), ())
theorem loop_mixO : Does Tryz.prog (.loop (loopF Tryz.f8 0)) pt_mixO.M pt_mixO (FF step_mixO un_mixO good_mixO out_mixO) := by
 refine Does.fold sem_mixO step_mixO un_mixO good_mixO out_mixO ?_ ?_
 ·rintro ⟨⟨i, n, l, s⟩, m⟩ hg h0 h1 hb e he Q h
  have hg : n = (l.length : Int) := hg
  subst hg
  have h0 : 0 <= i := h0
  have h1 : i < (l.length : Int) := h1
  have hb : (l.length : Int) <= 9223372036854775807 := hb
  have hd : l.getD i.toNat entT.dflt = e := getD_of he
  have hw := wrap_next h0 h1 hb
  dsimp only [un_mixO, step_mixO, fr_mixO, Fr.satP] at h ⊢
  simp only [hd, hw] at h ⊢
  refine ⟨fun _ => ?_, fun hn => absurd h1 (of_decide_eq_false hn)⟩
  repeat' first
   | exact h
   | exact ⟨h0, h1⟩
   | exact fun _ => ⟨h0, h1⟩
   | exact h _ rfl rfl
   | (refine ⟨fun hc => ?_, fun hc => ?_⟩ <;> first | replace h := h.1 hc | replace h := h.2 hc)
   | (refine ⟨h.1, ?_⟩; replace h := h.2)
   | refine ⟨⟨h0, h1⟩, ?_⟩
   | exact h.1
   | exact h.2.1
   | exact h.2.2.1
   | refine ⟨?_, ?_⟩
   | (intro (hc : _ = true); replace h := h.1 hc)
   | (intro (hc : _ = false); replace h := h.2 hc)
   | (replace h := h.2)
 ·rintro ⟨⟨i, n, l, s⟩, m⟩ hg h1 Q h
  have hg : n = (l.length : Int) := hg
  subst hg
  exact ⟨fun hn => absurd (of_decide_eq_true hn) h1, fun _ => h⟩
def Λ_mixO (Γ : FuncId -> Option Ct) : St -> Option Tr := pt_mixO.han Γ pt_mixO.M (FF step_mixO un_mixO good_mixO out_mixO)
def res_mixO (y : pt_mixO.M.X) : st_mixO := goF step_mixO ((un_mixO y).2.1.drop (un_mixO y).1.toNat) (un_mixO y).2.2
def okr_mixO (y : pt_mixO.M.X) : Prop := okF step_mixO ((un_mixO y).2.1.drop (un_mixO y).1.toNat) (un_mixO y).2.2
abbrev pt_refO : Pt := ⟨59, 0, ⟨[(6, .d i64), (5, .d u64), (1, .d i64)], [.x 2 24 bookT, .r 2 2 0]⟩, ⟨[(5, .d u64)], []⟩, ⟨[], []⟩⟩
def fr_refO (x : pt_refO.M.X) : Fr pt_refO.Out :=
 Fr.br (decide (x.1.1 < ((List.length x.2.1.1) : Int))) (Fr.need (0 <= x.1.1 /\ x.1.1 < ((List.length x.2.1.1) : Int)) (Fr.br (decide ((List.getD x.2.1.1 (Int.toNat x.1.1) entT.dflt).1 > x.1.2.2.1)) (Fr.val (Rd.next ((IntKind.i64.wrap (x.1.1 + 1), x.1.2.1, x.1.2.2.1, ()), (x.2.1.1, ()), ()))) (Fr.need (InJ 0 (((List.length (List.getD x.2.1.1 (Int.toNat x.1.1) entT.dflt).2.2.1) : Int)) (List.length (List.getD x.2.1.1 (Int.toNat x.1.1) entT.dflt).2.2.1)) (Fr.val (Rd.next ((IntKind.i64.wrap (x.1.1 + 1), List.foldl mxL (cMx.f ((cMx.f ((cMx.f (x.1.2.1, (List.getD x.2.1.1 (Int.toNat x.1.1) entT.dflt).1, ())).1, (List.getD x.2.1.1 (Int.toNat x.1.1) entT.dflt).2.1, ())).1, ((List.length (List.getD x.2.1.1 (Int.toNat x.1.1) entT.dflt).2.2.1) : Int), ())).1 (List.getD x.2.1.1 (Int.toNat x.1.1) entT.dflt).2.2.1, x.1.2.2.1, ()), (x.2.1.1, ()), ())))))) (Fr.val (Rd.out ((x.1.2.1, ()), ())))
theorem sem_refO : Does Tryz.prog (loopF Tryz.f9 0) pt_refO.M pt_refO fr_refO :=
 Does.of_run C2_ok (bs := 0) (Λ := fun _ => Λ_refJ C2.Γ) rfl rfl rfl (fun E => lam_of _ 0 fun i b hb => by
  match i, hb with
  | 0, hb =>
   have e : some inner_refJ = some b := by rw [← hb]; kernel_rfl
   cases e
   exact Does.han C2_ok rfl loop_refJ
  | i + 1, hb => exact absurd (bodyOf_lt hb) (by
   have : loopsIn (loopF Tryz.f9 0) = 1 := by kernel_rfl
   omega)) (fun x => by kernel_rfl)
abbrev st_refO : Type := denP [.d u64, .d i64] × denM [.x 2 24 bookT, .r 2 2 0]
def step_refO (e : entT.den) (s : st_refO) : Fr st_refO :=
 Fr.br (decide (e.1 > s.1.2.1)) (Fr.val ((s.1.1, s.1.2.1, ()), (s.2.1.1, ()), ())) (Fr.need (InJ 0 (((List.length e.2.2.1) : Int)) (List.length e.2.2.1)) (Fr.val ((List.foldl mxL (cMx.f ((cMx.f ((cMx.f (s.1.1, e.1, ())).1, e.2.1, ())).1, ((List.length e.2.2.1) : Int), ())).1 e.2.2.1, s.1.2.1, ()), (s.2.1.1, ()), ())))
def un_refO (x : pt_refO.M.X) : Int × List entT.den × st_refO := (x.1.1, x.2.1.1, x.1.2, x.2)
def good_refO (x : pt_refO.M.X) : Prop := True
def out_refO (s : st_refO) : pt_refO.E.X := ((s.1.1, ()), ())
theorem loop_refO : Does Tryz.prog (.loop (loopF Tryz.f9 0)) pt_refO.M pt_refO (FF step_refO un_refO good_refO out_refO) := by
 refine Does.fold sem_refO step_refO un_refO good_refO out_refO ?_ ?_
 ·rintro ⟨⟨i, s⟩, m⟩ hg h0 h1 hb e he Q h
  have h0 : 0 <= i := h0
  have h1 : i < (m.1.1.length : Int) := h1
  have hb : (m.1.1.length : Int) <= 9223372036854775807 := hb
  have hd : m.1.1.getD i.toNat entT.dflt = e := getD_of he
  have hw := wrap_next h0 h1 hb
  dsimp only [un_refO, step_refO, fr_refO, Fr.satP] at h ⊢
  simp only [hd, hw] at h ⊢
  refine ⟨fun _ => ?_, fun hn => absurd h1 (of_decide_eq_false hn)⟩
  repeat' first
   | exact h
   | exact ⟨h0, h1⟩
   | exact fun _ => ⟨h0, h1⟩
   | exact h _ rfl trivial
   | (refine ⟨fun hc => ?_, fun hc => ?_⟩ <;> first | replace h := h.1 hc | replace h := h.2 hc)
   | (refine ⟨h.1, ?_⟩; replace h := h.2)
   | refine ⟨⟨h0, h1⟩, ?_⟩
   | exact h.1
   | exact h.2.1
   | exact h.2.2.1
   | refine ⟨?_, ?_⟩
   | (intro (hc : _ = true); replace h := h.1 hc)
   | (intro (hc : _ = false); replace h := h.2 hc)
   | (replace h := h.2)
 ·rintro ⟨⟨i, s⟩, m⟩ hg h1 Q h
  exact ⟨fun hn => absurd (of_decide_eq_true hn) h1, fun _ => h⟩
def Λ_refO (Γ : FuncId -> Option Ct) : St -> Option Tr := pt_refO.han Γ pt_refO.M (FF step_refO un_refO good_refO out_refO)
def res_refO (y : pt_refO.M.X) : st_refO := goF step_refO ((un_refO y).2.1.drop (un_refO y).1.toNat) (un_refO y).2.2
def okr_refO (y : pt_refO.M.X) : Prop := okF step_refO ((un_refO y).2.1.drop (un_refO y).1.toNat) (un_refO y).2.2
def ff_mix (x : denP [.d bookT, .d i64]) : Fr (denL [u64]) :=
 Fr.need (InL (good_mixO ((0, ((List.length x.1.1) : Int), x.1.1, 14695981039346656037, x.2.1, ()), ())) (un_mixO ((0, ((List.length x.1.1) : Int), x.1.1, 14695981039346656037, x.2.1, ()), ()))) (Fr.need (okr_mixO ((0, ((List.length x.1.1) : Int), x.1.1, 14695981039346656037, x.2.1, ()), ())) (Fr.val ((out_mixO (res_mixO ((0, ((List.length x.1.1) : Int), x.1.1, 14695981039346656037, x.2.1, ()), ()))).1.1, ())))
theorem ff_mix_ok : SoundCt Tryz.prog 8 ⟨[.d bookT, .d i64], [u64], fun xs => (ff_mix xs).get, fun xs => [(ff_mix xs).ok]⟩ :=
 fn_sound C1_ok (Λ := (fun _ => Λ_mixO C1.Γ)) (fn := Tryz.f8) (dfP [.d bookT, .d i64]) (by kernel_rfl) (fun c E hc => lam1f hc (by kernel_rfl) (b := loopF Tryz.f8 0) (by kernel_rfl) (Does.han C1_ok rfl loop_mixO)) (fun x => by kernel_rfl)
def ff_mixR (x : denP [.d bookT, .d i64]) : Fr (denL [u64]) :=
 Fr.need (InL (good_refO ((0, 14695981039346656037, x.2.1, ()), (x.1.1, ()), ())) (un_refO ((0, 14695981039346656037, x.2.1, ()), (x.1.1, ()), ()))) (Fr.need (okr_refO ((0, 14695981039346656037, x.2.1, ()), (x.1.1, ()), ())) (Fr.val ((out_refO (res_refO ((0, 14695981039346656037, x.2.1, ()), (x.1.1, ()), ()))).1.1, ())))
theorem ff_mixR_ok : SoundCt Tryz.prog 9 ⟨[.d bookT, .d i64], [u64], fun xs => (ff_mixR xs).get, fun xs => [(ff_mixR xs).ok]⟩ :=
 fn_sound C2_ok (Λ := (fun _ => Λ_refO C2.Γ)) (fn := Tryz.f9) (dfP [.d bookT, .d i64]) (by kernel_rfl) (fun c E hc => lam1f hc (by kernel_rfl) (b := loopF Tryz.f9 0) (by kernel_rfl) (Does.han C2_ok rfl loop_refO)) (fun x => by kernel_rfl)
def ff_few (x : denP [.d bookT]) : Fr (denL [.bool]) :=
 Fr.br (decide (((List.length x.1.1) : Int) > 60)) (Fr.val (false, ())) (Fr.need (InL (good_few ((0, ()), (x.1.1, ()), ())) (un_few ((0, ()), (x.1.1, ()), ()))) (Fr.need (okr_few ((0, ()), (x.1.1, ()), ())) (Fr.br (isL (res_few ((0, ()), (x.1.1, ()), ()))) (Fr.val (true, ())) (Fr.val ((getR dR_few (res_few ((0, ()), (x.1.1, ()), ()))).1.1, ())))))
theorem ff_few_ok : SoundCt Tryz.prog 7 ⟨[.d bookT], [.bool], fun xs => (ff_few xs).get, fun xs => [(ff_few xs).ok]⟩ :=
 fn_sound C0_ok (Λ := (fun _ => Λ_few C0.Γ)) (fn := Tryz.f7) (dfP [.d bookT]) (by kernel_rfl) (fun c E hc => lam1f hc (by kernel_rfl) (b := loopF Tryz.f7 0) (by kernel_rfl) (Does.han C0_ok rfl loop_few)) (fun x => by kernel_rfl)
def ff_sameE (x : denP [.d entT, .d entT]) : Fr (denL [.bool]) :=
 Fr.br (bif bif x.1.1 != x.2.1.1 then true else x.1.2.1 != x.2.1.2.1 then true else ((List.length x.1.2.2.1) : Int) != ((List.length x.2.1.2.2.1) : Int)) (Fr.val (false, ())) (Fr.need (InL (good_same ((0, ()), (x.1.1, x.1.2.1, x.1.2.2.1, ()), (x.2.1.1, x.2.1.2.1, x.2.1.2.2.1, ()), ())) (un_same ((0, ()), (x.1.1, x.1.2.1, x.1.2.2.1, ()), (x.2.1.1, x.2.1.2.1, x.2.1.2.2.1, ()), ()))) (Fr.need (okr_same ((0, ()), (x.1.1, x.1.2.1, x.1.2.2.1, ()), (x.2.1.1, x.2.1.2.1, x.2.1.2.2.1, ()), ())) (Fr.br (isL (res_same ((0, ()), (x.1.1, x.1.2.1, x.1.2.2.1, ()), (x.2.1.1, x.2.1.2.1, x.2.1.2.2.1, ()), ()))) (Fr.val (true, ())) (Fr.val ((getR dR_same (res_same ((0, ()), (x.1.1, x.1.2.1, x.1.2.2.1, ()), (x.2.1.1, x.2.1.2.1, x.2.1.2.2.1, ()), ()))).1.1, ())))))
theorem ff_sameE_ok : SoundCt Tryz.prog 16 ⟨[.d entT, .d entT], [.bool], fun xs => (ff_sameE xs).get, fun xs => [(ff_sameE xs).ok]⟩ :=
 fn_sound C0_ok (Λ := (fun _ => Λ_same C0.Γ)) (fn := Tryz.f16) (dfP [.d entT, .d entT]) (by kernel_rfl) (fun c E hc => lam1f hc (by kernel_rfl) (b := loopF Tryz.f16 0) (by kernel_rfl) (Does.han C0_ok rfl loop_same)) (fun x => by kernel_rfl)
theorem okF_mem {T σ : Type} {step : T -> σ -> Fr σ} : (l : List T) -> (∀ e ∈ l, ∀ s, (step e s).ok) -> (s : σ) -> okF step l s
 | [], _, _ => trivial
 | e :: l, h, s => ⟨h e List.mem_cons_self s, okF_mem l (fun e he => h e (List.mem_cons_of_mem _ he)) _⟩
theorem okL_mem {T σ ρ : Type} {step : T -> σ -> Fr (σ ⊕ ρ)} : (l : List T) -> (∀ e ∈ l, ∀ s, (step e s).ok) -> (s : σ) -> okL step l s
 | [], _, _ => trivial
 | e :: l, h, s => ⟨h e List.mem_cons_self s, by
   split
   ·exact okL_mem l (fun e he => h e (List.mem_cons_of_mem _ he)) _
   ·trivial⟩
theorem goL_all {T σ ρ : Type} {step : T -> σ -> Fr (σ ⊕ ρ)} {p : T -> Bool} {c : ρ} (h : ∀ e s, (step e s).get = if p e = true then .inl s else .inr c) : (l : List T) -> (s : σ) -> goL step l s = if l.all p = true then .inl s else .inr c
 | [], _ => rfl
 | e :: l, s => by
  by_cases hp : p e = true
  ·simp only [goL, h, hp, if_true, List.all_cons, Bool.true_and]
   exact goL_all h l s
  ·simp only [goL, h, hp, if_false, List.all_cons, Bool.false_and, Bool.false_eq_true]
def mxE (day c : Int) (e : entT.den) : Int := if e.1 > day then c else List.foldl mxL (mx (mx (mx c e.1) e.2.1) ((List.length (α := lineT.den) e.2.2.1 : Nat) : Int)) e.2.2.1
def mixB (b : bookT.den) (day : Int) : Int := List.foldl (mxE day) 14695981039346656037 b.1
def cMix : Ct := ⟨[.d bookT, .d i64], [u64], fun x => (mixB x.1 x.2.1, ()), fun _ => []⟩
theorem mixO_go (day : Int) : (l : List entT.den) -> (c : Int) -> goF step_mixO l ((c, day, ()), ()) = ((l.foldl (mxE day) c, day, ()), ())
 | [], _ => rfl
 | e :: l, c => by
  have hs : (step_mixO e ((c, day, ()), ())).get = ((mxE day c e, day, ()), ()) := by
   unfold mxE
   by_cases h : e.1 > day
   ·rw [if_pos h]
    exact if_pos (decide_eq_true h)
   ·rw [if_neg h]
    exact if_neg (by simpa using h)
  show goF step_mixO l (step_mixO e ((c, day, ()), ())).get = _
  rw [hs]
  exact mixO_go day l _
theorem refO_go (b : bookT.den) (day : Int) : (l : List entT.den) -> (c : Int) -> goF step_refO l ((c, day, ()), (b, ())) = ((l.foldl (mxE day) c, day, ()), (b, ()))
 | [], _ => rfl
 | e :: l, c => by
  have hs : (step_refO e ((c, day, ()), (b, ()))).get = ((mxE day c e, day, ()), (b, ())) := by
   unfold mxE
   by_cases h : e.1 > day
   ·rw [if_pos h]
    exact if_pos (decide_eq_true h)
   ·rw [if_neg h]
    exact if_neg (by simpa using h)
  show goF step_refO l (step_refO e ((c, day, ()), (b, ()))).get = _
  rw [hs]
  exact refO_go b day l _
theorem book_wf {w : World} {F : Nat -> Prop} {b : bookT.den} {v : Value} (h : RepP Tryz.prog w F (.d bookT) b v) : ((List.length (α := entT.den) b.1 : Nat) : Int) <= 9223372036854775807 /\ ∀ e ∈ b.1, ((List.length (α := lineT.den) e.2.2.1 : Nat) : Int) <= 9223372036854775807 := by
 have hw : Wf bookT b := RepT.wf (t := bookT) h.2.2
 refine ⟨len_big hw.1.1, fun e he => ?_⟩
 obtain ⟨i, hi⟩ := List.getElem?_of_mem he
 exact len_big (hw.1.2 i e hi).2.2.1.1
theorem mix_ok : SoundCt Tryz.prog 8 cMix :=
 convF ff_mix_ok _ _ (fun w F x vs hr _ => by
  obtain ⟨b, day, _⟩ := x
  obtain ⟨v, vs', rfl, hv, _⟩ := hr
  obtain ⟨h1, h2⟩ := book_wf hv
  refine ⟨⟨⟨rfl, Int.le_refl _, Int.natCast_nonneg _, h1⟩, okF_mem (step := step_mixO) _ (fun e he s => ⟨fun _ => trivial, fun _ => ⟨⟨rfl, rfl, h2 e (List.mem_of_mem_drop he)⟩, trivial⟩⟩) _, trivial⟩, ?_⟩
  show ((goF step_mixO (List.drop (α := entT.den) 0 b.1) ((14695981039346656037, day, ()), ())).1.1, ()) = (mixB b day, ())
  rw [List.drop_zero, mixO_go]
  rfl)
theorem mixR_ok : SoundCt Tryz.prog 9 cMix :=
 convF ff_mixR_ok _ _ (fun w F x vs hr _ => by
  obtain ⟨b, day, _⟩ := x
  obtain ⟨v, vs', rfl, hv, _⟩ := hr
  obtain ⟨h1, h2⟩ := book_wf hv
  refine ⟨⟨⟨trivial, Int.le_refl _, Int.natCast_nonneg _, h1⟩, okF_mem (step := step_refO) _ (fun e he s => ⟨fun _ => trivial, fun _ => ⟨⟨rfl, rfl, h2 e (List.mem_of_mem_drop he)⟩, trivial⟩⟩) _, trivial⟩, ?_⟩
  show ((goF step_refO (List.drop (α := entT.den) 0 b.1) ((14695981039346656037, day, ()), (b, ()))).1.1, ()) = (mixB b day, ())
  rw [List.drop_zero, refO_go]
  rfl)
def fewB (b : bookT.den) : Bool := decide (List.length (α := entT.den) b.1 <= 60) && List.all (α := entT.den) b.1 fun e => decide (List.length (α := lineT.den) e.2.2.1 <= 20)
def cFew : Ct := ⟨[.d bookT], [.bool], fun x => (fewB x.1, ()), fun _ => []⟩
theorem few_go (l : List entT.den) (s : st_few) : goL step_few l s = if l.all (fun e => decide (List.length (α := lineT.den) e.2.2.1 <= 20)) = true then .inl s else .inr ((false, ()), ()) :=
 goL_all (step := step_few) (fun e s => by
  by_cases h : List.length (α := lineT.den) e.2.2.1 <= 20
  ·rw [if_pos (decide_eq_true h)]
   exact if_neg (by simp only [decide_eq_true_eq]; omega)
  ·rw [if_neg (by simpa using h)]
   exact if_pos (by simp only [decide_eq_true_eq]; omega)) l s
theorem few_ok : SoundCt Tryz.prog 7 cFew :=
 convF ff_few_ok _ _ (fun w F x vs hr _ => by
  obtain ⟨b, _⟩ := x
  obtain ⟨v, vs', rfl, hv, _⟩ := hr
  obtain ⟨h1, h2⟩ := book_wf hv
  show (ff_few (b, ())).ok /\ (ff_few (b, ())).get = (fewB b, ())
  unfold fewB
  by_cases h : List.length (α := entT.den) b.1 <= 60
  ·rw [decide_eq_true h, Bool.true_and]
   refine Fr.br_f (by simp only [decide_eq_false_iff_not]; omega) (Fr.need_ ⟨trivial, Int.le_refl _, Int.natCast_nonneg _, h1⟩ (Fr.need_ (okL_mem (step := step_few) _ (fun e _ s => ⟨fun _ => trivial, fun _ => trivial⟩) _) ?_))
   have hg : res_few ((0, ()), b, ()) = if (List.all (α := entT.den) b.1 fun e => decide (List.length (α := lineT.den) e.2.2.1 <= 20)) = true then .inl ((), b, ()) else .inr ((false, ()), ()) := by
    show goL step_few (List.drop (α := entT.den) 0 b.1) ((), b, ()) = _
    rw [List.drop_zero, few_go]
   cases ha : (List.all (α := entT.den) b.1 fun e => decide (List.length (α := lineT.den) e.2.2.1 <= 20))
   ·rw [ha, if_neg (by decide)] at hg
    refine Fr.br_f (by show isL (res_few ((0, ()), b, ())) = false; rw [hg]; rfl) ⟨trivial, ?_⟩
    show ((getR dR_few (res_few ((0, ()), b, ()))).1.1, ()) = _
    rw [hg]
    rfl
   ·rw [ha, if_pos rfl] at hg
    exact Fr.br_t (by show isL (res_few ((0, ()), b, ())) = true; rw [hg]; rfl) ⟨trivial, rfl⟩
  ·rw [decide_eq_false h, Bool.false_and]
   exact Fr.br_t (by simp only [decide_eq_true_eq]; omega) ⟨trivial, rfl⟩)
abbrev spanT : Ty := .pair i64 (.pair i64 .unit)
abbrev riskT : Ty := .pair i64 (.pair i64 (.pair i64 (.pair i64 .unit)))
abbrev coverT : Ty := .pair i64 (.pair i64 (.pair i64 (.pair i64 (.pair i64 .unit))))
abbrev bandT : Ty := .pair i64 (.pair i64 .unit)
abbrev termsT : Ty := .pair spanT (.pair riskT (.pair (.sl coverT) .unit))
abbrev changeT : Ty := .pair i64 (.pair i64 (.pair i64 (.pair riskT (.pair (.sl coverT) (.pair i64 .unit)))))
abbrev four : Ty := .pair i64 (.pair i64 (.pair i64 (.pair i64 .unit)))
abbrev verT : Ty := .pair i64 (.pair four (.pair (.sl bandT) (.pair ints (.pair ints (.pair i64 .unit)))))
abbrev tarT : Ty := .pair (.sl verT) .unit
abbrev claimT : Ty := .pair i64 (.pair i64 (.pair i64 (.pair i64 (.pair i64 (.pair i64 .unit)))))
abbrev actT : Ty := .pair i64 (.pair i64 (.pair i64 .unit))
abbrev treatyT : Ty := .pair i64 (.pair i64 (.pair spanT (.pair i64 (.pair i64 (.pair i64 (.pair i64 (.pair i64 .unit)))))))
abbrev factT : Ty := .pair i64 (.pair i64 (.pair i64 (.pair i64 (.pair i64 (.pair termsT (.pair changeT (.pair claimT (.pair actT (.pair treatyT .unit)))))))))
abbrev jourT : Ty := .pair tarT (.pair (.sl factT) .unit)
abbrev tenT : Ty := .pair i64 (.pair i64 (.pair i64 (.pair i64 (.pair i64 (.pair i64 (.pair i64 (.pair i64 (.pair i64 (.pair i64 .unit)))))))))
abbrev closeT : Ty := .pair i64 (.pair tenT (.pair u64 .unit))
def noClose : closeT.den := (0, (0, 0, 0, 0, 0, 0, 0, 0, 0, 0, ()), 0, ())
def frTake (x : denP [.d jourT, .d i64]) : Fr (denL [closeT, i64]) :=
 let d : Int := x.2.1
 Fr.br (bif decide (d < 1) then true else decide (d > 292194)) (Fr.val (noClose, 3, ())) (Fr.need False (Fr.val (noClose, 0, ())))
def cTake0 : Ct := ⟨[.d jourT, .d i64], [closeT, i64], fun _ => (noClose, 3, ()), fun x => [(x.2.1 : Int) < 1]⟩
theorem take0_ok : SoundCt Tryz.prog 12 cTake0 :=
 convF (fn_sound C0_ok (Λ := lam0) (fn := Tryz.f12) (fr := frTake) (ps := [.d jourT, .d i64]) (rs := [closeT, i64]) (dfP _) (by kernel_rfl) (fun c E _ => lam0_ok c 0) (fun x => by kernel_rfl)) _ _ (fun w F x vs hr hok => by
  obtain ⟨j, d, _⟩ := x
  have hd : d < (1 : Int) := hok
  exact Fr.br_t (by rw [decide_eq_true hd]; rfl) ⟨trivial, rfl⟩)
noncomputable def CT : Cx := cx [(12, cTake0)] []
theorem CT_ok : CxOK Tryz.prog CT := cx_ok (ps := []) mixed ⟨take0_ok, trivial⟩ trivial
def ff_right (x : denP [.d jourT, .d closeT]) : Fr (denL [.bool]) :=
 Fr.need (x.2.1.1 < 1) (Fr.val (bif (cTake0.f (((x.1.1.1, ()), x.1.2.1, ()), x.2.1.1, ())).2.1 == 0 then (cTake0.f (((x.1.1.1, ()), x.1.2.1, ()), x.2.1.1, ())).1.1 == x.2.1.1 && ((cTake0.f (((x.1.1.1, ()), x.1.2.1, ()), x.2.1.1, ())).1.2.1.1 == x.2.1.2.1.1 && ((cTake0.f (((x.1.1.1, ()), x.1.2.1, ()), x.2.1.1, ())).1.2.1.2.1 == x.2.1.2.1.2.1 && ((cTake0.f (((x.1.1.1, ()), x.1.2.1, ()), x.2.1.1, ())).1.2.1.2.2.1 == x.2.1.2.1.2.2.1 && ((cTake0.f (((x.1.1.1, ()), x.1.2.1, ()), x.2.1.1, ())).1.2.1.2.2.2.1 == x.2.1.2.1.2.2.2.1 && ((cTake0.f (((x.1.1.1, ()), x.1.2.1, ()), x.2.1.1, ())).1.2.1.2.2.2.2.1 == x.2.1.2.1.2.2.2.2.1 && ((cTake0.f (((x.1.1.1, ()), x.1.2.1, ()), x.2.1.1, ())).1.2.1.2.2.2.2.2.1 == x.2.1.2.1.2.2.2.2.2.1 && ((cTake0.f (((x.1.1.1, ()), x.1.2.1, ()), x.2.1.1, ())).1.2.1.2.2.2.2.2.2.1 == x.2.1.2.1.2.2.2.2.2.2.1 && ((cTake0.f (((x.1.1.1, ()), x.1.2.1, ()), x.2.1.1, ())).1.2.1.2.2.2.2.2.2.2.1 == x.2.1.2.1.2.2.2.2.2.2.2.1 && ((cTake0.f (((x.1.1.1, ()), x.1.2.1, ()), x.2.1.1, ())).1.2.1.2.2.2.2.2.2.2.2.1 == x.2.1.2.1.2.2.2.2.2.2.2.2.1 && ((cTake0.f (((x.1.1.1, ()), x.1.2.1, ()), x.2.1.1, ())).1.2.1.2.2.2.2.2.2.2.2.2.1 == x.2.1.2.1.2.2.2.2.2.2.2.2.2.1 && true))))))))) && ((cTake0.f (((x.1.1.1, ()), x.1.2.1, ()), x.2.1.1, ())).1.2.2.1 == x.2.1.2.2.1 && true)) else false, ()))
theorem ff_right_ok : SoundCt Tryz.prog 13 ⟨[.d jourT, .d closeT], [.bool], fun xs => (ff_right xs).get, fun xs => [(ff_right xs).ok]⟩ :=
 fn_sound CT_ok (Λ := lam0) (fn := Tryz.f13) (dfP [.d jourT, .d closeT]) (by kernel_rfl) (fun c E _ => lam0_ok c 0) (fun x => by kernel_rfl)
def cRight0 : Ct := ⟨[.d jourT, .d closeT], [.bool], fun _ => (false, ()), fun x => [(x.2.1.1 : Int) < 1]⟩
theorem right0_ok : SoundCt Tryz.prog 13 cRight0 :=
 convF ff_right_ok _ _ (fun w F x vs hr hok => by
  obtain ⟨j, c, _⟩ := x
  exact ⟨⟨hok, trivial⟩, rfl⟩)
noncomputable def CA : Cx := cx [(12, cTake0), (13, cRight0), (8, cMix)] []
theorem CA_ok : CxOK Tryz.prog CA := cx_ok (ps := []) mixed ⟨take0_ok, right0_ok, mix_ok, trivial⟩ trivial
def ff_awake (x : denP []) : Fr (denL [.bool]) :=
 Fr.need ((0 : Int) < 1) (Fr.need ((bif (cMix.f (([], ()), 5, ())).1 == 14695981039346656037 then (cTake0.f ((([], ()), [], ()), 0, ())).2.1 == 3 else false) = true -> (0 : Int) < 1) (Fr.val (bif bif (cMix.f (([], ()), 5, ())).1 == 14695981039346656037 then (cTake0.f ((([], ()), [], ()), 0, ())).2.1 == 3 else false then !(cRight0.f ((([], ()), [], ()), (0, (0, 0, 0, 0, 0, 0, 0, 0, 0, 0, ()), 0, ()), ())).1 else false, ())))
theorem ff_awake_ok : SoundCt Tryz.prog 6 ⟨[], [.bool], fun xs => (ff_awake xs).get, fun xs => [(ff_awake xs).ok]⟩ :=
 fn_sound CA_ok (Λ := lam0) (fn := Tryz.f6) (dfP []) (by kernel_rfl) (fun c E _ => lam0_ok c 0) (fun x => by kernel_rfl)
def cYes : Ct := ⟨[], [.bool], fun _ => (true, ()), fun _ => []⟩
theorem awake_ok : SoundCt Tryz.prog 6 cYes :=
 convF ff_awake_ok _ _ (fun w F x vs hr hok => ⟨⟨by decide, fun _ => by decide, trivial⟩, rfl⟩)
def eqLn (e : lineT.den × lineT.den) : Bool := e.1.1 == e.2.1 && (e.1.2.1 == e.2.2.1 && true)
def sE (a b : entT.den) : Bool := bif bif bif a.1 != b.1 then true else a.2.1 != b.2.1 then true else ((List.length (α := lineT.den) a.2.2.1 : Nat) : Int) != ((List.length (α := lineT.den) b.2.2.1 : Nat) : Int) then false
 else (List.zip (α := lineT.den) (β := lineT.den) a.2.2.1 b.2.2.1).all eqLn
def cSameE : Ct := ⟨[.d entT, .d entT], [.bool], fun x => (sE x.1 x.2.1, ()), fun _ => []⟩
theorem same_go (l : List (lineT.den × lineT.den)) (s : st_same) : goL step_same l s = if l.all eqLn = true then .inl s else .inr ((false, ()), ()) :=
 goL_all (step := step_same) (fun e s => by
  cases h : eqLn e
  ·exact if_pos (by show (!(eqLn e)) = true; rw [h]; rfl)
  ·exact if_neg (by show ¬ (!(eqLn e)) = true; rw [h]; decide)) l s
theorem ent_wf {w : World} {F : Nat -> Prop} {e : entT.den} {v : Value} (h : RepP Tryz.prog w F (.d entT) e v) : ((List.length (α := lineT.den) e.2.2.1 : Nat) : Int) <= 9223372036854775807 :=
 len_big (RepT.wf (t := entT) h.2.2).2.2.1.1
theorem zip_len {α β : Type} (a : List α) (b : List β) (h : a.length = b.length) : (a.zip b).length = a.length := by rw [List.length_zip, h, Nat.min_self]
theorem sameE_ok : SoundCt Tryz.prog 16 cSameE :=
 convF ff_sameE_ok _ _ (fun w F x vs hr _ => by
  obtain ⟨a, b, _⟩ := x
  obtain ⟨v, vs', rfl, hv, _⟩ := hr
  have h1 := ent_wf hv
  show (ff_sameE (a, b, ())).ok /\ (ff_sameE (a, b, ())).get = (sE a b, ())
  unfold sE
  cases hc : (bif bif a.1 != b.1 then true else a.2.1 != b.2.1 then true else ((List.length (α := lineT.den) a.2.2.1 : Nat) : Int) != ((List.length (α := lineT.den) b.2.2.1 : Nat) : Int))
  ·have hlen : List.length (α := lineT.den) a.2.2.1 = List.length (α := lineT.den) b.2.2.1 := by
    cases h2 : (bif a.1 != b.1 then true else a.2.1 != b.2.1)
    ·rw [h2] at hc
     have h3 : (((List.length (α := lineT.den) a.2.2.1 : Nat) : Int) != ((List.length (α := lineT.den) b.2.2.1 : Nat) : Int)) = false := hc
     have h4 : ((List.length (α := lineT.den) a.2.2.1 : Nat) : Int) = ((List.length (α := lineT.den) b.2.2.1 : Nat) : Int) := by simpa using h3
     omega
    ·rw [h2] at hc
     cases hc
   have hz := zip_len (α := lineT.den) (β := lineT.den) a.2.2.1 b.2.2.1 hlen
   refine Fr.br_f hc (Fr.need_ ⟨hlen, Int.le_refl _, Int.natCast_nonneg _, ?_⟩ (Fr.need_ (okL_mem (step := step_same) _ (fun e _ s => ⟨fun _ => trivial, fun _ => trivial⟩) _) ?_))
   ·show ((List.length (List.zip (α := lineT.den) (β := lineT.den) a.2.2.1 b.2.2.1) : Nat) : Int) <= _
    rw [hz]
    exact h1
   have hg : res_same ((0, ()), a, b, ()) = if ((List.zip (α := lineT.den) (β := lineT.den) a.2.2.1 b.2.2.1).all eqLn) = true then .inl ((), a, b, ()) else .inr ((false, ()), ()) := by
    show goL step_same (List.drop 0 (List.zip (α := lineT.den) (β := lineT.den) a.2.2.1 b.2.2.1)) ((), a, b, ()) = _
    rw [List.drop_zero, same_go]
   cases ha : ((List.zip (α := lineT.den) (β := lineT.den) a.2.2.1 b.2.2.1).all eqLn)
   ·rw [ha, if_neg (by decide)] at hg
    refine Fr.br_f (by show isL (res_same ((0, ()), a, b, ())) = false; rw [hg]; rfl) ⟨trivial, ?_⟩
    show ((getR dR_same (res_same ((0, ()), a, b, ()))).1.1, ()) = _
    rw [hg]
    rfl
   ·rw [ha, if_pos rfl] at hg
    exact Fr.br_t (by show isL (res_same ((0, ()), a, b, ())) = true; rw [hg]; rfl) ⟨trivial, rfl⟩
  ·exact Fr.br_t hc ⟨trivial, rfl⟩)
theorem sE_self (a : entT.den) : sE a a = true := by
 unfold sE
 have h : (List.zip (α := lineT.den) (β := lineT.den) a.2.2.1 a.2.2.1).all eqLn = true := by
  rw [List.all_eq_true]
  intro e he
  have : e.1 = e.2 := by
   have h2 := List.of_mem_zip he
   obtain ⟨i, hi⟩ := List.getElem?_of_mem he
   rw [List.getElem?_zip_eq_some] at hi
   exact Option.some.inj (hi.1.symm.trans hi.2)
  unfold eqLn
  rw [this]
  simp
 rw [h]
 simp
noncomputable def CS : Cx := cx [(16, cSameE)] []
theorem CS_ok : CxOK Tryz.prog CS := cx_ok (ps := []) mixed ⟨sameE_ok, trivial⟩ trivial
abbrev pt_sameB : Pt := ⟨32, 0, ⟨[(5, .d i64)], [.x 2 24 bookT, .r 2 2 0, .x 3 24 bookT, .r 3 3 0]⟩, ⟨[], []⟩, ⟨[(4, .d .bool)], []⟩⟩
def fr_sameB (x : pt_sameB.M.X) : Fr pt_sameB.Out :=
 Fr.br (decide (x.1.1 < ((List.length x.2.1.1) : Int))) (Fr.need (0 <= x.1.1 /\ x.1.1 < ((List.length x.2.1.1) : Int)) (Fr.need (0 <= x.1.1 /\ x.1.1 < ((List.length x.2.2.1.1) : Int)) (Fr.br (!(cSameE.f (((List.getD x.2.1.1 (Int.toNat x.1.1) entT.dflt).1, (List.getD x.2.1.1 (Int.toNat x.1.1) entT.dflt).2.1, (List.getD x.2.1.1 (Int.toNat x.1.1) entT.dflt).2.2.1, ()), ((List.getD x.2.2.1.1 (Int.toNat x.1.1) entT.dflt).1, (List.getD x.2.2.1.1 (Int.toNat x.1.1) entT.dflt).2.1, (List.getD x.2.2.1.1 (Int.toNat x.1.1) entT.dflt).2.2.1, ()), ())).1) (Fr.val (Rd.back ((false, ()), ()))) (Fr.val (Rd.next ((IntKind.i64.wrap (x.1.1 + 1), ()), (x.2.1.1, ()), (x.2.2.1.1, ()), ())))))) (Fr.val (Rd.out ((), ())))
theorem sem_sameB : Does Tryz.prog (loopF Tryz.f11 0) pt_sameB.M pt_sameB fr_sameB :=
 Does.of_run CS_ok (bs := 0) (Λ := lam0) rfl rfl rfl (fun E => lam0_ok _ 0) (fun x => by kernel_rfl)
abbrev st_sameB : Type := denP [] × denM [.x 2 24 bookT, .r 2 2 0, .x 3 24 bookT, .r 3 3 0]
def step_sameB (e : (entT.den × entT.den)) (s : st_sameB) : Fr (st_sameB ⊕ pt_sameB.R.X) :=
 Fr.br (!(cSameE.f ((e.1.1, e.1.2.1, e.1.2.2.1, ()), (e.2.1, e.2.2.1, e.2.2.2.1, ()), ())).1) (Fr.val (.inr ((false, ()), ()))) (Fr.val (.inl ((), (s.2.1.1, ()), (s.2.2.1.1, ()), ())))
def un_sameB (x : pt_sameB.M.X) : Int × List (entT.den × entT.den) × st_sameB := (x.1.1, x.2.1.1.zip x.2.2.1.1, x.1.2, x.2)
def good_sameB (x : pt_sameB.M.X) : Prop := x.2.1.1.length = x.2.2.1.1.length
def out_sameB (s : st_sameB) : pt_sameB.E.X := ((), ())
def dS_sameB : st_sameB := (dfP _, dfM _)
def dR_sameB : pt_sameB.R.X := (dfP _, dfM _)
theorem loop_sameB : Does Tryz.prog (.loop (loopF Tryz.f11 0)) pt_sameB.M pt_sameB (FL step_sameB un_sameB good_sameB out_sameB Rd.back dS_sameB dR_sameB) := by
 refine Does.list sem_sameB step_sameB un_sameB good_sameB out_sameB Rd.back dS_sameB dR_sameB ?_ ?_
 ·rintro ⟨⟨i, s⟩, m⟩ hg h0 h1 hb e he Q h
  have hz : m.1.1.length = m.2.1.1.length := hg
  have h0 : 0 <= i := h0
  have h1 : i < (m.1.1.length : Int) := zip_lt hz h1
  have hb : (m.1.1.length : Int) <= 9223372036854775807 := zip_le hz hb
  have h1z : i < (m.2.1.1.length : Int) := by rw [← hz]; exact h1
  have hd : m.1.1.getD i.toNat entT.dflt = e.1 := getD_of (zip_fst he)
  have hdz : m.2.1.1.getD i.toNat entT.dflt = e.2 := getD_of (zip_snd he)
  have hw := wrap_next h0 h1 hb
  dsimp only [un_sameB, step_sameB, fr_sameB, Fr.satP] at h ⊢
  simp only [hd, hw, hdz] at h ⊢
  refine ⟨fun _ => ?_, fun hn => absurd h1 (of_decide_eq_false hn)⟩
  repeat' first
   | exact h
   | exact ⟨h0, h1⟩
   | exact fun _ => ⟨h0, h1⟩
   | exact ⟨h0, h1z⟩
   | exact fun _ => ⟨h0, h1z⟩
   | exact h _ rfl hz
   | (refine ⟨fun hc => ?_, fun hc => ?_⟩ <;> first | replace h := h.1 hc | replace h := h.2 hc)
   | (refine ⟨h.1, ?_⟩; replace h := h.2)
   | refine ⟨⟨h0, h1⟩, ?_⟩
   | exact h.1
   | exact h.2.1
   | exact h.2.2.1
   | refine ⟨?_, ?_⟩
   | (intro (hc : _ = true); replace h := h.1 hc)
   | (intro (hc : _ = false); replace h := h.2 hc)
   | (replace h := h.2)
 ·rintro ⟨⟨i, s⟩, m⟩ hg h1 Q h
  have hz : m.1.1.length = m.2.1.1.length := hg
  exact ⟨fun hn => absurd (of_decide_eq_true hn) (zip_nlt hz h1), fun _ => h⟩
def Λ_sameB (Γ : FuncId -> Option Ct) : St -> Option Tr := pt_sameB.han Γ pt_sameB.M (FL step_sameB un_sameB good_sameB out_sameB Rd.back dS_sameB dR_sameB)
def res_sameB (y : pt_sameB.M.X) : st_sameB ⊕ pt_sameB.R.X := goL step_sameB ((un_sameB y).2.1.drop (un_sameB y).1.toNat) (un_sameB y).2.2
def okr_sameB (y : pt_sameB.M.X) : Prop := okL step_sameB ((un_sameB y).2.1.drop (un_sameB y).1.toNat) (un_sameB y).2.2
abbrev pt_othI : Pt := ⟨123, 2, ⟨[(15, .d i64), (12, .d i64), (1, .d u8t), (2, .d u8t), (3, .d u8t), (4, .d i64)], [.x 5 24 bookT, .r 5 5 0, .y 11 24 [(some 32, entT)], .r 11 11 0, .x 13 32 entT, .r 13 13 0, .o 14 53 lineT, .x 10 24 bookT, .r 10 10 0]⟩, ⟨[(12, .d i64), (1, .d u8t), (2, .d u8t), (3, .d u8t), (4, .d i64)], [.x 5 24 bookT, .r 5 5 0, .y 11 24 [(some 32, entT)], .r 11 11 0, .x 13 32 entT, .r 13 13 0, .o 14 53 lineT, .x 10 24 bookT, .r 10 10 0]⟩, ⟨[], []⟩⟩
def fr_othI (x : pt_othI.M.X) : Fr pt_othI.Out :=
 Fr.br (decide (x.1.1 < ((List.length x.2.2.2.1.2.2.1) : Int))) (Fr.need (0 <= x.1.1 /\ x.1.1 < ((List.length x.2.2.2.1.2.2.1) : Int)) (Fr.need (x.2.2.2.2.1.length + [((List.getD x.2.2.2.1.2.2.1 (Int.toNat x.1.1) lineT.dflt).1, (List.getD x.2.2.2.1.2.2.1 (Int.toNat x.1.1) lineT.dflt).2.1, ())].length <= maxLen /\ (x.2.2.2.2.1.length + [((List.getD x.2.2.2.1.2.2.1 (Int.toNat x.1.1) lineT.dflt).1, (List.getD x.2.2.2.1.2.2.1 (Int.toNat x.1.1) lineT.dflt).2.1, ())].length) * 16 <= 140737488355328) (Fr.val (Rd.next ((IntKind.i64.wrap (x.1.1 + 1), x.1.2.1, x.1.2.2.1, x.1.2.2.2.1, x.1.2.2.2.2.1, x.1.2.2.2.2.2.1, ()), (x.2.1.1, ()), (x.2.2.1.1, ()), (x.2.2.2.1.1, x.2.2.2.1.2.1, x.2.2.2.1.2.2.1, ()), x.2.2.2.2.1 ++ [((List.getD x.2.2.2.1.2.2.1 (Int.toNat x.1.1) lineT.dflt).1, (List.getD x.2.2.2.1.2.2.1 (Int.toNat x.1.1) lineT.dflt).2.1, ())], (x.2.2.2.2.2.1.1, ()), ()))))) (Fr.val (Rd.out ((x.1.2.1, x.1.2.2.1, x.1.2.2.2.1, x.1.2.2.2.2.1, x.1.2.2.2.2.2.1, ()), (x.2.1.1, ()), (x.2.2.1.1, ()), (x.2.2.2.1.1, x.2.2.2.1.2.1, x.2.2.2.1.2.2.1, ()), x.2.2.2.2.1, (x.2.2.2.2.2.1.1, ()), ())))
noncomputable def inner_othI : Code := ((bodyOf (loopF Tryz.f10 0) 0).getD .skip)
theorem sem_othI : Does Tryz.prog inner_othI pt_othI.M pt_othI fr_othI :=
 Does.of_run C0_ok (bs := 0) (Λ := lam0) rfl rfl rfl (fun E => lam0_ok _ 0) (fun x => by kernel_rfl)
abbrev st_othI : Type := denP [.d i64, .d u8t, .d u8t, .d u8t, .d i64] × denM [.x 5 24 bookT, .r 5 5 0, .y 11 24 [(some 32, entT)], .r 11 11 0, .x 13 32 entT, .r 13 13 0, .o 14 53 lineT, .x 10 24 bookT, .r 10 10 0]
def step_othI (e : lineT.den) (s : st_othI) : Fr st_othI :=
 Fr.need (s.2.2.2.2.1.length + [(e.1, e.2.1, ())].length <= maxLen /\ (s.2.2.2.2.1.length + [(e.1, e.2.1, ())].length) * 16 <= 140737488355328) (Fr.val ((s.1.1, s.1.2.1, s.1.2.2.1, s.1.2.2.2.1, s.1.2.2.2.2.1, ()), (s.2.1.1, ()), (s.2.2.1.1, ()), (s.2.2.2.1.1, s.2.2.2.1.2.1, s.2.2.2.1.2.2.1, ()), s.2.2.2.2.1 ++ [(e.1, e.2.1, ())], (s.2.2.2.2.2.1.1, ()), ()))
def un_othI (x : pt_othI.M.X) : Int × List lineT.den × st_othI := (x.1.1, x.2.2.2.1.2.2.1, x.1.2, x.2)
def good_othI (x : pt_othI.M.X) : Prop := True
def out_othI (s : st_othI) : pt_othI.E.X := ((s.1.1, s.1.2.1, s.1.2.2.1, s.1.2.2.2.1, s.1.2.2.2.2.1, ()), (s.2.1.1, ()), (s.2.2.1.1, ()), (s.2.2.2.1.1, s.2.2.2.1.2.1, s.2.2.2.1.2.2.1, ()), s.2.2.2.2.1, (s.2.2.2.2.2.1.1, ()), ())
theorem loop_othI : Does Tryz.prog (.loop inner_othI) pt_othI.M pt_othI (FF step_othI un_othI good_othI out_othI) := by
 refine Does.fold sem_othI step_othI un_othI good_othI out_othI ?_ ?_
 ·rintro ⟨⟨i, s⟩, m⟩ hg h0 h1 hb e he Q h
  have h0 : 0 <= i := h0
  have h1 : i < (m.2.2.1.2.2.1.length : Int) := h1
  have hb : (m.2.2.1.2.2.1.length : Int) <= 9223372036854775807 := hb
  have hd : m.2.2.1.2.2.1.getD i.toNat lineT.dflt = e := getD_of he
  have hw := wrap_next h0 h1 hb
  dsimp only [un_othI, step_othI, fr_othI, Fr.satP] at h ⊢
  simp only [hd, hw] at h ⊢
  refine ⟨fun _ => ?_, fun hn => absurd h1 (of_decide_eq_false hn)⟩
  repeat' first
   | exact h
   | exact ⟨h0, h1⟩
   | exact fun _ => ⟨h0, h1⟩
   | exact h _ rfl trivial
   | (refine ⟨fun hc => ?_, fun hc => ?_⟩ <;> first | replace h := h.1 hc | replace h := h.2 hc)
   | (refine ⟨h.1, ?_⟩; replace h := h.2)
   | refine ⟨⟨h0, h1⟩, ?_⟩
   | exact h.1
   | exact h.2.1
   | exact h.2.2.1
   | refine ⟨?_, ?_⟩
   | (intro (hc : _ = true); replace h := h.1 hc)
   | (intro (hc : _ = false); replace h := h.2 hc)
   | (replace h := h.2)
 ·rintro ⟨⟨i, s⟩, m⟩ hg h1 Q h
  exact ⟨fun hn => absurd (of_decide_eq_true hn) h1, fun _ => h⟩
abbrev pt_parts : Pt := ⟨88, 0, ⟨[(10, .d i64), (1, .d i64), (7, .d .bool)], [.x 3 24 bookT, .r 3 3 0, .x 5 32 entT, .r 5 5 0, .y 9 24 [(some 32, entT)], .r 9 9 0]⟩, ⟨[(1, .d i64), (7, .d .bool)], [.x 3 24 bookT, .r 3 3 0, .x 5 32 entT, .r 5 5 0, .y 9 24 [(some 32, entT)], .r 9 9 0]⟩, ⟨[], []⟩⟩
def fr_parts (x : pt_parts.M.X) : Fr pt_parts.Out :=
 Fr.br (decide (x.1.1 < ((List.length x.2.1.1) : Int))) (Fr.need (0 <= x.1.1 /\ x.1.1 < ((List.length x.2.1.1) : Int)) (Fr.need ((List.nil : List lineT.den).length + List.length (List.getD x.2.1.1 (Int.toNat x.1.1) entT.dflt).2.2.1 <= maxLen /\ ((List.nil : List lineT.den).length + List.length (List.getD x.2.1.1 (Int.toNat x.1.1) entT.dflt).2.2.1) * 16 <= 140737488355328) (Fr.need (x.2.2.2.1.1.length + [((List.getD x.2.1.1 (Int.toNat x.1.1) entT.dflt).1, (List.getD x.2.1.1 (Int.toNat x.1.1) entT.dflt).2.1, [] ++ (List.getD x.2.1.1 (Int.toNat x.1.1) entT.dflt).2.2.1, ())].length <= maxLen /\ (x.2.2.2.1.1.length + [((List.getD x.2.1.1 (Int.toNat x.1.1) entT.dflt).1, (List.getD x.2.1.1 (Int.toNat x.1.1) entT.dflt).2.1, [] ++ (List.getD x.2.1.1 (Int.toNat x.1.1) entT.dflt).2.2.1, ())].length) * 40 <= 140737488355328) (Fr.val (Rd.next ((IntKind.i64.wrap (x.1.1 + 1), x.1.2.1, x.1.2.2.1, ()), (x.2.1.1, ()), (x.2.2.1.1, x.2.2.1.2.1, x.2.2.1.2.2.1, ()), (x.2.2.2.1.1 ++ [((List.getD x.2.1.1 (Int.toNat x.1.1) entT.dflt).1, (List.getD x.2.1.1 (Int.toNat x.1.1) entT.dflt).2.1, [] ++ (List.getD x.2.1.1 (Int.toNat x.1.1) entT.dflt).2.2.1, ())], ()), ())))))) (Fr.val (Rd.out ((x.1.2.1, x.1.2.2.1, ()), (x.2.1.1, ()), (x.2.2.1.1, x.2.2.1.2.1, x.2.2.1.2.2.1, ()), (x.2.2.2.1.1, ()), ())))
theorem sem_parts : Does Tryz.prog (loopF Tryz.f5 0) pt_parts.M pt_parts fr_parts :=
 Does.of_run C0_ok (bs := 0) (Λ := lam0) rfl rfl rfl (fun E => lam0_ok _ 0) (fun x => by kernel_rfl)
abbrev st_parts : Type := denP [.d i64, .d .bool] × denM [.x 3 24 bookT, .r 3 3 0, .x 5 32 entT, .r 5 5 0, .y 9 24 [(some 32, entT)], .r 9 9 0]
def step_parts (e : entT.den) (s : st_parts) : Fr st_parts :=
 Fr.need ((List.nil : List lineT.den).length + List.length e.2.2.1 <= maxLen /\ ((List.nil : List lineT.den).length + List.length e.2.2.1) * 16 <= 140737488355328) (Fr.need (s.2.2.2.1.1.length + [(e.1, e.2.1, [] ++ e.2.2.1, ())].length <= maxLen /\ (s.2.2.2.1.1.length + [(e.1, e.2.1, [] ++ e.2.2.1, ())].length) * 40 <= 140737488355328) (Fr.val ((s.1.1, s.1.2.1, ()), (s.2.1.1, ()), (s.2.2.1.1, s.2.2.1.2.1, s.2.2.1.2.2.1, ()), (s.2.2.2.1.1 ++ [(e.1, e.2.1, [] ++ e.2.2.1, ())], ()), ())))
def un_parts (x : pt_parts.M.X) : Int × List entT.den × st_parts := (x.1.1, x.2.1.1, x.1.2, x.2)
def good_parts (x : pt_parts.M.X) : Prop := True
def out_parts (s : st_parts) : pt_parts.E.X := ((s.1.1, s.1.2.1, ()), (s.2.1.1, ()), (s.2.2.1.1, s.2.2.1.2.1, s.2.2.1.2.2.1, ()), (s.2.2.2.1.1, ()), ())
theorem loop_parts : Does Tryz.prog (.loop (loopF Tryz.f5 0)) pt_parts.M pt_parts (FF step_parts un_parts good_parts out_parts) := by
 refine Does.fold sem_parts step_parts un_parts good_parts out_parts ?_ ?_
 ·rintro ⟨⟨i, s⟩, m⟩ hg h0 h1 hb e he Q h
  have h0 : 0 <= i := h0
  have h1 : i < (m.1.1.length : Int) := h1
  have hb : (m.1.1.length : Int) <= 9223372036854775807 := hb
  have hd : m.1.1.getD i.toNat entT.dflt = e := getD_of he
  have hw := wrap_next h0 h1 hb
  dsimp only [un_parts, step_parts, fr_parts, Fr.satP] at h ⊢
  simp only [hd, hw] at h ⊢
  refine ⟨fun _ => ?_, fun hn => absurd h1 (of_decide_eq_false hn)⟩
  repeat' first
   | exact h
   | exact ⟨h0, h1⟩
   | exact fun _ => ⟨h0, h1⟩
   | exact h _ rfl trivial
   | (refine ⟨fun hc => ?_, fun hc => ?_⟩ <;> first | replace h := h.1 hc | replace h := h.2 hc)
   | (refine ⟨h.1, ?_⟩; replace h := h.2)
   | refine ⟨⟨h0, h1⟩, ?_⟩
   | exact h.1
   | exact h.2.1
   | exact h.2.2.1
   | refine ⟨?_, ?_⟩
   | (intro (hc : _ = true); replace h := h.1 hc)
   | (intro (hc : _ = false); replace h := h.2 hc)
   | (replace h := h.2)
 ·rintro ⟨⟨i, s⟩, m⟩ hg h1 Q h
  exact ⟨fun hn => absurd (of_decide_eq_true hn) h1, fun _ => h⟩
theorem room16 {a b : Nat} (h : a + b <= 1000) : a + b <= maxLen /\ (a + b) * 16 <= 140737488355328 := by
 unfold maxLen
 omega
theorem othI_go (r : denP [.d i64, .d u8t, .d u8t, .d u8t, .d i64]) (b : bookT.den) (y : denY [(some 32, entT)]) (e : entT.den) (z : bookT.den) : (l : List lineT.den) -> (acc : List lineT.den) -> acc.length + l.length <= 1000 ->
  okF step_othI l ((r), (b, y, e, acc, z, ())) /\ goF step_othI l ((r), (b, y, e, acc, z, ())) = ((r), (b, y, e, acc ++ l, z, ()))
 | [], acc, _ => ⟨trivial, by rw [List.append_nil]; rfl⟩
 | x :: l, acc, h => by
  have h' : (acc ++ [x]).length + l.length <= 1000 := by
   rw [List.length_append, List.length_singleton]
   rw [List.length_cons] at h
   omega
  obtain ⟨h1, h2⟩ := othI_go r b y e z l (acc ++ [x]) h'
  refine ⟨⟨⟨room16 (by rw [List.length_cons] at h; show acc.length + 1 <= 1000; omega), trivial⟩, h1⟩, ?_⟩
  have : acc ++ x :: l = (acc ++ [x]) ++ l := by simp
  rw [this]
  exact h2
structure InO (i n : Int) (len acc : Nat) : Prop where
 j : InJ i n len
 room : len <= 1000
 none : acc = 0
def FothJ (x : pt_othI.M.X) : Fr pt_othI.Out := Fr.need (InO x.1.1 (List.length (α := lineT.den) x.2.2.2.1.2.2.1 : Nat) (List.length (α := lineT.den) x.2.2.2.1.2.2.1) (List.length (α := lineT.den) x.2.2.2.2.1))
 (Fr.val (Rd.out (x.1.2, (x.2.1, x.2.2.1, x.2.2.2.1, x.2.2.2.1.2.2.1, x.2.2.2.2.2.1, ()))))
noncomputable abbrev inner_othJ : Code := inner_othI
theorem loop_othJ : Does Tryz.prog (.loop inner_othJ) pt_othI.M pt_othI FothJ := Does.conv loop_othI fun x Q h => by
 obtain ⟨⟨i, r⟩, b, y, e, acc, z, _⟩ := x
 obtain ⟨⟨⟨h1, _, h3⟩, h4, h5⟩, hq⟩ := h
 have h1 : i = (0 : Int) := h1
 subst h1
 have h5 : acc = [] := List.eq_nil_of_length_eq_zero h5
 subst h5
 obtain ⟨k1, k2⟩ := othI_go r b y e z e.2.2.1 [] (by rw [List.length_nil, Nat.zero_add]; exact h4)
 refine ⟨⟨trivial, Int.le_refl _, Int.natCast_nonneg _, h3⟩, ?_, ?_⟩
 ·show okF step_othI (List.drop (α := lineT.den) 0 e.2.2.1) (r, (b, y, e, [], z, ()))
  rw [List.drop_zero]
  exact k1
 show Q (Rd.out (out_othI (goF step_othI (List.drop (α := lineT.den) 0 e.2.2.1) (r, (b, y, e, [], z, ())))))
 rw [List.drop_zero, k2, List.nil_append]
 exact hq
def Λ_othJ (Γ : FuncId -> Option Ct) : St -> Option Tr := pt_othI.han Γ pt_othI.M FothJ
abbrev pt_othO : Pt := ⟨123, 0, ⟨[(12, .d i64), (1, .d u8t), (2, .d u8t), (3, .d u8t), (4, .d i64)], [.x 5 24 bookT, .r 5 5 0, .y 11 24 [(some 32, entT)], .r 11 11 0, .x 10 24 bookT, .r 10 10 0]⟩, ⟨[(1, .d u8t), (2, .d u8t), (3, .d u8t), (4, .d i64)], [.x 5 24 bookT, .r 5 5 0, .y 11 24 [(some 32, entT)], .r 11 11 0, .x 10 24 bookT, .r 10 10 0]⟩, ⟨[], []⟩⟩
def fr_othO (x : pt_othO.M.X) : Fr pt_othO.Out :=
 Fr.br (decide (x.1.1 < ((List.length x.2.1.1) : Int))) (Fr.need (0 <= x.1.1 /\ x.1.1 < ((List.length x.2.1.1) : Int)) (Fr.need (InO 0 (((List.length (List.getD x.2.1.1 (Int.toNat x.1.1) entT.dflt).2.2.1) : Int)) (List.length (List.getD x.2.1.1 (Int.toNat x.1.1) entT.dflt).2.2.1) (List.nil : List lineT.den).length) (Fr.need (((List.length x.2.1.1) : Int) ≠ 0) (Fr.br (x.1.1 == (IntKind.i64.wrap x.1.2.1).tmod ((List.length x.2.1.1) : Int)) (Fr.need ((4 : Int) ≠ 0) (Fr.br (Int.tmod x.1.2.2.2.1 4 == 0) (Fr.need (x.2.2.1.1.length + [(IntKind.i64.wrap ((List.getD x.2.1.1 (Int.toNat x.1.1) entT.dflt).1 + x.1.2.2.2.2.1), (List.getD x.2.1.1 (Int.toNat x.1.1) entT.dflt).2.1, (List.getD x.2.1.1 (Int.toNat x.1.1) entT.dflt).2.2.1, ())].length <= maxLen /\ (x.2.2.1.1.length + [(IntKind.i64.wrap ((List.getD x.2.1.1 (Int.toNat x.1.1) entT.dflt).1 + x.1.2.2.2.2.1), (List.getD x.2.1.1 (Int.toNat x.1.1) entT.dflt).2.1, (List.getD x.2.1.1 (Int.toNat x.1.1) entT.dflt).2.2.1, ())].length) * 40 <= 140737488355328) (Fr.val (Rd.next ((IntKind.i64.wrap (x.1.1 + 1), x.1.2.1, x.1.2.2.1, x.1.2.2.2.1, x.1.2.2.2.2.1, ()), (x.2.1.1, ()), (x.2.2.1.1 ++ [(IntKind.i64.wrap ((List.getD x.2.1.1 (Int.toNat x.1.1) entT.dflt).1 + x.1.2.2.2.2.1), (List.getD x.2.1.1 (Int.toNat x.1.1) entT.dflt).2.1, (List.getD x.2.1.1 (Int.toNat x.1.1) entT.dflt).2.2.1, ())], ()), (x.2.2.2.1.1, ()), ())))) (Fr.br (Int.tmod x.1.2.2.2.1 4 == 1) (Fr.need (x.2.2.1.1.length + [((List.getD x.2.1.1 (Int.toNat x.1.1) entT.dflt).1, IntKind.i64.wrap ((List.getD x.2.1.1 (Int.toNat x.1.1) entT.dflt).2.1 + x.1.2.2.2.2.1), (List.getD x.2.1.1 (Int.toNat x.1.1) entT.dflt).2.2.1, ())].length <= maxLen /\ (x.2.2.1.1.length + [((List.getD x.2.1.1 (Int.toNat x.1.1) entT.dflt).1, IntKind.i64.wrap ((List.getD x.2.1.1 (Int.toNat x.1.1) entT.dflt).2.1 + x.1.2.2.2.2.1), (List.getD x.2.1.1 (Int.toNat x.1.1) entT.dflt).2.2.1, ())].length) * 40 <= 140737488355328) (Fr.val (Rd.next ((IntKind.i64.wrap (x.1.1 + 1), x.1.2.1, x.1.2.2.1, x.1.2.2.2.1, x.1.2.2.2.2.1, ()), (x.2.1.1, ()), (x.2.2.1.1 ++ [((List.getD x.2.1.1 (Int.toNat x.1.1) entT.dflt).1, IntKind.i64.wrap ((List.getD x.2.1.1 (Int.toNat x.1.1) entT.dflt).2.1 + x.1.2.2.2.2.1), (List.getD x.2.1.1 (Int.toNat x.1.1) entT.dflt).2.2.1, ())], ()), (x.2.2.2.1.1, ()), ())))) (Fr.br (Int.tmod x.1.2.2.2.1 4 == 2) (Fr.br (decide (((List.length (List.getD x.2.1.1 (Int.toNat x.1.1) entT.dflt).2.2.1) : Int) > 0)) (Fr.need (((List.length (List.getD x.2.1.1 (Int.toNat x.1.1) entT.dflt).2.2.1) : Int) ≠ 0) (Fr.need (((List.length (List.getD x.2.1.1 (Int.toNat x.1.1) entT.dflt).2.2.1) : Int) ≠ 0) (Fr.need (0 <= (IntKind.i64.wrap x.1.2.2.1).tmod ((List.length (List.getD x.2.1.1 (Int.toNat x.1.1) entT.dflt).2.2.1) : Int) /\ (IntKind.i64.wrap x.1.2.2.1).tmod ((List.length (List.getD x.2.1.1 (Int.toNat x.1.1) entT.dflt).2.2.1) : Int) < ((List.length (List.getD x.2.1.1 (Int.toNat x.1.1) entT.dflt).2.2.1) : Int)) (Fr.need (((IntKind.i64.wrap x.1.2.2.1).tmod ((List.length (List.getD x.2.1.1 (Int.toNat x.1.1) entT.dflt).2.2.1) : Int)).toNat < List.length (List.getD x.2.1.1 (Int.toNat x.1.1) entT.dflt).2.2.1) (Fr.need (0 <= (IntKind.i64.wrap x.1.2.2.1).tmod ((List.length (List.getD x.2.1.1 (Int.toNat x.1.1) entT.dflt).2.2.1) : Int) /\ (IntKind.i64.wrap x.1.2.2.1).tmod ((List.length (List.getD x.2.1.1 (Int.toNat x.1.1) entT.dflt).2.2.1) : Int) < ((List.length (List.getD x.2.1.1 (Int.toNat x.1.1) entT.dflt).2.2.1) : Int)) (Fr.need (((IntKind.i64.wrap x.1.2.2.1).tmod ((List.length (List.getD x.2.1.1 (Int.toNat x.1.1) entT.dflt).2.2.1) : Int)).toNat < List.length (List.getD x.2.1.1 (Int.toNat x.1.1) entT.dflt).2.2.1) (Fr.need (x.2.2.1.1.length + [((List.getD x.2.1.1 (Int.toNat x.1.1) entT.dflt).1, (List.getD x.2.1.1 (Int.toNat x.1.1) entT.dflt).2.1, List.set (List.getD x.2.1.1 (Int.toNat x.1.1) entT.dflt).2.2.1 ((IntKind.i64.wrap x.1.2.2.1).tmod ((List.length (List.getD x.2.1.1 (Int.toNat x.1.1) entT.dflt).2.2.1) : Int)).toNat (IntKind.i64.wrap ((List.getD (List.getD x.2.1.1 (Int.toNat x.1.1) entT.dflt).2.2.1 ((IntKind.i64.wrap x.1.2.2.1).tmod ((List.length (List.getD x.2.1.1 (Int.toNat x.1.1) entT.dflt).2.2.1) : Int)).toNat lineT.dflt).1 + x.1.2.2.2.2.1), (List.getD (List.getD x.2.1.1 (Int.toNat x.1.1) entT.dflt).2.2.1 ((IntKind.i64.wrap x.1.2.2.1).tmod ((List.length (List.getD x.2.1.1 (Int.toNat x.1.1) entT.dflt).2.2.1) : Int)).toNat lineT.dflt).2.1, ()), ())].length <= maxLen /\ (x.2.2.1.1.length + [((List.getD x.2.1.1 (Int.toNat x.1.1) entT.dflt).1, (List.getD x.2.1.1 (Int.toNat x.1.1) entT.dflt).2.1, List.set (List.getD x.2.1.1 (Int.toNat x.1.1) entT.dflt).2.2.1 ((IntKind.i64.wrap x.1.2.2.1).tmod ((List.length (List.getD x.2.1.1 (Int.toNat x.1.1) entT.dflt).2.2.1) : Int)).toNat (IntKind.i64.wrap ((List.getD (List.getD x.2.1.1 (Int.toNat x.1.1) entT.dflt).2.2.1 ((IntKind.i64.wrap x.1.2.2.1).tmod ((List.length (List.getD x.2.1.1 (Int.toNat x.1.1) entT.dflt).2.2.1) : Int)).toNat lineT.dflt).1 + x.1.2.2.2.2.1), (List.getD (List.getD x.2.1.1 (Int.toNat x.1.1) entT.dflt).2.2.1 ((IntKind.i64.wrap x.1.2.2.1).tmod ((List.length (List.getD x.2.1.1 (Int.toNat x.1.1) entT.dflt).2.2.1) : Int)).toNat lineT.dflt).2.1, ()), ())].length) * 40 <= 140737488355328) (Fr.val (Rd.next ((IntKind.i64.wrap (x.1.1 + 1), x.1.2.1, x.1.2.2.1, x.1.2.2.2.1, x.1.2.2.2.2.1, ()), (x.2.1.1, ()), (x.2.2.1.1 ++ [((List.getD x.2.1.1 (Int.toNat x.1.1) entT.dflt).1, (List.getD x.2.1.1 (Int.toNat x.1.1) entT.dflt).2.1, List.set (List.getD x.2.1.1 (Int.toNat x.1.1) entT.dflt).2.2.1 ((IntKind.i64.wrap x.1.2.2.1).tmod ((List.length (List.getD x.2.1.1 (Int.toNat x.1.1) entT.dflt).2.2.1) : Int)).toNat (IntKind.i64.wrap ((List.getD (List.getD x.2.1.1 (Int.toNat x.1.1) entT.dflt).2.2.1 ((IntKind.i64.wrap x.1.2.2.1).tmod ((List.length (List.getD x.2.1.1 (Int.toNat x.1.1) entT.dflt).2.2.1) : Int)).toNat lineT.dflt).1 + x.1.2.2.2.2.1), (List.getD (List.getD x.2.1.1 (Int.toNat x.1.1) entT.dflt).2.2.1 ((IntKind.i64.wrap x.1.2.2.1).tmod ((List.length (List.getD x.2.1.1 (Int.toNat x.1.1) entT.dflt).2.2.1) : Int)).toNat lineT.dflt).2.1, ()), ())], ()), (x.2.2.2.1.1, ()), ())))))))))) (Fr.need (x.2.2.1.1.length + [((List.getD x.2.1.1 (Int.toNat x.1.1) entT.dflt).1, (List.getD x.2.1.1 (Int.toNat x.1.1) entT.dflt).2.1, (List.getD x.2.1.1 (Int.toNat x.1.1) entT.dflt).2.2.1, ())].length <= maxLen /\ (x.2.2.1.1.length + [((List.getD x.2.1.1 (Int.toNat x.1.1) entT.dflt).1, (List.getD x.2.1.1 (Int.toNat x.1.1) entT.dflt).2.1, (List.getD x.2.1.1 (Int.toNat x.1.1) entT.dflt).2.2.1, ())].length) * 40 <= 140737488355328) (Fr.val (Rd.next ((IntKind.i64.wrap (x.1.1 + 1), x.1.2.1, x.1.2.2.1, x.1.2.2.2.1, x.1.2.2.2.2.1, ()), (x.2.1.1, ()), (x.2.2.1.1 ++ [((List.getD x.2.1.1 (Int.toNat x.1.1) entT.dflt).1, (List.getD x.2.1.1 (Int.toNat x.1.1) entT.dflt).2.1, (List.getD x.2.1.1 (Int.toNat x.1.1) entT.dflt).2.2.1, ())], ()), (x.2.2.2.1.1, ()), ()))))) (Fr.br (decide (((List.length (List.getD x.2.1.1 (Int.toNat x.1.1) entT.dflt).2.2.1) : Int) > 0)) (Fr.need (((List.length (List.getD x.2.1.1 (Int.toNat x.1.1) entT.dflt).2.2.1) : Int) ≠ 0) (Fr.need (((List.length (List.getD x.2.1.1 (Int.toNat x.1.1) entT.dflt).2.2.1) : Int) ≠ 0) (Fr.need (0 <= (IntKind.i64.wrap x.1.2.2.1).tmod ((List.length (List.getD x.2.1.1 (Int.toNat x.1.1) entT.dflt).2.2.1) : Int) /\ (IntKind.i64.wrap x.1.2.2.1).tmod ((List.length (List.getD x.2.1.1 (Int.toNat x.1.1) entT.dflt).2.2.1) : Int) < ((List.length (List.getD x.2.1.1 (Int.toNat x.1.1) entT.dflt).2.2.1) : Int)) (Fr.need (((IntKind.i64.wrap x.1.2.2.1).tmod ((List.length (List.getD x.2.1.1 (Int.toNat x.1.1) entT.dflt).2.2.1) : Int)).toNat < List.length (List.getD x.2.1.1 (Int.toNat x.1.1) entT.dflt).2.2.1) (Fr.need (0 <= (IntKind.i64.wrap x.1.2.2.1).tmod ((List.length (List.getD x.2.1.1 (Int.toNat x.1.1) entT.dflt).2.2.1) : Int) /\ (IntKind.i64.wrap x.1.2.2.1).tmod ((List.length (List.getD x.2.1.1 (Int.toNat x.1.1) entT.dflt).2.2.1) : Int) < ((List.length (List.getD x.2.1.1 (Int.toNat x.1.1) entT.dflt).2.2.1) : Int)) (Fr.need (((IntKind.i64.wrap x.1.2.2.1).tmod ((List.length (List.getD x.2.1.1 (Int.toNat x.1.1) entT.dflt).2.2.1) : Int)).toNat < List.length (List.getD x.2.1.1 (Int.toNat x.1.1) entT.dflt).2.2.1) (Fr.need (x.2.2.1.1.length + [((List.getD x.2.1.1 (Int.toNat x.1.1) entT.dflt).1, (List.getD x.2.1.1 (Int.toNat x.1.1) entT.dflt).2.1, List.set (List.getD x.2.1.1 (Int.toNat x.1.1) entT.dflt).2.2.1 ((IntKind.i64.wrap x.1.2.2.1).tmod ((List.length (List.getD x.2.1.1 (Int.toNat x.1.1) entT.dflt).2.2.1) : Int)).toNat ((List.getD (List.getD x.2.1.1 (Int.toNat x.1.1) entT.dflt).2.2.1 ((IntKind.i64.wrap x.1.2.2.1).tmod ((List.length (List.getD x.2.1.1 (Int.toNat x.1.1) entT.dflt).2.2.1) : Int)).toNat lineT.dflt).1, IntKind.i64.wrap ((List.getD (List.getD x.2.1.1 (Int.toNat x.1.1) entT.dflt).2.2.1 ((IntKind.i64.wrap x.1.2.2.1).tmod ((List.length (List.getD x.2.1.1 (Int.toNat x.1.1) entT.dflt).2.2.1) : Int)).toNat lineT.dflt).2.1 + x.1.2.2.2.2.1), ()), ())].length <= maxLen /\ (x.2.2.1.1.length + [((List.getD x.2.1.1 (Int.toNat x.1.1) entT.dflt).1, (List.getD x.2.1.1 (Int.toNat x.1.1) entT.dflt).2.1, List.set (List.getD x.2.1.1 (Int.toNat x.1.1) entT.dflt).2.2.1 ((IntKind.i64.wrap x.1.2.2.1).tmod ((List.length (List.getD x.2.1.1 (Int.toNat x.1.1) entT.dflt).2.2.1) : Int)).toNat ((List.getD (List.getD x.2.1.1 (Int.toNat x.1.1) entT.dflt).2.2.1 ((IntKind.i64.wrap x.1.2.2.1).tmod ((List.length (List.getD x.2.1.1 (Int.toNat x.1.1) entT.dflt).2.2.1) : Int)).toNat lineT.dflt).1, IntKind.i64.wrap ((List.getD (List.getD x.2.1.1 (Int.toNat x.1.1) entT.dflt).2.2.1 ((IntKind.i64.wrap x.1.2.2.1).tmod ((List.length (List.getD x.2.1.1 (Int.toNat x.1.1) entT.dflt).2.2.1) : Int)).toNat lineT.dflt).2.1 + x.1.2.2.2.2.1), ()), ())].length) * 40 <= 140737488355328) (Fr.val (Rd.next ((IntKind.i64.wrap (x.1.1 + 1), x.1.2.1, x.1.2.2.1, x.1.2.2.2.1, x.1.2.2.2.2.1, ()), (x.2.1.1, ()), (x.2.2.1.1 ++ [((List.getD x.2.1.1 (Int.toNat x.1.1) entT.dflt).1, (List.getD x.2.1.1 (Int.toNat x.1.1) entT.dflt).2.1, List.set (List.getD x.2.1.1 (Int.toNat x.1.1) entT.dflt).2.2.1 ((IntKind.i64.wrap x.1.2.2.1).tmod ((List.length (List.getD x.2.1.1 (Int.toNat x.1.1) entT.dflt).2.2.1) : Int)).toNat ((List.getD (List.getD x.2.1.1 (Int.toNat x.1.1) entT.dflt).2.2.1 ((IntKind.i64.wrap x.1.2.2.1).tmod ((List.length (List.getD x.2.1.1 (Int.toNat x.1.1) entT.dflt).2.2.1) : Int)).toNat lineT.dflt).1, IntKind.i64.wrap ((List.getD (List.getD x.2.1.1 (Int.toNat x.1.1) entT.dflt).2.2.1 ((IntKind.i64.wrap x.1.2.2.1).tmod ((List.length (List.getD x.2.1.1 (Int.toNat x.1.1) entT.dflt).2.2.1) : Int)).toNat lineT.dflt).2.1 + x.1.2.2.2.2.1), ()), ())], ()), (x.2.2.2.1.1, ()), ())))))))))) (Fr.need (x.2.2.1.1.length + [((List.getD x.2.1.1 (Int.toNat x.1.1) entT.dflt).1, (List.getD x.2.1.1 (Int.toNat x.1.1) entT.dflt).2.1, (List.getD x.2.1.1 (Int.toNat x.1.1) entT.dflt).2.2.1, ())].length <= maxLen /\ (x.2.2.1.1.length + [((List.getD x.2.1.1 (Int.toNat x.1.1) entT.dflt).1, (List.getD x.2.1.1 (Int.toNat x.1.1) entT.dflt).2.1, (List.getD x.2.1.1 (Int.toNat x.1.1) entT.dflt).2.2.1, ())].length) * 40 <= 140737488355328) (Fr.val (Rd.next ((IntKind.i64.wrap (x.1.1 + 1), x.1.2.1, x.1.2.2.1, x.1.2.2.2.1, x.1.2.2.2.2.1, ()), (x.2.1.1, ()), (x.2.2.1.1 ++ [((List.getD x.2.1.1 (Int.toNat x.1.1) entT.dflt).1, (List.getD x.2.1.1 (Int.toNat x.1.1) entT.dflt).2.1, (List.getD x.2.1.1 (Int.toNat x.1.1) entT.dflt).2.2.1, ())], ()), (x.2.2.2.1.1, ()), ()))))))))) (Fr.need (x.2.2.1.1.length + [((List.getD x.2.1.1 (Int.toNat x.1.1) entT.dflt).1, (List.getD x.2.1.1 (Int.toNat x.1.1) entT.dflt).2.1, (List.getD x.2.1.1 (Int.toNat x.1.1) entT.dflt).2.2.1, ())].length <= maxLen /\ (x.2.2.1.1.length + [((List.getD x.2.1.1 (Int.toNat x.1.1) entT.dflt).1, (List.getD x.2.1.1 (Int.toNat x.1.1) entT.dflt).2.1, (List.getD x.2.1.1 (Int.toNat x.1.1) entT.dflt).2.2.1, ())].length) * 40 <= 140737488355328) (Fr.val (Rd.next ((IntKind.i64.wrap (x.1.1 + 1), x.1.2.1, x.1.2.2.1, x.1.2.2.2.1, x.1.2.2.2.2.1, ()), (x.2.1.1, ()), (x.2.2.1.1 ++ [((List.getD x.2.1.1 (Int.toNat x.1.1) entT.dflt).1, (List.getD x.2.1.1 (Int.toNat x.1.1) entT.dflt).2.1, (List.getD x.2.1.1 (Int.toNat x.1.1) entT.dflt).2.2.1, ())], ()), (x.2.2.2.1.1, ()), ())))))))) (Fr.val (Rd.out ((x.1.2.1, x.1.2.2.1, x.1.2.2.2.1, x.1.2.2.2.2.1, ()), (x.2.1.1, ()), (x.2.2.1.1, ()), (x.2.2.2.1.1, ()), ())))
theorem sem_othO : Does Tryz.prog (loopF Tryz.f10 0) pt_othO.M pt_othO fr_othO :=
 Does.of_run C0_ok (bs := 0) (Λ := fun _ => Λ_othJ C0.Γ) rfl rfl rfl (fun E => lam_of _ 0 fun i b hb => by
  match i, hb with
  | 0, hb =>
   have e : some inner_othJ = some b := by rw [← hb]; kernel_rfl
   cases e
   exact Does.han C0_ok rfl loop_othJ
  | i + 1, hb => exact absurd (bodyOf_lt hb) (by
   have : loopsIn (loopF Tryz.f10 0) = 1 := by kernel_rfl
   omega)) (fun x => by kernel_rfl)
abbrev st_othO : Type := (denP [.d u8t, .d u8t, .d u8t, .d i64] × denM [.x 5 24 bookT, .r 5 5 0, .y 11 24 [(some 32, entT)], .r 11 11 0, .x 10 24 bookT, .r 10 10 0]) × Int
def step_othO (e : entT.den) (s : st_othO) : Fr st_othO :=
 Fr.need (InO 0 (((List.length e.2.2.1) : Int)) (List.length e.2.2.1) (List.nil : List lineT.den).length) (Fr.need (((List.length s.1.2.1.1) : Int) ≠ 0) (Fr.br (s.2 == (IntKind.i64.wrap s.1.1.1).tmod ((List.length s.1.2.1.1) : Int)) (Fr.need ((4 : Int) ≠ 0) (Fr.br (Int.tmod s.1.1.2.2.1 4 == 0) (Fr.need (s.1.2.2.1.1.length + [(IntKind.i64.wrap (e.1 + s.1.1.2.2.2.1), e.2.1, e.2.2.1, ())].length <= maxLen /\ (s.1.2.2.1.1.length + [(IntKind.i64.wrap (e.1 + s.1.1.2.2.2.1), e.2.1, e.2.2.1, ())].length) * 40 <= 140737488355328) (Fr.val (((s.1.1.1, s.1.1.2.1, s.1.1.2.2.1, s.1.1.2.2.2.1, ()), (s.1.2.1.1, ()), (s.1.2.2.1.1 ++ [(IntKind.i64.wrap (e.1 + s.1.1.2.2.2.1), e.2.1, e.2.2.1, ())], ()), (s.1.2.2.2.1.1, ()), ()), s.2 + 1))) (Fr.br (Int.tmod s.1.1.2.2.1 4 == 1) (Fr.need (s.1.2.2.1.1.length + [(e.1, IntKind.i64.wrap (e.2.1 + s.1.1.2.2.2.1), e.2.2.1, ())].length <= maxLen /\ (s.1.2.2.1.1.length + [(e.1, IntKind.i64.wrap (e.2.1 + s.1.1.2.2.2.1), e.2.2.1, ())].length) * 40 <= 140737488355328) (Fr.val (((s.1.1.1, s.1.1.2.1, s.1.1.2.2.1, s.1.1.2.2.2.1, ()), (s.1.2.1.1, ()), (s.1.2.2.1.1 ++ [(e.1, IntKind.i64.wrap (e.2.1 + s.1.1.2.2.2.1), e.2.2.1, ())], ()), (s.1.2.2.2.1.1, ()), ()), s.2 + 1))) (Fr.br (Int.tmod s.1.1.2.2.1 4 == 2) (Fr.br (decide (((List.length e.2.2.1) : Int) > 0)) (Fr.need (((List.length e.2.2.1) : Int) ≠ 0) (Fr.need (((List.length e.2.2.1) : Int) ≠ 0) (Fr.need (0 <= (IntKind.i64.wrap s.1.1.2.1).tmod ((List.length e.2.2.1) : Int) /\ (IntKind.i64.wrap s.1.1.2.1).tmod ((List.length e.2.2.1) : Int) < ((List.length e.2.2.1) : Int)) (Fr.need (((IntKind.i64.wrap s.1.1.2.1).tmod ((List.length e.2.2.1) : Int)).toNat < List.length e.2.2.1) (Fr.need (0 <= (IntKind.i64.wrap s.1.1.2.1).tmod ((List.length e.2.2.1) : Int) /\ (IntKind.i64.wrap s.1.1.2.1).tmod ((List.length e.2.2.1) : Int) < ((List.length e.2.2.1) : Int)) (Fr.need (((IntKind.i64.wrap s.1.1.2.1).tmod ((List.length e.2.2.1) : Int)).toNat < List.length e.2.2.1) (Fr.need (s.1.2.2.1.1.length + [(e.1, e.2.1, List.set e.2.2.1 ((IntKind.i64.wrap s.1.1.2.1).tmod ((List.length e.2.2.1) : Int)).toNat (IntKind.i64.wrap ((List.getD e.2.2.1 ((IntKind.i64.wrap s.1.1.2.1).tmod ((List.length e.2.2.1) : Int)).toNat lineT.dflt).1 + s.1.1.2.2.2.1), (List.getD e.2.2.1 ((IntKind.i64.wrap s.1.1.2.1).tmod ((List.length e.2.2.1) : Int)).toNat lineT.dflt).2.1, ()), ())].length <= maxLen /\ (s.1.2.2.1.1.length + [(e.1, e.2.1, List.set e.2.2.1 ((IntKind.i64.wrap s.1.1.2.1).tmod ((List.length e.2.2.1) : Int)).toNat (IntKind.i64.wrap ((List.getD e.2.2.1 ((IntKind.i64.wrap s.1.1.2.1).tmod ((List.length e.2.2.1) : Int)).toNat lineT.dflt).1 + s.1.1.2.2.2.1), (List.getD e.2.2.1 ((IntKind.i64.wrap s.1.1.2.1).tmod ((List.length e.2.2.1) : Int)).toNat lineT.dflt).2.1, ()), ())].length) * 40 <= 140737488355328) (Fr.val (((s.1.1.1, s.1.1.2.1, s.1.1.2.2.1, s.1.1.2.2.2.1, ()), (s.1.2.1.1, ()), (s.1.2.2.1.1 ++ [(e.1, e.2.1, List.set e.2.2.1 ((IntKind.i64.wrap s.1.1.2.1).tmod ((List.length e.2.2.1) : Int)).toNat (IntKind.i64.wrap ((List.getD e.2.2.1 ((IntKind.i64.wrap s.1.1.2.1).tmod ((List.length e.2.2.1) : Int)).toNat lineT.dflt).1 + s.1.1.2.2.2.1), (List.getD e.2.2.1 ((IntKind.i64.wrap s.1.1.2.1).tmod ((List.length e.2.2.1) : Int)).toNat lineT.dflt).2.1, ()), ())], ()), (s.1.2.2.2.1.1, ()), ()), s.2 + 1))))))))) (Fr.need (s.1.2.2.1.1.length + [(e.1, e.2.1, e.2.2.1, ())].length <= maxLen /\ (s.1.2.2.1.1.length + [(e.1, e.2.1, e.2.2.1, ())].length) * 40 <= 140737488355328) (Fr.val (((s.1.1.1, s.1.1.2.1, s.1.1.2.2.1, s.1.1.2.2.2.1, ()), (s.1.2.1.1, ()), (s.1.2.2.1.1 ++ [(e.1, e.2.1, e.2.2.1, ())], ()), (s.1.2.2.2.1.1, ()), ()), s.2 + 1)))) (Fr.br (decide (((List.length e.2.2.1) : Int) > 0)) (Fr.need (((List.length e.2.2.1) : Int) ≠ 0) (Fr.need (((List.length e.2.2.1) : Int) ≠ 0) (Fr.need (0 <= (IntKind.i64.wrap s.1.1.2.1).tmod ((List.length e.2.2.1) : Int) /\ (IntKind.i64.wrap s.1.1.2.1).tmod ((List.length e.2.2.1) : Int) < ((List.length e.2.2.1) : Int)) (Fr.need (((IntKind.i64.wrap s.1.1.2.1).tmod ((List.length e.2.2.1) : Int)).toNat < List.length e.2.2.1) (Fr.need (0 <= (IntKind.i64.wrap s.1.1.2.1).tmod ((List.length e.2.2.1) : Int) /\ (IntKind.i64.wrap s.1.1.2.1).tmod ((List.length e.2.2.1) : Int) < ((List.length e.2.2.1) : Int)) (Fr.need (((IntKind.i64.wrap s.1.1.2.1).tmod ((List.length e.2.2.1) : Int)).toNat < List.length e.2.2.1) (Fr.need (s.1.2.2.1.1.length + [(e.1, e.2.1, List.set e.2.2.1 ((IntKind.i64.wrap s.1.1.2.1).tmod ((List.length e.2.2.1) : Int)).toNat ((List.getD e.2.2.1 ((IntKind.i64.wrap s.1.1.2.1).tmod ((List.length e.2.2.1) : Int)).toNat lineT.dflt).1, IntKind.i64.wrap ((List.getD e.2.2.1 ((IntKind.i64.wrap s.1.1.2.1).tmod ((List.length e.2.2.1) : Int)).toNat lineT.dflt).2.1 + s.1.1.2.2.2.1), ()), ())].length <= maxLen /\ (s.1.2.2.1.1.length + [(e.1, e.2.1, List.set e.2.2.1 ((IntKind.i64.wrap s.1.1.2.1).tmod ((List.length e.2.2.1) : Int)).toNat ((List.getD e.2.2.1 ((IntKind.i64.wrap s.1.1.2.1).tmod ((List.length e.2.2.1) : Int)).toNat lineT.dflt).1, IntKind.i64.wrap ((List.getD e.2.2.1 ((IntKind.i64.wrap s.1.1.2.1).tmod ((List.length e.2.2.1) : Int)).toNat lineT.dflt).2.1 + s.1.1.2.2.2.1), ()), ())].length) * 40 <= 140737488355328) (Fr.val (((s.1.1.1, s.1.1.2.1, s.1.1.2.2.1, s.1.1.2.2.2.1, ()), (s.1.2.1.1, ()), (s.1.2.2.1.1 ++ [(e.1, e.2.1, List.set e.2.2.1 ((IntKind.i64.wrap s.1.1.2.1).tmod ((List.length e.2.2.1) : Int)).toNat ((List.getD e.2.2.1 ((IntKind.i64.wrap s.1.1.2.1).tmod ((List.length e.2.2.1) : Int)).toNat lineT.dflt).1, IntKind.i64.wrap ((List.getD e.2.2.1 ((IntKind.i64.wrap s.1.1.2.1).tmod ((List.length e.2.2.1) : Int)).toNat lineT.dflt).2.1 + s.1.1.2.2.2.1), ()), ())], ()), (s.1.2.2.2.1.1, ()), ()), s.2 + 1))))))))) (Fr.need (s.1.2.2.1.1.length + [(e.1, e.2.1, e.2.2.1, ())].length <= maxLen /\ (s.1.2.2.1.1.length + [(e.1, e.2.1, e.2.2.1, ())].length) * 40 <= 140737488355328) (Fr.val (((s.1.1.1, s.1.1.2.1, s.1.1.2.2.1, s.1.1.2.2.2.1, ()), (s.1.2.1.1, ()), (s.1.2.2.1.1 ++ [(e.1, e.2.1, e.2.2.1, ())], ()), (s.1.2.2.2.1.1, ()), ()), s.2 + 1)))))))) (Fr.need (s.1.2.2.1.1.length + [(e.1, e.2.1, e.2.2.1, ())].length <= maxLen /\ (s.1.2.2.1.1.length + [(e.1, e.2.1, e.2.2.1, ())].length) * 40 <= 140737488355328) (Fr.val (((s.1.1.1, s.1.1.2.1, s.1.1.2.2.1, s.1.1.2.2.2.1, ()), (s.1.2.1.1, ()), (s.1.2.2.1.1 ++ [(e.1, e.2.1, e.2.2.1, ())], ()), (s.1.2.2.2.1.1, ()), ()), s.2 + 1)))))
def un_othO (x : pt_othO.M.X) : Int × List entT.den × st_othO := (x.1.1, x.2.1.1, (x.1.2, x.2), x.1.1)
def good_othO (x : pt_othO.M.X) : Prop := True
def out_othO (s : st_othO) : pt_othO.E.X := ((s.1.1.1, s.1.1.2.1, s.1.1.2.2.1, s.1.1.2.2.2.1, ()), (s.1.2.1.1, ()), (s.1.2.2.1.1, ()), (s.1.2.2.2.1.1, ()), ())
theorem loop_othO : Does Tryz.prog (.loop (loopF Tryz.f10 0)) pt_othO.M pt_othO (FF step_othO un_othO good_othO out_othO) := by
 refine Does.fold sem_othO step_othO un_othO good_othO out_othO ?_ ?_
 ·rintro ⟨⟨i, s⟩, m⟩ hg h0 h1 hb e he Q h
  have h0 : 0 <= i := h0
  have h1 : i < (m.1.1.length : Int) := h1
  have hb : (m.1.1.length : Int) <= 9223372036854775807 := hb
  have hd : m.1.1.getD i.toNat entT.dflt = e := getD_of he
  have hw := wrap_next h0 h1 hb
  dsimp only [un_othO, step_othO, fr_othO, Fr.satP] at h ⊢
  simp only [hd, hw] at h ⊢
  refine ⟨fun _ => ?_, fun hn => absurd h1 (of_decide_eq_false hn)⟩
  repeat' first
   | exact h
   | exact ⟨h0, h1⟩
   | exact fun _ => ⟨h0, h1⟩
   | exact h _ rfl trivial
   | (refine ⟨fun hc => ?_, fun hc => ?_⟩ <;> first | replace h := h.1 hc | replace h := h.2 hc)
   | (refine ⟨h.1, ?_⟩; replace h := h.2)
   | refine ⟨⟨h0, h1⟩, ?_⟩
   | exact h.1
   | exact h.2.1
   | exact h.2.2.1
   | refine ⟨?_, ?_⟩
   | (intro (hc : _ = true); replace h := h.1 hc)
   | (intro (hc : _ = false); replace h := h.2 hc)
   | (replace h := h.2)
 ·rintro ⟨⟨i, s⟩, m⟩ hg h1 Q h
  exact ⟨fun hn => absurd (of_decide_eq_true hn) h1, fun _ => h⟩
def Λ_othO (Γ : FuncId -> Option Ct) : St -> Option Tr := pt_othO.han Γ pt_othO.M (FF step_othO un_othO good_othO out_othO)
def res_othO (y : pt_othO.M.X) : st_othO := goF step_othO ((un_othO y).2.1.drop (un_othO y).1.toNat) (un_othO y).2.2
def okr_othO (y : pt_othO.M.X) : Prop := okF step_othO ((un_othO y).2.1.drop (un_othO y).1.toNat) (un_othO y).2.2
def atL (line : Int) (n : Nat) : Nat := ((IntKind.i64.wrap line).tmod (n : Int)).toNat
def setAcc (line by_ : Int) (l : List lineT.den) : List lineT.den := l.set (atL line l.length) (IntKind.i64.wrap ((l.getD (atL line l.length) lineT.dflt).1 + by_), (l.getD (atL line l.length) lineT.dflt).2.1, ())
def setAmt (line by_ : Int) (l : List lineT.den) : List lineT.den := l.set (atL line l.length) ((l.getD (atL line l.length) lineT.dflt).1, IntKind.i64.wrap ((l.getD (atL line l.length) lineT.dflt).2.1 + by_), ())
def chE (line which by_ : Int) (e : entT.den) : entT.den :=
 bif Int.tmod which 4 == 0 then (IntKind.i64.wrap (e.1 + by_), e.2.1, e.2.2.1, ())
 else bif Int.tmod which 4 == 1 then (e.1, IntKind.i64.wrap (e.2.1 + by_), e.2.2.1, ())
 else bif Int.tmod which 4 == 2 then (bif decide (((List.length (α := lineT.den) e.2.2.1 : Nat) : Int) > 0) then (e.1, e.2.1, setAcc line by_ e.2.2.1, ()) else e)
 else (bif decide (((List.length (α := lineT.den) e.2.2.1 : Nat) : Int) > 0) then (e.1, e.2.1, setAmt line by_ e.2.2.1, ()) else e)
def chs (t line which by_ : Int) : Int -> List entT.den -> List entT.den
 | _, [] => []
 | k, e :: l => (bif k == t then chE line which by_ e else e) :: chs t line which by_ (k + 1) l
theorem room40 {a : Nat} (h : a + 1 <= 1000) : a + 1 <= maxLen /\ (a + 1) * 40 <= 140737488355328 := by
 unfold maxLen
 omega
theorem atL_in {line : Int} {n : Nat} (h0 : 0 <= line) (h1 : line <= 255) (hn : ((n : Nat) : Int) > 0) : (0 <= (IntKind.i64.wrap line).tmod (n : Int) /\ (IntKind.i64.wrap line).tmod (n : Int) < (n : Int)) /\ ((IntKind.i64.wrap line).tmod (n : Int)).toNat < n := by
 rw [i64w (by omega)]
 have a := Int.tmod_nonneg (n : Int) h0
 have b := Int.tmod_lt_of_pos line hn
 omega
theorem othO_step (at_ line which by_ : Int) (b z : bookT.den) (acc : List entT.den) (k : Int) (e : entT.den) (hl : 0 <= line /\ line <= 255) (hb : List.length (α := entT.den) b.1 ≠ 0) (he : List.length (α := lineT.den) e.2.2.1 <= 1000) (ha : acc.length + 1 <= 1000) :
  (step_othO e (((at_, line, which, by_, ()), (b, (acc, ()), z, ())), k)).ok /\ (step_othO e (((at_, line, which, by_, ()), (b, (acc, ()), z, ())), k)).get =
   (((at_, line, which, by_, ()), (b, (acc ++ [bif k == (IntKind.i64.wrap at_).tmod ((List.length (α := entT.den) b.1 : Nat) : Int) then chE line which by_ e else e], ()), z, ())), k + 1) := by
 have hr := room40 ha
 refine Fr.need_ ⟨⟨rfl, rfl, by omega⟩, he, rfl⟩ (Fr.need_ (show ((List.length (α := entT.den) b.1 : Nat) : Int) ≠ 0 by omega) ?_)
 cases h1 : (k == (IntKind.i64.wrap at_).tmod ((List.length (α := entT.den) b.1 : Nat) : Int))
 ·exact Fr.br_f rfl (Fr.need_ hr ⟨trivial, rfl⟩)
 ·refine Fr.br_t rfl (Fr.need_ (by decide) ?_)
  unfold chE
  cases h2 : (Int.tmod which 4 == 0)
  ·refine Fr.br_f rfl ?_
   cases h3 : (Int.tmod which 4 == 1)
   ·refine Fr.br_f rfl ?_
    cases h4 : (Int.tmod which 4 == 2)
    ·refine Fr.br_f rfl ?_
     cases h5 : decide (((List.length (α := lineT.den) e.2.2.1 : Nat) : Int) > 0)
     ·exact Fr.br_f rfl (Fr.need_ hr ⟨trivial, rfl⟩)
     ·have h6 := of_decide_eq_true h5
      have h7 := atL_in hl.1 hl.2 h6
      have h8 : ((List.length (α := lineT.den) e.2.2.1 : Nat) : Int) ≠ 0 := by omega
      exact Fr.br_t rfl (Fr.need_ h8 (Fr.need_ h8 (Fr.need_ h7.1 (Fr.need_ h7.2 (Fr.need_ h7.1 (Fr.need_ h7.2 (Fr.need_ hr ⟨trivial, rfl⟩)))))))
    ·refine Fr.br_t rfl ?_
     cases h5 : decide (((List.length (α := lineT.den) e.2.2.1 : Nat) : Int) > 0)
     ·exact Fr.br_f rfl (Fr.need_ hr ⟨trivial, rfl⟩)
     ·have h6 := of_decide_eq_true h5
      have h7 := atL_in hl.1 hl.2 h6
      have h8 : ((List.length (α := lineT.den) e.2.2.1 : Nat) : Int) ≠ 0 := by omega
      exact Fr.br_t rfl (Fr.need_ h8 (Fr.need_ h8 (Fr.need_ h7.1 (Fr.need_ h7.2 (Fr.need_ h7.1 (Fr.need_ h7.2 (Fr.need_ hr ⟨trivial, rfl⟩)))))))
   ·exact Fr.br_t rfl (Fr.need_ hr ⟨trivial, rfl⟩)
  ·exact Fr.br_t rfl (Fr.need_ hr ⟨trivial, rfl⟩)
theorem othO_go (at_ line which by_ : Int) (b z : bookT.den) (hl : 0 <= line /\ line <= 255) (hb : List.length (α := entT.den) b.1 ≠ 0) : (l : List entT.den) -> (acc : List entT.den) -> (k : Int) -> (∀ e ∈ l, List.length (α := lineT.den) e.2.2.1 <= 1000) -> acc.length + l.length <= 1000 ->
  okF step_othO l (((at_, line, which, by_, ()), (b, (acc, ()), z, ())), k) /\ goF step_othO l (((at_, line, which, by_, ()), (b, (acc, ()), z, ())), k) =
   (((at_, line, which, by_, ()), (b, (acc ++ chs ((IntKind.i64.wrap at_).tmod ((List.length (α := entT.den) b.1 : Nat) : Int)) line which by_ k l, ()), z, ())), k + l.length)
 | [], acc, k, _, _ => ⟨trivial, by
  show _ = (((at_, line, which, by_, ()), (b, (acc ++ [], ()), z, ())), k + ((0 : Nat) : Int))
  rw [List.append_nil, Int.natCast_zero, Int.add_zero]
  rfl⟩
 | e :: l, acc, k, he, ha => by
  rw [List.length_cons] at ha
  obtain ⟨s1, s2⟩ := othO_step at_ line which by_ b z acc k e hl hb (he e List.mem_cons_self) (by omega)
  obtain ⟨h1, h2⟩ := othO_go at_ line which by_ b z hl hb l (acc ++ [bif k == (IntKind.i64.wrap at_).tmod ((List.length (α := entT.den) b.1 : Nat) : Int) then chE line which by_ e else e]) (k + 1) (fun e he' => he e (List.mem_cons_of_mem _ he')) (by rw [List.length_append, List.length_singleton]; omega)
  refine ⟨⟨s1, by rw [s2]; exact h1⟩, ?_⟩
  show goF step_othO l (step_othO e _).get = _
  rw [s2, h2]
  simp only [chs, List.append_assoc, List.singleton_append, List.length_cons]
  have : k + 1 + (l.length : Int) = k + ((l.length + 1 : Nat) : Int) := by omega
  rw [this]
noncomputable def CM : Cx := cx [(6, cYes), (7, cFew), (8, cMix), (9, cMix)] []
theorem CM_ok : CxOK Tryz.prog CM := cx_ok (ps := []) mixed ⟨awake_ok, few_ok, mix_ok, mixR_ok, trivial⟩ trivial
def ff_sameB (x : denP [.d bookT, .d bookT]) : Fr (denL [.bool]) :=
 Fr.br (((List.length x.1.1) : Int) != ((List.length x.2.1.1) : Int)) (Fr.val (false, ())) (Fr.need (InL (good_sameB ((0, ()), (x.1.1, ()), (x.2.1.1, ()), ())) (un_sameB ((0, ()), (x.1.1, ()), (x.2.1.1, ()), ()))) (Fr.need (okr_sameB ((0, ()), (x.1.1, ()), (x.2.1.1, ()), ())) (Fr.br (isL (res_sameB ((0, ()), (x.1.1, ()), (x.2.1.1, ()), ()))) (Fr.val (true, ())) (Fr.val ((getR dR_sameB (res_sameB ((0, ()), (x.1.1, ()), (x.2.1.1, ()), ()))).1.1, ())))))
theorem ff_sameB_ok : SoundCt Tryz.prog 11 ⟨[.d bookT, .d bookT], [.bool], fun xs => (ff_sameB xs).get, fun xs => [(ff_sameB xs).ok]⟩ :=
 fn_sound CS_ok (Λ := (fun _ => Λ_sameB CS.Γ)) (fn := Tryz.f11) (dfP [.d bookT, .d bookT]) (by kernel_rfl) (fun c E hc => lam1f hc (by kernel_rfl) (b := loopF Tryz.f11 0) (by kernel_rfl) (Does.han CS_ok rfl loop_sameB)) (fun x => by kernel_rfl)
def ff_other (x : denP [.d bookT, .d u8t, .d u8t, .d u8t, .d i64]) : Fr (denL [bookT]) :=
 Fr.need (InL (good_othO ((0, x.2.1, x.2.2.1, x.2.2.2.1, x.2.2.2.2.1, ()), (x.1.1, ()), ([], ()), ([], ()), ())) (un_othO ((0, x.2.1, x.2.2.1, x.2.2.2.1, x.2.2.2.2.1, ()), (x.1.1, ()), ([], ()), ([], ()), ()))) (Fr.need (okr_othO ((0, x.2.1, x.2.2.1, x.2.2.2.1, x.2.2.2.2.1, ()), (x.1.1, ()), ([], ()), ([], ()), ())) (Fr.val (((out_othO (res_othO ((0, x.2.1, x.2.2.1, x.2.2.2.1, x.2.2.2.2.1, ()), (x.1.1, ()), ([], ()), ([], ()), ()))).2.2.1.1, ()), ())))
theorem ff_other_ok : SoundCt Tryz.prog 10 ⟨[.d bookT, .d u8t, .d u8t, .d u8t, .d i64], [bookT], fun xs => (ff_other xs).get, fun xs => [(ff_other xs).ok]⟩ :=
 fn_sound C0_ok (Λ := (fun _ => Λ_othO C0.Γ)) (fn := Tryz.f10) (dfP [.d bookT, .d u8t, .d u8t, .d u8t, .d i64]) (by kernel_rfl) (fun c E hc => lam1f hc (by kernel_rfl) (b := loopF Tryz.f10 0) (by kernel_rfl) (Does.han C0_ok rfl loop_othO)) (fun x => by kernel_rfl)
def ff_lawM (x : denP [.d bookT, .d i64]) : Fr (denL [.bool]) :=
 Fr.br (!(cFew.f ((x.1.1, ()), ())).1) (Fr.val ((cYes.f ()).1, ())) (Fr.val (bif (cYes.f ()).1 then (cMix.f ((x.1.1, ()), x.2.1, ())).1 == (cMix.f ((x.1.1, ()), x.2.1, ())).1 else false, ()))
theorem ff_lawM_ok : SoundCt Tryz.prog 3 ⟨[.d bookT, .d i64], [.bool], fun xs => (ff_lawM xs).get, fun xs => [(ff_lawM xs).ok]⟩ :=
 fn_sound CM_ok (Λ := lam0) (fn := Tryz.f3) (dfP [.d bookT, .d i64]) (by kernel_rfl) (fun c E _ => lam0_ok c 0) (fun x => by kernel_rfl)
def cLaw30 (ps : List PT) : Ct := ⟨ps, [.bool], fun _ => (true, ()), fun _ => []⟩
theorem lawMix_ok : SoundCt Tryz.prog 3 (cLaw30 [.d bookT, .d i64]) :=
 convF ff_lawM_ok _ _ (fun w F x vs hr _ => by
  obtain ⟨b, day, _⟩ := x
  have h2 : (mixB b day == mixB b day) = true := by simp
  show (ff_lawM (b, day, ())).ok /\ (ff_lawM (b, day, ())).get = (true, ())
  have h3 : ((bif true then (mixB b day == mixB b day) else false, ()) : Bool × Unit) = (true, ()) := by rw [h2]; rfl
  cases h : fewB b
  ·exact Fr.br_t (by show (!(fewB b)) = true; rw [h]; rfl) ⟨trivial, rfl⟩
  ·exact Fr.br_f (by show (!(fewB b)) = false; rw [h]; rfl) ⟨trivial, h3⟩)
def sB (a b : bookT.den) : Bool := bif ((List.length (α := entT.den) a.1 : Nat) : Int) != ((List.length (α := entT.den) b.1 : Nat) : Int) then false else (List.zip (α := entT.den) (β := entT.den) a.1 b.1).all fun e => sE e.1 e.2
def cSameB : Ct := ⟨[.d bookT, .d bookT], [.bool], fun x => (sB x.1 x.2.1, ()), fun _ => []⟩
theorem sameB_go (l : List (entT.den × entT.den)) (s : st_sameB) : goL step_sameB l s = if (l.all fun e => sE e.1 e.2) = true then .inl s else .inr ((false, ()), ()) :=
 goL_all (step := step_sameB) (fun e s => by
  cases h : sE e.1 e.2
  ·exact if_pos (by show (!(sE e.1 e.2)) = true; rw [h]; rfl)
  ·exact if_neg (by show ¬ (!(sE e.1 e.2)) = true; rw [h]; decide)) l s
theorem sameB_ok : SoundCt Tryz.prog 11 cSameB :=
 convF ff_sameB_ok _ _ (fun w F x vs hr _ => by
  obtain ⟨a, b, _⟩ := x
  obtain ⟨v, vs', rfl, hv, _⟩ := hr
  have h1 := (book_wf hv).1
  show (ff_sameB (a, b, ())).ok /\ (ff_sameB (a, b, ())).get = (sB a b, ())
  unfold sB
  cases hc : (((List.length (α := entT.den) a.1 : Nat) : Int) != ((List.length (α := entT.den) b.1 : Nat) : Int))
  ·have hlen : List.length (α := entT.den) a.1 = List.length (α := entT.den) b.1 := by
    have h4 : ((List.length (α := entT.den) a.1 : Nat) : Int) = ((List.length (α := entT.den) b.1 : Nat) : Int) := by simpa using hc
    omega
   have hz := zip_len (α := entT.den) (β := entT.den) a.1 b.1 hlen
   refine Fr.br_f hc (Fr.need_ ⟨hlen, Int.le_refl _, Int.natCast_nonneg _, ?_⟩ (Fr.need_ (okL_mem (step := step_sameB) _ (fun e _ s => ⟨fun _ => trivial, fun _ => trivial⟩) _) ?_))
   ·show ((List.length (List.zip (α := entT.den) (β := entT.den) a.1 b.1) : Nat) : Int) <= _
    rw [hz]
    exact h1
   have hg : res_sameB ((0, ()), a, b, ()) = if ((List.zip (α := entT.den) (β := entT.den) a.1 b.1).all fun e => sE e.1 e.2) = true then .inl ((), a, b, ()) else .inr ((false, ()), ()) := by
    show goL step_sameB (List.drop 0 (List.zip (α := entT.den) (β := entT.den) a.1 b.1)) ((), a, b, ()) = _
    rw [List.drop_zero, sameB_go]
   cases ha : ((List.zip (α := entT.den) (β := entT.den) a.1 b.1).all fun e => sE e.1 e.2)
   ·rw [ha, if_neg (by decide)] at hg
    refine Fr.br_f (by show isL (res_sameB ((0, ()), a, b, ())) = false; rw [hg]; rfl) ⟨trivial, ?_⟩
    show ((getR dR_sameB (res_sameB ((0, ()), a, b, ()))).1.1, ()) = _
    rw [hg]
    rfl
   ·rw [ha, if_pos rfl] at hg
    exact Fr.br_t (by show isL (res_sameB ((0, ()), a, b, ())) = true; rw [hg]; rfl) ⟨trivial, rfl⟩
  ·exact Fr.br_t hc ⟨trivial, rfl⟩)
theorem sB_self (a : bookT.den) : sB a a = true := by
 unfold sB
 have h : ((List.zip (α := entT.den) (β := entT.den) a.1 a.1).all fun e => sE e.1 e.2) = true := by
  rw [List.all_eq_true]
  intro e he
  have : e.1 = e.2 := by
   obtain ⟨i, hi⟩ := List.getElem?_of_mem he
   rw [List.getElem?_zip_eq_some] at hi
   exact Option.some.inj (hi.1.symm.trans hi.2)
  rw [this]
  exact sE_self _
 rw [h]
 simp
def otherB (b : bookT.den) (at_ line which by_ : Int) : bookT.den := (chs ((IntKind.i64.wrap at_).tmod ((List.length (α := entT.den) b.1 : Nat) : Int)) line which by_ 0 b.1, ())
def cOther : Ct := ⟨[.d bookT, .d u8t, .d u8t, .d u8t, .d i64], [bookT], fun x => (otherB x.1 x.2.1 x.2.2.1 x.2.2.2.1 x.2.2.2.2.1, ()), fun x => [fewB x.1 = true /\ List.length (α := entT.den) x.1.1 ≠ 0]⟩
theorem few_iff {b : bookT.den} (h : fewB b = true) : List.length (α := entT.den) b.1 <= 60 /\ ∀ e ∈ b.1, List.length (α := lineT.den) e.2.2.1 <= 20 := by
 unfold fewB at h
 rw [Bool.and_eq_true, List.all_eq_true] at h
 exact ⟨of_decide_eq_true h.1, fun e he => of_decide_eq_true (h.2 e he)⟩
theorem other_ok : SoundCt Tryz.prog 10 cOther :=
 convF ff_other_ok _ _ (fun w F x vs hr hok => by
  obtain ⟨b, at_, line, which, by_, _⟩ := x
  obtain ⟨v, vs', rfl, hv, v2, vs2, rfl, hv2, v3, vs3, rfl, hv3, _⟩ := hr
  obtain ⟨hf, hn⟩ := hok
  obtain ⟨f1, f2⟩ := few_iff hf
  have h1 := (book_wf hv).1
  have hl : 0 <= line /\ line <= 255 := RepT.wf (t := u8t) hv3.2.2
  obtain ⟨k1, k2⟩ := othO_go at_ line which by_ b (([], ()) : bookT.den) hl hn b.1 [] 0 (fun e he => Nat.le_trans (f2 e he) (by decide)) (by rw [List.length_nil, Nat.zero_add]; exact Nat.le_trans f1 (by decide))
  refine ⟨⟨⟨trivial, Int.le_refl _, Int.natCast_nonneg _, h1⟩, ?_, trivial⟩, ?_⟩
  ·show okF step_othO (List.drop (α := entT.den) 0 b.1) _
   rw [List.drop_zero]
   exact k1
  ·have e : res_othO ((0, at_, line, which, by_, ()), b, ([], ()), ([], ()), ()) = goF step_othO b.1 (((at_, line, which, by_, ()), (b, ([], ()), ([], ()), ())), 0) := by
    show goF step_othO (List.drop (α := entT.den) 0 b.1) _ = _
    rw [List.drop_zero]
    rfl
   show (((out_othO (res_othO ((0, at_, line, which, by_, ()), b, ([], ()), ([], ()), ()))).2.2.1.1, ()), ()) = _
   rw [e, k2, List.nil_append]
   rfl)
theorem roomE {a b : Nat} (h : a + b <= 1000) : a + b <= maxLen /\ (a + b) * 40 <= 140737488355328 := by
 unfold maxLen
 omega
theorem parts_go (r : denP [.d i64, .d .bool]) (b : bookT.den) (x : entT.den) : (l : List entT.den) -> (acc : List entT.den) -> (∀ e ∈ l, List.length (α := lineT.den) e.2.2.1 <= 1000) -> acc.length + l.length <= 1000 ->
  okF step_parts l (r, (b, x, (acc, ()), ())) /\ goF step_parts l (r, (b, x, (acc, ()), ())) = (r, (b, x, (acc ++ l, ()), ()))
 | [], acc, _, _ => ⟨trivial, by rw [List.append_nil]; rfl⟩
 | e :: l, acc, he, ha => by
  rw [List.length_cons] at ha
  obtain ⟨h1, h2⟩ := parts_go r b x l (acc ++ [e]) (fun e he' => he e (List.mem_cons_of_mem _ he')) (by rw [List.length_append, List.length_singleton]; omega)
  refine ⟨⟨⟨room16 (a := 0) (b := List.length (α := lineT.den) e.2.2.1) (by rw [Nat.zero_add]; exact he e List.mem_cons_self), roomE (a := acc.length) (b := 1) (by omega), trivial⟩, h1⟩, ?_⟩
  have : acc ++ e :: l = (acc ++ [e]) ++ l := by simp
  rw [this]
  exact h2
structure InP (i : Int) (b : bookT.den) (acc : Nat) : Prop where
 i0 : i = 0
 few : fewB b = true
 none : acc = 0
def FpartsJ (x : pt_parts.M.X) : Fr pt_parts.Out := Fr.need (InP x.1.1 x.2.1 (List.length (α := entT.den) x.2.2.2.1.1))
 (Fr.val (Rd.out (x.1.2, (x.2.1, x.2.2.1, (x.2.1.1, ()), ()))))
theorem loop_partsJ : Does Tryz.prog (.loop (loopF Tryz.f5 0)) pt_parts.M pt_parts FpartsJ := Does.conv loop_parts fun x Q h => by
 obtain ⟨⟨i, r⟩, b, en, ⟨acc, _⟩, _⟩ := x
 obtain ⟨⟨h1, h3, h5⟩, hq⟩ := h
 have h1 : i = (0 : Int) := h1
 subst h1
 have h5 : acc = [] := List.eq_nil_of_length_eq_zero h5
 subst h5
 obtain ⟨f1, f2⟩ := few_iff h3
 obtain ⟨k1, k2⟩ := parts_go r b en b.1 [] (fun e he => Nat.le_trans (f2 e he) (by decide)) (by rw [List.length_nil, Nat.zero_add]; exact Nat.le_trans f1 (by decide))
 refine ⟨⟨trivial, Int.le_refl _, Int.natCast_nonneg _, ?_⟩, ?_, ?_⟩
 ·exact Int.le_trans (Int.ofNat_le.2 f1) (by decide)
 ·show okF step_parts (List.drop (α := entT.den) 0 b.1) (r, (b, en, ([], ()), ()))
  rw [List.drop_zero]
  exact k1
 show Q (Rd.out (out_parts (goF step_parts (List.drop (α := entT.den) 0 b.1) (r, (b, en, ([], ()), ())))))
 rw [List.drop_zero, k2, List.nil_append]
 exact hq
def Λ_partsJ (Γ : FuncId -> Option Ct) : St -> Option Tr := pt_parts.han Γ pt_parts.M FpartsJ
noncomputable def CO : Cx := cx [(6, cYes), (7, cFew), (8, cMix), (10, cOther), (11, cSameB)] []
theorem CO_ok : CxOK Tryz.prog CO := cx_ok (ps := []) mixed ⟨awake_ok, few_ok, mix_ok, other_ok, sameB_ok, trivial⟩ trivial
theorem mul_inj {x y : BitVec 64} (h : x * 1099511628211#64 = y * 1099511628211#64) : x = y := by
 have h2 := congrArg (· * 14886173955864302971#64) h
 simp only [BitVec.mul_assoc] at h2
 have e : (1099511628211#64 * 14886173955864302971#64) = 1#64 := by decide
 rw [e, BitVec.mul_one, BitVec.mul_one] at h2
 exact h2
theorem xor_r {a b n : BitVec 64} (h : a ^^^ n = b ^^^ n) : a = b := by
 have h2 := congrArg (· ^^^ n) h
 simpa [BitVec.xor_assoc] using h2
theorem xor_l {a b n : BitVec 64} (h : n ^^^ a = n ^^^ b) : a = b := by
 rw [BitVec.xor_comm n a, BitVec.xor_comm n b] at h
 exact xor_r h
def ne (c d : Int) : Prop := bv c ≠ bv d
theorem ne_mx {c d : Int} (h : ne c d) (n : Int) : ne (mx c n) (mx d n) := fun he => h (by
 rw [bv_mx, bv_mx] at he
 exact xor_r (mul_inj he))
theorem ne_num {n m : Int} (h : ne n m) (c : Int) : ne (mx c n) (mx c m) := fun he => h (by
 rw [bv_mx, bv_mx] at he
 exact xor_l (mul_inj he))
theorem ne_mxL {c d : Int} (h : ne c d) (l : lineT.den) : ne (mxL c l) (mxL d l) := ne_mx (ne_mx h _) _
theorem ne_lines : (l : List lineT.den) -> {c d : Int} -> ne c d -> ne (l.foldl mxL c) (l.foldl mxL d)
 | [], _, _, h => h
 | x :: l, _, _, h => ne_lines l (ne_mxL h x)
theorem mxE_in {day : Int} {e : entT.den} (h : e.1 <= day) (c : Int) : mxE day c e = List.foldl mxL (mx (mx (mx c e.1) e.2.1) ((List.length (α := lineT.den) e.2.2.1 : Nat) : Int)) e.2.2.1 := by
 unfold mxE
 rw [if_neg (Int.not_lt.2 h)]
theorem ne_mxE {day c d : Int} {e : entT.den} (he : e.1 <= day) (h : ne c d) : ne (mxE day c e) (mxE day d e) := by
 rw [mxE_in he, mxE_in he]
 exact ne_lines _ (ne_mx (ne_mx (ne_mx h _) _) _)
theorem ne_ents {day : Int} : (l : List entT.den) -> (∀ e ∈ l, e.1 <= day) -> {c d : Int} -> ne c d -> ne (l.foldl (mxE day) c) (l.foldl (mxE day) d)
 | [], _, _, _, h => h
 | e :: l, he, _, _, h => ne_ents l (fun e he' => he e (List.mem_cons_of_mem _ he')) (ne_mxE (he e List.mem_cons_self) h)
theorem bv_eq {x y : Int} (h : bv x = bv y) : x % 18446744073709551616 = y % 18446744073709551616 := by
 rw [← IntKind.wrap_u64, ← IntKind.wrap_u64, wrap_bv, wrap_bv, h]
theorem wrap_ne {n b : Int} (hb : b ≠ 0) (h1 : -9223372036854775808 <= b) (h2 : b <= 9223372036854775807) : ¬ ((n + b + 9223372036854775808) % 18446744073709551616 - 9223372036854775808) % 18446744073709551616 = n % 18446744073709551616 := by
 omega
theorem ne_add {n b : Int} (hb : b ≠ 0) (h1 : -9223372036854775808 <= b) (h2 : b <= 9223372036854775807) : ne (IntKind.i64.wrap (n + b)) n := fun he => by
 have h3 := bv_eq (x := IntKind.i64.wrap (n + b)) (y := n) he
 rw [IntKind.wrap_i64] at h3
 exact wrap_ne hb h1 h2 h3
theorem ne_acc {a a' m : Int} (h : ne a a') (c : Int) : ne (mxL c (a, m, ())) (mxL c (a', m, ())) := ne_mx (ne_num h c) m
theorem ne_amt {a m m' : Int} (h : ne m m') (c : Int) : ne (mxL c (a, m, ())) (mxL c (a, m', ())) := ne_num h _
theorem ne_set (x : lineT.den) (l : List lineT.den) : ∀ (k : Nat), k < l.length -> (∀ c, ne (mxL c x) (mxL c (l.getD k lineT.dflt))) -> ∀ (c : Int), ne ((l.set k x).foldl mxL c) (l.foldl mxL c) := by
 induction l with
 | nil => intro k hk; exact absurd hk (Nat.not_lt_zero k)
 | cons y l ih =>
  intro k hk h c
  cases k with
  | zero => exact ne_lines l (h c)
  | succ k => exact ih k (Nat.lt_of_succ_lt_succ hk) h (mxL c y)
theorem wrap_le (n : Int) : IntKind.i64.wrap n <= 9223372036854775807 := by
 rw [IntKind.wrap_i64]
 omega
abbrev lastDay : Int := 9223372036854775807
theorem atL_lt {line : Int} {n : Nat} (h0 : 0 <= line) (h1 : line <= 255) (hn : 0 < n) : atL line n < n := (atL_in h0 h1 (by omega : ((n : Nat) : Int) > 0)).2
theorem chE_0 {line which b : Int} {e : entT.den} (h : Int.tmod which 4 = 0) : chE line which b e = (IntKind.i64.wrap (e.1 + b), e.2.1, e.2.2.1, ()) := by
 unfold chE
 rw [h]
 rfl
theorem chE_1 {line which b : Int} {e : entT.den} (h : Int.tmod which 4 = 1) : chE line which b e = (e.1, IntKind.i64.wrap (e.2.1 + b), e.2.2.1, ()) := by
 unfold chE
 rw [h]
 rfl
theorem chE_2 {line which b : Int} {e : entT.den} (h : Int.tmod which 4 = 2) (hl : 0 < List.length (α := lineT.den) e.2.2.1) : chE line which b e = (e.1, e.2.1, setAcc line b e.2.2.1, ()) := by
 have hd : decide (((List.length (α := lineT.den) e.2.2.1 : Nat) : Int) > 0) = true := decide_eq_true (by omega)
 unfold chE
 rw [h, hd]
 rfl
theorem chE_3 {line which b : Int} {e : entT.den} (h : Int.tmod which 4 = 3) (hl : 0 < List.length (α := lineT.den) e.2.2.1) : chE line which b e = (e.1, e.2.1, setAmt line b e.2.2.1, ()) := by
 have hd : decide (((List.length (α := lineT.den) e.2.2.1 : Nat) : Int) > 0) = true := decide_eq_true (by omega)
 unfold chE
 rw [h, hd]
 rfl
theorem mxE_at {d f : Int} {l : List lineT.den} (h : d <= lastDay) (c : Int) : mxE lastDay c (d, f, l, ()) = l.foldl mxL (mx (mx (mx c d) f) ((l.length : Nat) : Int)) := mxE_in (e := (d, f, l, ())) h c
theorem ne_chE {line which b : Int} (d f : Int) (l : List lineT.den) (hl : 0 <= line /\ line <= 255) (hb : b ≠ 0) (h1 : -9223372036854775808 <= b) (h2 : b <= 9223372036854775807) (he : d <= lastDay)
  (hw : ¬ (l.length = 0 /\ Int.tmod which 4 > 1)) (hw0 : 0 <= which) (c : Int) : ne (mxE lastDay c (chE line which b (d, f, l, ()))) (mxE lastDay c (d, f, l, ())) := by
 have t0 := Int.tmod_nonneg 4 hw0
 have t1 := Int.tmod_lt_of_pos which (show (0 : Int) < 4 by decide)
 rw [mxE_at he]
 by_cases c0 : Int.tmod which 4 = 0
 ·rw [chE_0 c0]
  dsimp only
  rw [mxE_at (wrap_le _)]
  exact ne_lines _ (ne_mx (ne_mx (ne_num (ne_add hb h1 h2) _) _) _)
 by_cases c1 : Int.tmod which 4 = 1
 ·rw [chE_1 c1]
  dsimp only
  rw [mxE_at he]
  exact ne_lines _ (ne_mx (ne_num (ne_add hb h1 h2) _) _)
 have hlen : 0 < l.length := by omega
 have hk := atL_lt hl.1 hl.2 hlen
 by_cases c2 : Int.tmod which 4 = 2
 ·rw [chE_2 c2 hlen]
  dsimp only
  rw [mxE_at he]
  unfold setAcc
  rw [List.length_set]
  exact ne_set _ _ _ hk (fun c => ne_acc (ne_add hb h1 h2) c) _
 ·rw [chE_3 (by omega) hlen]
  dsimp only
  rw [mxE_at he]
  unfold setAmt
  rw [List.length_set]
  exact ne_set _ _ _ hk (fun c => ne_amt (ne_add hb h1 h2) c) _
theorem chs_past {t line which b : Int} : (l : List entT.den) -> (k : Int) -> t < k -> chs t line which b k l = l
 | [], _, _ => rfl
 | e :: l, k, h => by
  have hk : (k == t) = false := by simp only [beq_eq_false_iff_ne]; omega
  simp only [chs, hk, cond_false]
  rw [chs_past l (k + 1) (by omega)]
theorem ne_chs {line which b : Int} (hl : 0 <= line /\ line <= 255) (hb : b ≠ 0) (h1 : -9223372036854775808 <= b) (h2 : b <= 9223372036854775807) (hw0 : 0 <= which) : (l : List entT.den) -> (∀ e ∈ l, e.1 <= lastDay) -> (j : Nat) -> (hj : j < l.length) ->
  ¬ (List.length (α := lineT.den) (l.getD j entT.dflt).2.2.1 = 0 /\ Int.tmod which 4 > 1) -> (k : Int) -> (c : Int) -> ne ((chs (k + j) line which b k l).foldl (mxE lastDay) c) (l.foldl (mxE lastDay) c)
 | e :: l, he, 0, _, hw, k, c => by
  have hk : (k == k + ((0 : Nat) : Int)) = true := by simp
  simp only [chs, hk, cond_true]
  rw [chs_past l (k + 1) (by omega)]
  exact ne_ents l (fun e he' => he e (List.mem_cons_of_mem _ he')) (ne_chE e.1 e.2.1 e.2.2.1 hl hb h1 h2 (he e List.mem_cons_self) hw hw0 c)
 | e :: l, he, j + 1, hj, hw, k, c => by
  have hk : (k == k + ((j + 1 : Nat) : Int)) = false := by simp only [beq_eq_false_iff_ne]; omega
  simp only [chs, hk, cond_false]
  have e2 : k + ((j + 1 : Nat) : Int) = (k + 1) + (j : Int) := by omega
  rw [e2]
  exact ne_chs hl hb h1 h2 hw0 l (fun e he' => he e (List.mem_cons_of_mem _ he')) j (by simpa using hj) hw (k + 1) (mxE lastDay c e)
def ff_lawO (x : denP [.d bookT, .d u8t, .d u8t, .d u8t, .d i64]) : Fr (denL [.bool]) :=
 Fr.br (bif bif !(cFew.f ((x.1.1, ()), ())).1 then true else ((List.length x.1.1) : Int) == 0 then true else x.2.2.2.2.1 == 0) (Fr.val ((cYes.f ()).1, ())) (Fr.need (((List.length x.1.1) : Int) ≠ 0) (Fr.need (0 <= (IntKind.i64.wrap x.2.1).tmod ((List.length x.1.1) : Int) /\ (IntKind.i64.wrap x.2.1).tmod ((List.length x.1.1) : Int) < ((List.length x.1.1) : Int)) (Fr.need ((((List.length (List.getD x.1.1 ((IntKind.i64.wrap x.2.1).tmod ((List.length x.1.1) : Int)).toNat entT.dflt).2.2.1) : Int) == 0) = true -> (4 : Int) ≠ 0) (Fr.br (bif ((List.length (List.getD x.1.1 ((IntKind.i64.wrap x.2.1).tmod ((List.length x.1.1) : Int)).toNat entT.dflt).2.2.1) : Int) == 0 then decide (Int.tmod x.2.2.2.1 4 > 1) else false) (Fr.val ((cYes.f ()).1, ())) (Fr.need ((cYes.f ()).1 = true -> fewB (x.1.1, ()) = true /\ List.length x.1.1 ≠ 0) (Fr.val (bif (cYes.f ()).1 then (cMix.f (((cOther.f ((x.1.1, ()), x.2.1, x.2.2.1, x.2.2.2.1, x.2.2.2.2.1, ())).1.1, ()), 9223372036854775807, ())).1 != (cMix.f ((x.1.1, ()), 9223372036854775807, ())).1 else false, ())))))))
theorem ff_lawO_ok : SoundCt Tryz.prog 4 ⟨[.d bookT, .d u8t, .d u8t, .d u8t, .d i64], [.bool], fun xs => (ff_lawO xs).get, fun xs => [(ff_lawO xs).ok]⟩ :=
 fn_sound CO_ok (Λ := lam0) (fn := Tryz.f4) (dfP [.d bookT, .d u8t, .d u8t, .d u8t, .d i64]) (by kernel_rfl) (fun c E _ => lam0_ok c 0) (fun x => by kernel_rfl)
def ff_lawP (x : denP [.d bookT, .d i64, .d entT]) : Fr (denL [.bool]) :=
 Fr.br (bif bif !(cFew.f ((x.1.1, ()), ())).1 then true else decide (((List.length x.2.2.1.2.2.1) : Int) > 20) then true else decide (x.2.2.1.1 <= x.2.1)) (Fr.val ((cYes.f ()).1, ())) (Fr.need (InP 0 (x.1.1, ()) (List.nil : List entT.den).length) (Fr.need ((List.nil : List entT.den).length + List.length x.1.1 <= maxLen /\ ((List.nil : List entT.den).length + List.length x.1.1) * 40 <= 140737488355328) (Fr.need (([] ++ x.1.1).length + [(x.2.2.1.1, x.2.2.1.2.1, x.2.2.1.2.2.1, ())].length <= maxLen /\ (([] ++ x.1.1).length + [(x.2.2.1.1, x.2.2.1.2.1, x.2.2.1.2.2.1, ())].length) * 40 <= 140737488355328) (Fr.val (bif bif bif (cYes.f ()).1 then (cSameB.f ((x.1.1, ()), (x.1.1, ()), ())).1 else false then (cMix.f (([] ++ x.1.1 ++ [(x.2.2.1.1, x.2.2.1.2.1, x.2.2.1.2.2.1, ())], ()), x.2.1, ())).1 == (cMix.f ((x.1.1, ()), x.2.1, ())).1 else false then (cMix.f ((x.1.1, ()), x.2.1, ())).1 == (cMix.f ((x.1.1, ()), x.2.1, ())).1 else false, ())))))
theorem ff_lawP_ok : SoundCt Tryz.prog 5 ⟨[.d bookT, .d i64, .d entT], [.bool], fun xs => (ff_lawP xs).get, fun xs => [(ff_lawP xs).ok]⟩ :=
 fn_sound CO_ok (Λ := (fun _ => Λ_partsJ CO.Γ)) (fn := Tryz.f5) (dfP [.d bookT, .d i64, .d entT]) (by kernel_rfl) (fun c E hc => lam1f hc (by kernel_rfl) (b := loopF Tryz.f5 0) (by kernel_rfl) (Does.han CO_ok rfl loop_partsJ)) (fun x => by kernel_rfl)
theorem book_days {w : World} {F : Nat -> Prop} {b : bookT.den} {v : Value} (h : RepP Tryz.prog w F (.d bookT) b v) : ∀ e ∈ b.1, e.1 <= lastDay := by
 have hw : Wf bookT b := RepT.wf (t := bookT) h.2.2
 intro e he
 obtain ⟨i, hi⟩ := List.getElem?_of_mem he
 exact (hw.1.2 i e hi).1.2
theorem lawParts_ok : SoundCt Tryz.prog 5 (cLaw30 [.d bookT, .d i64, .d entT]) :=
 convF ff_lawP_ok _ _ (fun w F x vs hr _ => by
  obtain ⟨b, day, en, _⟩ := x
  show (ff_lawP (b, day, en, ())).ok /\ (ff_lawP (b, day, en, ())).get = (true, ())
  cases hc : (bif bif !(fewB b) then true else decide (((List.length (α := lineT.den) en.2.2.1 : Nat) : Int) > 20) then true else decide (en.1 <= day))
  ·have hf : fewB b = true := by
    cases h : fewB b
    ·rw [h] at hc
     cases hc
    ·rfl
   have hd : ¬ en.1 <= day := by
    rw [hf] at hc
    cases h : decide (((List.length (α := lineT.den) en.2.2.1 : Nat) : Int) > 20)
    ·rw [h] at hc
     exact of_decide_eq_false hc
    ·rw [h] at hc
     cases hc
   obtain ⟨f1, f2⟩ := few_iff hf
   have hm : mixB (b.1 ++ [en], ()) day = mixB b day := by
    unfold mixB
    show List.foldl (mxE day) 14695981039346656037 (b.1 ++ [en]) = _
    rw [List.foldl_append]
    show mxE day (List.foldl (mxE day) 14695981039346656037 b.1) en = _
    unfold mxE
    rw [if_pos (Int.not_le.1 hd)]
   have hv : ((bif bif bif true then sB b b else false then mixB (b.1 ++ [en], ()) day == mixB b day else false then mixB b day == mixB b day else false, ()) : Bool × Unit) = (true, ()) := by
    rw [hm, sB_self]
    simp
   refine Fr.br_f hc (Fr.need_ ⟨rfl, hf, rfl⟩ (Fr.need_ ?_ (Fr.need_ ?_ ⟨trivial, hv⟩)))
   ·exact roomE (a := 0) (b := List.length (α := entT.den) b.1) (by omega)
   ·exact roomE (a := List.length (α := entT.den) b.1) (b := 1) (by omega)
  ·exact Fr.br_t hc ⟨trivial, rfl⟩)
theorem lawOther_ok : SoundCt Tryz.prog 4 (cLaw30 [.d bookT, .d u8t, .d u8t, .d u8t, .d i64]) :=
 convF ff_lawO_ok _ _ (fun w F x vs hr _ => by
  obtain ⟨b, at_, line, which, by_, _⟩ := x
  obtain ⟨v, vs', rfl, hv, v2, vs2, rfl, hv2, v3, vs3, rfl, hv3, v4, vs4, rfl, hv4, v5, vs5, rfl, hv5, _⟩ := hr
  have ha : 0 <= at_ /\ at_ <= 255 := RepT.wf (t := u8t) hv2.2.2
  have hl : 0 <= line /\ line <= 255 := RepT.wf (t := u8t) hv3.2.2
  have hw : 0 <= which /\ which <= 255 := RepT.wf (t := u8t) hv4.2.2
  have hb : -9223372036854775808 <= by_ /\ by_ <= 9223372036854775807 := RepT.wf (t := i64) hv5.2.2
  have hday := book_days hv
  show (ff_lawO (b, at_, line, which, by_, ())).ok /\ (ff_lawO (b, at_, line, which, by_, ())).get = (true, ())
  cases hc : (bif bif !(fewB b) then true else ((List.length (α := entT.den) b.1 : Nat) : Int) == 0 then true else by_ == 0)
  ·have hf : fewB b = true := by
    cases h : fewB b
    ·rw [h] at hc
     cases hc
    ·rfl
   rw [hf] at hc
   have hn : List.length (α := entT.den) b.1 ≠ 0 := by
    intro h
    rw [h] at hc
    cases hc
   have hby : by_ ≠ 0 := by
    intro h
    rw [h] at hc
    cases h2 : (((List.length (α := entT.den) b.1 : Nat) : Int) == 0)
    ·rw [h2] at hc
     cases hc
    ·rw [h2] at hc
     cases hc
   have hc' : (bif bif !(fewB b) then true else ((List.length (α := entT.den) b.1 : Nat) : Int) == 0 then true else by_ == 0) = false := by rw [hf]; exact hc
   obtain ⟨k1, k2⟩ := atL_in ha.1 ha.2 (show ((List.length (α := entT.den) b.1 : Nat) : Int) > 0 by omega)
   refine Fr.br_f hc' (Fr.need_ (show ((List.length (α := entT.den) b.1 : Nat) : Int) ≠ 0 by omega) (Fr.need_ k1 (Fr.need_ (fun _ => by decide) ?_)))
   cases hg : (bif ((List.length (α := lineT.den) (List.getD (α := entT.den) b.1 ((IntKind.i64.wrap at_).tmod ((List.length (α := entT.den) b.1 : Nat) : Int)).toNat entT.dflt).2.2.1 : Nat) : Int) == 0 then decide (Int.tmod which 4 > 1) else false)
   ·have hcond : ¬ (List.length (α := lineT.den) (List.getD (α := entT.den) b.1 ((IntKind.i64.wrap at_).tmod ((List.length (α := entT.den) b.1 : Nat) : Int)).toNat entT.dflt).2.2.1 = 0 /\ Int.tmod which 4 > 1) := by
     rintro ⟨h1, h2⟩
     rw [h1, decide_eq_true h2] at hg
     cases hg
    have hne := ne_chs hl hby hb.1 hb.2 hw.1 b.1 hday ((IntKind.i64.wrap at_).tmod ((List.length (α := entT.den) b.1 : Nat) : Int)).toNat k2 hcond 0 14695981039346656037
    have e1 : (0 : Int) + (((IntKind.i64.wrap at_).tmod ((List.length (α := entT.den) b.1 : Nat) : Int)).toNat : Int) = (IntKind.i64.wrap at_).tmod ((List.length (α := entT.den) b.1 : Nat) : Int) := by omega
    rw [e1] at hne
    have hd : mixB (otherB b at_ line which by_) lastDay ≠ mixB b lastDay := fun h => hne (congrArg bv h)
    have hv : ((bif true then mixB (otherB b at_ line which by_) lastDay != mixB b lastDay else false, ()) : Bool × Unit) = (true, ()) := by
     rw [bne_iff_ne.2 hd]
     rfl
    exact Fr.br_f rfl (Fr.need_ (fun _ => ⟨hf, hn⟩) ⟨trivial, hv⟩)
   ·exact Fr.br_t rfl ⟨trivial, rfl⟩
  ·exact Fr.br_t hc ⟨trivial, rfl⟩)
end Go.Proofs.YthpdhhejonjipaaGreat
