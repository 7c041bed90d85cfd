/-
  Parts of the proof, one behind the other: I13, I24, I25, I15, I26, I27, I29, I30, I31, I33, N23, N24, N25, N26, N27, J1, J2, N28, N29, N30, N31.
-/
import Derived.Test.YtplkgghjldndkaaMe
namespace Go.Proofs.Ytplkgghjldndkaa
open Go Go.Ab Go.RowKit Go.Proofs
noncomputable def CI13 : Cx := cx [(67, cChecks), (68, cDay), (98, cCk1), (99, cCk2), (101, cCk3), (102, cCk4)] []
theorem CI13_ok : CxOK Try.prog CI13 := cx_ok mixed ⟨checks_ok, day_ok, ck1_ok, ck2_ok, ck3_ok, ck4_ok, trivial⟩ trivial
def chG (c : changeT.den) : Bool := bif bif (chkL.find? (fun x => x.1 == c.2.2.1)).isSome then (cDay.f (c.1, ())).1 else false then (cDay.f (c.2.1, ())).1 else false
def fr_chR (x : denP [.d changeT]) : Fr (denL [.bool]) :=
 Fr.need (chG x.1 = true -> x.1.2.2.1 = 1 -> True)
  (Fr.need (chG x.1 = true -> x.1.2.2.1 ≠ 1 -> (x.1.2.2.1 = 2 -> True) /\ (x.1.2.2.1 ≠ 2 -> (x.1.2.2.1 = 3 -> True) /\ (x.1.2.2.1 ≠ 3 -> x.1.2.2.1 = 4)))
   (Fr.val (bif chG x.1 then (bif x.1.2.2.1 == 1 then cCk1.f (x.1, ()) else bif x.1.2.2.1 == 2 then cCk2.f (x.1, ()) else bif x.1.2.2.1 == 3 then cCk3.f (x.1, ()) else cCk4.f (x.1, ())).1 else false, ())))
theorem chk_some (k : Int) : (chkL.find? (fun x => x.1 == k)).isSome = decide (k = 1 ∨ k = 2 ∨ k = 3 ∨ k = 4) := by
 rw [Bool.eq_iff_iff]
 simp only [List.find?_isSome, chkL, List.mem_cons, List.not_mem_nil, or_false, beq_iff_eq, decide_eq_true_eq]
 constructor
 ·rintro ⟨x, rfl | rfl | rfl | rfl, h⟩
  ·exact .inl h.symm
  ·exact .inr (.inl h.symm)
  ·exact .inr (.inr (.inl h.symm))
  ·exact .inr (.inr (.inr h.symm))
 ·rintro (h | h | h | h)
  ·exact ⟨(1, 98), .inl rfl, h.symm⟩
  ·exact ⟨(2, 99), .inr (.inl rfl), h.symm⟩
  ·exact ⟨(3, 101), .inr (.inr (.inl rfl)), h.symm⟩
  ·exact ⟨(4, 102), .inr (.inr (.inr rfl)), h.symm⟩
theorem chR_eq (c : changeT.den) : (fr_chR (c, ())).ok /\ (fr_chR (c, ())).get = (changeB c, ()) := by
 have hk := chk_some c.2.2.1
 have hg : chG c = true -> c.2.2.1 = 1 ∨ c.2.2.1 = 2 ∨ c.2.2.1 = 3 ∨ c.2.2.1 = 4 := by
  intro h
  unfold chG at h
  rw [hk] at h
  by_cases hd : c.2.2.1 = 1 ∨ c.2.2.1 = 2 ∨ c.2.2.1 = 3 ∨ c.2.2.1 = 4
  ·exact hd
  ·rw [decide_eq_false hd] at h
   cases h
 refine ⟨⟨fun _ _ => trivial, fun h hn => ⟨fun _ => trivial, fun h2 => ⟨fun _ => trivial, fun h3 => ?_⟩⟩, trivial⟩, ?_⟩
 ·rcases hg h with h1 | h1 | h1 | h1
  ·exact absurd h1 hn
  ·exact absurd h1 h2
  ·exact absurd h1 h3
  ·exact h1
 ·show (bif chG c then (bif c.2.2.1 == 1 then (ck1 c, ()) else bif c.2.2.1 == 2 then (ck2 c, ()) else bif c.2.2.1 == 3 then (ck3 c, ()) else (ck4 c, ())).1 else false, ()) = (changeB c, ())
  unfold chG changeB kindB
  rw [hk]
  show ((bif bif bif _ then dayB c.1 else false then dayB c.2.1 else false then _ else false), ()) = _
  by_cases h1 : c.2.2.1 = 1
  ·simp only [h1, true_or, decide_true, cond_true, beq_self_eq_true, if_true]
   cases dayB c.1 <;> cases dayB c.2.1 <;> rfl
  ·by_cases h2 : c.2.2.1 = 2
   ·simp [h2]
    cases dayB c.1 <;> cases dayB c.2.1 <;> rfl
   ·by_cases h3 : c.2.2.1 = 3
    ·simp [h3]
     cases dayB c.1 <;> cases dayB c.2.1 <;> rfl
    ·by_cases h4 : c.2.2.1 = 4
     ·simp [h4]
      cases dayB c.1 <;> cases dayB c.2.1 <;> rfl
     ·simp [h1, h2, h3, h4]
theorem chRight_ok : SoundCt Try.prog 41 cChange :=
 conv (fn_sound CI13_ok (Λ := lam0) (fn := Try.f41) (fr := fr_chR) (ps := [.d changeT]) (rs := [.bool]) ((changeT.dflt, ())) (by kernel_rfl) (fun c E _ => lam0_ok c 0) (fun x => by kernel_rfl)) _ _
  (fun _ _ x _ _ _ => by
   obtain ⟨c, _⟩ := x
   obtain ⟨h1, h2⟩ := chR_eq c
   exact ⟨h1, h2⟩)
noncomputable def CHR : Cx := cx [(41, cChange), (69, cTerms), (40, cIn)] []
theorem CHR_ok : CxOK Try.prog CHR := cx_ok mixed ⟨chRight_ok, tRight_ok, inS_ok, trivial⟩ trivial
abbrev pt_slices_right : Pt := ⟨34, 0, ⟨[(8, .d i64), (7, .d i64), (6, .d (.sl changeT))], [.x 1 35 histT, .r 1 1 0]⟩, ⟨[], [.x 1 35 histT, .r 1 1 0]⟩, ⟨[(2, .d .bool)], []⟩⟩
def fr_slices_right (x : pt_slices_right.M.X) : Fr pt_slices_right.Out :=
 Fr.br (decide (x.1.1 < x.1.2.1)) (Fr.need (0 <= x.1.1 /\ x.1.1 < ((List.length x.1.2.2.1) : Int)) (Fr.br (bif !(cChange.f (((List.getD x.1.2.2.1 (Int.toNat x.1.1) changeT.dflt).1, (List.getD x.1.2.2.1 (Int.toNat x.1.1) changeT.dflt).2.1, (List.getD x.1.2.2.1 (Int.toNat x.1.1) changeT.dflt).2.2.1, ((List.getD x.1.2.2.1 (Int.toNat x.1.1) changeT.dflt).2.2.2.1.1, (List.getD x.1.2.2.1 (Int.toNat x.1.1) changeT.dflt).2.2.2.1.2.1, (List.getD x.1.2.2.1 (Int.toNat x.1.1) changeT.dflt).2.2.2.1.2.2.1, (List.getD x.1.2.2.1 (Int.toNat x.1.1) changeT.dflt).2.2.2.1.2.2.2.1, ()), (List.getD x.1.2.2.1 (Int.toNat x.1.1) changeT.dflt).2.2.2.2.1, (List.getD x.1.2.2.1 (Int.toNat x.1.1) changeT.dflt).2.2.2.2.2.1, ()), ())).1 then true else !(cIn.f ((x.2.1.2.2.1.1.1, x.2.1.2.2.1.1.2.1, ()), (List.getD x.1.2.2.1 (Int.toNat x.1.1) changeT.dflt).2.1, ())).1) (Fr.val (Rd.back ((false, ()), ()))) (Fr.val (Rd.next ((IntKind.i64.wrap (x.1.1 + 1), x.1.2.1, x.1.2.2.1, ()), (x.2.1.1, x.2.1.2.1, ((x.2.1.2.2.1.1.1, x.2.1.2.2.1.1.2.1, ()), (x.2.1.2.2.1.2.1.1, x.2.1.2.2.1.2.1.2.1, x.2.1.2.2.1.2.1.2.2.1, x.2.1.2.2.1.2.1.2.2.2.1, ()), x.2.1.2.2.1.2.2.1, ()), x.2.1.2.2.2.1, ()), ()))))) (Fr.val (Rd.out ((), (x.2.1.1, x.2.1.2.1, ((x.2.1.2.2.1.1.1, x.2.1.2.2.1.1.2.1, ()), (x.2.1.2.2.1.2.1.1, x.2.1.2.2.1.2.1.2.1, x.2.1.2.2.1.2.1.2.2.1, x.2.1.2.2.1.2.1.2.2.2.1, ()), x.2.1.2.2.1.2.2.1, ()), x.2.1.2.2.2.1, ()), ())))
theorem sem_slices_right : Does Try.prog (loopF Try.f45 0) pt_slices_right.M pt_slices_right fr_slices_right :=
 Does.of_run CHR_ok (bs := 0) (Λ := lam0) rfl rfl rfl (fun E => lam0_ok _ 0) (fun x => by kernel_rfl)
abbrev st_slices_right : Type := denP [] × denM [.x 1 35 histT, .r 1 1 0]
def step_slices_right (e : changeT.den) (s : st_slices_right) : Fr (st_slices_right ⊕ pt_slices_right.R.X) :=
 Fr.br (bif !(cChange.f ((e.1, e.2.1, e.2.2.1, (e.2.2.2.1.1, e.2.2.2.1.2.1, e.2.2.2.1.2.2.1, e.2.2.2.1.2.2.2.1, ()), e.2.2.2.2.1, e.2.2.2.2.2.1, ()), ())).1 then true else !(cIn.f ((s.2.1.2.2.1.1.1, s.2.1.2.2.1.1.2.1, ()), e.2.1, ())).1) (Fr.val (.inr ((false, ()), ()))) (Fr.val (.inl ((), (s.2.1.1, s.2.1.2.1, ((s.2.1.2.2.1.1.1, s.2.1.2.2.1.1.2.1, ()), (s.2.1.2.2.1.2.1.1, s.2.1.2.2.1.2.1.2.1, s.2.1.2.2.1.2.1.2.2.1, s.2.1.2.2.1.2.1.2.2.2.1, ()), s.2.1.2.2.1.2.2.1, ()), s.2.1.2.2.2.1, ()), ())))
def un_slices_right (x : pt_slices_right.M.X) : Int × List changeT.den × st_slices_right := (x.1.1, x.1.2.2.1, x.1.2.2.2, x.2)
def good_slices_right (x : pt_slices_right.M.X) : Prop := x.1.2.1 = (x.1.2.2.1.length : Int)
def out_slices_right (s : st_slices_right) : pt_slices_right.E.X := ((), (s.2.1.1, s.2.1.2.1, ((s.2.1.2.2.1.1.1, s.2.1.2.2.1.1.2.1, ()), (s.2.1.2.2.1.2.1.1, s.2.1.2.2.1.2.1.2.1, s.2.1.2.2.1.2.1.2.2.1, s.2.1.2.2.1.2.1.2.2.2.1, ()), s.2.1.2.2.1.2.2.1, ()), s.2.1.2.2.2.1, ()), ())
def dS_slices_right : st_slices_right := (dfP _, dfM _)
def dR_slices_right : pt_slices_right.R.X := (dfP _, dfM _)
theorem loop_slices_right : Does Try.prog (.loop (loopF Try.f45 0)) pt_slices_right.M pt_slices_right (FL step_slices_right un_slices_right good_slices_right out_slices_right Rd.back dS_slices_right dR_slices_right) := by
 refine Does.list sem_slices_right step_slices_right un_slices_right good_slices_right out_slices_right Rd.back dS_slices_right dR_slices_right ?_ ?_
 ·rintro ⟨⟨i, n, l, s⟩, m⟩ hg h0 h1 hb e he Q h
  have hg : n = (l.length : Int) := hg
  subst hg
  have h0 : 0 <= i := h0
  have h1 : i < (l.length : Int) := h1
  have hb : (l.length : Int) <= 9223372036854775807 := hb
  have hd : l.getD i.toNat changeT.dflt = e := getD_of he
  have hw := wrap_next h0 h1 hb
  dsimp only [un_slices_right, step_slices_right, fr_slices_right, Fr.satP] at h ⊢
  simp only [hd, hw] at h ⊢
  refine ⟨fun _ => ?_, fun hn => absurd h1 (of_decide_eq_false hn)⟩
  repeat' first
   | exact h
   | exact ⟨h0, h1⟩
   | exact fun _ => ⟨h0, h1⟩
   | exact h _ rfl rfl
   | refine ⟨?_, ?_⟩
   | (intro (hc : _ = true); replace h := h.1 hc)
   | (intro (hc : _ = false); replace h := h.2 hc)
 ·rintro ⟨⟨i, n, l, s⟩, m⟩ hg h1 Q h
  have hg : n = (l.length : Int) := hg
  subst hg
  exact ⟨fun hn => absurd (of_decide_eq_true hn) h1, fun _ => h⟩
def Λ_slices_right (Γ : Gm) : St -> Option Tr := pt_slices_right.han Γ pt_slices_right.M (FL step_slices_right un_slices_right good_slices_right out_slices_right Rd.back dS_slices_right dR_slices_right)
def res_slices_right (y : pt_slices_right.M.X) : st_slices_right ⊕ pt_slices_right.R.X := goL step_slices_right ((un_slices_right y).2.1.drop (un_slices_right y).1.toNat) (un_slices_right y).2.2
def okr_slices_right (y : pt_slices_right.M.X) : Prop := okL step_slices_right ((un_slices_right y).2.1.drop (un_slices_right y).1.toNat) (un_slices_right y).2.2
def ff_slices_right (x : denP [.d histT]) : Fr (denL [.bool]) :=
 Fr.need (InL (good_slices_right ((0, ((List.length x.1.2.2.2.1) : Int), x.1.2.2.2.1, ()), (x.1.1, x.1.2.1, ((x.1.2.2.1.1.1, x.1.2.2.1.1.2.1, ()), (x.1.2.2.1.2.1.1, x.1.2.2.1.2.1.2.1, x.1.2.2.1.2.1.2.2.1, x.1.2.2.1.2.1.2.2.2.1, ()), x.1.2.2.1.2.2.1, ()), x.1.2.2.2.1, ()), ())) (un_slices_right ((0, ((List.length x.1.2.2.2.1) : Int), x.1.2.2.2.1, ()), (x.1.1, x.1.2.1, ((x.1.2.2.1.1.1, x.1.2.2.1.1.2.1, ()), (x.1.2.2.1.2.1.1, x.1.2.2.1.2.1.2.1, x.1.2.2.1.2.1.2.2.1, x.1.2.2.1.2.1.2.2.2.1, ()), x.1.2.2.1.2.2.1, ()), x.1.2.2.2.1, ()), ()))) (Fr.need (okr_slices_right ((0, ((List.length x.1.2.2.2.1) : Int), x.1.2.2.2.1, ()), (x.1.1, x.1.2.1, ((x.1.2.2.1.1.1, x.1.2.2.1.1.2.1, ()), (x.1.2.2.1.2.1.1, x.1.2.2.1.2.1.2.1, x.1.2.2.1.2.1.2.2.1, x.1.2.2.1.2.1.2.2.2.1, ()), x.1.2.2.1.2.2.1, ()), x.1.2.2.2.1, ()), ())) (Fr.br (isL (res_slices_right ((0, ((List.length x.1.2.2.2.1) : Int), x.1.2.2.2.1, ()), (x.1.1, x.1.2.1, ((x.1.2.2.1.1.1, x.1.2.2.1.1.2.1, ()), (x.1.2.2.1.2.1.1, x.1.2.2.1.2.1.2.1, x.1.2.2.1.2.1.2.2.1, x.1.2.2.1.2.1.2.2.2.1, ()), x.1.2.2.1.2.2.1, ()), x.1.2.2.2.1, ()), ()))) (Fr.val (bif (cTerms.f ((((out_slices_right (getL dS_slices_right (res_slices_right ((0, ((List.length x.1.2.2.2.1) : Int), x.1.2.2.2.1, ()), (x.1.1, x.1.2.1, ((x.1.2.2.1.1.1, x.1.2.2.1.1.2.1, ()), (x.1.2.2.1.2.1.1, x.1.2.2.1.2.1.2.1, x.1.2.2.1.2.1.2.2.1, x.1.2.2.1.2.1.2.2.2.1, ()), x.1.2.2.1.2.2.1, ()), x.1.2.2.2.1, ()), ())))).2.1.2.2.1.1.1, (out_slices_right (getL dS_slices_right (res_slices_right ((0, ((List.length x.1.2.2.2.1) : Int), x.1.2.2.2.1, ()), (x.1.1, x.1.2.1, ((x.1.2.2.1.1.1, x.1.2.2.1.1.2.1, ()), (x.1.2.2.1.2.1.1, x.1.2.2.1.2.1.2.1, x.1.2.2.1.2.1.2.2.1, x.1.2.2.1.2.1.2.2.2.1, ()), x.1.2.2.1.2.2.1, ()), x.1.2.2.2.1, ()), ())))).2.1.2.2.1.1.2.1, ()), ((out_slices_right (getL dS_slices_right (res_slices_right ((0, ((List.length x.1.2.2.2.1) : Int), x.1.2.2.2.1, ()), (x.1.1, x.1.2.1, ((x.1.2.2.1.1.1, x.1.2.2.1.1.2.1, ()), (x.1.2.2.1.2.1.1, x.1.2.2.1.2.1.2.1, x.1.2.2.1.2.1.2.2.1, x.1.2.2.1.2.1.2.2.2.1, ()), x.1.2.2.1.2.2.1, ()), x.1.2.2.2.1, ()), ())))).2.1.2.2.1.2.1.1, (out_slices_right (getL dS_slices_right (res_slices_right ((0, ((List.length x.1.2.2.2.1) : Int), x.1.2.2.2.1, ()), (x.1.1, x.1.2.1, ((x.1.2.2.1.1.1, x.1.2.2.1.1.2.1, ()), (x.1.2.2.1.2.1.1, x.1.2.2.1.2.1.2.1, x.1.2.2.1.2.1.2.2.1, x.1.2.2.1.2.1.2.2.2.1, ()), x.1.2.2.1.2.2.1, ()), x.1.2.2.2.1, ()), ())))).2.1.2.2.1.2.1.2.1, (out_slices_right (getL dS_slices_right (res_slices_right ((0, ((List.length x.1.2.2.2.1) : Int), x.1.2.2.2.1, ()), (x.1.1, x.1.2.1, ((x.1.2.2.1.1.1, x.1.2.2.1.1.2.1, ()), (x.1.2.2.1.2.1.1, x.1.2.2.1.2.1.2.1, x.1.2.2.1.2.1.2.2.1, x.1.2.2.1.2.1.2.2.2.1, ()), x.1.2.2.1.2.2.1, ()), x.1.2.2.2.1, ()), ())))).2.1.2.2.1.2.1.2.2.1, (out_slices_right (getL dS_slices_right (res_slices_right ((0, ((List.length x.1.2.2.2.1) : Int), x.1.2.2.2.1, ()), (x.1.1, x.1.2.1, ((x.1.2.2.1.1.1, x.1.2.2.1.1.2.1, ()), (x.1.2.2.1.2.1.1, x.1.2.2.1.2.1.2.1, x.1.2.2.1.2.1.2.2.1, x.1.2.2.1.2.1.2.2.2.1, ()), x.1.2.2.1.2.2.1, ()), x.1.2.2.2.1, ()), ())))).2.1.2.2.1.2.1.2.2.2.1, ()), (out_slices_right (getL dS_slices_right (res_slices_right ((0, ((List.length x.1.2.2.2.1) : Int), x.1.2.2.2.1, ()), (x.1.1, x.1.2.1, ((x.1.2.2.1.1.1, x.1.2.2.1.1.2.1, ()), (x.1.2.2.1.2.1.1, x.1.2.2.1.2.1.2.1, x.1.2.2.1.2.1.2.2.1, x.1.2.2.1.2.1.2.2.2.1, ()), x.1.2.2.1.2.2.1, ()), x.1.2.2.2.1, ()), ())))).2.1.2.2.1.2.2.1, ()), ())).1 then decide (((List.length (out_slices_right (getL dS_slices_right (res_slices_right ((0, ((List.length x.1.2.2.2.1) : Int), x.1.2.2.2.1, ()), (x.1.1, x.1.2.1, ((x.1.2.2.1.1.1, x.1.2.2.1.1.2.1, ()), (x.1.2.2.1.2.1.1, x.1.2.2.1.2.1.2.1, x.1.2.2.1.2.1.2.2.1, x.1.2.2.1.2.1.2.2.2.1, ()), x.1.2.2.1.2.2.1, ()), x.1.2.2.2.1, ()), ())))).2.1.2.2.2.1) : Int) <= 2000) else false, ())) (Fr.val ((getR dR_slices_right (res_slices_right ((0, ((List.length x.1.2.2.2.1) : Int), x.1.2.2.2.1, ()), (x.1.1, x.1.2.1, ((x.1.2.2.1.1.1, x.1.2.2.1.1.2.1, ()), (x.1.2.2.1.2.1.1, x.1.2.2.1.2.1.2.1, x.1.2.2.1.2.1.2.2.1, x.1.2.2.1.2.1.2.2.2.1, ()), x.1.2.2.1.2.2.1, ()), x.1.2.2.2.1, ()), ()))).1.1, ()))))
theorem ff_slices_right_ok : SoundCt Try.prog 45 ⟨[.d histT], [.bool], fun xs => (ff_slices_right xs).get, fun xs => [(ff_slices_right xs).ok]⟩ :=
 fn_sound CHR_ok (Λ := (fun _ => Λ_slices_right CHR.Γ)) (fn := Try.f45) (dfP [.d histT]) (by kernel_rfl) (fun c E hc => lam1f hc (by kernel_rfl) (b := loopF Try.f45 0) (by kernel_rfl) (Does.han CHR_ok rfl loop_slices_right)) (fun x => by kernel_rfl)
theorem sr_step (e : changeT.den) (s : st_slices_right) : (step_slices_right e s).get = if (changeB e && inB s.2.1.2.2.1.1.1 s.2.1.2.2.1.1.2.1 e.2.1) = true then .inl s else .inr ((false, ()), ()) := by
 show (if (bif !(changeB e) then true else !(inB s.2.1.2.2.1.1.1 s.2.1.2.2.1.1.2.1 e.2.1)) = true then _ else _) = _
 cases changeB e <;> cases inB s.2.1.2.2.1.1.1 s.2.1.2.2.1.1.2.1 e.2.1 <;> rfl
theorem endF_id {T σ : Type} (l : List T) (s : σ) : endF (fun (_ : T) (s : σ) => s) l s = s := by
 induction l with
 | nil => rfl
 | cons e r ih => exact ih
theorem sRight_ok : SoundCt Try.prog 45 cHist :=
 conv ff_slices_right_ok _ _ (fun w F x vs hr _ => by
  obtain ⟨h, _⟩ := x
  obtain ⟨v, vs', rfl, hv, _⟩ := hr
  have hwf := RepT.wf hv.2.2
  have hlen : (h.2.2.2.1.length : Int) <= 9223372036854775807 := len_big hwf.2.2.2.1.1
  refine ⟨⟨⟨rfl, Int.le_refl _, Int.natCast_nonneg _, hlen⟩, okL_of (step := step_slices_right) (fun e s => ⟨fun _ => trivial, fun _ => trivial⟩) _ _, fun _ => trivial, fun _ => trivial⟩, ?_⟩
  have hres := bool_loop (f := fun _ s => s) sr_step h.2.2.2.1 ((), (h, ()))
  rw [allF_keep2, endF_id] at hres
  have hres' : res_slices_right ((0, (h.2.2.2.1.length : Int), h.2.2.2.1, ()), (h, ())) = if (h.2.2.2.1.all fun c => changeB c && inB h.2.2.1.1.1 h.2.2.1.1.2.1 c.2.1) = true then .inl ((), (h, ())) else .inr ((false, ()), ()) := hres
  show (if isL (res_slices_right ((0, (h.2.2.2.1.length : Int), h.2.2.2.1, ()), (h, ()))) = true then
   ((bif termsB (out_slices_right (getL dS_slices_right (res_slices_right ((0, (h.2.2.2.1.length : Int), h.2.2.2.1, ()), (h, ()))))).2.1.2.2.1 then decide (((out_slices_right (getL dS_slices_right (res_slices_right ((0, (h.2.2.2.1.length : Int), h.2.2.2.1, ()), (h, ()))))).2.1.2.2.2.1.length : Int) <= 2000) else false, ()) : Bool × Unit)
   else ((getR dR_slices_right (res_slices_right ((0, (h.2.2.2.1.length : Int), h.2.2.2.1, ()), (h, ())))).1.1, ())) = (histB h, ())
  rw [hres']
  unfold histB
  cases ha : (h.2.2.2.1.all fun c => changeB c && inB h.2.2.1.1.1 h.2.2.1.1.2.1 c.2.1) with
  | false =>
   show ((false, ()) : Bool × Unit) = _
   rw [Bool.and_false]
  | true =>
   show ((bif termsB h.2.2.1 then decide ((h.2.2.2.1.length : Int) <= 2000) else false, ()) : Bool × Unit) = _
   rw [Bool.and_true]
   have : decide ((h.2.2.2.1.length : Int) <= 2000) = decide (h.2.2.2.1.length <= 2000) := by
    rw [Bool.eq_iff_iff]
    simp only [decide_eq_true_eq]
    omega
   rw [this]
   cases termsB h.2.2.1 <;> rfl)
abbrev bitsW : List (FuncId × Ct) := [(134, cMul), (135, cDivW)]
theorem bitsW_ok : AllCt Try.prog bitsW := ⟨mul_ok, divW_ok, trivial⟩
noncomputable def CW1 : Cx := cx bitsW []
noncomputable def CW2 : Cx := cxK bitsW [] (inlK Try.prog CW1 XiN)
noncomputable def CW3 : Cx := cxK bitsW [] (inlK Try.prog CW2 XiO)
theorem CW1_ok : CxOK Try.prog CW1 := cx_ok mixed bitsW_ok trivial
theorem CW2_ok : CxOK Try.prog CW2 := cxK_ok mixed bitsW_ok trivial (inlK_ok CW1_ok XiN_ok)
theorem CW3_ok : CxOK Try.prog CW3 := cxK_ok mixed bitsW_ok trivial (inlK_ok CW2_ok XiO_ok)
def evDW (h l c : Int) : Fr (denL [i64, i64]) :=
 Fr.br (decide (h ≥ c)) (Fr.val (0, 5, ())) (Fr.need ((h = 0 /\ 0 < c) ∨ (c = 10000 /\ h < 10000)) (evT (cDivW.f (h, l, c, ())).1 (cDivW.f (h, l, c, ())).2.1 c))
def frEvenW (x : denP [.d i64, .d i64, .d i64]) : Fr (denL [i64, i64]) :=
 Fr.br (bif bif decide (x.1 < 0) then true else decide (x.2.1 < 0) then true else decide (x.2.2.1 < 0)) (Fr.val (0, 1, ()))
  (Fr.br (x.2.2.1 == 0) (Fr.val (0, 6, ()))
   (evDW (cMul.f (IntKind.u64.wrap x.1, IntKind.u64.wrap x.2.1, ())).1 (cMul.f (IntKind.u64.wrap x.1, IntKind.u64.wrap x.2.1, ())).2.1 (IntKind.u64.wrap x.2.2.1)))
theorem evDW_eq {p c : Int} (hp : 0 <= p) (hc : 0 < c) (hc2 : c <= 9223372036854775807) (h : p < 18446744073709551616 ∨ c = 10000) :
  (evDW (p / 18446744073709551616) (p % 18446744073709551616) c).ok /\ (evDW (p / 18446744073709551616) (p % 18446744073709551616) c).get = if evenQ p c > 4000000000000000000 then (0, 5, ()) else (evenQ p c, 0, ()) := by
 have hsum : p / 18446744073709551616 * 18446744073709551616 + p % 18446744073709551616 = p := by omega
 have hr1 := Int.emod_nonneg p (b := c) (by omega)
 have hr2 := Int.emod_lt_of_pos p hc
 have hq := Int.ediv_nonneg hp (Int.le_of_lt hc)
 unfold evDW
 by_cases hge : p / 18446744073709551616 ≥ c
 ·refine Fr.br_t (decide_eq_true hge) ⟨trivial, ?_⟩
  rcases h with h | h
  ·omega
  ·subst h
   have : evenQ p 10000 > 4000000000000000000 := by
    unfold evenQ
    split <;> omega
   rw [if_pos this]
   rfl
 ·have hneed : (p / 18446744073709551616 = 0 /\ 0 < c) ∨ (c = 10000 /\ p / 18446744073709551616 < 10000) := by
   rcases h with h | h
   ·exact .inl ⟨by omega, hc⟩
   ·exact .inr ⟨h, by omega⟩
  refine Fr.br_f (decide_eq_false hge) (Fr.need_ hneed ?_)
  show (evT ((p / 18446744073709551616 * 18446744073709551616 + p % 18446744073709551616) / c) ((p / 18446744073709551616 * 18446744073709551616 + p % 18446744073709551616) % c) c).ok /\ (evT ((p / 18446744073709551616 * 18446744073709551616 + p % 18446744073709551616) / c) ((p / 18446744073709551616 * 18446744073709551616 + p % 18446744073709551616) % c) c).get = _
  rw [hsum]
  have key := evT_eq (q := p / c) (r := p % c) (c := c) ⟨hr1, hr2⟩ hc2 hq
  refine ⟨key.1, ?_⟩
  rw [key.2]
  rfl
theorem evenW_plain {a b c : Int} (ha : -9223372036854775808 <= a /\ a <= 9223372036854775807) (hb : -9223372036854775808 <= b /\ b <= 9223372036854775807) (hc : -9223372036854775808 <= c /\ c <= 9223372036854775807)
  (hp : 0 <= a -> 0 <= b -> a * b < 18446744073709551616 ∨ c = 10000) : (frEvenW (a, b, c, ())).ok /\ (frEvenW (a, b, c, ())).get = ((evenF a b c).1, (evenF a b c).2, ()) := by
 unfold frEvenW
 simp only [bif3]
 by_cases hn : a < 0 ∨ b < 0 ∨ c < 0
 ·have hd : (decide (a < 0) || (decide (b < 0) || decide (c < 0))) = true := by simpa using hn
  refine Fr.br_t hd ⟨trivial, ?_⟩
  unfold evenF
  rw [if_pos hn]
  rfl
 ·have hd : (decide (a < 0) || (decide (b < 0) || decide (c < 0))) = false := by simpa using hn
  have ha0 : 0 <= a := by omega
  have hb0 : 0 <= b := by omega
  have hc0 : 0 <= c := by omega
  have hab0 : 0 <= a * b := Int.mul_nonneg ha0 hb0
  refine Fr.br_f hd ?_
  rw [show IntKind.u64.wrap a = a from u64w (by omega), show IntKind.u64.wrap b = b from u64w (by omega), show IntKind.u64.wrap c = c from u64w (by omega)]
  unfold evenF
  rw [if_neg hn]
  by_cases hz : c = 0
  ·refine Fr.br_t (by simpa using hz) ⟨trivial, ?_⟩
   rw [if_pos hz]
   rfl
  ·refine Fr.br_f (by simpa using hz) ?_
   rw [if_neg hz]
   have key := evDW_eq (p := a * b) (c := c) hab0 (by omega) hc.2 (hp ha0 hb0)
   refine ⟨key.1, ?_⟩
   show (evDW (a * b / 18446744073709551616) (a * b % 18446744073709551616) c).get = _
   rw [key.2]
   split <;> rfl
def cEvenW : Ct := ⟨[.d i64, .d i64, .d i64], [i64, i64], fun x => ((evenF x.1 x.2.1 x.2.2.1).1, (evenF x.1 x.2.1 x.2.2.1).2, ()), fun x => [0 <= x.1 -> 0 <= x.2.1 -> x.1 * x.2.1 < 18446744073709551616 ∨ x.2.2.1 = 10000]⟩
theorem evenW_ok : SoundCt Try.prog 95 cEvenW :=
 flat (ps := [.d i64, .d i64, .d i64]) (rs := [i64, i64]) CW3_ok (fn := Try.f95) (fr := frEvenW) (0, 0, 0, ()) (by kernel_rfl) (fun x => by kernel_rfl) _ _
  (fun w F x vs hr hok => by
   obtain ⟨a, b, c, u⟩ := x
   obtain ⟨v1, vs1, rfl, h1, v2, vs2, rfl, h2, v3, vs3, rfl, h3, _⟩ := hr
   exact evenW_plain (i64_of h1) (i64_of h2) (i64_of h3) hok)
def bpF (m b : Int) : Int × Int := evenF m b 10000
def cBp : Ct := ⟨[.d i64, .d i64], [i64, i64], fun x => ((bpF x.1 x.2.1).1, (bpF x.1 x.2.1).2, ()), fun _ => []⟩
noncomputable def CW4 : Cx := cx [(95, cEvenW)] []
theorem CW4_ok : CxOK Try.prog CW4 := cx_ok mixed ⟨evenW_ok, trivial⟩ trivial
theorem bp_ok : SoundCt Try.prog 63 cBp :=
 flat (ps := [.d i64, .d i64]) (rs := [i64, i64]) CW4_ok (fn := Try.f63) (fr := fun x => Fr.need (0 <= x.1 -> 0 <= x.2.1 -> x.1 * x.2.1 < 18446744073709551616 ∨ (10000 : Int) = 10000) (Fr.val (cEvenW.f (x.1, x.2.1, 10000, ())))) (0, 0, ()) (by kernel_rfl) (fun x => by kernel_rfl) _ _
  (fun w F x vs hr hok => ⟨⟨fun _ _ => .inr rfl, trivial⟩, rfl⟩)
abbrev fiveT : Ty := .pair i64 (.pair i64 (.pair i64 (.pair i64 (.pair i64 .unit))))
def f5 (f : fiveT.den) : List Int := [f.1, f.2.1, f.2.2.1, f.2.2.2.1, f.2.2.2.2.1]
def bpGo : List Int -> Int -> Int × Int
 | [], m => (m, 0)
 | b :: r, m => if (bpF m b).2 = 0 then bpGo r (bpF m b).1 else bpF m b
noncomputable def CQ : Cx := cx [(52, cVer), (78, cRisk), (79, cCover), (80, cBand), (63, cBp)] []
theorem CQ_ok : CxOK Try.prog CQ := cx_ok mixed ⟨tVer_ok, risk_ok, cover_ok, band_ok, bp_ok, trivial⟩ trivial
def MQ : LS := ⟨[(8, .d i64), (9, .d i64), (59, .d fiveT), (60, .d i64)], [.x 3 62 verT, .r 3 3 0]⟩
def EQ : LS := ⟨[(8, .d i64), (9, .d i64)], [.x 3 62 verT, .r 3 3 0]⟩
def ptQ : Pt := ⟨79, 1, MQ, EQ, ⟨[], []⟩⟩
def fQ (x : MQ.X) : Fr ptQ.Out :=
 Fr.br (decide (x.1.2.2.2.1 < 5))
  (Fr.need (0 <= x.1.2.2.2.1 /\ x.1.2.2.2.1 < ((5 : Nat) : Int))
   (Fr.br ((cBp.f (x.1.1, (f5 x.1.2.2.1).getD x.1.2.2.2.1.toNat 0, ())).2.1 != 0)
    (Fr.val (Rd.out (((cBp.f (x.1.1, (f5 x.1.2.2.1).getD x.1.2.2.2.1.toNat 0, ())).1, (cBp.f (x.1.1, (f5 x.1.2.2.1).getD x.1.2.2.2.1.toNat 0, ())).2.1, ()), x.2)))
    (Fr.val (Rd.next (((cBp.f (x.1.1, (f5 x.1.2.2.1).getD x.1.2.2.2.1.toNat 0, ())).1, (cBp.f (x.1.1, (f5 x.1.2.2.1).getD x.1.2.2.2.1.toNat 0, ())).2.1, x.1.2.2.1, IntKind.i64.wrap (x.1.2.2.2.1 + 1), ()), x.2)))))
  (Fr.val (Rd.out ((x.1.1, x.1.2.1, ()), x.2)))
theorem semQ : Does Try.prog (loopF Try.f50 0) MQ ptQ fQ := Does.of_run CQ_ok (bs := 0) rfl rfl rfl (fun _ => lam0_ok _ 0) (fun x => by kernel_rfl)
def InQ (i e : Int) : Prop := 0 <= i /\ i <= 5 /\ e = 0
def FQ (x : MQ.X) : Fr ptQ.Out := Fr.need (InQ x.1.2.2.2.1 x.1.2.1) (Fr.val (.out (((bpGo ((f5 x.1.2.2.1).drop x.1.2.2.2.1.toNat) x.1.1).1, (bpGo ((f5 x.1.2.2.1).drop x.1.2.2.2.1.toNat) x.1.1).2, ()), x.2)))
theorem lawQ (m e i : Int) (f : fiveT.den) (y : denM [.x 3 62 verT, .r 3 3 0]) (hinv : InQ i e) (Q : ptQ.Out -> Prop) (hq : Q (.out (((bpGo ((f5 f).drop i.toNat) m).1, (bpGo ((f5 f).drop i.toNat) m).2, ()), y))) :
  (fQ ((m, e, f, i, ()), y)).satP fun
   | .next x' => InQ x'.1.2.2.2.1 x'.1.2.1 /\ (5 - x'.1.2.2.2.1).toNat < (5 - i).toNat /\ (FQ x').satP Q
   | .out y => Q (.out y)
   | .back z => Q (.back z)
   | .pan p => Q (.pan p) := by
 obtain ⟨h1, h2, rfl⟩ := hinv
 refine ⟨fun hi => ?_, fun hi => ?_⟩
 ·have hi' : i < 5 := of_decide_eq_true hi
  obtain ⟨k, rfl⟩ : ∃ k : Nat, i = k := ⟨i.toNat, by omega⟩
  have hl : k < (f5 f).length := by show k < 5; omega
  have hw : IntKind.i64.wrap ((k : Int) + 1) = k + 1 := IntWalk.i64_in _ (by omega)
  have g1 : (f5 f).getD (k : Int).toNat 0 = (f5 f)[k] := by
   rw [show (k : Int).toNat = k by omega, List.getD_eq_getElem?_getD, List.getElem?_eq_getElem hl]; rfl
  have hd : (f5 f).drop (k : Int).toNat = (f5 f)[k] :: (f5 f).drop (k + 1) := by
   rw [show (k : Int).toNat = k by omega]
   exact List.drop_eq_getElem_cons hl
  rw [hd] at hq
  dsimp only [fQ, Fr.satP]
  rw [g1, hw]
  show (0 <= (k : Int) /\ (k : Int) < ((5 : Nat) : Int)) /\ (((bpF m (f5 f)[k]).2 != 0) = true -> Q (.out (((bpF m (f5 f)[k]).1, (bpF m (f5 f)[k]).2, ()), y))) /\ (((bpF m (f5 f)[k]).2 != 0) = false -> InQ (k + 1) (bpF m (f5 f)[k]).2 /\ (5 - ((k : Int) + 1)).toNat < (5 - (k : Int)).toNat /\ (FQ (((bpF m (f5 f)[k]).1, (bpF m (f5 f)[k]).2, f, (k : Int) + 1, ()), y)).satP Q)
  refine ⟨⟨by omega, by omega⟩, fun hb => ?_, fun hb => ?_⟩
  ·have hb' : ¬ (bpF m (f5 f)[k]).2 = 0 := by simpa using hb
   have e : bpGo ((f5 f)[k] :: (f5 f).drop (k + 1)) m = bpF m (f5 f)[k] := if_neg hb'
   rw [e] at hq
   exact hq
  ·have hb' : (bpF m (f5 f)[k]).2 = 0 := by simpa using hb
   have e : bpGo ((f5 f)[k] :: (f5 f).drop (k + 1)) m = bpGo ((f5 f).drop (k + 1)) (bpF m (f5 f)[k]).1 := if_pos hb'
   rw [e] at hq
   have hI : InQ ((k : Int) + 1) (bpF m (f5 f)[k]).2 := ⟨by omega, by omega, hb'⟩
   refine ⟨hI, by omega, hI, ?_⟩
   have : ((k : Int) + 1).toNat = k + 1 := by omega
   show Q (.out (((bpGo ((f5 f).drop ((k : Int) + 1).toNat) (bpF m (f5 f)[k]).1).1, (bpGo ((f5 f).drop ((k : Int) + 1).toNat) (bpF m (f5 f)[k]).1).2, ()), y))
   rw [this]
   exact hq
 ·have hi' : ¬ i < 5 := of_decide_eq_false hi
  have : i = 5 := by omega
  subst this
  exact hq
theorem loopQ : Does Try.prog (.loop (loopF Try.f50 0)) MQ ptQ FQ := by
 refine Does.loop (n := 79) (id := 1) semQ (inv := fun x => InQ x.1.2.2.2.1 x.1.2.1) (μ := fun x => (5 - x.1.2.2.2.1).toNat) ?_ (fun x Q h => h.1)
 rintro ⟨⟨m, e, f, i, _⟩, y⟩ hinv Q hq
 exact lawQ m e i f y hinv Q hq.2
def oneL (v : verT.den) (r : riskT.den) (c : coverT.den) : List Int :=
 [([v.2.1.1, v.2.1.2.1, v.2.1.2.2.1, v.2.1.2.2.2.1] : List Int).getD r.1.toNat 0, bandD r.2.2.1 v.2.2.1 10000, v.2.2.2.1.getD r.2.2.2.1.toNat 0, v.2.2.2.2.1.getD c.1.toNat 0, c.2.2.2.2.1]
def oneF (v : verT.den) (r : riskT.den) (c : coverT.den) : Int × Int :=
 if (verB v && (riskB r.1 r.2.1 r.2.2.1 r.2.2.2.1 && coverB c.1 c.2.1 c.2.2.1 c.2.2.2.1 c.2.2.2.2.1)) = true then
  if r.2.2.2.1 ≥ v.2.2.2.1.length then (0, 7) else
   if (bpGo (oneL v r c) r.2.1).2 = 0 then (if (bpGo (oneL v r c) r.2.1).1 < v.2.2.2.2.2.1 then v.2.2.2.2.2.1 else (bpGo (oneL v r c) r.2.1).1, 0) else (0, (bpGo (oneL v r c) r.2.1).2)
 else (0, 1)
def cOne : Ct := ⟨[.d verT, .d riskT, .d coverT], [i64, i64], fun x => ((oneF x.1 x.2.1 x.2.2.1).1, (oneF x.1 x.2.1 x.2.2.1).2, ()), fun _ => []⟩
def frOne (x : denP [.d verT, .d riskT, .d coverT]) : Fr (denL [i64, i64]) :=
 Fr.br (bif bif !(cVer.f (x.1, ())).1 then true else !(cRisk.f (x.2.1, ())).1 then true else !(cCover.f (x.2.2.1, ())).1) (Fr.val (0, 1, ()))
  (Fr.br (decide (x.2.1.2.2.2.1 ≥ x.1.2.2.2.1.length)) (Fr.val (0, 7, ()))
   (Fr.need (0 <= x.2.1.1 /\ x.2.1.1 < ((4 : Nat) : Int))
    (Fr.need (0 <= x.2.1.2.2.2.1 /\ x.2.1.2.2.2.1 < x.1.2.2.2.1.length)
     (Fr.need (0 <= x.2.2.1.1 /\ x.2.2.1.1 < x.1.2.2.2.2.1.length)
      (Fr.need (InQ 0 0)
       (Fr.br ((bpGo (oneL x.1 x.2.1 x.2.2.1) x.2.1.2.1).2 != 0) (Fr.val (0, (bpGo (oneL x.1 x.2.1 x.2.2.1) x.2.1.2.1).2, ()))
        (Fr.val (if (bpGo (oneL x.1 x.2.1 x.2.2.1) x.2.1.2.1).1 < x.1.2.2.2.2.2.1 then x.1.2.2.2.2.2.1 else (bpGo (oneL x.1 x.2.1 x.2.2.1) x.2.1.2.1).1, 0, ()))))))))
theorem one_run : SoundCt Try.prog 50 ⟨[.d verT, .d riskT, .d coverT], [i64, i64], fun xs => (frOne xs).get, fun xs => [(frOne xs).ok]⟩ :=
 fn_sound CQ_ok (Λ := fun _ => ptQ.han CQ.Γ MQ FQ) (fn := Try.f50) (fr := frOne) (ps := [.d verT, .d riskT, .d coverT]) (rs := [i64, i64]) (verT.dflt, riskT.dflt, coverT.dflt, ()) (by kernel_rfl)
  (fun c E hc => lam1f hc (by kernel_rfl) (b := loopF Try.f50 0) (by kernel_rfl) (Does.han CQ_ok rfl loopQ)) (fun x => by kernel_rfl)
theorem not3 (a b c : Bool) : (bif bif !a then true else !b then true else !c) = !(a && (b && c)) := by cases a <;> cases b <;> cases c <;> rfl
theorem verB_peril {v : verT.den} (h : verB v = true) : v.2.2.2.2.1.length = 8 := by
 unfold verB at h
 rw [Bool.and_eq_true] at h
 have h1 := of_decide_eq_true h.1
 exact h1.2.2.2.2.2.2.2
theorem riskB_kind {k v a z : Int} (h : riskB k v a z = true) : 0 <= k /\ k < 4 /\ 0 <= z := by
 have h1 := of_decide_eq_true h
 exact ⟨h1.1, h1.2.1, h1.2.2.2.2.2.2.1⟩
theorem coverB_peril {p l g d s : Int} (h : coverB p l g d s = true) : 0 <= p /\ p < 8 := by
 have h1 := of_decide_eq_true h
 exact ⟨h1.1, h1.2.1⟩
theorem one_eq (v : verT.den) (k val a z : Int) (c : coverT.den) : (frOne (v, (k, val, a, z, ()), c, ())).ok /\ (frOne (v, (k, val, a, z, ()), c, ())).get = ((oneF v (k, val, a, z, ()) c).1, (oneF v (k, val, a, z, ()) c).2, ()) := by
 obtain ⟨p, l, g, d, s, _⟩ := c
 unfold frOne oneF
 have e0 : (bif bif !(cVer.f (v, ())).1 then true else !(cRisk.f ((k, val, a, z, ()), ())).1 then true else !(cCover.f ((p, l, g, d, s, ()), ())).1) = !(verB v && (riskB k val a z && coverB p l g d s)) := not3 _ _ _
 by_cases h : (verB v && (riskB k val a z && coverB p l g d s)) = true
 ·rw [if_pos h]
  refine Fr.br_f (by rw [e0, h]; rfl) ?_
  rw [Bool.and_eq_true, Bool.and_eq_true] at h
  obtain ⟨h1, h2, h3⟩ := h
  obtain ⟨r1, r2, r3⟩ := riskB_kind h2
  obtain ⟨c1, c2⟩ := coverB_peril h3
  have hp := verB_peril h1
  by_cases hz : z ≥ (v.2.2.2.1.length : Int)
  ·rw [if_pos hz]
   exact Fr.br_t (decide_eq_true hz) ⟨trivial, rfl⟩
  ·rw [if_neg hz]
   have hz' : z < (v.2.2.2.1.length : Int) := Int.not_le.1 hz
   refine Fr.br_f (decide_eq_false hz) (Fr.need_ ⟨r1, by omega⟩ (Fr.need_ ⟨r3, hz'⟩ (Fr.need_ ⟨c1, ?_⟩ (Fr.need_ ⟨by omega, by omega, rfl⟩ ?_))))
   ·show p < (v.2.2.2.2.1.length : Int)
    rw [hp]
    exact c2
   ·by_cases hb : (bpGo (oneL v (k, val, a, z, ()) (p, l, g, d, s, ())) val).2 = 0
    ·have hb' : ((bpGo (oneL v (k, val, a, z, ()) (p, l, g, d, s, ())) val).2 != 0) = false := by rw [hb]; rfl
     rw [if_pos hb]
     exact Fr.br_f hb' ⟨trivial, rfl⟩
    ·have hb' : ((bpGo (oneL v (k, val, a, z, ()) (p, l, g, d, s, ())) val).2 != 0) = true := bne_iff_ne.2 hb
     rw [if_neg hb]
     exact Fr.br_t hb' ⟨trivial, rfl⟩
 ·rw [if_neg h]
  simp only [Bool.not_eq_true] at h
  exact Fr.br_t (by rw [e0, h]; rfl) ⟨trivial, rfl⟩
theorem one_ok : SoundCt Try.prog 50 cOne :=
 convF one_run _ _ (fun _ _ x _ _ _ => by
  obtain ⟨v, ⟨k, val, a, z, _⟩, c, _⟩ := x
  exact one_eq v k val a z c)
noncomputable def CY1 : Cx := cx [] []
theorem CY1_ok : CxOK Try.prog CY1 := cx_ok (cs := []) (ps := []) mixed trivial trivial
noncomputable def XiY : FuncId -> Option (Func × (Nat -> St -> Option Tr)) := envF [(49, (Try.f49, lam0)), (77, (Try.f77, lam0))]
theorem XiY_ok : ∀ f fn Λ, XiY f = some (fn, Λ) -> Try.prog.funcs[f]? = some fn /\ ∀ c E', fn.body = some c -> LamOK Try.prog E' Λ c 0 := fun f fn Λ h => by
 simp only [XiY, envF] at h
 split at h
 ·rename_i hf
  subst hf
  cases h
  exact ⟨by kernel_rfl, fun c E' _ => lam0_ok c 0⟩
 ·split at h
  ·rename_i hf
   subst hf
   cases h
   exact ⟨by kernel_rfl, fun c E' _ => lam0_ok c 0⟩
  ·cases h
noncomputable def CY : Cx := cxK [(50, cOne)] [] (inlK Try.prog CY1 XiY)
theorem CY_ok : CxOK Try.prog CY := cxK_ok mixed ⟨one_ok, trivial⟩ trivial (inlK_ok CY1_ok XiY_ok)
def MY : LS := ⟨[(16, .d (.sl coverT)), (17, .d i64), (18, .d i64), (9, .d i64), (10, .d .bool)], [.x 3 62 verT, .r 3 3 0, .x 4 29 riskT, .r 4 4 0, .x 160001 3 i64, .g 8 77 [160001]]⟩
def EY : LS := ⟨[(9, .d i64), (10, .d .bool)], []⟩
def ptY : Pt := ⟨43, 0, MY, EY, ⟨[(6, .d i64), (7, .d i64)], []⟩⟩
def fY1 (v : verT.den) (r : riskT.den) (l : List coverT.den) (n i s : Int) (b : Bool) (q : Int) (c : coverT.den) : Fr ptY.Out :=
 Fr.br ((cOne.f (v, r, c, ())).2.1 != 0) (Fr.val (Rd.back ((0, (cOne.f (v, r, c, ())).2.1, ()), ())))
  (Fr.br b
   (Fr.br (decide ((cOne.f (v, r, c, ())).1 > IntKind.i64.wrap (4000000000000000000 - q)))
    (Fr.val (Rd.next ((l, n, IntKind.i64.wrap (i + 1), 0, false, ()), (v, r, q, ()))))
    (Fr.val (Rd.next ((l, n, IntKind.i64.wrap (i + 1), IntKind.i64.wrap (q + (cOne.f (v, r, c, ())).1), true, ()), (v, r, IntKind.i64.wrap (q + (cOne.f (v, r, c, ())).1), ())))))
   (Fr.val (Rd.next ((l, n, IntKind.i64.wrap (i + 1), s, b, ()), (v, r, q, ())))))
def fY (x : MY.X) : Fr ptY.Out :=
 Fr.br (decide (x.1.2.2.1 < x.1.2.1))
  (Fr.need (0 <= x.1.2.2.1 /\ x.1.2.2.1 < x.1.1.length) (fY1 x.2.1 x.2.2.1 x.1.1 x.1.2.1 x.1.2.2.1 x.1.2.2.2.1 x.1.2.2.2.2.1 x.2.2.2.1 (x.1.1.getD x.1.2.2.1.toNat coverT.dflt)))
  (Fr.val (Rd.out ((x.1.2.2.2.1, x.1.2.2.2.2.1, ()), ())))
theorem semY : Does Try.prog (loopF Try.f21 0) MY ptY fY := Does.of_run CY_ok (bs := 0) rfl rfl rfl (fun _ => lam0_ok _ 0) (fun x => by kernel_rfl)
def yrGo (v : verT.den) (r : riskT.den) : List coverT.den -> Int -> Bool -> Int × Bool × Int
 | [], q, b => (if b = true then q else 0, b, 0)
 | c :: l, q, b => if (oneF v r c).2 = 0 then
   (if b = true then (if (oneF v r c).1 > 4000000000000000000 - q then yrGo v r l q false else yrGo v r l (q + (oneF v r c).1) true) else yrGo v r l q false)
  else (0, false, (oneF v r c).2)
theorem oneF_pos {v : verT.den} {r : riskT.den} {c : coverT.den} (h : (oneF v r c).2 = 0) : 0 <= (oneF v r c).1 := by
 unfold oneF at h ⊢
 split
 ·rename_i h1
  rw [if_pos h1] at h
  split
  ·exact Int.le_refl 0
  ·rename_i h2
   rw [if_neg h2] at h
   split
   ·have hv : verB v = true := (Bool.and_eq_true_iff.1 h1).1
    have hmin : 0 <= v.2.2.2.2.2.1 := by
     unfold verB at hv
     rw [Bool.and_eq_true] at hv
     exact (of_decide_eq_true hv.1).2.2.1
    show 0 <= (if (bpGo (oneL v r c) r.2.1).1 < v.2.2.2.2.2.1 then v.2.2.2.2.2.1 else (bpGo (oneL v r c) r.2.1).1)
    split
    ·exact hmin
    ·rename_i h3
     exact Int.le_trans hmin (Int.not_lt.1 h3)
   ·exact Int.le_refl 0
 ·exact Int.le_refl 0
def InY (l : List coverT.den) (n i s : Int) (b : Bool) (q : Int) : Prop := 0 <= i /\ i <= n /\ n = l.length /\ n <= 9223372036854775807 /\ 0 <= q /\ q <= 4000000000000000000 /\ s = if b = true then q else 0
def outY (y : Int × Bool × Int) : Fr ptY.Out := Fr.br (y.2.2 != 0) (Fr.val (Rd.back ((0, y.2.2, ()), ()))) (Fr.val (Rd.out ((y.1, y.2.1, ()), ())))
def FY (x : MY.X) : Fr ptY.Out := Fr.need (InY x.1.1 x.1.2.1 x.1.2.2.1 x.1.2.2.2.1 x.1.2.2.2.2.1 x.2.2.2.1) (outY (yrGo x.2.1 x.2.2.1 (x.1.1.drop x.1.2.2.1.toNat) x.2.2.2.1 x.1.2.2.2.2.1))
theorem lawY (v : verT.den) (r : riskT.den) (l : List coverT.den) (n i s : Int) (b : Bool) (q : Int) (hinv : InY l n i s b q) (Q : ptY.Out -> Prop) (hq : (outY (yrGo v r (l.drop i.toNat) q b)).satP Q) :
  (fY ((l, n, i, s, b, ()), (v, r, q, ()))).satP fun
   | .next x' => InY x'.1.1 x'.1.2.1 x'.1.2.2.1 x'.1.2.2.2.1 x'.1.2.2.2.2.1 x'.2.2.2.1 /\ (x'.1.2.1 - x'.1.2.2.1).toNat < (n - i).toNat /\ (FY x').satP Q
   | .out y => Q (.out y)
   | .back z => Q (.back z)
   | .pan p => Q (.pan p) := by
 obtain ⟨h1, h2, rfl, h4, h5, h6, h7⟩ := hinv
 refine ⟨fun hi => ?_, fun hi => ?_⟩
 ·have hi' : i < (l.length : Int) := of_decide_eq_true hi
  obtain ⟨k, rfl⟩ : ∃ k : Nat, i = k := ⟨i.toNat, by omega⟩
  have hl : k < l.length := by omega
  have g1 : l.getD (k : Int).toNat coverT.dflt = l[k] := by
   rw [show (k : Int).toNat = k by omega, List.getD_eq_getElem?_getD, List.getElem?_eq_getElem hl]; rfl
  have hw : IntKind.i64.wrap ((k : Int) + 1) = k + 1 := IntWalk.i64_in _ (by omega)
  have hd : l.drop (k : Int).toNat = l[k] :: l.drop (k + 1) := by
   rw [show (k : Int).toNat = k by omega]
   exact List.drop_eq_getElem_cons hl
  have hn1 : ((k : Int) + 1).toNat = k + 1 := by omega
  rw [hd] at hq
  refine ⟨⟨by omega, hi'⟩, ?_⟩
  show (fY1 v r l l.length k s b q (l.getD (k : Int).toNat coverT.dflt)).satP _
  rw [g1]
  unfold fY1
  rw [hw]
  generalize l[k] = c at *
  have hμ : ((l.length : Int) - ((k : Int) + 1)).toNat < ((l.length : Int) - k).toNat := by omega
  refine ⟨fun he => ?_, fun he => ?_⟩
  ·have he' : ¬ (oneF v r c).2 = 0 := bne_iff_ne.1 he
   have e : yrGo v r (c :: l.drop (k + 1)) q b = (0, false, (oneF v r c).2) := if_neg he'
   rw [e] at hq
   exact hq.1 he
  ·have he' : (oneF v r c).2 = 0 := by
    have : ((oneF v r c).2 != 0) = false := he
    simpa using this
   have hpos := oneF_pos he'
   have e : yrGo v r (c :: l.drop (k + 1)) q b = (if b = true then (if (oneF v r c).1 > 4000000000000000000 - q then yrGo v r (l.drop (k + 1)) q false else yrGo v r (l.drop (k + 1)) (q + (oneF v r c).1) true) else yrGo v r (l.drop (k + 1)) q false) := if_pos he'
   rw [e] at hq
   have hw2 : IntKind.i64.wrap (4000000000000000000 - q) = 4000000000000000000 - q := IntWalk.i64_in _ (by omega)
   refine ⟨fun hb => ?_, fun hb => ?_⟩
   ·rw [if_pos hb] at hq
    rw [hw2]
    refine ⟨fun hg => ?_, fun hg => ?_⟩
    ·have hg' : (oneF v r c).1 > 4000000000000000000 - q := of_decide_eq_true hg
     rw [if_pos hg'] at hq
     have hI : InY l l.length ((k : Int) + 1) 0 false q := ⟨by omega, by omega, rfl, h4, h5, h6, rfl⟩
     refine ⟨hI, hμ, hI, ?_⟩
     show (outY (yrGo v r (l.drop ((k : Int) + 1).toNat) q false)).satP Q
     rw [hn1]
     exact hq
    ·have hg' : ¬ (oneF v r c).1 > 4000000000000000000 - q := of_decide_eq_false hg
     rw [if_neg hg'] at hq
     have hw3 : IntKind.i64.wrap (q + (cOne.f (v, r, c, ())).1) = q + (oneF v r c).1 := IntWalk.i64_in (q + (oneF v r c).1) (by omega)
     rw [hw3]
     have hI : InY l l.length ((k : Int) + 1) (q + (oneF v r c).1) true (q + (oneF v r c).1) := ⟨by omega, by omega, rfl, h4, by omega, by omega, rfl⟩
     refine ⟨hI, hμ, hI, ?_⟩
     show (outY (yrGo v r (l.drop ((k : Int) + 1).toNat) (q + (oneF v r c).1) true)).satP Q
     rw [hn1]
     exact hq
   ·subst hb
    rw [if_neg (by decide)] at hq
    have hI : InY l l.length ((k : Int) + 1) s false q := ⟨by omega, by omega, rfl, h4, h5, h6, h7⟩
    refine ⟨hI, hμ, hI, ?_⟩
    show (outY (yrGo v r (l.drop ((k : Int) + 1).toNat) q false)).satP Q
    rw [hn1]
    exact hq
 ·have hi' : ¬ i < (l.length : Int) := of_decide_eq_false hi
  have e : l.drop i.toNat = [] := List.drop_eq_nil_of_le (by omega)
  rw [e] at hq
  subst h7
  exact hq.2 rfl
theorem loopY : Does Try.prog (.loop (loopF Try.f21 0)) MY ptY FY := by
 refine Does.loop (n := 43) (id := 0) semY (inv := fun x => InY x.1.1 x.1.2.1 x.1.2.2.1 x.1.2.2.2.1 x.1.2.2.2.2.1 x.2.2.2.1) (μ := fun x => (x.1.2.1 - x.1.2.2.1).toNat) ?_ (fun x Q h => h.1)
 rintro ⟨⟨l, n, i, s, b, _⟩, v, r, q, _⟩ hinv Q hq
 exact lawY v r l n i s b q hinv Q hq.2
def yearF (v : verT.den) (r : riskT.den) (l : List coverT.den) : Int × Int :=
 if (yrGo v r l 0 true).2.2 = 0 then (if (yrGo v r l 0 true).2.1 = true then ((yrGo v r l 0 true).1, 0) else (0, 5)) else (0, (yrGo v r l 0 true).2.2)
def cYear : Ct := ⟨[.d verT, .d riskT, .d (.sl coverT)], [i64, i64], fun x => ((yearF x.1 x.2.1 x.2.2.1).1, (yearF x.1 x.2.1 x.2.2.1).2, ()), fun _ => []⟩
def frYear (x : denP [.d verT, .d riskT, .d (.sl coverT)]) : Fr (denL [i64, i64]) :=
 Fr.need (InY x.2.2.1 x.2.2.1.length 0 0 true 0)
  (Fr.br ((yrGo x.1 x.2.1 x.2.2.1 0 true).2.2 != 0) (Fr.val (0, (yrGo x.1 x.2.1 x.2.2.1 0 true).2.2, ()))
   (Fr.br (!(yrGo x.1 x.2.1 x.2.2.1 0 true).2.1) (Fr.val (0, 5, ())) (Fr.val ((yrGo x.1 x.2.1 x.2.2.1 0 true).1, 0, ()))))
theorem year_run : SoundCt Try.prog 21 ⟨[.d verT, .d riskT, .d (.sl coverT)], [i64, i64], fun xs => (frYear xs).get, fun xs => [(frYear xs).ok]⟩ :=
 fn_sound CY_ok (Λ := fun _ => ptY.han CY.Γ MY FY) (fn := Try.f21) (fr := frYear) (ps := [.d verT, .d riskT, .d (.sl coverT)]) (rs := [i64, i64]) (verT.dflt, riskT.dflt, [], ()) (by kernel_rfl)
  (fun c E hc => lam1f hc (by kernel_rfl) (b := loopF Try.f21 0) (by kernel_rfl) (Does.han CY_ok rfl loopY)) (fun x => by kernel_rfl)
theorem year_ok : SoundCt Try.prog 21 cYear :=
 convF year_run _ _ (fun w F x vs hr _ => by
  obtain ⟨v, r, l, _⟩ := x
  obtain ⟨v1, vs1, rfl, _, v2, vs2, rfl, _, v3, vs3, rfl, h3, _⟩ := hr
  have hlen : (l.length : Int) <= 9223372036854775807 := wf_len h3
  have hI : InY l l.length 0 0 true 0 := ⟨by omega, by omega, rfl, hlen, by decide, by decide, rfl⟩
  refine Fr.need_ hI ?_
  show (Fr.br ((yrGo v r l 0 true).2.2 != 0) (Fr.val (0, (yrGo v r l 0 true).2.2, ())) (Fr.br (!(yrGo v r l 0 true).2.1) (Fr.val (0, 5, ())) (Fr.val ((yrGo v r l 0 true).1, 0, ())))  : Fr (denL [i64, i64])).ok /\ (Fr.br ((yrGo v r l 0 true).2.2 != 0) (Fr.val (0, (yrGo v r l 0 true).2.2, ())) (Fr.br (!(yrGo v r l 0 true).2.1) (Fr.val (0, 5, ())) (Fr.val ((yrGo v r l 0 true).1, 0, ())))  : Fr (denL [i64, i64])).get = ((yearF v r l).1, (yearF v r l).2, ())
  unfold yearF
  generalize yrGo v r l 0 true = y
  obtain ⟨s, b, e⟩ := y
  by_cases he : e = 0
  ·subst he
   refine Fr.br_f rfl ?_
   cases b with
   | true => exact Fr.br_f rfl ⟨trivial, rfl⟩
   | false => exact Fr.br_t rfl ⟨trivial, rfl⟩
  ·rw [if_neg he]
   exact Fr.br_t (bne_iff_ne.2 he) ⟨trivial, rfl⟩)
noncomputable def CC1 : Cx := cx [(71, cHolds)] []
theorem CC1_ok : CxOK Try.prog CC1 := cx_ok (ps := []) mixed ⟨holds_ok, trivial⟩ trivial
noncomputable def XiC : FuncId -> Option (Func × (Nat -> St -> Option Tr)) := envF [(70, (Try.f70, lam0)), (73, (Try.f73, lam0))]
theorem XiC_ok : ∀ f fn Λ, XiC f = some (fn, Λ) -> Try.prog.funcs[f]? = some fn /\ ∀ c E', fn.body = some c -> LamOK Try.prog E' Λ c 0 := fun f fn Λ h => by
 simp only [XiC, envF] at h
 split at h
 ·rename_i hf
  subst hf
  cases h
  exact ⟨by kernel_rfl, fun c E' _ => lam0_ok c 0⟩
 ·split at h
  ·rename_i hf
   subst hf
   cases h
   exact ⟨by kernel_rfl, fun c E' _ => lam0_ok c 0⟩
  ·cases h
noncomputable def CC2 : Cx := cxK [(72, cOrder)] [] (inlK Try.prog CC1 XiC)
theorem CC2_ok : CxOK Try.prog CC2 := cxK_ok (ps := []) mixed ⟨order_ok, trivial⟩ trivial (inlK_ok CC1_ok XiC_ok)
abbrev msC : List MI := [.x 280001 35 histT, .r 1 280001 0, .x 280003 27 spanT, .r 3 280003 0, .x 280004 52 sliceT, .r 4 280004 0, .y 280005 48 [(some 52, sliceT)], .r 5 280005 0, .g 6 70 [280004, 280005], .x 6 62 verT, .r 10006 6 0]
def MC : LS := ⟨[(26, .d ints), (27, .d i64), (28, .d i64)], msC⟩
def EC : LS := ⟨[], msC⟩
def ptC5 : Pt := ⟨52, 0, MC, EC, ⟨[], []⟩⟩
def lastI (out : List sliceT.den) : Int := IntKind.i64.wrap ((out.length : Int) - 1)
def setTo (s : sliceT.den) (b : Int) : sliceT.den := ((s.1.1, b, ()), s.2)
def endT {α : Type} (s : sliceT.den) (out : List sliceT.den) (day : Int) (K : List sliceT.den -> Fr α) : Fr α :=
 Fr.br (s.1.1 == day) (K out)
  (Fr.need (decide (lastI out ≥ 0) = true -> 0 <= lastI out /\ lastI out < (out.length : Int))
   (Fr.need (decide (lastI out ≥ 0) = true -> (lastI out).toNat < out.length)
    (Fr.br (bif decide (lastI out ≥ 0) then (cHolds.f (out.getD (lastI out).toNat sliceT.dflt, setTo s day, ())).1 else false)
     (Fr.need (0 <= lastI out /\ lastI out < (out.length : Int)) (Fr.need ((lastI out).toNat < out.length) (K (out.set (lastI out).toNat (setTo (out.getD (lastI out).toNat sliceT.dflt) day)))))
     (Fr.need (out.length + [setTo s day].length <= maxLen /\ (out.length + [setTo s day].length) * 88 <= 140737488355328) (K (out ++ [setTo s day]))))))
def doesT {α : Type} (s : sliceT.den) (c : changeT.den) (K : sliceT.den -> Fr α) : Fr α :=
 Fr.br (c.2.2.1 == 1) (K (s.1, s.2.1, c.2.2.2.1, s.2.2.2.1, s.2.2.2.2.1, ()))
  (Fr.br (c.2.2.1 == 2) (Fr.need (([] : List coverT.den).length + c.2.2.2.2.1.length <= maxLen /\ (([] : List coverT.den).length + c.2.2.2.2.1.length) * 40 <= 140737488355328) (K (s.1, s.2.1, s.2.2.1, [] ++ c.2.2.2.2.1, s.2.2.2.2.1, ())))
   (Fr.br (c.2.2.1 == 3) (K (s.1, false, s.2.2.1, s.2.2.2.1, s.2.2.2.2.1, ()))
    (Fr.br (c.2.2.1 == 4) (K (s.1, true, s.2.2.1, s.2.2.2.1, s.2.2.2.2.1, ())) (K s))))
def frC5 (x : MC.X) : Fr ptC5.Out :=
 let l : List Int := x.1.1; let n : Int := x.1.2.1; let i : Int := x.1.2.2.1; let h : histT.den := x.2.1; let sp : spanT.den := x.2.2.1; let s : sliceT.den := x.2.2.2.1; let out : List sliceT.den := x.2.2.2.2.1.1; let v : verT.den := x.2.2.2.2.2.1
 let j : Int := l.getD i.toNat i64.dflt
 Fr.br (decide (i < n))
  (Fr.need (0 <= i /\ i < (l.length : Int))
   (Fr.need (0 <= j /\ j < ((chL h).length : Int))
    (endT s out (chAt h j).2.1 fun out' =>
     Fr.need (0 <= j /\ j < ((chL h).length : Int))
      (doesT (((chAt h j).2.1, s.1.2.1, ()), s.2) (chAt h j) fun s' => Fr.val (Rd.next ((l, n, IntKind.i64.wrap (i + 1), ()), (h, sp, s', (out', ()), v, ())))))))
  (Fr.val (Rd.out ((), (h, sp, s, (out, ()), v, ()))))
theorem semC5 : Does Try.prog (loopF Try.f46 0) MC ptC5 frC5 := Does.of_run CC2_ok (bs := 280000) rfl rfl rfl (fun _ => lam0_ok _ 0) (fun x => by kernel_rfl)
theorem pushR_eq (s : sliceT.den) : (out : List sliceT.den) -> 0 < out.length -> pushR out s = if holdsB (out.getD (out.length - 1) sliceT.dflt) s = true then out.set (out.length - 1) (setTo (out.getD (out.length - 1) sliceT.dflt) s.1.2.1) else out ++ [s]
 | [], h => absurd h (by decide)
 | [x], _ => rfl
 | x :: y :: r, _ => by
  have ih := pushR_eq s (y :: r) (by simp)
  have e1 : (x :: y :: r).length - 1 = ((y :: r).length - 1) + 1 := by simp
  have e2 : (x :: y :: r).getD ((x :: y :: r).length - 1) sliceT.dflt = (y :: r).getD ((y :: r).length - 1) sliceT.dflt := by
   rw [e1]
   rfl
  show x :: pushR (y :: r) s = _
  rw [ih, e2, e1]
  split
  ·rfl
  ·rfl
theorem pushR_length (s : sliceT.den) : (out : List sliceT.den) -> (pushR out s).length <= out.length + 1
 | [] => by simp [pushR]
 | [x] => by unfold pushR; split <;> simp
 | x :: y :: r => by
  have := pushR_length s (y :: r)
  simp only [pushR, List.length_cons] at this ⊢
  omega
theorem endS_length (s : sliceT.den) (out : List sliceT.den) (day : Int) : (endS s out day).length <= out.length + 1 := by
 unfold endS
 split
 ·omega
 ·exact pushR_length _ _
theorem lastI_eq {out : List sliceT.den} (h : out.length <= 1000000) : lastI out = (out.length : Int) - 1 := IntWalk.i64_in _ (by omega)
theorem endT_sat {α : Type} {s : sliceT.den} {out : List sliceT.den} {day : Int} {K : List sliceT.den -> Fr α} {Q : α -> Prop} (hl : out.length <= 1000000) (h : (K (endS s out day)).satP Q) : (endT s out day K).satP Q := by
 unfold endS at h
 have hw := lastI_eq hl
 have hm : out.length + 1 <= maxLen /\ (out.length + 1) * 88 <= 140737488355328 := ⟨by unfold maxLen; omega, by omega⟩
 refine ⟨fun hb => ?_, fun hb => ?_⟩
 ·have hb' : s.1.1 = day := eq_of_beq (α := Int) hb
  rw [if_pos hb'] at h
  exact h
 ·have hb' : ¬ s.1.1 = day := ne_of_beq_false (α := Int) hb
  rw [if_neg hb'] at h
  refine ⟨fun hd => ?_, fun hd => ?_, ?_⟩
  ·have := of_decide_eq_true hd
   omega
  ·have := of_decide_eq_true hd
   omega
  ·by_cases h0 : 0 < out.length
   ·have hge : decide (lastI out ≥ 0) = true := decide_eq_true (by omega)
    have ht : (lastI out).toNat = out.length - 1 := by omega
    have hp := pushR_eq (setTo s day) out h0
    rw [hge, ht]
    refine ⟨fun hh => ?_, fun hh => ?_⟩
    ·have hh' : holdsB (out.getD (out.length - 1) sliceT.dflt) (setTo s day) = true := hh
     rw [if_pos hh'] at hp
     refine ⟨⟨by omega, by omega⟩, by omega, ?_⟩
     have e : pushR out ((s.1.1, day, ()), s.2) = out.set (out.length - 1) (setTo (out.getD (out.length - 1) sliceT.dflt) day) := hp
     rw [e] at h
     exact h
    ·have hh' : ¬ holdsB (out.getD (out.length - 1) sliceT.dflt) (setTo s day) = true := by
      intro hx
      have : holdsB (out.getD (out.length - 1) sliceT.dflt) (setTo s day) = false := hh
      rw [hx] at this
      cases this
     rw [if_neg hh'] at hp
     have e : pushR out ((s.1.1, day, ()), s.2) = out ++ [setTo s day] := hp
     rw [e] at h
     exact ⟨hm, h⟩
   ·have h00 : out = [] := List.length_eq_zero_iff.1 (by omega)
    subst h00
    have hge : decide (lastI [] ≥ 0) = false := decide_eq_false (by rw [hw]; decide)
    rw [hge]
    exact ⟨fun hh => (by cases hh), fun _ => ⟨hm, h⟩⟩
theorem doesT_sat {α : Type} {s : sliceT.den} {c : changeT.den} {K : sliceT.den -> Fr α} {Q : α -> Prop} (hl : c.2.2.2.2.1.length <= 1000000) (h : (K (doesC s c)).satP Q) : (doesT s c K).satP Q := by
 unfold doesC at h
 have hm : ([] : List coverT.den).length + c.2.2.2.2.1.length <= maxLen /\ (([] : List coverT.den).length + c.2.2.2.2.1.length) * 40 <= 140737488355328 := by
  simp only [List.length_nil, Nat.zero_add]
  exact ⟨by unfold maxLen; omega, by omega⟩
 refine ⟨fun k => ?_, fun k => ⟨fun k2 => ?_, fun k2 => ⟨fun k3 => ?_, fun k3 => ⟨fun k4 => ?_, fun k4 => ?_⟩⟩⟩⟩
 ·have k' : c.2.2.1 = 1 := eq_of_beq (α := Int) k
  rw [if_pos k'] at h
  exact h
 ·have k' : ¬ c.2.2.1 = 1 := ne_of_beq_false (α := Int) k
  have k2' : c.2.2.1 = 2 := eq_of_beq (α := Int) k2
  rw [if_neg k', if_pos k2'] at h
  exact ⟨hm, h⟩
 ·have k' : ¬ c.2.2.1 = 1 := ne_of_beq_false (α := Int) k
  have k2' : ¬ c.2.2.1 = 2 := ne_of_beq_false (α := Int) k2
  have k3' : c.2.2.1 = 3 := eq_of_beq (α := Int) k3
  rw [if_neg k', if_neg k2', if_pos k3'] at h
  exact h
 ·have k' : ¬ c.2.2.1 = 1 := ne_of_beq_false (α := Int) k
  have k2' : ¬ c.2.2.1 = 2 := ne_of_beq_false (α := Int) k2
  have k3' : ¬ c.2.2.1 = 3 := ne_of_beq_false (α := Int) k3
  have k4' : c.2.2.1 = 4 := eq_of_beq (α := Int) k4
  rw [if_neg k', if_neg k2', if_neg k3', if_pos k4'] at h
  exact h
 ·have k' : ¬ c.2.2.1 = 1 := ne_of_beq_false (α := Int) k
  have k2' : ¬ c.2.2.1 = 2 := ne_of_beq_false (α := Int) k2
  have k3' : ¬ c.2.2.1 = 3 := ne_of_beq_false (α := Int) k3
  have k4' : ¬ c.2.2.1 = 4 := ne_of_beq_false (α := Int) k4
  rw [if_neg k', if_neg k2', if_neg k3', if_neg k4'] at h
  exact h
structure InvC5 (l : List Int) (n i : Int) (h : histT.den) (out : List sliceT.den) : Prop where
 i0 : 0 <= i
 il : i <= n
 nl : n = l.length
 few : l.length <= 500000
 inl : ∀ x ∈ l, 0 <= x /\ x < ((chL h).length : Int)
 cov : ∀ c ∈ chL h, c.2.2.2.2.1.length <= 1000000
 outs : (out.length : Int) <= i
def FC5 (x : MC.X) : Fr ptC5.Out :=
 let l : List Int := x.1.1; let n : Int := x.1.2.1; let i : Int := x.1.2.2.1; let h : histT.den := x.2.1; let sp : spanT.den := x.2.2.1; let s : sliceT.den := x.2.2.2.1; let out : List sliceT.den := x.2.2.2.2.1.1; let v : verT.den := x.2.2.2.2.2.1
 Fr.need (InvC5 l n i h out) (Fr.val (Rd.out ((), (h, sp, (goCut ((l.drop i.toNat).map (chAt h)) s out).1, ((goCut ((l.drop i.toNat).map (chAt h)) s out).2, ()), v, ()))))
theorem lawC5 (l : List Int) (n i : Int) (h : histT.den) (sp : spanT.den) (s : sliceT.den) (out : List sliceT.den) (v : verT.den) (hinv : InvC5 l n i h out) (Q : ptC5.Out -> Prop)
  (hq : Q (Rd.out ((), (h, sp, (goCut ((l.drop i.toNat).map (chAt h)) s out).1, ((goCut ((l.drop i.toNat).map (chAt h)) s out).2, ()), v, ())))) :
  (frC5 ((l, n, i, ()), (h, sp, s, (out, ()), v, ()))).satP fun
   | .next x' => InvC5 x'.1.1 x'.1.2.1 x'.1.2.2.1 x'.2.1 x'.2.2.2.2.1.1 /\ ((x'.1.2.1 : Int) - x'.1.2.2.1).toNat < (n - i).toNat /\ (FC5 x').satP Q
   | .out y => Q (.out y)
   | .back z => Q (.back z)
   | .pan p => Q (.pan p) := by
 obtain ⟨h0, h1, rfl, h2, h3, h4, h5⟩ := hinv
 obtain ⟨i', rfl⟩ : ∃ n : Nat, i = n := ⟨i.toNat, by omega⟩
 simp only [Int.toNat_natCast] at hq
 dsimp only [frC5, Fr.satP, Ty.den, PT.den]
 simp only [Int.toNat_natCast]
 refine ⟨fun hi => ?_, fun hi => ?_⟩
 ·have hlt : i' < l.length := by have : (i' : Int) < (l.length : Int) := of_decide_eq_true hi; omega
  have w : IntKind.i64.wrap ((i' : Int) + 1) = (i' + 1 : Nat) := succ_nat (by omega)
  rw [w]
  have hm := h3 _ (getD_mem (d := (0 : Int)) hlt)
  rw [drop_at hlt, List.map_cons] at hq
  have hcm : chAt h (l.getD i' 0) ∈ chL h := by
   unfold chAt
   exact getD_mem (by omega)
  have hE := endS_length s out (chAt h (l.getD i' 0)).2.1
  have hI : InvC5 l (l.length : Int) ((i' + 1 : Nat) : Int) h (endS s out (chAt h (l.getD i' 0)).2.1) := ⟨by omega, by omega, rfl, h2, h3, h4, by omega⟩
  have hμ : ((l.length : Int) - ((i' + 1 : Nat) : Int)).toNat < ((l.length : Int) - (i' : Int)).toNat := by omega
  refine ⟨⟨by omega, by omega⟩, hm, endT_sat (by omega) ⟨hm, doesT_sat (h4 _ hcm) ⟨hI, hμ, hI, hq⟩⟩⟩
 ·have hge : ¬ i' < l.length := by have : ¬ (i' : Int) < (l.length : Int) := of_decide_eq_false hi; omega
  rw [List.drop_eq_nil_of_le (by omega)] at hq
  exact hq
theorem loopC5 : Does Try.prog (.loop (loopF Try.f46 0)) MC ptC5 FC5 := by
 refine Does.loop (n := 52) (id := 0) semC5 (inv := fun x => InvC5 x.1.1 x.1.2.1 x.1.2.2.1 x.2.1 x.2.2.2.2.1.1) (μ := fun x => ((x.1.2.1 : Int) - x.1.2.2.1).toNat) ?_ (fun x Q h => h.1)
 rintro ⟨⟨l, n, i, _⟩, h, sp, s, ⟨out, _⟩, v, _⟩ hinv Q hq
 exact lawC5 l n i h sp s out v hinv Q hq.2
noncomputable def XiOf : FuncId -> Option (Func × (Nat -> St -> Option Tr)) := envF [(46, (Try.f46, fun _ => ptC5.han CC2.Γ MC FC5))]
theorem XiOf_ok : ∀ f fn Λ, XiOf f = some (fn, Λ) -> Try.prog.funcs[f]? = some fn /\ ∀ c E', fn.body = some c -> LamOK Try.prog E' Λ c 0 := fun f fn Λ h => by
 simp only [XiOf, envF] at h
 split at h
 ·rename_i hf
  subst hf
  cases h
  exact ⟨by kernel_rfl, fun c E' hc => lam1f hc (by kernel_rfl) (b := loopF Try.f46 0) (by kernel_rfl) (Does.han CC2_ok rfl loopC5)⟩
 ·cases h
noncomputable def COf : Cx := cxK [(45, cHist), (20, cTarAt), (21, cYear)] [] (inlK Try.prog CC2 XiOf)
theorem COf_ok : CxOK Try.prog COf := cxK_ok (ps := []) mixed ⟨sRight_ok, tarAt_ok, year_ok, trivial⟩ trivial (inlK_ok CC2_ok XiOf_ok)
def MO : LS := ⟨[(29, .d i64), (30, .d i64)], [.o 8 52 sliceT, .al 28 8, .x 6 62 verT, .r 6 6 0]⟩
def EO : LS := ⟨[], [.o 8 52 sliceT]⟩
def ptO : Pt := ⟨56, 0, MO, EO, ⟨[(4, .d slsT), (5, .d i64)], []⟩⟩
def yrS (v : verT.den) (s : sliceT.den) : Int × Int := yearF v s.2.2.1 s.2.2.2.1
def setY (s : sliceT.den) (y : Int) : sliceT.den := (s.1, s.2.1, s.2.2.1, s.2.2.2.1, y, ())
def fO (x : MO.X) : Fr ptO.Out :=
 let n : Int := x.1.1; let i : Int := x.1.2.1; let l : List sliceT.den := x.2.1; let v : verT.den := x.2.2.1
 let s : sliceT.den := l.getD i.toNat sliceT.dflt
 Fr.br (decide (i < n))
  (Fr.need (0 <= i /\ i < (l.length : Int)) (Fr.need (i.toNat < l.length)
   (Fr.br (!s.2.1) (Fr.val (Rd.next ((n, IntKind.i64.wrap (i + 1), ()), (l, v, ()))))
    (Fr.need (0 <= i /\ i < (l.length : Int)) (Fr.need (i.toNat < l.length)
     (Fr.br ((cYear.f (v, s.2.2.1, s.2.2.2.1, ())).2.1 != 0) (Fr.val (Rd.back (([], (cYear.f (v, s.2.2.1, s.2.2.2.1, ())).2.1, ()), ())))
      (Fr.val (Rd.next ((n, IntKind.i64.wrap (i + 1), ()), (l.set i.toNat (setY s (cYear.f (v, s.2.2.1, s.2.2.2.1, ())).1), v, ()))))))))))
  (Fr.val (Rd.out ((), (l, ()))))
theorem semO : Does Try.prog (loopF Try.f19 0) MO ptO fO := Does.of_run COf_ok (bs := 0) rfl rfl rfl (fun _ => lam0_ok _ 0) (fun x => by kernel_rfl)
def priceV (v : verT.den) (s : sliceT.den) : sliceT.den := if s.2.1 = true then setY s (yrS v s).1 else s
def errP (v : verT.den) : List sliceT.den -> Int
 | [] => 0
 | s :: l => if s.2.1 = true then (if (yrS v s).2 = 0 then errP v l else (yrS v s).2) else errP v l
structure InvO (n i : Int) (l : List sliceT.den) : Prop where
 i0 : 0 <= i
 il : i <= n
 nl : n = l.length
 few : l.length <= 1000000
def outO (l : List sliceT.den) (e : Int) : Fr ptO.Out := Fr.br (e != 0) (Fr.val (Rd.back (([], e, ()), ()))) (Fr.val (Rd.out ((), (l, ()))))
def FO (x : MO.X) : Fr ptO.Out :=
 let n : Int := x.1.1; let i : Int := x.1.2.1; let l : List sliceT.den := x.2.1; let v : verT.den := x.2.2.1
 Fr.need (InvO n i l) (outO (l.take i.toNat ++ (l.drop i.toNat).map (priceV v)) (errP v (l.drop i.toNat)))
theorem lawO (n i : Int) (l : List sliceT.den) (v : verT.den) (hinv : InvO n i l) (Q : ptO.Out -> Prop) (hq : (outO (l.take i.toNat ++ (l.drop i.toNat).map (priceV v)) (errP v (l.drop i.toNat))).satP Q) :
  (fO ((n, i, ()), (l, v, ()))).satP fun
   | .next x' => InvO x'.1.1 x'.1.2.1 x'.2.1 /\ ((x'.1.1 : Int) - x'.1.2.1).toNat < (n - i).toNat /\ (FO x').satP Q
   | .out y => Q (.out y)
   | .back z => Q (.back z)
   | .pan p => Q (.pan p) := by
 obtain ⟨h0, h1, rfl, h2⟩ := hinv
 obtain ⟨i', rfl⟩ : ∃ n : Nat, i = n := ⟨i.toNat, by omega⟩
 simp only [Int.toNat_natCast] at hq
 dsimp only [fO, Fr.satP, Ty.den, PT.den]
 simp only [Int.toNat_natCast]
 refine ⟨fun hi => ?_, fun hi => ?_⟩
 ·have hlt : i' < l.length := by have : (i' : Int) < (l.length : Int) := of_decide_eq_true hi; omega
  have w : IntKind.i64.wrap ((i' : Int) + 1) = (i' + 1 : Nat) := succ_nat (by omega)
  rw [w]
  have hg : l.getD i' sliceT.dflt = l[i'] := by rw [List.getD_eq_getElem?_getD, List.getElem?_eq_getElem hlt]; rfl
  have hd : l.drop i' = l.getD i' sliceT.dflt :: l.drop (i' + 1) := by rw [hg]; exact List.drop_eq_getElem_cons hlt
  have hμ : ((l.length : Int) - ((i' + 1 : Nat) : Int)).toNat < ((l.length : Int) - (i' : Int)).toNat := by omega
  have hb : 0 <= (i' : Int) /\ (i' : Int) < (l.length : Int) := ⟨by omega, by omega⟩
  rw [hd] at hq
  generalize hs : l.getD i' sliceT.dflt = s at *
  have htk : l.take (i' + 1) = l.take i' ++ [s] := by
   rw [hg]
   exact (List.take_append_getElem hlt).symm
  refine ⟨hb, hlt, fun hoff => ?_, fun hon => ⟨hb, hlt, fun he => ?_, fun he => ?_⟩⟩
  ·have hoff' : ¬ s.2.1 = true := by
    intro hx
    rw [hx] at hoff
    cases hoff
   have hI : InvO (l.length : Int) ((i' + 1 : Nat) : Int) l := ⟨by omega, by omega, rfl, h2⟩
   refine ⟨hI, hμ, hI, ?_⟩
   have e1 : errP v (s :: l.drop (i' + 1)) = errP v (l.drop (i' + 1)) := if_neg hoff'
   have e2 : priceV v s = s := if_neg hoff'
   rw [e1, List.map_cons, e2] at hq
   show (outO (l.take (i' + 1) ++ (l.drop (i' + 1)).map (priceV v)) (errP v (l.drop (i' + 1)))).satP Q
   rw [htk, List.append_assoc]
   exact hq
  ·have hon' : s.2.1 = true := by
    cases hx : s.2.1 with
    | true => rfl
    | false => rw [hx] at hon; cases hon
   have he' : ¬ (yrS v s).2 = 0 := bne_iff_ne.1 he
   have e1 : errP v (s :: l.drop (i' + 1)) = (yrS v s).2 := by
    unfold errP
    rw [if_pos hon', if_neg he']
   rw [e1] at hq
   exact hq.1 he
  ·have hon' : s.2.1 = true := by
    cases hx : s.2.1 with
    | true => rfl
    | false => rw [hx] at hon; cases hon
   have he' : (yrS v s).2 = 0 := by
    have : ((yrS v s).2 != 0) = false := he
    simpa using this
   have hlen : (l.set i' (setY s (yrS v s).1)).length = l.length := List.length_set
   have hI : InvO (l.length : Int) ((i' + 1 : Nat) : Int) (l.set i' (setY s (yrS v s).1)) := ⟨by omega, by omega, by rw [hlen], by rw [hlen]; exact h2⟩
   refine ⟨hI, hμ, hI, ?_⟩
   have e1 : errP v (s :: l.drop (i' + 1)) = errP v (l.drop (i' + 1)) := by
    conv => lhs; unfold errP
    rw [if_pos hon', if_pos he']
   have e2 : priceV v s = setY s (yrS v s).1 := if_pos hon'
   rw [e1, List.map_cons, e2] at hq
   show (outO ((l.set i' (setY s (yrS v s).1)).take (i' + 1) ++ ((l.set i' (setY s (yrS v s).1)).drop (i' + 1)).map (priceV v)) (errP v ((l.set i' (setY s (yrS v s).1)).drop (i' + 1)))).satP Q
   have e3 : (l.set i' (setY s (yrS v s).1)).drop (i' + 1) = l.drop (i' + 1) := List.drop_set_of_lt (by omega)
   have e4 : (l.set i' (setY s (yrS v s).1)).take (i' + 1) = l.take i' ++ [setY s (yrS v s).1] := by
    rw [List.take_add_one, List.take_set_of_le (by omega)]
    simp [hlt]
   rw [e3, e4, List.append_assoc]
   exact hq
 ·have hge : ¬ i' < l.length := by have : ¬ (i' : Int) < (l.length : Int) := of_decide_eq_false hi; omega
  rw [List.drop_eq_nil_of_le (by omega), List.take_of_length_le (by omega)] at hq
  have hq' := hq.2 rfl
  simp only [List.map_nil, List.append_nil] at hq'
  exact hq'
theorem loopO : Does Try.prog (.loop (loopF Try.f19 0)) MO ptO FO := by
 refine Does.loop (n := 56) (id := 0) semO (inv := fun x => InvO x.1.1 x.1.2.1 x.2.1) (μ := fun x => ((x.1.1 : Int) - x.1.2.1).toNat) ?_ (fun x Q h => h.1)
 rintro ⟨⟨n, i, _⟩, l, v, _⟩ hinv Q hq
 exact lawO n i l v hinv Q hq.2
def frOf1 (v : verT.den) (l : List sliceT.den) : Fr (denL [slsT, i64]) :=
 Fr.need (InvO l.length 0 l) (Fr.br (errP v (l.drop (0 : Int).toNat) != 0) (Fr.val ([], errP v (l.drop (0 : Int).toNat), ())) (Fr.val (l.take (0 : Int).toNat ++ (l.drop (0 : Int).toNat).map (priceV v), 0, ())))
def goH (h : histT.den) : sliceT.den × List sliceT.den := goCut (((orderL h).drop (0 : Int).toNat).map (chAt h)) ((h.2.2.1.1.1, 0, ()), true, h.2.2.1.2.1, [] ++ h.2.2.1.2.2.1, 0, ()) []
def frOfF (x : denP [.d histT, .d tarT]) : Fr (denL [slsT, i64]) :=
 Fr.br (!(cHist.f (x.1, ())).1) (Fr.val ([], 1, ()))
  (Fr.need (fewT x.2.1)
   (Fr.br ((cTarAt.f (x.2.1, x.1.2.2.1.1.1, ())).2.1 != 0) (Fr.val ([], (cTarAt.f (x.2.1, x.1.2.2.1.1.1, ())).2.1, ()))
    (Fr.need (([] : List coverT.den).length + x.1.2.2.1.2.2.1.length <= maxLen /\ (([] : List coverT.den).length + x.1.2.2.1.2.2.1.length) * 40 <= 140737488355328)
     (Fr.need (((chL x.1).length : Int) <= 1000000)
      (Fr.need (InvC5 (orderL x.1) ((orderL x.1).length : Int) 0 x.1 [])
       (endT (goH x.1).1 (goH x.1).2 x.1.2.2.1.1.2.1 (frOf1 (cTarAt.f (x.2.1, x.1.2.2.1.1.1, ())).1)))))))
theorem of_run : SoundCt Try.prog 19 ⟨[.d histT, .d tarT], [slsT, i64], fun xs => (frOfF xs).get, fun xs => [(frOfF xs).ok]⟩ :=
 fn_sound COf_ok (Λ := fun _ => ptO.han COf.Γ MO FO) (fn := Try.f19) (fr := frOfF) (ps := [.d histT, .d tarT]) (rs := [slsT, i64]) (histT.dflt, tarT.dflt, ()) (by kernel_rfl)
  (fun c E hc => lam1f hc (by kernel_rfl) (b := loopF Try.f19 0) (by kernel_rfl) (Does.han COf_ok rfl loopO)) (fun x => by kernel_rfl)
def fewH (h : histT.den) : Prop := (chL h).length <= 500000 /\ h.2.2.1.2.2.1.length <= 1000000 /\ ∀ c ∈ chL h, c.2.2.2.2.1.length <= 1000000
def ofF (h : histT.den) (t : tarT.den) : List sliceT.den × Int :=
 if histB h = true then
  (if (verAt h.2.2.1.1.1 t.1.reverse).2 = 0 then
   (if errP (verAt h.2.2.1.1.1 t.1.reverse).1 (cutL h) = 0 then ((cutL h).map (priceV (verAt h.2.2.1.1.1 t.1.reverse).1), 0) else ([], errP (verAt h.2.2.1.1.1 t.1.reverse).1 (cutL h)))
  else ([], (verAt h.2.2.1.1.1 t.1.reverse).2))
 else ([], 1)
def cOf : Ct := ⟨[.d histT, .d tarT], [slsT, i64], fun x => ((ofF x.1 x.2.1).1, (ofF x.1 x.2.1).2, ()), fun x => [fewH x.1, fewT x.2.1]⟩
theorem orderL_length (h : histT.den) : (orderL h).length = (chL h).length := by
 unfold orderL
 rw [sortB_length, rangeI_length]
theorem orderL_mem {h : histT.den} {x : Int} (hx : x ∈ orderL h) : 0 <= x /\ x < ((chL h).length : Int) := rangeI_mem (sortB_mem.1 hx)
theorem goCut_length : (l : List changeT.den) -> (s : sliceT.den) -> (out : List sliceT.den) -> (goCut l s out).2.length <= out.length + l.length
 | [], _, _ => Nat.le_refl _
 | c :: l, s, out => by
  have h1 := goCut_length l (doesC ((c.2.1, s.1.2.1, ()), s.2) c) (endS s out c.2.1)
  have h2 := endS_length s out c.2.1
  simp only [goCut, List.length_cons]
  omega
theorem of_ok : SoundCt Try.prog 19 cOf :=
 convF of_run _ _ (fun w F x vs hr hok => by
  obtain ⟨h, t, _⟩ := x
  obtain ⟨⟨f1, f2, f3⟩, f4⟩ : fewH h /\ fewT t := hok
  show (frOfF (h, t, ())).ok /\ (frOfF (h, t, ())).get = ((ofF h t).1, (ofF h t).2, ())
  unfold ofF
  cases hh : histB h with
  | false =>
   refine Fr.br_t ?_ ⟨trivial, rfl⟩
   show (!(histB h)) = true
   rw [hh]
   rfl
  | true =>
   rw [if_pos rfl]
   refine Fr.br_f ?_ (Fr.need_ f4 ?_)
   ·show (!(histB h)) = false
    rw [hh]
    rfl
   ·by_cases hv : (verAt h.2.2.1.1.1 t.1.reverse).2 = 0
    ·rw [if_pos hv]
     refine Fr.br_f ?_ (Fr.need_ ?_ (Fr.need_ ?_ (Fr.need_ ?_ ?_)))
     ·show ((verAt h.2.2.1.1.1 t.1.reverse).2 != 0) = false
      rw [hv]
      rfl
     ·show ([] : List coverT.den).length + h.2.2.1.2.2.1.length <= maxLen /\ (([] : List coverT.den).length + h.2.2.1.2.2.1.length) * 40 <= 140737488355328
      simp only [List.length_nil, Nat.zero_add]
      exact ⟨by unfold maxLen; omega, by omega⟩
     ·show ((chL h).length : Int) <= 1000000
      omega
     ·show InvC5 (orderL h) ((orderL h).length : Int) 0 h []
      exact ⟨Int.le_refl _, Int.natCast_nonneg _, rfl, by rw [orderL_length]; exact f1, fun x hx => orderL_mem hx, f3, Int.le_refl _⟩
     ·have hgo : (goH h).2.length <= 500000 := by
       have := goCut_length (((orderL h).drop (0 : Int).toNat).map (chAt h)) ((h.2.2.1.1.1, 0, ()), true, h.2.2.1.2.1, [] ++ h.2.2.1.2.2.1, 0, ()) []
       have e : (((orderL h).drop (0 : Int).toNat).map (chAt h)).length = (chL h).length := by
        rw [List.length_map]
        exact orderL_length h
       rw [e] at this
       have h2 : (goH h).2.length <= 0 + (chL h).length := this
       omega
      have hcut : endS (goH h).1 (goH h).2 h.2.2.1.1.2.1 = cutL h := rfl
      have hclen : (cutL h).length <= 1000000 := by
       rw [← hcut]
       have := endS_length (goH h).1 (goH h).2 h.2.2.1.1.2.1
       omega
      have hkey : (frOf1 (verAt h.2.2.1.1.1 t.1.reverse).1 (cutL h)).ok /\ (frOf1 (verAt h.2.2.1.1.1 t.1.reverse).1 (cutL h)).get = ((if errP (verAt h.2.2.1.1.1 t.1.reverse).1 (cutL h) = 0 then ((cutL h).map (priceV (verAt h.2.2.1.1.1 t.1.reverse).1), (0 : Int)) else ([], errP (verAt h.2.2.1.1.1 t.1.reverse).1 (cutL h))).1, (if errP (verAt h.2.2.1.1.1 t.1.reverse).1 (cutL h) = 0 then ((cutL h).map (priceV (verAt h.2.2.1.1.1 t.1.reverse).1), (0 : Int)) else ([], errP (verAt h.2.2.1.1.1 t.1.reverse).1 (cutL h))).2, ()) := by
       refine Fr.need_ ⟨Int.le_refl _, Int.natCast_nonneg _, rfl, hclen⟩ ?_
       by_cases he : errP (verAt h.2.2.1.1.1 t.1.reverse).1 (cutL h) = 0
       ·rw [if_pos he]
        refine Fr.br_f ?_ ⟨trivial, rfl⟩
        show (errP (verAt h.2.2.1.1.1 t.1.reverse).1 (cutL h) != 0) = false
        rw [he]
        rfl
       ·rw [if_neg he]
        exact Fr.br_t (bne_iff_ne.2 he) ⟨trivial, rfl⟩
      have hs := endT_sat (s := (goH h).1) (out := (goH h).2) (day := h.2.2.1.1.2.1) (K := frOf1 (verAt h.2.2.1.1.1 t.1.reverse).1) (Q := fun y => y = ((if errP (verAt h.2.2.1.1.1 t.1.reverse).1 (cutL h) = 0 then ((cutL h).map (priceV (verAt h.2.2.1.1.1 t.1.reverse).1), (0 : Int)) else ([], errP (verAt h.2.2.1.1.1 t.1.reverse).1 (cutL h))).1, (if errP (verAt h.2.2.1.1.1 t.1.reverse).1 (cutL h) = 0 then ((cutL h).map (priceV (verAt h.2.2.1.1.1 t.1.reverse).1), (0 : Int)) else ([], errP (verAt h.2.2.1.1.1 t.1.reverse).1 (cutL h))).2, ())) (by omega) (by
       rw [hcut]
       exact Fr.satP_of hkey.1 hkey.2)
      exact Fr.satP_get hs
    ·rw [if_neg hv]
     refine Fr.br_t ?_ ⟨trivial, rfl⟩
     show ((verAt h.2.2.1.1.1 t.1.reverse).2 != 0) = true
     exact bne_iff_ne.2 hv)
def T0 : tarT.den := ([(1, (100, 100, 100, 100, ()), [], [10000], [10000, 10000, 10000, 10000, 10000, 10000, 10000, 10000], 0, ())], ())
def X0 : termsT.den := ((1, 101, ()), (0, 36500, 0, 0, ()), [(1, 1000, 1000, 0, 10000, ())], ())
def H0 : histT.den := (1, 1, X0, [(1, 41, 3, (0, 0, 0, 0, ()), [], 0, ()), (2, 61, 4, (0, 0, 0, 0, ()), [], 0, ())], ())
def cSome : Ct := ⟨[], [tarT, termsT], fun _ => (T0, X0, ()), fun _ => []⟩
theorem some_ok : SoundCt Try.prog 44 cSome :=
 convF (fn_sound CI17_ok (Λ := lam0) (fn := Try.f44) (fr := fun _ => Fr.val (T0, X0, ())) (ps := []) (rs := [tarT, termsT]) () (by kernel_rfl) (fun c E _ => lam0_ok c 0) (fun x => by kernel_rfl)) _ _ (fun _ _ _ _ _ _ => ⟨trivial, rfl⟩)
noncomputable def CAw : Cx := cx [(44, cSome), (19, cOf)] []
theorem CAw_ok : CxOK Try.prog CAw := cx_ok mixed ⟨some_ok, of_ok, trivial⟩ trivial
noncomputable def frAw (x : denP []) : Fr (denL [.bool]) := (runFn Try.prog CAw lam0 Try.f18 [] [.bool] x).getD (Fr.need False (Fr.val (false, ())))
theorem frAw_way : Fr.way (frAw ()) = Fr.need (fewH H0) (Fr.need (fewT T0)
 (Fr.need (true = true -> (0 : Int) <= 0 /\ (0 : Int) < ((3 : Nat) : Int)) (Fr.need (true = true -> (0 : Int) <= 0 /\ (0 : Int) < ((3 : Nat) : Int)) (Fr.need (true = true -> (0 : Int) <= 0 /\ (0 : Int) < ((3 : Nat) : Int))
  (Fr.need (true = true -> (0 : Int) <= 1 /\ (1 : Int) < ((3 : Nat) : Int)) (Fr.need (true = true -> (0 : Int) <= 1 /\ (1 : Int) < ((3 : Nat) : Int)) (Fr.need (true = true -> (0 : Int) <= 1 /\ (1 : Int) < ((3 : Nat) : Int))
   (Fr.need (true = true -> (0 : Int) <= 2 /\ (2 : Int) < ((3 : Nat) : Int)) (Fr.need (true = true -> (0 : Int) <= 2 /\ (2 : Int) < ((3 : Nat) : Int)) (Fr.val (true, ())))))))))))  := by kernel_rfl
def cYes : Ct := ⟨[], [.bool], fun _ => (true, ()), fun _ => []⟩
theorem fewH0 : fewH H0 := by
 refine ⟨by decide, by decide, fun c hc => ?_⟩
 simp only [chL, H0, List.mem_cons, List.not_mem_nil, or_false] at hc
 rcases hc with rfl | rfl <;> decide
theorem fewT0 : fewT T0 := by
 refine ⟨by decide, fun v hv => ?_⟩
 simp only [T0, List.mem_cons, List.not_mem_nil, or_false] at hv
 subst hv
 exact ⟨by decide, by decide, by decide⟩
theorem awake_ok : SoundCt Try.prog 18 cYes :=
 convF (fn_sound CAw_ok (Λ := lam0) (fn := Try.f18) (fr := frAw) (ps := []) (rs := [.bool]) () (by kernel_rfl) (fun c E _ => lam0_ok c 0) (fun x => by kernel_rfl)) _ _ (fun w F x vs _ _ => by
  have h0 : ((0 : Int) <= 0 /\ (0 : Int) < ((3 : Nat) : Int)) := by decide
  have h1 : ((0 : Int) <= 1 /\ (1 : Int) < ((3 : Nat) : Int)) := by decide
  have h2 : ((0 : Int) <= 2 /\ (2 : Int) < ((3 : Nat) : Int)) := by decide
  exact Fr.way_eq frAw_way ⟨fewH0, fewT0, fun _ => h0, fun _ => h0, fun _ => h0, fun _ => h1, fun _ => h1, fun _ => h1, fun _ => h2, fun _ => h2, trivial⟩)
theorem SortK.filter {α : Type} {key : α -> Int} {l : List α} (h : SortK key l) (p : α -> Bool) : SortK key (l.filter p) := List.Pairwise.sublist List.filter_sublist h
noncomputable def XiR1 : FuncId -> Option (Func × (Nat -> St -> Option Tr)) := envF [(81, (Try.f81, lam0))]
theorem XiR1_ok : ∀ f fn Λ, XiR1 f = some (fn, Λ) -> Try.prog.funcs[f]? = some fn /\ ∀ c E', fn.body = some c -> LamOK Try.prog E' Λ c 0 := fun f fn Λ h => by
 simp only [XiR1, envF] at h
 split at h
 ·rename_i hf
  subst hf
  cases h
  exact ⟨by kernel_rfl, fun c E' _ => lam0_ok c 0⟩
 ·cases h
noncomputable def CR0 : Cx := cx [(52, cVer)] []
theorem CR0_ok : CxOK Try.prog CR0 := cx_ok (ps := []) mixed ⟨tVer_ok, trivial⟩ trivial
noncomputable def CR1 : Cx := cxK [] [] (inlK Try.prog CR0 XiR1)
theorem CR1_ok : CxOK Try.prog CR1 := cxK_ok (cs := []) (ps := []) mixed trivial trivial (inlK_ok CR0_ok XiR1_ok)
abbrev pt_tidx : Pt := ⟨19, 0, ⟨[(8, .d i64), (7, .d i64), (0, .d (.sl verT))], [.x 3 3 i64, .g 1 81 [3]]⟩, ⟨[], []⟩, ⟨[(4, .d i64)], []⟩⟩
def fr_tidx (x : pt_tidx.M.X) : Fr pt_tidx.Out :=
 Fr.br (decide (x.1.1 < x.1.2.1)) (Fr.need (0 <= x.1.1 /\ x.1.1 < ((List.length x.1.2.2.1) : Int)) (Fr.br (bif decide ((List.getD x.1.2.2.1 (Int.toNat x.1.1) verT.dflt).1 <= x.2.1) then true else !(cVer.f (((List.getD x.1.2.2.1 (Int.toNat x.1.1) verT.dflt).1, ((List.getD x.1.2.2.1 (Int.toNat x.1.1) verT.dflt).2.1.1, (List.getD x.1.2.2.1 (Int.toNat x.1.1) verT.dflt).2.1.2.1, (List.getD x.1.2.2.1 (Int.toNat x.1.1) verT.dflt).2.1.2.2.1, (List.getD x.1.2.2.1 (Int.toNat x.1.1) verT.dflt).2.1.2.2.2.1, ()), (List.getD x.1.2.2.1 (Int.toNat x.1.1) verT.dflt).2.2.1, (List.getD x.1.2.2.1 (Int.toNat x.1.1) verT.dflt).2.2.2.1, (List.getD x.1.2.2.1 (Int.toNat x.1.1) verT.dflt).2.2.2.2.1, (List.getD x.1.2.2.1 (Int.toNat x.1.1) verT.dflt).2.2.2.2.2.1, ()), ())).1) (Fr.val (Rd.back ((x.1.1, ()), ()))) (Fr.val (Rd.next ((IntKind.i64.wrap (x.1.1 + 1), x.1.2.1, x.1.2.2.1, ()), (List.getD x.1.2.2.1 (Int.toNat x.1.1) verT.dflt).1, ()))))) (Fr.val (Rd.out ((), ())))
theorem sem_tidx : Does Try.prog (loopF Try.f114 0) pt_tidx.M pt_tidx fr_tidx :=
 Does.of_run CR1_ok (bs := 0) (Λ := lam0) rfl rfl rfl (fun E => lam0_ok _ 0) (fun x => by kernel_rfl)
abbrev st_tidx : Type := (denP [] × denM [.x 3 3 i64, .g 1 81 [3]]) × Int
def step_tidx (e : verT.den) (s : st_tidx) : Fr (st_tidx ⊕ pt_tidx.R.X) :=
 Fr.br (bif decide (e.1 <= s.1.2.1) then true else !(cVer.f ((e.1, (e.2.1.1, e.2.1.2.1, e.2.1.2.2.1, e.2.1.2.2.2.1, ()), e.2.2.1, e.2.2.2.1, e.2.2.2.2.1, e.2.2.2.2.2.1, ()), ())).1) (Fr.val (.inr ((s.2, ()), ()))) (Fr.val (.inl (((), e.1, ()), s.2 + 1)))
def un_tidx (x : pt_tidx.M.X) : Int × List verT.den × st_tidx := (x.1.1, x.1.2.2.1, (x.1.2.2.2, x.2), x.1.1)
def good_tidx (x : pt_tidx.M.X) : Prop := x.1.2.1 = (x.1.2.2.1.length : Int)
def out_tidx (s : st_tidx) : pt_tidx.E.X := ((), ())
def dS_tidx : st_tidx := ((dfP _, dfM _), 0)
def dR_tidx : pt_tidx.R.X := (dfP _, dfM _)
theorem loop_tidx : Does Try.prog (.loop (loopF Try.f114 0)) pt_tidx.M pt_tidx (FL step_tidx un_tidx good_tidx out_tidx Rd.back dS_tidx dR_tidx) := by
 refine Does.list sem_tidx step_tidx un_tidx good_tidx out_tidx Rd.back dS_tidx dR_tidx ?_ ?_
 ·rintro ⟨⟨i, n, l, s⟩, m⟩ hg h0 h1 hb e he Q h
  have hg : n = (l.length : Int) := hg
  subst hg
  have h0 : 0 <= i := h0
  have h1 : i < (l.length : Int) := h1
  have hb : (l.length : Int) <= 9223372036854775807 := hb
  have hd : l.getD i.toNat verT.dflt = e := getD_of he
  have hw := wrap_next h0 h1 hb
  dsimp only [un_tidx, step_tidx, fr_tidx, Fr.satP] at h ⊢
  simp only [hd, hw] at h ⊢
  refine ⟨fun _ => ?_, fun hn => absurd h1 (of_decide_eq_false hn)⟩
  repeat' first
   | exact h
   | exact ⟨h0, h1⟩
   | exact fun _ => ⟨h0, h1⟩
   | exact h _ rfl rfl
   | (refine ⟨fun hc => ?_, fun hc => ?_⟩ <;> first | replace h := h.1 hc | replace h := h.2 hc)
   | (refine ⟨h.1, ?_⟩; replace h := h.2)
   | refine ⟨⟨h0, h1⟩, ?_⟩
   | exact h.1
   | exact h.2.1
   | exact h.2.2.1
   | refine ⟨?_, ?_⟩
   | (intro (hc : _ = true); replace h := h.1 hc)
   | (intro (hc : _ = false); replace h := h.2 hc)
   | (replace h := h.2)
 ·rintro ⟨⟨i, n, l, s⟩, m⟩ hg h1 Q h
  have hg : n = (l.length : Int) := hg
  subst hg
  exact ⟨fun hn => absurd (of_decide_eq_true hn) h1, fun _ => h⟩
def badV (v : verT.den) (last : Int) : Bool := bif decide (v.1 <= last) then true else !(verB v)
def badGo : List verT.den -> Int -> Bool
 | [], _ => false
 | v :: l, last => badV v last || badGo l v.1
def badAt : List verT.den -> Int -> Nat
 | [], _ => 0
 | v :: l, last => if badV v last = true then 0 else badAt l v.1 + 1
def rightT (t : tarT.den) : Bool := decide (List.length (α := verT.den) t.1 <= 100) && !badGo t.1 0
theorem tidx_go : (l : List verT.den) -> (last i : Int) -> okL step_tidx l (((), (last, ())), i) /\ (badGo l last = true -> goL step_tidx l (((), (last, ())), i) = .inr ((i + badAt l last, ()), ())) /\ (badGo l last = false -> ∃ s, goL step_tidx l (((), (last, ())), i) = .inl s)
 | [], _, _ => ⟨trivial, fun h => (by cases h), fun _ => ⟨_, rfl⟩⟩
 | v :: l, last, i => by
  obtain ⟨h1, h2, h3⟩ := tidx_go l v.1 (i + 1)
  cases hb : badV v last
  ·have hg : (step_tidx v (((), (last, ())), i)).get = .inl (((), (v.1, ())), i + 1) := if_neg (by show ¬ badV v last = true; rw [hb]; decide)
   refine ⟨⟨⟨fun _ => trivial, fun _ => trivial⟩, by rw [hg]; exact h1⟩, fun h => ?_, fun h => ?_⟩
   ·have h' : badGo l v.1 = true := by
     unfold badGo at h
     rw [hb, Bool.false_or] at h
     exact h
    simp only [goL, hg, h2 h', badAt, hb, Bool.false_eq_true, if_false]
    have : i + 1 + (badAt l v.1 : Int) = i + ((badAt l v.1 + 1 : Nat) : Int) := by omega
    rw [this]
   ·have h' : badGo l v.1 = false := by
     unfold badGo at h
     rw [hb, Bool.false_or] at h
     exact h
    obtain ⟨s, hs⟩ := h3 h'
    exact ⟨s, by simp only [goL, hg, hs]⟩
  ·have hg : (step_tidx v (((), (last, ())), i)).get = .inr ((i, ()), ()) := if_pos (by show badV v last = true; exact hb)
   refine ⟨⟨⟨fun _ => trivial, fun _ => trivial⟩, by rw [hg]; trivial⟩, fun h => ?_, fun h => ?_⟩
   ·simp only [goL, hg, badAt, hb, if_true]
    simp
   ·unfold badGo at h
    rw [hb] at h
    cases h
structure InJ (i n : Int) (len : Nat) : Prop where
 i0 : i = 0
 nl : n = len
 big : (len : Int) <= 9223372036854775807
def FtJ (x : pt_tidx.M.X) : Fr pt_tidx.Out := Fr.need (InJ x.1.1 x.1.2.1 (List.length (α := verT.den) x.1.2.2.1))
 (Fr.br (badGo x.1.2.2.1 x.2.1) (Fr.val (Rd.back ((((badAt x.1.2.2.1 x.2.1 : Nat) : Int), ()), ()))) (Fr.val (Rd.out ((), ()))))
theorem loop_tJ : Does Try.prog (.loop (loopF Try.f114 0)) pt_tidx.M pt_tidx FtJ := Does.conv loop_tidx fun x Q h => by
 obtain ⟨⟨i, n, l, _⟩, last, _⟩ := x
 obtain ⟨⟨h1, h2, h3⟩, hq1, hq2⟩ := h
 have h1 : i = (0 : Int) := h1
 subst h1
 obtain ⟨k1, k2, k3⟩ := tidx_go l last 0
 refine ⟨⟨h2, Int.le_refl _, Int.natCast_nonneg _, h3⟩, ?_⟩
 show (Fr.need (okL step_tidx (List.drop (α := verT.den) 0 l) (((), (last, ())), 0)) (Fr.br (isL (goL step_tidx (List.drop (α := verT.den) 0 l) (((), (last, ())), 0))) (Fr.val (Rd.out (out_tidx (getL dS_tidx (goL step_tidx (List.drop (α := verT.den) 0 l) (((), (last, ())), 0))))))
  (Fr.val (Rd.up (Rd.back (getR dR_tidx (goL step_tidx (List.drop (α := verT.den) 0 l) (((), (last, ())), 0)))))))).satP Q
 rw [List.drop_zero]
 refine ⟨k1, fun hb => ?_, fun hb => ?_⟩
 ·cases hg : badGo l last
  ·exact hq2 hg
  ·rw [k2 hg] at hb
   cases hb
 ·cases hg : badGo l last
  ·obtain ⟨s, hs⟩ := k3 hg
   rw [hs] at hb
   cases hb
  ·rw [k2 hg]
   have := hq1 hg
   rw [Int.zero_add]
   exact this
noncomputable def XiR2 : FuncId -> Option (Func × (Nat -> St -> Option Tr)) := envF [(114, (Try.f114, fun _ => pt_tidx.han CR1.Γ pt_tidx.M FtJ))]
theorem XiR2_ok : ∀ f fn Λ, XiR2 f = some (fn, Λ) -> Try.prog.funcs[f]? = some fn /\ ∀ c E', fn.body = some c -> LamOK Try.prog E' Λ c 0 := fun f fn Λ h => by
 simp only [XiR2, envF] at h
 split at h
 ·rename_i hf
  subst hf
  cases h
  exact ⟨by kernel_rfl, fun c E' hc => lam1f hc (by kernel_rfl) (b := loopF Try.f114 0) (by kernel_rfl) (Does.han CR1_ok rfl loop_tJ)⟩
 ·cases h
noncomputable def CR2 : Cx := cxK [] [] (inlK Try.prog CR1 XiR2)
theorem CR2_ok : CxOK Try.prog CR2 := cxK_ok (cs := []) (ps := []) mixed trivial trivial (inlK_ok CR1_ok XiR2_ok)
noncomputable def XiR3 : FuncId -> Option (Func × (Nat -> St -> Option Tr)) := envF [(82, (Try.f82, lam0))]
theorem XiR3_ok : ∀ f fn Λ, XiR3 f = some (fn, Λ) -> Try.prog.funcs[f]? = some fn /\ ∀ c E', fn.body = some c -> LamOK Try.prog E' Λ c 0 := fun f fn Λ h => by
 simp only [XiR3, envF] at h
 split at h
 ·rename_i hf
  subst hf
  cases h
  exact ⟨by kernel_rfl, fun c E' _ => lam0_ok c 0⟩
 ·cases h
noncomputable def CR3 : Cx := cxK [] [] (inlK Try.prog CR2 XiR3)
theorem CR3_ok : CxOK Try.prog CR3 := cxK_ok (cs := []) (ps := []) mixed trivial trivial (inlK_ok CR2_ok XiR3_ok)
def frTRi (x : denP [.d tarT]) : Fr (denL [.bool]) :=
 let l : List verT.den := x.1.1
 Fr.br (decide (((List.length (α := verT.den) l : Nat) : Int) <= 100)) (Fr.need (InJ 0 ((List.length (α := verT.den) l : Nat) : Int) (List.length (α := verT.den) l))
   (Fr.br (badGo l 0) (Fr.val (!decide (((badAt l 0 : Nat) : Int) ≥ 0), ())) (Fr.val (!decide ((-1 : Int) ≥ 0), ()))))
  (Fr.val (false, ()))
def cTRi : Ct := ⟨[.d tarT], [.bool], fun x => (rightT x.1, ()), fun _ => []⟩
theorem tRi_ok : SoundCt Try.prog 51 cTRi :=
 convF (fn_sound CR3_ok (Λ := lam0) (fn := Try.f51) (fr := frTRi) (ps := [.d tarT]) (rs := [.bool]) (dfP _) (by kernel_rfl) (fun c E _ => lam0_ok c 0) (fun x => by kernel_rfl)) _ _ (fun w F x vs hr hok => by
  obtain ⟨t, _⟩ := x
  show (frTRi (t, ())).ok /\ (frTRi (t, ())).get = (rightT t, ())
  unfold rightT
  by_cases h : List.length (α := verT.den) t.1 <= 100
  ·rw [decide_eq_true h, Bool.true_and]
   refine Fr.br_t (decide_eq_true (show ((List.length (α := verT.den) t.1 : Nat) : Int) <= 100 by omega)) (Fr.need_ ⟨rfl, rfl, show ((List.length (α := verT.den) t.1 : Nat) : Int) <= 9223372036854775807 by omega⟩ ?_)
   cases hb : badGo t.1 0
   ·exact Fr.br_f rfl ⟨trivial, rfl⟩
   ·refine Fr.br_t rfl ⟨trivial, ?_⟩
    have : decide (((badAt t.1 0 : Nat) : Int) ≥ 0) = true := decide_eq_true (by omega)
    show (!decide (((badAt t.1 0 : Nat) : Int) ≥ 0), ()) = (!true, ())
    rw [this]
  ·rw [decide_eq_false h, Bool.false_and]
   exact Fr.br_f (decide_eq_false (show ¬ ((List.length (α := verT.den) t.1 : Nat) : Int) <= 100 by omega)) ⟨trivial, rfl⟩)
def midW (i j : Int) : Int := IntKind.i64.wrap ((IntKind.u64.wrap (IntKind.i64.wrap (i + j))).fdiv (2 ^ min (Int.toNat 1) IntKind.u64.bits))
theorem midW_eq {i j : Int} (h0 : 0 <= i) (h1 : i <= j) (h2 : j <= 1000000) : midW i j = (i + j) / 2 := by
 unfold midW
 rw [i64w (n := i + j) (by omega)]
 have e1 : IntKind.u64.wrap (i + j) = i + j := by rw [IntKind.wrap_u64]; omega
 have e2 : ((2 : Int) ^ min (Int.toNat 1) IntKind.u64.bits) = 2 := by decide
 rw [e1, e2, Int.fdiv_eq_ediv_of_nonneg _ (by omega), i64w (by omega)]
def bsGo (p : Int -> Bool) : Nat -> Int -> Int -> Int
 | 0, i, _ => i
 | n + 1, i, j => if i < j then (bif p ((i + j) / 2) then bsGo p n ((i + j) / 2 + 1) j else bsGo p n i ((i + j) / 2)) else i
theorem bsGo_in (p : Int -> Bool) : (n : Nat) -> (i j : Int) -> i <= j -> i <= bsGo p n i j /\ bsGo p n i j <= j
 | 0, i, j, h => ⟨Int.le_refl _, h⟩
 | n + 1, i, j, h => by
  unfold bsGo
  by_cases h1 : i < j
  ·rw [if_pos h1]
   cases hp : p ((i + j) / 2)
   ·have := bsGo_in p n i ((i + j) / 2) (by omega)
    simp only [cond_false]
    omega
   ·have := bsGo_in p n ((i + j) / 2 + 1) j (by omega)
    simp only [cond_true]
    omega
  ·rw [if_neg h1]
   omega
theorem bs_fuel (p : Int -> Bool) : (n m : Nat) -> (i j : Int) -> (j - i).toNat <= n -> (j - i).toNat <= m -> bsGo p n i j = bsGo p m i j
 | 0, 0, _, _, _, _ => rfl
 | 0, m + 1, i, j, h, _ => by
  have : ¬ i < j := by omega
  simp only [bsGo, if_neg this]
 | n + 1, 0, i, j, _, h => by
  have : ¬ i < j := by omega
  simp only [bsGo, if_neg this]
 | n + 1, m + 1, i, j, h, k => by
  unfold bsGo
  by_cases h1 : i < j
  ·rw [if_pos h1, if_pos h1, bs_fuel p n m ((i + j) / 2 + 1) j (by omega) (by omega), bs_fuel p n m i ((i + j) / 2) (by omega) (by omega)]
  ·rw [if_neg h1, if_neg h1]
abbrev cmpV : PT := .fn [verT, i64] [i64]
noncomputable def CBs : Cx := cx [] []
theorem CBs_ok : CxOK Try.prog CBs := cx_ok (cs := []) (ps := []) mixed trivial trivial
abbrev ptBs : Pt := ⟨49, 0, ⟨[(9, .d i64), (10, .d i64), (0, .d (.sl verT)), (1, .d i64), (2, cmpV), (8, .d i64)], []⟩, ⟨[(9, .d i64), (0, .d (.sl verT)), (1, .d i64), (2, cmpV), (8, .d i64)], []⟩, ⟨[], []⟩⟩
def lowP (l : List verT.den) (t : Int) (g : cmpV.den) (h : Int) : Bool := decide ((g (l.getD h.toNat verT.dflt, t, ())).1 < (0 : Int))
def frBs (x : ptBs.M.X) : Fr ptBs.Out :=
 let i : Int := x.1.1; let j : Int := x.1.2.1; let l : List verT.den := x.1.2.2.1; let t : Int := x.1.2.2.2.1; let g : cmpV.den := x.1.2.2.2.2.1; let n : Int := x.1.2.2.2.2.2.1
 Fr.br (decide (i < j)) (Fr.need (¬ (1 : Int) < 0) (Fr.need (0 <= midW i j /\ midW i j < ((List.length (α := verT.den) l : Nat) : Int))
   (Fr.br (lowP l t g (midW i j)) (Fr.val (Rd.next ((IntKind.i64.wrap (midW i j + 1), j, l, t, g, n, ()), ()))) (Fr.val (Rd.next ((i, midW i j, l, t, g, n, ()), ()))))))
  (Fr.val (Rd.out ((i, l, t, g, n, ()), ())))
theorem semBs : Does Try.prog (loopF Try.f53 0) ptBs.M ptBs frBs :=
 Does.of_run CBs_ok (bs := 0) (Λ := lam0) rfl rfl rfl (fun E => lam0_ok _ 0) (fun x => by kernel_rfl)
structure InBs (i j : Int) (len : Nat) : Prop where
 i0 : 0 <= i
 ij : i <= j
 jl : j <= len
 big : len <= 1000000
def FBs (x : ptBs.M.X) : Fr ptBs.Out := Fr.need (InBs x.1.1 x.1.2.1 (List.length (α := verT.den) x.1.2.2.1))
 (Fr.val (Rd.out ((bsGo (lowP x.1.2.2.1 x.1.2.2.2.1 x.1.2.2.2.2.1) (x.1.2.1 - x.1.1).toNat x.1.1 x.1.2.1, x.1.2.2), ())))
theorem lawBs (i j : Int) (l : List verT.den) (t : Int) (g : cmpV.den) (n : Int) (hinv : InBs i j l.length) (Q : ptBs.Out -> Prop) (hq : Q (Rd.out ((bsGo (lowP l t g) (j - i).toNat i j, l, t, g, n, ()), ()))) : (frBs ((i, j, l, t, g, n, ()), ())).satP fun
   | .next x' => InBs x'.1.1 x'.1.2.1 (List.length (α := verT.den) x'.1.2.2.1) /\ ((x'.1.2.1 : Int) - x'.1.1).toNat < (j - i).toNat /\ (FBs x').satP Q
   | .out y => Q (.out y)
   | .back z => Q (.back z)
   | .pan p => Q (.pan p) := by
 obtain ⟨h0, h1, h2, h3⟩ := hinv
 have hm := midW_eq h0 h1 (show j <= 1000000 by omega)
 dsimp only [frBs, Fr.satP]
 rw [hm]
 refine ⟨fun hi => ?_, fun hi => ?_⟩
 ·have hij : i < j := of_decide_eq_true hi
  obtain ⟨k, hk⟩ : ∃ k, (j - i).toNat = k + 1 := ⟨(j - i).toNat - 1, by omega⟩
  have e : bsGo (lowP l t g) (j - i).toNat i j = bif lowP l t g ((i + j) / 2) then bsGo (lowP l t g) k ((i + j) / 2 + 1) j else bsGo (lowP l t g) k i ((i + j) / 2) := by
   rw [hk]
   exact if_pos hij
  rw [e] at hq
  refine ⟨by decide, ⟨by omega, by omega⟩, fun hb => ?_, fun hb => ?_⟩
  ·rw [hb] at hq
   have w1 : IntKind.i64.wrap ((i + j) / 2 + 1) = (i + j) / 2 + 1 := i64w (by omega)
   have hI : InBs ((i + j) / 2 + 1) j l.length := ⟨by omega, by omega, h2, h3⟩
   rw [w1]
   refine ⟨hI, by omega, hI, ?_⟩
   show Q (Rd.out ((bsGo (lowP l t g) (j - ((i + j) / 2 + 1)).toNat ((i + j) / 2 + 1) j, l, t, g, n, ()), ()))
   rw [bs_fuel (lowP l t g) _ k _ _ (Nat.le_refl _) (by omega)]
   exact hq
  ·rw [hb] at hq
   have hI : InBs i ((i + j) / 2) l.length := ⟨by omega, by omega, by omega, h3⟩
   refine ⟨hI, by omega, hI, ?_⟩
   show Q (Rd.out ((bsGo (lowP l t g) ((i + j) / 2 - i).toNat i ((i + j) / 2), l, t, g, n, ()), ()))
   rw [bs_fuel (lowP l t g) _ k _ _ (Nat.le_refl _) (by omega)]
   exact hq
 ·have hij : ¬ i < j := of_decide_eq_false hi
  have e : (j - i).toNat = 0 := by omega
  rw [e] at hq
  exact hq
theorem loopBs : Does Try.prog (.loop (loopF Try.f53 0)) ptBs.M ptBs FBs := by
 refine Does.loop (n := 49) (id := 0) semBs (inv := fun x => InBs x.1.1 x.1.2.1 (List.length (α := verT.den) x.1.2.2.1)) (μ := fun x => ((x.1.2.1 : Int) - x.1.1).toNat) ?_ (fun x Q h => h.1)
 rintro ⟨⟨i, j, l, t, g, n, _⟩, z⟩ hinv Q hq
 exact lawBs i j l t g n hinv Q hq.2
def whereB (l : List verT.den) (t : Int) (g : cmpV.den) : Int := bsGo (lowP l t g) ((List.length (α := verT.den) l : Nat) : Int).toNat 0 ((List.length (α := verT.den) l : Nat) : Int)
def thereB (l : List verT.den) (t : Int) (g : cmpV.den) : Bool := bif decide (whereB l t g < ((List.length (α := verT.den) l : Nat) : Int)) then ((g (l.getD (whereB l t g).toNat verT.dflt, t, ())).1 : Int) == 0 else false
def frBf (x : denP [.d (.sl verT), .d i64, cmpV]) : Fr (denL [i64, .bool]) :=
 let l : List verT.den := x.1; let t : Int := x.2.1; let g : cmpV.den := x.2.2.1
 Fr.need (InBs 0 ((List.length (α := verT.den) l : Nat) : Int) (List.length (α := verT.den) l))
  (Fr.need (decide (whereB l t g < ((List.length (α := verT.den) l : Nat) : Int)) = true -> 0 <= whereB l t g /\ whereB l t g < ((List.length (α := verT.den) l : Nat) : Int))
   (Fr.val (whereB l t g, thereB l t g, ())))
def cBf : Ct := ⟨[.d (.sl verT), .d i64, cmpV], [i64, .bool], fun x => (whereB x.1 x.2.1 x.2.2.1, thereB x.1 x.2.1 x.2.2.1, ()), fun x => [List.length (α := verT.den) x.1 <= 1000000]⟩
theorem where_in (l : List verT.den) (t : Int) (g : cmpV.den) : 0 <= whereB l t g /\ whereB l t g <= ((List.length (α := verT.den) l : Nat) : Int) := bsGo_in _ _ 0 _ (Int.natCast_nonneg _)
theorem bf_ok : SoundCt Try.prog 53 cBf :=
 convF (fn_sound CBs_ok (Λ := fun _ => ptBs.han CBs.Γ ptBs.M FBs) (fn := Try.f53) (fr := frBf) (ps := [.d (.sl verT), .d i64, cmpV]) (rs := [i64, .bool]) (dfP _) (by kernel_rfl)
  (fun c E hc => lam1f hc (by kernel_rfl) (b := loopF Try.f53 0) (by kernel_rfl) (Does.han CBs_ok rfl loopBs)) (fun x => by kernel_rfl)) _ _ (fun w F x vs hr hok => by
  obtain ⟨l, t, g, _⟩ := x
  exact Fr.need_ ⟨Int.le_refl _, Int.natCast_nonneg _, Int.le_refl _, hok⟩ (Fr.need_ (fun h => ⟨(where_in l t g).1, of_decide_eq_true h⟩) ⟨trivial, rfl⟩))
def cCmpV : Ct := ⟨[.d verT, .d i64], [i64], fun x => (IntKind.i64.wrap (x.1.1 - x.2.1), ()), fun _ => []⟩
theorem cmpV_ok : SoundCt Try.prog 54 cCmpV :=
 convF (fn_sound CBs_ok (Λ := lam0) (fn := Try.f54) (fr := fun x => Fr.val (IntKind.i64.wrap (x.1.1 - x.2.1), ())) (ps := [.d verT, .d i64]) (rs := [i64]) (dfP _) (by kernel_rfl) (fun c E _ => lam0_ok c 0) (fun x => by kernel_rfl)) _ _ (fun w F x vs hr hok => ⟨trivial, rfl⟩)
noncomputable def CPu : Cx := cxR [(51, cTRi), (52, cVer), (53, cBf), (54, cCmpV), (48, cOwn)] []
 [(56, .clone 62 verT 120), (55, .ins 62 verT 120)] (fun _ _ _ _ => none)
theorem CPu_ok : CxOK Try.prog CPu := cxR_ok (ps := []) mixed ⟨tRi_ok, tVer_ok, bf_ok, cmpV_ok, own_ok, trivial⟩ trivial ⟨cloneRV_ok, insV_ok, trivial⟩ (fun _ _ _ _ _ h => (nomatch h))
abbrev pt_put : Pt := ⟨57, 1, ⟨[(45, .d i64), (44, .d i64), (43, .d (.sl verT))], [.o 8 62 verT, .x 4 38 tarT, .r 4 4 0]⟩, ⟨[], [.o 8 62 verT, .x 4 38 tarT, .r 4 4 0]⟩, ⟨[], []⟩⟩
def fr_put (x : pt_put.M.X) : Fr pt_put.Out :=
 Fr.br (decide (x.1.1 < x.1.2.1)) (Fr.need (0 <= x.1.1 /\ x.1.1 < ((List.length x.1.2.2.1) : Int)) (Fr.need (verFew ((List.getD x.1.2.2.1 (Int.toNat x.1.1) verT.dflt).1, ((List.getD x.1.2.2.1 (Int.toNat x.1.1) verT.dflt).2.1.1, (List.getD x.1.2.2.1 (Int.toNat x.1.1) verT.dflt).2.1.2.1, (List.getD x.1.2.2.1 (Int.toNat x.1.1) verT.dflt).2.1.2.2.1, (List.getD x.1.2.2.1 (Int.toNat x.1.1) verT.dflt).2.1.2.2.2.1, ()), (List.getD x.1.2.2.1 (Int.toNat x.1.1) verT.dflt).2.2.1, (List.getD x.1.2.2.1 (Int.toNat x.1.1) verT.dflt).2.2.2.1, (List.getD x.1.2.2.1 (Int.toNat x.1.1) verT.dflt).2.2.2.2.1, (List.getD x.1.2.2.1 (Int.toNat x.1.1) verT.dflt).2.2.2.2.2.1, ())) (Fr.need (x.2.1.length + [((cOwn.f (((List.getD x.1.2.2.1 (Int.toNat x.1.1) verT.dflt).1, ((List.getD x.1.2.2.1 (Int.toNat x.1.1) verT.dflt).2.1.1, (List.getD x.1.2.2.1 (Int.toNat x.1.1) verT.dflt).2.1.2.1, (List.getD x.1.2.2.1 (Int.toNat x.1.1) verT.dflt).2.1.2.2.1, (List.getD x.1.2.2.1 (Int.toNat x.1.1) verT.dflt).2.1.2.2.2.1, ()), (List.getD x.1.2.2.1 (Int.toNat x.1.1) verT.dflt).2.2.1, (List.getD x.1.2.2.1 (Int.toNat x.1.1) verT.dflt).2.2.2.1, (List.getD x.1.2.2.1 (Int.toNat x.1.1) verT.dflt).2.2.2.2.1, (List.getD x.1.2.2.1 (Int.toNat x.1.1) verT.dflt).2.2.2.2.2.1, ()), ())).1.1, ((cOwn.f (((List.getD x.1.2.2.1 (Int.toNat x.1.1) verT.dflt).1, ((List.getD x.1.2.2.1 (Int.toNat x.1.1) verT.dflt).2.1.1, (List.getD x.1.2.2.1 (Int.toNat x.1.1) verT.dflt).2.1.2.1, (List.getD x.1.2.2.1 (Int.toNat x.1.1) verT.dflt).2.1.2.2.1, (List.getD x.1.2.2.1 (Int.toNat x.1.1) verT.dflt).2.1.2.2.2.1, ()), (List.getD x.1.2.2.1 (Int.toNat x.1.1) verT.dflt).2.2.1, (List.getD x.1.2.2.1 (Int.toNat x.1.1) verT.dflt).2.2.2.1, (List.getD x.1.2.2.1 (Int.toNat x.1.1) verT.dflt).2.2.2.2.1, (List.getD x.1.2.2.1 (Int.toNat x.1.1) verT.dflt).2.2.2.2.2.1, ()), ())).1.2.1.1, (cOwn.f (((List.getD x.1.2.2.1 (Int.toNat x.1.1) verT.dflt).1, ((List.getD x.1.2.2.1 (Int.toNat x.1.1) verT.dflt).2.1.1, (List.getD x.1.2.2.1 (Int.toNat x.1.1) verT.dflt).2.1.2.1, (List.getD x.1.2.2.1 (Int.toNat x.1.1) verT.dflt).2.1.2.2.1, (List.getD x.1.2.2.1 (Int.toNat x.1.1) verT.dflt).2.1.2.2.2.1, ()), (List.getD x.1.2.2.1 (Int.toNat x.1.1) verT.dflt).2.2.1, (List.getD x.1.2.2.1 (Int.toNat x.1.1) verT.dflt).2.2.2.1, (List.getD x.1.2.2.1 (Int.toNat x.1.1) verT.dflt).2.2.2.2.1, (List.getD x.1.2.2.1 (Int.toNat x.1.1) verT.dflt).2.2.2.2.2.1, ()), ())).1.2.1.2.1, (cOwn.f (((List.getD x.1.2.2.1 (Int.toNat x.1.1) verT.dflt).1, ((List.getD x.1.2.2.1 (Int.toNat x.1.1) verT.dflt).2.1.1, (List.getD x.1.2.2.1 (Int.toNat x.1.1) verT.dflt).2.1.2.1, (List.getD x.1.2.2.1 (Int.toNat x.1.1) verT.dflt).2.1.2.2.1, (List.getD x.1.2.2.1 (Int.toNat x.1.1) verT.dflt).2.1.2.2.2.1, ()), (List.getD x.1.2.2.1 (Int.toNat x.1.1) verT.dflt).2.2.1, (List.getD x.1.2.2.1 (Int.toNat x.1.1) verT.dflt).2.2.2.1, (List.getD x.1.2.2.1 (Int.toNat x.1.1) verT.dflt).2.2.2.2.1, (List.getD x.1.2.2.1 (Int.toNat x.1.1) verT.dflt).2.2.2.2.2.1, ()), ())).1.2.1.2.2.1, (cOwn.f (((List.getD x.1.2.2.1 (Int.toNat x.1.1) verT.dflt).1, ((List.getD x.1.2.2.1 (Int.toNat x.1.1) verT.dflt).2.1.1, (List.getD x.1.2.2.1 (Int.toNat x.1.1) verT.dflt).2.1.2.1, (List.getD x.1.2.2.1 (Int.toNat x.1.1) verT.dflt).2.1.2.2.1, (List.getD x.1.2.2.1 (Int.toNat x.1.1) verT.dflt).2.1.2.2.2.1, ()), (List.getD x.1.2.2.1 (Int.toNat x.1.1) verT.dflt).2.2.1, (List.getD x.1.2.2.1 (Int.toNat x.1.1) verT.dflt).2.2.2.1, (List.getD x.1.2.2.1 (Int.toNat x.1.1) verT.dflt).2.2.2.2.1, (List.getD x.1.2.2.1 (Int.toNat x.1.1) verT.dflt).2.2.2.2.2.1, ()), ())).1.2.1.2.2.2.1, ()), (cOwn.f (((List.getD x.1.2.2.1 (Int.toNat x.1.1) verT.dflt).1, ((List.getD x.1.2.2.1 (Int.toNat x.1.1) verT.dflt).2.1.1, (List.getD x.1.2.2.1 (Int.toNat x.1.1) verT.dflt).2.1.2.1, (List.getD x.1.2.2.1 (Int.toNat x.1.1) verT.dflt).2.1.2.2.1, (List.getD x.1.2.2.1 (Int.toNat x.1.1) verT.dflt).2.1.2.2.2.1, ()), (List.getD x.1.2.2.1 (Int.toNat x.1.1) verT.dflt).2.2.1, (List.getD x.1.2.2.1 (Int.toNat x.1.1) verT.dflt).2.2.2.1, (List.getD x.1.2.2.1 (Int.toNat x.1.1) verT.dflt).2.2.2.2.1, (List.getD x.1.2.2.1 (Int.toNat x.1.1) verT.dflt).2.2.2.2.2.1, ()), ())).1.2.2.1, (cOwn.f (((List.getD x.1.2.2.1 (Int.toNat x.1.1) verT.dflt).1, ((List.getD x.1.2.2.1 (Int.toNat x.1.1) verT.dflt).2.1.1, (List.getD x.1.2.2.1 (Int.toNat x.1.1) verT.dflt).2.1.2.1, (List.getD x.1.2.2.1 (Int.toNat x.1.1) verT.dflt).2.1.2.2.1, (List.getD x.1.2.2.1 (Int.toNat x.1.1) verT.dflt).2.1.2.2.2.1, ()), (List.getD x.1.2.2.1 (Int.toNat x.1.1) verT.dflt).2.2.1, (List.getD x.1.2.2.1 (Int.toNat x.1.1) verT.dflt).2.2.2.1, (List.getD x.1.2.2.1 (Int.toNat x.1.1) verT.dflt).2.2.2.2.1, (List.getD x.1.2.2.1 (Int.toNat x.1.1) verT.dflt).2.2.2.2.2.1, ()), ())).1.2.2.2.1, (cOwn.f (((List.getD x.1.2.2.1 (Int.toNat x.1.1) verT.dflt).1, ((List.getD x.1.2.2.1 (Int.toNat x.1.1) verT.dflt).2.1.1, (List.getD x.1.2.2.1 (Int.toNat x.1.1) verT.dflt).2.1.2.1, (List.getD x.1.2.2.1 (Int.toNat x.1.1) verT.dflt).2.1.2.2.1, (List.getD x.1.2.2.1 (Int.toNat x.1.1) verT.dflt).2.1.2.2.2.1, ()), (List.getD x.1.2.2.1 (Int.toNat x.1.1) verT.dflt).2.2.1, (List.getD x.1.2.2.1 (Int.toNat x.1.1) verT.dflt).2.2.2.1, (List.getD x.1.2.2.1 (Int.toNat x.1.1) verT.dflt).2.2.2.2.1, (List.getD x.1.2.2.1 (Int.toNat x.1.1) verT.dflt).2.2.2.2.2.1, ()), ())).1.2.2.2.2.1, (cOwn.f (((List.getD x.1.2.2.1 (Int.toNat x.1.1) verT.dflt).1, ((List.getD x.1.2.2.1 (Int.toNat x.1.1) verT.dflt).2.1.1, (List.getD x.1.2.2.1 (Int.toNat x.1.1) verT.dflt).2.1.2.1, (List.getD x.1.2.2.1 (Int.toNat x.1.1) verT.dflt).2.1.2.2.1, (List.getD x.1.2.2.1 (Int.toNat x.1.1) verT.dflt).2.1.2.2.2.1, ()), (List.getD x.1.2.2.1 (Int.toNat x.1.1) verT.dflt).2.2.1, (List.getD x.1.2.2.1 (Int.toNat x.1.1) verT.dflt).2.2.2.1, (List.getD x.1.2.2.1 (Int.toNat x.1.1) verT.dflt).2.2.2.2.1, (List.getD x.1.2.2.1 (Int.toNat x.1.1) verT.dflt).2.2.2.2.2.1, ()), ())).1.2.2.2.2.2.1, ())].length <= maxLen /\ (x.2.1.length + [((cOwn.f (((List.getD x.1.2.2.1 (Int.toNat x.1.1) verT.dflt).1, ((List.getD x.1.2.2.1 (Int.toNat x.1.1) verT.dflt).2.1.1, (List.getD x.1.2.2.1 (Int.toNat x.1.1) verT.dflt).2.1.2.1, (List.getD x.1.2.2.1 (Int.toNat x.1.1) verT.dflt).2.1.2.2.1, (List.getD x.1.2.2.1 (Int.toNat x.1.1) verT.dflt).2.1.2.2.2.1, ()), (List.getD x.1.2.2.1 (Int.toNat x.1.1) verT.dflt).2.2.1, (List.getD x.1.2.2.1 (Int.toNat x.1.1) verT.dflt).2.2.2.1, (List.getD x.1.2.2.1 (Int.toNat x.1.1) verT.dflt).2.2.2.2.1, (List.getD x.1.2.2.1 (Int.toNat x.1.1) verT.dflt).2.2.2.2.2.1, ()), ())).1.1, ((cOwn.f (((List.getD x.1.2.2.1 (Int.toNat x.1.1) verT.dflt).1, ((List.getD x.1.2.2.1 (Int.toNat x.1.1) verT.dflt).2.1.1, (List.getD x.1.2.2.1 (Int.toNat x.1.1) verT.dflt).2.1.2.1, (List.getD x.1.2.2.1 (Int.toNat x.1.1) verT.dflt).2.1.2.2.1, (List.getD x.1.2.2.1 (Int.toNat x.1.1) verT.dflt).2.1.2.2.2.1, ()), (List.getD x.1.2.2.1 (Int.toNat x.1.1) verT.dflt).2.2.1, (List.getD x.1.2.2.1 (Int.toNat x.1.1) verT.dflt).2.2.2.1, (List.getD x.1.2.2.1 (Int.toNat x.1.1) verT.dflt).2.2.2.2.1, (List.getD x.1.2.2.1 (Int.toNat x.1.1) verT.dflt).2.2.2.2.2.1, ()), ())).1.2.1.1, (cOwn.f (((List.getD x.1.2.2.1 (Int.toNat x.1.1) verT.dflt).1, ((List.getD x.1.2.2.1 (Int.toNat x.1.1) verT.dflt).2.1.1, (List.getD x.1.2.2.1 (Int.toNat x.1.1) verT.dflt).2.1.2.1, (List.getD x.1.2.2.1 (Int.toNat x.1.1) verT.dflt).2.1.2.2.1, (List.getD x.1.2.2.1 (Int.toNat x.1.1) verT.dflt).2.1.2.2.2.1, ()), (List.getD x.1.2.2.1 (Int.toNat x.1.1) verT.dflt).2.2.1, (List.getD x.1.2.2.1 (Int.toNat x.1.1) verT.dflt).2.2.2.1, (List.getD x.1.2.2.1 (Int.toNat x.1.1) verT.dflt).2.2.2.2.1, (List.getD x.1.2.2.1 (Int.toNat x.1.1) verT.dflt).2.2.2.2.2.1, ()), ())).1.2.1.2.1, (cOwn.f (((List.getD x.1.2.2.1 (Int.toNat x.1.1) verT.dflt).1, ((List.getD x.1.2.2.1 (Int.toNat x.1.1) verT.dflt).2.1.1, (List.getD x.1.2.2.1 (Int.toNat x.1.1) verT.dflt).2.1.2.1, (List.getD x.1.2.2.1 (Int.toNat x.1.1) verT.dflt).2.1.2.2.1, (List.getD x.1.2.2.1 (Int.toNat x.1.1) verT.dflt).2.1.2.2.2.1, ()), (List.getD x.1.2.2.1 (Int.toNat x.1.1) verT.dflt).2.2.1, (List.getD x.1.2.2.1 (Int.toNat x.1.1) verT.dflt).2.2.2.1, (List.getD x.1.2.2.1 (Int.toNat x.1.1) verT.dflt).2.2.2.2.1, (List.getD x.1.2.2.1 (Int.toNat x.1.1) verT.dflt).2.2.2.2.2.1, ()), ())).1.2.1.2.2.1, (cOwn.f (((List.getD x.1.2.2.1 (Int.toNat x.1.1) verT.dflt).1, ((List.getD x.1.2.2.1 (Int.toNat x.1.1) verT.dflt).2.1.1, (List.getD x.1.2.2.1 (Int.toNat x.1.1) verT.dflt).2.1.2.1, (List.getD x.1.2.2.1 (Int.toNat x.1.1) verT.dflt).2.1.2.2.1, (List.getD x.1.2.2.1 (Int.toNat x.1.1) verT.dflt).2.1.2.2.2.1, ()), (List.getD x.1.2.2.1 (Int.toNat x.1.1) verT.dflt).2.2.1, (List.getD x.1.2.2.1 (Int.toNat x.1.1) verT.dflt).2.2.2.1, (List.getD x.1.2.2.1 (Int.toNat x.1.1) verT.dflt).2.2.2.2.1, (List.getD x.1.2.2.1 (Int.toNat x.1.1) verT.dflt).2.2.2.2.2.1, ()), ())).1.2.1.2.2.2.1, ()), (cOwn.f (((List.getD x.1.2.2.1 (Int.toNat x.1.1) verT.dflt).1, ((List.getD x.1.2.2.1 (Int.toNat x.1.1) verT.dflt).2.1.1, (List.getD x.1.2.2.1 (Int.toNat x.1.1) verT.dflt).2.1.2.1, (List.getD x.1.2.2.1 (Int.toNat x.1.1) verT.dflt).2.1.2.2.1, (List.getD x.1.2.2.1 (Int.toNat x.1.1) verT.dflt).2.1.2.2.2.1, ()), (List.getD x.1.2.2.1 (Int.toNat x.1.1) verT.dflt).2.2.1, (List.getD x.1.2.2.1 (Int.toNat x.1.1) verT.dflt).2.2.2.1, (List.getD x.1.2.2.1 (Int.toNat x.1.1) verT.dflt).2.2.2.2.1, (List.getD x.1.2.2.1 (Int.toNat x.1.1) verT.dflt).2.2.2.2.2.1, ()), ())).1.2.2.1, (cOwn.f (((List.getD x.1.2.2.1 (Int.toNat x.1.1) verT.dflt).1, ((List.getD x.1.2.2.1 (Int.toNat x.1.1) verT.dflt).2.1.1, (List.getD x.1.2.2.1 (Int.toNat x.1.1) verT.dflt).2.1.2.1, (List.getD x.1.2.2.1 (Int.toNat x.1.1) verT.dflt).2.1.2.2.1, (List.getD x.1.2.2.1 (Int.toNat x.1.1) verT.dflt).2.1.2.2.2.1, ()), (List.getD x.1.2.2.1 (Int.toNat x.1.1) verT.dflt).2.2.1, (List.getD x.1.2.2.1 (Int.toNat x.1.1) verT.dflt).2.2.2.1, (List.getD x.1.2.2.1 (Int.toNat x.1.1) verT.dflt).2.2.2.2.1, (List.getD x.1.2.2.1 (Int.toNat x.1.1) verT.dflt).2.2.2.2.2.1, ()), ())).1.2.2.2.1, (cOwn.f (((List.getD x.1.2.2.1 (Int.toNat x.1.1) verT.dflt).1, ((List.getD x.1.2.2.1 (Int.toNat x.1.1) verT.dflt).2.1.1, (List.getD x.1.2.2.1 (Int.toNat x.1.1) verT.dflt).2.1.2.1, (List.getD x.1.2.2.1 (Int.toNat x.1.1) verT.dflt).2.1.2.2.1, (List.getD x.1.2.2.1 (Int.toNat x.1.1) verT.dflt).2.1.2.2.2.1, ()), (List.getD x.1.2.2.1 (Int.toNat x.1.1) verT.dflt).2.2.1, (List.getD x.1.2.2.1 (Int.toNat x.1.1) verT.dflt).2.2.2.1, (List.getD x.1.2.2.1 (Int.toNat x.1.1) verT.dflt).2.2.2.2.1, (List.getD x.1.2.2.1 (Int.toNat x.1.1) verT.dflt).2.2.2.2.2.1, ()), ())).1.2.2.2.2.1, (cOwn.f (((List.getD x.1.2.2.1 (Int.toNat x.1.1) verT.dflt).1, ((List.getD x.1.2.2.1 (Int.toNat x.1.1) verT.dflt).2.1.1, (List.getD x.1.2.2.1 (Int.toNat x.1.1) verT.dflt).2.1.2.1, (List.getD x.1.2.2.1 (Int.toNat x.1.1) verT.dflt).2.1.2.2.1, (List.getD x.1.2.2.1 (Int.toNat x.1.1) verT.dflt).2.1.2.2.2.1, ()), (List.getD x.1.2.2.1 (Int.toNat x.1.1) verT.dflt).2.2.1, (List.getD x.1.2.2.1 (Int.toNat x.1.1) verT.dflt).2.2.2.1, (List.getD x.1.2.2.1 (Int.toNat x.1.1) verT.dflt).2.2.2.2.1, (List.getD x.1.2.2.1 (Int.toNat x.1.1) verT.dflt).2.2.2.2.2.1, ()), ())).1.2.2.2.2.2.1, ())].length) * 120 <= 140737488355328) (Fr.val (Rd.next ((IntKind.i64.wrap (x.1.1 + 1), x.1.2.1, x.1.2.2.1, ()), x.2.1 ++ [((cOwn.f (((List.getD x.1.2.2.1 (Int.toNat x.1.1) verT.dflt).1, ((List.getD x.1.2.2.1 (Int.toNat x.1.1) verT.dflt).2.1.1, (List.getD x.1.2.2.1 (Int.toNat x.1.1) verT.dflt).2.1.2.1, (List.getD x.1.2.2.1 (Int.toNat x.1.1) verT.dflt).2.1.2.2.1, (List.getD x.1.2.2.1 (Int.toNat x.1.1) verT.dflt).2.1.2.2.2.1, ()), (List.getD x.1.2.2.1 (Int.toNat x.1.1) verT.dflt).2.2.1, (List.getD x.1.2.2.1 (Int.toNat x.1.1) verT.dflt).2.2.2.1, (List.getD x.1.2.2.1 (Int.toNat x.1.1) verT.dflt).2.2.2.2.1, (List.getD x.1.2.2.1 (Int.toNat x.1.1) verT.dflt).2.2.2.2.2.1, ()), ())).1.1, ((cOwn.f (((List.getD x.1.2.2.1 (Int.toNat x.1.1) verT.dflt).1, ((List.getD x.1.2.2.1 (Int.toNat x.1.1) verT.dflt).2.1.1, (List.getD x.1.2.2.1 (Int.toNat x.1.1) verT.dflt).2.1.2.1, (List.getD x.1.2.2.1 (Int.toNat x.1.1) verT.dflt).2.1.2.2.1, (List.getD x.1.2.2.1 (Int.toNat x.1.1) verT.dflt).2.1.2.2.2.1, ()), (List.getD x.1.2.2.1 (Int.toNat x.1.1) verT.dflt).2.2.1, (List.getD x.1.2.2.1 (Int.toNat x.1.1) verT.dflt).2.2.2.1, (List.getD x.1.2.2.1 (Int.toNat x.1.1) verT.dflt).2.2.2.2.1, (List.getD x.1.2.2.1 (Int.toNat x.1.1) verT.dflt).2.2.2.2.2.1, ()), ())).1.2.1.1, (cOwn.f (((List.getD x.1.2.2.1 (Int.toNat x.1.1) verT.dflt).1, ((List.getD x.1.2.2.1 (Int.toNat x.1.1) verT.dflt).2.1.1, (List.getD x.1.2.2.1 (Int.toNat x.1.1) verT.dflt).2.1.2.1, (List.getD x.1.2.2.1 (Int.toNat x.1.1) verT.dflt).2.1.2.2.1, (List.getD x.1.2.2.1 (Int.toNat x.1.1) verT.dflt).2.1.2.2.2.1, ()), (List.getD x.1.2.2.1 (Int.toNat x.1.1) verT.dflt).2.2.1, (List.getD x.1.2.2.1 (Int.toNat x.1.1) verT.dflt).2.2.2.1, (List.getD x.1.2.2.1 (Int.toNat x.1.1) verT.dflt).2.2.2.2.1, (List.getD x.1.2.2.1 (Int.toNat x.1.1) verT.dflt).2.2.2.2.2.1, ()), ())).1.2.1.2.1, (cOwn.f (((List.getD x.1.2.2.1 (Int.toNat x.1.1) verT.dflt).1, ((List.getD x.1.2.2.1 (Int.toNat x.1.1) verT.dflt).2.1.1, (List.getD x.1.2.2.1 (Int.toNat x.1.1) verT.dflt).2.1.2.1, (List.getD x.1.2.2.1 (Int.toNat x.1.1) verT.dflt).2.1.2.2.1, (List.getD x.1.2.2.1 (Int.toNat x.1.1) verT.dflt).2.1.2.2.2.1, ()), (List.getD x.1.2.2.1 (Int.toNat x.1.1) verT.dflt).2.2.1, (List.getD x.1.2.2.1 (Int.toNat x.1.1) verT.dflt).2.2.2.1, (List.getD x.1.2.2.1 (Int.toNat x.1.1) verT.dflt).2.2.2.2.1, (List.getD x.1.2.2.1 (Int.toNat x.1.1) verT.dflt).2.2.2.2.2.1, ()), ())).1.2.1.2.2.1, (cOwn.f (((List.getD x.1.2.2.1 (Int.toNat x.1.1) verT.dflt).1, ((List.getD x.1.2.2.1 (Int.toNat x.1.1) verT.dflt).2.1.1, (List.getD x.1.2.2.1 (Int.toNat x.1.1) verT.dflt).2.1.2.1, (List.getD x.1.2.2.1 (Int.toNat x.1.1) verT.dflt).2.1.2.2.1, (List.getD x.1.2.2.1 (Int.toNat x.1.1) verT.dflt).2.1.2.2.2.1, ()), (List.getD x.1.2.2.1 (Int.toNat x.1.1) verT.dflt).2.2.1, (List.getD x.1.2.2.1 (Int.toNat x.1.1) verT.dflt).2.2.2.1, (List.getD x.1.2.2.1 (Int.toNat x.1.1) verT.dflt).2.2.2.2.1, (List.getD x.1.2.2.1 (Int.toNat x.1.1) verT.dflt).2.2.2.2.2.1, ()), ())).1.2.1.2.2.2.1, ()), (cOwn.f (((List.getD x.1.2.2.1 (Int.toNat x.1.1) verT.dflt).1, ((List.getD x.1.2.2.1 (Int.toNat x.1.1) verT.dflt).2.1.1, (List.getD x.1.2.2.1 (Int.toNat x.1.1) verT.dflt).2.1.2.1, (List.getD x.1.2.2.1 (Int.toNat x.1.1) verT.dflt).2.1.2.2.1, (List.getD x.1.2.2.1 (Int.toNat x.1.1) verT.dflt).2.1.2.2.2.1, ()), (List.getD x.1.2.2.1 (Int.toNat x.1.1) verT.dflt).2.2.1, (List.getD x.1.2.2.1 (Int.toNat x.1.1) verT.dflt).2.2.2.1, (List.getD x.1.2.2.1 (Int.toNat x.1.1) verT.dflt).2.2.2.2.1, (List.getD x.1.2.2.1 (Int.toNat x.1.1) verT.dflt).2.2.2.2.2.1, ()), ())).1.2.2.1, (cOwn.f (((List.getD x.1.2.2.1 (Int.toNat x.1.1) verT.dflt).1, ((List.getD x.1.2.2.1 (Int.toNat x.1.1) verT.dflt).2.1.1, (List.getD x.1.2.2.1 (Int.toNat x.1.1) verT.dflt).2.1.2.1, (List.getD x.1.2.2.1 (Int.toNat x.1.1) verT.dflt).2.1.2.2.1, (List.getD x.1.2.2.1 (Int.toNat x.1.1) verT.dflt).2.1.2.2.2.1, ()), (List.getD x.1.2.2.1 (Int.toNat x.1.1) verT.dflt).2.2.1, (List.getD x.1.2.2.1 (Int.toNat x.1.1) verT.dflt).2.2.2.1, (List.getD x.1.2.2.1 (Int.toNat x.1.1) verT.dflt).2.2.2.2.1, (List.getD x.1.2.2.1 (Int.toNat x.1.1) verT.dflt).2.2.2.2.2.1, ()), ())).1.2.2.2.1, (cOwn.f (((List.getD x.1.2.2.1 (Int.toNat x.1.1) verT.dflt).1, ((List.getD x.1.2.2.1 (Int.toNat x.1.1) verT.dflt).2.1.1, (List.getD x.1.2.2.1 (Int.toNat x.1.1) verT.dflt).2.1.2.1, (List.getD x.1.2.2.1 (Int.toNat x.1.1) verT.dflt).2.1.2.2.1, (List.getD x.1.2.2.1 (Int.toNat x.1.1) verT.dflt).2.1.2.2.2.1, ()), (List.getD x.1.2.2.1 (Int.toNat x.1.1) verT.dflt).2.2.1, (List.getD x.1.2.2.1 (Int.toNat x.1.1) verT.dflt).2.2.2.1, (List.getD x.1.2.2.1 (Int.toNat x.1.1) verT.dflt).2.2.2.2.1, (List.getD x.1.2.2.1 (Int.toNat x.1.1) verT.dflt).2.2.2.2.2.1, ()), ())).1.2.2.2.2.1, (cOwn.f (((List.getD x.1.2.2.1 (Int.toNat x.1.1) verT.dflt).1, ((List.getD x.1.2.2.1 (Int.toNat x.1.1) verT.dflt).2.1.1, (List.getD x.1.2.2.1 (Int.toNat x.1.1) verT.dflt).2.1.2.1, (List.getD x.1.2.2.1 (Int.toNat x.1.1) verT.dflt).2.1.2.2.1, (List.getD x.1.2.2.1 (Int.toNat x.1.1) verT.dflt).2.1.2.2.2.1, ()), (List.getD x.1.2.2.1 (Int.toNat x.1.1) verT.dflt).2.2.1, (List.getD x.1.2.2.1 (Int.toNat x.1.1) verT.dflt).2.2.2.1, (List.getD x.1.2.2.1 (Int.toNat x.1.1) verT.dflt).2.2.2.2.1, (List.getD x.1.2.2.1 (Int.toNat x.1.1) verT.dflt).2.2.2.2.2.1, ()), ())).1.2.2.2.2.2.1, ())], (x.2.2.1.1, ()), ())))))) (Fr.val (Rd.out ((), x.2.1, (x.2.2.1.1, ()), ())))
theorem sem_put : Does Try.prog (loopF Try.f22 0) pt_put.M pt_put fr_put :=
 Does.of_run CPu_ok (bs := 0) (Λ := lam0) rfl rfl rfl (fun E => lam0_ok _ 0) (fun x => by kernel_rfl)
abbrev st_put : Type := denP [] × denM [.o 8 62 verT, .x 4 38 tarT, .r 4 4 0]
def step_put (e : verT.den) (s : st_put) : Fr st_put :=
 Fr.need (verFew (e.1, (e.2.1.1, e.2.1.2.1, e.2.1.2.2.1, e.2.1.2.2.2.1, ()), e.2.2.1, e.2.2.2.1, e.2.2.2.2.1, e.2.2.2.2.2.1, ())) (Fr.need (s.2.1.length + [((cOwn.f ((e.1, (e.2.1.1, e.2.1.2.1, e.2.1.2.2.1, e.2.1.2.2.2.1, ()), e.2.2.1, e.2.2.2.1, e.2.2.2.2.1, e.2.2.2.2.2.1, ()), ())).1.1, ((cOwn.f ((e.1, (e.2.1.1, e.2.1.2.1, e.2.1.2.2.1, e.2.1.2.2.2.1, ()), e.2.2.1, e.2.2.2.1, e.2.2.2.2.1, e.2.2.2.2.2.1, ()), ())).1.2.1.1, (cOwn.f ((e.1, (e.2.1.1, e.2.1.2.1, e.2.1.2.2.1, e.2.1.2.2.2.1, ()), e.2.2.1, e.2.2.2.1, e.2.2.2.2.1, e.2.2.2.2.2.1, ()), ())).1.2.1.2.1, (cOwn.f ((e.1, (e.2.1.1, e.2.1.2.1, e.2.1.2.2.1, e.2.1.2.2.2.1, ()), e.2.2.1, e.2.2.2.1, e.2.2.2.2.1, e.2.2.2.2.2.1, ()), ())).1.2.1.2.2.1, (cOwn.f ((e.1, (e.2.1.1, e.2.1.2.1, e.2.1.2.2.1, e.2.1.2.2.2.1, ()), e.2.2.1, e.2.2.2.1, e.2.2.2.2.1, e.2.2.2.2.2.1, ()), ())).1.2.1.2.2.2.1, ()), (cOwn.f ((e.1, (e.2.1.1, e.2.1.2.1, e.2.1.2.2.1, e.2.1.2.2.2.1, ()), e.2.2.1, e.2.2.2.1, e.2.2.2.2.1, e.2.2.2.2.2.1, ()), ())).1.2.2.1, (cOwn.f ((e.1, (e.2.1.1, e.2.1.2.1, e.2.1.2.2.1, e.2.1.2.2.2.1, ()), e.2.2.1, e.2.2.2.1, e.2.2.2.2.1, e.2.2.2.2.2.1, ()), ())).1.2.2.2.1, (cOwn.f ((e.1, (e.2.1.1, e.2.1.2.1, e.2.1.2.2.1, e.2.1.2.2.2.1, ()), e.2.2.1, e.2.2.2.1, e.2.2.2.2.1, e.2.2.2.2.2.1, ()), ())).1.2.2.2.2.1, (cOwn.f ((e.1, (e.2.1.1, e.2.1.2.1, e.2.1.2.2.1, e.2.1.2.2.2.1, ()), e.2.2.1, e.2.2.2.1, e.2.2.2.2.1, e.2.2.2.2.2.1, ()), ())).1.2.2.2.2.2.1, ())].length <= maxLen /\ (s.2.1.length + [((cOwn.f ((e.1, (e.2.1.1, e.2.1.2.1, e.2.1.2.2.1, e.2.1.2.2.2.1, ()), e.2.2.1, e.2.2.2.1, e.2.2.2.2.1, e.2.2.2.2.2.1, ()), ())).1.1, ((cOwn.f ((e.1, (e.2.1.1, e.2.1.2.1, e.2.1.2.2.1, e.2.1.2.2.2.1, ()), e.2.2.1, e.2.2.2.1, e.2.2.2.2.1, e.2.2.2.2.2.1, ()), ())).1.2.1.1, (cOwn.f ((e.1, (e.2.1.1, e.2.1.2.1, e.2.1.2.2.1, e.2.1.2.2.2.1, ()), e.2.2.1, e.2.2.2.1, e.2.2.2.2.1, e.2.2.2.2.2.1, ()), ())).1.2.1.2.1, (cOwn.f ((e.1, (e.2.1.1, e.2.1.2.1, e.2.1.2.2.1, e.2.1.2.2.2.1, ()), e.2.2.1, e.2.2.2.1, e.2.2.2.2.1, e.2.2.2.2.2.1, ()), ())).1.2.1.2.2.1, (cOwn.f ((e.1, (e.2.1.1, e.2.1.2.1, e.2.1.2.2.1, e.2.1.2.2.2.1, ()), e.2.2.1, e.2.2.2.1, e.2.2.2.2.1, e.2.2.2.2.2.1, ()), ())).1.2.1.2.2.2.1, ()), (cOwn.f ((e.1, (e.2.1.1, e.2.1.2.1, e.2.1.2.2.1, e.2.1.2.2.2.1, ()), e.2.2.1, e.2.2.2.1, e.2.2.2.2.1, e.2.2.2.2.2.1, ()), ())).1.2.2.1, (cOwn.f ((e.1, (e.2.1.1, e.2.1.2.1, e.2.1.2.2.1, e.2.1.2.2.2.1, ()), e.2.2.1, e.2.2.2.1, e.2.2.2.2.1, e.2.2.2.2.2.1, ()), ())).1.2.2.2.1, (cOwn.f ((e.1, (e.2.1.1, e.2.1.2.1, e.2.1.2.2.1, e.2.1.2.2.2.1, ()), e.2.2.1, e.2.2.2.1, e.2.2.2.2.1, e.2.2.2.2.2.1, ()), ())).1.2.2.2.2.1, (cOwn.f ((e.1, (e.2.1.1, e.2.1.2.1, e.2.1.2.2.1, e.2.1.2.2.2.1, ()), e.2.2.1, e.2.2.2.1, e.2.2.2.2.1, e.2.2.2.2.2.1, ()), ())).1.2.2.2.2.2.1, ())].length) * 120 <= 140737488355328) (Fr.val ((), s.2.1 ++ [((cOwn.f ((e.1, (e.2.1.1, e.2.1.2.1, e.2.1.2.2.1, e.2.1.2.2.2.1, ()), e.2.2.1, e.2.2.2.1, e.2.2.2.2.1, e.2.2.2.2.2.1, ()), ())).1.1, ((cOwn.f ((e.1, (e.2.1.1, e.2.1.2.1, e.2.1.2.2.1, e.2.1.2.2.2.1, ()), e.2.2.1, e.2.2.2.1, e.2.2.2.2.1, e.2.2.2.2.2.1, ()), ())).1.2.1.1, (cOwn.f ((e.1, (e.2.1.1, e.2.1.2.1, e.2.1.2.2.1, e.2.1.2.2.2.1, ()), e.2.2.1, e.2.2.2.1, e.2.2.2.2.1, e.2.2.2.2.2.1, ()), ())).1.2.1.2.1, (cOwn.f ((e.1, (e.2.1.1, e.2.1.2.1, e.2.1.2.2.1, e.2.1.2.2.2.1, ()), e.2.2.1, e.2.2.2.1, e.2.2.2.2.1, e.2.2.2.2.2.1, ()), ())).1.2.1.2.2.1, (cOwn.f ((e.1, (e.2.1.1, e.2.1.2.1, e.2.1.2.2.1, e.2.1.2.2.2.1, ()), e.2.2.1, e.2.2.2.1, e.2.2.2.2.1, e.2.2.2.2.2.1, ()), ())).1.2.1.2.2.2.1, ()), (cOwn.f ((e.1, (e.2.1.1, e.2.1.2.1, e.2.1.2.2.1, e.2.1.2.2.2.1, ()), e.2.2.1, e.2.2.2.1, e.2.2.2.2.1, e.2.2.2.2.2.1, ()), ())).1.2.2.1, (cOwn.f ((e.1, (e.2.1.1, e.2.1.2.1, e.2.1.2.2.1, e.2.1.2.2.2.1, ()), e.2.2.1, e.2.2.2.1, e.2.2.2.2.1, e.2.2.2.2.2.1, ()), ())).1.2.2.2.1, (cOwn.f ((e.1, (e.2.1.1, e.2.1.2.1, e.2.1.2.2.1, e.2.1.2.2.2.1, ()), e.2.2.1, e.2.2.2.1, e.2.2.2.2.1, e.2.2.2.2.2.1, ()), ())).1.2.2.2.2.1, (cOwn.f ((e.1, (e.2.1.1, e.2.1.2.1, e.2.1.2.2.1, e.2.1.2.2.2.1, ()), e.2.2.1, e.2.2.2.1, e.2.2.2.2.1, e.2.2.2.2.2.1, ()), ())).1.2.2.2.2.2.1, ())], (s.2.2.1.1, ()), ())))
def un_put (x : pt_put.M.X) : Int × List verT.den × st_put := (x.1.1, x.1.2.2.1, x.1.2.2.2, x.2)
def good_put (x : pt_put.M.X) : Prop := x.1.2.1 = (x.1.2.2.1.length : Int)
def out_put (s : st_put) : pt_put.E.X := ((), s.2.1, (s.2.2.1.1, ()), ())
theorem loop_put : Does Try.prog (.loop (loopF Try.f22 0)) pt_put.M pt_put (FF step_put un_put good_put out_put) := by
 refine Does.fold sem_put step_put un_put good_put out_put ?_ ?_
 ·rintro ⟨⟨i, n, l, s⟩, m⟩ hg h0 h1 hb e he Q h
  have hg : n = (l.length : Int) := hg
  subst hg
  have h0 : 0 <= i := h0
  have h1 : i < (l.length : Int) := h1
  have hb : (l.length : Int) <= 9223372036854775807 := hb
  have hd : l.getD i.toNat verT.dflt = e := getD_of he
  have hw := wrap_next h0 h1 hb
  dsimp only [un_put, step_put, fr_put, Fr.satP] at h ⊢
  simp only [hd, hw] at h ⊢
  refine ⟨fun _ => ?_, fun hn => absurd h1 (of_decide_eq_false hn)⟩
  repeat' first
   | exact h
   | exact ⟨h0, h1⟩
   | exact fun _ => ⟨h0, h1⟩
   | exact h _ rfl rfl
   | (refine ⟨fun hc => ?_, fun hc => ?_⟩ <;> first | replace h := h.1 hc | replace h := h.2 hc)
   | (refine ⟨h.1, ?_⟩; replace h := h.2)
   | refine ⟨⟨h0, h1⟩, ?_⟩
   | exact h.1
   | exact h.2.1
   | exact h.2.2.1
   | refine ⟨?_, ?_⟩
   | (intro (hc : _ = true); replace h := h.1 hc)
   | (intro (hc : _ = false); replace h := h.2 hc)
   | (replace h := h.2)
 ·rintro ⟨⟨i, n, l, s⟩, m⟩ hg h1 Q h
  have hg : n = (l.length : Int) := hg
  subst hg
  exact ⟨fun hn => absurd (of_decide_eq_true hn) h1, fun _ => h⟩
theorem room120 {a : Nat} (h : a + 1 <= 1000) : a + 1 <= maxLen /\ (a + 1) * 120 <= 140737488355328 := by
 unfold maxLen
 omega
theorem put_go (z : tarT.den) : (l : List verT.den) -> (acc : List verT.den) -> (∀ v ∈ l, verFew v) -> acc.length + l.length <= 1000 -> okF step_put l ((), (acc, z, ())) /\ goF step_put l ((), (acc, z, ())) = ((), (acc ++ l, z, ()))
 | [], acc, _, _ => ⟨trivial, by rw [List.append_nil]; rfl⟩
 | v :: l, acc, hv, ha => by
  rw [List.length_cons] at ha
  obtain ⟨h1, h2⟩ := put_go z l (acc ++ [v]) (fun v hv' => hv v (List.mem_cons_of_mem _ hv')) (by rw [List.length_append, List.length_singleton]; omega)
  refine ⟨⟨⟨hv v List.mem_cons_self, room120 (a := acc.length) (by omega), trivial⟩, h1⟩, ?_⟩
  have : acc ++ v :: l = (acc ++ [v]) ++ l := by simp
  rw [this]
  exact h2
structure InPu (i n : Int) (l : List verT.den) (acc : Nat) : Prop where
 j : InJ i n l.length
 few : ∀ v ∈ l, verFew v
 len : l.length <= 1000
 none : acc = 0
def FpJ (x : pt_put.M.X) : Fr pt_put.Out := Fr.need (InPu x.1.1 x.1.2.1 x.1.2.2.1 (List.length (α := verT.den) x.2.1)) (Fr.val (Rd.out ((), (x.1.2.2.1, x.2.2.1, ()))))
theorem loop_pJ : Does Try.prog (.loop (loopF Try.f22 0)) pt_put.M pt_put FpJ := Does.conv loop_put fun x Q h => by
 obtain ⟨⟨i, n, l, _⟩, acc, z, _⟩ := x
 obtain ⟨⟨⟨h1, h2, h3⟩, h4, h5, h6⟩, hq⟩ := h
 have h1 : i = (0 : Int) := h1
 subst h1
 have h6 : acc = [] := List.eq_nil_of_length_eq_zero h6
 subst h6
 obtain ⟨k1, k2⟩ := put_go z l [] h4 (by rw [List.length_nil, Nat.zero_add]; exact h5)
 refine ⟨⟨h2, Int.le_refl _, Int.natCast_nonneg _, h3⟩, ?_, ?_⟩
 ·show okF step_put (List.drop (α := verT.den) 0 l) ((), ([], z, ()))
  rw [List.drop_zero]
  exact k1
 show Q (Rd.out (out_put (goF step_put (List.drop (α := verT.den) 0 l) ((), ([], z, ())))))
 rw [List.drop_zero, k2, List.nil_append]
 exact hq
theorem sliceEq_refl (s : sliceT.den) : sliceEq s s = true := by
 have h := holdsB_iff.2 (rfl : coreS s = coreS s)
 simp [sliceEq, h]
theorem fewB_fewH {h : histT.den} {t : tarT.den} (hf : fewB h t = true) : fewH h /\ fewT t := by
 unfold fewB at hf
 simp only [Bool.and_eq_true, decide_eq_true_eq, List.all_eq_true] at hf
 obtain ⟨⟨h1, h2, h3⟩, h4, h5⟩ := hf
 refine ⟨⟨by show h.2.2.2.1.length <= 500000; omega, by omega, fun c hc => ?_⟩, by omega, fun v hv => ?_⟩
 ·have : c.2.2.2.2.1.length <= 50 := of_decide_eq_true (h4 c hc)
  omega
 ·have := h5 v hv
  unfold fewV at this
  simp only [Bool.and_eq_true, decide_eq_true_eq] at this
  exact ⟨by omega, by omega, by omega⟩
abbrev noTar : tarT.den := ([], ())
def cmpP : cmpV.den := fun x => cCmpV.f (x.1, x.2.1, ())
def putF (t : tarT.den) (v : verT.den) : tarT.den × Int :=
 bif (bif !(rightT t) then true else !(verB v)) then (noTar, 1) else bif thereB t.1 v.1 cmpP then (noTar, 8) else bif ((List.length (α := verT.den) t.1 : Nat) : Int) == 100 then (noTar, 2) else ((insL (whereB t.1 v.1 cmpP) t.1 [v], ()), 0)
def frPut (x : denP [.d tarT, .d verT]) : Fr (denL [tarT, i64]) :=
 let t : tarT.den := x.1; let v : verT.den := x.2.1; let L : List verT.den := t.1; let k : Int := whereB L v.1 cmpP
 Fr.br (bif !(rightT t) then true else !(verB v)) (Fr.val (noTar, 1, ()))
  (Fr.need (∀ (x : denL [verT, i64]), WfL [verT, i64] x -> conj (cCmpV.ok (x.1, x.2.1, ()))) (Fr.need (L.length <= 1000000)
   (Fr.br (thereB L v.1 cmpP) (Fr.val (noTar, 8, ()))
    (Fr.br (((L.length : Nat) : Int) == 100) (Fr.val (noTar, 2, ()))
     (Fr.need (L.length <= maxLen) (Fr.need (L.length * 120 <= 140737488355328) (Fr.need (0 <= k /\ k <= ((L.length : Nat) : Int)) (Fr.need ([v].length = 1) (Fr.need (L.length + 1 <= maxLen /\ (L.length + 1) * 120 <= 140737488355328)
      (Fr.need (InPu 0 (((insL k L [v]).length : Nat) : Int) (insL k L [v]) ([] : List verT.den).length) (Fr.val ((insL k L [v], ()), 0, ()))))))))))))
def cPut : Ct := ⟨[.d tarT, .d verT], [tarT, i64], fun x => ((putF x.1 x.2.1).1, (putF x.1 x.2.1).2, ()), fun x => [fewT x.1, verFew x.2.1]⟩
theorem mem_insL {α : Type} {i : Int} {l m : List α} {x : α} (h : x ∈ insL i l m) : x ∈ l ∨ x ∈ m := by
 unfold insL at h
 rcases List.mem_append.1 h with h | h
 ·rcases List.mem_append.1 h with h | h
  ·exact .inl (List.mem_of_mem_take h)
  ·exact .inr h
 ·exact .inl (List.mem_of_mem_drop h)
theorem len_insL {α : Type} {i : Int} {l m : List α} (h : i <= l.length) : (insL i l m).length = l.length + m.length := by
 unfold insL
 simp only [List.length_append, List.length_take, List.length_drop]
 omega
theorem right_len {t : tarT.den} (h : rightT t = true) : List.length (α := verT.den) t.1 <= 100 := by
 unfold rightT at h
 rw [Bool.and_eq_true] at h
 exact of_decide_eq_true h.1
theorem tPut_ok : SoundCt Try.prog 22 cPut :=
 convF (fn_sound CPu_ok (Λ := fun _ => pt_put.han CPu.Γ pt_put.M FpJ) (fn := Try.f22) (fr := frPut) (ps := [.d tarT, .d verT]) (rs := [tarT, i64]) (dfP _) (by kernel_rfl)
  (fun c E hc => lam1f hc (by kernel_rfl) (b := loopF Try.f22 0) (by kernel_rfl) (Does.han CPu_ok rfl loop_pJ)) (fun x => by kernel_rfl)) _ _ (fun w F x vs hr hok => by
  obtain ⟨t, v, _⟩ := x
  obtain ⟨hf, hv⟩ := hok
  show (frPut (t, v, ())).ok /\ (frPut (t, v, ())).get = ((putF t v).1, (putF t v).2, ())
  unfold putF
  cases h1 : (bif !(rightT t) then true else !(verB v))
  ·have hr : rightT t = true := by
    cases h : rightT t
    ·rw [h] at h1
     cases h1
    ·rfl
   have hl := right_len hr
   have hw := where_in t.1 v.1 cmpP
   refine Fr.br_f h1 (Fr.need_ (fun _ _ => trivial) (Fr.need_ (Nat.le_trans hl (by decide)) ?_))
   cases h2 : thereB t.1 v.1 cmpP
   ·refine Fr.br_f rfl ?_
    cases h3 : (((List.length (α := verT.den) t.1 : Nat) : Int) == 100)
    ·have e1 : List.length (α := verT.den) t.1 <= maxLen := Nat.le_trans hl (by decide)
     have e2 : List.length (α := verT.den) t.1 + 1 <= maxLen := Nat.le_trans (Nat.succ_le_succ hl) (by decide)
     refine Fr.br_f rfl (Fr.need_ e1 (Fr.need_ ?_ (Fr.need_ hw (Fr.need_ rfl (Fr.need_ ⟨e2, ?_⟩ (Fr.need_ ⟨⟨rfl, rfl, ?_⟩, fun x hx => ?_, ?_, rfl⟩ ⟨trivial, rfl⟩))))))
     ·show List.length (α := verT.den) t.1 * 120 <= 140737488355328
      omega
     ·show (List.length (α := verT.den) t.1 + 1) * 120 <= 140737488355328
      omega
     ·show (((insL (whereB t.1 v.1 cmpP) t.1 [v]).length : Nat) : Int) <= 9223372036854775807
      rw [len_insL hw.2, List.length_singleton]
      omega
     ·rcases mem_insL hx with h | h
      ·exact hf.2 x h
      ·rw [List.mem_singleton] at h
       rw [h]
       exact hv
     ·show (insL (whereB t.1 v.1 cmpP) t.1 [v]).length <= 1000
      rw [len_insL hw.2, List.length_singleton]
      omega
    ·exact Fr.br_t rfl ⟨trivial, rfl⟩
   ·exact Fr.br_t rfl ⟨trivial, rfl⟩
  ·exact Fr.br_t h1 ⟨trivial, rfl⟩)
noncomputable def CLsc : Cx := cx [(18, cYes), (23, cSameS), (19, cOf), (13, cFew), (20, cTarAt), (21, cYear), (22, cPut)] []
theorem CLsc_ok : CxOK Try.prog CLsc := cx_ok (ps := []) mixed ⟨awake_ok, all12_ok, of_ok, few_ok, tarAt_ok, year_ok, tPut_ok, trivial⟩ trivial
abbrev msSC : List MI := [.x 3 35 histT, .r 3 3 0, .x 4 38 tarT, .r 4 4 0, .x 5 62 verT, .r 5 5 0, .x 11 62 verT, .r 11 11 0]
abbrev msSE : List MI := [.x 3 35 histT, .r 3 3 0, .x 4 38 tarT, .r 4 4 0, .x 5 62 verT, .r 5 5 0]
abbrev ptSC : Pt := ⟨138, 0, ⟨[(13, .d i64), (9, .d slsT), (7, .d .bool)], msSC⟩, ⟨[(9, .d slsT), (7, .d .bool)], msSE⟩, ⟨[(6, .d .bool)], []⟩⟩
def costBad (v : verT.den) (s : sliceT.den) : Bool := bif s.2.1 then bif ((yearF v s.2.2.1 s.2.2.2.1).2 : Int) != 0 then true else ((yearF v s.2.2.1 s.2.2.2.1).1 : Int) != s.2.2.2.2.1 else false
def frSC (x : ptSC.M.X) : Fr ptSC.Out :=
 let i : Int := x.1.1; let l : List sliceT.den := x.1.2.1; let b : Bool := x.1.2.2.1; let v : verT.den := x.2.2.2.2.1; let s : sliceT.den := l.getD i.toNat sliceT.dflt
 Fr.br (decide (i < ((List.length (α := sliceT.den) l : Nat) : Int)))
  (Fr.need (0 <= i /\ i < ((List.length (α := sliceT.den) l : Nat) : Int)) (Fr.need (0 <= i /\ i < ((List.length (α := sliceT.den) l : Nat) : Int)) (Fr.need (0 <= i /\ i < ((List.length (α := sliceT.den) l : Nat) : Int))
   (Fr.need ((((yearF v s.2.2.1 s.2.2.2.1).2 : Int) != 0) = false -> s.2.1 = true -> 0 <= i /\ i < ((List.length (α := sliceT.den) l : Nat) : Int))
    (Fr.br (costBad v s) (Fr.val (Rd.back ((false, ()), ()))) (Fr.val (Rd.next ((IntKind.i64.wrap (i + 1), l, b, ()), x.2))))))))
  (Fr.val (Rd.out ((l, b, ()), (x.2.1, x.2.2.1, x.2.2.2.1, ()))))
theorem semSC : Does Try.prog (loopF Try.f7 0) ptSC.M ptSC frSC :=
 Does.of_run CLsc_ok (bs := 0) (Λ := lam0) rfl rfl rfl (fun E => lam0_ok _ 0) (fun x => by kernel_rfl)
structure InSC (i : Int) (l : List sliceT.den) (v : verT.den) : Prop where
 i0 : 0 <= i
 il : i <= l.length
 big : l.length <= 1000000
 ok : ∀ s ∈ l, costBad v s = false
def FSC (x : ptSC.M.X) : Fr ptSC.Out := Fr.need (InSC x.1.1 x.1.2.1 x.2.2.2.2.1) (Fr.val (Rd.out (x.1.2, (x.2.1, x.2.2.1, x.2.2.2.1, ()))))
theorem lawSC (i : Int) (l : List sliceT.den) (b : Bool) (h : histT.den) (t : tarT.den) (w v : verT.den) (hinv : InSC i l v) (Q : ptSC.Out -> Prop) (hq : Q (Rd.out ((l, b, ()), (h, t, w, ())))) : (frSC ((i, l, b, ()), (h, t, w, v, ()))).satP fun
   | .next x' => InSC x'.1.1 x'.1.2.1 x'.2.2.2.2.1 /\ (((List.length (α := sliceT.den) x'.1.2.1 : Nat) : Int) - x'.1.1).toNat < (((List.length (α := sliceT.den) l : Nat) : Int) - i).toNat /\ (FSC x').satP Q
   | .out y => Q (.out y)
   | .back z => Q (.back z)
   | .pan p => Q (.pan p) := by
 obtain ⟨h0, h1, h2, h3⟩ := hinv
 dsimp only [frSC, Fr.satP]
 refine ⟨fun hi => ?_, fun _ => hq⟩
 have hi' : i < ((List.length (α := sliceT.den) l : Nat) : Int) := of_decide_eq_true hi
 have hk : i.toNat < l.length := by omega
 have ea : l.getD i.toNat sliceT.dflt = l[i.toNat] := by rw [List.getD_eq_getElem?_getD, List.getElem?_eq_getElem hk]; rfl
 have hb := h3 _ (List.getElem_mem hk)
 have w1 : IntKind.i64.wrap (i + 1) = i + 1 := i64w (by omega)
 rw [ea, w1]
 refine ⟨⟨h0, hi'⟩, ⟨h0, hi'⟩, ⟨h0, hi'⟩, fun _ _ => ⟨h0, hi'⟩, fun hc => ?_, fun _ => ?_⟩
 ·rw [hb] at hc
  cases hc
 ·have hI : InSC (i + 1) l v := ⟨by omega, by omega, h2, h3⟩
  refine ⟨hI, ?_, hI, hq⟩
  show (((List.length (α := sliceT.den) l : Nat) : Int) - (i + 1)).toNat < _
  omega
theorem loopSC : Does Try.prog (.loop (loopF Try.f7 0)) ptSC.M ptSC FSC := by
 refine Does.loop (n := 138) (id := 0) semSC (inv := fun x => InSC x.1.1 x.1.2.1 x.2.2.2.2.1) (μ := fun x => (((List.length (α := sliceT.den) x.1.2.1 : Nat) : Int) - x.1.1).toNat) ?_ (fun x Q h => h.1)
 rintro ⟨⟨i, l, b, _⟩, h, t, w, v, _⟩ hinv Q hq
 exact lawSC i l b h t w v hinv Q hq.2
abbrev fromOf (h : histT.den) : Int := h.2.2.1.1.1
abbrev atT (h : histT.den) (t : tarT.den) : verT.den × Int := verAt (fromOf h) (List.reverse (α := verT.den) t.1)
theorem of_zero {h : histT.den} {t : tarT.den} (hz : (ofF h t).2 = 0) : (atT h t).2 = 0 /\ errP (atT h t).1 (cutL h) = 0 /\ (ofF h t).1 = (cutL h).map (priceV (atT h t).1) := by
 unfold ofF at hz ⊢
 by_cases h1 : histB h = true
 ·rw [if_pos h1] at hz ⊢
  by_cases h2 : (verAt h.2.2.1.1.1 t.1.reverse).2 = 0
  ·rw [if_pos h2] at hz ⊢
   by_cases h3 : errP (verAt h.2.2.1.1.1 t.1.reverse).1 (cutL h) = 0
   ·rw [if_pos h3]
    exact ⟨h2, h3, rfl⟩
   ·rw [if_neg h3] at hz
    exact absurd hz h3
  ·rw [if_neg h2] at hz
   exact absurd hz h2
 ·rw [if_neg h1] at hz
  cases hz
theorem errP_mem {v : verT.den} : (l : List sliceT.den) -> errP v l = 0 -> ∀ s ∈ l, s.2.1 = true -> (yrS v s).2 = 0
 | [], _, _, hs => by cases hs
 | a :: l, h, s, hs => fun ho => by
  unfold errP at h
  by_cases ha : a.2.1 = true
  ·rw [if_pos ha] at h
   by_cases hy : (yrS v a).2 = 0
   ·rw [if_pos hy] at h
    rcases List.mem_cons.1 hs with rfl | hs
    ·exact hy
    ·exact errP_mem l h s hs ho
   ·rw [if_neg hy] at h
    exact absurd h hy
  ·rw [if_neg ha] at h
   rcases List.mem_cons.1 hs with rfl | hs
   ·exact absurd ho ha
   ·exact errP_mem l h s hs ho
theorem priced_good {v : verT.den} {s : sliceT.den} (h : s.2.1 = true -> (yrS v s).2 = 0) : costBad v (priceV v s) = false := by
 unfold priceV
 by_cases ho : s.2.1 = true
 ·rw [if_pos ho]
  have hy : ((yearF v s.2.2.1 s.2.2.2.1).2 : Int) = 0 := h ho
  show (bif s.2.1 then bif ((yearF v s.2.2.1 s.2.2.2.1).2 : Int) != 0 then true else ((yearF v s.2.2.1 s.2.2.2.1).1 : Int) != (yearF v s.2.2.1 s.2.2.2.1).1 else false) = false
  rw [ho, hy]
  simp
 ·rw [if_neg ho]
  have ho' : s.2.1 = false := by simpa using ho
  unfold costBad
  rw [ho']
  rfl
theorem verAt_skip {d : Int} {w : verT.den} (hw : ¬ w.1 <= d) : (x y : List verT.den) -> verAt d (x ++ w :: y) = verAt d (x ++ y)
 | [], y => if_neg hw
 | v :: x, y => by
  simp only [List.cons_append, verAt]
  rw [verAt_skip hw x y]
theorem put_zero {t : tarT.den} {w : verT.den} (hz : (putF t w).2 = 0) : (putF t w).1 = (insL (whereB t.1 w.1 cmpP) t.1 [w], ()) /\ rightT t = true := by
 unfold putF at hz ⊢
 cases h1 : (bif !(rightT t) then true else !(verB w))
 ·have hr : rightT t = true := by
   cases h : rightT t
   ·rw [h] at h1
    cases h1
   ·rfl
  rw [h1] at hz
  cases h2 : thereB t.1 w.1 cmpP
  ·rw [h2] at hz
   cases h3 : (((List.length (α := verT.den) t.1 : Nat) : Int) == 100)
   ·exact ⟨rfl, hr⟩
   ·rw [h3] at hz
    cases hz
  ·rw [h2] at hz
   cases hz
 ·rw [h1] at hz
  cases hz
theorem put_at {h : histT.den} {t : tarT.den} {w : verT.den} (hz : (putF t w).2 = 0) (hw : ¬ w.1 <= fromOf h) : atT h (putF t w).1 = atT h t := by
 rw [(put_zero hz).1]
 show verAt (fromOf h) (insL (whereB t.1 w.1 cmpP) t.1 [w]).reverse = verAt (fromOf h) (List.reverse (α := verT.den) t.1)
 unfold insL
 rw [List.reverse_append, List.reverse_append, List.reverse_singleton, List.singleton_append, verAt_skip hw, ← List.reverse_append, List.take_append_drop]
theorem put_of {h : histT.den} {t : tarT.den} {w : verT.den} (hz : (putF t w).2 = 0) (hw : ¬ w.1 <= fromOf h) : ofF h (putF t w).1 = ofF h t := by
 have e : verAt h.2.2.1.1.1 (putF t w).1.1.reverse = verAt h.2.2.1.1.1 t.1.reverse := put_at hz hw
 unfold ofF
 rw [e]
theorem put_few {t : tarT.den} {w : verT.den} (hz : (putF t w).2 = 0) (hf : fewT t) (hv : verFew w) : fewT (putF t w).1 := by
 obtain ⟨h1, h2⟩ := put_zero hz
 have hk := where_in t.1 w.1 cmpP
 have hl := right_len h2
 rw [h1]
 refine ⟨?_, fun v hv' => ?_⟩
 ·show (insL (whereB t.1 w.1 cmpP) t.1 [w]).length <= 1000000
  rw [len_insL hk.2, List.length_singleton]
  omega
 ·rcases mem_insL hv' with h | h
  ·exact hf.2 v h
  ·rw [List.mem_singleton] at h
   rw [h]
   exact hv
theorem sameS_refl3 : (l : List sliceT.den) -> sameS l l = true
 | [] => rfl
 | s :: l => by
  simp only [sameS]
  rw [sliceEq_refl, sameS_refl3 l]
  rfl
def frCosts (x : denP [.d histT, .d tarT, .d verT]) : Fr (denL [.bool]) :=
 let h : histT.den := x.1; let t : tarT.den := x.2.1; let w : verT.den := x.2.2.1
 Fr.br (bif bif bif !(fewB h t) then true else decide (((List.length (α := bandT.den) w.2.2.1 : Nat) : Int) > 200) then true else decide (((List.length (α := Int) w.2.2.2.1 : Nat) : Int) > 200) then true else decide (((List.length (α := Int) w.2.2.2.2.1 : Nat) : Int) > 200)) (Fr.val (true, ()))
  (Fr.need (fewH h) (Fr.need (fewT t) (Fr.br (((ofF h t).2 : Int) != 0) (Fr.val (true, ()))
   (Fr.need (fewT t) (Fr.br (((atT h t).2 : Int) != 0) (Fr.val (false, ()))
    (Fr.need (InSC 0 (ofF h t).1 (atT h t).1) (Fr.need (fewT t) (Fr.need (verFew w)
     (Fr.br (bif ((putF t w).2 : Int) != 0 then true else decide (w.1 <= fromOf h)) (Fr.val (true, ()))
      (Fr.need (fewH h) (Fr.need (fewT (putF t w).1)
       (Fr.val (bif bif true then ((ofF h (putF t w).1).2 : Int) == 0 else false then sameS (ofF h t).1 (ofF h (putF t w).1).1 else false, ())))))))))))))
theorem costs_run : SoundCt Try.prog 7 ⟨[.d histT, .d tarT, .d verT], [.bool], fun xs => (frCosts xs).get, fun xs => [(frCosts xs).ok]⟩ :=
 fn_sound CLsc_ok (Λ := fun _ => ptSC.han CLsc.Γ ptSC.M FSC) (fn := Try.f7) (fr := frCosts) (ps := [.d histT, .d tarT, .d verT]) (rs := [.bool]) (dfP _) (by kernel_rfl)
  (fun c E hc => lam1f hc (by kernel_rfl) (b := loopF Try.f7 0) (by kernel_rfl) (Does.han CLsc_ok rfl loopSC)) (fun x => by kernel_rfl)
theorem cut_few {h : histT.den} (hf : fewH h) : (cutL h).length <= 1000000 := by
 have hl := endS_length (goCut (chsO h) (nowS h) []).1 (goCut (chsO h) (nowS h) []).2 h.2.2.1.1.2.1
 have h2 := goCut_length (chsO h) (nowS h) []
 have h3 : (chsO h).length = (chL h).length := by
  unfold chsO
  rw [List.length_map, orderL_length]
 have h4 := hf.1
 show (endS (goCut (chsO h) (nowS h) []).1 (goCut (chsO h) (nowS h) []).2 h.2.2.1.1.2.1).length <= 1000000
 rw [List.length_nil] at h2
 omega
theorem lawCosts_ok : SoundCt Try.prog 7 ⟨[.d histT, .d tarT, .d verT], [.bool], fun _ => (true, ()), fun _ => []⟩ :=
 convF costs_run _ _ (fun w0 F x vs hr _ => by
  obtain ⟨h, t, w, _⟩ := x
  show (frCosts (h, t, w, ())).ok /\ (frCosts (h, t, w, ())).get = (true, ())
  cases hc : (bif bif bif !(fewB h t) then true else decide (((List.length (α := bandT.den) w.2.2.1 : Nat) : Int) > 200) then true else decide (((List.length (α := Int) w.2.2.2.1 : Nat) : Int) > 200) then true else decide (((List.length (α := Int) w.2.2.2.2.1 : Nat) : Int) > 200))
  ·have hff : fewB h t = true /\ verFew w := by
    cases h1 : fewB h t
    ·rw [h1] at hc
     cases hc
    ·cases h2 : decide (((List.length (α := bandT.den) w.2.2.1 : Nat) : Int) > 200)
     ·cases h3 : decide (((List.length (α := Int) w.2.2.2.1 : Nat) : Int) > 200)
      ·cases h4 : decide (((List.length (α := Int) w.2.2.2.2.1 : Nat) : Int) > 200)
       ·have h2 := of_decide_eq_false h2
        have h3 := of_decide_eq_false h3
        have h4 := of_decide_eq_false h4
        refine ⟨rfl, ?_, ?_, ?_⟩
        ·show List.length (α := bandT.den) w.2.2.1 <= 1000000
         omega
        ·show List.length (α := Int) w.2.2.2.1 <= 1000000
         omega
        ·show List.length (α := Int) w.2.2.2.2.1 <= 1000000
         omega
       ·rw [h1, h2, h3, h4] at hc
        cases hc
      ·rw [h1, h2, h3] at hc
       cases hc
     ·rw [h1, h2] at hc
      cases hc
   obtain ⟨hfew, hvf⟩ := hff
   obtain ⟨f1, f2⟩ := fewB_fewH hfew
   refine Fr.br_f hc (Fr.need_ f1 (Fr.need_ f2 ?_))
   by_cases hz : (ofF h t).2 = 0
   ·obtain ⟨a1, a2, a3⟩ := of_zero hz
    refine Fr.br_f (by show (((ofF h t).2 : Int) != 0) = false; rw [hz]; rfl) (Fr.need_ f2 (Fr.br_f (by show (((atT h t).2 : Int) != 0) = false; rw [a1]; rfl) (Fr.need_ ?_ (Fr.need_ f2 (Fr.need_ hvf ?_)))))
    ·have hlen : List.length (α := sliceT.den) (ofF h t).1 <= 1000000 := by
      rw [a3, List.length_map]
      exact cut_few f1
     refine ⟨Int.le_refl _, Int.natCast_nonneg _, hlen, fun s hs => ?_⟩
     rw [a3] at hs
     obtain ⟨s0, hs0, rfl⟩ := List.mem_map.1 hs
     exact priced_good (errP_mem _ a2 s0 hs0)
    ·cases hp : (bif ((putF t w).2 : Int) != 0 then true else decide (w.1 <= fromOf h))
     ·have hp0 : (putF t w).2 = 0 := by
       cases h1 : (((putF t w).2 : Int) != 0)
       ·simpa using h1
       ·rw [h1] at hp
        cases hp
      have hw : ¬ w.1 <= fromOf h := by
       have h1 : (((putF t w).2 : Int) != 0) = false := by rw [hp0]; rfl
       rw [h1] at hp
       exact of_decide_eq_false hp
      have hv : ((bif bif true then ((ofF h (putF t w).1).2 : Int) == 0 else false then sameS (ofF h t).1 (ofF h (putF t w).1).1 else false, ()) : Bool × Unit) = (true, ()) := by
       rw [put_of hp0 hw, hz, sameS_refl3]
       rfl
      exact Fr.br_f rfl (Fr.need_ f1 (Fr.need_ (put_few hp0 f2 hvf) ⟨trivial, hv⟩))
     ·exact Fr.br_t rfl ⟨trivial, rfl⟩
   ·exact Fr.br_t (by show (((ofF h t).2 : Int) != 0) = true; simpa using hz) ⟨trivial, rfl⟩
  ·exact Fr.br_t hc ⟨trivial, rfl⟩)
end Go.Proofs.Ytplkgghjldndkaa
