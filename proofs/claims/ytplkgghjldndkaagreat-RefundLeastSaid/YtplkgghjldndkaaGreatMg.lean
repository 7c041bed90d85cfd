/-
  Parts of the proof, one behind the other: I24, I25, I15, I26, I27, I29, I30, I32, I33, I35, I36, L0, L2, AbG, L3, L4, L5, L1, L6, L7, L8, I34, I37, I38, L11, L12.
-/
import Derived.Test.YtplkgghjldndkaaGreatMf
import Derived.RangeFuncNested
import Derived.Lib.AppendZeros
namespace Go.Proofs.YtplkgghjldndkaaGreat
open Go Go.Ab Go.RowKit Go.Proofs
noncomputable def CHR : Cx := cx [(71, cChange), (87, cTerms), (67, cIn)] []
theorem CHR_ok : CxOK Tryz.prog CHR := cx_ok mixed ⟨chRight_ok, tRight_ok, inS_ok, trivial⟩ trivial
abbrev pt_slices_right : Pt := ⟨34, 0, ⟨[(8, .d i64), (7, .d i64), (6, .d (.sl changeT))], [.x 1 31 histT, .r 1 1 0]⟩, ⟨[], [.x 1 31 histT, .r 1 1 0]⟩, ⟨[(2, .d .bool)], []⟩⟩
def fr_slices_right (x : pt_slices_right.M.X) : Fr pt_slices_right.Out :=
 Fr.br (decide (x.1.1 < x.1.2.1)) (Fr.need (0 <= x.1.1 /\ x.1.1 < ((List.length x.1.2.2.1) : Int)) (Fr.br (bif !(cChange.f (((List.getD x.1.2.2.1 (Int.toNat x.1.1) changeT.dflt).1, (List.getD x.1.2.2.1 (Int.toNat x.1.1) changeT.dflt).2.1, (List.getD x.1.2.2.1 (Int.toNat x.1.1) changeT.dflt).2.2.1, ((List.getD x.1.2.2.1 (Int.toNat x.1.1) changeT.dflt).2.2.2.1.1, (List.getD x.1.2.2.1 (Int.toNat x.1.1) changeT.dflt).2.2.2.1.2.1, (List.getD x.1.2.2.1 (Int.toNat x.1.1) changeT.dflt).2.2.2.1.2.2.1, (List.getD x.1.2.2.1 (Int.toNat x.1.1) changeT.dflt).2.2.2.1.2.2.2.1, ()), (List.getD x.1.2.2.1 (Int.toNat x.1.1) changeT.dflt).2.2.2.2.1, (List.getD x.1.2.2.1 (Int.toNat x.1.1) changeT.dflt).2.2.2.2.2.1, ()), ())).1 then true else !(cIn.f ((x.2.1.2.2.1.1.1, x.2.1.2.2.1.1.2.1, ()), (List.getD x.1.2.2.1 (Int.toNat x.1.1) changeT.dflt).2.1, ())).1) (Fr.val (Rd.back ((false, ()), ()))) (Fr.val (Rd.next ((IntKind.i64.wrap (x.1.1 + 1), x.1.2.1, x.1.2.2.1, ()), (x.2.1.1, x.2.1.2.1, ((x.2.1.2.2.1.1.1, x.2.1.2.2.1.1.2.1, ()), (x.2.1.2.2.1.2.1.1, x.2.1.2.2.1.2.1.2.1, x.2.1.2.2.1.2.1.2.2.1, x.2.1.2.2.1.2.1.2.2.2.1, ()), x.2.1.2.2.1.2.2.1, ()), x.2.1.2.2.2.1, ()), ()))))) (Fr.val (Rd.out ((), (x.2.1.1, x.2.1.2.1, ((x.2.1.2.2.1.1.1, x.2.1.2.2.1.1.2.1, ()), (x.2.1.2.2.1.2.1.1, x.2.1.2.2.1.2.1.2.1, x.2.1.2.2.1.2.1.2.2.1, x.2.1.2.2.1.2.1.2.2.2.1, ()), x.2.1.2.2.1.2.2.1, ()), x.2.1.2.2.2.1, ()), ())))
theorem sem_slices_right : Does Tryz.prog (loopF Tryz.f52 0) pt_slices_right.M pt_slices_right fr_slices_right :=
 Does.of_run CHR_ok (bs := 0) (Λ := lam0) rfl rfl rfl (fun E => lam0_ok _ 0) (fun x => by kernel_rfl)
abbrev st_slices_right : Type := denP [] × denM [.x 1 31 histT, .r 1 1 0]
def step_slices_right (e : changeT.den) (s : st_slices_right) : Fr (st_slices_right ⊕ pt_slices_right.R.X) :=
 Fr.br (bif !(cChange.f ((e.1, e.2.1, e.2.2.1, (e.2.2.2.1.1, e.2.2.2.1.2.1, e.2.2.2.1.2.2.1, e.2.2.2.1.2.2.2.1, ()), e.2.2.2.2.1, e.2.2.2.2.2.1, ()), ())).1 then true else !(cIn.f ((s.2.1.2.2.1.1.1, s.2.1.2.2.1.1.2.1, ()), e.2.1, ())).1) (Fr.val (.inr ((false, ()), ()))) (Fr.val (.inl ((), (s.2.1.1, s.2.1.2.1, ((s.2.1.2.2.1.1.1, s.2.1.2.2.1.1.2.1, ()), (s.2.1.2.2.1.2.1.1, s.2.1.2.2.1.2.1.2.1, s.2.1.2.2.1.2.1.2.2.1, s.2.1.2.2.1.2.1.2.2.2.1, ()), s.2.1.2.2.1.2.2.1, ()), s.2.1.2.2.2.1, ()), ())))
def un_slices_right (x : pt_slices_right.M.X) : Int × List changeT.den × st_slices_right := (x.1.1, x.1.2.2.1, x.1.2.2.2, x.2)
def good_slices_right (x : pt_slices_right.M.X) : Prop := x.1.2.1 = (x.1.2.2.1.length : Int)
def out_slices_right (s : st_slices_right) : pt_slices_right.E.X := ((), (s.2.1.1, s.2.1.2.1, ((s.2.1.2.2.1.1.1, s.2.1.2.2.1.1.2.1, ()), (s.2.1.2.2.1.2.1.1, s.2.1.2.2.1.2.1.2.1, s.2.1.2.2.1.2.1.2.2.1, s.2.1.2.2.1.2.1.2.2.2.1, ()), s.2.1.2.2.1.2.2.1, ()), s.2.1.2.2.2.1, ()), ())
def dS_slices_right : st_slices_right := (dfP _, dfM _)
def dR_slices_right : pt_slices_right.R.X := (dfP _, dfM _)
theorem loop_slices_right : Does Tryz.prog (.loop (loopF Tryz.f52 0)) pt_slices_right.M pt_slices_right (FL step_slices_right un_slices_right good_slices_right out_slices_right Rd.back dS_slices_right dR_slices_right) := by
 refine Does.list sem_slices_right step_slices_right un_slices_right good_slices_right out_slices_right Rd.back dS_slices_right dR_slices_right ?_ ?_
 ·rintro ⟨⟨i, n, l, s⟩, m⟩ hg h0 h1 hb e he Q h
  have hg : n = (l.length : Int) := hg
  subst hg
  have h0 : 0 <= i := h0
  have h1 : i < (l.length : Int) := h1
  have hb : (l.length : Int) <= 9223372036854775807 := hb
  have hd : l.getD i.toNat changeT.dflt = e := getD_of he
  have hw := wrap_next h0 h1 hb
  dsimp only [un_slices_right, step_slices_right, fr_slices_right, Fr.satP] at h ⊢
  simp only [hd, hw] at h ⊢
  refine ⟨fun _ => ?_, fun hn => absurd h1 (of_decide_eq_false hn)⟩
  repeat' first
   | exact h
   | exact ⟨h0, h1⟩
   | exact fun _ => ⟨h0, h1⟩
   | exact h _ rfl rfl
   | refine ⟨?_, ?_⟩
   | (intro (hc : _ = true); replace h := h.1 hc)
   | (intro (hc : _ = false); replace h := h.2 hc)
 ·rintro ⟨⟨i, n, l, s⟩, m⟩ hg h1 Q h
  have hg : n = (l.length : Int) := hg
  subst hg
  exact ⟨fun hn => absurd (of_decide_eq_true hn) h1, fun _ => h⟩
def Λ_slices_right (Γ : FuncId -> Option Ct) : St -> Option Tr := pt_slices_right.han Γ pt_slices_right.M (FL step_slices_right un_slices_right good_slices_right out_slices_right Rd.back dS_slices_right dR_slices_right)
def res_slices_right (y : pt_slices_right.M.X) : st_slices_right ⊕ pt_slices_right.R.X := goL step_slices_right ((un_slices_right y).2.1.drop (un_slices_right y).1.toNat) (un_slices_right y).2.2
def okr_slices_right (y : pt_slices_right.M.X) : Prop := okL step_slices_right ((un_slices_right y).2.1.drop (un_slices_right y).1.toNat) (un_slices_right y).2.2
def ff_slices_right (x : denP [.d histT]) : Fr (denL [.bool]) :=
 Fr.need (InL (good_slices_right ((0, ((List.length x.1.2.2.2.1) : Int), x.1.2.2.2.1, ()), (x.1.1, x.1.2.1, ((x.1.2.2.1.1.1, x.1.2.2.1.1.2.1, ()), (x.1.2.2.1.2.1.1, x.1.2.2.1.2.1.2.1, x.1.2.2.1.2.1.2.2.1, x.1.2.2.1.2.1.2.2.2.1, ()), x.1.2.2.1.2.2.1, ()), x.1.2.2.2.1, ()), ())) (un_slices_right ((0, ((List.length x.1.2.2.2.1) : Int), x.1.2.2.2.1, ()), (x.1.1, x.1.2.1, ((x.1.2.2.1.1.1, x.1.2.2.1.1.2.1, ()), (x.1.2.2.1.2.1.1, x.1.2.2.1.2.1.2.1, x.1.2.2.1.2.1.2.2.1, x.1.2.2.1.2.1.2.2.2.1, ()), x.1.2.2.1.2.2.1, ()), x.1.2.2.2.1, ()), ()))) (Fr.need (okr_slices_right ((0, ((List.length x.1.2.2.2.1) : Int), x.1.2.2.2.1, ()), (x.1.1, x.1.2.1, ((x.1.2.2.1.1.1, x.1.2.2.1.1.2.1, ()), (x.1.2.2.1.2.1.1, x.1.2.2.1.2.1.2.1, x.1.2.2.1.2.1.2.2.1, x.1.2.2.1.2.1.2.2.2.1, ()), x.1.2.2.1.2.2.1, ()), x.1.2.2.2.1, ()), ())) (Fr.br (isL (res_slices_right ((0, ((List.length x.1.2.2.2.1) : Int), x.1.2.2.2.1, ()), (x.1.1, x.1.2.1, ((x.1.2.2.1.1.1, x.1.2.2.1.1.2.1, ()), (x.1.2.2.1.2.1.1, x.1.2.2.1.2.1.2.1, x.1.2.2.1.2.1.2.2.1, x.1.2.2.1.2.1.2.2.2.1, ()), x.1.2.2.1.2.2.1, ()), x.1.2.2.2.1, ()), ()))) (Fr.val (bif (cTerms.f ((((out_slices_right (getL dS_slices_right (res_slices_right ((0, ((List.length x.1.2.2.2.1) : Int), x.1.2.2.2.1, ()), (x.1.1, x.1.2.1, ((x.1.2.2.1.1.1, x.1.2.2.1.1.2.1, ()), (x.1.2.2.1.2.1.1, x.1.2.2.1.2.1.2.1, x.1.2.2.1.2.1.2.2.1, x.1.2.2.1.2.1.2.2.2.1, ()), x.1.2.2.1.2.2.1, ()), x.1.2.2.2.1, ()), ())))).2.1.2.2.1.1.1, (out_slices_right (getL dS_slices_right (res_slices_right ((0, ((List.length x.1.2.2.2.1) : Int), x.1.2.2.2.1, ()), (x.1.1, x.1.2.1, ((x.1.2.2.1.1.1, x.1.2.2.1.1.2.1, ()), (x.1.2.2.1.2.1.1, x.1.2.2.1.2.1.2.1, x.1.2.2.1.2.1.2.2.1, x.1.2.2.1.2.1.2.2.2.1, ()), x.1.2.2.1.2.2.1, ()), x.1.2.2.2.1, ()), ())))).2.1.2.2.1.1.2.1, ()), ((out_slices_right (getL dS_slices_right (res_slices_right ((0, ((List.length x.1.2.2.2.1) : Int), x.1.2.2.2.1, ()), (x.1.1, x.1.2.1, ((x.1.2.2.1.1.1, x.1.2.2.1.1.2.1, ()), (x.1.2.2.1.2.1.1, x.1.2.2.1.2.1.2.1, x.1.2.2.1.2.1.2.2.1, x.1.2.2.1.2.1.2.2.2.1, ()), x.1.2.2.1.2.2.1, ()), x.1.2.2.2.1, ()), ())))).2.1.2.2.1.2.1.1, (out_slices_right (getL dS_slices_right (res_slices_right ((0, ((List.length x.1.2.2.2.1) : Int), x.1.2.2.2.1, ()), (x.1.1, x.1.2.1, ((x.1.2.2.1.1.1, x.1.2.2.1.1.2.1, ()), (x.1.2.2.1.2.1.1, x.1.2.2.1.2.1.2.1, x.1.2.2.1.2.1.2.2.1, x.1.2.2.1.2.1.2.2.2.1, ()), x.1.2.2.1.2.2.1, ()), x.1.2.2.2.1, ()), ())))).2.1.2.2.1.2.1.2.1, (out_slices_right (getL dS_slices_right (res_slices_right ((0, ((List.length x.1.2.2.2.1) : Int), x.1.2.2.2.1, ()), (x.1.1, x.1.2.1, ((x.1.2.2.1.1.1, x.1.2.2.1.1.2.1, ()), (x.1.2.2.1.2.1.1, x.1.2.2.1.2.1.2.1, x.1.2.2.1.2.1.2.2.1, x.1.2.2.1.2.1.2.2.2.1, ()), x.1.2.2.1.2.2.1, ()), x.1.2.2.2.1, ()), ())))).2.1.2.2.1.2.1.2.2.1, (out_slices_right (getL dS_slices_right (res_slices_right ((0, ((List.length x.1.2.2.2.1) : Int), x.1.2.2.2.1, ()), (x.1.1, x.1.2.1, ((x.1.2.2.1.1.1, x.1.2.2.1.1.2.1, ()), (x.1.2.2.1.2.1.1, x.1.2.2.1.2.1.2.1, x.1.2.2.1.2.1.2.2.1, x.1.2.2.1.2.1.2.2.2.1, ()), x.1.2.2.1.2.2.1, ()), x.1.2.2.2.1, ()), ())))).2.1.2.2.1.2.1.2.2.2.1, ()), (out_slices_right (getL dS_slices_right (res_slices_right ((0, ((List.length x.1.2.2.2.1) : Int), x.1.2.2.2.1, ()), (x.1.1, x.1.2.1, ((x.1.2.2.1.1.1, x.1.2.2.1.1.2.1, ()), (x.1.2.2.1.2.1.1, x.1.2.2.1.2.1.2.1, x.1.2.2.1.2.1.2.2.1, x.1.2.2.1.2.1.2.2.2.1, ()), x.1.2.2.1.2.2.1, ()), x.1.2.2.2.1, ()), ())))).2.1.2.2.1.2.2.1, ()), ())).1 then decide (((List.length (out_slices_right (getL dS_slices_right (res_slices_right ((0, ((List.length x.1.2.2.2.1) : Int), x.1.2.2.2.1, ()), (x.1.1, x.1.2.1, ((x.1.2.2.1.1.1, x.1.2.2.1.1.2.1, ()), (x.1.2.2.1.2.1.1, x.1.2.2.1.2.1.2.1, x.1.2.2.1.2.1.2.2.1, x.1.2.2.1.2.1.2.2.2.1, ()), x.1.2.2.1.2.2.1, ()), x.1.2.2.2.1, ()), ())))).2.1.2.2.2.1) : Int) <= 2000) else false, ())) (Fr.val ((getR dR_slices_right (res_slices_right ((0, ((List.length x.1.2.2.2.1) : Int), x.1.2.2.2.1, ()), (x.1.1, x.1.2.1, ((x.1.2.2.1.1.1, x.1.2.2.1.1.2.1, ()), (x.1.2.2.1.2.1.1, x.1.2.2.1.2.1.2.1, x.1.2.2.1.2.1.2.2.1, x.1.2.2.1.2.1.2.2.2.1, ()), x.1.2.2.1.2.2.1, ()), x.1.2.2.2.1, ()), ()))).1.1, ()))))
theorem ff_slices_right_ok : SoundCt Tryz.prog 52 ⟨[.d histT], [.bool], fun xs => (ff_slices_right xs).get, fun xs => [(ff_slices_right xs).ok]⟩ :=
 fn_sound CHR_ok (Λ := (fun _ => Λ_slices_right CHR.Γ)) (fn := Tryz.f52) (dfP [.d histT]) (by kernel_rfl) (fun c E hc => lam1f hc (by kernel_rfl) (b := loopF Tryz.f52 0) (by kernel_rfl) (Does.han CHR_ok rfl loop_slices_right)) (fun x => by kernel_rfl)
theorem sr_step (e : changeT.den) (s : st_slices_right) : (step_slices_right e s).get = if (changeB e && inB s.2.1.2.2.1.1.1 s.2.1.2.2.1.1.2.1 e.2.1) = true then .inl s else .inr ((false, ()), ()) := by
 show (if (bif !(changeB e) then true else !(inB s.2.1.2.2.1.1.1 s.2.1.2.2.1.1.2.1 e.2.1)) = true then _ else _) = _
 cases changeB e <;> cases inB s.2.1.2.2.1.1.1 s.2.1.2.2.1.1.2.1 e.2.1 <;> rfl
theorem endF_id {T σ : Type} (l : List T) (s : σ) : endF (fun (_ : T) (s : σ) => s) l s = s := by
 induction l with
 | nil => rfl
 | cons e r ih => exact ih
theorem sRight_ok : SoundCt Tryz.prog 52 cHist :=
 conv ff_slices_right_ok _ _ (fun w F x vs hr _ => by
  obtain ⟨h, _⟩ := x
  obtain ⟨v, vs', rfl, hv, _⟩ := hr
  have hwf := RepT.wf hv.2.2
  have hlen : (h.2.2.2.1.length : Int) <= 9223372036854775807 := len_big hwf.2.2.2.1.1
  refine ⟨⟨⟨rfl, Int.le_refl _, Int.natCast_nonneg _, hlen⟩, okL_of (step := step_slices_right) (fun e s => ⟨fun _ => trivial, fun _ => trivial⟩) _ _, fun _ => trivial, fun _ => trivial⟩, ?_⟩
  have hres := bool_loop (f := fun _ s => s) sr_step h.2.2.2.1 ((), (h, ()))
  rw [allF_keep2, endF_id] at hres
  have hres' : res_slices_right ((0, (h.2.2.2.1.length : Int), h.2.2.2.1, ()), (h, ())) = if (h.2.2.2.1.all fun c => changeB c && inB h.2.2.1.1.1 h.2.2.1.1.2.1 c.2.1) = true then .inl ((), (h, ())) else .inr ((false, ()), ()) := hres
  show (if isL (res_slices_right ((0, (h.2.2.2.1.length : Int), h.2.2.2.1, ()), (h, ()))) = true then
   ((bif termsB (out_slices_right (getL dS_slices_right (res_slices_right ((0, (h.2.2.2.1.length : Int), h.2.2.2.1, ()), (h, ()))))).2.1.2.2.1 then decide (((out_slices_right (getL dS_slices_right (res_slices_right ((0, (h.2.2.2.1.length : Int), h.2.2.2.1, ()), (h, ()))))).2.1.2.2.2.1.length : Int) <= 2000) else false, ()) : Bool × Unit)
   else ((getR dR_slices_right (res_slices_right ((0, (h.2.2.2.1.length : Int), h.2.2.2.1, ()), (h, ())))).1.1, ())) = (histB h, ())
  rw [hres']
  unfold histB
  cases ha : (h.2.2.2.1.all fun c => changeB c && inB h.2.2.1.1.1 h.2.2.1.1.2.1 c.2.1) with
  | false =>
   show ((false, ()) : Bool × Unit) = _
   rw [Bool.and_false]
  | true =>
   show ((bif termsB h.2.2.1 then decide ((h.2.2.2.1.length : Int) <= 2000) else false, ()) : Bool × Unit) = _
   rw [Bool.and_true]
   have : decide ((h.2.2.2.1.length : Int) <= 2000) = decide (h.2.2.2.1.length <= 2000) := by
    rw [Bool.eq_iff_iff]
    simp only [decide_eq_true_eq]
    omega
   rw [this]
   cases termsB h.2.2.1 <;> rfl)
abbrev bitsW : List (FuncId × Ct) := [(147, cMul), (148, cDivW)]
theorem bitsW_ok : AllCt Tryz.prog bitsW := ⟨mul_ok, divW_ok, trivial⟩
noncomputable def CW1 : Cx := cx bitsW []
noncomputable def CW2 : Cx := cxK bitsW [] (inlK Tryz.prog CW1 XiN)
noncomputable def CW3 : Cx := cxK bitsW [] (inlK Tryz.prog CW2 XiO)
theorem CW1_ok : CxOK Tryz.prog CW1 := cx_ok mixed bitsW_ok trivial
theorem CW2_ok : CxOK Tryz.prog CW2 := cxK_ok mixed bitsW_ok trivial (inlK_ok CW1_ok XiN_ok)
theorem CW3_ok : CxOK Tryz.prog CW3 := cxK_ok mixed bitsW_ok trivial (inlK_ok CW2_ok XiO_ok)
def evDW (h l c : Int) : Fr (denL [i64, i64]) :=
 Fr.br (decide (h ≥ c)) (Fr.val (0, 5, ())) (Fr.need ((h = 0 /\ 0 < c) ∨ (c = 10000 /\ h < 10000)) (evT (cDivW.f (h, l, c, ())).1 (cDivW.f (h, l, c, ())).2.1 c))
def frEvenW (x : denP [.d i64, .d i64, .d i64]) : Fr (denL [i64, i64]) :=
 Fr.br (bif bif decide (x.1 < 0) then true else decide (x.2.1 < 0) then true else decide (x.2.2.1 < 0)) (Fr.val (0, 1, ()))
  (Fr.br (x.2.2.1 == 0) (Fr.val (0, 6, ()))
   (evDW (cMul.f (IntKind.u64.wrap x.1, IntKind.u64.wrap x.2.1, ())).1 (cMul.f (IntKind.u64.wrap x.1, IntKind.u64.wrap x.2.1, ())).2.1 (IntKind.u64.wrap x.2.2.1)))
theorem evDW_eq {p c : Int} (hp : 0 <= p) (hc : 0 < c) (hc2 : c <= 9223372036854775807) (h : p < 18446744073709551616 ∨ c = 10000) :
  (evDW (p / 18446744073709551616) (p % 18446744073709551616) c).ok /\ (evDW (p / 18446744073709551616) (p % 18446744073709551616) c).get = if evenQ p c > 4000000000000000000 then (0, 5, ()) else (evenQ p c, 0, ()) := by
 have hsum : p / 18446744073709551616 * 18446744073709551616 + p % 18446744073709551616 = p := by omega
 have hr1 := Int.emod_nonneg p (b := c) (by omega)
 have hr2 := Int.emod_lt_of_pos p hc
 have hq := Int.ediv_nonneg hp (Int.le_of_lt hc)
 unfold evDW
 by_cases hge : p / 18446744073709551616 ≥ c
 ·refine Fr.br_t (decide_eq_true hge) ⟨trivial, ?_⟩
  rcases h with h | h
  ·omega
  ·subst h
   have : evenQ p 10000 > 4000000000000000000 := by
    unfold evenQ
    split <;> omega
   rw [if_pos this]
   rfl
 ·have hneed : (p / 18446744073709551616 = 0 /\ 0 < c) ∨ (c = 10000 /\ p / 18446744073709551616 < 10000) := by
   rcases h with h | h
   ·exact .inl ⟨by omega, hc⟩
   ·exact .inr ⟨h, by omega⟩
  refine Fr.br_f (decide_eq_false hge) (Fr.need_ hneed ?_)
  show (evT ((p / 18446744073709551616 * 18446744073709551616 + p % 18446744073709551616) / c) ((p / 18446744073709551616 * 18446744073709551616 + p % 18446744073709551616) % c) c).ok /\ (evT ((p / 18446744073709551616 * 18446744073709551616 + p % 18446744073709551616) / c) ((p / 18446744073709551616 * 18446744073709551616 + p % 18446744073709551616) % c) c).get = _
  rw [hsum]
  have key := evT_eq (q := p / c) (r := p % c) (c := c) ⟨hr1, hr2⟩ hc2 hq
  refine ⟨key.1, ?_⟩
  rw [key.2]
  rfl
theorem evenW_plain {a b c : Int} (ha : -9223372036854775808 <= a /\ a <= 9223372036854775807) (hb : -9223372036854775808 <= b /\ b <= 9223372036854775807) (hc : -9223372036854775808 <= c /\ c <= 9223372036854775807)
  (hp : 0 <= a -> 0 <= b -> a * b < 18446744073709551616 ∨ c = 10000) : (frEvenW (a, b, c, ())).ok /\ (frEvenW (a, b, c, ())).get = ((evenF a b c).1, (evenF a b c).2, ()) := by
 unfold frEvenW
 simp only [bif3]
 by_cases hn : a < 0 ∨ b < 0 ∨ c < 0
 ·have hd : (decide (a < 0) || (decide (b < 0) || decide (c < 0))) = true := by simpa using hn
  refine Fr.br_t hd ⟨trivial, ?_⟩
  unfold evenF
  rw [if_pos hn]
  rfl
 ·have hd : (decide (a < 0) || (decide (b < 0) || decide (c < 0))) = false := by simpa using hn
  have ha0 : 0 <= a := by omega
  have hb0 : 0 <= b := by omega
  have hc0 : 0 <= c := by omega
  have hab0 : 0 <= a * b := Int.mul_nonneg ha0 hb0
  refine Fr.br_f hd ?_
  rw [show IntKind.u64.wrap a = a from u64w (by omega), show IntKind.u64.wrap b = b from u64w (by omega), show IntKind.u64.wrap c = c from u64w (by omega)]
  unfold evenF
  rw [if_neg hn]
  by_cases hz : c = 0
  ·refine Fr.br_t (by simpa using hz) ⟨trivial, ?_⟩
   rw [if_pos hz]
   rfl
  ·refine Fr.br_f (by simpa using hz) ?_
   rw [if_neg hz]
   have key := evDW_eq (p := a * b) (c := c) hab0 (by omega) hc.2 (hp ha0 hb0)
   refine ⟨key.1, ?_⟩
   show (evDW (a * b / 18446744073709551616) (a * b % 18446744073709551616) c).get = _
   rw [key.2]
   split <;> rfl
def cEvenW : Ct := ⟨[.d i64, .d i64, .d i64], [i64, i64], fun x => ((evenF x.1 x.2.1 x.2.2.1).1, (evenF x.1 x.2.1 x.2.2.1).2, ()), fun x => [0 <= x.1 -> 0 <= x.2.1 -> x.1 * x.2.1 < 18446744073709551616 ∨ x.2.2.1 = 10000]⟩
theorem evenW_ok : SoundCt Tryz.prog 76 cEvenW :=
 flat (ps := [.d i64, .d i64, .d i64]) (rs := [i64, i64]) CW3_ok (fn := Tryz.f76) (fr := frEvenW) (0, 0, 0, ()) (by kernel_rfl) (fun x => by kernel_rfl) _ _
  (fun w F x vs hr hok => by
   obtain ⟨a, b, c, u⟩ := x
   obtain ⟨v1, vs1, rfl, h1, v2, vs2, rfl, h2, v3, vs3, rfl, h3, _⟩ := hr
   exact evenW_plain (i64_of h1) (i64_of h2) (i64_of h3) hok)
def bpF (m b : Int) : Int × Int := evenF m b 10000
def cBp : Ct := ⟨[.d i64, .d i64], [i64, i64], fun x => ((bpF x.1 x.2.1).1, (bpF x.1 x.2.1).2, ()), fun _ => []⟩
noncomputable def CW4 : Cx := cx [(76, cEvenW)] []
theorem CW4_ok : CxOK Tryz.prog CW4 := cx_ok mixed ⟨evenW_ok, trivial⟩ trivial
theorem bp_ok : SoundCt Tryz.prog 47 cBp :=
 flat (ps := [.d i64, .d i64]) (rs := [i64, i64]) CW4_ok (fn := Tryz.f47) (fr := fun x => Fr.need (0 <= x.1 -> 0 <= x.2.1 -> x.1 * x.2.1 < 18446744073709551616 ∨ (10000 : Int) = 10000) (Fr.val (cEvenW.f (x.1, x.2.1, 10000, ())))) (0, 0, ()) (by kernel_rfl) (fun x => by kernel_rfl) _ _
  (fun w F x vs hr hok => ⟨⟨fun _ _ => .inr rfl, trivial⟩, rfl⟩)
abbrev fiveT : Ty := .pair i64 (.pair i64 (.pair i64 (.pair i64 (.pair i64 .unit))))
def f5 (f : fiveT.den) : List Int := [f.1, f.2.1, f.2.2.1, f.2.2.2.1, f.2.2.2.2.1]
def bpGo : List Int -> Int -> Int × Int
 | [], m => (m, 0)
 | b :: r, m => if (bpF m b).2 = 0 then bpGo r (bpF m b).1 else bpF m b
noncomputable def CQ : Cx := cx [(131, cVer), (123, cRisk), (132, cCover), (133, cBand), (47, cBp)] []
theorem CQ_ok : CxOK Tryz.prog CQ := cx_ok mixed ⟨tVer_ok, risk_ok, cover_ok, band_ok, bp_ok, trivial⟩ trivial
def MQ : LS := ⟨[(8, .d i64), (9, .d i64), (59, .d fiveT), (60, .d i64)], [.x 3 71 verT, .r 3 3 0]⟩
def EQ : LS := ⟨[(8, .d i64), (9, .d i64)], [.x 3 71 verT, .r 3 3 0]⟩
def ptQ : Pt := ⟨79, 1, MQ, EQ, ⟨[], []⟩⟩
def fQ (x : MQ.X) : Fr ptQ.Out :=
 Fr.br (decide (x.1.2.2.2.1 < 5))
  (Fr.need (0 <= x.1.2.2.2.1 /\ x.1.2.2.2.1 < ((5 : Nat) : Int))
   (Fr.br ((cBp.f (x.1.1, (f5 x.1.2.2.1).getD x.1.2.2.2.1.toNat 0, ())).2.1 != 0)
    (Fr.val (Rd.out (((cBp.f (x.1.1, (f5 x.1.2.2.1).getD x.1.2.2.2.1.toNat 0, ())).1, (cBp.f (x.1.1, (f5 x.1.2.2.1).getD x.1.2.2.2.1.toNat 0, ())).2.1, ()), x.2)))
    (Fr.val (Rd.next (((cBp.f (x.1.1, (f5 x.1.2.2.1).getD x.1.2.2.2.1.toNat 0, ())).1, (cBp.f (x.1.1, (f5 x.1.2.2.1).getD x.1.2.2.2.1.toNat 0, ())).2.1, x.1.2.2.1, IntKind.i64.wrap (x.1.2.2.2.1 + 1), ()), x.2)))))
  (Fr.val (Rd.out ((x.1.1, x.1.2.1, ()), x.2)))
theorem semQ : Does Tryz.prog (loopF Tryz.f94 0) MQ ptQ fQ := Does.of_run CQ_ok (bs := 0) rfl rfl rfl (fun _ => lam0_ok _ 0) (fun x => by kernel_rfl)
def InQ (i e : Int) : Prop := 0 <= i /\ i <= 5 /\ e = 0
def FQ (x : MQ.X) : Fr ptQ.Out := Fr.need (InQ x.1.2.2.2.1 x.1.2.1) (Fr.val (.out (((bpGo ((f5 x.1.2.2.1).drop x.1.2.2.2.1.toNat) x.1.1).1, (bpGo ((f5 x.1.2.2.1).drop x.1.2.2.2.1.toNat) x.1.1).2, ()), x.2)))
theorem lawQ (m e i : Int) (f : fiveT.den) (y : denM [.x 3 71 verT, .r 3 3 0]) (hinv : InQ i e) (Q : ptQ.Out -> Prop) (hq : Q (.out (((bpGo ((f5 f).drop i.toNat) m).1, (bpGo ((f5 f).drop i.toNat) m).2, ()), y))) :
  (fQ ((m, e, f, i, ()), y)).satP fun
   | .next x' => InQ x'.1.2.2.2.1 x'.1.2.1 /\ (5 - x'.1.2.2.2.1).toNat < (5 - i).toNat /\ (FQ x').satP Q
   | .out y => Q (.out y)
   | .back z => Q (.back z)
   | .pan p => Q (.pan p) := by
 obtain ⟨h1, h2, rfl⟩ := hinv
 refine ⟨fun hi => ?_, fun hi => ?_⟩
 ·have hi' : i < 5 := of_decide_eq_true hi
  obtain ⟨k, rfl⟩ : ∃ k : Nat, i = k := ⟨i.toNat, by omega⟩
  have hl : k < (f5 f).length := by show k < 5; omega
  have hw : IntKind.i64.wrap ((k : Int) + 1) = k + 1 := IntWalk.i64_in _ (by omega)
  have g1 : (f5 f).getD (k : Int).toNat 0 = (f5 f)[k] := by
   rw [show (k : Int).toNat = k by omega, List.getD_eq_getElem?_getD, List.getElem?_eq_getElem hl]; rfl
  have hd : (f5 f).drop (k : Int).toNat = (f5 f)[k] :: (f5 f).drop (k + 1) := by
   rw [show (k : Int).toNat = k by omega]
   exact List.drop_eq_getElem_cons hl
  rw [hd] at hq
  dsimp only [fQ, Fr.satP]
  rw [g1, hw]
  show (0 <= (k : Int) /\ (k : Int) < ((5 : Nat) : Int)) /\ (((bpF m (f5 f)[k]).2 != 0) = true -> Q (.out (((bpF m (f5 f)[k]).1, (bpF m (f5 f)[k]).2, ()), y))) /\ (((bpF m (f5 f)[k]).2 != 0) = false -> InQ (k + 1) (bpF m (f5 f)[k]).2 /\ (5 - ((k : Int) + 1)).toNat < (5 - (k : Int)).toNat /\ (FQ (((bpF m (f5 f)[k]).1, (bpF m (f5 f)[k]).2, f, (k : Int) + 1, ()), y)).satP Q)
  refine ⟨⟨by omega, by omega⟩, fun hb => ?_, fun hb => ?_⟩
  ·have hb' : ¬ (bpF m (f5 f)[k]).2 = 0 := by simpa using hb
   have e : bpGo ((f5 f)[k] :: (f5 f).drop (k + 1)) m = bpF m (f5 f)[k] := if_neg hb'
   rw [e] at hq
   exact hq
  ·have hb' : (bpF m (f5 f)[k]).2 = 0 := by simpa using hb
   have e : bpGo ((f5 f)[k] :: (f5 f).drop (k + 1)) m = bpGo ((f5 f).drop (k + 1)) (bpF m (f5 f)[k]).1 := if_pos hb'
   rw [e] at hq
   have hI : InQ ((k : Int) + 1) (bpF m (f5 f)[k]).2 := ⟨by omega, by omega, hb'⟩
   refine ⟨hI, by omega, hI, ?_⟩
   have : ((k : Int) + 1).toNat = k + 1 := by omega
   show Q (.out (((bpGo ((f5 f).drop ((k : Int) + 1).toNat) (bpF m (f5 f)[k]).1).1, (bpGo ((f5 f).drop ((k : Int) + 1).toNat) (bpF m (f5 f)[k]).1).2, ()), y))
   rw [this]
   exact hq
 ·have hi' : ¬ i < 5 := of_decide_eq_false hi
  have : i = 5 := by omega
  subst this
  exact hq
theorem loopQ : Does Tryz.prog (.loop (loopF Tryz.f94 0)) MQ ptQ FQ := by
 refine Does.loop (n := 79) (id := 1) semQ (inv := fun x => InQ x.1.2.2.2.1 x.1.2.1) (μ := fun x => (5 - x.1.2.2.2.1).toNat) ?_ (fun x Q h => h.1)
 rintro ⟨⟨m, e, f, i, _⟩, y⟩ hinv Q hq
 exact lawQ m e i f y hinv Q hq.2
def oneL (v : verT.den) (r : riskT.den) (c : coverT.den) : List Int :=
 [([v.2.1.1, v.2.1.2.1, v.2.1.2.2.1, v.2.1.2.2.2.1] : List Int).getD r.1.toNat 0, bandD r.2.2.1 v.2.2.1 10000, v.2.2.2.1.getD r.2.2.2.1.toNat 0, v.2.2.2.2.1.getD c.1.toNat 0, c.2.2.2.2.1]
def oneF (v : verT.den) (r : riskT.den) (c : coverT.den) : Int × Int :=
 if (verB v && (riskB r.1 r.2.1 r.2.2.1 r.2.2.2.1 && coverB c.1 c.2.1 c.2.2.1 c.2.2.2.1 c.2.2.2.2.1)) = true then
  if r.2.2.2.1 ≥ v.2.2.2.1.length then (0, 7) else
   if (bpGo (oneL v r c) r.2.1).2 = 0 then (if (bpGo (oneL v r c) r.2.1).1 < v.2.2.2.2.2.1 then v.2.2.2.2.2.1 else (bpGo (oneL v r c) r.2.1).1, 0) else (0, (bpGo (oneL v r c) r.2.1).2)
 else (0, 1)
def cOne : Ct := ⟨[.d verT, .d riskT, .d coverT], [i64, i64], fun x => ((oneF x.1 x.2.1 x.2.2.1).1, (oneF x.1 x.2.1 x.2.2.1).2, ()), fun _ => []⟩
def frOne (x : denP [.d verT, .d riskT, .d coverT]) : Fr (denL [i64, i64]) :=
 Fr.br (bif bif !(cVer.f (x.1, ())).1 then true else !(cRisk.f (x.2.1, ())).1 then true else !(cCover.f (x.2.2.1, ())).1) (Fr.val (0, 1, ()))
  (Fr.br (decide (x.2.1.2.2.2.1 ≥ x.1.2.2.2.1.length)) (Fr.val (0, 7, ()))
   (Fr.need (0 <= x.2.1.1 /\ x.2.1.1 < ((4 : Nat) : Int))
    (Fr.need (0 <= x.2.1.2.2.2.1 /\ x.2.1.2.2.2.1 < x.1.2.2.2.1.length)
     (Fr.need (0 <= x.2.2.1.1 /\ x.2.2.1.1 < x.1.2.2.2.2.1.length)
      (Fr.need (InQ 0 0)
       (Fr.br ((bpGo (oneL x.1 x.2.1 x.2.2.1) x.2.1.2.1).2 != 0) (Fr.val (0, (bpGo (oneL x.1 x.2.1 x.2.2.1) x.2.1.2.1).2, ()))
        (Fr.val (if (bpGo (oneL x.1 x.2.1 x.2.2.1) x.2.1.2.1).1 < x.1.2.2.2.2.2.1 then x.1.2.2.2.2.2.1 else (bpGo (oneL x.1 x.2.1 x.2.2.1) x.2.1.2.1).1, 0, ()))))))))
theorem one_run : SoundCt Tryz.prog 94 ⟨[.d verT, .d riskT, .d coverT], [i64, i64], fun xs => (frOne xs).get, fun xs => [(frOne xs).ok]⟩ :=
 fn_sound CQ_ok (Λ := fun _ => ptQ.han CQ.Γ MQ FQ) (fn := Tryz.f94) (fr := frOne) (ps := [.d verT, .d riskT, .d coverT]) (rs := [i64, i64]) (verT.dflt, riskT.dflt, coverT.dflt, ()) (by kernel_rfl)
  (fun c E hc => lam1f hc (by kernel_rfl) (b := loopF Tryz.f94 0) (by kernel_rfl) (Does.han CQ_ok rfl loopQ)) (fun x => by kernel_rfl)
theorem not3 (a b c : Bool) : (bif bif !a then true else !b then true else !c) = !(a && (b && c)) := by cases a <;> cases b <;> cases c <;> rfl
theorem verB_peril {v : verT.den} (h : verB v = true) : v.2.2.2.2.1.length = 8 := by
 unfold verB at h
 rw [Bool.and_eq_true] at h
 have h1 := of_decide_eq_true h.1
 exact h1.2.2.2.2.2.2.2
theorem riskB_kind {k v a z : Int} (h : riskB k v a z = true) : 0 <= k /\ k < 4 /\ 0 <= z := by
 have h1 := of_decide_eq_true h
 exact ⟨h1.1, h1.2.1, h1.2.2.2.2.2.2.1⟩
theorem coverB_peril {p l g d s : Int} (h : coverB p l g d s = true) : 0 <= p /\ p < 8 := by
 have h1 := of_decide_eq_true h
 exact ⟨h1.1, h1.2.1⟩
theorem one_eq (v : verT.den) (k val a z : Int) (c : coverT.den) : (frOne (v, (k, val, a, z, ()), c, ())).ok /\ (frOne (v, (k, val, a, z, ()), c, ())).get = ((oneF v (k, val, a, z, ()) c).1, (oneF v (k, val, a, z, ()) c).2, ()) := by
 obtain ⟨p, l, g, d, s, _⟩ := c
 unfold frOne oneF
 have e0 : (bif bif !(cVer.f (v, ())).1 then true else !(cRisk.f ((k, val, a, z, ()), ())).1 then true else !(cCover.f ((p, l, g, d, s, ()), ())).1) = !(verB v && (riskB k val a z && coverB p l g d s)) := not3 _ _ _
 by_cases h : (verB v && (riskB k val a z && coverB p l g d s)) = true
 ·rw [if_pos h]
  refine Fr.br_f (by rw [e0, h]; rfl) ?_
  rw [Bool.and_eq_true, Bool.and_eq_true] at h
  obtain ⟨h1, h2, h3⟩ := h
  obtain ⟨r1, r2, r3⟩ := riskB_kind h2
  obtain ⟨c1, c2⟩ := coverB_peril h3
  have hp := verB_peril h1
  by_cases hz : z ≥ (v.2.2.2.1.length : Int)
  ·rw [if_pos hz]
   exact Fr.br_t (decide_eq_true hz) ⟨trivial, rfl⟩
  ·rw [if_neg hz]
   have hz' : z < (v.2.2.2.1.length : Int) := Int.not_le.1 hz
   refine Fr.br_f (decide_eq_false hz) (Fr.need_ ⟨r1, by omega⟩ (Fr.need_ ⟨r3, hz'⟩ (Fr.need_ ⟨c1, ?_⟩ (Fr.need_ ⟨by omega, by omega, rfl⟩ ?_))))
   ·show p < (v.2.2.2.2.1.length : Int)
    rw [hp]
    exact c2
   ·by_cases hb : (bpGo (oneL v (k, val, a, z, ()) (p, l, g, d, s, ())) val).2 = 0
    ·have hb' : ((bpGo (oneL v (k, val, a, z, ()) (p, l, g, d, s, ())) val).2 != 0) = false := by rw [hb]; rfl
     rw [if_pos hb]
     exact Fr.br_f hb' ⟨trivial, rfl⟩
    ·have hb' : ((bpGo (oneL v (k, val, a, z, ()) (p, l, g, d, s, ())) val).2 != 0) = true := bne_iff_ne.2 hb
     rw [if_neg hb]
     exact Fr.br_t hb' ⟨trivial, rfl⟩
 ·rw [if_neg h]
  simp only [Bool.not_eq_true] at h
  exact Fr.br_t (by rw [e0, h]; rfl) ⟨trivial, rfl⟩
theorem one_ok : SoundCt Tryz.prog 94 cOne :=
 convF one_run _ _ (fun _ _ x _ _ _ => by
  obtain ⟨v, ⟨k, val, a, z, _⟩, c, _⟩ := x
  exact one_eq v k val a z c)
noncomputable def CY1 : Cx := cx [] []
theorem CY1_ok : CxOK Tryz.prog CY1 := cx_ok (cs := []) (ps := []) mixed trivial trivial
noncomputable def XiY : FuncId -> Option (Func × (Nat -> St -> Option Tr)) := envF [(93, (Tryz.f93, lam0)), (130, (Tryz.f130, lam0))]
theorem XiY_ok : ∀ f fn Λ, XiY f = some (fn, Λ) -> Tryz.prog.funcs[f]? = some fn /\ ∀ c E', fn.body = some c -> LamOK Tryz.prog E' Λ c 0 := fun f fn Λ h => by
 simp only [XiY, envF] at h
 split at h
 ·rename_i hf
  subst hf
  cases h
  exact ⟨by kernel_rfl, fun c E' _ => lam0_ok c 0⟩
 ·split at h
  ·rename_i hf
   subst hf
   cases h
   exact ⟨by kernel_rfl, fun c E' _ => lam0_ok c 0⟩
  ·cases h
noncomputable def CY : Cx := cxK [(94, cOne)] [] (inlK Tryz.prog CY1 XiY)
theorem CY_ok : CxOK Tryz.prog CY := cxK_ok mixed ⟨one_ok, trivial⟩ trivial (inlK_ok CY1_ok XiY_ok)
def MY : LS := ⟨[(16, .d (.sl coverT)), (17, .d i64), (18, .d i64), (9, .d i64), (10, .d .bool)], [.x 3 71 verT, .r 3 3 0, .x 4 25 riskT, .r 4 4 0, .x 160001 3 i64, .g 8 130 [160001]]⟩
def EY : LS := ⟨[(9, .d i64), (10, .d .bool)], []⟩
def ptY : Pt := ⟨43, 0, MY, EY, ⟨[(6, .d i64), (7, .d i64)], []⟩⟩
def fY1 (v : verT.den) (r : riskT.den) (l : List coverT.den) (n i s : Int) (b : Bool) (q : Int) (c : coverT.den) : Fr ptY.Out :=
 Fr.br ((cOne.f (v, r, c, ())).2.1 != 0) (Fr.val (Rd.back ((0, (cOne.f (v, r, c, ())).2.1, ()), ())))
  (Fr.br b
   (Fr.br (decide ((cOne.f (v, r, c, ())).1 > IntKind.i64.wrap (4000000000000000000 - q)))
    (Fr.val (Rd.next ((l, n, IntKind.i64.wrap (i + 1), 0, false, ()), (v, r, q, ()))))
    (Fr.val (Rd.next ((l, n, IntKind.i64.wrap (i + 1), IntKind.i64.wrap (q + (cOne.f (v, r, c, ())).1), true, ()), (v, r, IntKind.i64.wrap (q + (cOne.f (v, r, c, ())).1), ())))))
   (Fr.val (Rd.next ((l, n, IntKind.i64.wrap (i + 1), s, b, ()), (v, r, q, ())))))
def fY (x : MY.X) : Fr ptY.Out :=
 Fr.br (decide (x.1.2.2.1 < x.1.2.1))
  (Fr.need (0 <= x.1.2.2.1 /\ x.1.2.2.1 < x.1.1.length) (fY1 x.2.1 x.2.2.1 x.1.1 x.1.2.1 x.1.2.2.1 x.1.2.2.2.1 x.1.2.2.2.2.1 x.2.2.2.1 (x.1.1.getD x.1.2.2.1.toNat coverT.dflt)))
  (Fr.val (Rd.out ((x.1.2.2.2.1, x.1.2.2.2.2.1, ()), ())))
theorem semY : Does Tryz.prog (loopF Tryz.f55 0) MY ptY fY := Does.of_run CY_ok (bs := 0) rfl rfl rfl (fun _ => lam0_ok _ 0) (fun x => by kernel_rfl)
def yrGo (v : verT.den) (r : riskT.den) : List coverT.den -> Int -> Bool -> Int × Bool × Int
 | [], q, b => (if b = true then q else 0, b, 0)
 | c :: l, q, b => if (oneF v r c).2 = 0 then
   (if b = true then (if (oneF v r c).1 > 4000000000000000000 - q then yrGo v r l q false else yrGo v r l (q + (oneF v r c).1) true) else yrGo v r l q false)
  else (0, false, (oneF v r c).2)
theorem oneF_pos {v : verT.den} {r : riskT.den} {c : coverT.den} (h : (oneF v r c).2 = 0) : 0 <= (oneF v r c).1 := by
 unfold oneF at h ⊢
 split
 ·rename_i h1
  rw [if_pos h1] at h
  split
  ·exact Int.le_refl 0
  ·rename_i h2
   rw [if_neg h2] at h
   split
   ·have hv : verB v = true := (Bool.and_eq_true_iff.1 h1).1
    have hmin : 0 <= v.2.2.2.2.2.1 := by
     unfold verB at hv
     rw [Bool.and_eq_true] at hv
     exact (of_decide_eq_true hv.1).2.2.1
    show 0 <= (if (bpGo (oneL v r c) r.2.1).1 < v.2.2.2.2.2.1 then v.2.2.2.2.2.1 else (bpGo (oneL v r c) r.2.1).1)
    split
    ·exact hmin
    ·rename_i h3
     exact Int.le_trans hmin (Int.not_lt.1 h3)
   ·exact Int.le_refl 0
 ·exact Int.le_refl 0
def InY (l : List coverT.den) (n i s : Int) (b : Bool) (q : Int) : Prop := 0 <= i /\ i <= n /\ n = l.length /\ n <= 9223372036854775807 /\ 0 <= q /\ q <= 4000000000000000000 /\ s = if b = true then q else 0
def outY (y : Int × Bool × Int) : Fr ptY.Out := Fr.br (y.2.2 != 0) (Fr.val (Rd.back ((0, y.2.2, ()), ()))) (Fr.val (Rd.out ((y.1, y.2.1, ()), ())))
def FY (x : MY.X) : Fr ptY.Out := Fr.need (InY x.1.1 x.1.2.1 x.1.2.2.1 x.1.2.2.2.1 x.1.2.2.2.2.1 x.2.2.2.1) (outY (yrGo x.2.1 x.2.2.1 (x.1.1.drop x.1.2.2.1.toNat) x.2.2.2.1 x.1.2.2.2.2.1))
theorem lawY (v : verT.den) (r : riskT.den) (l : List coverT.den) (n i s : Int) (b : Bool) (q : Int) (hinv : InY l n i s b q) (Q : ptY.Out -> Prop) (hq : (outY (yrGo v r (l.drop i.toNat) q b)).satP Q) :
  (fY ((l, n, i, s, b, ()), (v, r, q, ()))).satP fun
   | .next x' => InY x'.1.1 x'.1.2.1 x'.1.2.2.1 x'.1.2.2.2.1 x'.1.2.2.2.2.1 x'.2.2.2.1 /\ (x'.1.2.1 - x'.1.2.2.1).toNat < (n - i).toNat /\ (FY x').satP Q
   | .out y => Q (.out y)
   | .back z => Q (.back z)
   | .pan p => Q (.pan p) := by
 obtain ⟨h1, h2, rfl, h4, h5, h6, h7⟩ := hinv
 refine ⟨fun hi => ?_, fun hi => ?_⟩
 ·have hi' : i < (l.length : Int) := of_decide_eq_true hi
  obtain ⟨k, rfl⟩ : ∃ k : Nat, i = k := ⟨i.toNat, by omega⟩
  have hl : k < l.length := by omega
  have g1 : l.getD (k : Int).toNat coverT.dflt = l[k] := by
   rw [show (k : Int).toNat = k by omega, List.getD_eq_getElem?_getD, List.getElem?_eq_getElem hl]; rfl
  have hw : IntKind.i64.wrap ((k : Int) + 1) = k + 1 := IntWalk.i64_in _ (by omega)
  have hd : l.drop (k : Int).toNat = l[k] :: l.drop (k + 1) := by
   rw [show (k : Int).toNat = k by omega]
   exact List.drop_eq_getElem_cons hl
  have hn1 : ((k : Int) + 1).toNat = k + 1 := by omega
  rw [hd] at hq
  refine ⟨⟨by omega, hi'⟩, ?_⟩
  show (fY1 v r l l.length k s b q (l.getD (k : Int).toNat coverT.dflt)).satP _
  rw [g1]
  unfold fY1
  rw [hw]
  generalize l[k] = c at *
  have hμ : ((l.length : Int) - ((k : Int) + 1)).toNat < ((l.length : Int) - k).toNat := by omega
  refine ⟨fun he => ?_, fun he => ?_⟩
  ·have he' : ¬ (oneF v r c).2 = 0 := bne_iff_ne.1 he
   have e : yrGo v r (c :: l.drop (k + 1)) q b = (0, false, (oneF v r c).2) := if_neg he'
   rw [e] at hq
   exact hq.1 he
  ·have he' : (oneF v r c).2 = 0 := by
    have : ((oneF v r c).2 != 0) = false := he
    simpa using this
   have hpos := oneF_pos he'
   have e : yrGo v r (c :: l.drop (k + 1)) q b = (if b = true then (if (oneF v r c).1 > 4000000000000000000 - q then yrGo v r (l.drop (k + 1)) q false else yrGo v r (l.drop (k + 1)) (q + (oneF v r c).1) true) else yrGo v r (l.drop (k + 1)) q false) := if_pos he'
   rw [e] at hq
   have hw2 : IntKind.i64.wrap (4000000000000000000 - q) = 4000000000000000000 - q := IntWalk.i64_in _ (by omega)
   refine ⟨fun hb => ?_, fun hb => ?_⟩
   ·rw [if_pos hb] at hq
    rw [hw2]
    refine ⟨fun hg => ?_, fun hg => ?_⟩
    ·have hg' : (oneF v r c).1 > 4000000000000000000 - q := of_decide_eq_true hg
     rw [if_pos hg'] at hq
     have hI : InY l l.length ((k : Int) + 1) 0 false q := ⟨by omega, by omega, rfl, h4, h5, h6, rfl⟩
     refine ⟨hI, hμ, hI, ?_⟩
     show (outY (yrGo v r (l.drop ((k : Int) + 1).toNat) q false)).satP Q
     rw [hn1]
     exact hq
    ·have hg' : ¬ (oneF v r c).1 > 4000000000000000000 - q := of_decide_eq_false hg
     rw [if_neg hg'] at hq
     have hw3 : IntKind.i64.wrap (q + (cOne.f (v, r, c, ())).1) = q + (oneF v r c).1 := IntWalk.i64_in (q + (oneF v r c).1) (by omega)
     rw [hw3]
     have hI : InY l l.length ((k : Int) + 1) (q + (oneF v r c).1) true (q + (oneF v r c).1) := ⟨by omega, by omega, rfl, h4, by omega, by omega, rfl⟩
     refine ⟨hI, hμ, hI, ?_⟩
     show (outY (yrGo v r (l.drop ((k : Int) + 1).toNat) (q + (oneF v r c).1) true)).satP Q
     rw [hn1]
     exact hq
   ·subst hb
    rw [if_neg (by decide)] at hq
    have hI : InY l l.length ((k : Int) + 1) s false q := ⟨by omega, by omega, rfl, h4, h5, h6, h7⟩
    refine ⟨hI, hμ, hI, ?_⟩
    show (outY (yrGo v r (l.drop ((k : Int) + 1).toNat) q false)).satP Q
    rw [hn1]
    exact hq
 ·have hi' : ¬ i < (l.length : Int) := of_decide_eq_false hi
  have e : l.drop i.toNat = [] := List.drop_eq_nil_of_le (by omega)
  rw [e] at hq
  subst h7
  exact hq.2 rfl
theorem loopY : Does Tryz.prog (.loop (loopF Tryz.f55 0)) MY ptY FY := by
 refine Does.loop (n := 43) (id := 0) semY (inv := fun x => InY x.1.1 x.1.2.1 x.1.2.2.1 x.1.2.2.2.1 x.1.2.2.2.2.1 x.2.2.2.1) (μ := fun x => (x.1.2.1 - x.1.2.2.1).toNat) ?_ (fun x Q h => h.1)
 rintro ⟨⟨l, n, i, s, b, _⟩, v, r, q, _⟩ hinv Q hq
 exact lawY v r l n i s b q hinv Q hq.2
def yearF (v : verT.den) (r : riskT.den) (l : List coverT.den) : Int × Int :=
 if (yrGo v r l 0 true).2.2 = 0 then (if (yrGo v r l 0 true).2.1 = true then ((yrGo v r l 0 true).1, 0) else (0, 5)) else (0, (yrGo v r l 0 true).2.2)
def cYear : Ct := ⟨[.d verT, .d riskT, .d (.sl coverT)], [i64, i64], fun x => ((yearF x.1 x.2.1 x.2.2.1).1, (yearF x.1 x.2.1 x.2.2.1).2, ()), fun _ => []⟩
def frYear (x : denP [.d verT, .d riskT, .d (.sl coverT)]) : Fr (denL [i64, i64]) :=
 Fr.need (InY x.2.2.1 x.2.2.1.length 0 0 true 0)
  (Fr.br ((yrGo x.1 x.2.1 x.2.2.1 0 true).2.2 != 0) (Fr.val (0, (yrGo x.1 x.2.1 x.2.2.1 0 true).2.2, ()))
   (Fr.br (!(yrGo x.1 x.2.1 x.2.2.1 0 true).2.1) (Fr.val (0, 5, ())) (Fr.val ((yrGo x.1 x.2.1 x.2.2.1 0 true).1, 0, ()))))
theorem year_run : SoundCt Tryz.prog 55 ⟨[.d verT, .d riskT, .d (.sl coverT)], [i64, i64], fun xs => (frYear xs).get, fun xs => [(frYear xs).ok]⟩ :=
 fn_sound CY_ok (Λ := fun _ => ptY.han CY.Γ MY FY) (fn := Tryz.f55) (fr := frYear) (ps := [.d verT, .d riskT, .d (.sl coverT)]) (rs := [i64, i64]) (verT.dflt, riskT.dflt, [], ()) (by kernel_rfl)
  (fun c E hc => lam1f hc (by kernel_rfl) (b := loopF Tryz.f55 0) (by kernel_rfl) (Does.han CY_ok rfl loopY)) (fun x => by kernel_rfl)
theorem year_ok : SoundCt Tryz.prog 55 cYear :=
 convF year_run _ _ (fun w F x vs hr _ => by
  obtain ⟨v, r, l, _⟩ := x
  obtain ⟨v1, vs1, rfl, _, v2, vs2, rfl, _, v3, vs3, rfl, h3, _⟩ := hr
  have hlen : (l.length : Int) <= 9223372036854775807 := wf_len h3
  have hI : InY l l.length 0 0 true 0 := ⟨by omega, by omega, rfl, hlen, by decide, by decide, rfl⟩
  refine Fr.need_ hI ?_
  show (Fr.br ((yrGo v r l 0 true).2.2 != 0) (Fr.val (0, (yrGo v r l 0 true).2.2, ())) (Fr.br (!(yrGo v r l 0 true).2.1) (Fr.val (0, 5, ())) (Fr.val ((yrGo v r l 0 true).1, 0, ())))  : Fr (denL [i64, i64])).ok /\ (Fr.br ((yrGo v r l 0 true).2.2 != 0) (Fr.val (0, (yrGo v r l 0 true).2.2, ())) (Fr.br (!(yrGo v r l 0 true).2.1) (Fr.val (0, 5, ())) (Fr.val ((yrGo v r l 0 true).1, 0, ())))  : Fr (denL [i64, i64])).get = ((yearF v r l).1, (yearF v r l).2, ())
  unfold yearF
  generalize yrGo v r l 0 true = y
  obtain ⟨s, b, e⟩ := y
  by_cases he : e = 0
  ·subst he
   refine Fr.br_f rfl ?_
   cases b with
   | true => exact Fr.br_f rfl ⟨trivial, rfl⟩
   | false => exact Fr.br_t rfl ⟨trivial, rfl⟩
  ·rw [if_neg he]
   exact Fr.br_t (bne_iff_ne.2 he) ⟨trivial, rfl⟩)
noncomputable def CC1 : Cx := cx [(91, cHolds)] []
theorem CC1_ok : CxOK Tryz.prog CC1 := cx_ok (ps := []) mixed ⟨holds_ok, trivial⟩ trivial
noncomputable def XiC : FuncId -> Option (Func × (Nat -> St -> Option Tr)) := envF [(90, (Tryz.f90, lam0)), (92, (Tryz.f92, lam0))]
theorem XiC_ok : ∀ f fn Λ, XiC f = some (fn, Λ) -> Tryz.prog.funcs[f]? = some fn /\ ∀ c E', fn.body = some c -> LamOK Tryz.prog E' Λ c 0 := fun f fn Λ h => by
 simp only [XiC, envF] at h
 split at h
 ·rename_i hf
  subst hf
  cases h
  exact ⟨by kernel_rfl, fun c E' _ => lam0_ok c 0⟩
 ·split at h
  ·rename_i hf
   subst hf
   cases h
   exact ⟨by kernel_rfl, fun c E' _ => lam0_ok c 0⟩
  ·cases h
noncomputable def CC2 : Cx := cxK [(74, cOrder)] [] (inlK Tryz.prog CC1 XiC)
theorem CC2_ok : CxOK Tryz.prog CC2 := cxK_ok (ps := []) mixed ⟨order_ok, trivial⟩ trivial (inlK_ok CC1_ok XiC_ok)
abbrev msC : List MI := [.x 280001 31 histT, .r 1 280001 0, .x 280003 23 spanT, .r 3 280003 0, .x 280004 80 sliceT, .r 4 280004 0, .y 280005 58 [(some 80, sliceT)], .r 5 280005 0, .g 6 90 [280004, 280005], .x 6 71 verT, .r 10006 6 0]
def MC : LS := ⟨[(26, .d ints), (27, .d i64), (28, .d i64)], msC⟩
def EC : LS := ⟨[], msC⟩
def ptC5 : Pt := ⟨52, 0, MC, EC, ⟨[], []⟩⟩
def lastI (out : List sliceT.den) : Int := IntKind.i64.wrap ((out.length : Int) - 1)
def setTo (s : sliceT.den) (b : Int) : sliceT.den := ((s.1.1, b, ()), s.2)
def endT {α : Type} (s : sliceT.den) (out : List sliceT.den) (day : Int) (K : List sliceT.den -> Fr α) : Fr α :=
 Fr.br (s.1.1 == day) (K out)
  (Fr.need (decide (lastI out ≥ 0) = true -> 0 <= lastI out /\ lastI out < (out.length : Int))
   (Fr.need (decide (lastI out ≥ 0) = true -> (lastI out).toNat < out.length)
    (Fr.br (bif decide (lastI out ≥ 0) then (cHolds.f (out.getD (lastI out).toNat sliceT.dflt, setTo s day, ())).1 else false)
     (Fr.need (0 <= lastI out /\ lastI out < (out.length : Int)) (Fr.need ((lastI out).toNat < out.length) (K (out.set (lastI out).toNat (setTo (out.getD (lastI out).toNat sliceT.dflt) day)))))
     (Fr.need (out.length + [setTo s day].length <= maxLen /\ (out.length + [setTo s day].length) * 88 <= 140737488355328) (K (out ++ [setTo s day]))))))
def doesT {α : Type} (s : sliceT.den) (c : changeT.den) (K : sliceT.den -> Fr α) : Fr α :=
 Fr.br (c.2.2.1 == 1) (K (s.1, s.2.1, c.2.2.2.1, s.2.2.2.1, s.2.2.2.2.1, ()))
  (Fr.br (c.2.2.1 == 2) (Fr.need (([] : List coverT.den).length + c.2.2.2.2.1.length <= maxLen /\ (([] : List coverT.den).length + c.2.2.2.2.1.length) * 40 <= 140737488355328) (K (s.1, s.2.1, s.2.2.1, [] ++ c.2.2.2.2.1, s.2.2.2.2.1, ())))
   (Fr.br (c.2.2.1 == 3) (K (s.1, false, s.2.2.1, s.2.2.2.1, s.2.2.2.2.1, ()))
    (Fr.br (c.2.2.1 == 4) (K (s.1, true, s.2.2.1, s.2.2.2.1, s.2.2.2.2.1, ())) (K s))))
def frC5 (x : MC.X) : Fr ptC5.Out :=
 let l : List Int := x.1.1; let n : Int := x.1.2.1; let i : Int := x.1.2.2.1; let h : histT.den := x.2.1; let sp : spanT.den := x.2.2.1; let s : sliceT.den := x.2.2.2.1; let out : List sliceT.den := x.2.2.2.2.1.1; let v : verT.den := x.2.2.2.2.2.1
 let j : Int := l.getD i.toNat i64.dflt
 Fr.br (decide (i < n))
  (Fr.need (0 <= i /\ i < (l.length : Int))
   (Fr.need (0 <= j /\ j < ((chL h).length : Int))
    (endT s out (chAt h j).2.1 fun out' =>
     Fr.need (0 <= j /\ j < ((chL h).length : Int))
      (doesT (((chAt h j).2.1, s.1.2.1, ()), s.2) (chAt h j) fun s' => Fr.val (Rd.next ((l, n, IntKind.i64.wrap (i + 1), ()), (h, sp, s', (out', ()), v, ())))))))
  (Fr.val (Rd.out ((), (h, sp, s, (out, ()), v, ()))))
theorem semC5 : Does Tryz.prog (loopF Tryz.f54 0) MC ptC5 frC5 := Does.of_run CC2_ok (bs := 280000) rfl rfl rfl (fun _ => lam0_ok _ 0) (fun x => by kernel_rfl)
theorem pushR_eq (s : sliceT.den) : (out : List sliceT.den) -> 0 < out.length -> pushR out s = if holdsB (out.getD (out.length - 1) sliceT.dflt) s = true then out.set (out.length - 1) (setTo (out.getD (out.length - 1) sliceT.dflt) s.1.2.1) else out ++ [s]
 | [], h => absurd h (by decide)
 | [x], _ => rfl
 | x :: y :: r, _ => by
  have ih := pushR_eq s (y :: r) (by simp)
  have e1 : (x :: y :: r).length - 1 = ((y :: r).length - 1) + 1 := by simp
  have e2 : (x :: y :: r).getD ((x :: y :: r).length - 1) sliceT.dflt = (y :: r).getD ((y :: r).length - 1) sliceT.dflt := by
   rw [e1]
   rfl
  show x :: pushR (y :: r) s = _
  rw [ih, e2, e1]
  split
  ·rfl
  ·rfl
theorem pushR_length (s : sliceT.den) : (out : List sliceT.den) -> (pushR out s).length <= out.length + 1
 | [] => by simp [pushR]
 | [x] => by unfold pushR; split <;> simp
 | x :: y :: r => by
  have := pushR_length s (y :: r)
  simp only [pushR, List.length_cons] at this ⊢
  omega
theorem endS_length (s : sliceT.den) (out : List sliceT.den) (day : Int) : (endS s out day).length <= out.length + 1 := by
 unfold endS
 split
 ·omega
 ·exact pushR_length _ _
theorem lastI_eq {out : List sliceT.den} (h : out.length <= 1000000) : lastI out = (out.length : Int) - 1 := IntWalk.i64_in _ (by omega)
theorem endT_sat {α : Type} {s : sliceT.den} {out : List sliceT.den} {day : Int} {K : List sliceT.den -> Fr α} {Q : α -> Prop} (hl : out.length <= 1000000) (h : (K (endS s out day)).satP Q) : (endT s out day K).satP Q := by
 unfold endS at h
 have hw := lastI_eq hl
 have hm : out.length + 1 <= maxLen /\ (out.length + 1) * 88 <= 140737488355328 := ⟨by unfold maxLen; omega, by omega⟩
 refine ⟨fun hb => ?_, fun hb => ?_⟩
 ·have hb' : s.1.1 = day := eq_of_beq (α := Int) hb
  rw [if_pos hb'] at h
  exact h
 ·have hb' : ¬ s.1.1 = day := ne_of_beq_false (α := Int) hb
  rw [if_neg hb'] at h
  refine ⟨fun hd => ?_, fun hd => ?_, ?_⟩
  ·have := of_decide_eq_true hd
   omega
  ·have := of_decide_eq_true hd
   omega
  ·by_cases h0 : 0 < out.length
   ·have hge : decide (lastI out ≥ 0) = true := decide_eq_true (by omega)
    have ht : (lastI out).toNat = out.length - 1 := by omega
    have hp := pushR_eq (setTo s day) out h0
    rw [hge, ht]
    refine ⟨fun hh => ?_, fun hh => ?_⟩
    ·have hh' : holdsB (out.getD (out.length - 1) sliceT.dflt) (setTo s day) = true := hh
     rw [if_pos hh'] at hp
     refine ⟨⟨by omega, by omega⟩, by omega, ?_⟩
     have e : pushR out ((s.1.1, day, ()), s.2) = out.set (out.length - 1) (setTo (out.getD (out.length - 1) sliceT.dflt) day) := hp
     rw [e] at h
     exact h
    ·have hh' : ¬ holdsB (out.getD (out.length - 1) sliceT.dflt) (setTo s day) = true := by
      intro hx
      have : holdsB (out.getD (out.length - 1) sliceT.dflt) (setTo s day) = false := hh
      rw [hx] at this
      cases this
     rw [if_neg hh'] at hp
     have e : pushR out ((s.1.1, day, ()), s.2) = out ++ [setTo s day] := hp
     rw [e] at h
     exact ⟨hm, h⟩
   ·have h00 : out = [] := List.length_eq_zero_iff.1 (by omega)
    subst h00
    have hge : decide (lastI [] ≥ 0) = false := decide_eq_false (by rw [hw]; decide)
    rw [hge]
    exact ⟨fun hh => (by cases hh), fun _ => ⟨hm, h⟩⟩
theorem doesT_sat {α : Type} {s : sliceT.den} {c : changeT.den} {K : sliceT.den -> Fr α} {Q : α -> Prop} (hl : c.2.2.2.2.1.length <= 1000000) (h : (K (doesC s c)).satP Q) : (doesT s c K).satP Q := by
 unfold doesC at h
 have hm : ([] : List coverT.den).length + c.2.2.2.2.1.length <= maxLen /\ (([] : List coverT.den).length + c.2.2.2.2.1.length) * 40 <= 140737488355328 := by
  simp only [List.length_nil, Nat.zero_add]
  exact ⟨by unfold maxLen; omega, by omega⟩
 refine ⟨fun k => ?_, fun k => ⟨fun k2 => ?_, fun k2 => ⟨fun k3 => ?_, fun k3 => ⟨fun k4 => ?_, fun k4 => ?_⟩⟩⟩⟩
 ·have k' : c.2.2.1 = 1 := eq_of_beq (α := Int) k
  rw [if_pos k'] at h
  exact h
 ·have k' : ¬ c.2.2.1 = 1 := ne_of_beq_false (α := Int) k
  have k2' : c.2.2.1 = 2 := eq_of_beq (α := Int) k2
  rw [if_neg k', if_pos k2'] at h
  exact ⟨hm, h⟩
 ·have k' : ¬ c.2.2.1 = 1 := ne_of_beq_false (α := Int) k
  have k2' : ¬ c.2.2.1 = 2 := ne_of_beq_false (α := Int) k2
  have k3' : c.2.2.1 = 3 := eq_of_beq (α := Int) k3
  rw [if_neg k', if_neg k2', if_pos k3'] at h
  exact h
 ·have k' : ¬ c.2.2.1 = 1 := ne_of_beq_false (α := Int) k
  have k2' : ¬ c.2.2.1 = 2 := ne_of_beq_false (α := Int) k2
  have k3' : ¬ c.2.2.1 = 3 := ne_of_beq_false (α := Int) k3
  have k4' : c.2.2.1 = 4 := eq_of_beq (α := Int) k4
  rw [if_neg k', if_neg k2', if_neg k3', if_pos k4'] at h
  exact h
 ·have k' : ¬ c.2.2.1 = 1 := ne_of_beq_false (α := Int) k
  have k2' : ¬ c.2.2.1 = 2 := ne_of_beq_false (α := Int) k2
  have k3' : ¬ c.2.2.1 = 3 := ne_of_beq_false (α := Int) k3
  have k4' : ¬ c.2.2.1 = 4 := ne_of_beq_false (α := Int) k4
  rw [if_neg k', if_neg k2', if_neg k3', if_neg k4'] at h
  exact h
structure InvC5 (l : List Int) (n i : Int) (h : histT.den) (out : List sliceT.den) : Prop where
 i0 : 0 <= i
 il : i <= n
 nl : n = l.length
 few : l.length <= 500000
 inl : ∀ x ∈ l, 0 <= x /\ x < ((chL h).length : Int)
 cov : ∀ c ∈ chL h, c.2.2.2.2.1.length <= 1000000
 outs : (out.length : Int) <= i
def FC5 (x : MC.X) : Fr ptC5.Out :=
 let l : List Int := x.1.1; let n : Int := x.1.2.1; let i : Int := x.1.2.2.1; let h : histT.den := x.2.1; let sp : spanT.den := x.2.2.1; let s : sliceT.den := x.2.2.2.1; let out : List sliceT.den := x.2.2.2.2.1.1; let v : verT.den := x.2.2.2.2.2.1
 Fr.need (InvC5 l n i h out) (Fr.val (Rd.out ((), (h, sp, (goCut ((l.drop i.toNat).map (chAt h)) s out).1, ((goCut ((l.drop i.toNat).map (chAt h)) s out).2, ()), v, ()))))
theorem lawC5 (l : List Int) (n i : Int) (h : histT.den) (sp : spanT.den) (s : sliceT.den) (out : List sliceT.den) (v : verT.den) (hinv : InvC5 l n i h out) (Q : ptC5.Out -> Prop)
  (hq : Q (Rd.out ((), (h, sp, (goCut ((l.drop i.toNat).map (chAt h)) s out).1, ((goCut ((l.drop i.toNat).map (chAt h)) s out).2, ()), v, ())))) :
  (frC5 ((l, n, i, ()), (h, sp, s, (out, ()), v, ()))).satP fun
   | .next x' => InvC5 x'.1.1 x'.1.2.1 x'.1.2.2.1 x'.2.1 x'.2.2.2.2.1.1 /\ ((x'.1.2.1 : Int) - x'.1.2.2.1).toNat < (n - i).toNat /\ (FC5 x').satP Q
   | .out y => Q (.out y)
   | .back z => Q (.back z)
   | .pan p => Q (.pan p) := by
 obtain ⟨h0, h1, rfl, h2, h3, h4, h5⟩ := hinv
 obtain ⟨i', rfl⟩ : ∃ n : Nat, i = n := ⟨i.toNat, by omega⟩
 simp only [Int.toNat_natCast] at hq
 dsimp only [frC5, Fr.satP, Ty.den, PT.den]
 simp only [Int.toNat_natCast]
 refine ⟨fun hi => ?_, fun hi => ?_⟩
 ·have hlt : i' < l.length := by have : (i' : Int) < (l.length : Int) := of_decide_eq_true hi; omega
  have w : IntKind.i64.wrap ((i' : Int) + 1) = (i' + 1 : Nat) := succ_nat (by omega)
  rw [w]
  have hm := h3 _ (getD_mem (d := (0 : Int)) hlt)
  rw [drop_at hlt, List.map_cons] at hq
  have hcm : chAt h (l.getD i' 0) ∈ chL h := by
   unfold chAt
   exact getD_mem (by omega)
  have hE := endS_length s out (chAt h (l.getD i' 0)).2.1
  have hI : InvC5 l (l.length : Int) ((i' + 1 : Nat) : Int) h (endS s out (chAt h (l.getD i' 0)).2.1) := ⟨by omega, by omega, rfl, h2, h3, h4, by omega⟩
  have hμ : ((l.length : Int) - ((i' + 1 : Nat) : Int)).toNat < ((l.length : Int) - (i' : Int)).toNat := by omega
  refine ⟨⟨by omega, by omega⟩, hm, endT_sat (by omega) ⟨hm, doesT_sat (h4 _ hcm) ⟨hI, hμ, hI, hq⟩⟩⟩
 ·have hge : ¬ i' < l.length := by have : ¬ (i' : Int) < (l.length : Int) := of_decide_eq_false hi; omega
  rw [List.drop_eq_nil_of_le (by omega)] at hq
  exact hq
theorem loopC5 : Does Tryz.prog (.loop (loopF Tryz.f54 0)) MC ptC5 FC5 := by
 refine Does.loop (n := 52) (id := 0) semC5 (inv := fun x => InvC5 x.1.1 x.1.2.1 x.1.2.2.1 x.2.1 x.2.2.2.2.1.1) (μ := fun x => ((x.1.2.1 : Int) - x.1.2.2.1).toNat) ?_ (fun x Q h => h.1)
 rintro ⟨⟨l, n, i, _⟩, h, sp, s, ⟨out, _⟩, v, _⟩ hinv Q hq
 exact lawC5 l n i h sp s out v hinv Q hq.2
noncomputable def XiOf : FuncId -> Option (Func × (Nat -> St -> Option Tr)) := envF [(54, (Tryz.f54, fun _ => ptC5.han CC2.Γ MC FC5))]
theorem XiOf_ok : ∀ f fn Λ, XiOf f = some (fn, Λ) -> Tryz.prog.funcs[f]? = some fn /\ ∀ c E', fn.body = some c -> LamOK Tryz.prog E' Λ c 0 := fun f fn Λ h => by
 simp only [XiOf, envF] at h
 split at h
 ·rename_i hf
  subst hf
  cases h
  exact ⟨by kernel_rfl, fun c E' hc => lam1f hc (by kernel_rfl) (b := loopF Tryz.f54 0) (by kernel_rfl) (Does.han CC2_ok rfl loopC5)⟩
 ·cases h
noncomputable def COf : Cx := cxK [(52, cHist), (53, cTarAt), (55, cYear)] [] (inlK Tryz.prog CC2 XiOf)
theorem COf_ok : CxOK Tryz.prog COf := cxK_ok (ps := []) mixed ⟨sRight_ok, tarAt_ok, year_ok, trivial⟩ trivial (inlK_ok CC2_ok XiOf_ok)
def MO : LS := ⟨[(29, .d i64), (30, .d i64)], [.o 8 80 sliceT, .al 28 8, .x 6 71 verT, .r 6 6 0]⟩
def EO : LS := ⟨[], [.o 8 80 sliceT]⟩
def ptO : Pt := ⟨56, 0, MO, EO, ⟨[(4, .d slsT), (5, .d i64)], []⟩⟩
def yrS (v : verT.den) (s : sliceT.den) : Int × Int := yearF v s.2.2.1 s.2.2.2.1
def setY (s : sliceT.den) (y : Int) : sliceT.den := (s.1, s.2.1, s.2.2.1, s.2.2.2.1, y, ())
def fO (x : MO.X) : Fr ptO.Out :=
 let n : Int := x.1.1; let i : Int := x.1.2.1; let l : List sliceT.den := x.2.1; let v : verT.den := x.2.2.1
 let s : sliceT.den := l.getD i.toNat sliceT.dflt
 Fr.br (decide (i < n))
  (Fr.need (0 <= i /\ i < (l.length : Int)) (Fr.need (i.toNat < l.length)
   (Fr.br (!s.2.1) (Fr.val (Rd.next ((n, IntKind.i64.wrap (i + 1), ()), (l, v, ()))))
    (Fr.need (0 <= i /\ i < (l.length : Int)) (Fr.need (i.toNat < l.length)
     (Fr.br ((cYear.f (v, s.2.2.1, s.2.2.2.1, ())).2.1 != 0) (Fr.val (Rd.back (([], (cYear.f (v, s.2.2.1, s.2.2.2.1, ())).2.1, ()), ())))
      (Fr.val (Rd.next ((n, IntKind.i64.wrap (i + 1), ()), (l.set i.toNat (setY s (cYear.f (v, s.2.2.1, s.2.2.2.1, ())).1), v, ()))))))))))
  (Fr.val (Rd.out ((), (l, ()))))
theorem semO : Does Tryz.prog (loopF Tryz.f26 0) MO ptO fO := Does.of_run COf_ok (bs := 0) rfl rfl rfl (fun _ => lam0_ok _ 0) (fun x => by kernel_rfl)
def priceV (v : verT.den) (s : sliceT.den) : sliceT.den := if s.2.1 = true then setY s (yrS v s).1 else s
def errP (v : verT.den) : List sliceT.den -> Int
 | [] => 0
 | s :: l => if s.2.1 = true then (if (yrS v s).2 = 0 then errP v l else (yrS v s).2) else errP v l
structure InvO (n i : Int) (l : List sliceT.den) : Prop where
 i0 : 0 <= i
 il : i <= n
 nl : n = l.length
 few : l.length <= 1000000
def outO (l : List sliceT.den) (e : Int) : Fr ptO.Out := Fr.br (e != 0) (Fr.val (Rd.back (([], e, ()), ()))) (Fr.val (Rd.out ((), (l, ()))))
def FO (x : MO.X) : Fr ptO.Out :=
 let n : Int := x.1.1; let i : Int := x.1.2.1; let l : List sliceT.den := x.2.1; let v : verT.den := x.2.2.1
 Fr.need (InvO n i l) (outO (l.take i.toNat ++ (l.drop i.toNat).map (priceV v)) (errP v (l.drop i.toNat)))
theorem lawO (n i : Int) (l : List sliceT.den) (v : verT.den) (hinv : InvO n i l) (Q : ptO.Out -> Prop) (hq : (outO (l.take i.toNat ++ (l.drop i.toNat).map (priceV v)) (errP v (l.drop i.toNat))).satP Q) :
  (fO ((n, i, ()), (l, v, ()))).satP fun
   | .next x' => InvO x'.1.1 x'.1.2.1 x'.2.1 /\ ((x'.1.1 : Int) - x'.1.2.1).toNat < (n - i).toNat /\ (FO x').satP Q
   | .out y => Q (.out y)
   | .back z => Q (.back z)
   | .pan p => Q (.pan p) := by
 obtain ⟨h0, h1, rfl, h2⟩ := hinv
 obtain ⟨i', rfl⟩ : ∃ n : Nat, i = n := ⟨i.toNat, by omega⟩
 simp only [Int.toNat_natCast] at hq
 dsimp only [fO, Fr.satP, Ty.den, PT.den]
 simp only [Int.toNat_natCast]
 refine ⟨fun hi => ?_, fun hi => ?_⟩
 ·have hlt : i' < l.length := by have : (i' : Int) < (l.length : Int) := of_decide_eq_true hi; omega
  have w : IntKind.i64.wrap ((i' : Int) + 1) = (i' + 1 : Nat) := succ_nat (by omega)
  rw [w]
  have hg : l.getD i' sliceT.dflt = l[i'] := by rw [List.getD_eq_getElem?_getD, List.getElem?_eq_getElem hlt]; rfl
  have hd : l.drop i' = l.getD i' sliceT.dflt :: l.drop (i' + 1) := by rw [hg]; exact List.drop_eq_getElem_cons hlt
  have hμ : ((l.length : Int) - ((i' + 1 : Nat) : Int)).toNat < ((l.length : Int) - (i' : Int)).toNat := by omega
  have hb : 0 <= (i' : Int) /\ (i' : Int) < (l.length : Int) := ⟨by omega, by omega⟩
  rw [hd] at hq
  generalize hs : l.getD i' sliceT.dflt = s at *
  have htk : l.take (i' + 1) = l.take i' ++ [s] := by
   rw [hg]
   exact (List.take_append_getElem hlt).symm
  refine ⟨hb, hlt, fun hoff => ?_, fun hon => ⟨hb, hlt, fun he => ?_, fun he => ?_⟩⟩
  ·have hoff' : ¬ s.2.1 = true := by
    intro hx
    rw [hx] at hoff
    cases hoff
   have hI : InvO (l.length : Int) ((i' + 1 : Nat) : Int) l := ⟨by omega, by omega, rfl, h2⟩
   refine ⟨hI, hμ, hI, ?_⟩
   have e1 : errP v (s :: l.drop (i' + 1)) = errP v (l.drop (i' + 1)) := if_neg hoff'
   have e2 : priceV v s = s := if_neg hoff'
   rw [e1, List.map_cons, e2] at hq
   show (outO (l.take (i' + 1) ++ (l.drop (i' + 1)).map (priceV v)) (errP v (l.drop (i' + 1)))).satP Q
   rw [htk, List.append_assoc]
   exact hq
  ·have hon' : s.2.1 = true := by
    cases hx : s.2.1 with
    | true => rfl
    | false => rw [hx] at hon; cases hon
   have he' : ¬ (yrS v s).2 = 0 := bne_iff_ne.1 he
   have e1 : errP v (s :: l.drop (i' + 1)) = (yrS v s).2 := by
    unfold errP
    rw [if_pos hon', if_neg he']
   rw [e1] at hq
   exact hq.1 he
  ·have hon' : s.2.1 = true := by
    cases hx : s.2.1 with
    | true => rfl
    | false => rw [hx] at hon; cases hon
   have he' : (yrS v s).2 = 0 := by
    have : ((yrS v s).2 != 0) = false := he
    simpa using this
   have hlen : (l.set i' (setY s (yrS v s).1)).length = l.length := List.length_set
   have hI : InvO (l.length : Int) ((i' + 1 : Nat) : Int) (l.set i' (setY s (yrS v s).1)) := ⟨by omega, by omega, by rw [hlen], by rw [hlen]; exact h2⟩
   refine ⟨hI, hμ, hI, ?_⟩
   have e1 : errP v (s :: l.drop (i' + 1)) = errP v (l.drop (i' + 1)) := by
    conv => lhs; unfold errP
    rw [if_pos hon', if_pos he']
   have e2 : priceV v s = setY s (yrS v s).1 := if_pos hon'
   rw [e1, List.map_cons, e2] at hq
   show (outO ((l.set i' (setY s (yrS v s).1)).take (i' + 1) ++ ((l.set i' (setY s (yrS v s).1)).drop (i' + 1)).map (priceV v)) (errP v ((l.set i' (setY s (yrS v s).1)).drop (i' + 1)))).satP Q
   have e3 : (l.set i' (setY s (yrS v s).1)).drop (i' + 1) = l.drop (i' + 1) := List.drop_set_of_lt (by omega)
   have e4 : (l.set i' (setY s (yrS v s).1)).take (i' + 1) = l.take i' ++ [setY s (yrS v s).1] := by
    rw [List.take_add_one, List.take_set_of_le (by omega)]
    simp [hlt]
   rw [e3, e4, List.append_assoc]
   exact hq
 ·have hge : ¬ i' < l.length := by have : ¬ (i' : Int) < (l.length : Int) := of_decide_eq_false hi; omega
  rw [List.drop_eq_nil_of_le (by omega), List.take_of_length_le (by omega)] at hq
  have hq' := hq.2 rfl
  simp only [List.map_nil, List.append_nil] at hq'
  exact hq'
theorem loopO : Does Tryz.prog (.loop (loopF Tryz.f26 0)) MO ptO FO := by
 refine Does.loop (n := 56) (id := 0) semO (inv := fun x => InvO x.1.1 x.1.2.1 x.2.1) (μ := fun x => ((x.1.1 : Int) - x.1.2.1).toNat) ?_ (fun x Q h => h.1)
 rintro ⟨⟨n, i, _⟩, l, v, _⟩ hinv Q hq
 exact lawO n i l v hinv Q hq.2
def frOf1 (v : verT.den) (l : List sliceT.den) : Fr (denL [slsT, i64]) :=
 Fr.need (InvO l.length 0 l) (Fr.br (errP v (l.drop (0 : Int).toNat) != 0) (Fr.val ([], errP v (l.drop (0 : Int).toNat), ())) (Fr.val (l.take (0 : Int).toNat ++ (l.drop (0 : Int).toNat).map (priceV v), 0, ())))
def goH (h : histT.den) : sliceT.den × List sliceT.den := goCut (((orderL h).drop (0 : Int).toNat).map (chAt h)) ((h.2.2.1.1.1, 0, ()), true, h.2.2.1.2.1, [] ++ h.2.2.1.2.2.1, 0, ()) []
def frOfF (x : denP [.d histT, .d tarT]) : Fr (denL [slsT, i64]) :=
 Fr.br (!(cHist.f (x.1, ())).1) (Fr.val ([], 1, ()))
  (Fr.need (fewT x.2.1)
   (Fr.br ((cTarAt.f (x.2.1, x.1.2.2.1.1.1, ())).2.1 != 0) (Fr.val ([], (cTarAt.f (x.2.1, x.1.2.2.1.1.1, ())).2.1, ()))
    (Fr.need (([] : List coverT.den).length + x.1.2.2.1.2.2.1.length <= maxLen /\ (([] : List coverT.den).length + x.1.2.2.1.2.2.1.length) * 40 <= 140737488355328)
     (Fr.need (((chL x.1).length : Int) <= 1000000)
      (Fr.need (InvC5 (orderL x.1) ((orderL x.1).length : Int) 0 x.1 [])
       (endT (goH x.1).1 (goH x.1).2 x.1.2.2.1.1.2.1 (frOf1 (cTarAt.f (x.2.1, x.1.2.2.1.1.1, ())).1)))))))
theorem of_run : SoundCt Tryz.prog 26 ⟨[.d histT, .d tarT], [slsT, i64], fun xs => (frOfF xs).get, fun xs => [(frOfF xs).ok]⟩ :=
 fn_sound COf_ok (Λ := fun _ => ptO.han COf.Γ MO FO) (fn := Tryz.f26) (fr := frOfF) (ps := [.d histT, .d tarT]) (rs := [slsT, i64]) (histT.dflt, tarT.dflt, ()) (by kernel_rfl)
  (fun c E hc => lam1f hc (by kernel_rfl) (b := loopF Tryz.f26 0) (by kernel_rfl) (Does.han COf_ok rfl loopO)) (fun x => by kernel_rfl)
def fewH (h : histT.den) : Prop := (chL h).length <= 500000 /\ h.2.2.1.2.2.1.length <= 1000000 /\ ∀ c ∈ chL h, c.2.2.2.2.1.length <= 1000000
def ofF (h : histT.den) (t : tarT.den) : List sliceT.den × Int :=
 if histB h = true then
  (if (verAt h.2.2.1.1.1 t.1.reverse).2 = 0 then
   (if errP (verAt h.2.2.1.1.1 t.1.reverse).1 (cutL h) = 0 then ((cutL h).map (priceV (verAt h.2.2.1.1.1 t.1.reverse).1), 0) else ([], errP (verAt h.2.2.1.1.1 t.1.reverse).1 (cutL h)))
  else ([], (verAt h.2.2.1.1.1 t.1.reverse).2))
 else ([], 1)
def cOf : Ct := ⟨[.d histT, .d tarT], [slsT, i64], fun x => ((ofF x.1 x.2.1).1, (ofF x.1 x.2.1).2, ()), fun x => [fewH x.1, fewT x.2.1]⟩
theorem orderL_length (h : histT.den) : (orderL h).length = (chL h).length := by
 unfold orderL
 rw [sortB_length, rangeI_length]
theorem orderL_mem {h : histT.den} {x : Int} (hx : x ∈ orderL h) : 0 <= x /\ x < ((chL h).length : Int) := rangeI_mem (sortB_mem.1 hx)
theorem goCut_length : (l : List changeT.den) -> (s : sliceT.den) -> (out : List sliceT.den) -> (goCut l s out).2.length <= out.length + l.length
 | [], _, _ => Nat.le_refl _
 | c :: l, s, out => by
  have h1 := goCut_length l (doesC ((c.2.1, s.1.2.1, ()), s.2) c) (endS s out c.2.1)
  have h2 := endS_length s out c.2.1
  simp only [goCut, List.length_cons]
  omega
theorem of_ok : SoundCt Tryz.prog 26 cOf :=
 convF of_run _ _ (fun w F x vs hr hok => by
  obtain ⟨h, t, _⟩ := x
  obtain ⟨⟨f1, f2, f3⟩, f4⟩ : fewH h /\ fewT t := hok
  show (frOfF (h, t, ())).ok /\ (frOfF (h, t, ())).get = ((ofF h t).1, (ofF h t).2, ())
  unfold ofF
  cases hh : histB h with
  | false =>
   refine Fr.br_t ?_ ⟨trivial, rfl⟩
   show (!(histB h)) = true
   rw [hh]
   rfl
  | true =>
   rw [if_pos rfl]
   refine Fr.br_f ?_ (Fr.need_ f4 ?_)
   ·show (!(histB h)) = false
    rw [hh]
    rfl
   ·by_cases hv : (verAt h.2.2.1.1.1 t.1.reverse).2 = 0
    ·rw [if_pos hv]
     refine Fr.br_f ?_ (Fr.need_ ?_ (Fr.need_ ?_ (Fr.need_ ?_ ?_)))
     ·show ((verAt h.2.2.1.1.1 t.1.reverse).2 != 0) = false
      rw [hv]
      rfl
     ·show ([] : List coverT.den).length + h.2.2.1.2.2.1.length <= maxLen /\ (([] : List coverT.den).length + h.2.2.1.2.2.1.length) * 40 <= 140737488355328
      simp only [List.length_nil, Nat.zero_add]
      exact ⟨by unfold maxLen; omega, by omega⟩
     ·show ((chL h).length : Int) <= 1000000
      omega
     ·show InvC5 (orderL h) ((orderL h).length : Int) 0 h []
      exact ⟨Int.le_refl _, Int.natCast_nonneg _, rfl, by rw [orderL_length]; exact f1, fun x hx => orderL_mem hx, f3, Int.le_refl _⟩
     ·have hgo : (goH h).2.length <= 500000 := by
       have := goCut_length (((orderL h).drop (0 : Int).toNat).map (chAt h)) ((h.2.2.1.1.1, 0, ()), true, h.2.2.1.2.1, [] ++ h.2.2.1.2.2.1, 0, ()) []
       have e : (((orderL h).drop (0 : Int).toNat).map (chAt h)).length = (chL h).length := by
        rw [List.length_map]
        exact orderL_length h
       rw [e] at this
       have h2 : (goH h).2.length <= 0 + (chL h).length := this
       omega
      have hcut : endS (goH h).1 (goH h).2 h.2.2.1.1.2.1 = cutL h := rfl
      have hclen : (cutL h).length <= 1000000 := by
       rw [← hcut]
       have := endS_length (goH h).1 (goH h).2 h.2.2.1.1.2.1
       omega
      have hkey : (frOf1 (verAt h.2.2.1.1.1 t.1.reverse).1 (cutL h)).ok /\ (frOf1 (verAt h.2.2.1.1.1 t.1.reverse).1 (cutL h)).get = ((if errP (verAt h.2.2.1.1.1 t.1.reverse).1 (cutL h) = 0 then ((cutL h).map (priceV (verAt h.2.2.1.1.1 t.1.reverse).1), (0 : Int)) else ([], errP (verAt h.2.2.1.1.1 t.1.reverse).1 (cutL h))).1, (if errP (verAt h.2.2.1.1.1 t.1.reverse).1 (cutL h) = 0 then ((cutL h).map (priceV (verAt h.2.2.1.1.1 t.1.reverse).1), (0 : Int)) else ([], errP (verAt h.2.2.1.1.1 t.1.reverse).1 (cutL h))).2, ()) := by
       refine Fr.need_ ⟨Int.le_refl _, Int.natCast_nonneg _, rfl, hclen⟩ ?_
       by_cases he : errP (verAt h.2.2.1.1.1 t.1.reverse).1 (cutL h) = 0
       ·rw [if_pos he]
        refine Fr.br_f ?_ ⟨trivial, rfl⟩
        show (errP (verAt h.2.2.1.1.1 t.1.reverse).1 (cutL h) != 0) = false
        rw [he]
        rfl
       ·rw [if_neg he]
        exact Fr.br_t (bne_iff_ne.2 he) ⟨trivial, rfl⟩
      have hs := endT_sat (s := (goH h).1) (out := (goH h).2) (day := h.2.2.1.1.2.1) (K := frOf1 (verAt h.2.2.1.1.1 t.1.reverse).1) (Q := fun y => y = ((if errP (verAt h.2.2.1.1.1 t.1.reverse).1 (cutL h) = 0 then ((cutL h).map (priceV (verAt h.2.2.1.1.1 t.1.reverse).1), (0 : Int)) else ([], errP (verAt h.2.2.1.1.1 t.1.reverse).1 (cutL h))).1, (if errP (verAt h.2.2.1.1.1 t.1.reverse).1 (cutL h) = 0 then ((cutL h).map (priceV (verAt h.2.2.1.1.1 t.1.reverse).1), (0 : Int)) else ([], errP (verAt h.2.2.1.1.1 t.1.reverse).1 (cutL h))).2, ())) (by omega) (by
       rw [hcut]
       exact Fr.satP_of hkey.1 hkey.2)
      exact Fr.satP_get hs
    ·rw [if_neg hv]
     refine Fr.br_t ?_ ⟨trivial, rfl⟩
     show ((verAt h.2.2.1.1.1 t.1.reverse).2 != 0) = true
     exact bne_iff_ne.2 hv)
theorem orderL_sorted (h : histT.den) : (orderL h).Pairwise fun x y => dayOf h x <= dayOf h y :=
 (sortB_sort (key := dayOf h) (lt := ltDay h) (fun _ _ _ _ => rfl)).1
theorem chsO_sorted (h : histT.den) : (chsO h).Pairwise fun x y => x.2.1 <= y.2.1 := by
 unfold chsO
 rw [List.pairwise_map]
 exact orderL_sorted h
theorem chAt_mem {h : histT.den} {i : Int} (hi : 0 <= i /\ i < ((chL h).length : Int)) : chAt h i ∈ chL h := by
 unfold chAt
 exact getD_mem (by omega)
theorem chsO_mem {h : histT.den} {c : changeT.den} (hc : c ∈ chsO h) : c ∈ chL h := by
 obtain ⟨i, hi, rfl⟩ := List.mem_map.1 hc
 exact chAt_mem (orderL_mem hi)
structure HistOk (h : histT.den) : Prop where
 terms : termsB h.2.2.1 = true
 a1 : 1 <= h.2.2.1.1.1
 ab : h.2.2.1.1.1 < h.2.2.1.1.2.1
 b1 : h.2.2.1.1.2.1 <= 292195
 wide : h.2.2.1.1.2.1 - h.2.2.1.1.1 <= 1100
 chs : ∀ c ∈ chL h, changeB c = true /\ h.2.2.1.1.1 <= c.2.1 /\ c.2.1 < h.2.2.1.1.2.1
theorem histB_iff {h : histT.den} : histB h = true ↔ termsB h.2.2.1 = true /\ h.2.2.2.1.length <= 2000 /\ ∀ c ∈ chL h, changeB c = true /\ inB h.2.2.1.1.1 h.2.2.1.1.2.1 c.2.1 = true := by
 unfold histB
 simp only [Bool.and_eq_true, decide_eq_true_eq, List.all_eq_true, and_assoc]
theorem terms_span {t : termsT.den} (h : termsB t = true) : 1 <= t.1.1 /\ t.1.1 < t.1.2.1 /\ t.1.2.1 <= 292195 /\ t.1.2.1 - t.1.1 <= 1100 := by
 obtain ⟨⟨a, b, _⟩, r, cs, _⟩ := t
 unfold termsB at h
 rw [Bool.and_eq_true, Bool.and_eq_true] at h
 obtain ⟨h1, h2, _⟩ := h
 obtain ⟨p1, p2, p3⟩ := fullS_iff.1 h1
 exact ⟨p1, p2, p3, of_decide_eq_true h2⟩
theorem histOk {h : histT.den} (hh : histB h = true) : HistOk h := by
 obtain ⟨h1, _, h3⟩ := histB_iff.1 hh
 obtain ⟨p1, p2, p3, p4⟩ := terms_span h1
 refine ⟨h1, p1, p2, p3, p4, fun c hc => ?_⟩
 obtain ⟨q1, q2⟩ := h3 c hc
 have q3 := of_decide_eq_true q2
 exact ⟨q1, q3.2.2.1, q3.2.2.2⟩
theorem cutL_runs {h : histT.den} (hh : histB h = true) : Runs (stOf h) h.2.2.1.1.2.1 h.2.2.1.1.1 (cutL h) := by
 have ho := histOk hh
 exact goCut_runs (k0 := (true, h.2.2.1.2.1, h.2.2.1.2.2.1)) (a := h.2.2.1.1.1) (b := h.2.2.1.1.2.1) (fun c hc => Int.le_of_lt (ho.chs c (chsO_mem hc)).2.2) (chsO h) [] rfl (chsO_sorted h) (nowS h) [] (fun c hc => (by cases hc)) (fun c hc => (ho.chs c (chsO_mem hc)).2.1)
  (Int.le_of_lt ho.ab) rfl rfl rfl
def strip (c : changeT.den) : changeT.den := (0, c.2)
theorem holdK_strip (d : Int) : (l : List changeT.den) -> (k : Core) -> holdK d (l.map strip) k = holdK d l k
 | [], _ => rfl
 | c :: l, k => by
  simp only [List.map_cons, holdK]
  exact holdK_strip d l _
theorem holdK_filter (d : Int) : (l : List changeT.den) -> (k : Core) -> holdK d (l.filter fun c => decide (c.2.1 <= d)) k = holdK d l k
 | [], _ => rfl
 | c :: l, k => by
  by_cases hc : c.2.1 <= d
  ·rw [List.filter_cons_of_pos (by simpa using hc)]
   simp only [holdK]
   exact holdK_filter d l _
  ·rw [List.filter_cons_of_neg (by simpa using hc)]
   have hgt : c.2.1 > d := Int.not_le.1 hc
   simp only [holdK]
   rw [if_pos hgt]
   exact holdK_filter d l k
def dayC (c : changeT.den) : Int := c.2.1
theorem rangeI_chAt (h : histT.den) : (rangeI (chL h).length).map (chAt h) = chL h := by
 unfold rangeI chAt
 rw [List.map_map]
 apply List.ext_getElem
 ·simp
 ·intro i h1 h2
  simp only [List.getElem_map, List.getElem_range, Function.comp_apply, Int.toNat_natCast]
  rw [List.getD_eq_getElem?_getD, List.getElem?_eq_getElem h2]
  rfl
theorem chsO_same (h : histT.den) : SameK dayC (chL h) (chsO h) := fun k => by
 have hs := (sortB_sort (key := dayOf h) (lt := ltDay h) (l := rangeI (chL h).length) (fun _ _ _ _ => rfl)).2 k
 have h1 : (chsO h).filter (fun x => dayC x == k) = ((orderL h).filter (fun x => dayOf h x == k)).map (chAt h) := by
  unfold chsO
  rw [List.filter_map]
  rfl
 have h2 : (chL h).filter (fun x => dayC x == k) = ((rangeI (chL h).length).filter (fun x => dayOf h x == k)).map (chAt h) := by
  conv => lhs; rw [← rangeI_chAt h]
  rw [List.filter_map]
  rfl
 rw [h1, h2]
 exact congrArg _ hs
theorem chsO_sortK (h : histT.den) : SortK dayC (chsO h) := chsO_sorted h
theorem SortK.filter {α : Type} {key : α -> Int} {l : List α} (h : SortK key l) (p : α -> Bool) : SortK key (l.filter p) := List.Pairwise.sublist List.filter_sublist h
theorem sortK_strip {l : List changeT.den} (h : SortK dayC l) : SortK dayC (l.map strip) := by
 unfold SortK
 rw [List.pairwise_map]
 exact h
theorem filter_strip (l : List changeT.den) (k : Int) : (l.map strip).filter (fun x => dayC x == k) = (l.filter (fun x => dayC x == k)).map strip := by
 rw [List.filter_map]
 rfl
theorem stOf_congr {h x : histT.den} {d : Int} (h0 : ((true, h.2.2.1.2.1, h.2.2.1.2.2.1) : Core) = (true, x.2.2.1.2.1, x.2.2.1.2.2.1))
  (hk : ∀ k, k <= d -> ((chL h).map strip).filter (fun c => dayC c == k) = ((chL x).map strip).filter (fun c => dayC c == k)) : stOf h d = stOf x d := by
 unfold stOf
 rw [h0, ← holdK_filter d (chsO h), ← holdK_filter d (chsO x), ← holdK_strip d ((chsO h).filter _), ← holdK_strip d ((chsO x).filter _)]
 congr 1
 refine SameK.eq (key := dayC) (sortK_strip ((chsO_sortK h).filter _)) (sortK_strip ((chsO_sortK x).filter _)) fun k => ?_
 have key : ∀ y : histT.den, ((((chsO y).filter fun c => decide (c.2.1 <= d))).map strip).filter (fun c => dayC c == k) = if k <= d then ((chL y).map strip).filter (fun c => dayC c == k) else [] := by
  intro y
  rw [filter_strip, List.filter_filter]
  split
  ·rename_i hkd
   have : ((chsO y).filter fun a => (dayC a == k && decide (a.2.1 <= d))) = (chsO y).filter fun a => dayC a == k := by
    apply List.filter_congr
    intro a _
    rw [Bool.eq_iff_iff]
    simp only [Bool.and_eq_true, beq_iff_eq, decide_eq_true_eq]
    constructor
    ·exact fun q => q.1
    ·intro q
     refine ⟨q, ?_⟩
     have : dayC a = a.2.1 := rfl
     rw [← this, q]
     exact hkd
   rw [this, chsO_same y k, filter_strip]
  ·rename_i hkd
   have : ((chsO y).filter fun a => (dayC a == k && decide (a.2.1 <= d))) = [] := by
    rw [List.filter_eq_nil_iff]
    intro a _
    simp only [Bool.and_eq_true, beq_iff_eq, decide_eq_true_eq]
    rintro ⟨q1, q2⟩
    have : dayC a = a.2.1 := rfl
    rw [← this, q1] at q2
    exact hkd q2
   rw [this]
   rfl
 rw [key x, key h]
 split
 ·rename_i hkd
  exact (hk k hkd).symm
 ·rfl
def valP (p : List Int × List Int) (d : Int) : Int := valAt (p.1, p.2, ()) d
theorem cntLe_append (l m : List Int) (d : Int) : cntLe (l ++ m) d = cntLe l d + cntLe m d := by
 unfold cntLe
 exact List.countP_append
theorem cntLe_le (l : List Int) (d : Int) : cntLe l d <= l.length := by
 unfold cntLe
 exact List.countP_le_length
theorem cntLe_all {l : List Int} {d : Int} (h : ∀ x ∈ l, x <= d) : cntLe l d = l.length := by
 unfold cntLe
 exact List.countP_eq_length.2 fun x hx => decide_eq_true (h x hx)
theorem cntLe_one (day d : Int) : cntLe [day] d = if day <= d then 1 else 0 := by
 unfold cntLe
 by_cases h : day <= d
 ·rw [if_pos h, List.countP_eq_length.2 (fun x hx => by rw [List.mem_singleton.1 hx]; exact decide_eq_true h)]
  rfl
 ·rw [if_neg h]
  exact List.countP_eq_zero.2 (fun x hx hd => by rw [List.mem_singleton.1 hx] at hd; exact h (of_decide_eq_true hd))
theorem Good.all {p : List Int × List Int} {m : Int} (h : Good p m) : ∀ x ∈ p.1, x <= m := by
 intro x hx
 have hp := (rises_spec h.up h.len).1
 have hle := h.le
 have hne : p.1 ≠ [] := List.ne_nil_of_mem hx
 rw [List.getLast?_eq_some_getLast hne] at hle
 have hle' : p.1.getLast hne <= m := hle
 have hs : p.1 = p.1.dropLast ++ [p.1.getLast hne] := (List.dropLast_concat_getLast hne).symm
 rw [hs] at hx hp
 rcases List.mem_append.1 hx with hx | hx
 ·have := (List.pairwise_append.1 hp).2.2 x hx _ (List.mem_singleton.2 rfl)
  exact Int.le_of_lt (Int.lt_of_lt_of_le this hle')
 ·rw [List.mem_singleton.1 hx]
  exact hle'
theorem valP_snoc {l r : List Int} {day v d : Int} (hlen : l.length = r.length) (hl : ∀ x ∈ l, x < day) : valP (l ++ [day], r ++ [v]) d = if day <= d then v else valP (l, r) d := by
 unfold valP valAt
 show (match cntLe (l ++ [day]) d with | 0 => (0 : Int) | k + 1 => (r ++ [v]).getD k 0) = _
 rw [cntLe_append, cntLe_one]
 by_cases h : day <= d
 ·rw [if_pos h, if_pos h, cntLe_all (fun x hx => Int.le_trans (Int.le_of_lt (hl x hx)) h)]
  show (r ++ [v]).getD l.length 0 = v
  rw [List.getD_eq_getElem?_getD, List.getElem?_append_right (by omega), hlen]
  simp
 ·rw [if_neg h, if_neg h]
  show (match cntLe l d + 0 with | 0 => (0 : Int) | k + 1 => (r ++ [v]).getD k 0) = (match cntLe l d with | 0 => (0 : Int) | k + 1 => r.getD k 0)
  rw [Nat.add_zero]
  have hk := cntLe_le l d
  cases hc : cntLe l d with
  | zero => rfl
  | succ k =>
   rw [hc] at hk
   show (r ++ [v]).getD k 0 = r.getD k 0
   rw [List.getD_eq_getElem?_getD, List.getD_eq_getElem?_getD, List.getElem?_append_left (by omega)]
theorem valP_last {p : List Int × List Int} {m d : Int} (h : Good p m) (hd : m <= d) : valP p d = p.2.getLast?.getD 0 := by
 unfold valP valAt
 show (match cntLe p.1 d with | 0 => (0 : Int) | k + 1 => p.2.getD k 0) = _
 rw [cntLe_all (fun x hx => Int.le_trans (h.all x hx) hd), h.len]
 cases hn : p.2.length with
 | zero =>
  have : p.2 = [] := List.length_eq_zero_iff.1 hn
  rw [this]
  rfl
 | succ k =>
  show p.2.getD k 0 = _
  rw [List.getLast?_eq_getElem?, hn, List.getD_eq_getElem?_getD]
  rfl
theorem valP_push {q : List Int × List Int} {m day v d : Int} (hq : Good q m) (hm : m < day) (hd : d <= 292194) : valP (if v ≠ q.2.getLast?.getD 0 /\ day <= 292194 then (q.1 ++ [day], q.2 ++ [v]) else q) d = if day <= d then v else valP q d := by
 by_cases hc : v ≠ q.2.getLast?.getD 0 /\ day <= 292194
 ·rw [if_pos hc]
  exact valP_snoc hq.len (fun x hx => Int.lt_of_le_of_lt (hq.all x hx) hm)
 ·rw [if_neg hc]
  by_cases h : day <= d
  ·rw [if_pos h, valP_last hq (Int.le_trans (Int.le_of_lt hm) h)]
   apply Classical.byContradiction
   intro hv
   exact hc ⟨fun e => hv e.symm, Int.le_trans h hd⟩
  ·rw [if_neg h]
theorem valP_add {p : List Int × List Int} {m day v d : Int} (h : Good p m) (hm : m <= day) (h1 : 1 <= day) (hd : d <= 292194) : valP (addAV p day v) d = if day <= d then v else valP p d := by
 unfold addAV
 by_cases hl : p.1.getLast? = some day
 ·have hp := (h.pop hl).1
  simp only [hl, if_true]
  have := valP_push (v := v) hp (show day - 1 < day by omega) hd
  refine this.trans ?_
  by_cases hx : day <= d
  ·rw [if_pos hx, if_pos hx]
  ·rw [if_neg hx, if_neg hx]
   have e1 := getLast_le hl
   have hne : p.2 ≠ [] := by
    intro h0
    have hlen := h.len
    rw [h0] at hlen
    rw [List.length_eq_zero_iff.1 hlen] at hl
    cases hl
   have e2 : p.2 = p.2.dropLast ++ [p.2.getLast hne] := (List.dropLast_concat_getLast hne).symm
   have : valP p d = valP (p.1.dropLast ++ [day], p.2.dropLast ++ [p.2.getLast hne]) d := by
    rw [← e1, ← e2]
   rw [this, valP_snoc hp.len (fun x hx => by have := hp.all x hx; omega), if_neg hx]
 ·simp only [hl, if_false]
  have hlt : p.1.getLast?.getD 0 <= day - 1 := by
   have hle := h.le
   cases hx : p.1.getLast? with
   | none => show (0 : Int) <= _; omega
   | some x =>
    rw [hx] at hle hl
    have hne : x ≠ day := fun he => hl (by rw [he])
    have hle' : x <= m := hle
    show x <= _
    omega
  exact valP_push (v := v) (m := day - 1) ⟨h.len, h.up, hlt, h.pos⟩ (by omega) hd
theorem valP_addS {p : List Int × List Int} {s : sliceT.den} {e d : Int} (h : Good p e) (he : 1 <= e) (hs : fullSl s e = true) (hd : d <= 292194) :
  valP (addS p s) d = if s.1.2.1 <= d then 0 else if s.1.1 <= d then s.2.2.2.2.1 else valP p d := by
 obtain ⟨h1, h2, h3, h4, h5⟩ := fullSl_iff.1 hs
 have hf : 1 <= s.1.1 := Int.le_trans he h1
 have ht : 1 <= s.1.2.1 := Int.le_trans hf (Int.le_of_lt h2)
 have g := h.add h1 hf ⟨h4, h5⟩
 unfold addS
 rw [valP_add g (Int.le_of_lt h2) ht hd, valP_add h h1 hf hd]
def costL : List sliceT.den -> Int -> Int
 | [], _ => 0
 | s :: l, d => if s.1.1 <= d /\ d < s.1.2.1 then s.2.2.2.2.1 else costL l d
theorem cost_ahead : {l : List sliceT.den} -> {e : Int} -> {p : List Int × List Int} -> {q : Int × (List Int × List Int)} -> curveE l e p = some q -> (d : Int) -> d < e -> costL l d = 0
 | [], _, _, _, _, _, _ => rfl
 | s :: l, e, p, q, hq, d, hd => by
  simp only [curveE] at hq
  split at hq
  ·rename_i hs
   obtain ⟨h1, h2, _⟩ := fullSl_iff.1 hs
   unfold costL
   have hd1 : d < s.1.1 := Int.lt_of_lt_of_le hd h1
   rw [if_neg (fun hh => absurd hh.1 (Int.not_le.2 hd1))]
   exact cost_ahead hq d (Int.lt_trans hd1 h2)
  ·cases hq
theorem curveE_cost : {l : List sliceT.den} -> {e : Int} -> {p : List Int × List Int} -> {q : Int × (List Int × List Int)} -> Good p e -> 1 <= e -> (∀ d, e <= d -> d <= 292194 -> valP p d = 0) -> curveE l e p = some q -> (d : Int) -> d <= 292194 -> valP q.2 d = if d < e then valP p d else costL l d
 | [], e, p, q, _, _, h0, hq, d, hd => by
  simp only [curveE, Option.some.injEq] at hq
  subst hq
  by_cases h : d < e
  ·rw [if_pos h]
  ·rw [if_neg h]
   exact h0 d (Int.not_lt.1 h) hd
 | s :: l, e, p, q, h, he, h0, hq, d, hd => by
  have hq' := hq
  simp only [curveE] at hq
  split at hq
  ·rename_i hs
   obtain ⟨h1, h2, _⟩ := fullSl_iff.1 hs
   have ht : 1 <= s.1.2.1 := Int.le_trans (Int.le_trans he h1) (Int.le_of_lt h2)
   have ih := curveE_cost (h.addS he hs) ht (fun d g1 g2 => by rw [valP_addS h he hs g2, if_pos g1]) hq d hd
   rw [ih, valP_addS h he hs hd]
   by_cases c1 : d < s.1.2.1
   ·rw [if_pos c1, if_neg (Int.not_le.2 c1)]
    by_cases c2 : s.1.1 <= d
    ·rw [if_pos c2, if_neg (Int.not_lt.2 (Int.le_trans h1 c2))]
     unfold costL
     rw [if_pos ⟨c2, c1⟩]
    ·rw [if_neg c2]
     by_cases c3 : d < e
     ·rw [if_pos c3]
     ·rw [if_neg c3, h0 d (Int.not_lt.1 c3) hd]
      unfold costL
      rw [if_neg (fun hh => c2 hh.1)]
      exact (cost_ahead hq d c1).symm
   ·have c2 : ¬ d < e := fun hh => c1 (Int.lt_of_lt_of_le hh (Int.le_trans h1 (Int.le_of_lt h2)))
    rw [if_neg c1, if_neg c2]
    conv => rhs; unfold costL
    rw [if_neg (fun hh => c1 hh.2)]
  ·cases hq
theorem valAt_cost {l : List sliceT.den} (h : (curveO l).isNone = false) {d : Int} (h1 : 1 <= d) (h2 : d <= 292194) : valAt (curveF l) d = costL l d := by
 unfold curveF
 unfold curveO at *
 split at h
 ·rename_i hl
  rw [if_pos hl]
  rw [curveGo_E] at h ⊢
  cases hq : curveE l 1 ([], []) with
  | none => rw [hq] at h; cases h
  | some q =>
   have := curveE_cost good0 (by decide) (fun d _ _ => rfl) hq d h2
   rw [if_neg (Int.not_lt.2 h1)] at this
   exact this
 ·cases h
theorem dsum_congr {f g : stepT.den} : (n : Nat) -> (a : Int) -> (∀ d, a <= d -> d < a + n -> valAt f d = valAt g d) -> dsum f a n = dsum g a n
 | 0, _, _ => rfl
 | n + 1, a, h => by
  simp only [dsum]
  rw [h a (by omega) (by omega), dsum_congr n (a + 1) (fun d h1 h2 => h d (by omega) (by omega))]
def costK (v : verT.den) (k : Core) : Int := if k.1 = true then (yearF v k.2.1 k.2.2).1 else 0
theorem price_cost (v : verT.den) {s : sliceT.den} (hy : s.2.2.2.2.1 = (0 : Int)) : (priceV v s).2.2.2.2.1 = costK v (coreS s) := by
 unfold priceV costK
 have e : (coreS s).1 = s.2.1 := rfl
 rw [e]
 by_cases h : s.2.1 = true
 ·rw [if_pos h, if_pos h]
  rfl
 ·rw [if_neg h, if_neg h]
  exact hy
theorem price_span (v : verT.den) (s : sliceT.den) : (priceV v s).1 = s.1 := by
 unfold priceV
 split <;> rfl
theorem runs_cost (v : verT.den) {st : Int -> Core} {b : Int} : {a : Int} -> {l : List sliceT.den} -> Runs st b a l -> (d : Int) -> costL (l.map (priceV v)) d = if a <= d /\ d < b then costK v (st d) else 0
 | a, [], h, d => by
  have h0 : a = b := h
  subst h0
  rw [if_neg (fun hh => absurd (Int.lt_of_le_of_lt hh.1 hh.2) (Int.lt_irrefl _))]
  rfl
 | a, s :: l, h, d => by
  obtain ⟨h1, h2, h3, h4, h5, h6⟩ := h
  have ih := runs_cost v h6 d
  have hb := h6.le
  show (if (priceV v s).1.1 <= d /\ d < (priceV v s).1.2.1 then (priceV v s).2.2.2.2.1 else costL (l.map (priceV v)) d) = _
  rw [(price_span v s), price_cost v h3, ih, h1]
  by_cases c1 : d < s.1.2.1
  ·by_cases c2 : a <= d
   ·rw [if_pos ⟨c2, c1⟩, if_pos ⟨c2, Int.lt_of_lt_of_le c1 hb⟩, h4 d c2 c1]
   ·rw [if_neg (fun hh => c2 hh.1), if_neg (fun hh => absurd c1 (Int.not_lt.2 hh.1)), if_neg (fun hh => c2 hh.1)]
  ·rw [if_neg (fun hh => c1 hh.2)]
   by_cases c3 : d < b
   ·rw [if_pos ⟨Int.not_lt.1 c1, c3⟩, if_pos ⟨Int.le_trans (Int.le_of_lt h2) (Int.not_lt.1 c1), c3⟩]
   ·rw [if_neg (fun hh => c3 hh.2), if_neg (fun hh => c3 hh.2)]
theorem upto_told {l : List sliceT.den} (h : (UptoF l 292195).2 = 0) : (curveO l).isNone = false /\ Pos (curveF l) /\ Sd (curveF l) 292195 <= 4000000000000000000 /\ ∀ d, UptoF l d = ((Sd (curveF l) d + 182) / 365, 0) := by
 have hc : (curveO l).isNone = false := by
  cases hn : (curveO l).isNone with
  | false => rfl
  | true =>
   unfold UptoF at h
   rw [if_pos hn] at h
   cases h
 have hp := curve_pos hc
 have hU : ∀ d, UptoF l d = uptoO (curveF l) d := fun d => if_neg (by rw [hc]; decide)
 have htop : Sd (curveF l) 292195 <= 4000000000000000000 := by
  apply Classical.byContradiction
  intro hn
  rw [hU, uptoO_days hp, if_neg hn] at h
  cases h
 refine ⟨hc, hp, htop, fun d => ?_⟩
 rw [hU, uptoO_days hp, if_pos (Int.le_trans (Sd_top hp d) htop)]
theorem clampD_in {d : Int} (h1 : 1 <= d) (h2 : d <= 292195) : clampD d = d := by
 unfold clampD
 rw [if_neg (show ¬ d < 1 by omega), if_neg (by omega)]
theorem Sd_split (f : stepT.den) {a b : Int} (h1 : 1 <= a) (hab : a <= b) (h2 : b <= 292195) : Sd f b = Sd f a + dsum f a (b - a).toNat := by
 unfold Sd
 rw [clampD_in (by omega) h2, clampD_in h1 (by omega), show (b - 1).toNat = (a - 1).toNat + (b - a).toNat by omega, dsum_add]
 congr 2
 omega
def earn (l : List sliceT.den) (d : Int) : Int := (Sd (curveF l) d + 182) / 365
theorem fewB_fewH {h : histT.den} {t : tarT.den} (hf : fewB h t = true) : fewH h /\ fewT t := by
 unfold fewB at hf
 simp only [Bool.and_eq_true, decide_eq_true_eq, List.all_eq_true] at hf
 obtain ⟨⟨h1, h2, h3⟩, h4, h5⟩ := hf
 refine ⟨⟨by show h.2.2.2.1.length <= 500000; omega, by omega, fun c hc => ?_⟩, by omega, fun v hv => ?_⟩
 ·have : c.2.2.2.2.1.length <= 50 := of_decide_eq_true (h4 c hc)
  omega
 ·have := h5 v hv
  unfold fewV at this
  simp only [Bool.and_eq_true, decide_eq_true_eq] at this
  exact ⟨by omega, by omega, by omega⟩
theorem price_core (v : verT.den) (s : sliceT.den) : coreS (priceV v s) = coreS s /\ (priceV v s).1 = s.1 := by
 unfold priceV
 split <;> exact ⟨rfl, rfl⟩
def verH (h : histT.den) (t : tarT.den) : verT.den × Int := verAt h.2.2.1.1.1 t.1.reverse
theorem ofF_good {h : histT.den} {t : tarT.den} (he : (ofF h t).2 = 0) : histB h = true /\ (verH h t).2 = 0 /\ errP (verH h t).1 (cutL h) = 0 /\ (ofF h t).1 = (cutL h).map (priceV (verH h t).1) := by
 unfold ofF at he ⊢
 by_cases h1 : histB h = true
 ·rw [if_pos h1] at he ⊢
  by_cases h2 : (verAt h.2.2.1.1.1 t.1.reverse).2 = 0
  ·rw [if_pos h2] at he ⊢
   by_cases h3 : errP (verAt h.2.2.1.1.1 t.1.reverse).1 (cutL h) = 0
   ·rw [if_pos h3]
    exact ⟨h1, h2, h3, rfl⟩
   ·rw [if_neg h3] at he
    exact absurd he h3
  ·rw [if_neg h2] at he
   exact absurd he h2
 ·rw [if_neg h1] at he
  cases he
def addCh (h : histT.den) (c : changeT.den) : histT.den := (h.1, h.2.1, h.2.2.1, ([] ++ h.2.2.2.1) ++ [c], ())
set_option maxRecDepth 100000 in
def roomC (n m : Nat) : Prop := n + m <= maxLen /\ (n + m) * Tryz.prog.types[53].bytes <= 140737488355328
set_option maxRecDepth 100000 in
theorem changeBytes : Tryz.prog.types[53].bytes <= 1000 := by decide
theorem filter_addCh (h : histT.den) (c : changeT.den) {k : Int} (hk : k < c.2.1) : ((chL h).map strip).filter (fun x => dayC x == k) = ((chL (addCh h c)).map strip).filter (fun x => dayC x == k) := by
 show _ = ((([] ++ h.2.2.2.1) ++ [c]).map strip).filter (fun x => dayC x == k)
 rw [List.nil_append, List.map_append, List.filter_append]
 have : ([c].map strip).filter (fun x => dayC x == k) = [] := by
  have hn : ¬ (dayC (strip c) == k) = true := by
   rw [beq_iff_eq]
   intro he
   have : c.2.1 = k := he
   rw [this] at hk
   exact absurd hk (Int.lt_irrefl _)
  exact List.filter_cons_of_neg hn
 rw [this, List.append_nil]
theorem Runs.mem {st : Int -> Core} {b : Int} : {a : Int} -> {l : List sliceT.den} -> Runs st b a l -> ∀ s ∈ l, a <= s.1.1 /\ s.1.1 < s.1.2.1 /\ s.1.2.1 <= b /\ ∀ d, s.1.1 <= d -> d < s.1.2.1 -> coreS s = st d
 | _, [], _, _, hs => by cases hs
 | a, t :: l, h, s, hs => by
  obtain ⟨h1, h2, h3, h4, h5, h6⟩ := h
  rcases List.mem_cons.1 hs with rfl | hs
  ·rw [h1]
   exact ⟨Int.le_refl _, h2, h6.le, h4⟩
  ·obtain ⟨q1, q2⟩ := Runs.mem h6 s hs
   exact ⟨Int.le_trans (Int.le_of_lt h2) q1, q2⟩
theorem dsum_zero {f : stepT.den} {n : Nat} {a : Int} (h : ∀ d, a <= d -> d < a + n -> valAt f d = 0) : dsum f a n = 0 := by
 rw [dsum_const n a h, Int.mul_zero]
theorem clampD_lt {d x : Int} (h1 : 1 <= x) (h : x < 1 + ((clampD d - 1).toNat : Int)) : x < d /\ x <= 292194 := by
 obtain ⟨c1, c2⟩ := clampD_bd d
 unfold clampD at *
 split at c1 <;> split at c1 <;> omega
theorem rightS_of {s : spanT.den} (h1 : 1 <= s.1) (h2 : s.1 <= s.2.1) (h3 : s.2.1 <= 292195) : rightS s = true := by
 unfold rightS
 rw [decide_eq_true h1, decide_eq_true h2, decide_eq_true h3]
 rfl
theorem off_lt {a b d : Int} (h : a < b) (h2 : d < a + ((b - a).toNat : Int)) : d < b := by omega
theorem off_le {d b c : Int} (h : d < b) (h1 : b <= c) (h2 : c <= 292195) : d <= 292194 := by omega
theorem earn_runs {st : Int -> Core} {a b : Int} {l : List sliceT.den} (v : verT.den) (hr : Runs st b a l) (ha : 1 <= a) (hab : a < b) (hb : b <= 292195) (ht : (UptoF (l.map (priceV v)) 292195).2 = 0) :
  earn (l.map (priceV v)) a = 0 /\ earn (l.map (priceV v)) b = earn (l.map (priceV v)) 292195 /\ ∀ s ∈ l.map (priceV v), rightS s.1 = true /\ (s.2.1 = false -> earn (l.map (priceV v)) s.1.2.1 = earn (l.map (priceV v)) s.1.1) := by
 obtain ⟨hc, hp, htop, hall⟩ := upto_told ht
 have hv : ∀ d, 1 <= d -> d <= 292194 -> valAt (curveF (l.map (priceV v))) d = if a <= d /\ d < b then costK v (st d) else 0 := fun d h1 h2 => (valAt_cost hc h1 h2).trans (runs_cost v hr d)
 have ea : Sd (curveF (l.map (priceV v))) a = 0 := by
  unfold Sd
  refine dsum_zero fun d h1 h2 => ?_
  obtain ⟨q1, q2⟩ := clampD_lt h1 h2
  rw [hv d h1 q2, if_neg (fun hh => absurd q1 (Int.not_lt.2 hh.1))]
 have eb : Sd (curveF (l.map (priceV v))) 292195 = Sd (curveF (l.map (priceV v))) b := by
  rw [Sd_split (curveF (l.map (priceV v))) (show 1 <= b by omega) hb (Int.le_refl 292195), dsum_zero fun d h1 h2 => ?_, Int.add_zero]
  rw [hv d (by omega) (by omega), if_neg (fun hh => absurd hh.2 (Int.not_lt.2 h1))]
 refine ⟨by unfold earn; rw [ea]; rfl, by unfold earn; rw [eb], fun s hs => ?_⟩
 obtain ⟨s0, hs0, rfl⟩ := List.mem_map.1 hs
 obtain ⟨m1, m2, m3, m4⟩ := hr.mem s0 hs0
 rw [price_span]
 refine ⟨rightS_of (Int.le_trans ha m1) (Int.le_of_lt m2) (Int.le_trans m3 hb), fun hoff => ?_⟩
 have hoff0 : s0.2.1 = false := by
  have := congrArg Prod.fst (price_core v s0).1
  exact this.symm.trans hoff
 unfold earn
 rw [Sd_split (curveF (l.map (priceV v))) (Int.le_trans ha m1) (Int.le_of_lt m2) (Int.le_trans m3 hb), dsum_zero fun d h1 h2 => ?_, Int.add_zero]
 have h2' : d < s0.1.2.1 := off_lt m2 h2
 rw [hv d (Int.le_trans (Int.le_trans ha m1) h1) (off_le h2' m3 hb), ← m4 d h1 h2']
 split
 ·unfold costK
  rw [if_neg (by
   show ¬ s0.2.1 = true
   rw [hoff0]
   decide)]
 ·rfl
theorem earn_same {st st' : Int -> Core} {a b e : Int} {l m : List sliceT.den} (v : verT.den) (hl : Runs st b a l) (hm : Runs st' b a m) (he : ∀ d, d < e -> st d = st' d) (h1 : (UptoF (l.map (priceV v)) 292195).2 = 0) (h2 : (UptoF (m.map (priceV v)) 292195).2 = 0) :
  earn (l.map (priceV v)) e = earn (m.map (priceV v)) e := by
 have c1 := (upto_told h1).1
 have c2 := (upto_told h2).1
 unfold earn Sd
 rw [dsum_congr (f := curveF (l.map (priceV v))) (g := curveF (m.map (priceV v))) _ _ (fun d q1 q2 => ?_)]
 obtain ⟨r1, r2⟩ := clampD_lt q1 q2
 rw [valAt_cost c1 q1 r2, valAt_cost c2 q1 r2, runs_cost v hl, runs_cost v hm, he d r1]
noncomputable def CL2a : Cx := cx [(72, cClone coverT)] []
theorem CL2a_ok : CxOK Tryz.prog CL2a := cx_ok mixed ⟨cloneC_ok, trivial⟩ trivial
def cOwnT : Ct := ⟨[.d termsT], [termsT], fun x => (x.1, ()), fun x => [x.1.2.2.1.length <= 1000000]⟩
theorem ownT_ok : SoundCt Tryz.prog 73 cOwnT :=
 convF (fn_sound CL2a_ok (Λ := lam0) (fn := Tryz.f73) (fr := fun x => Fr.need (x.1.2.2.1.length <= 1000000) (Fr.val (x.1, ()))) (ps := [.d termsT]) (rs := [termsT]) (termsT.dflt, ()) (by kernel_rfl) (fun c E _ => lam0_ok c 0) (fun x => by kernel_rfl)) _ _
  (fun _ _ _ _ _ hok => Fr.need_ hok ⟨trivial, rfl⟩)
def h00 : histT.den := (0, 0, ((0, 0, ()), (0, 0, 0, 0, ()), [], ()), [], ())
def lastB (h : histT.den) : Int := if (chL h).length = 0 then h.2.1 else ((chL h).getD ((chL h).length - 1) changeT.dflt).1
def putF (h : histT.den) (c : changeT.den) : histT.den × Int :=
 if changeB c = true /\ inB h.2.2.1.1.1 h.2.2.1.1.2.1 c.2.1 = true then
  (if c.1 < lastB h then (h00, 4) else if 2000 <= (chL h).length then (h00, 2) else (addCh h c, 0))
 else (h00, 1)
def cPut : Ct := ⟨[.d histT, .d changeT], [histT, i64], fun x => ((putF x.1 x.2.1).1, (putF x.1 x.2.1).2, ()), fun x => [fewH x.1]⟩
noncomputable def CL2b : Cx := cx [(72, cClone coverT), (71, cChange), (67, cIn), (73, cOwnT)] []
theorem CL2b_ok : CxOK Tryz.prog CL2b := cx_ok mixed ⟨cloneC_ok, chRight_ok, inS_ok, ownT_ok, trivial⟩ trivial
def frPut1 (h : histT.den) (c : changeT.den) (last : Int) : Fr (denL [histT, i64]) :=
 Fr.br (bif !(cChange.f (c, ())).1 then true else !(cIn.f (h.2.2.1.1, c.2.1, ())).1) (Fr.val (h00, 1, ()))
  (Fr.br (decide (c.1 < last)) (Fr.val (h00, 4, ()))
   (Fr.br (decide (((chL h).length : Int) ≥ 2000)) (Fr.val (h00, 2, ()))
    (Fr.need (c.2.2.2.2.1.length <= 1000000) (Fr.need (h.2.2.1.2.2.1.length <= 1000000)
     (Fr.need (0 <= (none : Option Int).getD 0 /\ (none : Option Int).getD 0 <= ((chL h).length : Int) /\ ((chL h).length : Int) <= ((chL h).length : Int) /\ ((chL h).length : Int) = ((chL h).length : Int))
      (Fr.need (0 < [c].length /\ roomC (List.take (((chL h).length : Int) - (none : Option Int).getD 0).toNat (List.drop ((none : Option Int).getD 0).toNat (chL h))).length [c].length)
       (Fr.val ((h.1, h.2.1, h.2.2.1, List.take (((chL h).length : Int) - (none : Option Int).getD 0).toNat (List.drop ((none : Option Int).getD 0).toNat (chL h)) ++ [c], ()), 0, ()))))))))
def frPut (x : denP [.d histT, .d changeT]) : Fr (denL [histT, i64]) :=
 Fr.br (decide (((chL x.1).length : Int) > 0))
  (Fr.need (0 <= IntKind.i64.wrap (((chL x.1).length : Int) - 1) /\ IntKind.i64.wrap (((chL x.1).length : Int) - 1) < ((chL x.1).length : Int))
   (frPut1 x.1 x.2.1 (List.getD (chL x.1) (IntKind.i64.wrap (((chL x.1).length : Int) - 1)).toNat changeT.dflt).1))
  (frPut1 x.1 x.2.1 x.1.2.1)
theorem put_run : SoundCt Tryz.prog 44 ⟨[.d histT, .d changeT], [histT, i64], fun xs => (frPut xs).get, fun xs => [(frPut xs).ok]⟩ :=
 fn_sound CL2b_ok (Λ := lam0) (fn := Tryz.f44) (fr := frPut) (ps := [.d histT, .d changeT]) (rs := [histT, i64]) (histT.dflt, changeT.dflt, ()) (by kernel_rfl) (fun c E _ => lam0_ok c 0) (fun x => by kernel_rfl)
theorem room_big {n : Nat} (hn : n <= 2000) : roomC n 1 := by
 refine ⟨by unfold maxLen; omega, Nat.le_trans (Nat.mul_le_mul (show n + 1 <= 2001 by omega) changeBytes) (by decide)⟩
theorem bif_no2 {a b : Bool} : (bif !a then true else !b) = false ↔ a = true /\ b = true := by
 cases a <;> cases b <;> simp
theorem take_all (l : List changeT.den) : List.take ((l.length : Int) - (none : Option Int).getD 0).toNat (List.drop ((none : Option Int).getD 0).toNat l) = l := by
 show List.take ((l.length : Int) - 0).toNat l = l
 rw [Int.sub_zero, Int.toNat_natCast, List.take_length]
theorem bif_tf {a b : Bool} (h : (bif a then b else false) = true) : a = true /\ b = true := by
 cases a with
 | false => cases h
 | true => exact ⟨rfl, h⟩
theorem len_zero {n : Nat} (h : ((n : Int) == 0) = true) : n <= 1000000 := by
 have : (n : Int) = 0 := eq_of_beq h
 omega
theorem changeB_covers {c : changeT.den} (h : changeB c = true) : c.2.2.2.2.1.length <= 1000000 := by
 unfold changeB kindB at h
 rw [Bool.and_eq_true, Bool.and_eq_true] at h
 have h3 := h.2.2
 split at h3
 ·exact len_zero (bif_tf (bif_tf h3).1).2
 ·split at h3
  ·have hc : coversL c.2.2.2.2.1 = true := (bif_tf (bif_tf h3).1).1
   unfold coversL at hc
   rw [Bool.and_eq_true] at hc
   have := of_decide_eq_true hc.1
   exact Nat.le_trans this.2 (by decide)
  ·split at h3
   ·exact len_zero (bif_tf (bif_tf h3).1).2
   ·split at h3
    ·exact len_zero (bif_tf (bif_tf h3).1).2
    ·cases h3
theorem frPut1_eq {h : histT.den} {c : changeT.den} {last : Int} (hl : last = lastB h) (hf : fewH h) :
  (frPut1 h c last).ok /\ (frPut1 h c last).get = ((putF h c).1, (putF h c).2, ()) := by
 subst hl
 unfold putF
 cases h1 : (bif !(cChange.f (c, ())).1 then true else !(cIn.f (h.2.2.1.1, c.2.1, ())).1) with
 | true =>
  refine Fr.br_t h1 ⟨trivial, ?_⟩
  have h1' : ¬ (changeB c = true /\ inB h.2.2.1.1.1 h.2.2.1.1.2.1 c.2.1 = true) := fun hh => by
   have h2 : (bif !changeB c then true else !inB h.2.2.1.1.1 h.2.2.1.1.2.1 c.2.1) = true := h1
   rw [bif_no2.2 hh] at h2
   cases h2
  rw [if_neg h1']
  rfl
 | false =>
  refine Fr.br_f h1 ?_
  have h1' : changeB c = true /\ inB h.2.2.1.1.1 h.2.2.1.1.2.1 c.2.1 = true := bif_no2.1 h1
  rw [if_pos h1']
  by_cases h2 : c.1 < lastB h
  ·rw [if_pos h2]
   exact Fr.br_t (decide_eq_true h2) ⟨trivial, rfl⟩
  ·rw [if_neg h2]
   refine Fr.br_f (decide_eq_false h2) ?_
   by_cases h3 : 2000 <= (chL h).length
   ·rw [if_pos h3]
    exact Fr.br_t (decide_eq_true (by omega)) ⟨trivial, rfl⟩
   ·rw [if_neg h3]
    refine Fr.br_f (decide_eq_false (by omega)) (Fr.need_ (changeB_covers h1'.1) (Fr.need_ hf.2.1 (Fr.need_ ⟨Int.le_refl _, Int.natCast_nonneg _, Int.le_refl _, rfl⟩ ?_)))
    rw [take_all]
    have hr := room_big (n := (chL h).length) (by omega)
    refine Fr.need_ ⟨Nat.zero_lt_one, hr⟩ ⟨trivial, ?_⟩
    rfl
theorem put_ok : SoundCt Tryz.prog 44 cPut :=
 convF put_run _ _ (fun w F x vs hr hok => by
  obtain ⟨h, c, _⟩ := x
  obtain ⟨v, vs', rfl, hv, _⟩ := hr
  have hlen : ((chL h).length : Int) <= 9223372036854775807 := len_big (RepT.wf hv.2.2).2.2.2.1.1
  have hf : fewH h := hok
  by_cases h0 : (chL h).length = 0
  ·refine Fr.br_f (decide_eq_false (by show ¬ ((chL h).length : Int) > 0; omega)) (frPut1_eq ?_ hf)
   unfold lastB
   rw [if_pos h0]
  ·have hw : IntKind.i64.wrap (((chL h).length : Int) - 1) = ((chL h).length : Int) - 1 := i64w (by omega)
   refine Fr.br_t (decide_eq_true (by show ((chL h).length : Int) > 0; omega)) (Fr.need_ ?_ (frPut1_eq ?_ hf))
   ·show 0 <= IntKind.i64.wrap (((chL h).length : Int) - 1) /\ IntKind.i64.wrap (((chL h).length : Int) - 1) < ((chL h).length : Int)
    rw [hw]
    omega
   ·show (List.getD (chL h) (IntKind.i64.wrap (((chL h).length : Int) - 1)).toNat changeT.dflt).1 = lastB h
    unfold lastB
    rw [if_neg h0, hw, show (((chL h).length : Int) - 1).toNat = (chL h).length - 1 by omega])
end Go.Proofs.YtplkgghjldndkaaGreat
namespace Go.Ab
open Go Go.RowKit
def notBad (pc : Pc) : Ct := ⟨pc.ps, pc.rs, pc.f, fun x => (pc.bad x = false) :: pc.ok x⟩
def gP (C : Cx) (f : FuncId) : Option Ct := match C.Γ f with
 | some ct => some ct
 | none => (C.Pi f).map notBad
structure Pan where
 bad : Bool
 pv : PV
 good : List Prop
def panOf (C : Cx) (o : Oper) (sl : Nat -> AV) : Option Pan :=
 match o.guard, o.op, o.op.operands.toList.map (evA sl) with
 | none, .call ⟨.value _, _, _⟩, .c (.fn f caps) :: args => match C.Pi f with
  | some pc => match rsAs (fun _ => none) (args ++ caps.map .c) with
   | some (xs, []) => match decPs C.Γ pc.ps xs with
    | some (x, n) => some ⟨pc.bad x, pc.pv x, n ++ pc.ok x⟩
    | none => none
   | _ => none
  | none => none
 | _, _, _ => none
def runPan (P : Program) (C : Cx) (b : Nat) (ops : List Oper) : List Oper -> St -> Option (List (Ef × Option Pan) × St)
 | [], s => some ([], s)
 | o :: r, s => match effOf P (gP C) b ops o s.sl s.mem with
  | some e => match runPan P C b ops r (e.go s) with
   | some (es, s') => some ((e, panOf C o s.sl) :: es, s')
   | none => none
  | none => none
def goodN (pv : PV) : Ef × Option Pan -> List Prop
 | (e, none) => e.need
 | (e, some p) => [p.bad = false -> conj e.need, p.bad = true -> conj p.good /\ p.pv = pv]
def treeP (d : St) (all : List (Ef × Option Pan)) (good : Tr) : List Pan -> Tr
 | [] => good
 | p :: r => .br p.bad (needL (all.flatMap (goodN p.pv)) (.leaf (.panic p.pv) d)) (treeP d all good r)
def wrOk (ops : List Oper) (es : List (Ef × Option Pan)) : Bool :=
 let ms := masksGo [] ops
 (List.range es.length).all fun k => match es[k]?, ms[k]? with
  | some (f, _), some mask => f.wr.isEmpty || (List.range es.length).all fun i => match es[i]? with
   | some (_, some _) => mask.testBit i
   | _ => true
  | _, _ => false
def earlyD (ops : List Oper) (es : List (Ef × Option Pan)) : List Tmp :=
 let ms := masksGo [] ops
 (List.range es.length).filterMap fun k => match es[k]?, ms[k]? with
  | some (f, _), some mask => if (List.range es.length).all (fun i => match es[i]? with
   | some (_, some _) => mask.testBit i
   | _ => true) then none else f.dst
  | _, _ => none
def keepS (D : List Tmp) (sl : Nat -> AV) (t : Tmp) : AV := if D.contains t then .dead else clr sl t
def regionP (P : Program) (C : Cx) (b : Nat) (ops : List Oper) (s : St) : Option Tr :=
 if statGo s.n 0 [] ops then match runPan P C b ops ops s with
  | some (es, s') => if orderOk ops (es.map (·.1)) = true /\ wrOk ops es = true then
    some (treeP ⟨s.n, keepS (earlyD ops es) s.sl, s.mem, s.gs⟩ es (needs (es.map (·.1)) (.leaf .normal (clrS s'))) (es.filterMap (·.2)))
   else none
  | none => none
 else none
section
variable {P : Program} {w w' : World} {E : Env} {F F' : Nat -> Prop} {b : Nat} {γ γ' γ0 : Nat -> Value} {ops : Array Oper} {es : List (Ef × Option Pan)} {C : Cx}
theorem gP_ok (hC : CxOK P C) : ∀ f ct, gP C f = some ct -> SoundCt P f ct := by
 intro f ct h
 unfold gP at h
 split at h
 ·rename_i ct' hct
  cases h
  exact hC.ct f _ hct
 ·cases hp : C.Pi f with
  | none => rw [hp] at h; cases h
  | some pc =>
   rw [hp] at h
   cases h
   obtain ⟨h1, h2⟩ := hC.pc f pc hp
   refine ⟨h1, fun w F xs vs hb hr hok => ?_⟩
   obtain ⟨hbad, hok⟩ : pc.bad xs = false /\ conj (pc.ok xs) := conj_cons.1 hok
   refine (h2 w F xs vs hb hr hok).mono fun e w' h => ?_
   rcases h with h | h
   ·exact h.2
   ·rw [hbad] at h
    cases h.1
theorem panOf_local {o : Oper} {sl sl' : Nat -> AV} (h : ∀ t ∈ tmpsOf o.op, sl' t = sl t) : panOf C o sl' = panOf C o sl := by
 unfold panOf
 rw [evs_local h]
theorem panOf_guard {o : Oper} {sl : Nat -> AV} (h : o.guard ≠ none) : panOf C o sl = none := by
 unfold panOf
 split
 ·rename_i hg _ _
  exact absurd hg h
 ·rfl
theorem eff_rd {Γ : FuncId -> Option Ct} {o : Oper} {opl : List Oper} {sl : Nat -> AV} {m : Mem} {e : Ef} (he : effOf P Γ b opl o sl m = some e) (hg : o.guard = none) : e.rd = tmpsOf o.op := by
 unfold effOf at he
 rw [hg] at he
 simp only at he
 split at he <;> try (cases he; done)
 simp only [Option.some.injEq] at he
 subst he
 rfl
theorem panOf_go {Γ : FuncId -> Option Ct} {o : Oper} {opl : List Oper} {e f : Ef} {s : St} (hf : effOf P Γ b opl o s.sl s.mem = some f) (hd : ∀ t, e.dst = some t -> t ∉ f.rd) : panOf C o (e.go s).sl = panOf C o s.sl := by
 cases hg : o.guard with
 | some g => rw [panOf_guard (by rw [hg]; simp), panOf_guard (by rw [hg]; simp)]
 | none =>
  refine panOf_local fun t ht => ?_
  show setA s.sl e.dst e.v t = s.sl t
  rw [← eff_rd hf hg] at ht
  cases hx : e.dst with
  | none => rfl
  | some x =>
   have hne : t ≠ x := fun htx => hd x hx (htx ▸ ht)
   exact if_neg hne
def RunsP (P : Program) (C : Cx) (b : Nat) (ops : Array Oper) (es : List (Ef × Option Pan)) (s' : St) : List Nat -> St -> Prop
 | [], s => s = s'
 | i :: r, s => ∃ o e p, ops[i]? = some o /\ es[i]? = some (e, p) /\ effOf P (gP C) b ops.toList o s.sl s.mem = some e /\ panOf C o s.sl = p /\ RunsP P C b ops es s' r (e.go s)
theorem runsP_of {s' : St} : (l : List Oper) -> (k : Nat) -> (s : St) -> (fs : List (Ef × Option Pan)) -> runPan P C b ops.toList l s = some (fs, s') -> (∀ i o, l[i]? = some o -> ops[k + i]? = some o) ->
  (∀ i e, fs[i]? = some e -> es[k + i]? = some e) -> RunsP P C b ops es s' (List.range' k l.length) s
 | [], k, s, fs, h, _, _ => by
  simp only [runPan, Option.some.injEq, Prod.mk.injEq] at h
  exact h.2
 | o :: r, k, s, fs, h, ho, he => by
  simp only [runPan] at h
  split at h <;> try (cases h; done)
  rename_i e heff
  split at h <;> try (cases h; done)
  rename_i es' s2 hr
  simp only [Option.some.injEq, Prod.mk.injEq] at h
  obtain ⟨rfl, rfl⟩ := h
  refine ⟨o, e, _, by simpa using ho 0 o rfl, by simpa using he 0 _ rfl, heff, rfl, ?_⟩
  refine runsP_of r (k + 1) _ es' hr (fun i o' hi => ?_) (fun i e' hi => ?_)
  ·have := ho (i + 1) o' (by simpa using hi)
   rwa [show k + 1 + i = k + (i + 1) by omega]
  ·have := he (i + 1) e' (by simpa using hi)
   rwa [show k + 1 + i = k + (i + 1) by omega]
theorem runPan_n {opl : List Oper} : (l : List Oper) -> (s : St) -> (fs : List (Ef × Option Pan)) -> (s' : St) -> runPan P C b opl l s = some (fs, s') -> s'.n = s.n
 | [], s, fs, s', h => by
  simp only [runPan, Option.some.injEq, Prod.mk.injEq] at h
  rw [h.2]
 | o :: r, s, fs, s', h => by
  simp only [runPan] at h
  split at h <;> try (cases h; done)
  split at h <;> try (cases h; done)
  rename_i es' s2 hr
  simp only [Option.some.injEq, Prod.mk.injEq] at h
  obtain ⟨rfl, rfl⟩ := h
  exact (runPan_n r _ es' _ hr).trans rfl
theorem runPan_length {opl : List Oper} : (l : List Oper) -> (s : St) -> (fs : List (Ef × Option Pan)) -> (s' : St) -> runPan P C b opl l s = some (fs, s') -> fs.length = l.length
 | [], s, fs, s', h => by
  simp only [runPan, Option.some.injEq, Prod.mk.injEq] at h
  rw [← h.1]
  rfl
 | o :: r, s, fs, s', h => by
  simp only [runPan] at h
  split at h <;> try (cases h; done)
  split at h <;> try (cases h; done)
  rename_i es' s2 hr
  simp only [Option.some.injEq, Prod.mk.injEq] at h
  obtain ⟨rfl, rfl⟩ := h
  simp [runPan_length r _ es' _ hr]
theorem frontP {s' : St} {j : Nat} : (rem : List Nat) -> (s : St) -> RunsP P C b ops es s' rem s -> rem.Pairwise (· < ·) -> j ∈ rem ->
  (∀ i ∈ rem, i < j -> ∀ e f, es[i]? = some e -> es[j]? = some f -> indep e.1 f.1 = true) ->
  ∃ o f p, ops[j]? = some o /\ es[j]? = some (f, p) /\ effOf P (gP C) b ops.toList o s.sl s.mem = some f /\ panOf C o s.sl = p /\ RunsP P C b ops es s' (rem.erase j) (f.go s)
 | [], _, _, _, hj, _ => by simp at hj
 | i :: r, s, hr, hp, hj, hi => by
  obtain ⟨o, e, p, ho, he, heff, hpan, hr'⟩ := hr
  by_cases hij : i = j
  ·subst hij
   refine ⟨o, e, p, ho, he, heff, hpan, ?_⟩
   rw [List.erase_cons_head]
   exact hr'
  ·have hjr : j ∈ r := by
    rcases List.mem_cons.1 hj with h | h
    ·exact absurd h.symm hij
    ·exact h
   have hlt : i < j := (List.pairwise_cons.1 hp).1 j hjr
   obtain ⟨oj, f, pj, hoj, hfj, hf, hpj, hrr⟩ := frontP r (e.go s) hr' (List.pairwise_cons.1 hp).2 hjr (fun k hk hkj => hi k (List.mem_cons_of_mem _ hk) hkj)
   have hind : indep e f = true := hi i (by simp) hlt _ _ he hfj
   have hsp := indep_spec hind
   have hfs := eff_back hind hf
   refine ⟨oj, f, pj, hoj, hfj, hfs, (panOf_go hfs (fun t ht => (hsp.1 t ht).1)).symm.trans hpj, ?_⟩
   rw [List.erase_cons_tail (by simpa using hij)]
   refine ⟨o, e, p, ho, he, eff_forth hind heff, (panOf_go heff (fun t ht => hsp.2.1 t ht)).trans hpan, ?_⟩
   rw [← go_comm hind]
   exact hrr
theorem pan_sound (hC : CxOK P C) {o : Oper} {st : St} {a : Act} {W : List Tmp} {p : Pan} (hi : InvG P E st a w W F γ) (h : panOf C o st.sl = some p) (hb : p.bad = true) (hn : conj p.good) (K : Act -> World -> Prop) (Q : Exit -> Act -> World -> Prop)
  (hq : ∀ w', I P E (clrS st) a w' -> Q (.panic [{ v := p.pv.val, recovered := false }]) a w') : o.guard = none /\ o.wp P a w K Q := by
 unfold panOf at h
 split at h <;> try (cases h; done)
 rename_i f0 cargs ts f caps args hg ho hvs
 refine ⟨hg, ?_⟩
 split at h <;> try (cases h; done)
 rename_i pc hpc
 split at h <;> try (cases h; done)
 rename_i xs hrs
 split at h <;> try (cases h; done)
 rename_i x n hdec
 simp only [Option.some.injEq] at h
 subst h
 obtain ⟨hn1, hn2⟩ := conj_append.1 hn
 have hev := evMs_rep hi.sl o.op.operands.toList
 rw [hvs] at hev
 have hops : o.op.operands.toList.map a.eval = a.eval f0 :: (cargs.map a.eval).toList := by simp [ho, Op.operands, Call.operands]
 rw [hops] at hev
 obtain ⟨⟨_, hfv⟩, hargs⟩ := hev
 obtain ⟨cv, e1, e2, e3⟩ := hfv
 have hcaps := caps_live e2 e3
 have hrun : (∀ args w, (callFunc f args).run P w = .ok (.enter f args) w) -> (execOp a.eval o).run P w = .ok (.enter f (cargs.map a.eval ++ cv)) w := fun hen => by
  unfold execOp
  rw [ho]
  simp [resolve, e1, Deferred.ofValue, invoke, hen]
 have harr : ((cargs.map a.eval).toList ++ cv.toList).toArray = cargs.map a.eval ++ cv := by simp
 have hall : (args ++ caps.map AV.c).all nmA = true := by
  have : ∀ (l : List AV), (∃ xs u', rsAs (fun _ => none) l = some (xs, u')) -> l.all nmA = true := by
   intro l
   induction l with
   | nil => intros; rfl
   | cons y l ih =>
    rintro ⟨xs, u', hx⟩
    simp only [rsAs] at hx
    split at hx <;> try (cases hx; done)
    rename_i h1 h2
    simp only [List.all_cons, Bool.and_eq_true]
    refine ⟨?_, ih ⟨_, _, h2⟩⟩
    cases y <;> first | rfl | (simp [rsA] at h1)
  exact this _ ⟨_, _, hrs⟩
 have hargs' : Reps P w F (refOK st.mem γ) (args ++ caps.map AV.c) ((cargs.map a.eval).toList ++ cv.toList) := by
  refine reps_append (repsM_plain hargs ?_) hcaps
  rw [List.all_append, Bool.and_eq_true] at hall
  exact hall.1
 obtain ⟨F1, s1, m1, _, r1⟩ := rsAs_sound hi.mem (inv_bd hi) (SubM.of fun _ _ h => by cases h) hrs hargs'
 have hps := decPs_rep hC.ct hdec hn1 r1
 obtain ⟨hen, hcalls⟩ := hC.pc f pc hpc
 have hc := hcalls w F1 x _ s1.bd hps hn2
 unfold Oper.wp
 rw [hrun hen]
 show Calls P f (cargs.map a.eval ++ cv) w _
 rw [harr] at hc
 have hb' : pc.bad x = true := hb
 refine hc.mono fun e w2 hp => ?_
 rcases hp with ⟨hbad, _⟩ | ⟨hbad, rfl, hbel⟩
 ·rw [hb'] at hbad
  cases hbad
 ·refine hq w2 ⟨F1, γ, ?_⟩
  obtain ⟨s2, m2⟩ := Step.below m1 (Step.size' hi) s1.bd hbel (F' := F1) (fun _ h => h) (fun b hb => ⟨.inl hb, Nat.lt_of_lt_of_le (s1.bd b hb) hbel.size⟩)
  have s3 := s1.trans s2
  obtain ⟨γ0, h0⟩ := hi.step
  exact inv_clr (W := W) ⟨hi.n, hi.df, ⟨γ0, h0.trans s3⟩, m2, fun t => (hi.sl t).mono s3.hF s3.hw s3.hR, hi.hg, fun t => s3.repA (hi.gh t)⟩
theorem inv_keep {st : St} {a : Act} {D : List Tmp} {s0 : St} (h : InvG P E (clrS st) a w [] F γ) (hs : ∀ t, t ∉ D -> st.sl t = s0.sl t) : InvG P E ⟨st.n, keepS D s0.sl, st.mem, st.gs⟩ a w [] F γ := by
 refine ⟨h.n, h.df, h.step, h.mem, fun t => ?_, fun t g want v ht => ?_, h.gh⟩
 ·show SlotOK P w F _ _ (if D.contains t then AV.dead else clr s0.sl t) _
  split
  ·trivial
  ·rename_i hd
   have hd' : t ∉ D := fun hm => hd (by simpa using hm)
   have e : clr s0.sl t = clr st.sl t := by
    unfold clr
    rw [hs t hd']
   rw [e]
   exact h.sl t
 ·have ht' : (if D.contains t then AV.dead else clr s0.sl t) = .maybe g want v := ht
  split at ht'
  ·cases ht'
  ·rename_i hd
   have hd' : t ∉ D := fun hm => hd (by simpa using hm)
   have e : clr s0.sl t = clr st.sl t := by
    unfold clr
    rw [hs t hd']
   rw [e] at ht'
   exact h.hg t g want v ht'
def GoodE (pv : PV) (x : Ef × Option Pan) : Prop := match x.2 with
 | none => conj x.1.need
 | some p => (p.bad = false -> conj x.1.need) /\ (p.bad = true -> conj p.good /\ p.pv = pv)
theorem goodN_ok {pv : PV} {x : Ef × Option Pan} (h : conj (goodN pv x)) : GoodE pv x := by
 obtain ⟨e, p⟩ := x
 cases p with
 | none => exact h
 | some p => exact ⟨h.1, h.2⟩
def RegP (P : Program) (E : Env) (C : Cx) (b : Nat) (ops : Array Oper) (es : List (Ef × Option Pan)) (D : List Tmp) (s0 s' : St) (rem : List Nat) (a : Act) (w : World) : Prop :=
 ∃ st W F γ, InvG P E st a w W F γ /\ (∀ t, t ∈ W ↔ ∃ k o, ops[k]? = some o /\ k ∉ rem /\ o.dst = some t) /\ RunsP P C b ops es s' rem st /\ st.n = s'.n /\ st.gs = s0.gs /\
  (∀ (k : Nat) e p, es[k]? = some (e, some p) -> k ∉ rem -> p.bad = false) /\ ((∃ k : Nat, ∃ e p, k ∈ rem /\ es[k]? = some (e, some p)) -> st.mem = s0.mem /\ ∀ t, t ∉ D -> st.sl t = s0.sl t)
theorem regP_step (hC : CxOK P C) {D : List Tmp} {s0 s' : St} {rem : List Nat} {a : Act} (hi : RegP P E C b ops es D s0 s' rem a w) {j : Nat} (hj : j ∈ rem) (hp : rem.Pairwise (· < ·))
  (hfront : ∀ i ∈ rem, i < j -> ∀ e f, es[i]? = some e -> es[j]? = some f -> indep e.1 f.1 = true) (hguard : ∀ o j' want, ops[j]? = some o -> o.guard = some (j', want) -> j' ∉ rem) (hst : StatOK s'.n ops)
  {pv : PV} (hgood : ∀ (i : Nat) x, es[i]? = some x -> GoodE pv x) (hwr : ∀ f p, es[j]? = some (f, p) -> (f.wr ≠ [] ∨ ∃ t, f.dst = some t /\ t ∉ D) -> ∀ (k : Nat) e q, es[k]? = some (e, some q) -> k ∉ rem) (hn0 : s0.n = s'.n)
  (K : Act -> World -> Prop) (Q : Exit -> Act -> World -> Prop) (hK : ∀ a' w', RegP P E C b ops es D s0 s' (rem.erase j) a' w' -> K a' w')
  (hQ : (∃ k : Nat, ∃ e p, es[k]? = some (e, some p) /\ p.bad = true) -> ∀ a' w', I P E ⟨s0.n, keepS D s0.sl, s0.mem, s0.gs⟩ a' w' -> Q (.panic [{ v := pv.val, recovered := false }]) a' w') : wpOp P ops Q j K a w := by
 obtain ⟨st, W, F, γ, hinv, hW, hruns, hn, hgs, hdone, hmem⟩ := hi
 obtain ⟨o, f, p, ho, hf, heff, hpan, hr⟩ := frontP rem st hruns hp hj hfront
 have hnd : rem.Nodup := nodup_of_lt hp
 have hmemE : ∀ k, k ∉ rem.erase j ↔ k = j ∨ k ∉ rem := fun k => by
  rw [hnd.mem_erase_iff]
  constructor
  ·intro h
   by_cases hk : k = j
   ·exact .inl hk
   ·exact .inr fun h' => h ⟨hk, h'⟩
  ·rintro (h | h) ⟨h1, h2⟩
   ·exact h1 h
   ·exact h h2
 unfold wpOp
 rw [ho]
 simp only
 have hg := hgood j _ hf
 by_cases hbad : ∃ q, p = some q /\ q.bad = true
 ·obtain ⟨q, rfl, hq⟩ := hbad
  obtain ⟨hgq, hpv⟩ := hg.2 hq
  have hm0 := hmem ⟨j, f, q, hj, hf⟩
  have key := pan_sound hC (K := K) (Q := Q) hinv hpan hq hgq (fun w' hiw => by
   rw [hpv]
   refine hQ ⟨j, f, q, hf, hq⟩ a w' ?_
   obtain ⟨F1, γ1, hiw⟩ := hiw
   rw [hn0, ← hn, ← hm0.1, ← hgs]
   exact ⟨F1, γ1, inv_keep hiw hm0.2⟩)
  have hw : Region.wanted o (yielded ops a.tmps) = true := by simp [Region.wanted, key.1]
  rw [if_pos hw]
  exact .inl key.2
 ·have hneed : conj f.need := by
   cases p with
   | none => exact hg
   | some q =>
    refine hg.1 ?_
    cases hq : q.bad with
    | false => rfl
    | true => exact absurd ⟨q, rfl, hq⟩ hbad
  have key := op_step (gP_ok hC) (ops := ops) hinv heff hneed (fun x hx => ⟨by rw [hn]; exact hst.lt j o x ho hx, fun hxW => by
    obtain ⟨k, ok, hok, hk, hd⟩ := (hW x).1 hxW
    have := hst.once j k o ok x ho hok hx hd
    subst this
    exact hk hj⟩)
   (fun j' want g hg hd => by
    have h1 := hguard o j' want ho hg
    cases ho' : ops[j']? with
    | none => rw [ho'] at hd; cases hd
    | some o' =>
     rw [ho'] at hd
     exact (hW g).2 ⟨j', o', ho', h1, hd⟩)
   K Q (fun a' w' F' γ' hinv' => hK a' w' ⟨f.go st, _, F', γ', hinv', fun t => ?_, hr, hn, hgs, fun k e q hk hkr => ?_, fun hex => ?_⟩)
  ·split
   ·rename_i hw
    rw [if_pos hw] at key
    exact .inl key
   ·rename_i hw
    rw [if_neg hw] at key
    exact key
  ·rw [List.mem_append, hW]
   constructor
   ·rintro (h | ⟨k, ok, h1, h2, h3⟩)
    ·exact ⟨j, o, ho, (hmemE j).2 (.inl rfl), by simpa using h⟩
    ·exact ⟨k, ok, h1, (hmemE k).2 (.inr h2), h3⟩
   ·rintro ⟨k, ok, h1, h2, h3⟩
    rcases (hmemE k).1 h2 with rfl | h
    ·rw [ho] at h1
     cases h1
     exact .inl (by simp [h3])
    ·exact .inr ⟨k, ok, h1, h, h3⟩
  ·rcases (hmemE k).1 hkr with rfl | h
   ·rw [hf] at hk
    cases hk
    cases hq : q.bad with
    | false => rfl
    | true => exact absurd ⟨q, rfl, hq⟩ hbad
   ·exact hdone k e q hk h
  ·obtain ⟨k, e, q, hk, hke⟩ := hex
   have hkr := List.mem_of_mem_erase hk
   have hm0 := hmem ⟨k, e, q, hkr, hke⟩
   refine ⟨?_, fun t ht => ?_⟩
   ·show upds st.mem f.wr = s0.mem
    have hnil : f.wr = [] := by
     apply Classical.byContradiction
     intro hne
     exact hwr f p hf (.inl hne) k e q hke hkr
    rw [hnil]
    exact hm0.1
   ·show setA st.sl f.dst f.v t = s0.sl t
    rw [← hm0.2 t ht]
    cases hx : f.dst with
    | none => rfl
    | some x =>
     have hne : t ≠ x := fun htx => by
      subst htx
      exact hwr f p hf (.inr ⟨t, hx, ht⟩) k e q hke hkr
     exact if_neg hne
theorem wrOk_spec (h : wrOk ops.toList es = true) {j : Nat} {f : Ef} {p : Option Pan} (hj : es[j]? = some (f, p)) (hne : f.wr ≠ []) {k : Nat} {e : Ef} {q : Pan} (hk : es[k]? = some (e, some q)) : ((masksGo [] ops.toList).getD j 0).testBit k = true := by
 unfold wrOk at h
 rw [List.all_eq_true] at h
 have hjl := (List.getElem?_eq_some_iff.1 hj).1
 have hkl := (List.getElem?_eq_some_iff.1 hk).1
 have h1 := h j (List.mem_range.2 hjl)
 rw [hj] at h1
 split at h1
 ·rename_i f' p' mask hf' hm
  simp only [Option.some.injEq, Prod.mk.injEq] at hf'
  obtain ⟨rfl, rfl⟩ := hf'
  rw [Bool.or_eq_true] at h1
  rcases h1 with h1 | h1
  ·exact absurd (by simpa using h1) hne
  ·rw [List.all_eq_true] at h1
   have h2 := h1 k (List.mem_range.2 hkl)
   rw [hk] at h2
   rw [List.getD_eq_getElem?_getD, hm]
   exact h2
 ·cases h1
theorem early_spec {j : Nat} {f : Ef} {p : Option Pan} {t : Tmp} (hj : es[j]? = some (f, p)) (hd : f.dst = some t) (ht : t ∉ earlyD ops.toList es) {mask : Nat} (hm : (masksGo [] ops.toList)[j]? = some mask) {k : Nat} {e : Ef} {q : Pan} (hk : es[k]? = some (e, some q)) : mask.testBit k = true := by
 apply Classical.byContradiction
 intro hn
 apply ht
 have hjl := (List.getElem?_eq_some_iff.1 hj).1
 have hkl := (List.getElem?_eq_some_iff.1 hk).1
 refine List.mem_filterMap.2 ⟨j, List.mem_range.2 hjl, ?_⟩
 rw [hj, hm]
 show (if _ then none else f.dst) = some t
 rw [if_neg, hd]
 intro hall
 rw [List.all_eq_true] at hall
 have := hall k (List.mem_range.2 hkl)
 rw [hk] at this
 exact hn this
theorem regP_any (hC : CxOK P C) {D : List Tmp} (hD : D = earlyD ops.toList es) {s0 s' : St} (hst : StatOK s'.n ops) (hord : orderOk ops.toList (es.map (·.1)) = true) (hwro : wrOk ops.toList es = true) {pv : PV} (hgood : ∀ (i : Nat) x, es[i]? = some x -> GoodE pv x) (hn0 : s0.n = s'.n) (Q : Exit -> Act -> World -> Prop)
  (hQ : ∀ a w, RegP P E C b ops es D s0 s' [] a w -> Q .normal a w)
  (hQp : (∃ k : Nat, ∃ e p, es[k]? = some (e, some p) /\ p.bad = true) -> ∀ a' w', I P E ⟨s0.n, keepS D s0.sl, s0.mem, s0.gs⟩ a' w' -> Q (.panic [{ v := pv.val, recovered := false }]) a' w') :
  (fuel : Nat) -> ∀ (rem : List Nat) (listed : Array Bool) (a : Act) (w : World), rem.length <= fuel -> rem.Pairwise (· < ·) -> listed.size = ops.size -> (∀ i, i < ops.size -> (listed.getD i true = false ↔ i ∈ rem)) -> (∀ i ∈ rem, i < ops.size) ->
   (∀ k, k < ops.size -> k ∉ rem -> ∀ i, ((masksGo [] ops.toList).getD k 0).testBit i = true -> i ∉ rem) -> RegP P E C b ops es D s0 s' rem a w -> wpAny P .any ops Q fuel listed a w
 | fuel, [], listed, a, w, _, _, hsz, hl, _, _, hi => by
  have hnil : Region.ready .any ops listed = [] := by
   apply List.eq_nil_iff_forall_not_mem.2
   intro i hmem
   obtain ⟨h1, o, ho, _⟩ := mem_ready.1 hmem
   have hlt := (Array.getElem?_eq_some_iff.1 ho).1
   simpa using (hl i hlt).1 h1
  cases fuel with
  | zero => exact ⟨hnil, hQ a w hi⟩
  | succ fuel => exact ⟨fun _ => hQ a w hi, fun i hmem => by rw [hnil] at hmem; simp at hmem⟩
 | 0, i :: r, _, _, _, hlen, _, _, _, _, _, _ => by simp at hlen
 | fuel + 1, i :: r, listed, a, w, hlen, hp, hsz, hl, hlt, hmask, hi => by
  have hready : i ∈ Region.ready .any ops listed := by
   have hio := hlt i (by simp)
   refine mem_ready.2 ⟨(hl i hio).2 (by simp), ops[i], by simp [hio], fun e he hb => ?_⟩
   have hback := hst.back i ops[i] (by simp [hio]) e he hb
   have hnot : e.on ∉ i :: r := fun hh => by
    rcases List.mem_cons.1 hh with h | h
    ·omega
    ·have := (List.pairwise_cons.1 hp).1 _ h
     omega
   have h1 : ¬ listed.getD e.on true = false := fun h => hnot ((hl e.on (by omega)).1 h)
   have hsz' : e.on < listed.size := by omega
   simp only [Array.getD_eq_getD_getElem?, Array.getElem?_eq_getElem hsz', Option.getD_some] at h1 ⊢
   simpa using h1
  refine ⟨fun hnil => by rw [hnil] at hready; simp at hready, fun j hj => ?_⟩
  obtain ⟨hj1, o, ho, hjall⟩ := mem_ready.1 hj
  have hjlt := (Array.getElem?_eq_some_iff.1 ho).1
  have hjrem := (hl j hjlt).1 hj1
  have hlisted : ∀ b, listed.getD b false = true -> b < ops.size /\ b ∉ i :: r := fun b hb => by
   have hbs : b < listed.size := by
    rcases Nat.lt_or_ge b listed.size with h | h
    ·exact h
    ·simp [Array.getElem?_eq_none h] at hb
   refine ⟨by omega, fun hmem => ?_⟩
   have := (hl b (by omega)).2 hmem
   simp only [Array.getD_eq_getD_getElem?, Array.getElem?_eq_getElem hbs, Option.getD_some] at hb this
   rw [hb] at this
   cases this
  obtain ⟨m, hm1, hm2⟩ := (masksGo_get ops.toList []).2 j o (by simpa using ho)
  simp only [List.length_nil, Nat.zero_add] at hm1
  have hmj : ∀ b, ((masksGo [] ops.toList).getD j 0).testBit b = true -> b ∉ i :: r := fun b hb => by
   rw [List.getD_eq_getElem?_getD, hm1] at hb
   obtain ⟨e, he, hb', hor⟩ := hm2 b hb
   obtain ⟨h1, h2⟩ := hlisted e.on (hjall e he hb')
   rcases hor with rfl | h
   ·exact h2
   ·exact hmask e.on h1 h2 b h
  have hnd : (i :: r).Nodup := nodup_of_lt hp
  refine regP_step hC hi hjrem hp (fun k hk hkj e f he hf => ?_) (fun o' j' want ho' hg hmem => ?_) hst hgood (fun f p hf hne k e q hk => ?_) hn0 _ Q (fun a' w' h' => ?_) hQp
  ·have he' : (es.map (·.1))[k]? = some e.1 := by rw [List.getElem?_map, he]; rfl
   have hf' : (es.map (·.1))[j]? = some f.1 := by rw [List.getElem?_map, hf]; rfl
   exact (orderOk_spec hord he' hf' hkj).resolve_left fun h => hmj k h hk
  ·obtain ⟨_, e, he, heq, hb⟩ := hst.guard j o' j' want ho' hg
   rw [ho] at ho'
   cases ho'
   have := (hlisted e.on (hjall e he hb)).2
   rw [heq] at this
   exact this hmem
  ·rcases hne with hne | ⟨t, hdt, htD⟩
   ·exact hmj k (wrOk_spec hwro hf hne hk)
   ·refine hmj k ?_
    rw [List.getD_eq_getElem?_getD, hm1]
    exact early_spec hf hdt (hD ▸ htD) hm1 hk
  ·refine regP_any hC hD hst hord hwro hgood hn0 Q hQ hQp fuel _ (listed.setIfInBounds j true) a' w' ?_ (pairwise_erase hp j) (by simpa using hsz) (fun k hk => ?_) (fun k hk => hlt k (List.mem_of_mem_erase hk)) (fun k hk hkr b hb => ?_) h'
   ·rw [List.length_erase_of_mem hjrem]
    omega
   ·rw [hnd.mem_erase_iff]
    by_cases hkj : j = k
    ·subst hkj
     simp [hsz, hjlt]
    ·simp only [Array.getD_eq_getD_getElem?, Array.getElem?_setIfInBounds_ne hkj]
     rw [← Array.getD_eq_getD_getElem?, hl k hk]
     constructor
     ·exact fun h => ⟨Ne.symm hkj, h⟩
     ·exact fun h => h.2
   ·rw [hnd.mem_erase_iff] at hkr ⊢
    rintro ⟨h1, h2⟩
    by_cases hkj : k = j
    ·subst hkj
     exact hmj b hb h2
    ·exact hmask k hk (fun hh => hkr ⟨hkj, hh⟩) b hb h2
theorem treeP_sat {d : St} {all : List (Ef × Option Pan)} {good : Tr} {Q : XE -> St -> Prop} : {ps : List Pan} -> (treeP d all good ps).sat Q -> (∃ p ∈ ps, p.bad = true /\ conj (all.flatMap (goodN p.pv)) /\ Q (.panic p.pv) d) ∨ ((∀ p ∈ ps, p.bad = false) /\ good.sat Q)
 | [], h => .inr ⟨fun p hp => by simp at hp, h⟩
 | p :: r, h => by
  cases hb : p.bad with
  | true =>
   obtain ⟨h1, h2⟩ := needL_sat _ (h.1 hb)
   exact .inl ⟨p, by simp, hb, h1, h2⟩
  | false =>
   rcases treeP_sat (h.2 hb) with ⟨q, h1, h2⟩ | ⟨h1, h2⟩
   ·exact .inl ⟨q, List.mem_cons_of_mem _ h1, h2⟩
   ·refine .inr ⟨fun q hq => ?_, h2⟩
    rcases List.mem_cons.1 hq with rfl | hq
    ·exact hb
    ·exact h1 q hq
theorem conj_flatMap {A : Type} {f : A -> List Prop} : {l : List A} -> conj (l.flatMap f) -> ∀ x ∈ l, conj (f x)
 | [], _, x, hx => by simp at hx
 | y :: r, h, x, hx => by
  rw [List.flatMap_cons] at h
  obtain ⟨h1, h2⟩ := conj_append.1 h
  rcases List.mem_cons.1 hx with rfl | hx
  ·exact h1
  ·exact conj_flatMap h2 x hx
theorem regionP_run (hC : CxOK P C) {id : Nat} : RunOK P E (.region id ops true) (regionP P C b ops.toList) := by
 intro s t h Q hq a w hi
 unfold regionP at h
 split at h <;> try (cases h; done)
 rename_i hstat
 split at h <;> try (cases h; done)
 rename_i es s' hrun
 split at h <;> try (cases h; done)
 rename_i hord
 simp only [Option.some.injEq] at h
 subst h
 have hn := runPan_n _ _ _ _ hrun
 have hst : StatOK s'.n ops := by rw [hn]; exact statOK_of hstat
 have hruns : RunsP P C b ops es s' (List.range' 0 ops.size) s := by
  have := runsP_of (es := es) ops.toList 0 s es hrun (fun i o hi => by simpa using hi) (fun i e hi => by simpa using hi)
  simpa using this
 have hlen : es.length = ops.size := by
  have := runPan_length _ _ _ _ hrun
  simpa using this
 obtain ⟨F, γ, hi⟩ := hi
 have hstart : ∀ w', InvG P E s a w' [] F γ -> RegP P E C b ops es (earlyD ops.toList es) s s' (List.range' 0 ops.size) a w' := fun w' hi' => by
  refine ⟨s, [], F, γ, hi', fun t => ?_, hruns, hn.symm, rfl, fun k e p hk hnot => ?_, fun _ => ⟨rfl, fun _ _ => rfl⟩⟩
  ·constructor
   ·intro hh; simp at hh
   ·rintro ⟨k, o, hk, hnot, _⟩
    exfalso
    apply hnot
    rw [List.mem_range'_1]
    have := (Array.getElem?_eq_some_iff.1 hk).1
    omega
  ·exfalso
   apply hnot
   rw [List.mem_range'_1]
   have := (List.getElem?_eq_some_iff.1 hk).1
   omega
 have key : ∀ pv : PV, (∀ (i : Nat) x, es[i]? = some x -> GoodE pv x) -> (∀ a' w', RegP P E C b ops es (earlyD ops.toList es) s s' [] a' w' -> After P E Q .normal a' w') ->
   ((∃ k : Nat, ∃ e p, es[k]? = some (e, some p) /\ p.bad = true) -> ∀ a' w', I P E ⟨s.n, keepS (earlyD ops.toList es) s.sl, s.mem, s.gs⟩ a' w' -> After P E Q (.panic [{ v := pv.val, recovered := false }]) a' w') -> (Code.region id ops true).wp P (After P E Q) a w := by
  intro pv hg hend hpan
  refine wp_region_any hC.mo ?_
  refine regP_any hC rfl hst hord.1 hord.2 hg hn.symm _ hend hpan ops.size (List.range' 0 ops.size) _ a _ (by simp) List.pairwise_lt_range' (by simp) (fun i hi' => ?_) (fun i hi' => ?_) (fun k hk hnot => ?_) (hstart _ (inv_drew hi))
  ·simp only [List.mem_range'_1, Array.getD_eq_getD_getElem?, Array.getElem?_replicate, hi', if_true, Option.getD_some, true_iff]
   omega
  ·rw [List.mem_range'_1] at hi'
   omega
  ·exfalso
   apply hnot
   rw [List.mem_range'_1]
   omega
 rcases treeP_sat hq with ⟨p, hp, hb, hall, hQ⟩ | ⟨hno, hgood⟩
 ·refine key p.pv (fun i x hx => goodN_ok (conj_flatMap hall x (List.mem_of_getElem? hx))) ?_ (fun _ a' w' hiw => ⟨.panic p.pv, _, rfl, hiw, hQ⟩)
  rintro a' w' ⟨st, W, F', γ', hinv, _, _, _, _, hdone, _⟩
  exfalso
  obtain ⟨x, hx, hxp⟩ := List.mem_filterMap.1 hp
  obtain ⟨i, hi⟩ := List.getElem?_of_mem hx
  obtain ⟨e, q⟩ := x
  simp only at hxp
  subst hxp
  have := hdone i e p hi (by simp)
  rw [hb] at this
  cases this
 ·obtain ⟨hneed, hq'⟩ := needs_sat _ hgood
  have hbadF : ∀ (k : Nat) e p, es[k]? = some (e, some p) -> p.bad = false := fun k e p hk => hno p (List.mem_filterMap.2 ⟨(e, some p), List.mem_of_getElem? hk, rfl⟩)
  refine key ⟨0, .i64, 0⟩ (fun i x hx => ?_) ?_ ?_
  ·obtain ⟨e, p⟩ := x
   have hne : conj e.need := hneed e (List.mem_map.2 ⟨(e, p), List.mem_of_getElem? hx, rfl⟩)
   cases p with
   | none => exact hne
   | some q => exact ⟨fun _ => hne, fun hb => by rw [hbadF i e q hx] at hb; cases hb⟩
  ·rintro a' w' ⟨st, W, F', γ', hinv, _, hr, _⟩
   have hr' : st = s' := hr
   subst hr'
   exact ⟨.normal, _, rfl, ⟨F', γ', inv_clr hinv⟩, hq'⟩
  ·rintro ⟨k, e, p, hk, hb⟩
   rw [hbadF k e p hk] at hb
   cases hb
end
def deferB : List Oper -> Option (FuncId × Tmp)
 | [⟨none, .defer ⟨.value (.func f), args, _⟩, _, _, _, none⟩] => match args.toList with
  | [.tmp tp] => some (f, tp)
  | _ => none
 | _ => none
def runDx (P : Program) (C : Cx) (run : St -> Option Tr) (T : TypeId) (k : IntKind) (fn : Func) (A : Code) (tp : Tmp) (ps : List PT) (rs : List Ty) (xs : denP ps) : Option (Fr (denL rs)) :=
 if (fn.name == "runtime.NumGoroutine") = false /\ ps.length <= fn.ntmps then match codeA P C 0 lam0 A 0 (startA fn.ntmps (encPs ps xs)) with
  | some (.leaf .normal s1) => match s1.sl tp with
   | .c (.ptr id 0) => match run ⟨s1.n, s1.sl, s1.mem, fun t => if t = 0 then .c (.ptr id 0) else .dead⟩ with
    | some t => frD P T k fn.results.toList rs t
    | none => none
   | _ => none
  | _ => none
 else none
section
variable {P : Program} {w w' : World} {E : Env} {F F' : Nat -> Prop} {γ γ' : Nat -> Value}
theorem dx_sound {C : Cx} (hC : CxOK P C) {run : St -> Option Tr} {f g : FuncId} {T : TypeId} {k : IntKind} {fn : Func} {A c : Code} {rid : Nat} {ops : Array Oper} {tp : Tmp} {ps : List PT} {rs : List Ty} {fr : denP ps -> Fr (denL rs)} (x0 : denP ps)
  (hf : P.funcs[f]? = some fn) (hb : fn.body = some (.seq A (.seq (.region rid ops false) c))) (hd : deferB ops.toList = some (g, tp)) (hT : TolOK P g T k) (hR : ∀ E, RunOK P E c run)
  (hrun : ∀ xs, runDx P C run T k fn A tp ps rs xs = some (fr xs)) : SoundCt P f ⟨ps, rs, fun xs => (fr xs).get, fun xs => [(fr xs).ok]⟩ := by
 have h0 := hrun x0
 unfold runDx at h0
 split at h0 <;> try (cases h0; done)
 rename_i hc
 refine ⟨enters hf hb hc.1, fun w F xs vs hbd hr hok => calls_of_wp_defers hf hb ?_⟩
 have hr' := hrun xs
 unfold runDx at hr'
 simp only [hc, and_self, if_true] at hr'
 split at hr' <;> try (cases hr'; done)
 rename_i s1 ht1
 split at hr' <;> try (cases hr'; done)
 rename_i id hsl
 split at hr' <;> try (cases hr'; done)
 rename_i t ht2
 have hlen : vs.length = ps.length := repPs_len hr
 have hstart := start_inv (D := []) (n := fn.ntmps) hbd (fun R => encPs_rep (R := R) hr) (by have := hc.2; omega)
 have hsz : (vs.toArray).size = vs.length := by simp
 rw [hsz]
 refine wp_seq (wp_mono (codeA_sound hC A 0 (lam0_ok A 0) ht1 (Q := fun e s => e = .normal /\ s = s1) ⟨rfl, rfl⟩ hstart) ?_)
 rintro e a1 w1 ⟨xe, s, rfl, ⟨F1, γ1, hi⟩, rfl, rfl⟩
 have hv0 := inv_rep hi tp
 rw [hsl] at hv0
 obtain ⟨_, b0, hR0, hv0⟩ := hv0
 refine wp_seq (wp_region ?_)
 unfold deferB at hd
 split at hd <;> try (cases hd; done)
 rename_i f0 args ats ty pos aft hops
 split at hd <;> try (cases hd; done)
 rename_i tp0 hargs
 simp only [Option.some.injEq, Prod.mk.injEq] at hd
 obtain ⟨rfl, rfl⟩ := hd
 obtain ⟨ol⟩ := ops
 simp only at hops
 subst hops
 have hargs' : args = #[.tmp tp0] := by
  obtain ⟨l⟩ := args
  simp only at hargs
  rw [hargs]
 subst hargs'
 have hev : a1.eval (.tmp tp0) = .pointer (some ⟨b0, 0, none⟩) := hv0
 have hexec : (execOp a1.eval ⟨none, .defer ⟨.value (.func f0), #[.tmp tp0], ats⟩, ty, pos, aft, none⟩).run P w1 = .ok (.defer { target := .fn (.func f0) #[], args := #[.pointer (some ⟨b0, 0, none⟩)] }) w1 := by
  have hef : a1.eval (.func f0) = .func (.func f0) #[] #[] := rfl
  simp [execOp, resolve, hev, hef, Deferred.ofValue]
 have hrange : List.range (#[(⟨none, .defer ⟨.value (.func f0), #[.tmp tp0], ats⟩, ty, pos, aft, none⟩ : Oper)] : Array Oper).size = [0] := rfl
 rw [hrange]
 show wpOps P _ _ [0] a1 w1
 unfold wpOps
 simp only [List.getElem?_toArray, List.getElem?_cons_zero]
 have hw : Region.wanted (⟨none, .defer ⟨.value (.func f0), #[.tmp tp0], ats⟩, ty, pos, aft, none⟩ : Oper) (yielded #[(⟨none, .defer ⟨.value (.func f0), #[.tmp tp0], ats⟩, ty, pos, aft, none⟩ : Oper)] a1.tmps) = true := rfl
 rw [if_pos hw]
 refine .inl ?_
 unfold Oper.wp
 rw [hexec]
 rw [Oper.upon_defer]
 simp only [wpOps]
 show Code.wp P c (bodyPostD P fn (Post w F rs (fr xs).get)) { a1 with defers := { target := .fn (.func f0) #[], args := #[.pointer (some ⟨b0, 0, none⟩)] } :: a1.defers } w1
 have hi' : InvG P ⟨w, F, fun _ => .pointer (some ⟨b0, 0, none⟩), [{ target := .fn (.func f0) #[], args := #[.pointer (some ⟨b0, 0, none⟩)] }], w.heap.size, Nat.le_refl _⟩ ⟨s.n, s.sl, s.mem, fun t => if t = 0 then .c (.ptr id 0) else .dead⟩ { a1 with defers := { target := .fn (.func f0) #[], args := #[.pointer (some ⟨b0, 0, none⟩)] } :: a1.defers } w1 [] F1 γ1 := by
  refine ⟨hi.n, ?_, hi.step, hi.mem, hi.sl, hi.hg, fun t => ?_⟩
  ·show _ :: a1.defers = [_]
   rw [hi.df]
  ·show RepA P w1 F1 _ (if t = 0 then .c (.ptr id 0) else .dead) _
   split
   ·exact ⟨rfl, b0, hR0, rfl⟩
   ·trivial
 have hwp := hR ⟨w, F, fun _ => .pointer (some ⟨b0, 0, none⟩), [{ target := .fn (.func f0) #[], args := #[.pointer (some ⟨b0, 0, none⟩)] }], w.heap.size, Nat.le_refl _⟩ _ _ ht2 _ (frD_sat hr' hok) _ _ ⟨F1, γ1, hi'⟩
 refine wp_mono hwp ?_
 rintro e a2 w2 ⟨xe, s2, rfl, ⟨F2, γ2, hi2⟩, hx⟩
 have hinv : ∀ W, (invoke (.fn (.func f0) #[]) #[.pointer (some ⟨b0, 0, none⟩)]).run P W = .ok (.enter f0 #[.pointer (some ⟨b0, 0, none⟩)]) W := fun W => by
  have := hT.enter #[.pointer (some ⟨b0, 0, none⟩)] W
  simp [invoke, this]
 have hfin : (∃ n, endA P fn.results.toList rs s2 = some (Fr.needL n (.val (fr xs).get)) /\ conj n) -> Leaves P fn a2.tmps (Post w F rs (fr xs).get) a2.defers .returning w2 := by
  rintro ⟨n, hend, hn⟩
  rw [hi2.df]
  refine leaves_cons (by simp) (hinv w2) ((hT.idle _ w2).mono ?_)
  rintro e u' w' ⟨⟨v, rfl⟩, rfl, rfl⟩
  exact endA_post hi2 rfl hend hn
 cases xe with
 | normal => exact hfin hx
 | ret => exact hfin hx
 | exit _ => exact hx.elim
 | val _ => exact hx.elim
 | jump _ => exact hx.elim
 | panic p =>
  obtain ⟨s', n, hs', hin, hend, hn⟩ := hx
  obtain ⟨hty, hk, b, tyb, old, hG, hheap, hi3⟩ := told_inv hi2 hs' hin
  have hG' : (Value.pointer (some ⟨b0, 0, none⟩)) = .pointer (some ⟨b, 0, none⟩) := hG
  simp only [Value.pointer.injEq, Option.some.injEq, Addr.mk.injEq, and_true] at hG'
  subst hG'
  show Leaves P fn a2.tmps _ a2.defers (.panicking [{ v := .iface p.ty (.int p.k p.n), recovered := false }]) w2
  rw [hi2.df, hty, hk]
  refine leaves_cons (by simp) (hinv w2) ((hT.told b0 tyb old p.n w2 hheap).mono ?_)
  rintro e u' w' ⟨⟨v, rfl⟩, rfl, rfl⟩
  exact endA_post hi3 rfl hend hn
end
end Go.Ab

namespace Go.Ab
open Go Go.RowKit
section
variable {P : Program} {E : Env}
theorem DoesJ.scope2 {c rest : Code} {L0 L N Eo R : LS} {n id l : Nat} {f0 : L0.X -> Fr (Rd L.X Eo.X R.X)} {f : L.X -> Fr (Rd L.X Eo.X R.X)} (hf : findLabel c l = some rest) (h1 : DoesJ P l c L0 ⟨n, id, L, Eo, R⟩ f0) (h2 : DoesJ P l rest L ⟨n, id, L, Eo, R⟩ f)
  {F0 : L0.X -> Fr (Rd N.X Eo.X R.X)} {F : L.X -> Fr (Rd N.X Eo.X R.X)} {inv : L.X -> Prop} {μ : L.X -> Nat}
  (hlaw0 : ∀ x, ∀ Q : Rd N.X Eo.X R.X -> Prop, (F0 x).satP Q -> (f0 x).satP fun
   | .next x' => inv x' /\ (F x').satP Q
   | .out y => Q (.out y)
   | .back z => Q (.back z)
   | .pan p => Q (.pan p))
  (hlaw : ∀ x, inv x -> ∀ Q : Rd N.X Eo.X R.X -> Prop, (F x).satP Q -> (f x).satP fun
   | .next x' => inv x' /\ μ x' < μ x /\ (F x').satP Q
   | .out y => Q (.out y)
   | .back z => Q (.back z)
   | .pan p => Q (.pan p)) : Does P (.scope c) L0 ⟨n, id, N, Eo, R⟩ F0 := by
 intro E a w x Q hi hq
 have hmono : ∀ {J J' : Act -> World -> Prop} {c' : Code} {a : Act} {w : World}, (∀ a w, J a w -> J' a w) -> c'.wp P (Exit.jump l J (AfterR P E ⟨n, id, N, Eo, R⟩ Q)) a w -> c'.wp P (Exit.jump l J' (AfterR P E ⟨n, id, N, Eo, R⟩ Q)) a w := by
  intro J J' c' a w hJ h
  refine wp_mono h fun e a' w' he => ?_
  cases e with
  | goto l' => exact ⟨he.1, hJ _ _ he.2⟩
  | _ => exact he
 refine wp_scope_jumps l (fun a w => ∃ m, ∃ x, inv x /\ μ x = m /\ I P E (L.tpl n x) a w /\ (F x).satP Q) (fun a w => leastOf fun m => ∃ x, inv x /\ μ x = m /\ I P E (L.tpl n x) a w /\ (F x).satP Q) hf ?_ ?_
 ·refine wp_mono (h1 E a w x _ hi (hlaw0 x Q hq)) ?_
  rintro e a' w' ⟨r, hr, hm⟩
  cases r with
  | next x' =>
   obtain ⟨rfl, hi'⟩ := hm
   exact ⟨rfl, ⟨μ x', x', hr.1, rfl, hi', hr.2⟩⟩
  | out y =>
   obtain ⟨rfl, hi'⟩ := hm
   exact ⟨.out y, hr, rfl, hi'⟩
  | back z =>
   obtain ⟨rfl, hi'⟩ := hm
   exact ⟨.back z, hr, rfl, hi'⟩
  | pan v =>
   obtain ⟨rfl, hi'⟩ := hm
   exact ⟨.pan v, hr, rfl, hi'⟩
 ·rintro a w ⟨m, hm⟩
  obtain ⟨⟨x', q1, q2, q3, q4⟩, _⟩ := leastOf_spec (p := fun m => ∃ x, inv x /\ μ x = m /\ I P E (L.tpl n x) a w /\ (F x).satP Q) ⟨m, hm⟩
  refine wp_mono (h2 E a w x' _ q3 (hlaw x' q1 Q q4)) ?_
  rintro e a1 w1 ⟨r, hr, hm1⟩
  cases r with
  | next y =>
   obtain ⟨rfl, hi'⟩ := hm1
   refine ⟨rfl, ⟨μ y, y, hr.1, rfl, hi', hr.2.2⟩, ?_⟩
   rw [← q2]
   exact Nat.lt_of_le_of_lt ((leastOf_spec (p := fun m => ∃ x, inv x /\ μ x = m /\ I P E (L.tpl n x) a1 w1 /\ (F x).satP Q) ⟨μ y, y, hr.1, rfl, hi', hr.2.2⟩).2 (μ y) ⟨y, hr.1, rfl, hi', hr.2.2⟩) hr.2.1
  | out y =>
   obtain ⟨rfl, hi'⟩ := hm1
   exact ⟨.out y, hr, rfl, hi'⟩
  | back z =>
   obtain ⟨rfl, hi'⟩ := hm1
   exact ⟨.back z, hr, rfl, hi'⟩
  | pan v =>
   obtain ⟨rfl, hi'⟩ := hm1
   exact ⟨.pan v, hr, rfl, hi'⟩
end
end Go.Ab

namespace Go.Ab
open Go Go.RowKit
structure GrowOK (P : Program) (f : FuncId) (e : TypeId) (T : Ty) (bytes : Nat) : Prop where
 enters : ∀ args w, (callFunc f args).run P w = .ok (.enter f args) w
 calls : ∀ (w : World) (n : Nat), n <= maxLen -> n * bytes <= 140737488355328 -> Calls P f #[.slice none 0 0, .int .i64 n] w fun en w' =>
  ∃ v, en = .returned v /\ w.grownBy w' none /\ w'.ownsRow w.heap.size e T.size v 0 []
def growK (f : FuncId) (e : TypeId) (T : Ty) (bytes : Nat) (d : Nat) (g : FuncId) (args : List AV) (s : St) : Option Tr :=
 if g = f then match args, s.mem d with
  | [.c .nil, .c (.int .i64 n)], none => some (needL [0 <= n /\ n <= maxLen /\ n * bytes <= 140737488355328] (.leaf (.val (.c (.own d))) ⟨s.n, s.sl, upd s.mem d (.arr e T []), s.gs⟩))
  | _, _ => none
 else none
theorem alloc_old_ab (w : World) (o : Obj) (i : Nat) (h : i < w.heap.size) : (w.alloc o).heap[i]? = w.heap[i]? := by
 first
  | exact heap_alloc_old w o i h
  | exact heap_alloc_old w o h
theorem ownsRow_low {w : World} {B B' : Nat} {e : TypeId} {size n : Nat} {v : Value} {xs : List Value} (h : w.ownsRow B e size v n xs) (hb : B' <= B) : w.ownsRow B' e size v n xs :=
 ownsRow_base h fun g hg => Nat.le_trans hb (h.lt g hg).1
theorem growK_ok {P : Program} {f : FuncId} {e : TypeId} {T : Ty} {bytes : Nat} (h : GrowOK P f e T bytes) : InlOK P (growK f e T bytes) := by
 intro d g args s t ht
 unfold growK at ht
 split at ht <;> try (cases ht; done)
 rename_i hg
 subst hg
 split at ht <;> try (cases ht; done)
 rename_i n hmd
 simp only [Option.some.injEq] at ht
 subst ht
 refine ⟨h.enters, fun E a w F γ vs Q hi hr hq => ?_⟩
 obtain ⟨⟨h0, h1, h2⟩, hqv⟩ := hq
 match vs, hr with
 | [v1, v2], ⟨⟨_, hv1⟩, ⟨_, hv2, _⟩, _⟩ =>
  have e1 : v1 = .slice none 0 0 := hv1
  have e2 : v2 = .int .i64 n := hv2
  subst e1
  subst e2
  obtain ⟨m, rfl⟩ : ∃ m : Nat, n = m := ⟨n.toNat, by omega⟩
  have h3 : ((m * bytes : Nat) : Int) <= 140737488355328 := by rw [Int.natCast_mul]; exact h2
  have h4 : m * bytes <= 140737488355328 := by omega
  refine (h.calls w m (by omega) h4).mono fun en w2 hp => ?_
  obtain ⟨v, rfl, hgr, hown⟩ := hp
  have hBs := Step.size' hi
  have hlow : w2.ownsRow E.B e T.size v ([] : List T.den).length [] := ownsRow_low hown hBs
  obtain ⟨s1, m1⟩ := new_arr (v := v) (l := ([] : List T.den)) (xs := []) hi.mem (inv_bd hi) hBs hmd hgr hlow (fun g hg => (hown.lt g hg).1) (fun i x hx => by simp at hx)
  have hinv : InvG P E ⟨s.n, s.sl, upd s.mem d (.arr e T []), s.gs⟩ a w2 [] F (updγ γ d v) := by
   refine ⟨hi.n, hi.df, ?_, m1, fun t => (hi.sl t).mono s1.hF s1.hw s1.hR, hi.hg, fun t => s1.repA (hi.gh t)⟩
   obtain ⟨γ0, h0⟩ := hi.step
   exact ⟨γ0, h0.trans s1⟩
  exact ⟨.val (.c (.own d)), _, F, _, hqv, hinv, v, rfl, own_new (own_one hown)⟩
end Go.Ab

namespace Go.Ab
open Go Go.RowKit
section
variable {F : Fence} {n : Nat} {P : Program} {w : World}
end
end Go.Ab
namespace Go.Proofs.YtplkgghjldndkaaGreat
open Go Go.Ab Go.RowKit Go.Proofs Go.Shelf
attribute [local go_sem] Oper.semAt_some
theorem grow_row (w : World) (m : Nat) (z : Array Value) (hz : z.size = 9) (h1 : m <= maxLen) (e : TypeId) :
  w.grownBy ((w.alloc (.cells (Builtin.zeroCells z m ++ Builtin.zeroCells z (grownCap w m 0 e - m)) e)).drew) none /\
   ((w.alloc (.cells (Builtin.zeroCells z m ++ Builtin.zeroCells z (grownCap w m 0 e - m)) e)).drew).ownsRow w.heap.size e 9 (.slice (some ⟨w.heap.size, 0, none⟩) 0 (grownCap w m 0 e)) 0 [] := by
 have hge := grownCap_ge w m 0 e
 have hcm : grownCap w m 0 e <= maxLen := grownCap_le_maxLen w m 0 e h1
 refine ⟨⟨rfl, rfl, rfl, by simp, fun b hb _ => alloc_old_ab w.drew _ b hb⟩, rfl, .inr ⟨w.heap.size, _, _, rfl, Nat.le_refl _, heap_alloc_new w.drew _, Nat.zero_le _, hcm, ?_, ?_⟩⟩
 ·simp only [Array.size_append, size_zeroCells, hz, ← Nat.add_mul]
  congr 1
  omega
 ·rfl
set_option maxRecDepth 100000 in
theorem growBytes : Tryz.prog.types[53].bytes = 88 := by decide
theorem slicecap0 (m : Nat) (h : 0 < m) : Builtin.nextslicecap m 0 = m := by
 unfold Builtin.nextslicecap
 rw [if_pos (by omega)]
set_option maxRecDepth 100000 in
set_option maxHeartbeats 2000000 in
theorem grow_in (n : Nat) (m : Nat) (h1 : m <= maxLen) (h2 : m * 88 <= 140737488355328) (w : World) :
  CallsIn Fence.wide n Tryz.prog 75 #[.slice none 0 0, .int .i64 m] w fun e w' =>
   ∃ v, e = .returned v /\ w.grownBy w' none /\ w'.ownsRow w.heap.size 53 9 v 0 [] := by
 have hb : Tryz.t53.bytes = 88 := growBytes
 refine callsIn_of_wp Tryz.func75 rfl trivial ?_ rfl
 simp only [Tryz.ntmps75, List.size_toArray, List.length_cons, List.length_nil, Nat.reduceAdd, Nat.reduceSub, Array.replicate_succ, Array.replicate_zero, List.push_toArray, List.append_toArray, List.nil_append, List.cons_append]
 gi_wp2
 all_goals first
  | (exfalso; simp only [hb] at *; omega)
  | (exfalso; rename_i hlt _ _ _ _ _ ; rw [slicecap0 _ (by omega), hb] at *; omega)
  | (go_ret; exact ⟨_, rfl, World.grownBy.refl _ _, World.ownsRow_nil _ _ _ _⟩)
  | (go_ret; exact ⟨_, rfl, grow_row w m _ rfl h1 _⟩)
theorem growC_ok : GrowOK Tryz.prog 75 53 changeT 88 :=
 ⟨enters (fn := Tryz.f75) (by kernel_rfl) rfl rfl, fun w n h1 h2 => (callsIn_wide.1 (grow_in 1 n h1 h2 w))⟩
end Go.Proofs.YtplkgghjldndkaaGreat
namespace Go.Proofs.YtplkgghjldndkaaGreat
open Go Go.Ab Go.RowKit Go.Proofs
abbrev lls : Ty := .sl (.sl changeT)
noncomputable def CCc : Cx := cxK [] [] (growK 75 53 changeT 88)
theorem CCc_ok : CxOK Tryz.prog CCc := cxK_ok (cs := []) (ps := []) mixed trivial trivial (growK_ok growC_ok)
abbrev ptCc1 : Pt := ⟨36, 0, ⟨[(0, .d lls), (9, .d lls), (10, .d i64), (11, .d i64), (3, .d i64)], []⟩, ⟨[(0, .d lls), (3, .d i64)], []⟩, ⟨[], []⟩⟩
abbrev ptCc2 : Pt := ⟨36, 2, ⟨[(25, .d lls), (26, .d i64), (27, .d i64)], [.o 6 53 changeT]⟩, ⟨[], [.o 6 53 changeT]⟩, ⟨[], []⟩⟩
def frCc1 (x : ptCc1.M.X) : Fr ptCc1.Out :=
 let l0 : List (List changeT.den) := x.1.1; let l : List (List changeT.den) := x.1.2.1; let n : Int := x.1.2.2.1; let i : Int := x.1.2.2.2.1; let s : Int := x.1.2.2.2.2.1
 Fr.br (decide (i < n))
  (Fr.need (0 <= i /\ i < (l.length : Int))
   (Fr.br (decide (IntKind.i64.wrap (s + ((List.length (α := changeT.den) (l.getD i.toNat []) : Nat) : Int)) < 0)) (Fr.need False (Fr.val (Rd.back ((), ()))))
    (Fr.val (Rd.next ((l0, l, n, IntKind.i64.wrap (i + 1), IntKind.i64.wrap (s + ((List.length (α := changeT.den) (l.getD i.toNat []) : Nat) : Int)), ()), ())))))
  (Fr.val (Rd.out ((l0, s, ()), ())))
theorem semCc1 : Does Tryz.prog (loopF Tryz.f46 0) ptCc1.M ptCc1 frCc1 :=
 Does.of_run CCc_ok (bs := 0) (Λ := lam0) rfl rfl rfl (fun E => lam0_ok _ 0) (fun x => by kernel_rfl)
def frCc2 (x : ptCc2.M.X) : Fr ptCc2.Out :=
 let l : List (List changeT.den) := x.1.1; let n : Int := x.1.2.1; let i : Int := x.1.2.2.1; let o : List changeT.den := x.2.1
 Fr.br (decide (i < n))
  (Fr.need (0 <= i /\ i < (l.length : Int))
   (Fr.need (roomC o.length (List.length (α := changeT.den) (l.getD i.toNat [])))
    (Fr.val (Rd.next ((l, n, IntKind.i64.wrap (i + 1), ()), (o ++ l.getD i.toNat [], ()))))))
  (Fr.val (Rd.out ((), (o, ()))))
theorem semCc2 : Does Tryz.prog (loopF Tryz.f46 1) ptCc2.M ptCc2 frCc2 :=
 Does.of_run CCc_ok (bs := 0) (Λ := lam0) rfl rfl rfl (fun E => lam0_ok _ 0) (fun x => by kernel_rfl)
structure InvCc1 (l : List (List changeT.den)) (n i s : Int) : Prop where
 i0 : 0 <= i
 il : i <= n
 nl : n = l.length
 big : (l.length : Int) <= 9223372036854775807
 few : l.flatten.length <= 1000000
 s0 : s = ((l.take i.toNat).flatten.length : Nat)
def FCc1 (x : ptCc1.M.X) : Fr ptCc1.Out := Fr.need (x.1.1 = x.1.2.1 /\ InvCc1 x.1.2.1 x.1.2.2.1 x.1.2.2.2.1 x.1.2.2.2.2.1) (Fr.val (Rd.out ((x.1.1, ((List.flatten (α := changeT.den) x.1.2.1).length : Int), ()), ())))
theorem take_flat (l : List (List changeT.den)) {k : Nat} (hk : k < l.length) : (l.take (k + 1)).flatten = (l.take k).flatten ++ l.getD k [] := by
 rw [List.take_add_one, List.flatten_append, List.getElem?_eq_getElem hk, List.getD_eq_getElem?_getD, List.getElem?_eq_getElem hk]
 simp
theorem take_flat_le (l : List (List changeT.den)) (k : Nat) : (l.take k).flatten.length <= l.flatten.length := by
 conv => rhs; rw [← List.take_append_drop k l]
 rw [List.flatten_append, List.length_append]
 omega
theorem lawCc1 (l0 l : List (List changeT.den)) (n i s : Int) (hinv : l0 = l /\ InvCc1 l n i s) (Q : ptCc1.Out -> Prop) (hq : Q (Rd.out ((l0, (l.flatten.length : Int), ()), ()))) : (frCc1 ((l0, l, n, i, s, ()), ())).satP fun
   | .next x' => (x'.1.1 = x'.1.2.1 /\ InvCc1 x'.1.2.1 x'.1.2.2.1 x'.1.2.2.2.1 x'.1.2.2.2.2.1) /\ (x'.1.2.2.1 - x'.1.2.2.2.1).toNat < (n - i).toNat /\ (FCc1 x').satP Q
   | .out y => Q (.out y)
   | .back z => Q (.back z)
   | .pan p => Q (.pan p) := by
 obtain ⟨rfl, h0, h1, h2, h3, h4, h5⟩ := hinv
 obtain ⟨k, rfl⟩ : ∃ k : Nat, i = k := ⟨i.toNat, by omega⟩
 subst h2
 dsimp only [frCc1, Fr.satP]
 rw [Int.toNat_natCast] at h5 ⊢
 refine ⟨fun hi => ?_, fun hi => ?_⟩
 ·have hk : k < l0.length := by have : (k : Int) < (l0.length : Int) := of_decide_eq_true hi; omega
  have hf := take_flat l0 hk
  have hle := take_flat_le l0 (k + 1)
  have hlen := congrArg List.length hf
  rw [List.length_append] at hlen
  have w1 : IntKind.i64.wrap ((k : Int) + 1) = ((k + 1 : Nat) : Int) := by rw [i64w (by omega)]; omega
  have w2 : IntKind.i64.wrap (s + ((l0.getD k []).length : Int)) = (((l0.take (k + 1)).flatten.length : Nat) : Int) := by rw [i64w (by omega)]; omega
  rw [w1, w2]
  refine ⟨⟨by omega, by omega⟩, fun hn => ?_, fun _ => ?_⟩
  ·have : ((((l0.take (k + 1)).flatten.length : Nat) : Int) < 0) := of_decide_eq_true hn
   omega
  ·have hI : InvCc1 l0 l0.length ((k + 1 : Nat) : Int) (((l0.take (k + 1)).flatten.length : Nat) : Int) := ⟨by omega, by omega, rfl, h3, h4, by rw [Int.toNat_natCast]⟩
   exact ⟨⟨rfl, hI⟩, by omega, ⟨rfl, hI⟩, hq⟩
 ·have hk : ¬ (k : Int) < (l0.length : Int) := of_decide_eq_false hi
  rw [List.take_of_length_le (by omega)] at h5
  rw [h5]
  exact hq
theorem loopCc1 : Does Tryz.prog (.loop (loopF Tryz.f46 0)) ptCc1.M ptCc1 FCc1 := by
 refine Does.loop (n := 36) (id := 0) semCc1 (inv := fun x => x.1.1 = x.1.2.1 /\ InvCc1 x.1.2.1 x.1.2.2.1 x.1.2.2.2.1 x.1.2.2.2.2.1) (μ := fun x => (x.1.2.2.1 - x.1.2.2.2.1).toNat) ?_ (fun x Q h => h.1)
 rintro ⟨⟨l0, l, n, i, s, _⟩, _⟩ hinv Q hq
 exact lawCc1 l0 l n i s hinv Q hq.2
structure InvCc2 (l : List (List changeT.den)) (n i : Int) (o : List changeT.den) : Prop where
 i0 : 0 <= i
 il : i <= n
 nl : n = l.length
 big : (l.length : Int) <= 9223372036854775807
 few : l.flatten.length <= 1000000
 o0 : o = (l.take i.toNat).flatten
def FCc2 (x : ptCc2.M.X) : Fr ptCc2.Out := Fr.need (InvCc2 x.1.1 x.1.2.1 x.1.2.2.1 x.2.1) (Fr.val (Rd.out ((), (List.flatten (α := changeT.den) x.1.1, ()))))
theorem room_mil {n m : Nat} (h : n + m <= 1000000) : roomC n m := by
 refine ⟨by unfold maxLen; omega, Nat.le_trans (Nat.mul_le_mul h changeBytes) (by decide)⟩
theorem lawCc2 (l : List (List changeT.den)) (n i : Int) (o : List changeT.den) (hinv : InvCc2 l n i o) (Q : ptCc2.Out -> Prop) (hq : Q (Rd.out ((), (l.flatten, ())))) : (frCc2 ((l, n, i, ()), (o, ()))).satP fun
   | .next x' => InvCc2 x'.1.1 x'.1.2.1 x'.1.2.2.1 x'.2.1 /\ (x'.1.2.1 - x'.1.2.2.1).toNat < (n - i).toNat /\ (FCc2 x').satP Q
   | .out y => Q (.out y)
   | .back z => Q (.back z)
   | .pan p => Q (.pan p) := by
 obtain ⟨h0, h1, h2, h3, h4, h5⟩ := hinv
 obtain ⟨k, rfl⟩ : ∃ k : Nat, i = k := ⟨i.toNat, by omega⟩
 subst h2
 dsimp only [frCc2, Fr.satP]
 rw [Int.toNat_natCast] at h5 ⊢
 subst h5
 refine ⟨fun hi => ?_, fun hi => ?_⟩
 ·have hk : k < l.length := by have : (k : Int) < (l.length : Int) := of_decide_eq_true hi; omega
  have hf := take_flat l hk
  have hle := take_flat_le l (k + 1)
  have hlen := congrArg List.length hf
  rw [List.length_append] at hlen
  have w1 : IntKind.i64.wrap ((k : Int) + 1) = ((k + 1 : Nat) : Int) := by rw [i64w (by omega)]; omega
  rw [w1, ← hf]
  have hI : InvCc2 l l.length ((k + 1 : Nat) : Int) (l.take (k + 1)).flatten := ⟨by omega, by omega, rfl, h3, h4, by rw [Int.toNat_natCast]⟩
  exact ⟨⟨by omega, by omega⟩, room_mil (by omega), hI, by omega, hI, hq⟩
 ·have hk : ¬ (k : Int) < (l.length : Int) := of_decide_eq_false hi
  rw [List.take_of_length_le (by omega)]
  exact hq
theorem loopCc2 : Does Tryz.prog (.loop (loopF Tryz.f46 1)) ptCc2.M ptCc2 FCc2 := by
 refine Does.loop (n := 36) (id := 2) semCc2 (inv := fun x => InvCc2 x.1.1 x.1.2.1 x.1.2.2.1 x.2.1) (μ := fun x => (x.1.2.1 - x.1.2.2.1).toNat) ?_ (fun x Q h => h.1)
 rintro ⟨⟨l, n, i, _⟩, o, _⟩ hinv Q hq
 exact lawCc2 l n i o hinv Q hq.2
def cConcat : Ct := ⟨[.d lls], [.sl changeT], fun x => (List.flatten (α := changeT.den) x.1, ()), fun x => [(List.flatten (α := changeT.den) x.1).length <= 1000000]⟩
def frConcat (x : denP [.d lls]) : Fr (denL [.sl changeT]) :=
 let l : List (List changeT.den) := x.1
 Fr.need (l = l /\ InvCc1 l l.length 0 0)
  (Fr.need (0 <= ((l.flatten.length : Nat) : Int) /\ ((l.flatten.length : Nat) : Int) <= maxLen /\ ((l.flatten.length : Nat) : Int) * (88 : Nat) <= 140737488355328)
   (Fr.need (InvCc2 l l.length 0 []) (Fr.val (l.flatten, ()))))
theorem concat_run : SoundCt Tryz.prog 46 ⟨[.d lls], [.sl changeT], fun xs => (frConcat xs).get, fun xs => [(frConcat xs).ok]⟩ :=
 fn_sound CCc_ok (Λ := (fun k => if k = 0 then ptCc1.han CCc.Γ ptCc1.M FCc1 else ptCc2.han CCc.Γ ptCc2.M FCc2)) (fn := Tryz.f46) (fr := frConcat) (ps := [.d lls]) (rs := [.sl changeT]) ([], ()) (by kernel_rfl)
  (fun c E hc => lam2f hc (by kernel_rfl) (b0 := loopF Tryz.f46 0) (b1 := loopF Tryz.f46 1) (by kernel_rfl) (by kernel_rfl) (Does.han CCc_ok rfl loopCc1) (Does.han CCc_ok rfl loopCc2)) (fun x => by kernel_rfl)
theorem concat_ok : SoundCt Tryz.prog 46 cConcat :=
 convF concat_run _ _ (fun w F x vs hr hok => by
  obtain ⟨l, _⟩ := x
  obtain ⟨v, vs', rfl, hv, _⟩ := hr
  have hlen : (List.length (α := List changeT.den) l : Int) <= 9223372036854775807 := len_big (RepT.wf hv.2.2).1
  have hf : (List.flatten (α := changeT.den) l).length <= 1000000 := hok
  refine Fr.need_ ⟨rfl, ⟨Int.le_refl _, Int.natCast_nonneg _, rfl, hlen, hf, rfl⟩⟩ (Fr.need_ ⟨by omega, ?_, ?_⟩ (Fr.need_ ⟨Int.le_refl _, Int.natCast_nonneg _, rfl, hlen, hf, rfl⟩ ⟨trivial, rfl⟩))
  ·show ((List.flatten (α := changeT.den) l).length : Int) <= (maxLen : Int)
   unfold maxLen
   omega
  ·show ((List.flatten (α := changeT.den) l).length : Int) * ((88 : Nat) : Int) <= 140737488355328
   omega)
noncomputable def tnC : Code := (Tryz.f45.body.map scopeOf).getD .skip
noncomputable def tnA : Code := (Tryz.f45.body.map headOf).getD .skip
noncomputable def tnR : Code := (findLabel tnC 0).getD .skip
noncomputable def CTn : Cx := cx [(74, cOrder)] []
theorem CTn_ok : CxOK Tryz.prog CTn := cx_ok mixed ⟨order_ok, trivial⟩ trivial
def MTn0 : LS := ⟨[], [.x 1 31 histT, .r 1 1 0]⟩
def MTn : LS := ⟨[(4, .d (.sl i64)), (5, .d i64)], [.x 1 31 histT, .r 1 1 0]⟩
def ptTn : Pt := ⟨34, 0, MTn, ⟨[], []⟩, ⟨[(2, .d i64), (3, .d .bool)], []⟩⟩
def ptTn0 : Pt := ⟨34, 0, MTn0, ⟨[], []⟩, ⟨[(2, .d i64), (3, .d .bool)], []⟩⟩
def fTn (x : MTn.X) : Fr ptTn.Out :=
 let l : List Int := x.1.1; let k : Int := x.1.2.1; let h : histT.den := x.2.1
 let v : Int := l.getD (IntKind.i64.wrap (k - 1)).toNat 0
 Fr.br (k == 0) (Fr.val (Rd.back ((0, false, ()), ())))
  (Fr.need (0 <= IntKind.i64.wrap (k - 1) /\ IntKind.i64.wrap (k - 1) < (l.length : Int))
   (Fr.need (0 <= v /\ v < ((chL h).length : Int))
    (Fr.br (bif ((chL h).getD v.toNat changeT.dflt).2.2.1 != 3 then ((chL h).getD v.toNat changeT.dflt).2.2.1 != 4 else false)
     (Fr.val (Rd.next ((l, IntKind.i64.wrap (k - 1), ()), (h, ()))))
     (Fr.need (0 <= IntKind.i64.wrap (k - 1) /\ IntKind.i64.wrap (k - 1) < (l.length : Int)) (Fr.val (Rd.back ((v, true, ()), ())))))))
def fTn0 (x : MTn0.X) : Fr ptTn.Out :=
 let h : histT.den := x.2.1
 Fr.need (((chL h).length : Int) <= 1000000) (fTn ((orderL h, ((orderL h).length : Int), ()), (h, ())))
theorem semTn0 : DoesJ Tryz.prog 0 tnC MTn0 ptTn fTn0 := DoesJ.of_run CTn_ok (bs := 0) rfl rfl rfl (fun _ => lam0_ok _ 0) (fun x => by kernel_rfl)
theorem semTn : DoesJ Tryz.prog 0 tnR MTn ptTn fTn := DoesJ.of_run CTn_ok (bs := 0) rfl rfl rfl (fun _ => lam0_ok _ 0) (fun x => by kernel_rfl)
def isT (c : changeT.den) : Bool := c.2.2.1 == 3 || c.2.2.1 == 4
def turnG (h : histT.den) (l : List Int) : Nat -> Option Int
 | 0 => none
 | k + 1 => if isT (chAt h (l.getD k 0)) = true then some (l.getD k 0) else turnG h l k
structure InvTn (l : List Int) (k : Int) (h : histT.den) : Prop where
 k0 : 0 <= k
 kl : k <= l.length
 big : l.length <= 1000000
 mem : ∀ v ∈ l, 0 <= v /\ v < ((chL h).length : Int)
def outTn (o : Option Int) : Rd MTn0.X (LS.X ⟨[], []⟩) (LS.X ⟨[(2, .d i64), (3, .d .bool)], []⟩) := Rd.back ((o.getD 0, o.isSome, ()), ())
def FTn (x : MTn.X) : Fr ptTn0.Out := Fr.need (InvTn x.1.1 x.1.2.1 x.2.1) (Fr.val (outTn (turnG x.2.1 x.1.1 (x.1.2.1 : Int).toNat)))
def FTn0 (x : MTn0.X) : Fr ptTn0.Out := Fr.need (((chL x.2.1).length : Int) <= 1000000) (Fr.val (outTn (turnG x.2.1 (orderL x.2.1) (orderL x.2.1).length)))
theorem kind_isT (c : changeT.den) : (bif c.2.2.1 != 3 then c.2.2.1 != 4 else false) = !isT c := by
 unfold isT
 show (bif !(c.2.2.1 == 3) then !(c.2.2.1 == 4) else false) = !(c.2.2.1 == 3 || c.2.2.1 == 4)
 cases c.2.2.1 == 3 <;> cases c.2.2.1 == 4 <;> rfl
theorem lawTn (l : List Int) (k : Int) (h : histT.den) (hinv : InvTn l k h) (Q : ptTn0.Out -> Prop) (hq : Q (outTn (turnG h l k.toNat))) : (fTn ((l, k, ()), (h, ()))).satP fun
   | .next x' => InvTn x'.1.1 x'.1.2.1 x'.2.1 /\ (x'.1.2.1 : Int).toNat < k.toNat /\ (FTn x').satP Q
   | .out y => Q (.out y)
   | .back z => Q (.back z)
   | .pan p => Q (.pan p) := by
 obtain ⟨h0, h1, h2, h3⟩ := hinv
 obtain ⟨n, rfl⟩ : ∃ n : Nat, k = n := ⟨k.toNat, by omega⟩
 rw [Int.toNat_natCast] at hq ⊢
 cases n with
 | zero => exact ⟨fun _ => hq, fun hb => (by cases hb)⟩
 | succ m =>
  have w1 : IntKind.i64.wrap (((m + 1 : Nat) : Int) - 1) = (m : Int) := by rw [i64w (by omega)]; omega
  have hm : m < l.length := by omega
  dsimp only [fTn, Fr.satP]
  rw [w1, Int.toNat_natCast]
  have hv : l.getD m 0 = l[m] := by rw [List.getD_eq_getElem?_getD, List.getElem?_eq_getElem hm]; rfl
  have hmem := h3 (l.getD m 0) (by rw [hv]; exact List.getElem_mem hm)
  have hb : 0 <= (m : Int) /\ (m : Int) < (l.length : Int) := ⟨by omega, by omega⟩
  have hkd := kind_isT (chAt h (l.getD m 0))
  refine ⟨fun hz => ?_, fun _ => ⟨hb, hmem, fun hk => ?_, fun hk => ⟨hb, ?_⟩⟩⟩
  ·exfalso
   have : ((m + 1 : Nat) : Int) = 0 := eq_of_beq hz
   omega
  ·have ht : isT (chAt h (l.getD m 0)) = false := by
    have hk' : (bif (chAt h (l.getD m 0)).2.2.1 != 3 then (chAt h (l.getD m 0)).2.2.1 != 4 else false) = true := hk
    rw [hkd] at hk'
    simpa using hk'
   have hI : InvTn l (m : Int) h := ⟨by omega, by omega, h2, h3⟩
   refine ⟨hI, Nat.lt_succ_self m, hI, ?_⟩
   show Q (outTn (turnG h l (m : Int).toNat))
   rw [Int.toNat_natCast]
   have e : turnG h l (m + 1) = turnG h l m := if_neg (by rw [ht]; decide)
   rw [← e]
   exact hq
  ·have ht : isT (chAt h (l.getD m 0)) = true := by
    have hk' : (bif (chAt h (l.getD m 0)).2.2.1 != 3 then (chAt h (l.getD m 0)).2.2.1 != 4 else false) = false := hk
    rw [hkd] at hk'
    simpa using hk'
   have e : turnG h l (m + 1) = some (l.getD m 0) := if_pos ht
   rw [e] at hq
   exact hq
theorem scopeTn : Does Tryz.prog (.scope tnC) MTn0 ptTn0 FTn0 :=
 DoesJ.scope2 (n := 34) (id := 0) (N := MTn0) (rest := tnR) (by kernel_rfl) semTn0 semTn (F := FTn) (inv := fun x => InvTn x.1.1 x.1.2.1 x.2.1) (μ := fun x => (x.1.2.1 : Int).toNat)
  (by
   rintro ⟨_, h, _⟩ Q hq
   have hlen : (orderL h).length = (chL h).length := orderL_length h
   have h1 : ((chL h).length : Int) <= 1000000 := hq.1
   have hI : InvTn (orderL h) ((orderL h).length : Int) h := ⟨Int.natCast_nonneg _, Int.le_refl _, by omega, fun v hv => orderL_mem hv⟩
   refine ⟨h1, Fr.satP_mono ?_ (lawTn (orderL h) ((orderL h).length : Int) h hI Q ?_)⟩
   ·intro r hr
    cases r with
    | next x' => exact ⟨hr.1, hr.2.2⟩
    | out y => exact hr
    | back z => exact hr
    | pan p => exact hr
   ·rw [Int.toNat_natCast]
    exact hq.2)
  (by
   rintro ⟨⟨l, k, _⟩, h, _⟩ hinv Q hq
   exact lawTn l k h hinv Q hq.2)
def turnO (h : histT.den) : Option Int := turnG h (orderL h) (orderL h).length
def cTurn : Ct := ⟨[.d histT], [i64, .bool], fun x => ((turnO x.1).getD 0, (turnO x.1).isSome, ()), fun x => [((chL x.1).length : Int) <= 1000000]⟩
theorem turn_ok : SoundCt Tryz.prog 45 cTurn :=
 convF (fx_sound (run := thenA (codeA Tryz.prog CTn 0 lam0 tnA 0) (ptTn0.han CTn.Γ MTn0 FTn0)) (fn := Tryz.f45) (c := .seq tnA (.scope tnC)) (ps := [.d histT]) (rs := [i64, .bool])
  (fr := fun x => Fr.need (((chL x.1).length : Int) <= 1000000) (Fr.val ((turnO x.1).getD 0, (turnO x.1).isSome, ()))) (histT.dflt, ()) (by kernel_rfl) (by kernel_rfl)
  (fun E => thenA_run (codeA_run CTn_ok (lam0_ok _ 0)) (Does.run CTn_ok rfl scopeTn)) (fun x => by kernel_rfl)) _ _ (fun _ _ _ _ _ hok => Fr.need_ hok ⟨trivial, rfl⟩)
def tlC : Code -> Code
 | .seq _ c => c
 | _ => .skip
def hdC : Code -> Code
 | .seq c _ => c
 | _ => .skip
def opsC : Code -> Array Oper
 | .region _ ops _ => ops
 | _ => #[]
noncomputable def bwC : Code := (Tryz.f27.body.map fun c => tlC (tlC c)).getD .skip
noncomputable def CBw : Cx := cx [(58, cRightS)] [(57, cCurve), (59, cMust), (60, cUpto)]
theorem CBw_ok : CxOK Tryz.prog CBw := cx_ok mixed ⟨rightS_ok, trivial⟩ ⟨curve_ok, must_ok, upto_ok, trivial⟩
noncomputable def runBw : St -> Option Tr :=
 thenA (codeA Tryz.prog CBw 0 lam0 (hdC bwC) 0) (thenA (codeA Tryz.prog CBw 0 lam0 (hdC (tlC bwC)) 0)
  (thenA (regionP Tryz.prog CBw 0 (opsC (hdC (tlC (tlC bwC)))).toList) (codeA Tryz.prog CBw 0 lam0 (tlC (tlC (tlC bwC))) 0)))
def frBw3 (b1 b2 : Bool) (p1 p2 : PV) (v : Int) : Fr (denL [i64, i64]) :=
 Fr.br b1 (Fr.need (b1 = false -> b1 = false) (Fr.need (b1 = true -> True /\ p1 = p1) (Fr.need (b2 = false -> b2 = false) (Fr.need (b2 = true -> True /\ p2 = p1) (Fr.need (inR .i64 p1.n) (Fr.val (0, p1.n, ())))))))
  (Fr.br b2 (Fr.need (b1 = false -> b1 = false) (Fr.need (b1 = true -> True /\ p1 = p2) (Fr.need (b2 = false -> b2 = false) (Fr.need (b2 = true -> True /\ p2 = p2) (Fr.need (inR .i64 p2.n) (Fr.val (0, p2.n, ())))))))
   (Fr.need (b1 = false) (Fr.need (b2 = false) (Fr.val (v, 0, ())))))
def frBw2 (f : stepT.den) (a b : Int) : Fr (denL [i64, i64]) :=
 frBw3 (cUpto.bad (f, b, ())) (cUpto.bad (f, a, ())) (cUpto.pv (f, b, ())) (cUpto.pv (f, a, ())) (IntKind.i64.wrap ((cUpto.f (f, b, ())).1 - (cUpto.f (f, a, ())).1))
def frBw (x : denP [.d slsT, .d spanT]) : Fr (denL [i64, i64]) :=
 Fr.br (cCurve.bad (x.1, ())) (Fr.need (inR .i64 (cCurve.pv (x.1, ())).n) (Fr.val (0, (cCurve.pv (x.1, ())).n, ())))
  (Fr.br (!(cRightS.f (x.2.1, ())).1)
   (Fr.br (cMust.bad (1, ())) (Fr.need (inR .i64 (cMust.pv (1, ())).n) (Fr.val (0, (cMust.pv (1, ())).n, ()))) (frBw2 (cCurve.f (x.1, ())).1 x.2.1.1 x.2.1.2.1))
   (frBw2 (cCurve.f (x.1, ())).1 x.2.1.1 x.2.1.2.1))
theorem runBw_ok (E : Env) : RunOK Tryz.prog E bwC runBw :=
 thenA_run (x := hdC bwC) (y := tlC bwC) (codeA_run CBw_ok (lam0_ok _ 0)) (thenA_run (x := hdC (tlC bwC)) (y := tlC (tlC bwC)) (codeA_run CBw_ok (lam0_ok _ 0))
  (thenA_run (x := hdC (tlC (tlC bwC))) (y := tlC (tlC (tlC bwC))) (regionP_run (id := 5) (ops := opsC (hdC (tlC (tlC bwC)))) CBw_ok) (codeA_run CBw_ok (lam0_ok _ 0))))
theorem Between_fr : SoundCt Tryz.prog 27 ⟨[.d slsT, .d spanT], [i64, i64], fun xs => (frBw xs).get, fun xs => [(frBw xs).ok]⟩ :=
 dx_sound CBw_ok (run := runBw) (fn := Tryz.f27) (A := hdC (Tryz.f27.body.getD .skip)) (c := bwC) (rid := 1) (ops := opsC (hdC (tlC (Tryz.f27.body.getD .skip)))) (tp := 5) (fr := frBw) (ps := [.d slsT, .d spanT]) (rs := [i64, i64]) ([], (0, 0, ()), ()) (by kernel_rfl) (by kernel_rfl) (by kernel_rfl) told_ok runBw_ok (fun x => by kernel_rfl)
theorem pick3 {u1 u2 : Int × Int} {b1 b2 : Bool} {v : Int} (h1 : b1 = !(u1.2 == 0)) (h2 : b2 = !(u2.2 == 0)) :
  (if b1 = true then ((0 : Int), u1.2, ()) else if b2 = true then ((0 : Int), u2.2, ()) else (v, (0 : Int), ())) =
   ((if u1.2 ≠ 0 then ((0 : Int), u1.2) else if u2.2 ≠ 0 then ((0 : Int), u2.2) else (v, (0 : Int))).1, (if u1.2 ≠ 0 then ((0 : Int), u1.2) else if u2.2 ≠ 0 then ((0 : Int), u2.2) else (v, (0 : Int))).2, ()) := by
 subst h1
 subst h2
 by_cases q1 : u1.2 = 0
 ·by_cases q2 : u2.2 = 0
  ·simp [q1, q2]
  ·simp [q1, q2]
 ·simp [q1]
theorem betw_in {a b : Int} (h1 : 0 <= a /\ a <= 4000000000000000000) (h2 : 0 <= b /\ b <= 4000000000000000000) : -9223372036854775808 <= a - b /\ a - b <= 9223372036854775807 := by omega
theorem frBw3_eq {b1 b2 : Bool} {p1 p2 : PV} {v : Int} (h : b1 = true -> b2 = true -> p2 = p1) (h1 : inR .i64 p1.n) (h2 : inR .i64 p2.n) :
  (frBw3 b1 b2 p1 p2 v).ok /\ (frBw3 b1 b2 p1 p2 v).get = if b1 = true then (0, p1.n, ()) else if b2 = true then (0, p2.n, ()) else (v, 0, ()) := by
 cases b1 with
 | true => exact ⟨⟨fun _ => ⟨fun h => (by cases h), fun _ => ⟨trivial, rfl⟩, fun h => h, fun hb => ⟨trivial, h rfl hb⟩, h1, trivial⟩, fun h => (by cases h)⟩, rfl⟩
 | false =>
  cases b2 with
  | true => exact ⟨⟨fun h => (by cases h), fun _ => ⟨fun _ => ⟨fun h => h, fun h => (by cases h), fun h => (by cases h), fun _ => ⟨trivial, rfl⟩, h2, trivial⟩, fun h => (by cases h)⟩⟩, rfl⟩
  | false => exact ⟨⟨fun h => (by cases h), fun _ => ⟨fun h => (by cases h), fun _ => ⟨rfl, rfl, trivial⟩⟩⟩, rfl⟩
def BetwG (l : List sliceT.den) (s : spanT.den) : Int × Int :=
 if (curveO l).isNone = true ∨ rightS s = false then (0, 1)
 else if (uptoO (curveF l) s.2.1).2 ≠ 0 then (0, (uptoO (curveF l) s.2.1).2)
 else if (uptoO (curveF l) s.1).2 ≠ 0 then (0, (uptoO (curveF l) s.1).2)
 else ((uptoO (curveF l) s.2.1).1 - (uptoO (curveF l) s.1).1, 0)
def cBetwG : Ct := ⟨[.d slsT, .d spanT], [i64, i64], fun x => ((BetwG x.1 x.2.1).1, (BetwG x.1 x.2.1).2, ()), fun _ => []⟩
theorem betwG_ok : SoundCt Tryz.prog 27 cBetwG :=
 conv Between_fr _ _ fun w F xs vs hr _ => by
  obtain ⟨l, s, _⟩ := xs
  by_cases hc : (curveO l).isNone = true
  ·have hb : cCurve.bad (l, ()) = true := hc
   refine ⟨⟨fun _ => ⟨errR err1, trivial⟩, fun h => (by have h' : cCurve.bad (l, ()) = false := h; rw [hb] at h'; cases h')⟩, ?_⟩
   show (if cCurve.bad (l, ()) = true then ((0 : Int), (1 : Int), ()) else _) = ((BetwG l s).1, (BetwG l s).2, ())
   unfold BetwG
   rw [hb, if_pos rfl, if_pos (.inl hc)]
  ·have hc' : (curveO l).isNone = false := Bool.eq_false_iff.2 hc
   have hb : cCurve.bad (l, ()) = false := hc'
   have hp := curve_pos hc'
   by_cases hs : rightS s = true
   ·have hn : (!(cRightS.f (s, ())).1) = false := by show (!(rightS s)) = false; rw [hs]; rfl
    have hpv : cUpto.bad (curveF l, s.2.1, ()) = true -> cUpto.bad (curveF l, s.1, ()) = true -> cUpto.pv (curveF l, s.1, ()) = cUpto.pv (curveF l, s.2.1, ()) := by
     intro h1 h2
     have key : ∀ d, cUpto.bad (curveF l, d, ()) = true -> (uptoO (curveF l) d).2 = 5 := fun d hd => by
      have hd' : (!((uptoO (curveF l) d).2 == 0)) = true := hd
      rw [uptoO_days hp] at hd' ⊢
      split
      ·rename_i hle
       rw [if_pos hle] at hd'
       cases hd'
      ·rfl
     show (⟨_, _, (uptoO (curveF l) s.1).2⟩ : PV) = ⟨_, _, (uptoO (curveF l) s.2.1).2⟩
     rw [key _ h1, key _ h2]
    obtain ⟨k1, k2⟩ := frBw3_eq (v := IntKind.i64.wrap ((cUpto.f (curveF l, s.2.1, ())).1 - (cUpto.f (curveF l, s.1, ())).1)) hpv (errR (uptoO_err (curveF l) s.2.1)) (errR (uptoO_err (curveF l) s.1))
    refine ⟨⟨fun h => (by have h' : cCurve.bad (l, ()) = true := h; rw [hb] at h'; cases h'), fun _ => ⟨fun h => (by have h' : (!(cRightS.f (s, ())).1) = true := h; rw [hn] at h'; cases h'), fun _ => k1⟩⟩, ?_⟩
    show (if cCurve.bad (l, ()) = true then _ else if (!(cRightS.f (s, ())).1) = true then _ else (frBw2 (curveF l) s.1 s.2.1).get) = ((BetwG l s).1, (BetwG l s).2, ())
    rw [hb, if_neg (by decide), hn, if_neg (by decide)]
    refine k2.trans ?_
    have hw := i64w (betw_in (uptoO_val (curveF l) s.2.1) (uptoO_val (curveF l) s.1))
    have hG : BetwG l s = if (uptoO (curveF l) s.2.1).2 ≠ 0 then (0, (uptoO (curveF l) s.2.1).2) else if (uptoO (curveF l) s.1).2 ≠ 0 then (0, (uptoO (curveF l) s.1).2) else ((uptoO (curveF l) s.2.1).1 - (uptoO (curveF l) s.1).1, 0) := if_neg (fun h => h.elim hc (fun h => by rw [hs] at h; cases h))
    rw [hG, ← hw]
    exact pick3 rfl rfl
   ·have hn : (!(cRightS.f (s, ())).1) = true := by show (!(rightS s)) = true; simpa using hs
    refine ⟨⟨fun h => (by have h' : cCurve.bad (l, ()) = true := h; rw [hb] at h'; cases h'), fun _ => ⟨fun _ => ⟨fun _ => ⟨errR err1, trivial⟩, fun h => (by cases h)⟩, fun h => (by have h' : (!(cRightS.f (s, ())).1) = false := h; rw [hn] at h'; cases h')⟩⟩, ?_⟩
    show (if cCurve.bad (l, ()) = true then _ else if (!(cRightS.f (s, ())).1) = true then ((0 : Int), (1 : Int), ()) else _) = ((BetwG l s).1, (BetwG l s).2, ())
    have hB : BetwG l s = (0, 1) := if_pos (.inr (by simpa using hs))
    rw [hb, if_neg (by decide), hn, if_pos rfl, hB]
noncomputable def CKp : Cx := cx [(26, cOf), (45, cTurn), (46, cConcat), (27, cBetwG), (47, cBp)] []
theorem CKp_ok : CxOK Tryz.prog CKp := cx_ok mixed ⟨of_ok, turn_ok, concat_ok, betwG_ok, bp_ok, trivial⟩ trivial
def pcsK (h : histT.den) (a : Int) : List (List changeT.den) :=
 [List.take (a - 0).toNat (List.drop (0 : Int).toNat (chL h)), List.take (((chL h).length : Int) - IntKind.i64.wrap (a + 1)).toNat (List.drop (IntKind.i64.wrap (a + 1)).toNat (chL h))]
def setCh (h : histT.den) (l : List changeT.den) : histT.den := (h.1, h.2.1, h.2.2.1, l, ())
def frKp2 (h x : histT.den) (t : tarT.den) (day : Int) : Fr (denL [i64, i64]) :=
 Fr.need (fewH x) (Fr.need (fewT t)
  (Fr.br ((cOf.f (x, t, ())).2.1 != 0) (Fr.val (0, (cOf.f (x, t, ())).2.1, ()))
   (Fr.br ((cBetwG.f ((cOf.f (x, t, ())).1, (day, h.2.2.1.1.2.1, ()), ())).2.1 != 0) (Fr.val (0, (cBetwG.f ((cOf.f (x, t, ())).1, (day, h.2.2.1.1.2.1, ()), ())).2.1, ()))
    (Fr.val ((cBp.f ((cBetwG.f ((cOf.f (x, t, ())).1, (day, h.2.2.1.1.2.1, ()), ())).1, 1000, ())).1, (cBp.f ((cBetwG.f ((cOf.f (x, t, ())).1, (day, h.2.2.1.1.2.1, ()), ())).1, 1000, ())).2.1, ())))))
def frKept (x : denP [.d histT, .d tarT]) : Fr (denL [i64, i64]) :=
 let h : histT.den := x.1; let t : tarT.den := x.2.1
 let a : Int := (cTurn.f (h, ())).1; let is : Bool := (cTurn.f (h, ())).2.1
 Fr.need (fewH h) (Fr.need (fewT t) (Fr.br ((cOf.f (h, t, ())).2.1 != 0) (Fr.val (0, (cOf.f (h, t, ())).2.1, ()))
  (Fr.need (((chL h).length : Int) <= 1000000)
   (Fr.need ((!is) = false -> 0 <= a /\ a < ((chL h).length : Int))
    (Fr.need ((bif !is then true else ((chL h).getD a.toNat changeT.dflt).2.2.1 != 3) = false -> 0 <= a /\ a < ((chL h).length : Int))
     (Fr.br (bif bif !is then true else ((chL h).getD a.toNat changeT.dflt).2.2.1 != 3 then true else ((chL h).getD a.toNat changeT.dflt).2.2.2.2.2.1 != 1) (Fr.val (0, 0, ()))
      (Fr.need (0 <= a /\ a < ((chL h).length : Int))
       (Fr.need (0 <= (none : Option Int).getD 0 /\ (none : Option Int).getD 0 <= a /\ a <= ((chL h).length : Int))
        (Fr.need (0 <= IntKind.i64.wrap (a + 1) /\ IntKind.i64.wrap (a + 1) <= ((chL h).length : Int) /\ ((chL h).length : Int) <= ((chL h).length : Int))
         (Fr.need ((pcsK h a).flatten.length <= 1000000)
          (frKp2 h (setCh h (cConcat.f (pcsK h a, ())).1) t ((chL h).getD a.toNat changeT.dflt).2.1)))))))))))
theorem kept_run : SoundCt Tryz.prog 18 ⟨[.d histT, .d tarT], [i64, i64], fun xs => (frKept xs).get, fun xs => [(frKept xs).ok]⟩ :=
 fn_sound CKp_ok (Λ := lam0) (fn := Tryz.f18) (fr := frKept) (ps := [.d histT, .d tarT]) (rs := [i64, i64]) (histT.dflt, tarT.dflt, ()) (by kernel_rfl) (fun c E _ => lam0_ok c 0) (fun x => by kernel_rfl)
def without (h : histT.den) (a : Nat) : histT.den := setCh h ((chL h).take a ++ (chL h).drop (a + 1))
def keptA (h : histT.den) (t : tarT.den) (a : Int) : Int × Int :=
 if (chAt h a).2.2.1 = 3 /\ (chAt h a).2.2.2.2.2.1 = 1 then
  (if (ofF (without h a.toNat) t).2 = 0 then
   (if (BetwG (ofF (without h a.toNat) t).1 ((chAt h a).2.1, h.2.2.1.1.2.1, ())).2 = 0 then bpF (BetwG (ofF (without h a.toNat) t).1 ((chAt h a).2.1, h.2.2.1.1.2.1, ())).1 1000
    else (0, (BetwG (ofF (without h a.toNat) t).1 ((chAt h a).2.1, h.2.2.1.1.2.1, ())).2))
   else (0, (ofF (without h a.toNat) t).2))
 else (0, 0)
def keptF (h : histT.den) (t : tarT.den) : Int × Int :=
 if (ofF h t).2 = 0 then (match turnO h with | none => (0, 0) | some a => keptA h t a) else (0, (ofF h t).2)
def cKeptP : Ct := ⟨[.d histT, .d tarT], [i64, i64], fun x => ((keptF x.1 x.2.1).1, (keptF x.1 x.2.1).2, ()), fun x => [fewH x.1, fewT x.2.1]⟩
theorem turnG_mem (h : histT.den) (l : List Int) : (k : Nat) -> k <= l.length -> ∀ v, turnG h l k = some v -> v ∈ l /\ isT (chAt h v) = true
 | 0, _, _, hv => by cases hv
 | k + 1, hk, v, hv => by
  unfold turnG at hv
  split at hv
  ·rename_i ht
   cases hv
   refine ⟨?_, ht⟩
   have : l.getD k 0 = l[k] := by rw [List.getD_eq_getElem?_getD, List.getElem?_eq_getElem (by omega)]; rfl
   rw [this]
   exact List.getElem_mem _
  ·exact turnG_mem h l k (by omega) v hv
theorem turnO_mem {h : histT.den} {a : Int} (ha : turnO h = some a) : (0 <= a /\ a < ((chL h).length : Int)) /\ isT (chAt h a) = true := by
 obtain ⟨h1, h2⟩ := turnG_mem h (orderL h) _ (Nat.le_refl _) a ha
 exact ⟨orderL_mem h1, h2⟩
theorem pcs_flat {h : histT.den} {a : Nat} (ha : a < (chL h).length) (hf : (chL h).length <= 1000000) : IntKind.i64.wrap ((a : Int) + 1) = ((a + 1 : Nat) : Int) /\ (pcsK h a).flatten = (chL h).take a ++ (chL h).drop (a + 1) := by
 have w : IntKind.i64.wrap ((a : Int) + 1) = ((a + 1 : Nat) : Int) := by rw [i64w (by omega)]; omega
 refine ⟨w, ?_⟩
 unfold pcsK
 rw [w, Int.sub_zero, Int.toNat_natCast, Int.toNat_natCast, show (((chL h).length : Int) - ((a + 1 : Nat) : Int)).toNat = (chL h).length - (a + 1) by omega]
 show List.flatten [List.take a (chL h), List.take ((chL h).length - (a + 1)) (List.drop (a + 1) (chL h))] = _
 have e : List.take ((chL h).length - (a + 1)) (List.drop (a + 1) (chL h)) = List.drop (a + 1) (chL h) := List.take_of_length_le (by rw [List.length_drop]; exact Nat.le_refl _)
 rw [e]
 simp
theorem without_few {h : histT.den} (hf : fewH h) (a : Nat) : fewH (without h a) := by
 have hsub : List.Sublist ((chL h).take a ++ (chL h).drop (a + 1)) (chL h) := by
  conv => rhs; rw [← List.take_append_drop a (chL h)]
  refine List.Sublist.append (List.Sublist.refl _) ?_
  rw [← List.drop_drop]
  exact List.drop_sublist 1 _
 refine ⟨Nat.le_trans (List.Sublist.length_le hsub) hf.1, hf.2.1, fun c hc => hf.2.2 c (hsub.subset hc)⟩
theorem bif3k {b : Bool} {x y : Int} : (bif bif !b then true else x != 3 then true else y != 1) = false ↔ b = true /\ x = 3 /\ y = 1 := by
 cases b with
 | false => simp
 | true =>
  by_cases h1 : x = 3
  ·by_cases h2 : y = 1
   ·simp [h1, h2]
   ·simp [h1, h2]
  ·simp [h1]
theorem kp2_eq {h x : histT.den} {t : tarT.den} {day : Int} (hx : fewH x) (ht : fewT t) : (frKp2 h x t day).ok /\ (frKp2 h x t day).get =
  (let r : Int × Int := if (ofF x t).2 = 0 then (if (BetwG (ofF x t).1 (day, h.2.2.1.1.2.1, ())).2 = 0 then bpF (BetwG (ofF x t).1 (day, h.2.2.1.1.2.1, ())).1 1000 else (0, (BetwG (ofF x t).1 (day, h.2.2.1.1.2.1, ())).2)) else (0, (ofF x t).2)
   (r.1, r.2, ())) := by
 refine Fr.need_ hx (Fr.need_ ht ?_)
 by_cases h1 : (ofF x t).2 = 0
 ·refine Fr.br_f (by show ((ofF x t).2 != 0) = false; simp [h1]) ?_
  simp only [h1, if_true]
  by_cases h2 : (BetwG (ofF x t).1 (day, h.2.2.1.1.2.1, ())).2 = 0
  ·refine Fr.br_f (by show ((BetwG (ofF x t).1 (day, h.2.2.1.1.2.1, ())).2 != 0) = false; simp [h2]) ⟨trivial, ?_⟩
   simp only [h2, if_true]
   rfl
  ·refine Fr.br_t (by show ((BetwG (ofF x t).1 (day, h.2.2.1.1.2.1, ())).2 != 0) = true; simp [h2]) ⟨trivial, ?_⟩
   simp only [h2, if_false]
   rfl
 ·refine Fr.br_t (by show ((ofF x t).2 != 0) = true; simp [h1]) ⟨trivial, ?_⟩
  simp only [h1, if_false]
  rfl
theorem kept_eq (h : histT.den) (t : tarT.den) (hf : fewH h) (ht : fewT t) : (frKept (h, t, ())).ok /\ (frKept (h, t, ())).get = ((keptF h t).1, (keptF h t).2, ()) := by
 have hl : (chL h).length <= 500000 := hf.1
 refine Fr.need_ hf (Fr.need_ ht ?_)
 unfold keptF
 by_cases h1 : (ofF h t).2 = 0
 ·refine Fr.br_f (by show ((ofF h t).2 != 0) = false; simp [h1]) (Fr.need_ (show ((chL h).length : Int) <= 1000000 by omega) ?_)
  rw [if_pos h1]
  cases ho : turnO h with
  | none =>
   have e2 : (cTurn.f (h, ())).2.1 = false := by show (turnO h).isSome = false; rw [ho]; rfl
   rw [e2]
   exact Fr.need_ (fun hh => by cases hh) (Fr.need_ (fun hh => by cases hh) (Fr.br_t rfl ⟨trivial, rfl⟩))
  | some a =>
   obtain ⟨⟨a0, a1⟩, hT⟩ := turnO_mem ho
   have e1 : (cTurn.f (h, ())).1 = a := by show (turnO h).getD 0 = a; rw [ho]; rfl
   have e2 : (cTurn.f (h, ())).2.1 = true := by show (turnO h).isSome = true; rw [ho]; rfl
   rw [e1, e2]
   refine Fr.need_ (fun _ => ⟨a0, a1⟩) (Fr.need_ (fun _ => ⟨a0, a1⟩) ?_)
   show _ /\ _ = ((keptA h t a).1, (keptA h t a).2, ())
   cases hb : (bif bif !true then true else ((chL h).getD a.toNat changeT.dflt).2.2.1 != 3 then true else ((chL h).getD a.toNat changeT.dflt).2.2.2.2.2.1 != 1) with
   | true =>
    refine Fr.br_t rfl ⟨trivial, ?_⟩
    have hn : ¬ ((chAt h a).2.2.1 = 3 /\ (chAt h a).2.2.2.2.2.1 = 1) := fun hh => by
     have hb' : (bif bif !true then true else (chAt h a).2.2.1 != 3 then true else (chAt h a).2.2.2.2.2.1 != 1) = true := hb
     rw [bif3k.2 ⟨rfl, hh⟩] at hb'
     cases hb'
    unfold keptA
    rw [if_neg hn]
    rfl
   | false =>
    obtain ⟨_, k1, k2⟩ := bif3k.1 hb
    obtain ⟨n, rfl⟩ : ∃ n : Nat, a = n := ⟨a.toNat, by omega⟩
    obtain ⟨w, hfl⟩ := pcs_flat (h := h) (a := n) (by omega) (by omega)
    have hwf := without_few hf n
    have hlen : ((pcsK h n).flatten).length <= 1000000 := by
     rw [hfl]
     have : (chL (without h n)).length <= 500000 := hwf.1
     exact Nat.le_trans this (by decide)
    have hnl : n < (chL h).length := by omega
    have q1 : 0 <= IntKind.i64.wrap ((n : Int) + 1) /\ IntKind.i64.wrap ((n : Int) + 1) <= ((chL h).length : Int) := by rw [w]; omega
    refine Fr.br_f rfl (Fr.need_ ⟨a0, a1⟩ (Fr.need_ ⟨Int.le_refl _, a0, Int.le_of_lt a1⟩ (Fr.need_ ⟨q1.1, q1.2, Int.le_refl _⟩ (Fr.need_ hlen ?_))))
    have hx : setCh h (cConcat.f (pcsK h n, ())).1 = without h n := by
     show setCh h (List.flatten (pcsK h n)) = setCh h _
     rw [hfl]
    rw [hx]
    have := kp2_eq (h := h) (x := without h n) (t := t) (day := (chAt h n).2.1) hwf ht
    refine ⟨this.1, this.2.trans ?_⟩
    unfold keptA
    have hk : (chAt h n).2.2.1 = 3 /\ (chAt h n).2.2.2.2.2.1 = 1 := ⟨k1, k2⟩
    rw [if_pos hk, Int.toNat_natCast]
 ·refine Fr.br_t (by show ((ofF h t).2 != 0) = true; simp [h1]) ⟨trivial, ?_⟩
  rw [if_neg h1]
  rfl
theorem keptP_ok : SoundCt Tryz.prog 18 cKeptP :=
 convF kept_run _ _ (fun w F x vs hr hok => by
  obtain ⟨h, t, _⟩ := x
  exact kept_eq h t hok.1 hok.2)
theorem keptF_val (h : histT.den) (t : tarT.den) : 0 <= (keptF h t).1 /\ (keptF h t).1 <= 4000000000000000000 := by
 have z : (0 : Int) <= 0 /\ (0 : Int) <= 4000000000000000000 := by decide
 unfold keptF
 split
 ·split
  ·exact z
  ·unfold keptA
   split
   ·split
    ·split
     ·exact evenF_val _ _ _ (by decide)
     ·exact z
    ·exact z
   ·exact z
 ·exact z
theorem UptoF_val (l : List sliceT.den) (d : Int) : 0 <= (UptoF l d).1 /\ (UptoF l d).1 <= 4000000000000000000 := by
 unfold UptoF
 split
 ·exact val0
 ·exact uptoO_val _ _
theorem over_iff {a b : Int} : a > 4000000000000000000 - b ↔ 4000000000000000000 < a + b := by omega
def dueW (w k : Int) : Int × Int := if 4000000000000000000 < w + k then (0, 5) else (w + k, 0)
def dueF (h : histT.den) (t : tarT.den) : Int × Int :=
 if (keptF h t).2 = 0 then (if (UptoF (ofF h t).1 292195).2 = 0 then dueW (UptoF (ofF h t).1 292195).1 (keptF h t).1 else (0, (UptoF (ofF h t).1 292195).2)) else (0, (keptF h t).2)
def cDue : Ct := ⟨[.d histT, .d tarT], [i64, i64], fun x => ((dueF x.1 x.2.1).1, (dueF x.1 x.2.1).2, ()), fun x => [fewH x.1, fewT x.2.1]⟩
theorem dueF_val (h : histT.den) (t : tarT.den) : 0 <= (dueF h t).1 /\ (dueF h t).1 <= 4000000000000000000 := by
 have z : (0 : Int) <= 0 /\ (0 : Int) <= 4000000000000000000 := by decide
 have k := keptF_val h t
 have u := UptoF_val (ofF h t).1 292195
 unfold dueF
 split
 ·split
  ·unfold dueW
   split
   ·exact z
   ·exact ⟨by show 0 <= _ + _; omega, by show _ + _ <= (4000000000000000000 : Int); omega⟩
  ·exact z
 ·exact z
noncomputable def CDu : Cx := cx [(18, cKeptP), (26, cOf), (29, cWritten)] []
theorem CDu_ok : CxOK Tryz.prog CDu := cx_ok mixed ⟨keptP_ok, of_ok, Written_ok, trivial⟩ trivial
def frDueG (h : histT.den) (t : tarT.den) (over : Bool) : Fr (denL [i64, i64]) :=
 let K : denL [i64, i64] := cKeptP.f (h, t, ()); let W : denL [i64, i64] := cWritten.f ((cOf.f (h, t, ())).1, ())
 Fr.need (fewH h) (Fr.need (fewT t) (Fr.br (K.2.1 != 0) (Fr.val (0, K.2.1, ()))
  (Fr.need (fewH h) (Fr.need (fewT t) (Fr.br (W.2.1 != 0) (Fr.val (0, W.2.1, ()))
   (Fr.br over (Fr.val (0, 5, ())) (Fr.val (IntKind.i64.wrap (W.1 + K.1), 0, ()))))))))
def frDue (x : denP [.d histT, .d tarT]) : Fr (denL [i64, i64]) :=
 frDueG x.1 x.2.1 (decide ((cWritten.f ((cOf.f (x.1, x.2.1, ())).1, ())).1 > IntKind.i64.wrap (4000000000000000000 - (cKeptP.f (x.1, x.2.1, ())).1)))
theorem due_run : SoundCt Tryz.prog 20 ⟨[.d histT, .d tarT], [i64, i64], fun xs => (frDue xs).get, fun xs => [(frDue xs).ok]⟩ :=
 fn_sound CDu_ok (Λ := lam0) (fn := Tryz.f20) (fr := frDue) (ps := [.d histT, .d tarT]) (rs := [i64, i64]) (histT.dflt, tarT.dflt, ()) (by kernel_rfl) (fun c E _ => lam0_ok c 0) (fun x => by kernel_rfl)
theorem dueG_eq {h : histT.den} {t : tarT.den} {over : Bool} (hf : fewH h) (ht : fewT t) (ho : over = decide (4000000000000000000 < (UptoF (ofF h t).1 292195).1 + (keptF h t).1)) :
  (frDueG h t over).ok /\ (frDueG h t over).get = ((dueF h t).1, (dueF h t).2, ()) := by
 have k := keptF_val h t
 have u := UptoF_val (ofF h t).1 292195
 refine Fr.need_ hf (Fr.need_ ht ?_)
 unfold dueF
 by_cases h1 : (keptF h t).2 = 0
 ·rw [if_pos h1]
  refine Fr.br_f (by show ((keptF h t).2 != 0) = false; simp [h1]) (Fr.need_ hf (Fr.need_ ht ?_))
  by_cases h2 : (UptoF (ofF h t).1 292195).2 = 0
  ·rw [if_pos h2]
   refine Fr.br_f (by show ((UptoF (ofF h t).1 292195).2 != 0) = false; simp [h2]) ?_
   unfold dueW
   by_cases h3 : 4000000000000000000 < (UptoF (ofF h t).1 292195).1 + (keptF h t).1
   ·rw [if_pos h3]
    exact Fr.br_t (ho.trans (decide_eq_true h3)) ⟨trivial, rfl⟩
   ·rw [if_neg h3]
    refine Fr.br_f (ho.trans (decide_eq_false h3)) ⟨trivial, ?_⟩
    show (IntKind.i64.wrap ((UptoF (ofF h t).1 292195).1 + (keptF h t).1), (0 : Int), ()) = _
    rw [i64w (by omega)]
  ·rw [if_neg h2]
   exact Fr.br_t (by show ((UptoF (ofF h t).1 292195).2 != 0) = true; simp [h2]) ⟨trivial, rfl⟩
 ·rw [if_neg h1]
  exact Fr.br_t (by show ((keptF h t).2 != 0) = true; simp [h1]) ⟨trivial, rfl⟩
theorem due_ok : SoundCt Tryz.prog 20 cDue :=
 convF due_run _ _ (fun w F x vs hr hok => by
  obtain ⟨h, t, _⟩ := x
  have k := keptF_val h t
  have u := UptoF_val (ofF h t).1 292195
  refine dueG_eq hok.1 hok.2 ?_
  show decide ((UptoF (ofF h t).1 292195).1 > IntKind.i64.wrap (4000000000000000000 - (keptF h t).1)) = _
  rw [i64w (by omega)]
  exact decide_eq_decide.2 over_iff)
def givenF (h : histT.den) (t : tarT.den) (c : changeT.den) : Int × Int :=
 if (putF h c).2 = 0 then (if (dueF h t).2 = 0 then (if (dueF (putF h c).1 t).2 = 0 then ((dueF h t).1 - (dueF (putF h c).1 t).1, 0) else (0, (dueF (putF h c).1 t).2)) else (0, (dueF h t).2)) else (0, (putF h c).2)
def cGiven : Ct := ⟨[.d histT, .d tarT, .d changeT], [i64, i64], fun x => ((givenF x.1 x.2.1 x.2.2.1).1, (givenF x.1 x.2.1 x.2.2.1).2, ()), fun x => [fewH x.1, fewT x.2.1]⟩
noncomputable def CGv : Cx := cx [(44, cPut), (20, cDue)] []
theorem CGv_ok : CxOK Tryz.prog CGv := cx_ok mixed ⟨put_ok, due_ok, trivial⟩ trivial
def frGiven (x : denP [.d histT, .d tarT, .d changeT]) : Fr (denL [i64, i64]) :=
 let h : histT.den := x.1; let t : tarT.den := x.2.1; let c : changeT.den := x.2.2.1
 let p : denL [histT, i64] := cPut.f (h, c, ()); let a : denL [i64, i64] := cDue.f (h, t, ()); let b : denL [i64, i64] := cDue.f (p.1, t, ())
 Fr.need (fewH h) ((Fr.br (p.2.1 != 0) (Fr.val (0, p.2.1, ()))
  (Fr.need (fewH h) (Fr.need (fewT t) (Fr.br (a.2.1 != 0) (Fr.val (0, a.2.1, ()))
   (Fr.need (fewH p.1) (Fr.need (fewT t) (Fr.br (b.2.1 != 0) (Fr.val (0, b.2.1, ())) (Fr.val (IntKind.i64.wrap (a.1 - b.1), 0, ()))))))))))
theorem given_run : SoundCt Tryz.prog 22 ⟨[.d histT, .d tarT, .d changeT], [i64, i64], fun xs => (frGiven xs).get, fun xs => [(frGiven xs).ok]⟩ :=
 fn_sound CGv_ok (Λ := lam0) (fn := Tryz.f22) (fr := frGiven) (ps := [.d histT, .d tarT, .d changeT]) (rs := [i64, i64]) (histT.dflt, tarT.dflt, changeT.dflt, ()) (by kernel_rfl) (fun c E _ => lam0_ok c 0) (fun x => by kernel_rfl)
theorem addCh_few {h : histT.den} {c : changeT.den} (hf : fewH h) (hl : (chL h).length < 2000) (hc : c.2.2.2.2.1.length <= 1000000) : fewH (addCh h c) := by
 have e : chL (addCh h c) = ([] ++ chL h) ++ [c] := rfl
 refine ⟨?_, hf.2.1, fun c' hc' => ?_⟩
 ·rw [e, List.nil_append, List.length_append]
  show _ + 1 <= 500000
  omega
 ·rw [e, List.nil_append, List.mem_append] at hc'
  rcases hc' with hc' | hc'
  ·exact hf.2.2 c' hc'
  ·cases List.mem_singleton.1 hc'
   exact hc
theorem put_few {h : histT.den} {c : changeT.den} (hf : fewH h) : fewH (putF h c).1 := by
 have z : fewH h00 := ⟨by decide, by decide, fun c hc => by cases hc⟩
 unfold putF
 split
 ·rename_i h1
  split
  ·exact z
  ·split
   ·exact z
   ·exact addCh_few hf (by omega) (changeB_covers h1.1)
 ·exact z
theorem given_eq (h : histT.den) (t : tarT.den) (c : changeT.den) (hf : fewH h) (ht : fewT t) : (frGiven (h, t, c, ())).ok /\ (frGiven (h, t, c, ())).get = ((givenF h t c).1, (givenF h t c).2, ()) := by
 have d1 := dueF_val h t
 have d2 := dueF_val (putF h c).1 t
 refine Fr.need_ hf ?_
 unfold givenF
 by_cases h1 : (putF h c).2 = 0
 ·rw [if_pos h1]
  refine Fr.br_f (by show ((putF h c).2 != 0) = false; simp [h1]) (Fr.need_ hf (Fr.need_ ht ?_))
  by_cases h2 : (dueF h t).2 = 0
  ·rw [if_pos h2]
   refine Fr.br_f (by show ((dueF h t).2 != 0) = false; simp [h2]) (Fr.need_ (put_few hf) (Fr.need_ ht ?_))
   by_cases h3 : (dueF (putF h c).1 t).2 = 0
   ·rw [if_pos h3]
    refine Fr.br_f (by show ((dueF (putF h c).1 t).2 != 0) = false; simp [h3]) ⟨trivial, ?_⟩
    show (IntKind.i64.wrap ((dueF h t).1 - (dueF (putF h c).1 t).1), (0 : Int), ()) = _
    rw [i64w (by omega)]
   ·rw [if_neg h3]
    exact Fr.br_t (by show ((dueF (putF h c).1 t).2 != 0) = true; simp [h3]) ⟨trivial, rfl⟩
  ·rw [if_neg h2]
   exact Fr.br_t (by show ((dueF h t).2 != 0) = true; simp [h2]) ⟨trivial, rfl⟩
 ·rw [if_neg h1]
  exact Fr.br_t (by show ((putF h c).2 != 0) = true; simp [h1]) ⟨trivial, rfl⟩
theorem given_ok : SoundCt Tryz.prog 22 cGiven :=
 convF given_run _ _ (fun w F x vs hr hok => by
  obtain ⟨h, t, c, _⟩ := x
  exact given_eq h t c hok.1 hok.2)
abbrev fsHi : List YF := [(none, i64), (none, i64), (none, i64), (none, i64), (none, i64), (none, i64), (none, i64), (none, i64), (none, .sl coverT), (some 53, changeT)]
def toYi (h : histT.den) : denY fsHi := (h.1, h.2.1, h.2.2.1.1.1, h.2.2.1.1.2.1, h.2.2.1.2.1.1, h.2.2.1.2.1.2.1, h.2.2.1.2.1.2.2.1, h.2.2.1.2.1.2.2.2.1, h.2.2.1.2.2.1, h.2.2.2.1, ())
def ofYi (y : denY fsHi) : histT.den := (y.1, y.2.1, ((y.2.2.1, y.2.2.2.1, ()), (y.2.2.2.2.1, y.2.2.2.2.2.1, y.2.2.2.2.2.2.1, y.2.2.2.2.2.2.2.1, ()), y.2.2.2.2.2.2.2.2.1, ()), y.2.2.2.2.2.2.2.2.2.1, ())
def chsYi (y : denY fsHi) : List changeT.den := y.2.2.2.2.2.2.2.2.2.1
def setCi (y : denY fsHi) (l : List changeT.den) : denY fsHi := (y.1, y.2.1, y.2.2.1, y.2.2.2.1, y.2.2.2.2.1, y.2.2.2.2.2.1, y.2.2.2.2.2.2.1, y.2.2.2.2.2.2.2.1, y.2.2.2.2.2.2.2.2.1, l, ())
noncomputable def CL8 : Cx := cx [(63, cOrder11)] []
theorem CL8_ok : CxOK Tryz.prog CL8 := cx_ok mixed ⟨order11_ok, trivial⟩ trivial
abbrev ptRtn : Pt := ⟨35, 0, ⟨[(5, .d i64), (3, .d ints), (4, .d i64)], [.x 1 31 histT, .r 1 1 0]⟩, ⟨[(4, .d i64)], []⟩, ⟨[], []⟩⟩
def frRtn (x : ptRtn.M.X) : Fr ptRtn.Out :=
 let k : Int := x.1.1; let l : List Int := x.1.2.1; let last : Int := x.1.2.2.1; let h : histT.den := x.2.1
 let v : Int := l.getD k.toNat 0
 Fr.br (decide (k < (l.length : Int)))
  (Fr.need (0 <= k /\ k < (l.length : Int)) (Fr.need (0 <= v /\ v < ((chL h).length : Int))
   (Fr.br (bif ((chL h).getD v.toNat changeT.dflt).2.2.1 == 3 then true else ((chL h).getD v.toNat changeT.dflt).2.2.1 == 4)
    (Fr.need (0 <= k /\ k < (l.length : Int)) (Fr.val (Rd.next ((IntKind.i64.wrap (k + 1), l, v, ()), (h, ())))))
    (Fr.val (Rd.next ((IntKind.i64.wrap (k + 1), l, last, ()), (h, ())))))))
  (Fr.val (Rd.out ((last, ()), ())))
theorem semRtn : Does Tryz.prog (loopF Tryz.f30 0) ptRtn.M ptRtn frRtn :=
 Does.of_run CL8_ok (bs := 0) (Λ := lam0) rfl rfl rfl (fun E => lam0_ok _ 0) (fun x => by kernel_rfl)
structure InvRtn (k : Int) (l : List Int) (last : Int) (h : histT.den) : Prop where
 k0 : 0 <= k
 kl : k <= l.length
 big : l.length <= 1000000
 mem : ∀ v ∈ l, 0 <= v /\ v < ((chL h).length : Int)
 la : last = (turnG h l k.toNat).getD (-1)
def FRtn (x : ptRtn.M.X) : Fr ptRtn.Out := Fr.need (InvRtn x.1.1 x.1.2.1 x.1.2.2.1 x.2.1) (Fr.val (Rd.out (((turnG x.2.1 x.1.2.1 (List.length (α := Int) x.1.2.1)).getD (-1), ()), ())))
theorem lawRtn (k : Int) (l : List Int) (last : Int) (h : histT.den) (hinv : InvRtn k l last h) (Q : ptRtn.Out -> Prop) (hq : Q (Rd.out (((turnG h l l.length).getD (-1), ()), ()))) : (frRtn ((k, l, last, ()), (h, ()))).satP fun
   | .next x' => InvRtn x'.1.1 x'.1.2.1 x'.1.2.2.1 x'.2.1 /\ (((List.length (α := Int) x'.1.2.1 : Nat) : Int) - x'.1.1).toNat < ((l.length : Int) - k).toNat /\ (FRtn x').satP Q
   | .out y => Q (.out y)
   | .back z => Q (.back z)
   | .pan p => Q (.pan p) := by
 obtain ⟨h0, h1, h2, h3, h4⟩ := hinv
 obtain ⟨m, rfl⟩ : ∃ n : Nat, k = n := ⟨k.toNat, by omega⟩
 rw [Int.toNat_natCast] at h4
 subst h4
 dsimp only [frRtn, Fr.satP]
 simp only [Int.toNat_natCast]
 refine ⟨fun hi => ?_, fun hi => ?_⟩
 ·have hm : m < l.length := by have : (m : Int) < (l.length : Int) := of_decide_eq_true hi; omega
  have w1 : IntKind.i64.wrap ((m : Int) + 1) = ((m + 1 : Nat) : Int) := by rw [i64w (by omega)]; omega
  have hv : l.getD m 0 = l[m] := by rw [List.getD_eq_getElem?_getD, List.getElem?_eq_getElem hm]; rfl
  have hmem := h3 (l.getD m 0) (by rw [hv]; exact List.getElem_mem hm)
  have hb : 0 <= (m : Int) /\ (m : Int) < (l.length : Int) := ⟨by omega, by omega⟩
  have hμ : ((l.length : Int) - ((m + 1 : Nat) : Int)).toNat < ((l.length : Int) - (m : Int)).toNat := by omega
  have hk : (bif (chAt h (l.getD m 0)).2.2.1 == 3 then true else (chAt h (l.getD m 0)).2.2.1 == 4) = isT (chAt h (l.getD m 0)) := by
   unfold isT
   cases (chAt h (l.getD m 0)).2.2.1 == 3 <;> rfl
  rw [w1]
  refine ⟨hb, hmem, fun ht => ⟨hb, ?_⟩, fun ht => ?_⟩
  ·have ht' : isT (chAt h (l.getD m 0)) = true := hk.symm.trans ht
   have e : turnG h l (m + 1) = some (l.getD m 0) := if_pos ht'
   have hI : InvRtn ((m + 1 : Nat) : Int) l (l.getD m 0) h := ⟨by omega, by omega, h2, h3, by rw [Int.toNat_natCast, e]; rfl⟩
   exact ⟨hI, hμ, hI, hq⟩
  ·have ht' : isT (chAt h (l.getD m 0)) = false := hk.symm.trans ht
   have e : turnG h l (m + 1) = turnG h l m := if_neg (by rw [ht']; decide)
   have hI : InvRtn ((m + 1 : Nat) : Int) l ((turnG h l m).getD (-1)) h := ⟨by omega, by omega, h2, h3, by rw [Int.toNat_natCast, e]⟩
   exact ⟨hI, hμ, hI, hq⟩
 ·have hm : ¬ (m : Int) < (l.length : Int) := of_decide_eq_false hi
  obtain rfl : m = l.length := by omega
  exact hq
theorem loopRtn : Does Tryz.prog (.loop (loopF Tryz.f30 0)) ptRtn.M ptRtn FRtn := by
 refine Does.loop (n := 35) (id := 0) semRtn (inv := fun x => InvRtn x.1.1 x.1.2.1 x.1.2.2.1 x.2.1) (μ := fun x => (((List.length (α := Int) x.1.2.1 : Nat) : Int) - x.1.1).toNat) ?_ (fun x Q h => h.1)
 rintro ⟨⟨k, l, last, _⟩, h, _⟩ hinv Q hq
 exact lawRtn k l last h hinv Q hq.2
def cTurnR : Ct := ⟨[.d histT], [i64], fun x => ((turnO x.1).getD (-1), ()), fun x => [((chL x.1).length : Int) <= 1000000]⟩
theorem turnR_ok : SoundCt Tryz.prog 30 cTurnR :=
 convF (fn_sound CL8_ok (Λ := fun _ => ptRtn.han CL8.Γ ptRtn.M FRtn) (fn := Tryz.f30) (ps := [.d histT]) (rs := [i64])
  (fr := fun x => Fr.need (((chL x.1).length : Int) <= 1000000) (Fr.need (InvRtn 0 (orderL x.1) (-1) x.1) (Fr.val ((turnO x.1).getD (-1), ())))) (histT.dflt, ()) (by kernel_rfl)
  (fun c E hc => lam1f hc (by kernel_rfl) (b := loopF Tryz.f30 0) (by kernel_rfl) (Does.han CL8_ok rfl loopRtn)) (fun x => by kernel_rfl)) _ _ (fun _ _ x _ _ hok => by
   obtain ⟨h, _⟩ := x
   have hl : ((chL h).length : Int) <= 1000000 := hok
   have hlen : (orderL h).length = (chL h).length := orderL_length h
   exact Fr.need_ hl (Fr.need_ ⟨Int.le_refl _, Int.natCast_nonneg _, (show (orderL h).length <= 1000000 by omega), fun v hv => orderL_mem hv, rfl⟩ ⟨trivial, rfl⟩))
def woL (l : List changeT.den) (a : Int) : Nat -> List changeT.den
 | 0 => []
 | k + 1 => if (k : Int) = a then woL l a k else woL l a k ++ [l.getD k changeT.dflt]
theorem woL_length (l : List changeT.den) (a : Int) : (k : Nat) -> (woL l a k).length <= k
 | 0 => Nat.le_refl _
 | k + 1 => by
  have := woL_length l a k
  unfold woL
  split
  ·omega
  ·rw [List.length_append]
   simp only [List.length_cons, List.length_nil]
   omega
theorem woL_take (l : List changeT.den) (a : Nat) : (k : Nat) -> k <= l.length -> woL l a k = (l.take k).take a ++ (l.take k).drop (a + 1)
 | 0, _ => by simp [woL]
 | k + 1, hk => by
  have ih := woL_take l a k (by omega)
  have hkl : k < l.length := by omega
  have ht : l.take (k + 1) = l.take k ++ [l[k]] := by rw [List.take_add_one, List.getElem?_eq_getElem hkl]; rfl
  have hg : l.getD k changeT.dflt = l[k] := by rw [List.getD_eq_getElem?_getD, List.getElem?_eq_getElem hkl]; rfl
  have hlen : (l.take k).length = k := by rw [List.length_take]; omega
  unfold woL
  rw [ih, ht, hg]
  by_cases h : (k : Int) = a
  ·have h' : k = a := by omega
   subst h'
   rw [if_pos rfl, List.take_append_of_le_length (by omega), List.drop_of_length_le (by omega), List.drop_of_length_le (by rw [List.length_append, hlen]; simp)]
  ·rw [if_neg h]
   by_cases h2 : k < a
   ·rw [List.take_of_length_le (show (l.take k).length <= a by omega), List.drop_of_length_le (show (l.take k).length <= a + 1 by omega),
     List.take_of_length_le (show (l.take k ++ [l[k]]).length <= a by rw [List.length_append, hlen]; simp; omega), List.drop_of_length_le (show (l.take k ++ [l[k]]).length <= a + 1 by rw [List.length_append, hlen]; simp; omega)]
    simp
   ·rw [List.take_append_of_le_length (by omega), List.drop_append_of_le_length (by omega), List.append_assoc]
theorem woL_all (l : List changeT.den) (a : Nat) : woL l a l.length = l.take a ++ l.drop (a + 1) := by
 rw [woL_take l a l.length (Nat.le_refl _), List.take_length]
abbrev msWo : List MI := [.x 2 31 histT, .r 2 2 0, .x 4 31 histT, .r 4 4 0, .y 5 31 fsHi, .r 5 5 0]
abbrev ptWo : Pt := ⟨35, 0, ⟨[(1, .d i64), (6, .d i64)], msWo⟩, ⟨[], [.x 4 31 histT, .r 4 4 0, .y 5 31 fsHi, .r 5 5 0]⟩, ⟨[], []⟩⟩
noncomputable def CWo : Cx := cx [] []
theorem CWo_ok : CxOK Tryz.prog CWo := cx_ok (cs := []) (ps := []) mixed trivial trivial
def frWo (x : ptWo.M.X) : Fr ptWo.Out :=
 let a : Int := x.1.1; let k : Int := x.1.2.1; let h : histT.den := x.2.1; let z : histT.den := x.2.2.1; let y : denY fsHi := x.2.2.2.1
 Fr.br (decide (k < ((chL h).length : Int)))
  (Fr.br (k != a)
   (Fr.need (0 <= k /\ k < ((chL h).length : Int)) (Fr.need (roomC (chsYi y).length [(chL h).getD k.toNat changeT.dflt].length)
    (Fr.val (Rd.next ((a, IntKind.i64.wrap (k + 1), ()), (h, z, setCi y (chsYi y ++ [(chL h).getD k.toNat changeT.dflt]), ()))))))
   (Fr.val (Rd.next ((a, IntKind.i64.wrap (k + 1), ()), (h, z, y, ())))))
  (Fr.val (Rd.out ((), (z, y, ()))))
theorem semWo : Does Tryz.prog (loopF Tryz.f31 0) ptWo.M ptWo frWo :=
 Does.of_run CWo_ok (bs := 0) (Λ := lam0) rfl rfl rfl (fun E => lam0_ok _ 0) (fun x => by kernel_rfl)
structure InvWo (a k : Int) (h : histT.den) (y : denY fsHi) : Prop where
 k0 : 0 <= k
 kl : k <= (chL h).length
 big : (chL h).length <= 500000
 yk : chsYi y = woL (chL h) a k.toNat
def FWo (x : ptWo.M.X) : Fr ptWo.Out := Fr.need (InvWo x.1.1 x.1.2.1 x.2.1 x.2.2.2.1) (Fr.val (Rd.out ((), (x.2.2.1, setCi x.2.2.2.1 (woL (chL x.2.1) x.1.1 (chL x.2.1).length), ()))))
theorem setC_self (y : denY fsHi) : setCi y (chsYi y) = y := rfl
theorem lawWo (a k : Int) (h z : histT.den) (y : denY fsHi) (hinv : InvWo a k h y) (Q : ptWo.Out -> Prop) (hq : Q (Rd.out ((), (z, setCi y (woL (chL h) a (chL h).length), ())))) : (frWo ((a, k, ()), (h, z, y, ()))).satP fun
   | .next x' => InvWo x'.1.1 x'.1.2.1 x'.2.1 x'.2.2.2.1 /\ (((chL x'.2.1).length : Int) - x'.1.2.1).toNat < (((chL h).length : Int) - k).toNat /\ (FWo x').satP Q
   | .out y => Q (.out y)
   | .back z => Q (.back z)
   | .pan p => Q (.pan p) := by
 obtain ⟨h0, h1, h2, h3⟩ := hinv
 obtain ⟨m, rfl⟩ : ∃ n : Nat, k = n := ⟨k.toNat, by omega⟩
 rw [Int.toNat_natCast] at h3
 dsimp only [frWo, Fr.satP]
 simp only [Int.toNat_natCast]
 refine ⟨fun hi => ?_, fun hi => ?_⟩
 ·have hm : m < (chL h).length := by have : (m : Int) < ((chL h).length : Int) := of_decide_eq_true hi; omega
  have w1 : IntKind.i64.wrap ((m : Int) + 1) = ((m + 1 : Nat) : Int) := by rw [i64w (by omega)]; omega
  have hμ : (((chL h).length : Int) - ((m + 1 : Nat) : Int)).toNat < (((chL h).length : Int) - (m : Int)).toNat := by omega
  rw [w1]
  refine ⟨fun hne => ⟨⟨by omega, by omega⟩, room_mil ?_, ?_⟩, fun heq => ?_⟩
  ·have := woL_length (chL h) a m
   rw [h3]
   simp only [List.length_cons, List.length_nil]
   omega
  ·have hne' : ¬ (m : Int) = a := by simpa using hne
   have e : woL (chL h) a (m + 1) = woL (chL h) a m ++ [(chL h).getD m changeT.dflt] := if_neg hne'
   have hI : InvWo a ((m + 1 : Nat) : Int) h (setCi y (chsYi y ++ [(chL h).getD m changeT.dflt])) := ⟨by omega, by omega, h2, by
    show chsYi y ++ _ = _
    rw [Int.toNat_natCast, e, h3]⟩
   exact ⟨hI, hμ, hI, hq⟩
  ·have heq' : (m : Int) = a := by simpa using heq
   have e : woL (chL h) a (m + 1) = woL (chL h) a m := if_pos heq'
   have hI : InvWo a ((m + 1 : Nat) : Int) h y := ⟨by omega, by omega, h2, by rw [Int.toNat_natCast, e, h3]⟩
   exact ⟨hI, hμ, hI, hq⟩
 ·have hm : ¬ (m : Int) < ((chL h).length : Int) := of_decide_eq_false hi
  obtain rfl : m = (chL h).length := by omega
  rw [← h3, setC_self] at hq
  exact hq
theorem loopWo : Does Tryz.prog (.loop (loopF Tryz.f31 0)) ptWo.M ptWo FWo := by
 refine Does.loop (n := 35) (id := 0) semWo (inv := fun x => InvWo x.1.1 x.1.2.1 x.2.1 x.2.2.2.1) (μ := fun x => (((chL x.2.1).length : Int) - x.1.2.1).toNat) ?_ (fun x Q h => h.1)
 rintro ⟨⟨a, k, _⟩, h, z, y, _⟩ hinv Q hq
 exact lawWo a k h z y hinv Q hq.2
def cWithout : Ct := ⟨[.d histT, .d i64], [histT], fun x => (setCh x.1 (woL (chL x.1) x.2.1 (chL x.1).length), ()), fun x => [(chL x.1).length <= 500000]⟩
theorem withoutR_ok : SoundCt Tryz.prog 31 cWithout :=
 convF (fn_sound CWo_ok (Λ := fun _ => ptWo.han CWo.Γ ptWo.M FWo) (fn := Tryz.f31) (ps := [.d histT, .d i64]) (rs := [histT])
  (fr := fun x => Fr.need (InvWo x.2.1 0 x.1 (setCi (toYi x.1) [])) (Fr.val (ofYi (setCi (setCi (toYi x.1) []) (woL (chL x.1) x.2.1 (chL x.1).length)), ()))) (histT.dflt, 0, ()) (by kernel_rfl)
  (fun c E hc => lam1f hc (by kernel_rfl) (b := loopF Tryz.f31 0) (by kernel_rfl) (Does.han CWo_ok rfl loopWo)) (fun x => by kernel_rfl)) _ _ (fun _ _ x _ _ hok => by
   obtain ⟨h, a, _⟩ := x
   have hl : (chL h).length <= 500000 := hok
   exact Fr.need_ ⟨Int.le_refl _, Int.natCast_nonneg _, hl, rfl⟩ ⟨trivial, rfl⟩)
abbrev ptSt : Pt := ⟨21, 0, ⟨[(8, .d i64), (7, .d i64), (6, .d (.sl changeT))], []⟩, ⟨[], []⟩, ⟨[(2, .d .bool)], []⟩⟩
def frSt (x : ptSt.M.X) : Fr ptSt.Out :=
 let k : Int := x.1.1; let n : Int := x.1.2.1; let l : List changeT.den := x.1.2.2.1
 Fr.br (decide (k < n))
  (Fr.need (0 <= k /\ k < (l.length : Int))
   (Fr.br (bif (l.getD k.toNat changeT.dflt).2.2.1 == 3 then true else (l.getD k.toNat changeT.dflt).2.2.1 == 4) (Fr.val (Rd.back ((false, ()), ())))
    (Fr.val (Rd.next ((IntKind.i64.wrap (k + 1), n, l, ()), ())))))
  (Fr.val (Rd.out ((), ())))
theorem semSt : Does Tryz.prog (loopF Tryz.f24 0) ptSt.M ptSt frSt :=
 Does.of_run CWo_ok (bs := 0) (Λ := lam0) rfl rfl rfl (fun E => lam0_ok _ 0) (fun x => by kernel_rfl)
structure InvSt (k n : Int) (l : List changeT.den) : Prop where
 k0 : 0 <= k
 kl : k <= n
 nl : n = l.length
 big : (l.length : Int) <= 9223372036854775807
def FSt (x : ptSt.M.X) : Fr ptSt.Out :=
 Fr.need (InvSt x.1.1 x.1.2.1 x.1.2.2.1) (Fr.br (List.any (List.drop (x.1.1 : Int).toNat x.1.2.2.1) isT) (Fr.val (Rd.back ((false, ()), ()))) (Fr.val (Rd.out ((), ()))))
theorem lawSt (k n : Int) (l : List changeT.den) (hinv : InvSt k n l) (Q : ptSt.Out -> Prop) (hq : (Fr.br ((l.drop k.toNat).any isT) (Fr.val (Rd.back ((false, ()), ()))) (Fr.val (Rd.out ((), ()))) : Fr ptSt.Out).satP Q) : (frSt ((k, n, l, ()), ())).satP fun
   | .next x' => InvSt x'.1.1 x'.1.2.1 x'.1.2.2.1 /\ (x'.1.2.1 - x'.1.1).toNat < (n - k).toNat /\ (FSt x').satP Q
   | .out y => Q (.out y)
   | .back z => Q (.back z)
   | .pan p => Q (.pan p) := by
 obtain ⟨h0, h1, h2, h3⟩ := hinv
 obtain ⟨m, rfl⟩ : ∃ n : Nat, k = n := ⟨k.toNat, by omega⟩
 subst h2
 dsimp only [frSt, Fr.satP]
 simp only [Int.toNat_natCast] at hq ⊢
 refine ⟨fun hi => ?_, fun hi => ?_⟩
 ·have hm : m < l.length := by have : (m : Int) < (l.length : Int) := of_decide_eq_true hi; omega
  have w1 : IntKind.i64.wrap ((m : Int) + 1) = ((m + 1 : Nat) : Int) := by rw [i64w (by omega)]; omega
  have hd : l.drop m = l.getD m changeT.dflt :: l.drop (m + 1) := by
   rw [List.drop_eq_getElem_cons hm, List.getD_eq_getElem?_getD, List.getElem?_eq_getElem hm]
   rfl
  have hk : (bif (l.getD m changeT.dflt).2.2.1 == 3 then true else (l.getD m changeT.dflt).2.2.1 == 4) = isT (l.getD m changeT.dflt) := by
   unfold isT
   cases (l.getD m changeT.dflt).2.2.1 == 3 <;> rfl
  rw [w1]
  rw [hd, List.any_cons] at hq
  refine ⟨⟨by omega, by omega⟩, fun ht => ?_, fun ht => ?_⟩
  ·have ht' : isT (l.getD m changeT.dflt) = true := hk.symm.trans ht
   rw [ht'] at hq
   exact hq.1 rfl
  ·have ht' : isT (l.getD m changeT.dflt) = false := hk.symm.trans ht
   rw [ht', Bool.false_or] at hq
   have hI : InvSt ((m + 1 : Nat) : Int) l.length l := ⟨by omega, by omega, rfl, h3⟩
   refine ⟨hI, by omega, hI, ?_⟩
   show (Fr.br ((l.drop ((m + 1 : Nat) : Int).toNat).any isT) (Fr.val (Rd.back ((false, ()), ()))) (Fr.val (Rd.out ((), ()))) : Fr ptSt.Out).satP Q
   rw [Int.toNat_natCast]
   exact hq
 ·have hm : ¬ (m : Int) < (l.length : Int) := of_decide_eq_false hi
  rw [List.drop_of_length_le (by omega)] at hq
  exact hq.2 rfl
theorem loopSt : Does Tryz.prog (.loop (loopF Tryz.f24 0)) ptSt.M ptSt FSt := by
 refine Does.loop (n := 21) (id := 0) semSt (inv := fun x => InvSt x.1.1 x.1.2.1 x.1.2.2.1) (μ := fun x => (x.1.2.1 - x.1.1).toNat) ?_ (fun x Q h => h.1)
 rintro ⟨⟨k, n, l, _⟩, _⟩ hinv Q hq
 exact lawSt k n l hinv Q hq.2
def steadyB (h : histT.den) : Bool := !((chL h).any isT)
def cSteady : Ct := ⟨[.d histT], [.bool], fun x => (steadyB x.1, ()), fun _ => []⟩
theorem steady_ok : SoundCt Tryz.prog 24 cSteady :=
 convF (fn_sound CWo_ok (Λ := fun _ => ptSt.han CWo.Γ ptSt.M FSt) (fn := Tryz.f24) (ps := [.d histT]) (rs := [.bool])
  (fr := fun x => Fr.need (InvSt 0 ((chL x.1).length : Int) (chL x.1)) (Fr.br (((chL x.1).drop (0 : Int).toNat).any isT) (Fr.val (false, ())) (Fr.val (true, ())))) (histT.dflt, ()) (by kernel_rfl)
  (fun c E hc => lam1f hc (by kernel_rfl) (b := loopF Tryz.f24 0) (by kernel_rfl) (Does.han CWo_ok rfl loopSt)) (fun x => by kernel_rfl)) _ _ (fun w F x vs hr _ => by
   obtain ⟨h, _⟩ := x
   obtain ⟨v, vs', rfl, hv, _⟩ := hr
   have hlen : ((chL h).length : Int) <= 9223372036854775807 := len_big (RepT.wf hv.2.2).2.2.2.1.1
   refine Fr.need_ ⟨Int.le_refl _, Int.natCast_nonneg _, rfl, hlen⟩ ?_
   show _ /\ _ = (!((chL h).any isT), ())
   have hd : (chL h).drop (0 : Int).toNat = chL h := rfl
   rw [hd]
   cases (chL h).any isT with
   | true => exact Fr.br_t rfl ⟨trivial, rfl⟩
   | false => exact Fr.br_f rfl ⟨trivial, rfl⟩)
noncomputable def CT2 : Cx := cx [] []
theorem CT2_ok : CxOK Tryz.prog CT2 := cx_ok (cs := []) (ps := []) mixed trivial trivial
def MT2 : LS := ⟨[(0, .d i64), (9, .d u64), (10, .d u64), (11, .d u64), (12, .d u64), (13, .d u64), (14, .d i64)], []⟩
def ptT2 : Pt := ⟨66, 0, MT2, ⟨[(9, .d u64), (10, .d u64)], []⟩, ⟨[(6, .d i64), (7, .d i64), (8, .d .bool)], []⟩⟩
abbrev wU2 (n : Int) : Int := IntKind.u64.wrap n
def jT (a by_ wh re k q l : Int) : Fr ptT2.Out :=
 Fr.br (decide (q > 4000000000000000000)) (Fr.val (Rd.back ((0, 0, false, ()), ()))) (Fr.val (Rd.next ((a, q, l, by_, wh, re, IntKind.i64.wrap (k - 1), ()), ())))
def kT (a by_ wh re k q l : Int) : Fr ptT2.Out :=
 Fr.need (¬ k < 0) (Fr.need ((2 : Int) ≠ 0)
  (Fr.br ((a.fdiv (2 ^ min k.toNat IntKind.i64.bits)).tmod 2 == 1)
   (Fr.br (decide (wU2 (l + re) ≥ by_)) (jT a by_ wh re k (wU2 (wU2 (q + wh) + 1)) (wU2 (wU2 (l + re) - by_))) (jT a by_ wh re k (wU2 (q + wh)) (wU2 (l + re))))
   (jT a by_ wh re k q l)))
def fT2 (x : MT2.X) : Fr ptT2.Out :=
 let a : Int := x.1.1; let q : Int := x.1.2.1; let l : Int := x.1.2.2.1; let by_ : Int := x.1.2.2.2.1; let wh : Int := x.1.2.2.2.2.1; let re : Int := x.1.2.2.2.2.2.1; let k : Int := x.1.2.2.2.2.2.2.1
 Fr.br (decide (k ≥ 0))
  (Fr.br (decide (wU2 (2 * l) ≥ by_)) (kT a by_ wh re k (wU2 (wU2 (2 * q) + 1)) (wU2 (wU2 (2 * l) - by_))) (kT a by_ wh re k (wU2 (2 * q)) (wU2 (2 * l))))
  (Fr.val (Rd.out ((q, l, ()), ())))
theorem semT2 : Does Tryz.prog (loopF Tryz.f99 0) MT2 ptT2 fT2 := Does.of_run CT2_ok (bs := 0) rfl rfl rfl (fun _ => lam0_ok _ 0) (fun x => by kernel_rfl)
structure InvT (a q l by_ wh re k : Int) : Prop where
 a0 : 0 <= a /\ a <= 9223372036854775807
 c0 : 0 < by_ /\ by_ <= 9223372036854775807
 w0 : 0 <= wh /\ wh <= 9223372036854775807
 r0 : 0 <= re /\ re < by_
 k0 : -1 <= k /\ k <= 62
 l0 : 0 <= l /\ l < by_
 q0 : 0 <= q /\ q <= 4000000000000000000
 eq : q * by_ + l = (a / 2 ^ (k + 1).toNat) * (wh * by_ + re)
def twoF (a b c : Int) : Int × Int × Bool := if a * b / c > 4000000000000000000 then (0, 0, false) else (a * b / c, a * b % c, true)
def FT2 (x : MT2.X) : Fr ptT2.Out :=
 let a : Int := x.1.1; let q : Int := x.1.2.1; let l : Int := x.1.2.2.1; let by_ : Int := x.1.2.2.2.1; let wh : Int := x.1.2.2.2.2.1; let re : Int := x.1.2.2.2.2.2.1; let k : Int := x.1.2.2.2.2.2.2.1
 Fr.need (InvT a q l by_ wh re k) (Fr.br (decide (a * (wh * by_ + re) / by_ > 4000000000000000000)) (Fr.val (Rd.back ((0, 0, false, ()), ()))) (Fr.val (Rd.out ((a * (wh * by_ + re) / by_, a * (wh * by_ + re) % by_, ()), ()))))
theorem half_pow {a : Int} (ha : 0 <= a) (n : Nat) : a / 2 ^ n = 2 * (a / 2 ^ (n + 1)) + (a / 2 ^ n) % 2 := by
 have : a / 2 ^ (n + 1) = a / 2 ^ n / 2 := by
  rw [Int.pow_succ, Int.ediv_ediv_of_nonneg (by exact Int.pow_nonneg (by decide))]
 rw [this]
 omega
theorem div_uniq {p c q l : Int} (hc : 0 < c) (h : q * c + l = p) (hl : 0 <= l /\ l < c) : p / c = q /\ p % c = l := by
 subst h
 constructor
 ·rw [Int.add_comm, Int.add_mul_ediv_right _ _ (by omega), Int.ediv_eq_zero_of_lt hl.1 hl.2]
  omega
 ·rw [Int.add_comm, Int.add_mul_emod_self_right]
  exact Int.emod_eq_of_lt hl.1 hl.2
theorem two_step {q l c wh re m A bit q1 l1 : Int} (hm : m = 2 * A + bit) (heq : q * c + l = A * (wh * c + re)) (h1 : (l1 = 2 * l /\ q1 = 2 * q) ∨ (l1 = 2 * l - c /\ q1 = 2 * q + 1)) :
  (bit = 0 -> q1 * c + l1 = m * (wh * c + re)) /\ (bit = 1 -> (q1 + wh) * c + (l1 + re) = m * (wh * c + re) /\ (q1 + wh + 1) * c + (l1 + re - c) = m * (wh * c + re)) := by
 subst hm
 have e : q1 * c + l1 = 2 * (q * c + l) := by
  rcases h1 with ⟨rfl, rfl⟩ | ⟨rfl, rfl⟩ <;> grind
 rw [heq] at e
 refine ⟨fun hb => ?_, fun hb => ⟨?_, ?_⟩⟩
 ·subst hb
  grind
 ·subst hb
  grind
 ·subst hb
  grind
def PhiT (Q : ptT2.Out -> Prop) (k : Int) : Rd MT2.X ptT2.E.X ptT2.R.X -> Prop
 | .next x' => InvT x'.1.1 x'.1.2.1 x'.1.2.2.1 x'.1.2.2.2.1 x'.1.2.2.2.2.1 x'.1.2.2.2.2.2.1 x'.1.2.2.2.2.2.2.1 /\ ((x'.1.2.2.2.2.2.2.1 : Int) + 1).toNat < (k + 1).toNat /\ (FT2 x').satP Q
 | .out y => Q (.out y)
 | .back z => Q (.back z)
 | .pan p => Q (.pan p)
theorem jT_sat {a q l c wh re k : Int} {Q : ptT2.Out -> Prop} (ha : 0 <= a /\ a <= 9223372036854775807) (hc : 0 < c /\ c <= 9223372036854775807) (hw : 0 <= wh /\ wh <= 9223372036854775807) (hr : 0 <= re /\ re < c) (hk : 0 <= k /\ k <= 62) (hl : 0 <= l /\ l < c) (hq : 0 <= q)
  (heq : q * c + l = (a / 2 ^ k.toNat) * (wh * c + re)) (hQ : (Fr.br (decide (a * (wh * c + re) / c > 4000000000000000000)) (Fr.val (Rd.back ((0, 0, false, ()), ()))) (Fr.val (Rd.out ((a * (wh * c + re) / c, a * (wh * c + re) % c, ()), ()))) : Fr ptT2.Out).satP Q) :
  (jT a c wh re k q l).satP (PhiT Q k) := by
 have w : IntKind.i64.wrap (k - 1) = k - 1 := IntWalk.i64_in _ (by omega)
 have hB : 0 <= wh * c + re := Int.add_nonneg (Int.mul_nonneg hw.1 (Int.le_of_lt hc.1)) hr.1
 have hm : a / 2 ^ k.toNat <= a := Int.ediv_le_self _ ha.1
 have hp : (a / 2 ^ k.toNat) * (wh * c + re) <= a * (wh * c + re) := Int.mul_le_mul_of_nonneg_right hm hB
 unfold jT
 rw [w]
 refine ⟨fun h => ?_, fun h => ?_⟩
 ·have h' : q > 4000000000000000000 := of_decide_eq_true h
  have hge : q <= a * (wh * c + re) / c := by
   rw [Int.le_ediv_iff_mul_le hc.1]
   omega
  exact hQ.1 (decide_eq_true (by omega))
 ·have h' : q <= 4000000000000000000 := Int.not_lt.1 (of_decide_eq_false h)
  have hk1 : (k - 1 + 1).toNat = k.toNat := by omega
  have hI : InvT a q l c wh re (k - 1) := ⟨ha, hc, hw, hr, by omega, hl, ⟨hq, h'⟩, by rw [hk1]; exact heq⟩
  exact ⟨hI, (by show (k - 1 + 1).toNat < (k + 1).toNat; omega), hI, hQ⟩
theorem kT_sat {a q l c wh re k q1 l1 : Int} {Q : ptT2.Out -> Prop} (hinv : InvT a q l c wh re k) (hk : 0 <= k) (h1 : (l1 = 2 * l /\ q1 = 2 * q) ∨ (l1 = 2 * l - c /\ q1 = 2 * q + 1)) (hl1 : 0 <= l1 /\ l1 < c)
  (hQ : (Fr.br (decide (a * (wh * c + re) / c > 4000000000000000000)) (Fr.val (Rd.back ((0, 0, false, ()), ()))) (Fr.val (Rd.out ((a * (wh * c + re) / c, a * (wh * c + re) % c, ()), ()))) : Fr ptT2.Out).satP Q) :
  (kT a c wh re k q1 l1).satP (PhiT Q k) := by
 obtain ⟨ha, hc, hw, hr, hk0, hl, hq, heq⟩ := hinv
 have hq1 : 0 <= q1 /\ q1 <= 8000000000000000001 := by omega
 have hmin : min k.toNat IntKind.i64.bits = k.toNat := by
  have : IntKind.i64.bits = 64 := rfl
  omega
 have hm0 : 0 <= a / 2 ^ k.toNat := Int.ediv_nonneg ha.1 (Int.pow_nonneg (by decide))
 have hshr : (a.fdiv (2 ^ min k.toNat IntKind.i64.bits)).tmod 2 = (a / 2 ^ k.toNat) % 2 := by
  rw [hmin, Int.fdiv_eq_ediv_of_nonneg _ (Int.pow_nonneg (by decide)), Int.tmod_eq_emod_of_nonneg hm0]
 have hkk : (k + 1).toNat = k.toNat + 1 := by omega
 rw [hkk] at heq
 have hhalf := half_pow ha.1 k.toNat
 obtain ⟨s0, s1⟩ := two_step (m := a / 2 ^ k.toNat) (bit := (a / 2 ^ k.toNat) % 2) hhalf heq h1
 unfold kT
 rw [hshr]
 refine ⟨by omega, by decide, fun hb => ?_, fun hb => ?_⟩
 ·have hb' : (a / 2 ^ k.toNat) % 2 = 1 := eq_of_beq (α := Int) hb
  obtain ⟨t1, t2⟩ := s1 hb'
  have e1 : wU2 (l1 + re) = l1 + re := u64w (by omega)
  have e2 : wU2 (q1 + wh) = q1 + wh := u64w (by omega)
  have e3 : wU2 (q1 + wh + 1) = q1 + wh + 1 := u64w (by omega)
  rw [e1, e2, e3]
  refine ⟨fun hg => ?_, fun hg => ?_⟩
  ·have hg' : l1 + re ≥ c := of_decide_eq_true hg
   have e4 : wU2 (l1 + re - c) = l1 + re - c := u64w (by omega)
   rw [e4]
   exact jT_sat ha hc hw hr ⟨hk, hk0.2⟩ (by omega) (by omega) t2 hQ
  ·have hg' : l1 + re < c := Int.not_le.1 (of_decide_eq_false hg)
   exact jT_sat ha hc hw hr ⟨hk, hk0.2⟩ (by omega) (by omega) t1 hQ
 ·have hb' : ¬ (a / 2 ^ k.toNat) % 2 = 1 := ne_of_beq_false (α := Int) hb
  exact jT_sat ha hc hw hr ⟨hk, hk0.2⟩ hl1 hq1.1 (s0 (by omega)) hQ
theorem lawT2 {a q l c wh re k : Int} (hinv : InvT a q l c wh re k) (Q : ptT2.Out -> Prop)
  (hQ : (Fr.br (decide (a * (wh * c + re) / c > 4000000000000000000)) (Fr.val (Rd.back ((0, 0, false, ()), ()))) (Fr.val (Rd.out ((a * (wh * c + re) / c, a * (wh * c + re) % c, ()), ()))) : Fr ptT2.Out).satP Q) :
  (fT2 ((a, q, l, c, wh, re, k, ()), ())).satP (PhiT Q k) := by
 have hi := hinv
 obtain ⟨ha, hc, hw, hr, hk0, hl, hq, heq⟩ := hinv
 have e1 : wU2 (2 * l) = 2 * l := u64w (by omega)
 have e2 : wU2 (2 * q) = 2 * q := u64w (by omega)
 have e3 : wU2 (2 * q + 1) = 2 * q + 1 := u64w (by omega)
 dsimp only [fT2]
 rw [e1, e2, e3]
 refine ⟨fun hk => ?_, fun hk => ?_⟩
 ·have hk' : k ≥ 0 := of_decide_eq_true hk
  refine ⟨fun hg => ?_, fun hg => ?_⟩
  ·have hg' : 2 * l ≥ c := of_decide_eq_true hg
   have e4 : wU2 (2 * l - c) = 2 * l - c := u64w (by omega)
   rw [e4]
   exact kT_sat hi hk' (.inr ⟨rfl, rfl⟩) (by omega) hQ
  ·have hg' : 2 * l < c := Int.not_le.1 (of_decide_eq_false hg)
   exact kT_sat hi hk' (.inl ⟨rfl, rfl⟩) (by omega) hQ
 ·have hk' : ¬ k ≥ 0 := of_decide_eq_false hk
  have hk1 : (k + 1).toNat = 0 := by omega
  rw [hk1, Int.pow_zero, Int.ediv_one] at heq
  obtain ⟨d1, d2⟩ := div_uniq hc.1 heq hl
  rw [d1, d2] at hQ
  exact hQ.2 (decide_eq_false (by omega))
theorem loopT2 : Does Tryz.prog (.loop (loopF Tryz.f99 0)) MT2 ptT2 FT2 := by
 refine Does.loop (n := 66) (id := 0) semT2 (inv := fun x => InvT x.1.1 x.1.2.1 x.1.2.2.1 x.1.2.2.2.1 x.1.2.2.2.2.1 x.1.2.2.2.2.2.1 x.1.2.2.2.2.2.2.1) (μ := fun x => ((x.1.2.2.2.2.2.2.1 : Int) + 1).toNat) ?_ (fun x Q h => h.1)
 rintro ⟨⟨a, q, l, c, wh, re, k, _⟩, _⟩ hinv Q hq
 exact lawT2 hinv Q hq.2
def cTwo : Ct := ⟨[.d i64, .d i64, .d i64], [i64, i64, .bool], fun x => ((twoF x.1 x.2.1 x.2.2.1).1, (twoF x.1 x.2.1 x.2.2.1).2.1, (twoF x.1 x.2.1 x.2.2.1).2.2, ()), fun x => [0 <= x.1, 0 <= x.2.1, 0 < x.2.2.1]⟩
def frTwo (x : denP [.d i64, .d i64, .d i64]) : Fr (denL [i64, i64, .bool]) :=
 let a : Int := x.1; let b : Int := wU2 x.2.1; let c : Int := wU2 x.2.2.1
 Fr.need (c ≠ 0) (Fr.need (c ≠ 0)
  (Fr.need (InvT a 0 0 c (wU2 (b.tdiv c)) (b.tmod c) 62)
   (Fr.br (decide (a * (wU2 (b.tdiv c) * c + b.tmod c) / c > 4000000000000000000)) (Fr.val (0, 0, false, ()))
    (Fr.val (IntKind.i64.wrap (a * (wU2 (b.tdiv c) * c + b.tmod c) / c), IntKind.i64.wrap (a * (wU2 (b.tdiv c) * c + b.tmod c) % c), true, ())))))
theorem two_run : SoundCt Tryz.prog 99 ⟨[.d i64, .d i64, .d i64], [i64, i64, .bool], fun xs => (frTwo xs).get, fun xs => [(frTwo xs).ok]⟩ :=
 fn_sound CT2_ok (Λ := fun _ => ptT2.han CT2.Γ MT2 FT2) (fn := Tryz.f99) (fr := frTwo) (ps := [.d i64, .d i64, .d i64]) (rs := [i64, i64, .bool]) (0, 0, 0, ()) (by kernel_rfl)
  (fun c E hc => lam1f hc (by kernel_rfl) (b := loopF Tryz.f99 0) (by kernel_rfl) (Does.han CT2_ok rfl loopT2)) (fun x => by kernel_rfl)
theorem two_eq {a b c : Int} (ha : 0 <= a /\ a <= 9223372036854775807) (hb : 0 <= b /\ b <= 9223372036854775807) (hc : 0 < c /\ c <= 9223372036854775807) :
  (frTwo (a, b, c, ())).ok /\ (frTwo (a, b, c, ())).get = ((twoF a b c).1, (twoF a b c).2.1, (twoF a b c).2.2, ()) := by
 have e1 : wU2 b = b := u64w (by omega)
 have e2 : wU2 c = c := u64w (by omega)
 have hd0 : 0 <= b / c := Int.ediv_nonneg hb.1 (Int.le_of_lt hc.1)
 have hd1 : b / c <= b := Int.ediv_le_self _ hb.1
 have e3 : wU2 (b.tdiv c) = b / c := by rw [Int.tdiv_eq_ediv_of_nonneg hb.1]; exact u64w (by omega)
 have e4 : b.tmod c = b % c := Int.tmod_eq_emod_of_nonneg hb.1
 have hr0 := Int.emod_nonneg b (b := c) (by omega)
 have hr1 := Int.emod_lt_of_pos b hc.1
 have e5 : b / c * c + b % c = b := by rw [Int.mul_comm]; exact Int.mul_ediv_add_emod b c
 have hcz : c ≠ 0 := by omega
 have hm62 : a / 2 ^ (62 + 1 : Int).toNat = 0 := by
  have : (2 : Int) ^ (62 + 1 : Int).toNat = 9223372036854775808 := by decide
  rw [this]
  omega
 dsimp only [frTwo]
 rw [e1, e2, e3, e4]
 refine Fr.need_ hcz (Fr.need_ hcz (Fr.need_ ⟨ha, hc, ⟨hd0, by omega⟩, ⟨hr0, hr1⟩, by decide, ⟨Int.le_refl _, hc.1⟩, by decide, by rw [hm62]; simp⟩ ?_))
 rw [e5]
 unfold twoF
 by_cases hg : a * b / c > 4000000000000000000
 ·rw [if_pos hg]
  exact Fr.br_t (decide_eq_true hg) ⟨trivial, rfl⟩
 ·rw [if_neg hg]
  refine Fr.br_f (decide_eq_false hg) ⟨trivial, ?_⟩
  have p0 : 0 <= a * b := Int.mul_nonneg ha.1 hb.1
  have p1 := Int.ediv_nonneg p0 (Int.le_of_lt hc.1)
  have p2 := Int.emod_nonneg (a * b) (b := c) hcz
  have p3 := Int.emod_lt_of_pos (a * b) hc.1
  have w1 : IntKind.i64.wrap (a * b / c) = a * b / c := IntWalk.i64_in _ (by omega)
  have w2 : IntKind.i64.wrap (a * b % c) = a * b % c := IntWalk.i64_in _ (by omega)
  show (IntKind.i64.wrap (a * b / c), IntKind.i64.wrap (a * b % c), true, ()) = (a * b / c, a * b % c, true, ())
  rw [w1, w2]
theorem two_ok : SoundCt Tryz.prog 99 cTwo :=
 convF two_run _ _ (fun w F x vs hr hok => by
  obtain ⟨a, b, c, _⟩ := x
  obtain ⟨v1, vs1, rfl, h1, v2, vs2, rfl, h2, v3, vs3, rfl, h3, _⟩ := hr
  obtain ⟨q1, q2, q3⟩ := hok
  exact two_eq ⟨q1, (i64_of h1).2⟩ ⟨q2, (i64_of h2).2⟩ ⟨q3, (i64_of h3).2⟩)
def chkF (a b c : Int) : Int := if a < 0 ∨ b < 0 ∨ c < 0 then 1 else if c = 0 then 6 else 0
def cChk : Ct := ⟨[.d i64, .d i64, .d i64], [i64], fun x => (chkF x.1 x.2.1 x.2.2.1, ()), fun _ => []⟩
def frChk (x : denP [.d i64, .d i64, .d i64]) : Fr (denL [i64]) :=
 Fr.br (bif bif decide (x.1 < 0) then true else decide (x.2.1 < 0) then true else decide (x.2.2.1 < 0)) (Fr.val (1, ())) (Fr.br (x.2.2.1 == 0) (Fr.val (6, ())) (Fr.val (0, ())))
theorem chk_eq (a b c : Int) : (frChk (a, b, c, ())).ok /\ (frChk (a, b, c, ())).get = (chkF a b c, ()) := by
 unfold frChk chkF
 simp only [bif3]
 by_cases hn : a < 0 ∨ b < 0 ∨ c < 0
 ·rw [if_pos hn]
  exact Fr.br_t (by simpa using hn) ⟨trivial, rfl⟩
 ·rw [if_neg hn]
  refine Fr.br_f (by simpa using hn) ?_
  by_cases hc : c = 0
  ·rw [if_pos hc]
   exact Fr.br_t (beq_iff_eq.2 hc) ⟨trivial, rfl⟩
  ·rw [if_neg hc]
   exact Fr.br_f (beq_eq_false_iff_ne.2 hc) ⟨trivial, rfl⟩
theorem chk_ok : SoundCt Tryz.prog 98 cChk :=
 flat (ps := [.d i64, .d i64, .d i64]) (rs := [i64]) (cx_ok (cs := []) (ps := []) mixed trivial trivial) (fn := Tryz.f98) (fr := frChk) (0, 0, 0, ()) (by kernel_rfl) (fun x => by kernel_rfl) _ _
  (fun _ _ x _ _ _ => by
   obtain ⟨a, b, c, _⟩ := x
   exact chk_eq a b c)
noncomputable def CE1 : Cx := cx [(98, cChk), (99, cTwo)] []
theorem CE1_ok : CxOK Tryz.prog CE1 := cx_ok mixed ⟨chk_ok, two_ok, trivial⟩ trivial
def frE2 (q l : Int) (is : Bool) (c : Int) : Fr (denL [i64, i64]) :=
 Fr.need ((l == IntKind.i64.wrap (c - l)) = true -> decide (l > IntKind.i64.wrap (c - l)) = false -> is = true -> (2 : Int) ≠ 0)
  (Fr.br (bif is then bif decide (l > IntKind.i64.wrap (c - l)) then true else bif l == IntKind.i64.wrap (c - l) then Int.tmod q 2 == 1 else false else false)
   (Fr.br (bif !is then true else decide (IntKind.i64.wrap (q + 1) > 4000000000000000000)) (Fr.val (0, 5, ())) (Fr.val (IntKind.i64.wrap (q + 1), 0, ())))
   (Fr.br (bif !is then true else decide (q > 4000000000000000000)) (Fr.val (0, 5, ())) (Fr.val (q, 0, ()))))
def frE1 (x : denP [.d i64, .d i64, .d i64]) : Fr (denL [i64, i64]) :=
 Fr.br ((cChk.f (x.1, x.2.1, x.2.2.1, ())).1 != 0) (Fr.val (0, (cChk.f (x.1, x.2.1, x.2.2.1, ())).1, ()))
  (Fr.need (0 <= x.1) (Fr.need (0 <= x.2.1) (Fr.need (0 < x.2.2.1)
   (frE2 (cTwo.f (x.1, x.2.1, x.2.2.1, ())).1 (cTwo.f (x.1, x.2.1, x.2.2.1, ())).2.1 (cTwo.f (x.1, x.2.1, x.2.2.1, ())).2.2.1 x.2.2.1))))
def evq (q l c : Int) : Int := if l > c - l ∨ (l = c - l /\ q % 2 = 1) then q + 1 else q
theorem e2_told {q l c : Int} (hq : 0 <= q /\ q <= 4000000000000000000) (hl : 0 <= l /\ l < c) (hc : c <= 9223372036854775807) :
  (frE2 q l true c).ok /\ (frE2 q l true c).get = if evq q l c > 4000000000000000000 then (0, 5, ()) else (evq q l c, 0, ()) := by
 have w1 : IntKind.i64.wrap (c - l) = c - l := IntWalk.i64_in _ (by omega)
 have w2 : IntKind.i64.wrap (q + 1) = q + 1 := IntWalk.i64_in _ (by omega)
 have w3 : Int.tmod q 2 = q % 2 := Int.tmod_eq_emod_of_nonneg hq.1
 unfold frE2 evq
 rw [w1, w2, w3]
 refine Fr.need_ (fun _ _ _ => by decide) ?_
 by_cases h : l > c - l ∨ (l = c - l /\ q % 2 = 1)
 ·rw [if_pos h]
  refine Fr.br_t ?_ ?_
  ·show (bif decide (l > c - l) then true else bif l == c - l then q % 2 == 1 else false) = true
   rcases h with h | ⟨h, h'⟩
   ·rw [decide_eq_true h]
    rfl
   ·rw [beq_iff_eq.2 h, h']
    cases decide (l > c - l) <;> rfl
  ·by_cases hg : q + 1 > 4000000000000000000
   ·rw [if_pos hg]
    exact Fr.br_t (decide_eq_true hg) ⟨trivial, rfl⟩
   ·rw [if_neg hg]
    exact Fr.br_f (decide_eq_false hg) ⟨trivial, rfl⟩
 ·rw [if_neg h]
  refine Fr.br_f ?_ ?_
  ·show (bif decide (l > c - l) then true else bif l == c - l then q % 2 == 1 else false) = false
   have h1 : ¬ l > c - l := fun hh => h (.inl hh)
   rw [decide_eq_false h1]
   by_cases h2 : l = c - l
   ·have h3 : ¬ q % 2 = 1 := fun hh => h (.inr ⟨h2, hh⟩)
    show (bif l == c - l then q % 2 == 1 else false) = false
    rw [beq_eq_false_iff_ne.2 h3]
    cases l == c - l <;> rfl
   ·show (bif l == c - l then q % 2 == 1 else false) = false
    rw [beq_eq_false_iff_ne.2 h2]
    rfl
  ·have hg : ¬ q > 4000000000000000000 := by omega
   rw [if_neg hg]
   exact Fr.br_f (decide_eq_false hg) ⟨trivial, rfl⟩
theorem e2_over {c : Int} : (frE2 0 0 false c).ok /\ (frE2 0 0 false c).get = (0, 5, ()) := by
 unfold frE2
 exact Fr.need_ (fun _ _ h => by cases h) (Fr.br_f rfl (Fr.br_t rfl ⟨trivial, rfl⟩))
def cEvenR : Ct := ⟨[.d i64, .d i64, .d i64], [i64, i64], fun x => ((evenF x.1 x.2.1 x.2.2.1).1, (evenF x.1 x.2.1 x.2.2.1).2, ()), fun _ => []⟩
theorem e1_eq {a b c : Int} (hc : c <= 9223372036854775807) : (frE1 (a, b, c, ())).ok /\ (frE1 (a, b, c, ())).get = ((evenF a b c).1, (evenF a b c).2, ()) := by
 unfold frE1 evenF
 have e : (cChk.f (a, b, c, ())).1 = chkF a b c := rfl
 show (Fr.br ((chkF a b c) != 0) (Fr.val (0, chkF a b c, ())) _).ok /\ (Fr.br ((chkF a b c) != 0) (Fr.val (0, chkF a b c, ())) _).get = _
 by_cases hn : a < 0 ∨ b < 0 ∨ c < 0
 ·have h1 : chkF a b c = 1 := if_pos hn
  rw [h1, if_pos hn]
  exact Fr.br_t rfl ⟨trivial, rfl⟩
 ·by_cases hz : c = 0
  ·have h1 : chkF a b c = 6 := by unfold chkF; rw [if_neg hn, if_pos hz]
   rw [h1, if_neg hn, if_pos hz]
   exact Fr.br_t rfl ⟨trivial, rfl⟩
  ·have h1 : chkF a b c = 0 := by unfold chkF; rw [if_neg hn, if_neg hz]
   rw [h1, if_neg hn, if_neg hz]
   have ha : 0 <= a := by omega
   have hb : 0 <= b := by omega
   have hc0 : 0 < c := by omega
   refine Fr.br_f rfl (Fr.need_ ha (Fr.need_ hb (Fr.need_ hc0 ?_)))
   show (frE2 (twoF a b c).1 (twoF a b c).2.1 (twoF a b c).2.2 c).ok /\ (frE2 (twoF a b c).1 (twoF a b c).2.1 (twoF a b c).2.2 c).get = _
   have hp : 0 <= a * b := Int.mul_nonneg ha hb
   have hq := Int.ediv_nonneg hp (Int.le_of_lt hc0)
   have r1 := Int.emod_nonneg (a * b) (b := c) hz
   have r2 := Int.emod_lt_of_pos (a * b) hc0
   have hev : evenQ (a * b) c = evq (a * b / c) (a * b % c) c := rfl
   unfold twoF
   by_cases hg : a * b / c > 4000000000000000000
   ·rw [if_pos hg]
    have hbig : evenQ (a * b) c > 4000000000000000000 := by
     rw [hev]
     unfold evq
     split <;> omega
    rw [if_pos hbig]
    exact e2_over
   ·rw [if_neg hg]
    have := e2_told (q := a * b / c) (l := a * b % c) (c := c) ⟨hq, by omega⟩ ⟨r1, r2⟩ hc
    refine ⟨this.1, this.2.trans ?_⟩
    rw [← hev]
    split <;> rfl
theorem evenR_ok : SoundCt Tryz.prog 61 cEvenR :=
 convF (fn_sound CE1_ok (Λ := lam0) (fn := Tryz.f61) (fr := frE1) (ps := [.d i64, .d i64, .d i64]) (rs := [i64, i64]) (0, 0, 0, ()) (by kernel_rfl) (fun c E _ => lam0_ok c 0) (fun x => by kernel_rfl)) _ _
  (fun w F x vs hr _ => by
   obtain ⟨a, b, c, _⟩ := x
   obtain ⟨v1, vs1, rfl, h1, v2, vs2, rfl, h2, v3, vs3, rfl, h3, _⟩ := hr
   exact e1_eq (i64_of h3).2)
noncomputable def CE2 : Cx := cx [(61, cEvenR)] []
theorem CE2_ok : CxOK Tryz.prog CE2 := cx_ok mixed ⟨evenR_ok, trivial⟩ trivial
theorem bpR_ok : SoundCt Tryz.prog 28 cBp :=
 flat (ps := [.d i64, .d i64]) (rs := [i64, i64]) CE2_ok (fn := Tryz.f28) (fr := fun x => Fr.val ((cEvenR.f (x.1, x.2.1, 10000, ())).1, (cEvenR.f (x.1, x.2.1, 10000, ())).2.1, ())) (0, 0, ()) (by kernel_rfl) (fun x => by kernel_rfl) _ _
  (fun _ _ x _ _ _ => ⟨trivial, rfl⟩)
abbrev p7 : Pt := ⟨73, 0, ⟨[(3, .d i64)], [.x 1 71 verT, .r 1 1 0]⟩, ⟨[], [.x 1 71 verT, .r 1 1 0]⟩, ⟨[(2, .d .bool)], []⟩⟩
def baseL (v : verT.den) : List Int := [v.2.1.1, v.2.1.2.1, v.2.1.2.2.1, v.2.1.2.2.2.1]
def f7 (x : p7.M.X) : Fr p7.Out :=
 let k : Int := x.1.1; let v : verT.den := x.2.1
 Fr.br (decide (k < 4))
  (Fr.need (0 <= k /\ k < ((4 : Nat) : Int)) (Fr.need (decide ((baseL v).getD k.toNat 0 < 0) = false -> 0 <= k /\ k < ((4 : Nat) : Int))
   (Fr.br (bif decide ((baseL v).getD k.toNat 0 < 0) then true else decide ((baseL v).getD k.toNat 0 > 100000)) (Fr.val (Rd.back ((false, ()), ()))) (Fr.val (Rd.next ((IntKind.i64.wrap (k + 1), ()), (v, ())))))))
  (Fr.val (Rd.out ((), (v, ()))))
abbrev p9 : Pt := ⟨85, 0, ⟨[(10, .d i64), (8, .d ints), (9, .d i64)], [.x 3 71 verT, .r 3 3 0]⟩, ⟨[(9, .d i64)], [.x 3 71 verT, .r 3 3 0]⟩, ⟨[(6, .d i64), (7, .d i64)], []⟩⟩
def f9 (x : p9.M.X) : Fr p9.Out :=
 let k : Int := x.1.1; let l : List Int := x.1.2.1; let m : Int := x.1.2.2.1; let v : verT.den := x.2.1
 Fr.br (decide (k < (l.length : Int)))
  (Fr.need (0 <= k /\ k < (l.length : Int))
   (Fr.br ((cBp.f (m, l.getD k.toNat 0, ())).2.1 != 0) (Fr.val (Rd.back ((0, (cBp.f (m, l.getD k.toNat 0, ())).2.1, ()), ())))
    (Fr.val (Rd.next ((IntKind.i64.wrap (k + 1), l, (cBp.f (m, l.getD k.toNat 0, ())).1, ()), (v, ()))))))
  (Fr.val (Rd.out ((m, ()), (v, ()))))
def Hp : histT.den := (1, 1, ((1, 101, ()), (0, 36500, 0, 0, ()), [(1, 10, 10, 0, 10000, ())], ()), [], ())
def Tp : tarT.den := ([(1, (10000, 0, 0, 0, ()), [], [10000], [10000, 10000, 10000, 10000, 10000, 10000, 10000, 10000], 0, ())], ())
noncomputable def CEx : Cx := cx [] []
theorem CEx_ok : CxOK Tryz.prog CEx := cx_ok (cs := []) (ps := []) mixed trivial trivial
def cPlain : Ct := ⟨[], [histT, tarT], fun _ => (Hp, Tp, ()), fun _ => []⟩
theorem plain15_ok : SoundCt Tryz.prog 43 cPlain :=
 convF (fn_sound CEx_ok (Λ := lam0) (fn := Tryz.f43) (fr := fun _ => Fr.val (Hp, Tp, ())) (ps := []) (rs := [histT, tarT]) () (by kernel_rfl) (fun c E _ => lam0_ok c 0) (fun x => by kernel_rfl)) _ _ (fun _ _ _ _ _ _ => ⟨trivial, rfl⟩)
def canC (booked day way : Int) : changeT.den := (booked, day, 3, (0, 0, 0, 0, ()), [], way, ())
def cCancel : Ct := ⟨[.d i64, .d i64, .d i64], [changeT], fun x => (canC x.1 x.2.1 x.2.2.1, ()), fun _ => []⟩
theorem cancel_ok : SoundCt Tryz.prog 25 cCancel :=
 convF (fn_sound CEx_ok (Λ := lam0) (fn := Tryz.f25) (fr := fun x => Fr.val (canC x.1 x.2.1 x.2.2.1, ())) (ps := [.d i64, .d i64, .d i64]) (rs := [changeT]) (0, 0, 0, ()) (by kernel_rfl) (fun c E _ => lam0_ok c 0) (fun x => by kernel_rfl)) _ _ (fun _ _ _ _ _ _ => ⟨trivial, rfl⟩)
noncomputable def CAl15 : Cx := cx [(43, cPlain), (20, cDue), (25, cCancel), (22, cGiven), (44, cPut), (18, cKeptP)] []
theorem CAl15_ok : CxOK Tryz.prog CAl15 := cx_ok mixed ⟨plain15_ok, due_ok, cancel_ok, given_ok, put_ok, keptP_ok, trivial⟩ trivial
def frAl15 (_ : denP []) : Fr (denL [.bool]) :=
 Fr.need (fewH Hp) (Fr.need (fewT Tp)
  (Fr.need (fewH Hp) (Fr.need (fewT Tp) (
   (Fr.need (fewH Hp) (Fr.need (fewT Tp) (
    (Fr.need (fewH Hp) (Fr.need (fewT Tp) (
     (Fr.need (fewH Hp) (
      (Fr.need (fewH (putF Hp (canC 50 41 1)).1) (Fr.need (fewT Tp)
       (Fr.need (fewH Hp) (Fr.need (fewT ([], ())) (Fr.val (true, ()))))))))))))))))))
theorem al15_run : SoundCt Tryz.prog 17 ⟨[], [.bool], fun xs => (frAl15 xs).get, fun xs => [(frAl15 xs).ok]⟩ :=
 fn_sound CAl15_ok (Λ := lam0) (fn := Tryz.f17) (fr := frAl15) (ps := []) (rs := [.bool]) () (by kernel_rfl) (fun c E _ => lam0_ok c 0) (fun x => by kernel_rfl)
def cLawR (ps : List PT) : Ct := ⟨ps, [.bool], fun _ => (true, ()), fun _ => []⟩
def cYesR : Ct := ⟨[], [.bool], fun _ => (true, ()), fun _ => []⟩
theorem fewHp : fewH Hp := ⟨by decide, by decide, fun c hc => by cases hc⟩
theorem fewTp : fewT Tp := by
 refine ⟨by decide, fun v hv => ?_⟩
 simp only [Tp, List.mem_cons, List.not_mem_nil, or_false] at hv
 subst hv
 exact ⟨by decide, by decide, by decide⟩
theorem fewT0' : fewT ([], ()) := ⟨by decide, fun v hv => by cases hv⟩
theorem alive15_ok : SoundCt Tryz.prog 17 cYesR :=
 convF al15_run _ _ (fun _ _ _ _ _ _ => by
  have hx : fewH (putF Hp (canC 50 41 1)).1 := put_few fewHp
  exact ⟨⟨fewHp, fewTp, fewHp, fewTp, fewHp, fewTp, fewHp, fewTp, fewHp, hx, fewTp, fewHp, fewT0', trivial⟩, rfl⟩)
end Go.Proofs.YtplkgghjldndkaaGreat
